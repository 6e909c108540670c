/- The walks, further. -/
import Derived.Test.YtommbnkecafodaaPWalk
set_option linter.unusedVariables false
set_option autoImplicit false
namespace Go.Proofs.Ytommbnkecafodaa
open Go Go.RowKit Go.Gv

open Go.Proofs
set_option maxRecDepth 8000
set_option maxHeartbeats 4000000
theorem impl_colSums_w (x : List (List Int)) (Q : (List Int) → Prop) (H : impl_colSums x Q) (w : World) {vx : Value} {hx : PH} (r : RS hx vx x) (ex : Sub hx w) :
  CallsTo Try.prog 78 #[vx] w fun v w' => ∃ aU aV aK, Q aU ∧ v = aV ∧ Ext w w' ∧ OS 3 aK emp aV aU ∧ Sub aK w' ∧ Fresh w.heap.size aK := by
 obtain ⟨a, c, rfl⟩ := r.shape
 refine enter (args := [sl a x c]) 36 Try.func78 rfl rfl rfl ?_
 refine Wo [(0, sl a x c)] ⟨rfl, trivial⟩ fun ρ => ?_
 have X := Br emp w
 refine Wq (Wg (Lv ok 0 [(2, .slice none 0 0)] 1 rfl rfl (Ln _ rfl (Wq (Wg (Lv ok 0 [(8, sl a x c)] 1 rfl rfl ?_))))))
 obtain ⟨aA, hi, a4, H⟩ := H
 refine Li 1 rfl rfl rfl Try.underlying23 ti_22 rfl rfl r hi a4 fun bU cs a5 d => (Lo 2 rfl rfl rfl ti_22 ag_22 rfl a5 d ex fun bV a6 => ?_)
 have a7 := a6.slice
 obtain ⟨bW, bX, rfl⟩ := a7.shape
 refine Lv ok 3 [(11, I (ln aA))] 4 rfl rfl ?_
 obtain ⟨hn, hb, H⟩ := H
 refine LP_make (α := Int) 4 rfl rfl rfl Try.underlying22 ti_3 (x0 := (0 : Int)) rfl rfl hn (by first | omega | (simp only [ln] at *; omega)) (by first | omega | (simp only [ln] at *; omega)) fun aI bY wx aL o a8 f => ?_
 obtain ⟨aB, aC, rfl⟩ := o.shape
 refine Lv ok 5 [(3, .slice aB (List.length (List.replicate (Int.toNat (ln aA)) ((0 : Int)))) aC)] 6 rfl rfl (Ln _ rfl (Wq (Wq (Wg (Lv ok 0 [(13, sl a x c), (14, I (ln x)), (15, I 0)] 3 rfl rfl (Ln _ rfl (W_block ?_)))))))
 obtain ⟨J, m, Hx, H⟩ := H
 refine W_loop (S := (List Int) × Int) (fun s ρ' w' => J s.1 s.2 ∧ ∃ (ρ : Env) (aD : PH), ρ' = setAll [(3, .slice aB (List.length (List.replicate (Int.toNat (ln aA)) ((0 : Int)))) aC), (13, sl a x c), (14, I (ln x)), (15, I s.2)] ρ ∧ But aI wx w' ∧ OS 3 aD emp (.slice aB (List.length (List.replicate (Int.toNat (ln aA)) ((0 : Int)))) aC) s.1 ∧ Sub aD w' ∧ DomLe aI wx.heap.size aD) (fun s => m s.1 s.2) (List.replicate (Int.toNat (ln aA)) ((0 : Int)), 0) ⟨Hx, _, aI, Ee ⟨rfl, rfl, rfl, rfl, trivial⟩, (Br _ _), o, a8, (Oe (Or _) _)⟩ ?_
 rintro ⟨sums, aF⟩ _ aM ⟨Hi, ρ, aD, rfl, X23, aW, aX, aN⟩
 have H := H sums aF Hi
 refine Wq (Wg (Lv ok 0 [(16, .bool (decide (aF < (ln x))))] 1 rfl rfl (Ln _ rfl (Wq ?_))))
 refine Wc (decide (aF < (ln x))) rfl (fun hc => ?_) (fun hc => ?_)
 ·have H := H.1 hc
  refine Wk (Wq (W_block (Wq (Wg ?_))))
  obtain ⟨aG, a9, bA, H⟩ := H
  refine Li 0 rfl rfl rfl Try.underlying23 ti_22 rfl rfl r a9 bA fun bZ b0 bB bC => ?_
  have aY := ((ex.ext aL).but X23 (Df ex f).symm)
  refine Lo 1 rfl rfl rfl ti_22 ag_22 rfl bB bC aY fun b1 bD => ?_
  have aZ := bD.slice
  obtain ⟨aO, aP, rfl⟩ := aZ.shape
  refine Lv ok 2 [(5, sl aO aG aP)] 3 rfl rfl (Ln _ rfl (Wq (Wg (Lv ok 0 [(19, sl aO aG aP), (20, I (ln aG)), (21, I 0)] 3 rfl rfl (Ln _ rfl (W_block ?_))))))
  obtain ⟨J46, bE, Hx48, H⟩ := H
  refine W_loop (S := (List Int) × Int) (fun s ρ' w' => J46 s.1 s.2 ∧ ∃ (ρ : Env) (aH : PH), ρ' = setAll [(3, .slice aB (List.length (List.replicate (Int.toNat (ln aA)) ((0 : Int)))) aC), (13, sl a x c), (14, I (ln x)), (15, I aF), (19, sl aO aG aP), (20, I (ln aG)), (21, I s.2)] ρ ∧ But aD aM w' ∧ OS 3 aH emp (.slice aB (List.length (List.replicate (Int.toNat (ln aA)) ((0 : Int)))) aC) s.1 ∧ Sub aH w' ∧ DomLe aD aM.heap.size aH) (fun s => bE s.1 s.2) (sums, 0) ⟨Hx48, _, aD, Ee ⟨rfl, rfl, rfl, rfl, rfl, rfl, rfl, trivial⟩, (Br _ _), aW, aX, (Oe (Or _) _)⟩ ?_
  rintro ⟨aQ, aE⟩ _ b2 ⟨Hi, ρ, aH, rfl, X45, aR, aS, a0⟩
  have H := H aQ aE Hi
  refine Wq (Wg (Lv ok 0 [(22, .bool (decide (aE < (ln aG))))] 1 rfl rfl (Ln _ rfl (Wq ?_))))
  refine Wc (decide (aE < (ln aG))) rfl (fun aT => ?_) (fun aT => ?_)
  ·have H := H.1 aT
   refine Wk (Wq (W_block (Wq (Wg (Lv ok 0 [(23, I aE)] 1 rfl rfl ?_)))))
   obtain ⟨aJ, bF, bG, H⟩ := H
   refine Li 1 rfl rfl rfl Try.underlying22 ti_3 rfl rfl aZ bF bG fun b3 b4 bH bI => ?_
   have dj := (Mj aN (Df ex f).symm (ex.ext aL))
   refine Lo 2 rfl rfl rfl ti_3 ag_3 rfl bH bI (aY.but X45 dj) fun b5 bJ => ?_
   obtain rfl := bJ.int
   refine Lv ok 3 [(6, I aE), (7, I aJ)] 5 rfl rfl (Ln _ rfl (Wg (Lv ok 0 [(26, .slice aB (List.length (List.replicate (Int.toNat (ln aA)) ((0 : Int)))) aC), (27, I aE)] 2 rfl rfl ?_)))
   obtain ⟨a1, bK, bL, H⟩ := H
   refine Li 2 rfl rfl rfl Try.underlying22 ti_3 rfl rfl aR.readf bK bL fun b6 b7 bM bN => (Lo 3 rfl rfl rfl ti_3 ag_3 rfl bM bN aS fun b8 bO => ?_)
   obtain rfl := bO.int
   refine Lv ok 4 [(30, I aJ), (31, I (wr (a1 + aJ)))] 6 rfl rfl ?_
   obtain ⟨bP, hl, H⟩ := H
   refine LP_indexw (v := .slice aB (List.length (List.replicate (Int.toNat (ln aA)) ((0 : Int)))) aC) 6 rfl rfl rfl Try.underlying22 ti_3 rfl rfl aR bP hl fun b9 wa => (LP_set 7 rfl rfl rfl rfl rfl wa (Le.refl emp) ⟨_, rfl, rfl⟩ aS fun bQ cA bR bS y dm => (Ln _ rfl (Wg (Lv ok 0 [(33, I (wr (aE + 1))), (21, I (wr (aE + 1)))] 2 rfl rfl (Ln _ rfl ?_)))))
   have dl : DomLe aD aM.heap.size aH := (Mt (Oe (Or _) _) a0 (Nat.le_refl _))
   exact ⟨(List.set aQ (Int.toNat aE) (wr (a1 + aJ)), wr (aE + 1)), ⟨H.1, _, bQ, Ee ⟨rfl, rfl, rfl, rfl, rfl, rfl, rfl, trivial⟩, (((Br aD _).step X45 (Oe (Or _) _)).step y dl), bR, bS, (Mt dl (dm _) X45.size)⟩, H.2⟩
  have H := H.2 aT
  refine W_exit ?_
  refine (if_pos rfl).mpr ?_
  refine Wg (Lv ok 0 [(34, I (wr (aF + 1))), (15, I (wr (aF + 1)))] 2 rfl rfl (Ln _ rfl ?_))
  have a2 : DomLe aI wx.heap.size aD := (Mt (Oe (Or _) _) aN (Nat.le_refl _))
  exact ⟨(aQ, wr (aF + 1)), ⟨H.1, _, aH, Ee ⟨rfl, rfl, rfl, rfl, trivial⟩, (((Br aI _).step X23 (Oe (Or _) _)).step X45 a2), aR, aS, (Mt a2 a0 X23.size)⟩, H.2⟩
 have H := H.2 hc
 refine W_exit ?_
 refine (if_pos rfl).mpr ?_
 refine Wq (Wg (Lv ok 0 [(35, .slice aB (List.length (List.replicate (Int.toNat (ln aA)) ((0 : Int)))) aC), (2, .slice aB (List.length (List.replicate (Int.toNat (ln aA)) ((0 : Int)))) aC)] 2 rfl rfl (Ln _ rfl (W_ret ?_))))
 have a3 := f.mono X.size
 have X82 := (X.stepx aL)
 have bT := DomLe.fresh aN a3 X82.size
 exact ⟨_, Ret_of [.slice aB (List.length (List.replicate (Int.toNat (ln aA)) ((0 : Int)))) aC] ⟨⟨rfl, rfl⟩, trivial⟩, _, _, _, H, rfl, (X82.step X23 (a3.dom _)).ext, aW, aX, bT⟩

theorem slices_Clone_int_int_w (sx : List Int) (Q : (List Int) → Prop) (H : slices_Clone_int_int sx Q) (w : World) {vx : Value} {hx : PH} (r : RS hx vx sx) (ex : Sub hx w) :
  CallsTo Try.prog 101 #[vx] w fun v w' => ∃ aB aC aA, Q aB ∧ v = aC ∧ Ext w w' ∧ OS 3 aA emp aC aB ∧ Sub aA w' ∧ Fresh w.heap.size aA := by
 obtain ⟨a, c, rfl⟩ := r.shape
 refine enter (args := [sl a sx c]) 8 Try.func101 rfl rfl rfl ?_
 refine Wo [(0, sl a sx c)] ⟨rfl, trivial⟩ fun ρ => ?_
 have X := Br emp w
 refine Wq (Wg (Lv ok 0 [(2, .slice none 0 0)] 1 rfl rfl (Ln _ rfl (Wq (Wq (Wg (Lv ok 0 [(3, sl a sx c)] 1 rfl rfl (LP_val 1 _ rfl rfl (ex_eqnil rfl Try.underlying22 rfl rfl _) ?_))))))))
 have H := H _ (nil_of r)
 refine Ln _ rfl ?_
 refine Wc (Option.isNone a) rfl (fun hc => ?_) (fun hc => ?_)
 ·have H := H.1 hc
  refine Wq (Wg (Lv ok 0 [(2, .slice none 0 0)] 1 rfl rfl (Ln _ rfl (W_ret ?_))))
  exact ⟨_, Ret_of [.slice none 0 0] ⟨⟨rfl, rfl⟩, trivial⟩, _, _, emp, H, rfl, X.ext, OS.nil, (emp_sub _), (emp_fresh _)⟩
 have H := H.2 hc
 refine Wk (Wq (Wg (LP_lit (α := Int) (g := emp) 0 (vs := []) (xs := []) rfl rfl rfl Try.underlying22 ti_3 rfl rfl trivial rfl rfl fun aK aL wx x o aH f => ?_)))
 obtain ⟨aM, aN, rfl⟩ := o.shape
 refine Lv ok 1 [(6, sl a sx c)] 2 rfl rfl ?_
 obtain ⟨hb, H⟩ := H
 refine LP_appendf (α := Int) 2 rfl rfl rfl Try.underlying22 ti_3 rfl rfl rfl o aH r (ex.ext x) (by first | omega | (simp only [ln] at *; omega)) (by first | omega | (simp only [ln] at *; omega)) fun aO aP aQ aD aI y dm => ?_
 obtain ⟨aE, aF, rfl⟩ := aD.shape
 refine Lv ok 3 [(2, .slice aE (List.length ((([] : List Int)) ++ sx)) aF)] 4 rfl rfl (Ln _ rfl (W_ret ?_))
 have aG := f.mono X.size
 have X16 := (X.stepx x)
 have aJ := dm.fresh aG X16.size
 exact ⟨_, Ret_of [.slice aE (List.length ((([] : List Int)) ++ sx)) aF] ⟨⟨rfl, rfl⟩, trivial⟩, _, _, _, H, rfl, (X16.step y (aG.dom _)).ext, aD, aI, aJ⟩

theorem impl_copyMatrix_w (x : List (List Int)) (Q : (List (List Int)) → Prop) (H : impl_copyMatrix x Q) (w : World) {vx : Value} {hx : PH} (r : RS hx vx x) (ex : Sub hx w) :
  CallsTo Try.prog 79 #[vx] w fun v w' => ∃ aF aG aH, Q aF ∧ v = aG ∧ Ext w w' ∧ OD aH aG aF ∧ Sub aH w' ∧ Fresh w.heap.size aH ∧ CanV aG aF := by
 obtain ⟨a, c, rfl⟩ := r.shape
 refine enter (args := [sl a x c]) 23 Try.func79 rfl rfl rfl ?_
 refine Wo [(0, sl a x c)] ⟨rfl, trivial⟩ fun ρ => ?_
 have X := Br emp w
 refine Wq (Wg (Lv ok 0 [(2, .slice none 0 0)] 1 rfl rfl (Ln _ rfl (Wq (Wg (Lv ok 0 [(6, sl a x c), (7, I (ln x))] 2 rfl rfl ?_))))))
 obtain ⟨hn, hb, H⟩ := H
 refine LP_maked (β := Int) 2 rfl rfl rfl Try.underlying23 ti_22 rfl hn (by first | omega | (simp only [ln] at *; omega)) (by first | omega | (simp only [ln] at *; omega)) fun aD a7 wx aJ o aW f => ?_
 obtain ⟨aB, aC, rfl⟩ := o.shape
 refine Lv ok 3 [(3, .slice aB (List.length (List.replicate (Int.toNat (ln x)) (([] : List Int)))) aC)] 4 rfl rfl (Ln _ rfl (Wq (Wq (Wg (Lv ok 0 [(9, sl a x c), (10, I (ln x)), (11, I 0)] 3 rfl rfl (Ln _ rfl (W_block ?_)))))))
 obtain ⟨hz, H⟩ := H
 obtain ⟨J, m, Hx, H⟩ := H
 refine W_loop (S := (List (List Int)) × Int) (fun s ρ' w' => J s.1 s.2 ∧ ∃ (ρ : Env) (aE : PH), ρ' = setAll [(3, .slice aB (List.length (List.replicate (Int.toNat (ln x)) (([] : List Int)))) aC), (9, sl a x c), (10, I (ln x)), (11, I s.2)] ρ ∧ But aD wx w' ∧ OD aE (.slice aB (List.length (List.replicate (Int.toNat (ln x)) (([] : List Int)))) aC) s.1 ∧ Sub aE w' ∧ DomLe aD wx.heap.size aE ∧ CanV (.slice aB (List.length (List.replicate (Int.toNat (ln x)) (([] : List Int)))) aC) s.1) (fun s => m s.1 s.2) (List.replicate (Int.toNat (ln x)) (([] : List Int)), 0) ⟨Hx, _, aD, Ee ⟨rfl, rfl, rfl, rfl, trivial⟩, (Br _ _), o, aW, (Oe (Or _) _), (can_of o.readf hz)⟩ ?_
 rintro ⟨out, aA⟩ _ aX ⟨Hi, ρ, aE, rfl, HF⟩
 revert HF
 refine bb5 fun X14 aK aI aL cn => ?_
 have H := H out aA Hi
 refine Wq (Wg (Lv ok 0 [(12, .bool (decide (aA < (ln x))))] 1 rfl rfl (Ln _ rfl (Wq ?_))))
 refine Wc (decide (aA < (ln x))) rfl (fun hc => ?_) (fun hc => ?_)
 ·have H := H.1 hc
  refine Wk (Wq (W_block (Wq (Wg (Lv ok 0 [(13, I aA)] 1 rfl rfl ?_)))))
  obtain ⟨aM, hi, aY, H⟩ := H
  refine Li 1 rfl rfl rfl Try.underlying23 ti_22 rfl rfl r hi aY fun a8 cs aZ d => ?_
  have aN := ((ex.ext aJ).but X14 (Df ex f).symm)
  refine Lo 2 rfl rfl rfl ti_22 ag_22 rfl aZ d aN fun a9 a0 => ?_
  have aO := a0.slice
  obtain ⟨aP, aQ, rfl⟩ := aO.shape
  refine Lv ok 3 [(4, I aA), (5, sl aP aM aQ)] 5 rfl rfl (Ln _ rfl (Wg (Lv ok 0 [(16, .slice aB (List.length (List.replicate (Int.toNat (ln x)) (([] : List Int)))) aC), (17, I aA), (18, sl aP aM aQ)] 3 rfl rfl (Lc 3 rfl rfl rfl cal_101 rfl (slices_Clone_int_int_w _ _ H aX aO aN) ?_))))
  rintro _ bA ⟨aR, bB, bC, H, rfl, aS, aT, a1, aU⟩
  obtain ⟨bD, bE, rfl⟩ := aT.shape
  obtain ⟨a2, hl, H⟩ := H
  refine LP_indexd (v := .slice aB (List.length (List.replicate (Int.toNat (ln x)) (([] : List Int)))) aC) 4 rfl rfl rfl Try.underlying23 ti_22 rfl rfl aK a2 hl fun bF wa => (LP_setD (y := aR) 5 rfl rfl rfl rfl rfl wa (OD.rvo (OS.od aT)) (aI.ext aS) a1 (Df aI aU) fun a3 hw bG a4 a5 y dh dq bH => (Ln _ rfl (Wg (Lv ok 0 [(21, I (wr (aA + 1))), (11, I (wr (aA + 1)))] 2 rfl rfl ?_))))
  refine Ln _ rfl ?_
  have dl : DomLe aD wx.heap.size aE := (Mt (Oe (Or _) _) aL (Nat.le_refl _))
  exact ⟨(List.set out (Int.toNat aA) aR, wr (aA + 1)), ⟨H.1, _, a3, Ee ⟨rfl, rfl, rfl, rfl, trivial⟩, ((((Br aD _).step X14 (Oe (Or _) _)).stepx aS).step (But.dom y dh) dl), a4, a5, (Mt (Mu dl ((aU.mono X14.size).dom _)) (Oe dq _) (Nat.le_refl _)), (CanV.len (by simp) cn)⟩, H.2⟩
 have H := H.2 hc
 refine W_exit ?_
 refine (if_pos rfl).mpr ?_
 refine Wq (Wg (Lv ok 0 [(22, .slice aB (List.length (List.replicate (Int.toNat (ln x)) (([] : List Int)))) aC), (2, .slice aB (List.length (List.replicate (Int.toNat (ln x)) (([] : List Int)))) aC)] 2 rfl rfl (Ln _ rfl (W_ret ?_))))
 have aV := f.mono X.size
 have X47 := (X.stepx aJ)
 have a6 := DomLe.fresh aL aV X47.size
 exact ⟨_, Ret_of [.slice aB (List.length (List.replicate (Int.toNat (ln x)) (([] : List Int)))) aC] ⟨⟨rfl, rfl⟩, trivial⟩, _, _, _, H, rfl, (X47.step X14 (aV.dom _)).ext, aK, aI, a6, cn⟩

theorem impl_attackNetwork_w (x : List (List Int)) (p : List (List Int)) (Q : Transport → Prop) (H : impl_attackNetwork x p Q) (w : World) {vx : Value} {hx : PH} (r : RS hx vx x) (ex : Sub hx w) {cZ : Value} {bM : PH} (c0 : RS bM cZ p) (b5 : Sub bM w) :
  CallsTo Try.prog 42 #[vx, cZ] w fun v w' => ∃ bE u0_0 g0_0 u0_1 g0_1 u0_2 g0_2 u0_3 g0_3, Q bE ∧ v = .agg #[u0_0, u0_1, u0_2, u0_3] ∧ Ext w w' ∧ OS 3 g0_0 emp u0_0 bE.Rows ∧ Sub g0_0 w' ∧ Fresh w.heap.size g0_0 ∧ OS 3 g0_1 emp u0_1 bE.Cols ∧ Sub g0_1 w' ∧ Fresh w.heap.size g0_1 ∧ OD g0_2 u0_2 bE.Lo ∧ Sub g0_2 w' ∧ Fresh w.heap.size g0_2 ∧ OD g0_3 u0_3 bE.Hi ∧ Sub g0_3 w' ∧ Fresh w.heap.size g0_3 ∧ Dj g0_0 g0_1 ∧ Dj g0_0 g0_2 ∧ Dj g0_0 g0_3 ∧ Dj g0_1 g0_2 ∧ Dj g0_1 g0_3 ∧ Dj g0_2 g0_3 := by
 obtain ⟨a, c, rfl⟩ := r.shape
 obtain ⟨a1, a2, rfl⟩ := c0.shape
 refine enter (args := [sl a x c, sl a1 p a2]) 52 Try.func42 rfl rfl rfl ?_
 refine Wo [(0, sl a x c), (1, sl a1 p a2)] ⟨rfl, rfl, trivial⟩ fun ρ => ?_
 have X := Br emp w
 refine Wq (Wg (La 0 rfl rfl rfl ti_29 rfl fun b wx bF bG f => (Ln _ rfl (Wq (Wg (Lv ok 0 [(10, sl a x c)] 1 rfl rfl ?_))))))
 have c1 := (ex.ext bF)
 refine Lc 1 rfl rfl rfl cal_65 rfl (impl_rowSums_w _ _ H wx r c1) ?_
 rintro _ d5 ⟨aH, gU, d6, H, rfl, aX, o, bN, c2⟩
 obtain ⟨aI, aJ, rfl⟩ := o.shape
 refine Lv ok 2 [(12, sl a x c)] 3 rfl rfl ?_
 have c3 := (c1.ext aX)
 refine Lc 3 rfl rfl rfl cal_78 rfl (impl_colSums_w _ _ H d5 r c3) ?_
 rintro _ d7 ⟨aK, gV, d8, H, rfl, aR, c4, bO, b6⟩
 obtain ⟨aL, aM, rfl⟩ := c4.shape
 refine Lv ok 4 [(14, sl a x c)] 5 rfl rfl ?_
 have c5 := (c3.ext aR)
 refine Lc 5 rfl rfl rfl cal_79 rfl (impl_copyMatrix_w _ _ H d7 r c5) ?_
 rintro _ d9 ⟨aA, gW, bP, H, rfl, aQ, c6, b7, bH, cn⟩
 obtain ⟨aC, aD, rfl⟩ := c6.shape
 refine Lv ok 6 [(16, sl a x c)] 7 rfl rfl (Lc 7 rfl rfl rfl cal_79 rfl (impl_copyMatrix_w _ _ H d9 r (c5.ext aQ)) ?_)
 rintro _ gX ⟨aB, gY, bQ, H, rfl, aS, c7, b8, a6, eA⟩
 obtain ⟨aE, aF, rfl⟩ := c7.shape
 refine Lv ok 8 [(18, .agg #[sl aI aH aJ, sl aL aK aM, sl aC aA aD, sl aE aB aF])] 9 rfl rfl (La 9 rfl rfl rfl ti_29 rfl fun aG gZ aT eB aP => (Lx 10 (vs := [sl aI aH aJ, sl aL aK aM, sl aC aA aD, sl aE aB aF]) (cs' := [sl aI aH aJ, sl aL aK aM, sl aC aA aD, sl aE aB aF]) rfl rfl rfl ti_29 rfl rfl rfl rfl rfl eB rfl rfl fun bR eC y => ?_))
 refine Ln _ rfl (Wq (Wq (Wg (Lv ok 0 [(19, sl a1 p a2), (20, I (ln p)), (21, I 0)] 3 rfl rfl (Ln _ rfl (W_block ?_))))))
 obtain ⟨U, hU⟩ : ∃ U : PH, U = (un bP (un bQ (bx aG 29 [sl aI aH aJ, sl aL aK aM, sl aC aA aD, sl aE aB aF]))) := ⟨_, rfl⟩
 have D : Dom U bP := Dom.eqv hU (Dom.l _ _)
 have D72 : Dom U bQ := Dom.eqv hU (Ot (Dom.r _ _) (Dom.l _ _))
 have D73 : Dom U (bx aG 29 [sl aI aH aJ, sl aL aK aM, sl aC aA aD, sl aE aB aF]) := Dom.eqv hU (Ot (Dom.r _ _) (Ot (Dom.r _ _) (Or _)))
 have c8 := (b7.ext aS)
 have dj := (Df c8 aP).symm
 have eD := (Df b8 aP).symm
 have eE : Dj bP (bx aG 29 [sl aI aH aJ, sl aL aK aM, sl aC aA aD, sl aE aB aF]) := (Db (Df c8 aP).symm).symm
 have eF : Dj bQ (bx aG 29 [sl aI aH aJ, sl aL aK aM, sl aC aA aD, sl aE aB aF]) := (Db (Df b8 aP).symm).symm
 have eG := (Df b7 a6).symm
 obtain ⟨J, m, Hx, H⟩ := H
 refine W_loop (S := Int × (List (List Int)) × (List (List Int))) (fun s ρ' w' => J s.1 s.2.1 s.2.2 ∧ ∃ (ρ : Env) (aY : PH) (aZ : PH), ρ' = setAll [(4, pb b), (5, pb aG), (19, sl a1 p a2), (20, I (ln p)), (21, I s.1)] ρ ∧ But U bR w' ∧ OD aY (sl aC aA aD) s.2.1 ∧ Sub aY w' ∧ DomLe U bR.heap.size aY ∧ OD aZ (sl aE aB aF) s.2.2 ∧ Sub aZ w' ∧ DomLe U bR.heap.size aZ ∧ Sub (bx aG 29 [sl aI aH aJ, sl aL aK aM, sl aC aA aD, sl aE aB aF]) w' ∧ Dj aY (bx aG 29 [sl aI aH aJ, sl aL aK aM, sl aC aA aD, sl aE aB aF]) ∧ Dj aZ (bx aG 29 [sl aI aH aJ, sl aL aK aM, sl aC aA aD, sl aE aB aF]) ∧ Dj aZ aY ∧ CanV (sl aC aA aD) s.2.1 ∧ CanV (sl aE aB aF) s.2.2) (fun s => m s.1 s.2.1 s.2.2) (0, aA, aB) ⟨Hx, _, bP, bQ, Ee ⟨rfl, rfl, rfl, rfl, rfl, trivial⟩, (Br _ _), c6, ((b7.ext (aS.trans aT)).but y dj), (Oe D _), c7, ((b8.ext aT).but y eD), (Oe D72 _), eC, eE, eF, eG, cn, eA⟩ ?_
 rintro ⟨aN, lo, hi⟩ _ bS ⟨Hi, ρ, aY, aZ, rfl, HF⟩
 revert HF
 refine bb9 fun X79 c9 dA a7 dB dC a8 dD => ?_
 refine bb5 fun d eH dE eI eJ => ?_
 have H := H aN lo hi Hi
 refine Wq (Wg (Lv ok 0 [(22, .bool (decide (aN < (ln p))))] 1 rfl rfl (Ln _ rfl (Wq ?_))))
 refine Wc (decide (aN < (ln p))) rfl (fun hc => ?_) (fun hc => ?_)
 ·have H := H.1 hc
  refine Wk (Wq (W_block (Wq (Wg (Lv ok 0 [(23, I aN)] 1 rfl rfl ?_)))))
  obtain ⟨aU, eK, eL, H⟩ := H
  refine Li 1 rfl rfl rfl Try.underlying23 ti_22 rfl rfl c0 eK eL fun g0 cs eM eN => ?_
  have bT := (b5.ext ((((bF.trans aX).trans aR).trans aQ).trans aS))
  have dF := (Df bT aP).symm
  have dG := (b5.ext ((bF.trans aX).trans aR))
  have eO := (Df dG bH).symm
  have eP := (Df (dG.ext aQ) a6).symm
  have eQ : Dj (bx aG 29 [sl aI aH aJ, sl aL aK aM, sl aC aA aD, sl aE aB aF]) bM := (Db (Df bT aP).symm)
  have b9 := (Dl eO (Dl eP eQ))
  have dH := (((b5.ext (((((bF.trans aX).trans aR).trans aQ).trans aS).trans aT)).but y dF).but X79 (Dj.eqv hU b9))
  refine Lo 2 rfl rfl rfl ti_22 ag_22 rfl eM eN dH fun g1 eR => ?_
  have dI := eR.slice
  obtain ⟨bI, bJ, rfl⟩ := dI.shape
  refine Lv ok 3 [(6, I aN), (7, sl bI aU bJ)] 5 rfl rfl (Ln _ rfl (Wq (Wg (Lv ok 0 [(26, sl bI aU bJ), (27, I (ln aU)), (28, I 0)] 3 rfl rfl (Ln _ rfl (W_block ?_))))))
  obtain ⟨U125, hU126⟩ : ∃ U : PH, U = (un aY (un aZ (bx aG 29 [sl aI aH aJ, sl aL aK aM, sl aC aA aD, sl aE aB aF]))) := ⟨_, rfl⟩
  have D127 : Dom U125 aY := Dom.eqv hU126 (Dom.l _ _)
  have D128 : Dom U125 aZ := Dom.eqv hU126 (Ot (Dom.r _ _) (Dom.l _ _))
  have D129 : Dom U125 (bx aG 29 [sl aI aH aJ, sl aL aK aM, sl aC aA aD, sl aE aB aF]) := Dom.eqv hU126 (Ot (Dom.r _ _) (Ot (Dom.r _ _) (Or _)))
  obtain ⟨J137, eS, Hx139, H⟩ := H
  refine W_loop (S := Int × (List (List Int)) × (List (List Int))) (fun s ρ' w' => J137 s.1 s.2.1 s.2.2 ∧ ∃ (ρ : Env) (aV : PH) (aW : PH), ρ' = setAll [(4, pb b), (5, pb aG), (6, I aN), (19, sl a1 p a2), (20, I (ln p)), (21, I aN), (26, sl bI aU bJ), (27, I (ln aU)), (28, I s.1)] ρ ∧ But U125 bS w' ∧ OD aV (sl aC aA aD) s.2.1 ∧ Sub aV w' ∧ DomLe U125 bS.heap.size aV ∧ OD aW (sl aE aB aF) s.2.2 ∧ Sub aW w' ∧ DomLe U125 bS.heap.size aW ∧ Sub (bx aG 29 [sl aI aH aJ, sl aL aK aM, sl aC aA aD, sl aE aB aF]) w' ∧ Dj aV (bx aG 29 [sl aI aH aJ, sl aL aK aM, sl aC aA aD, sl aE aB aF]) ∧ Dj aW (bx aG 29 [sl aI aH aJ, sl aL aK aM, sl aC aA aD, sl aE aB aF]) ∧ Dj aW aV ∧ CanV (sl aC aA aD) s.2.1 ∧ CanV (sl aE aB aF) s.2.2) (fun s => eS s.1 s.2.1 s.2.2) (0, lo, hi) ⟨Hx139, _, aY, aZ, Ee ⟨rfl, rfl, rfl, rfl, rfl, rfl, rfl, rfl, rfl, trivial⟩, (Br _ _), c9, dA, (Oe D127 _), dB, dC, (Oe D128 _), dD, d, eH, dE, eI, eJ⟩ ?_
  rintro ⟨aO, bU, bV⟩ _ cA ⟨Hi, ρ, aV, aW, rfl, HF⟩
  revert HF
  refine bb9 fun X136 cB cC dJ cD cE dK cF => ?_
  refine bb5 fun bK bW a9 cG cH => ?_
  have H := H aO bU bV Hi
  refine Wq (Wg (Lv ok 0 [(29, .bool (decide (aO < (ln aU))))] 1 rfl rfl (Ln _ rfl (Wq ?_))))
  refine Wc (decide (aO < (ln aU))) rfl (fun cI => ?_) (fun cI => ?_)
  ·have H := H.1 cI
   refine Wk ?_
   have dL := ((bT.ext aT).but y dF)
   have eT : Dj (bx aG 29 [sl aI aH aJ, sl aL aK aM, sl aC aA aD, sl aE aB aF]) bM := (Db (Df bT aP).symm)
   obtain ⟨U239, hU240⟩ : ∃ U : PH, U = (un aV (un aW (bx aG 29 [sl aI aH aJ, sl aL aK aM, sl aC aA aD, sl aE aB aF]))) := ⟨_, rfl⟩
   have D241 : Dom U239 aV := Dom.eqv hU240 (Dom.l _ _)
   have D242 : Dom U239 aW := Dom.eqv hU240 (Ot (Dom.r _ _) (Dom.l _ _))
   obtain ⟨k, hk, H⟩ := jn_elim H
   refine W_join2 (S := (List (List Int)) × (List (List Int))) (fun s ρ' w' => k s.1 s.2 ∧ ∃ (ρ : Env) (a3 : PH) (a4 : PH), ρ' = setAll [(4, pb b), (5, pb aG), (6, I aN), (19, sl a1 p a2), (20, I (ln p)), (21, I aN), (26, sl bI aU bJ), (27, I (ln aU)), (28, I aO)] ρ ∧ But U239 cA w' ∧ OD a3 (sl aC aA aD) s.1 ∧ Sub a3 w' ∧ DomLe U239 cA.heap.size a3 ∧ OD a4 (sl aE aB aF) s.2 ∧ Sub a4 w' ∧ DomLe U239 cA.heap.size a4 ∧ Sub (bx aG 29 [sl aI aH aJ, sl aL aK aM, sl aC aA aD, sl aE aB aF]) w' ∧ Dj a3 (bx aG 29 [sl aI aH aJ, sl aL aK aM, sl aC aA aD, sl aE aB aF]) ∧ Dj a4 (bx aG 29 [sl aI aH aJ, sl aL aK aM, sl aC aA aD, sl aE aB aF]) ∧ Dj a4 a3 ∧ CanV (sl aC aA aD) s.1 ∧ CanV (sl aE aB aF) s.2) ?_ ?_
   ·refine W_block (Wq (Wg (Lv ok 0 [(30, I aO)] 1 rfl rfl ?_)))
    obtain ⟨bX, eU, eV, H⟩ := H
    refine Li 1 rfl rfl rfl Try.underlying22 ti_3 rfl rfl dI eU eV fun g2 g3 eW eX => (Lo 2 rfl rfl rfl ti_3 ag_3 rfl eW eX (dH.but X136 (Dj.eqv hU126 (Dl (Mj a7 (Dj.eqv hU b9) dL) (Dl (Mj a8 (Dj.eqv hU b9) dL) eT)))) fun g4 eY => ?_)
    obtain rfl := eY.int
    refine Lv ok 3 [(8, I aO), (9, I bX)] 5 rfl rfl (Ln _ rfl (Wq (Wg (Lv ok 0 [(33, I bX), (34, .bool (bX == 1))] 2 rfl rfl (Ln _ rfl ?_)))))
    refine Wc (bX == 1) rfl (fun cJ => ?_) (fun cJ => ?_)
    ·have H := H.1 cJ
     refine W_open mix fun g5 bY => ?_
     refine AP_game 14 [[], [0], [], [0, 1, 2], [0, 1, 2, 3], [], [], [6], [], [6, 7, 8], [6, 7, 8, 9], [], [0, 1, 2, 3, 4, 5, 6, 7, 8, 9, 10], [0, 1, 2, 3, 4, 5, 6, 7, 8, 9, 10, 12], [0, 1, 2, 3, 4, 5, 6, 7, 8, 9, 10, 11, 12, 13], [0, 1, 2, 3, 4, 5, 6, 7, 8, 9, 10, 11, 12, 13, 14]] [[(5, none)], [(35, some 0)], [(6, none)], [(36, some 1), (37, some 2)], [(38, some 3)], [(8, none)], [(5, none)], [(41, some 6)], [(6, none)], [(42, some 7), (43, some 8)], [(44, some 9)], [(8, none)], [(39, some 4), (40, some 5)], [(47, some 12)]] [(4, none), (5, none), (6, none), (19, none), (20, none), (21, none), (26, none), (27, none), (28, none), (45, some 10), (46, some 11)] [(0, false), (1, false), (2, false), (3, false), (4, false), (5, false), (6, false), (7, false), (8, false), (9, false), (10, false), (11, false), (12, true), (13, true)] (by kernel_rfl) (by kernel_rfl) ?_
     refine GS_ev ok [(5, pb aG)] (.pointer (some ⟨aG, 2, none⟩)) rfl rfl (fun _ h => h) (fun _ => rfl) ?_
     have bZ := (cF.ext bY)
     refine GS_r1 [(35, .pointer (some ⟨aG, 2, none⟩))] (sl aC aA aD) rfl rfl (fun _ h => h) (fun _ w e => ex_ldbox rfl ti_23 ag_23 (fun _ => rfl) rfl e rfl rfl) bZ ?_
     refine GS_ev ok [(6, I aN)] (I aN) rfl rfl (fun _ h => h) (fun _ => rfl) ?_
     obtain ⟨bA, eZ, e0, H⟩ := H
     obtain ⟨dM, u, e1, rest, e2, e3, bw⟩ := run_indexb Try.underlying23 ti_22 cB _ eZ e0
     refine GS_r0 [(36, sl aC aA aD), (37, I aN)] (.pointer (some dM)) rfl rfl (fun _ h => h) (fun _ _ => ex_index rfl rfl rfl (e2 _)) ?_
     have dN := bw.od
     obtain ⟨b0, b1, rfl⟩ := dN.shape
     have cK := (cC.ext bY)
     have e4 := Sub.le cK bw.le
     have e5 : OS 3 e1 emp (sl b0 bA b1) bA := OD.flat dN
     refine GS_r1 [(38, .pointer (some dM))] (sl b0 bA b1) rfl rfl (fun _ h => h) (fun _ w e => ex_ldcell rfl ti_22 ag_22 rfl e3 e) cK ?_
     refine GS_ev ok [(8, I aO)] (I aO) rfl rfl (fun _ h => h) (fun _ => rfl) ?_
     refine GS_ev ok [(5, pb aG)] (.pointer (some ⟨aG, 3, none⟩)) rfl rfl (fun _ h => h) (fun _ => rfl) ?_
     refine GS_r1 [(41, .pointer (some ⟨aG, 3, none⟩))] (sl aE aB aF) rfl rfl (fun _ h => h) (fun _ w e => ex_ldbox rfl ti_23 ag_23 (fun _ => rfl) rfl e rfl rfl) bZ ?_
     refine GS_ev ok [(6, I aN)] (I aN) rfl rfl (fun _ h => h) (fun _ => rfl) ?_
     obtain ⟨bB, e6, e7, H⟩ := H
     obtain ⟨dO, g6, e8, e9, fA, fB, bC⟩ := run_indexb Try.underlying23 ti_22 cD _ e6 e7
     refine GS_r0 [(42, sl aE aB aF), (43, I aN)] (.pointer (some dO)) rfl rfl (fun _ h => h) (fun _ _ => ex_index rfl rfl rfl (fA _)) ?_
     have dP := bC.od
     obtain ⟨b2, b3, rfl⟩ := dP.shape
     have b4 := (cE.ext bY)
     have fC := Sub.le b4 bC.le
     have fD : OS 3 e8 emp (sl b2 bB b3) bB := OD.flat dP
     refine GS_r1 [(44, .pointer (some dO))] (sl b2 bB b3) rfl rfl (fun _ h => h) (fun _ w e => ex_ldcell rfl ti_22 ag_22 rfl fB e) b4 ?_
     refine GS_ev ok [(8, I aO)] (I aO) rfl rfl (fun _ h => h) (fun _ => rfl) ?_
     refine GS_lp [(39, sl b0 bA b1), (40, I aO)] rfl rfl (fun _ h => h) rfl fun ρ g7 dQ => ?_
     obtain ⟨fE, hl, H⟩ := H
     refine LP_indexw (v := sl b0 bA b1) 0 rfl rfl rfl Try.underlying22 ti_3 rfl rfl e5 fE hl fun fF wa => ?_
     refine LP_gs ⟨⟨.inl rfl, .inl rfl, .inl rfl, .inl rfl, trivial⟩, ?_⟩
     refine GS_lp [(47, .pointer (some fF))] rfl rfl (fun _ h => h) rfl fun ρ g8 dR => ?_
     have a5 := (dQ.trans dR)
     refine LP_set 0 rfl rfl rfl rfl rfl wa (Le.refl emp) ⟨_, rfl, rfl⟩ (e4.ext a5) fun fG g9 fH fI dS dm => ?_
     obtain ⟨hA, fJ, dd⟩ := BwL.turn bw (OS.od fH) (Dom.of dm)
     have dT := BwL.sub bw (cK.ext a5) fI dS
     have bD := BwL.but bw dS
     refine LP_gs ⟨⟨.inl rfl, .inl rfl, .inl rfl, .inl rfl, trivial⟩, ?_⟩
     intro hB a0 ρ hn
     refine AP_forget [(4, pb b), (5, pb aG), (6, I aN), (19, sl a1 p a2), (20, I (ln p)), (21, I aN), (26, sl bI aU bJ), (27, I (ln aU)), (28, I aO), (45, sl b2 bB b3), (46, I aO)] (by exact hn) fun ρ => ?_
     refine AP_tail 14 [[], [0], [], [0, 1, 2], [0, 1, 2, 3], [], [], [6], [], [6, 7, 8], [6, 7, 8, 9], [], [0, 1, 2, 3, 4, 5, 6, 7, 8, 9, 10], [0, 1, 2, 3, 4, 5, 6, 7, 8, 9, 10, 12], [0, 1, 2, 3, 4, 5, 6, 7, 8, 9, 10, 11, 12, 13], [0, 1, 2, 3, 4, 5, 6, 7, 8, 9, 10, 11, 12, 13, 14]] (by kernel_rfl) ?_
     obtain ⟨fK, fL, H⟩ := H
     refine LP_indexw (v := sl b2 bB b3) 14 rfl rfl rfl Try.underlying22 ti_3 rfl rfl fD fK fL fun hC fM => ?_
     have fN := (Dom.dj bC.dom a9).symm
     refine LP_set 15 rfl rfl rfl rfl rfl fM (Le.refl emp) ⟨_, rfl, rfl⟩ (((fC.ext a5).but bD fN).ext a0) fun fO hD fP fQ dU fR => ?_
     obtain ⟨hE, fS, cL⟩ := BwL.turn bC (OS.od fP) (Dom.of fR)
     have fT := BwL.sub bC (((b4.ext a5).but bD a9.symm).ext a0) fQ dU
     have cM := BwL.but bC dU
     refine Ln _ rfl ?_
     have cN := ((bY.trans dQ).trans dR)
     have dV := (b4.ext a5)
     have dW := (bZ.ext a5)
     exact ⟨(List.set bU (Int.toNat aN) (List.set bA (Int.toNat aO) 0), List.set bV (Int.toNat aN) (List.set bB (Int.toNat aO) 100000)), H, _, (un fG rest), (un fO e9), Ee ⟨rfl, rfl, rfl, rfl, rfl, rfl, rfl, rfl, rfl, trivial⟩, (((((Br U239 _).stepx cN).step bD (Oe D241 _)).stepx a0).step cM (Oe D242 _)), fJ, ((dT.ext a0).but cM (Mj ((fun n => Oe dd n) _) a9.symm dV).symm), (Mt (Oe D241 _) ((fun n => Oe dd n) _) cN.size), fS, fT, (Mt (Oe D242 _) ((fun n => Oe cL n) _) (Nat.le_trans (Nat.le_trans cN.size bD.size) a0.size)), ((((bZ.ext a5).but bD bK).ext a0).but cM bW), (Mj ((fun n => Oe dd n) _) bK dW), (Mj ((fun n => Oe cL n) _) bW ((dW.but bD bK).ext a0)), (Mj ((fun n => Oe cL n) _) (Mj ((fun n => Oe dd n) _) a9.symm dV).symm (dT.ext a0)), (CanV.len (by simp) cG), (CanV.len (by simp) cH)⟩
    have H := H.2 cJ
    exact Wk ⟨(bU, bV), H, _, aV, aW, Ee ⟨rfl, rfl, rfl, rfl, rfl, rfl, rfl, rfl, rfl, trivial⟩, (Br _ _), cB, cC, (Oe D241 _), cD, cE, (Oe D242 _), cF, bK, bW, a9, cG, cH⟩
   rintro ⟨fU, fV⟩ _ hF ⟨H, ρ, a3, a4, rfl, HF⟩
   revert HF
   refine bb9 fun X250 fW fX fY fZ f0 f1 f2 => ?_
   refine bb5 fun f3 f4 f5 f6 f7 => ?_
   subst hk
   refine Wg (Lv ok 0 [(49, I (wr (aO + 1))), (28, I (wr (aO + 1)))] 2 rfl rfl (Ln _ rfl ?_))
   have cO : DomLe U125 bS.heap.size U239 := (DomLe.eqv hU240 (Mu (Mt (Oe (Or _) _) dJ (Nat.le_refl _)) (Mu (Mt (Oe (Or _) _) dK (Nat.le_refl _)) (Md D129 Sd))))
   exact ⟨(wr (aO + 1), fU, fV), ⟨H.1, _, a3, a4, Ee ⟨rfl, rfl, rfl, rfl, rfl, rfl, rfl, rfl, rfl, trivial⟩, (((Br U125 _).step X136 (Oe (Or _) _)).step X250 cO), fW, fX, (Mt cO fY X136.size), fZ, f0, (Mt cO f1 X136.size), f2, f3, f4, f5, f6, f7⟩, H.2⟩
  have H := H.2 cI
  refine W_exit ?_
  refine (if_pos rfl).mpr ?_
  refine Wg (Lv ok 0 [(50, I (wr (aN + 1))), (21, I (wr (aN + 1)))] 2 rfl rfl (Ln _ rfl ?_))
  have cP : DomLe U bR.heap.size U125 := (DomLe.eqv hU126 (Mu (Mt (Oe (Or _) _) a7 (Nat.le_refl _)) (Mu (Mt (Oe (Or _) _) a8 (Nat.le_refl _)) (Md D73 Sd))))
  exact ⟨(wr (aN + 1), bU, bV), ⟨H.1, _, aV, aW, Ee ⟨rfl, rfl, rfl, rfl, rfl, trivial⟩, (((Br U _).step X79 (Oe (Or _) _)).step X136 cP), cB, cC, (Mt cP dJ X79.size), cD, cE, (Mt cP dK X79.size), cF, bK, bW, a9, cG, cH⟩, H.2⟩
 have H := H.2 hc
 refine W_exit ?_
 refine (if_pos rfl).mpr ?_
 refine Wq (Wg (Lb 0 (v := .agg #[sl aI aH aJ, sl aL aK aM, sl aC aA aD, sl aE aB aF]) rfl rfl rfl ti_29 ag_29 (fun h => by cases h) rfl dD rfl rfl ?_))
 have cQ := (bG.ext (((aX.trans aR).trans aQ).trans aS))
 have dX := (Df cQ aP).symm
 have dY := (bG.ext (aX.trans aR))
 have f8 := (Df dY bH).symm
 have f9 := (Df (dY.ext aQ) a6).symm
 have gA : Dj (bx aG 29 [sl aI aH aJ, sl aL aK aM, sl aC aA aD, sl aE aB aF]) (bx b 29 [.slice none 0 0, .slice none 0 0, .slice none 0 0, .slice none 0 0]) := (Db (Df cQ aP).symm)
 have cR := (Dl f8 (Dl f9 gA))
 refine Lx 1 (vs := [sl aI aH aJ, sl aL aK aM, sl aC aA aD, sl aE aB aF]) (cs' := [sl aI aH aJ, sl aL aK aM, sl aC aA aD, sl aE aB aF]) rfl rfl rfl ti_29 rfl rfl rfl rfl rfl (((bG.ext ((((aX.trans aR).trans aQ).trans aS).trans aT)).but y dX).but X79 (Dj.eqv hU cR)) rfl rfl fun hG gB bL => (Ln _ rfl (W_ret ?_))
 have cS := (bN.ext ((aR.trans aQ).trans aS))
 have dZ := (Df cS aP).symm
 have d0 := (bN.ext aR)
 have gC := (Df d0 bH).symm
 have gD := (Df (d0.ext aQ) a6).symm
 have gE : Dj (bx aG 29 [sl aI aH aJ, sl aL aK aM, sl aC aA aD, sl aE aB aF]) d6 := (Db (Df cS aP).symm)
 have cT := (Dl gC (Dl gD gE))
 have X378 := (X.stepx bF)
 have gF := c2.mono X378.size
 have cU := (bO.ext (aQ.trans aS))
 have d1 := (Df cU aP).symm
 have gG := (Df bO bH).symm
 have gH := (Df (bO.ext aQ) a6).symm
 have gI : Dj (bx aG 29 [sl aI aH aJ, sl aL aK aM, sl aC aA aD, sl aE aB aF]) d8 := (Db (Df cU aP).symm)
 have cV := (Dl gG (Dl gH gI))
 have X392 := (X378.stepx aX)
 have gJ := b6.mono X392.size
 have d2 := ((cQ.ext aT).but y dX)
 have gK := (Mj a7 (Dj.eqv hU cR) d2).symm
 have X397 := (X392.stepx aR)
 have cW := bH.mono X397.size
 have X399 := (X397.stepx aQ)
 have cX := a6.mono X399.size
 have X401 := (X399.stepx aS)
 have cY := aP.mono X401.size
 have gL := aP.mono X401.size
 have X404 := ((X401.stepx aT).step y (gL.dom _))
 have gM := DomLe.fresh a7 (Fresh.eqv hU (Fresh.un cW (Fresh.un cX (Fresh.box cY)))) X404.size
 have gN := (Mj a8 (Dj.eqv hU cR) d2).symm
 have gO := DomLe.fresh a8 (Fresh.eqv hU (Fresh.un cW (Fresh.un cX (Fresh.box cY)))) X404.size
 have d3 := ((cS.ext aT).but y dZ)
 have gP := (Mj a7 (Dj.eqv hU cT) d3).symm
 have gQ := (Mj a8 (Dj.eqv hU cT) d3).symm
 have d4 := ((cU.ext aT).but y d1)
 have gR := (Mj a7 (Dj.eqv hU cV) d4).symm
 have gS := (Mj a8 (Dj.eqv hU cV) d4).symm
 have gT := f.mono X.size
 exact ⟨_, Ret_of [.agg #[sl aI aH aJ, sl aL aK aM, sl aC aA aD, sl aE aB aF]] ⟨⟨_, rfl, rfl, ld_res ti_29 ag_29 (fun h => by cases h) gB rfl rfl⟩, trivial⟩, _, _, _, _, _, _, _, _, _, H, rfl, ((X404.step X79 (DomLe.eqv hU (Mu (cW.dom _) (Mu (cX.dom _) ((Fresh.box cY).dom _))))).step bL (gT.dom _)).ext, o, ((((bN.ext (((aR.trans aQ).trans aS).trans aT)).but y dZ).but X79 (Dj.eqv hU cT)).but bL (Df bG c2)), gF, c4, ((((bO.ext ((aQ.trans aS).trans aT)).but y d1).but X79 (Dj.eqv hU cV)).but bL (Df (bG.ext aX) b6)), gJ, c9, (dA.but bL gK), gM, dB, (dC.but bL gN), gO, (Df bN b6), gP, gQ, gR, gS, dE.symm⟩

theorem impl_total_w (l : List Int) (Q : Int → Prop) (H : impl_total l Q) (w : World) {vx : Value} {hx : PH} (r : RS hx vx l) (ex : Sub hx w) :
  CallsTo Try.prog 64 #[vx] w fun v w' => ∃ aB, Q aB ∧ v = I aB ∧ Ext w w' := by
 obtain ⟨a, c, rfl⟩ := r.shape
 refine enter (args := [sl a l c]) 17 Try.func64 rfl rfl rfl ?_
 refine Wo [(0, sl a l c)] ⟨rfl, trivial⟩ fun ρ => ?_
 have X := Br emp w
 refine Wq (Wg (Lv ok 0 [(2, I 0)] 1 rfl rfl (Ln _ rfl (Wq (Wg (Lv ok 0 [(3, I 0)] 1 rfl rfl (Ln _ rfl (Wq (Wq (Wg (Lv ok 0 [(6, sl a l c), (7, I (ln l)), (8, I 0)] 3 rfl rfl ?_)))))))))))
 refine Ln _ rfl (W_block ?_)
 obtain ⟨J, m, Hx, H⟩ := H
 refine W_loop (S := Int × Int) (fun s ρ' w' => J s.1 s.2 ∧ ∃ (ρ : Env), ρ' = setAll [(3, I s.1), (6, sl a l c), (7, I (ln l)), (8, I s.2)] ρ ∧ w = w') (fun s => m s.1 s.2) (0, 0) ⟨Hx, _, Ee ⟨rfl, rfl, rfl, rfl, trivial⟩, rfl⟩ ?_
 rintro ⟨sum, x⟩ _ _ ⟨Hi, ρ, rfl, rfl⟩
 have H := H sum x Hi
 refine Wq (Wg (Lv ok 0 [(9, .bool (decide (x < (ln l))))] 1 rfl rfl (Ln _ rfl (Wq ?_))))
 refine Wc (decide (x < (ln l))) rfl (fun hc => ?_) (fun hc => ?_)
 ·have H := H.1 hc
  refine Wk (Wq (W_block (Wq (Wg ?_))))
  obtain ⟨aA, hi, aC, H⟩ := H
  refine Li 0 rfl rfl rfl Try.underlying22 ti_3 rfl rfl r hi aC fun aF cs aD d => (Lo 1 rfl rfl rfl ti_3 ag_3 rfl aD d ex fun aG aE => ?_)
  obtain rfl := aE.int
  refine Lv ok 2 [(5, I aA)] 3 rfl rfl (Ln _ rfl (Wg (Lv ok 0 [(12, I sum), (13, I aA), (14, I (wr (sum + aA))), (3, I (wr (sum + aA)))] 4 rfl rfl (Ln _ rfl (Wg (Lv ok 0 [(15, I (wr (x + 1))), (8, I (wr (x + 1)))] 2 rfl rfl ?_))))))
  exact Ln _ rfl ⟨(wr (sum + aA), wr (x + 1)), ⟨H.1, _, Ee ⟨rfl, rfl, rfl, rfl, trivial⟩, rfl⟩, H.2⟩
 have H := H.2 hc
 refine W_exit ?_
 refine (if_pos rfl).mpr ?_
 refine Wq (Wg (Lv ok 0 [(16, I sum), (2, I sum)] 2 rfl rfl (Ln _ rfl (W_ret ?_))))
 exact ⟨_, Ret_of [I sum] ⟨⟨rfl, rfl⟩, trivial⟩, _, H, rfl, X.ext⟩

theorem impl_residual_w (t : Transport) (x : List (List Int)) (fixed : Int) (Q : (List (List Int)) → Prop) (H : impl_residual t x fixed Q) (w : World) {vx : Value} {hx : PH} (r : RS hx vx t.Rows) (ex : Sub hx w) {b6 : Value} {b7 : PH} (dV : RS b7 b6 t.Cols) (gC : Sub b7 w) {b8 : Value} {b9 : PH} (cA : RS b9 b8 t.Lo) (cB : Sub b9 w) {cC : Value} {cD : PH} (cE : RS cD cC t.Hi) (cF : Sub cD w) {cG : Value} {cH : PH} (cI : RS cH cG x) (cJ : Sub cH w) :
  CallsTo Try.prog 89 #[.agg #[vx, b6, b8, cC], cG, I fixed] w fun v w' => ∃ cK cL bI, Q cK ∧ v = cL ∧ Ext w w' ∧ OD bI cL cK ∧ Sub bI w' ∧ Fresh w.heap.size bI := by
 obtain ⟨a, c, rfl⟩ := r.shape
 obtain ⟨a5, a6, rfl⟩ := dV.shape
 obtain ⟨aW, aX, rfl⟩ := cA.shape
 obtain ⟨aY, aZ, rfl⟩ := cE.shape
 obtain ⟨aK, aL, rfl⟩ := cI.shape
 refine enter (args := [.agg #[sl a t.Rows c, sl a5 t.Cols a6, sl aW t.Lo aX, sl aY t.Hi aZ], sl aK x aL, I fixed]) 98 Try.func89 rfl rfl rfl ?_
 refine Wo [(0, .agg #[sl a t.Rows c, sl a5 t.Cols a6, sl aW t.Lo aX, sl aY t.Hi aZ]), (1, sl aK x aL), (2, I fixed)] ⟨rfl, rfl, rfl, trivial⟩ fun ρ => ?_
 have X := Br emp w
 refine Wq (Wg (Ly 0 (cs := [sl a t.Rows c, sl a5 t.Cols a6, sl aW t.Lo aX, sl aY t.Hi aZ]) rfl rfl rfl rfl rfl fun b wx bJ a7 f => (Lv ok 1 [(6, .slice none 0 0)] 2 rfl rfl (Ln _ rfl (Wq ?_)))))
 refine W_quiet mix (by kernel_rfl) ?_
 refine QP_ev ok 0 [(15, pb b)] 1 rfl rfl ?_
 refine QP_ldbox 1 (v := sl a t.Rows c) rfl rfl rfl ti_22 ag_22 (fun _ => rfl) rfl a7 rfl rfl ?_
 refine QP_ev ok 2 [(17, I (ln t.Rows)), (18, .pointer (some ⟨b, 1, none⟩))] 4 rfl rfl ?_
 refine QP_ldbox 4 (v := sl a5 t.Cols a6) rfl rfl rfl ti_22 ag_22 (fun _ => rfl) rfl a7 rfl rfl ?_
 refine QP_ev ok 5 [(20, I (ln t.Cols)), (7, I (ln t.Rows)), (8, I (ln t.Cols))] 8 rfl rfl ?_
 refine QP_end _ rfl fun gD a0 => ?_
 refine Wq (Wg (Lv ok 0 [(21, I (ln t.Rows)), (22, I (ln t.Cols)), (23, I (wr ((ln t.Rows) + (ln t.Cols))))] 3 rfl rfl ?_))
 obtain ⟨hn, hb, H⟩ := H
 refine LP_maked (β := Int) 3 rfl rfl rfl Try.underlying23 ti_22 rfl hn (by first | omega | (simp only [ln] at *; omega)) (by first | omega | (simp only [ln] at *; omega)) fun a1 gE bK aM o dW aO => ?_
 obtain ⟨aC, aD, rfl⟩ := o.shape
 refine Lv ok 4 [(9, .slice aC (List.length (List.replicate (Int.toNat (wr ((ln t.Rows) + (ln t.Cols)))) (([] : List Int)))) aD)] 5 rfl rfl (Ln _ rfl (Wq (Wq (Wg (Lv ok 0 [(25, .slice aC (List.length (List.replicate (Int.toNat (wr ((ln t.Rows) + (ln t.Cols)))) (([] : List Int)))) aD), (26, I (ln (List.replicate (Int.toNat (wr ((ln t.Rows) + (ln t.Cols)))) (([] : List Int))))), (27, I 0)] 3 rfl rfl ?_)))))
 refine Ln _ rfl (W_block ?_)
 obtain ⟨J, m, Hx, H⟩ := H
 refine W_loop (S := (List (List Int)) × Int) (fun s ρ' w' => J s.1 s.2 ∧ ∃ (ρ : Env) (aG : PH), ρ' = setAll [(1, sl aK x aL), (2, I fixed), (3, pb b), (7, I (ln t.Rows)), (8, I (ln t.Cols)), (9, .slice aC (List.length (List.replicate (Int.toNat (wr ((ln t.Rows) + (ln t.Cols)))) (([] : List Int)))) aD), (26, I (ln (List.replicate (Int.toNat (wr ((ln t.Rows) + (ln t.Cols)))) (([] : List Int))))), (27, I s.2)] ρ ∧ But a1 bK w' ∧ OD aG (.slice aC (List.length (List.replicate (Int.toNat (wr ((ln t.Rows) + (ln t.Cols)))) (([] : List Int)))) aD) s.1 ∧ Sub aG w' ∧ DomLe a1 bK.heap.size aG) (fun s => m s.1 s.2) (List.replicate (Int.toNat (wr ((ln t.Rows) + (ln t.Cols)))) (([] : List Int)), 0) ⟨Hx, _, a1, Ee ⟨rfl, rfl, rfl, rfl, rfl, rfl, rfl, rfl, trivial⟩, (Br _ _), o, dW, (Oe (Or _) _)⟩ ?_
 rintro ⟨bL, aH⟩ _ bM ⟨Hi, ρ, aG, rfl, X45, cM, bN, aN⟩
 have H := H bL aH Hi
 refine Wq (Wg (Lv ok 0 [(28, .bool (decide (aH < (ln (List.replicate (Int.toNat (wr ((ln t.Rows) + (ln t.Cols)))) (([] : List Int)))))))] 1 rfl rfl (Ln _ rfl (Wq ?_))))
 refine Wc (decide (aH < (ln (List.replicate (Int.toNat (wr ((ln t.Rows) + (ln t.Cols)))) (([] : List Int)))))) rfl (fun hc => ?_) (fun hc => ?_)
 ·have H := H.1 hc
  refine Wk (Wq (W_block (Wq (Wg (Lv ok 0 [(29, I aH), (10, I aH)] 2 rfl rfl (Ln _ rfl (Wg ?_)))))))
  refine Lv ok 0 [(30, .slice aC (List.length (List.replicate (Int.toNat (wr ((ln t.Rows) + (ln t.Cols)))) (([] : List Int)))) aD), (31, I aH), (32, I (ln t.Rows)), (33, I (ln t.Cols)), (34, I (wr ((ln t.Rows) + (ln t.Cols))))] 5 rfl rfl ?_
  obtain ⟨dX, gF, H⟩ := H
  refine LP_make (α := Int) 5 rfl rfl rfl Try.underlying22 ti_3 (x0 := (0 : Int)) rfl rfl dX (by first | omega | (simp only [ln] at *; omega)) (by first | omega | (simp only [ln] at *; omega)) fun gG gH gI cN cO dY cP => ?_
  obtain ⟨gJ, gK, rfl⟩ := cO.shape
  obtain ⟨hi, hl, H⟩ := H
  refine LP_indexd (v := .slice aC (List.length (List.replicate (Int.toNat (wr ((ln t.Rows) + (ln t.Cols)))) (([] : List Int)))) aD) 6 rfl rfl rfl Try.underlying23 ti_22 rfl rfl cM hi hl fun gL wa => (LP_setD (y := List.replicate (Int.toNat (wr ((ln t.Rows) + (ln t.Cols)))) ((0 : Int))) 7 rfl rfl rfl rfl rfl wa (OD.rvo (OS.od cO)) (bN.ext cN) dY (Df bN cP) fun dZ hw gM d0 d1 y dh dq gN => ?_)
  refine Ln _ rfl (Wg (Lv ok 0 [(37, I (wr (aH + 1))), (27, I (wr (aH + 1)))] 2 rfl rfl (Ln _ rfl ?_)))
  have dl : DomLe a1 bK.heap.size aG := (Mt (Oe (Or _) _) aN (Nat.le_refl _))
  exact ⟨(List.set bL (Int.toNat aH) (List.replicate (Int.toNat (wr ((ln t.Rows) + (ln t.Cols)))) ((0 : Int))), wr (aH + 1)), ⟨H.1, _, dZ, Ee ⟨rfl, rfl, rfl, rfl, rfl, rfl, rfl, rfl, trivial⟩, ((((Br a1 _).step X45 (Oe (Or _) _)).stepx cN).step (But.dom y dh) dl), d0, d1, (Mt (Mu dl ((cP.mono X45.size).dom _)) (Oe dq _) (Nat.le_refl _))⟩, H.2⟩
 have H := H.2 hc
 refine W_exit ?_
 refine (if_pos rfl).mpr ?_
 refine Wq (Wq (Wg (Lv ok 0 [(38, sl aK x aL), (39, I (ln x)), (40, I 0)] 3 rfl rfl (Ln _ rfl (W_block ?_)))))
 obtain ⟨J75, d2, Hx77, H⟩ := H
 refine W_loop (S := (List (List Int)) × Int) (fun s ρ' w' => J75 s.1 s.2 ∧ ∃ (ρ : Env) (aI : PH), ρ' = setAll [(2, I fixed), (3, pb b), (7, I (ln t.Rows)), (8, I (ln t.Cols)), (9, .slice aC (List.length (List.replicate (Int.toNat (wr ((ln t.Rows) + (ln t.Cols)))) (([] : List Int)))) aD), (38, sl aK x aL), (39, I (ln x)), (40, I s.2)] ρ ∧ But aG bM w' ∧ OD aI (.slice aC (List.length (List.replicate (Int.toNat (wr ((ln t.Rows) + (ln t.Cols)))) (([] : List Int)))) aD) s.1 ∧ Sub aI w' ∧ DomLe aG bM.heap.size aI) (fun s => d2 s.1 s.2) (bL, 0) ⟨Hx77, _, aG, Ee ⟨rfl, rfl, rfl, rfl, rfl, rfl, rfl, rfl, trivial⟩, (Br _ _), cM, bN, (Oe (Or _) _)⟩ ?_
 rintro ⟨cQ, aA⟩ _ bO ⟨Hi, ρ, aI, rfl, X74, cR, cS, aP⟩
 have H := H cQ aA Hi
 refine Wq (Wg (Lv ok 0 [(41, .bool (decide (aA < (ln x))))] 1 rfl rfl (Ln _ rfl (Wq ?_))))
 refine Wc (decide (aA < (ln x))) rfl (fun bP => ?_) (fun bP => ?_)
 ·have H := H.1 bP
  refine Wk (Wq (W_block (Wq (Wg (Lv ok 0 [(42, I aA)] 1 rfl rfl ?_)))))
  obtain ⟨aF, d3, d4, H⟩ := H
  refine Li 1 rfl rfl rfl Try.underlying23 ti_22 rfl rfl cI d3 d4 fun gO cs d5 d => ?_
  have xc := ((bJ.trans a0).trans aM)
  have bQ := (bJ.trans a0)
  have cT := (cJ.ext bQ)
  have dj := (Df cT aO).symm
  have bR := (cT.ext aM)
  have cU := (((cJ.ext xc).but X45 dj).but X74 (Mj aN dj bR))
  refine Lo 2 rfl rfl rfl ti_22 ag_22 rfl d5 d cU fun gP d6 => ?_
  have cV := d6.slice
  obtain ⟨aQ, aR, rfl⟩ := cV.shape
  refine Lv ok 3 [(11, I aA), (12, sl aQ aF aR)] 5 rfl rfl (Ln _ rfl (Wq (Wg (Lv ok 0 [(45, sl aQ aF aR), (46, I (ln aF)), (47, I 0)] 3 rfl rfl (Ln _ rfl (W_block ?_))))))
  obtain ⟨J103, d7, Hx105, H⟩ := H
  refine W_loop (S := (List (List Int)) × Int) (fun s ρ' w' => J103 s.1 s.2 ∧ ∃ (ρ : Env) (aJ : PH), ρ' = setAll [(2, I fixed), (3, pb b), (7, I (ln t.Rows)), (8, I (ln t.Cols)), (9, .slice aC (List.length (List.replicate (Int.toNat (wr ((ln t.Rows) + (ln t.Cols)))) (([] : List Int)))) aD), (11, I aA), (38, sl aK x aL), (39, I (ln x)), (40, I aA), (45, sl aQ aF aR), (46, I (ln aF)), (47, I s.2)] ρ ∧ But aI bO w' ∧ OD aJ (.slice aC (List.length (List.replicate (Int.toNat (wr ((ln t.Rows) + (ln t.Cols)))) (([] : List Int)))) aD) s.1 ∧ Sub aJ w' ∧ DomLe aI bO.heap.size aJ) (fun s => d7 s.1 s.2) (cQ, 0) ⟨Hx105, _, aI, Ee ⟨rfl, rfl, rfl, rfl, rfl, rfl, rfl, rfl, rfl, rfl, rfl, rfl, trivial⟩, (Br _ _), cR, cS, (Oe (Or _) _)⟩ ?_
  rintro ⟨a8, aB⟩ _ cW ⟨Hi, ρ, aJ, rfl, X102, bS, bT, a9⟩
  have H := H a8 aB Hi
  refine Wq (Wg (Lv ok 0 [(48, .bool (decide (aB < (ln aF))))] 1 rfl rfl (Ln _ rfl (Wq ?_))))
  refine Wc (decide (aB < (ln aF))) rfl (fun bU => ?_) (fun bU => ?_)
  ·have H := H.1 bU
   refine Wk ?_
   have cX := (cB.ext bQ)
   have bV := (Df cX aO).symm
   have cY := (cX.ext aM)
   have bW := (Mj aN bV cY)
   have cZ := (cY.but X45 bV)
   have c0 := (Mj aP bW cZ)
   have c1 := (cF.ext bQ)
   have bX := (Df c1 aO).symm
   have c2 := (c1.ext aM)
   have c3 := (Mj aN bX c2)
   have c4 := (a7.ext a0)
   have bY := (Df c4 aO).symm
   have c5 := (c4.ext aM)
   have bZ := (Mj aN bY c5)
   have c6 := (c5.but X45 bY)
   have c7 := (Mj aP bZ c6)
   obtain ⟨k, hk, H⟩ := jn_elim H
   refine W_join2 (S := (List (List Int))) (fun s ρ' w' => k s ∧ ∃ (ρ : Env) (a2 : PH), ρ' = setAll [(2, I fixed), (3, pb b), (7, I (ln t.Rows)), (8, I (ln t.Cols)), (9, .slice aC (List.length (List.replicate (Int.toNat (wr ((ln t.Rows) + (ln t.Cols)))) (([] : List Int)))) aD), (11, I aA), (38, sl aK x aL), (39, I (ln x)), (40, I aA), (45, sl aQ aF aR), (46, I (ln aF)), (47, I aB)] ρ ∧ But aJ cW w' ∧ OD a2 (.slice aC (List.length (List.replicate (Int.toNat (wr ((ln t.Rows) + (ln t.Cols)))) (([] : List Int)))) aD) s ∧ Sub a2 w' ∧ DomLe aJ cW.heap.size a2) ?_ ?_
   ·refine W_block (Wq (Wg (Lv ok 0 [(49, I aB)] 1 rfl rfl ?_)))
    obtain ⟨aE, d8, d9, H⟩ := H
    refine Li 1 rfl rfl rfl Try.underlying22 ti_3 rfl rfl cV d8 d9 fun gQ gR eA eB => (Lo 2 rfl rfl rfl ti_3 ag_3 rfl eA eB (cU.but X102 (Mj aP (Mj aN dj bR) (bR.but X45 dj))) fun gS eC => ?_)
    obtain rfl := eC.int
    refine Lv ok 3 [(13, I aB), (14, I aE)] 5 rfl rfl (Ln _ rfl (Wq (Wg (Lv ok 0 [(52, I aA), (53, I (ln t.Cols)), (54, I (wr (aA * (ln t.Cols)))), (55, I aB), (56, I (wr ((wr (aA * (ln t.Cols))) + aB))), (57, I fixed), (58, .bool (decide ((wr ((wr (aA * (ln t.Cols))) + aB)) > fixed)))] 7 rfl rfl (Ln _ rfl ?_)))))
    refine Wc (decide ((wr ((wr (aA * (ln t.Cols))) + aB)) > fixed)) rfl (fun b0 => ?_) (fun b0 => ?_)
    ·have H := H.1 b0
     refine Wq ?_
     refine W_open mix fun gT bA => ?_
     refine AP_game 17 [[], [], [0, 1], [0, 1, 2], [], [], [4, 5], [], [7], [], [7, 8, 9], [7, 8, 9, 10], [], [7, 8, 9, 10, 11, 12], [7, 8, 9, 10, 11, 12, 13], [], [7, 8, 9, 10, 11, 12, 13, 14, 15], [0, 1, 2, 3, 4, 5, 6, 7, 8, 9, 10, 11, 12, 13, 14, 15, 16], [0, 1, 2, 3, 4, 5, 6, 7, 8, 9, 10, 11, 12, 13, 14, 15, 16, 17]] [[(9, none)], [(11, none)], [(59, some 0), (60, some 1)], [(61, some 2)], [(7, none)], [(13, none)], [(63, some 4), (64, some 5)], [(3, none)], [(66, some 7)], [(11, none)], [(67, some 8), (68, some 9)], [(69, some 10)], [(13, none)], [(70, some 11), (71, some 12)], [(72, some 13)], [(14, none)], [(73, some 14), (74, some 15)]] [(2, none), (3, none), (7, none), (8, none), (9, none), (11, none), (13, none), (14, none), (38, none), (39, none), (40, none), (45, none), (46, none), (47, none), (62, some 3), (65, some 6), (75, some 16)] [(0, false), (1, false), (2, false), (3, false), (4, false), (5, false), (6, false), (7, false), (8, false), (9, false), (10, false), (11, false), (12, false), (13, false), (14, false), (15, false), (16, false)] (by kernel_rfl) (by kernel_rfl) ?_
     refine GS_ev ok [(9, .slice aC (List.length (List.replicate (Int.toNat (wr ((ln t.Rows) + (ln t.Cols)))) (([] : List Int)))) aD)] (.slice aC (List.length (List.replicate (Int.toNat (wr ((ln t.Rows) + (ln t.Cols)))) (([] : List Int)))) aD) rfl rfl (fun _ h => h) (fun _ => rfl) ?_
     refine GS_ev ok [(11, I aA)] (I aA) rfl rfl (fun _ h => h) (fun _ => rfl) ?_
     obtain ⟨aS, eD, eE, H⟩ := H
     obtain ⟨c8, u, eF, rest, eG, eH, bw⟩ := run_indexb Try.underlying23 ti_22 bS _ eD eE
     refine GS_r0 [(59, .slice aC (List.length (List.replicate (Int.toNat (wr ((ln t.Rows) + (ln t.Cols)))) (([] : List Int)))) aD), (60, I aA)] (.pointer (some c8)) rfl rfl (fun _ h => h) (fun _ _ => ex_index rfl rfl rfl (eG _)) ?_
     have c9 := bw.od
     obtain ⟨bB, bC, rfl⟩ := c9.shape
     have b1 := (bT.ext bA)
     have eI := Sub.le b1 bw.le
     have eJ : OS 3 eF emp (sl bB aS bC) aS := OD.flat c9
     refine GS_r1 [(61, .pointer (some c8))] (sl bB aS bC) rfl rfl (fun _ h => h) (fun _ w e => ex_ldcell rfl ti_22 ag_22 rfl eH e) b1 ?_
     refine GS_ev ok [(7, I (ln t.Rows))] (I (ln t.Rows)) rfl rfl (fun _ h => h) (fun _ => rfl) ?_
     refine GS_ev ok [(13, I aB)] (I aB) rfl rfl (fun _ h => h) (fun _ => rfl) ?_
     refine GS_ev ok [(63, I (ln t.Rows)), (64, I aB)] (I (wr ((ln t.Rows) + aB))) rfl rfl (fun _ h => h) (fun _ => rfl) ?_
     refine GS_ev ok [(3, pb b)] (.pointer (some ⟨b, 3, none⟩)) rfl rfl (fun _ h => h) (fun _ => rfl) ?_
     have dA := (((((a7.ext (a0.trans aM)).but X45 bY).but X74 bZ).but X102 c7).ext bA)
     refine GS_r1 [(66, .pointer (some ⟨b, 3, none⟩))] (sl aY t.Hi aZ) rfl rfl (fun _ h => h) (fun _ w e => ex_ldbox rfl ti_23 ag_23 (fun _ => rfl) rfl e rfl rfl) dA ?_
     refine GS_ev ok [(11, I aA)] (I aA) rfl rfl (fun _ h => h) (fun _ => rfl) ?_
     obtain ⟨b2, eK, eL, H⟩ := H
     obtain ⟨dB, gU, eM, eN, eO⟩ := run_indexAt Try.underlying23 ti_22 cE .i64 _ b2 eK eL
     refine GS_r0 [(67, sl aY t.Hi aZ), (68, I aA)] (.pointer (some dB)) rfl rfl (fun _ h => h) (fun _ _ => ex_index rfl rfl rfl (eM _)) ?_
     obtain ⟨gV, eP, eQ⟩ := run_loadAt ti_22 ag_22 eN eO
     have dC := eQ.slice
     obtain ⟨dD, dE, rfl⟩ := dC.shape
     have dF := (((((cF.ext xc).but X45 bX).but X74 c3).but X102 (Mj aP c3 (c2.but X45 bX))).ext bA)
     refine GS_r1 [(69, .pointer (some dB))] (sl dD b2 dE) rfl rfl (fun _ h => h) (fun _ w e => ex_load rfl rfl (eP w e)) dF ?_
     refine GS_ev ok [(13, I aB)] (I aB) rfl rfl (fun _ h => h) (fun _ => rfl) ?_
     obtain ⟨aT, eR, eS, H⟩ := H
     obtain ⟨dG, gW, eT, eU, eV⟩ := run_indexAt Try.underlying22 ti_3 dC .i64 _ aT eR eS
     refine GS_r0 [(70, sl dD b2 dE), (71, I aB)] (.pointer (some dG)) rfl rfl (fun _ h => h) (fun _ _ => ex_index rfl rfl rfl (eT _)) ?_
     obtain ⟨gX, eW, eX⟩ := run_loadAt ti_3 ag_3 eU eV
     obtain rfl := eX.int
     refine GS_r1 [(72, .pointer (some dG))] (I aT) rfl rfl (fun _ h => h) (fun _ w e => ex_load rfl rfl (eW w e)) dF ?_
     refine GS_ev ok [(14, I aE)] (I aE) rfl rfl (fun _ h => h) (fun _ => rfl) ?_
     refine GS_ev ok [(73, I aT), (74, I aE)] (I (wr (aT - aE))) rfl rfl (fun _ h => h) (fun _ => rfl) ?_
     intro gY bD ρ eY
     refine AP_forget [(2, I fixed), (3, pb b), (7, I (ln t.Rows)), (8, I (ln t.Cols)), (9, .slice aC (List.length (List.replicate (Int.toNat (wr ((ln t.Rows) + (ln t.Cols)))) (([] : List Int)))) aD), (11, I aA), (13, I aB), (14, I aE), (38, sl aK x aL), (39, I (ln x)), (40, I aA), (45, sl aQ aF aR), (46, I (ln aF)), (47, I aB), (62, sl bB aS bC), (65, I (wr ((ln t.Rows) + aB))), (75, I (wr (aT - aE)))] (by exact eY) fun ρ => ?_
     refine AP_tail 17 [[], [], [0, 1], [0, 1, 2], [], [], [4, 5], [], [7], [], [7, 8, 9], [7, 8, 9, 10], [], [7, 8, 9, 10, 11, 12], [7, 8, 9, 10, 11, 12, 13], [], [7, 8, 9, 10, 11, 12, 13, 14, 15], [0, 1, 2, 3, 4, 5, 6, 7, 8, 9, 10, 11, 12, 13, 14, 15, 16], [0, 1, 2, 3, 4, 5, 6, 7, 8, 9, 10, 11, 12, 13, 14, 15, 16, 17]] (by kernel_rfl) ?_
     obtain ⟨eZ, e0, H⟩ := H
     refine LP_indexw (v := sl bB aS bC) 17 rfl rfl rfl Try.underlying22 ti_3 rfl rfl eJ eZ e0 fun gZ e1 => (LP_set 18 rfl rfl rfl rfl rfl e1 (Le.refl emp) ⟨_, rfl, rfl⟩ (eI.ext bD) fun g0 g1 e2 e3 dH e4 => ?_)
     obtain ⟨g2, e5, dd⟩ := BwL.turn bw (OS.od e2) (Dom.of e4)
     have e6 := BwL.sub bw (b1.ext bD) e3 dH
     have bE := BwL.but bw dH
     refine Ln _ rfl ?_
     refine W_open mix fun g3 bF => ?_
     refine AP_game 17 [[], [], [], [1, 2], [0, 1, 2, 3], [0, 1, 2, 3, 4], [], [], [], [8], [], [8, 9, 10], [8, 9, 10, 11], [], [8, 9, 10, 11, 12, 13], [8, 9, 10, 11, 12, 13, 14], [7, 8, 9, 10, 11, 12, 13, 14, 15], [0, 1, 2, 3, 4, 5, 6, 7, 8, 9, 10, 11, 12, 13, 14, 15, 16], [0, 1, 2, 3, 4, 5, 6, 7, 8, 9, 10, 11, 12, 13, 14, 15, 16, 17]] [[(9, none)], [(7, none)], [(13, none)], [(78, some 1), (79, some 2)], [(77, some 0), (80, some 3)], [(81, some 4)], [(11, none)], [(14, none)], [(3, none)], [(85, some 8)], [(11, none)], [(86, some 9), (87, some 10)], [(88, some 11)], [(13, none)], [(89, some 12), (90, some 13)], [(91, some 14)], [(84, some 7), (92, some 15)]] [(2, none), (3, none), (7, none), (8, none), (9, none), (11, none), (38, none), (39, none), (40, none), (45, none), (46, none), (47, none), (82, some 5), (83, some 6), (93, some 16)] [(0, false), (1, false), (2, false), (3, false), (4, false), (5, false), (6, false), (7, false), (8, false), (9, false), (10, false), (11, false), (12, false), (13, false), (14, false), (15, false), (16, false)] (by kernel_rfl) (by kernel_rfl) ?_
     refine GS_ev ok [(9, .slice aC (List.length (List.replicate (Int.toNat (wr ((ln t.Rows) + (ln t.Cols)))) (([] : List Int)))) aD)] (.slice aC (List.length (List.replicate (Int.toNat (wr ((ln t.Rows) + (ln t.Cols)))) (([] : List Int)))) aD) rfl rfl (fun _ h => h) (fun _ => rfl) ?_
     refine GS_ev ok [(7, I (ln t.Rows))] (I (ln t.Rows)) rfl rfl (fun _ h => h) (fun _ => rfl) ?_
     refine GS_ev ok [(13, I aB)] (I aB) rfl rfl (fun _ h => h) (fun _ => rfl) ?_
     refine GS_ev ok [(78, I (ln t.Rows)), (79, I aB)] (I (wr ((ln t.Rows) + aB))) rfl rfl (fun _ h => h) (fun _ => rfl) ?_
     obtain ⟨aU, e7, e8, H⟩ := H
     obtain ⟨dI, g4, e9, fA, fB, fC, a3⟩ := run_indexb Try.underlying23 ti_22 e5 _ e7 e8
     refine GS_r0 [(77, .slice aC (List.length (List.replicate (Int.toNat (wr ((ln t.Rows) + (ln t.Cols)))) (([] : List Int)))) aD), (80, I (wr ((ln t.Rows) + aB)))] (.pointer (some dI)) rfl rfl (fun _ h => h) (fun _ _ => ex_index rfl rfl rfl (fB _)) ?_
     have dJ := a3.od
     obtain ⟨bG, bH, rfl⟩ := dJ.shape
     have b3 := (e6.ext bF)
     have fD := Sub.le b3 a3.le
     have fE : OS 3 e9 emp (sl bG aU bH) aU := OD.flat dJ
     refine GS_r1 [(81, .pointer (some dI))] (sl bG aU bH) rfl rfl (fun _ h => h) (fun _ w e => ex_ldcell rfl ti_22 ag_22 rfl fC e) b3 ?_
     refine GS_ev ok [(11, I aA)] (I aA) rfl rfl (fun _ h => h) (fun _ => rfl) ?_
     refine GS_ev ok [(14, I aE)] (I aE) rfl rfl (fun _ h => h) (fun _ => rfl) ?_
     refine GS_ev ok [(3, pb b)] (.pointer (some ⟨b, 2, none⟩)) rfl rfl (fun _ h => h) (fun _ => rfl) ?_
     refine GS_r1 [(85, .pointer (some ⟨b, 2, none⟩))] (sl aW t.Lo aX) rfl rfl (fun _ h => h) (fun _ w e => ex_ldbox rfl ti_23 ag_23 (fun _ => rfl) rfl e rfl rfl) (((dA.ext bD).but bE (Mj a9 c7 (c6.but X74 bZ))).ext bF) ?_
     refine GS_ev ok [(11, I aA)] (I aA) rfl rfl (fun _ h => h) (fun _ => rfl) ?_
     obtain ⟨b4, fF, fG, H⟩ := H
     obtain ⟨dK, g5, fH, fI, fJ⟩ := run_indexAt Try.underlying23 ti_22 cA .i64 _ b4 fF fG
     refine GS_r0 [(86, sl aW t.Lo aX), (87, I aA)] (.pointer (some dK)) rfl rfl (fun _ h => h) (fun _ _ => ex_index rfl rfl rfl (fH _)) ?_
     obtain ⟨g6, fK, fL⟩ := run_loadAt ti_22 ag_22 fI fJ
     have dL := fL.slice
     obtain ⟨dM, dN, rfl⟩ := dL.shape
     have a4 := (bA.trans bD)
     have dO := (((((((cB.ext xc).but X45 bV).but X74 bW).but X102 c0).ext a4).but bE (Mj a9 c0 (cZ.but X74 bW))).ext bF)
     refine GS_r1 [(88, .pointer (some dK))] (sl dM b4 dN) rfl rfl (fun _ h => h) (fun _ w e => ex_load rfl rfl (fK w e)) dO ?_
     refine GS_ev ok [(13, I aB)] (I aB) rfl rfl (fun _ h => h) (fun _ => rfl) ?_
     obtain ⟨aV, fM, fN, H⟩ := H
     obtain ⟨dP, g7, fO, fP, fQ⟩ := run_indexAt Try.underlying22 ti_3 dL .i64 _ aV fM fN
     refine GS_r0 [(89, sl dM b4 dN), (90, I aB)] (.pointer (some dP)) rfl rfl (fun _ h => h) (fun _ _ => ex_index rfl rfl rfl (fO _)) ?_
     obtain ⟨g8, fR, fS⟩ := run_loadAt ti_3 ag_3 fP fQ
     obtain rfl := fS.int
     refine GS_r1 [(91, .pointer (some dP))] (I aV) rfl rfl (fun _ h => h) (fun _ w e => ex_load rfl rfl (fR w e)) dO ?_
     refine GS_ev ok [(84, I aE), (92, I aV)] (I (wr (aE - aV))) rfl rfl (fun _ h => h) (fun _ => rfl) ?_
     intro g9 b5 ρ fT
     refine AP_forget [(2, I fixed), (3, pb b), (7, I (ln t.Rows)), (8, I (ln t.Cols)), (9, .slice aC (List.length (List.replicate (Int.toNat (wr ((ln t.Rows) + (ln t.Cols)))) (([] : List Int)))) aD), (11, I aA), (38, sl aK x aL), (39, I (ln x)), (40, I aA), (45, sl aQ aF aR), (46, I (ln aF)), (47, I aB), (82, sl bG aU bH), (83, I aA), (93, I (wr (aE - aV)))] (by exact fT) fun ρ => ?_
     refine AP_tail 17 [[], [], [], [1, 2], [0, 1, 2, 3], [0, 1, 2, 3, 4], [], [], [], [8], [], [8, 9, 10], [8, 9, 10, 11], [], [8, 9, 10, 11, 12, 13], [8, 9, 10, 11, 12, 13, 14], [7, 8, 9, 10, 11, 12, 13, 14, 15], [0, 1, 2, 3, 4, 5, 6, 7, 8, 9, 10, 11, 12, 13, 14, 15, 16], [0, 1, 2, 3, 4, 5, 6, 7, 8, 9, 10, 11, 12, 13, 14, 15, 16, 17]] (by kernel_rfl) ?_
     obtain ⟨fU, fV, H⟩ := H
     refine LP_indexw (v := sl bG aU bH) 17 rfl rfl rfl Try.underlying22 ti_3 rfl rfl fE fU fV fun hA fW => (LP_set 18 rfl rfl rfl rfl rfl fW (Le.refl emp) ⟨_, rfl, rfl⟩ (fD.ext b5) fun fX hB fY fZ dQ f0 => ?_)
     obtain ⟨hC, f1, f2⟩ := BwL.turn a3 (OS.od fY) (Dom.of f0)
     have f3 := BwL.sub a3 (b3.ext b5) fZ dQ
     have f4 := BwL.but a3 dQ
     refine Ln _ rfl ?_
     have dR := (bF.trans b5)
     exact ⟨List.set (List.set a8 (Int.toNat aA) (List.set aS (Int.toNat (wr ((ln t.Rows) + aB))) (wr (aT - aE)))) (Int.toNat (wr ((ln t.Rows) + aB))) (List.set aU (Int.toNat aA) (wr (aE - aV))), H, _, (un fX fA), Ee ⟨rfl, rfl, rfl, rfl, rfl, rfl, rfl, rfl, rfl, rfl, rfl, rfl, trivial⟩, (((((Br aJ _).stepx a4).step bE (Oe (Or _) _)).stepx dR).step f4 (Mt (Oe (Or _) _) ((fun n => Oe dd n) _) a4.size)), f1, f3, (Mt (Mt (Oe (Or _) _) ((fun n => Oe dd n) _) a4.size) ((fun n => Oe f2 n) _) (Nat.le_trans (Nat.le_trans a4.size bE.size) dR.size))⟩
    have H := H.2 b0
    exact Wk ⟨a8, H, _, aJ, Ee ⟨rfl, rfl, rfl, rfl, rfl, rfl, rfl, rfl, rfl, rfl, rfl, rfl, trivial⟩, (Br _ _), bS, bT, (Oe (Or _) _)⟩
   rintro f5 _ hD ⟨H, ρ, a2, rfl, X167, f6, f7, f8⟩
   subst hk
   refine Wg (Lv ok 0 [(95, I (wr (aB + 1))), (47, I (wr (aB + 1)))] 2 rfl rfl (Ln _ rfl ?_))
   have dS : DomLe aI bO.heap.size aJ := (Mt (Oe (Or _) _) a9 (Nat.le_refl _))
   exact ⟨(f5, wr (aB + 1)), ⟨H.1, _, a2, Ee ⟨rfl, rfl, rfl, rfl, rfl, rfl, rfl, rfl, rfl, rfl, rfl, rfl, trivial⟩, (((Br aI _).step X102 (Oe (Or _) _)).step X167 dS), f6, f7, (Mt dS f8 X102.size)⟩, H.2⟩
  have H := H.2 bU
  refine W_exit ?_
  refine (if_pos rfl).mpr ?_
  refine Wg (Lv ok 0 [(96, I (wr (aA + 1))), (40, I (wr (aA + 1)))] 2 rfl rfl (Ln _ rfl ?_))
  have dT : DomLe aG bM.heap.size aI := (Mt (Oe (Or _) _) aP (Nat.le_refl _))
  exact ⟨(a8, wr (aA + 1)), ⟨H.1, _, aJ, Ee ⟨rfl, rfl, rfl, rfl, rfl, rfl, rfl, rfl, trivial⟩, (((Br aG _).step X74 (Oe (Or _) _)).step X102 dT), bS, bT, (Mt dT a9 X74.size)⟩, H.2⟩
 have H := H.2 bP
 refine W_exit ?_
 refine (if_pos rfl).mpr ?_
 refine Wq (Wg (Lv ok 0 [(97, .slice aC (List.length (List.replicate (Int.toNat (wr ((ln t.Rows) + (ln t.Cols)))) (([] : List Int)))) aD), (6, .slice aC (List.length (List.replicate (Int.toNat (wr ((ln t.Rows) + (ln t.Cols)))) (([] : List Int)))) aD)] 2 rfl rfl (Ln _ rfl (W_ret ?_))))
 have X318 := (X.stepx (bJ.trans a0))
 have f9 := aO.mono X318.size
 have X320 := (X318.stepx aM)
 have dU := DomLe.fresh aN f9 X320.size
 have gA := aO.mono X318.size
 have X323 := (X320.step X45 (gA.dom _))
 have gB := DomLe.fresh aP dU X323.size
 exact ⟨_, Ret_of [.slice aC (List.length (List.replicate (Int.toNat (wr ((ln t.Rows) + (ln t.Cols)))) (([] : List Int)))) aD] ⟨⟨rfl, rfl⟩, trivial⟩, _, _, _, H, rfl, (X323.step X74 (dU.dom _)).ext, cR, cS, gB⟩

theorem impl_push_w (r : List (List Int)) (fromx : Int) (to : Int) (limit : Int) (Q : Int → (List (List Int)) → Prop) (H : impl_push r fromx to limit Q) (w : World) {vx : Value} {hx : PH} (cV : OD hx vx r) (ex : Sub hx w) :
  CallsTo Try.prog 90 #[vx, I fromx, I to, I limit] w fun v w' => ∃ cW cX bW, Q cW cX ∧ v = I cW ∧ But hx w w' ∧ OD bW vx cX ∧ Sub bW w' ∧ (∀ n, DomLe hx n bW) := by
 obtain ⟨a, c, rfl⟩ := cV.shape
 refine enter (args := [sl a r c, I fromx, I to, I limit]) 149 Try.func90 rfl rfl rfl ?_
 refine Wo [(0, sl a r c), (1, I fromx), (2, I to), (3, I limit)] ⟨rfl, rfl, rfl, rfl, trivial⟩ fun ρ => ?_
 have D : Dom hx hx := (Or _)
 have X := Br hx w
 refine Wq (Wg (Lv ok 0 [(8, I 0)] 1 rfl rfl (Ln _ rfl (Wq (Wg (Lv ok 0 [(9, I 0)] 1 rfl rfl (Ln _ rfl ?_)))))))
 obtain ⟨k, hk, H⟩ := jn_elim H
 refine W_join2 (S := Int × (List (List Int))) (fun s ρ' w' => k s.1 s.2 ∧ ∃ (ρ : Env) (bA : PH), ρ' = setAll [(9, I s.1)] ρ ∧ But hx w w' ∧ OD bA (sl a r c) s.2 ∧ Sub bA w' ∧ (∀ n, DomLe hx n bA)) ?_ ?_
 ·refine W_block ?_
  obtain ⟨J, m, Hx, H⟩ := H
  refine W_loop (S := (List (List Int)) × Int) (fun s ρ' w' => J s.1 s.2 ∧ ∃ (ρ : Env) (aF : PH), ρ' = setAll [(0, sl a r c), (1, I fromx), (2, I to), (3, I limit), (9, I s.2)] ρ ∧ But hx w w' ∧ OD aF (sl a r c) s.1 ∧ Sub aF w' ∧ (∀ n, DomLe hx n aF)) (fun s => m s.1 s.2) (r, 0) ⟨Hx, _, hx, Ee ⟨rfl, rfl, rfl, rfl, rfl, trivial⟩, (Br _ _), cV, ex, (fun _ => DomLe.refl _ _)⟩ ?_
  rintro ⟨bB, aC⟩ _ iS ⟨Hi, ρ, aF, rfl, X15, a0, bC, bD⟩
  have H := H bB aC Hi
  refine Wq (Wq (Wg (Lv ok 0 [(19, I aC), (20, I limit), (21, .bool (decide (aC < limit)))] 3 rfl rfl (Ln _ rfl ?_))))
  refine Wc (decide (aC < limit)) rfl (fun hc => ?_) (fun hc => ?_)
  ·have H := H.1 hc
   refine Wk (W_block (Wq (Wg (Lv ok 0 [(22, sl a r c), (23, I (ln r))] 2 rfl rfl ?_))))
   obtain ⟨hn, hb, H⟩ := H
   refine LP_make (α := Int) 2 rfl rfl rfl Try.underlying22 ti_3 (x0 := (0 : Int)) rfl rfl hn (by first | omega | (simp only [ln] at *; omega)) (by first | omega | (simp only [ln] at *; omega)) fun a1 iT bX x cY eL a2 => ?_
   obtain ⟨aA, aB, rfl⟩ := cY.shape
   refine Lv ok 3 [(10, .slice aA (List.length (List.replicate (Int.toNat (ln r)) ((0 : Int)))) aB)] 4 rfl rfl (Ln _ rfl (Wq (Wq (Wg (Lv ok 0 [(25, .slice aA (List.length (List.replicate (Int.toNat (ln r)) ((0 : Int)))) aB), (26, I (ln (List.replicate (Int.toNat (ln r)) ((0 : Int))))), (27, I 0)] 3 rfl rfl (Ln _ rfl (W_block ?_)))))))
   obtain ⟨J32, eM, Hx34, H⟩ := H
   refine W_loop (S := (List Int) × Int) (fun s ρ' w' => J32 s.1 s.2 ∧ ∃ (ρ : Env) (aP : PH), ρ' = setAll [(0, sl a r c), (1, I fromx), (2, I to), (3, I limit), (9, I aC), (10, .slice aA (List.length (List.replicate (Int.toNat (ln r)) ((0 : Int)))) aB), (26, I (ln (List.replicate (Int.toNat (ln r)) ((0 : Int))))), (27, I s.2)] ρ ∧ But a1 bX w' ∧ OS 3 aP emp (.slice aA (List.length (List.replicate (Int.toNat (ln r)) ((0 : Int)))) aB) s.1 ∧ Sub aP w' ∧ DomLe a1 bX.heap.size aP) (fun s => eM s.1 s.2) (List.replicate (Int.toNat (ln r)) ((0 : Int)), 0) ⟨Hx34, _, a1, Ee ⟨rfl, rfl, rfl, rfl, rfl, rfl, rfl, rfl, trivial⟩, (Br _ _), cY, eL, (Oe (Or _) _)⟩ ?_
   rintro ⟨back, aG⟩ _ iU ⟨Hi, ρ, aP, rfl, X31, cZ, c0, bE⟩
   have H := H back aG Hi
   refine Wq (Wg (Lv ok 0 [(28, .bool (decide (aG < (ln (List.replicate (Int.toNat (ln r)) ((0 : Int)))))))] 1 rfl rfl (Ln _ rfl (Wq ?_))))
   refine Wc (decide (aG < (ln (List.replicate (Int.toNat (ln r)) ((0 : Int)))))) rfl (fun bY => ?_) (fun bY => ?_)
   ·have H := H.1 bY
    refine Wk (Wq (W_block (Wq (Wg (Lv ok 0 [(29, I aG), (11, I aG)] 2 rfl rfl (Ln _ rfl (Wg ?_)))))))
    refine Lv ok 0 [(30, .slice aA (List.length (List.replicate (Int.toNat (ln r)) ((0 : Int)))) aB), (31, I aG)] 2 rfl rfl ?_
    obtain ⟨hi, hl, H⟩ := H
    refine LP_indexw (v := .slice aA (List.length (List.replicate (Int.toNat (ln r)) ((0 : Int)))) aB) 2 rfl rfl rfl Try.underlying22 ti_3 rfl rfl cZ hi hl fun iV wa => (LP_set 3 rfl rfl rfl rfl rfl wa (Le.refl emp) ⟨_, rfl, rfl⟩ c0 fun eN iW eO eP y dm => (Ln _ rfl (Wg (Lv ok 0 [(33, I (wr (aG + 1))), (27, I (wr (aG + 1)))] 2 rfl rfl (Ln _ rfl ?_)))))
    have dl : DomLe a1 bX.heap.size aP := (Mt (Oe (Or _) _) bE (Nat.le_refl _))
    exact ⟨(List.set back (Int.toNat aG) ((-1)), wr (aG + 1)), ⟨H.1, _, eN, Ee ⟨rfl, rfl, rfl, rfl, rfl, rfl, rfl, rfl, trivial⟩, (((Br a1 _).step X31 (Oe (Or _) _)).step y dl), eO, eP, (Mt dl (dm _) X31.size)⟩, H.2⟩
   have H := H.2 bY
   refine W_exit ?_
   refine (if_pos rfl).mpr ?_
   refine Wq (Wg (Lv ok 0 [(34, .slice aA (List.length (List.replicate (Int.toNat (ln r)) ((0 : Int)))) aB), (35, I fromx), (36, I fromx)] 3 rfl rfl ?_))
   obtain ⟨eQ, eR, H⟩ := H
   refine LP_indexw (v := .slice aA (List.length (List.replicate (Int.toNat (ln r)) ((0 : Int)))) aB) 3 rfl rfl rfl Try.underlying22 ti_3 rfl rfl cZ eQ eR fun iX eS => (LP_set 4 rfl rfl rfl rfl rfl eS (Le.refl emp) ⟨_, rfl, rfl⟩ c0 fun bZ iY eT c1 aV b0 => (Ln _ rfl (Wq (Wg (Lv ok 0 [(38, I fromx)] 1 rfl rfl (LP_lit (α := Int) (g := emp) 1 (vs := [I fromx]) (xs := [fromx]) rfl rfl rfl Try.underlying22 ti_3 rfl rfl ⟨⟨_, rfl, rfl⟩, trivial⟩ rfl rfl fun b1 iZ bF aW c2 eU bG => ?_))))))
   obtain ⟨c3, c4, rfl⟩ := c2.shape
   refine Lv ok 2 [(12, .slice c3 (List.length ([fromx])) c4)] 3 rfl rfl (Ln _ rfl (Wq (W_block ?_)))
   obtain ⟨U, hU⟩ : ∃ U : PH, U = (un bZ b1) := ⟨_, rfl⟩
   have D74 : Dom U bZ := Dom.eqv hU (Dom.l _ _)
   have D75 : Dom U b1 := Dom.eqv hU (Ot (Dom.r _ _) (Or _))
   have dj := (Df c1 bG).symm
   obtain ⟨J79, eV, Hx81, H⟩ := H
   refine W_loop (S := (List Int) × (List Int)) (fun s ρ' w' => J79 s.1 s.2 ∧ ∃ (ρ : Env) (aL : PH) (b2 : Value) (aM : PH), ρ' = setAll [(0, sl a r c), (1, I fromx), (2, I to), (3, I limit), (9, I aC), (10, .slice aA (List.length (List.replicate (Int.toNat (ln r)) ((0 : Int)))) aB), (12, b2)] ρ ∧ But U bF w' ∧ OS 3 aL emp (.slice aA (List.length (List.replicate (Int.toNat (ln r)) ((0 : Int)))) aB) s.1 ∧ Sub aL w' ∧ DomLe U bF.heap.size aL ∧ OT aM b2 s.2 ∧ Sub aM w' ∧ DomLe U bF.heap.size aM ∧ Dj aM aL) (fun s => eV s.1 s.2) (List.set back (Int.toNat fromx) fromx, [fromx]) ⟨Hx81, _, bZ, .slice c3 (List.length ([fromx])) c4, b1, Ee ⟨rfl, rfl, rfl, rfl, rfl, rfl, rfl, trivial⟩, (Br _ _), eT, (c1.ext aW), (Oe D74 _), (OS.ot c2), eU, (Oe D75 _), dj⟩ ?_
   rintro ⟨c5, queue⟩ _ aN ⟨Hi, ρ, aL, b2, aM, rfl, HF⟩
   revert HF
   refine bb8 fun X78 aO aQ b3 b4 c6 c7 d => ?_
   have H := H c5 queue Hi
   obtain ⟨bH, bI, rfl⟩ := b4.shape
   refine Wq ?_
   have b5 := (Df bC a2).symm
   have c8 := (bC.ext x)
   have b6 := (Mj bE b5 c8)
   have c9 := (c8.but X31 b5)
   have b7 := (c9.but aV b6)
   have eW := (Df b7 bG).symm
   have bJ := (Dl (Mj (b0 _) b6 c9) eW)
   have aX := (((((bC.ext x).but X31 b5).but aV b6).ext aW).but X78 (Dj.eqv hU bJ))
   obtain ⟨eX, eY, H⟩ := jn_elim H
   refine W_join2 (S := Bool) (fun s ρ' w' => eX s ∧ ∃ (ρ : Env), ρ' = setAll [(0, sl a r c), (1, I fromx), (2, I to), (3, I limit), (9, I aC), (10, .slice aA (List.length (List.replicate (Int.toNat (ln r)) ((0 : Int)))) aB), (12, sl bH queue bI), (49, .bool s)] ρ ∧ aN = w') ?_ ?_
   ·refine Wg (Lv ok 0 [(40, sl bH queue bI), (41, I (ln queue)), (42, .bool (decide ((ln queue) > 0))), (43, .bool (decide ((ln queue) > 0)))] 4 rfl rfl ?_)
    refine LP_split 43 (decide ((ln queue) > 0)) rfl (fun b8 => ?_) (fun b8 => ?_)
    ·have H := H.1 b8
     refine Lv ok 4 [(44, .slice aA (List.length (List.replicate (Int.toNat (ln r)) ((0 : Int)))) aB), (45, I to)] 6 rfl rfl ?_
     obtain ⟨b9, eZ, e0, H⟩ := H
     refine Li 6 rfl rfl rfl Try.underlying22 ti_3 rfl rfl aO.readf eZ e0 fun i0 cs e1 e2 => (Lo 7 rfl rfl rfl ti_3 ag_3 rfl e1 e2 aQ fun i1 e3 => ?_)
     obtain rfl := e3.int
     refine Lv ok 8 [(48, .bool (decide (b9 < 0))), (49, .bool (decide (b9 < 0)))] 10 rfl rfl ?_
     exact Ln _ rfl ⟨decide (b9 < 0), H, _, Ee ⟨rfl, rfl, rfl, rfl, rfl, rfl, rfl, rfl, trivial⟩, rfl⟩
    have H := H.2 b8
    refine Lv ok 4 [(44, undef), (45, undef), (46, undef), (47, undef), (48, undef), (49, .bool false)] 10 rfl rfl ?_
    exact Ln _ rfl ⟨false, H, _, Ee ⟨rfl, rfl, rfl, rfl, rfl, rfl, rfl, rfl, trivial⟩, rfl⟩
   rintro e4 _ _ ⟨H, ρ, rfl, rfl⟩
   subst eY
   refine Wc (e4) rfl (fun cA => ?_) (fun cA => ?_)
   ·have H := H.1 cA
    refine Wk (W_block (Wq (Wg (Lv ok 0 [(50, sl bH queue bI)] 1 rfl rfl ?_))))
    obtain ⟨aR, e5, e6, H⟩ := H
    refine Li 1 rfl rfl rfl Try.underlying22 ti_3 rfl rfl b4.readf e5 e6 fun i2 i3 e7 e8 => (Lo 2 rfl rfl rfl ti_3 ag_3 rfl e7 e8 c6 fun i4 e9 => ?_)
    obtain rfl := e9.int
    refine Lv ok 3 [(13, I aR)] 4 rfl rfl (Ln _ rfl (Wq (Wg (Lv ok 0 [(53, sl bH queue bI)] 1 rfl rfl ?_))))
    obtain ⟨fA, hu, H⟩ := H
    refine LP_sliceT 1 1 rfl rfl rfl Try.underlying22 ti_3 rfl rfl b4 fA hu fun i5 dA => ?_
    obtain ⟨dB, dC, rfl⟩ := dA.shape
    refine Lv ok 2 [(12, .slice dB (List.length (List.drop (Int.toNat 1) queue)) dC)] 3 rfl rfl (Ln _ rfl (Wq (Wg (Lv ok 0 [(55, sl a r c), (56, I aR)] 2 rfl rfl ?_))))
    obtain ⟨aI, fB, fC, H⟩ := H
    refine Li 2 rfl rfl rfl Try.underlying23 ti_22 rfl rfl a0.readf fB fC fun i6 i7 fD fE => (Lo 3 rfl rfl rfl ti_22 ag_22 rfl fD fE aX fun i9 fF => ?_)
    have dD := fF.slice
    obtain ⟨cB, cC, rfl⟩ := dD.shape
    refine Lv ok 4 [(59, I (ln aI)), (60, I 0)] 6 rfl rfl (Ln _ rfl (W_block ?_))
    obtain ⟨U162, hU163⟩ : ∃ U : PH, U = (un aL aM) := ⟨_, rfl⟩
    have D164 : Dom U162 aL := Dom.eqv hU163 (Dom.l _ _)
    have D165 : Dom U162 aM := Dom.eqv hU163 (Ot (Dom.r _ _) (Or _))
    obtain ⟨J170, fG, Hx172, H⟩ := H
    refine W_loop (S := (List Int) × (List Int) × Int) (fun s ρ' w' => J170 s.1 s.2.1 s.2.2 ∧ ∃ (ρ : Env) (aJ : PH) (cD : Value) (aK : PH), ρ' = setAll [(0, sl a r c), (1, I fromx), (2, I to), (3, I limit), (9, I aC), (10, .slice aA (List.length (List.replicate (Int.toNat (ln r)) ((0 : Int)))) aB), (12, cD), (13, I aR), (58, sl cB aI cC), (59, I (ln aI)), (60, I s.2.2)] ρ ∧ But U162 aN w' ∧ OS 3 aJ emp (.slice aA (List.length (List.replicate (Int.toNat (ln r)) ((0 : Int)))) aB) s.1 ∧ Sub aJ w' ∧ DomLe U162 aN.heap.size aJ ∧ OT aK cD s.2.1 ∧ Sub aK w' ∧ DomLe U162 aN.heap.size aK ∧ Dj aK aJ) (fun s => fG s.1 s.2.1 s.2.2) (c5, List.drop (Int.toNat 1) queue, 0) ⟨Hx172, _, aL, .slice dB (List.length (List.drop (Int.toNat 1) queue)) dC, aM, Ee ⟨rfl, rfl, rfl, rfl, rfl, rfl, rfl, rfl, rfl, rfl, rfl, trivial⟩, (Br _ _), aO, aQ, (Oe D164 _), dA, c6, (Oe D165 _), (Dom.dj (Or _) d)⟩ ?_
    rintro ⟨bK, aH, aD⟩ _ bL ⟨Hi, ρ, aJ, cD, aK, rfl, HF⟩
    revert HF
    refine bb8 fun X169 bM bN dE bO bP dF bQ => ?_
    have H := H bK aH aD Hi
    obtain ⟨bR, bS, rfl⟩ := bO.shape
    refine Wq (Wg (Lv ok 0 [(61, .bool (decide (aD < (ln aI))))] 1 rfl rfl (Ln _ rfl (Wq ?_))))
    refine Wc (decide (aD < (ln aI))) rfl (fun cE => ?_) (fun cE => ?_)
    ·have H := H.1 cE
     refine Wk ?_
     have dG := (b7.ext aW)
     obtain ⟨U199, hU200⟩ : ∃ U : PH, U = (un aJ aK) := ⟨_, rfl⟩
     have D201 : Dom U199 aJ := Dom.eqv hU200 (Dom.l _ _)
     have D202 : Dom U199 aK := Dom.eqv hU200 (Ot (Dom.r _ _) (Or _))
     obtain ⟨fH, fI, H⟩ := jn_elim H
     refine W_join2 (S := (List Int) × (List Int)) (fun s ρ' w' => fH s.1 s.2 ∧ ∃ (ρ : Env) (aY : PH) (cF : Value) (aZ : PH), ρ' = setAll [(0, sl a r c), (1, I fromx), (2, I to), (3, I limit), (9, I aC), (10, .slice aA (List.length (List.replicate (Int.toNat (ln r)) ((0 : Int)))) aB), (12, cF), (13, I aR), (58, sl cB aI cC), (59, I (ln aI)), (60, I aD)] ρ ∧ But U199 bL w' ∧ OS 3 aY emp (.slice aA (List.length (List.replicate (Int.toNat (ln r)) ((0 : Int)))) aB) s.1 ∧ Sub aY w' ∧ DomLe U199 bL.heap.size aY ∧ OT aZ cF s.2 ∧ Sub aZ w' ∧ DomLe U199 bL.heap.size aZ ∧ Dj aZ aY) ?_ ?_
     ·refine W_block (Wq (Wg (Lv ok 0 [(62, I aD)] 1 rfl rfl ?_)))
      obtain ⟨a3, fJ, fK, H⟩ := H
      refine Li 1 rfl rfl rfl Try.underlying22 ti_3 rfl rfl dD fJ fK fun jA jB fL fM => (Lo 2 rfl rfl rfl ti_3 ag_3 rfl fL fM (aX.but X169 (Dj.eqv hU163 (Dl (Mj b3 (Dj.eqv hU bJ) dG) (Dom.dj (Or _) (Mj c7 (Dj.eqv hU bJ) dG))))) fun jC fN => ?_)
      obtain rfl := fN.int
      refine Lv ok 3 [(14, I aD), (15, I a3)] 5 rfl rfl (Ln _ rfl ?_)
      obtain ⟨fO, fP, H⟩ := jn_elim H
      refine W_join2 (S := Bool) (fun s ρ' w' => fO s ∧ ∃ (ρ : Env), ρ' = setAll [(0, sl a r c), (1, I fromx), (2, I to), (3, I limit), (9, I aC), (10, .slice aA (List.length (List.replicate (Int.toNat (ln r)) ((0 : Int)))) aB), (12, sl bR aH bS), (13, I aR), (14, I aD), (58, sl cB aI cC), (59, I (ln aI)), (60, I aD), (73, .bool s)] ρ ∧ bL = w') ?_ ?_
      ·refine Wg (Lv ok 0 [(65, I a3), (66, .bool (decide (a3 > 0))), (67, .bool (decide (a3 > 0)))] 3 rfl rfl ?_)
       refine LP_split 67 (decide (a3 > 0)) rfl (fun cG => ?_) (fun cG => ?_)
       ·have H := H.1 cG
        refine Lv ok 3 [(68, .slice aA (List.length (List.replicate (Int.toNat (ln r)) ((0 : Int)))) aB), (69, I aD)] 5 rfl rfl ?_
        obtain ⟨cH, fQ, fR, H⟩ := H
        refine Li 5 rfl rfl rfl Try.underlying22 ti_3 rfl rfl bM.readf fQ fR fun jD jE fS fT => (Lo 6 rfl rfl rfl ti_3 ag_3 rfl fS fT bN fun jF fU => ?_)
        obtain rfl := fU.int
        refine Lv ok 7 [(72, .bool (decide (cH < 0))), (73, .bool (decide (cH < 0)))] 9 rfl rfl ?_
        exact Ln _ rfl ⟨decide (cH < 0), H, _, Ee ⟨rfl, rfl, rfl, rfl, rfl, rfl, rfl, rfl, rfl, rfl, rfl, rfl, rfl, trivial⟩, rfl⟩
       have H := H.2 cG
       refine Lv ok 3 [(68, undef), (69, undef), (70, undef), (71, undef), (72, undef), (73, .bool false)] 9 rfl rfl ?_
       exact Ln _ rfl ⟨false, H, _, Ee ⟨rfl, rfl, rfl, rfl, rfl, rfl, rfl, rfl, rfl, rfl, rfl, rfl, rfl, trivial⟩, rfl⟩
      rintro fV _ _ ⟨H, ρ, rfl, rfl⟩
      subst fP
      refine Wc (fV) rfl (fun cI => ?_) (fun cI => ?_)
      ·have H := H.1 cI
       refine Wq (Wg (Lv ok 0 [(74, .slice aA (List.length (List.replicate (Int.toNat (ln r)) ((0 : Int)))) aB), (75, I aD), (76, I aR)] 3 rfl rfl ?_))
       obtain ⟨fW, fX, H⟩ := H
       refine LP_indexw (v := .slice aA (List.length (List.replicate (Int.toNat (ln r)) ((0 : Int)))) aB) 3 rfl rfl rfl Try.underlying22 ti_3 rfl rfl bM fW fX fun jG fY => (LP_set 4 rfl rfl rfl rfl rfl fY (Le.refl emp) ⟨_, rfl, rfl⟩ bN fun fZ jH f0 dH cJ dI => (Ln _ rfl (Wg (Lv ok 0 [(78, sl bR aH bS), (79, I aD)] 2 rfl rfl (LP_lit (α := Int) (g := emp) 2 (vs := [I aD]) (xs := [aD]) rfl rfl rfl Try.underlying22 ti_3 rfl rfl ⟨⟨_, rfl, rfl⟩, trivial⟩ rfl rfl fun jI jJ jK a4 dJ f1 jL => ?_)))))
       obtain ⟨jM, jN, rfl⟩ := dJ.shape
       obtain ⟨jO, H⟩ := H
       refine LP_appendT (α := Int) 3 rfl rfl rfl Try.underlying22 ti_3 rfl rfl rfl bO ((bP.but cJ bQ.symm).ext a4) dJ.readf f1 (by first | omega | (simp only [ln] at *; omega)) (by first | omega | (simp only [ln] at *; omega)) fun f2 jP jQ dK f3 dL dM => ?_
       obtain ⟨dN, dO, rfl⟩ := dK.shape
       refine Lv ok 4 [(12, .slice dN (List.length (aH ++ ([aD]))) dO)] 5 rfl rfl (Ln _ rfl ?_)
       have dP := (Mj (dI _) bQ.symm bP).symm
       exact ⟨(List.set bK (Int.toNat aD) aR, aH ++ ([aD])), H, _, fZ, .slice dN (List.length (aH ++ ([aD]))) dO, f2, Ee ⟨rfl, rfl, rfl, rfl, rfl, rfl, rfl, rfl, rfl, rfl, rfl, trivial⟩, ((((Br U199 _).step cJ (Oe D201 _)).stepx a4).step dL (Oe D202 _)), f0, ((dH.ext a4).but dL dP), (Mt (Oe D201 _) (dI _) (Nat.le_refl _)), dK, f3, (Mt (Oe D202 _) dM (Nat.le_trans cJ.size a4.size)), (Mj dM dP (dH.ext a4))⟩
      have H := H.2 cI
      exact Wk ⟨(bK, aH), H, _, aJ, sl bR aH bS, aK, Ee ⟨rfl, rfl, rfl, rfl, rfl, rfl, rfl, rfl, rfl, rfl, rfl, trivial⟩, (Br _ _), bM, bN, (Oe D201 _), bO, bP, (Oe D202 _), bQ⟩
     rintro ⟨f4, dQ⟩ _ jR ⟨H, ρ, aY, cF, aZ, rfl, HF⟩
     revert HF
     refine bb8 fun X206 f5 f6 f7 dR f8 f9 gA => ?_
     subst fI
     obtain ⟨gB, gC, rfl⟩ := dR.shape
     refine Wg (Lv ok 0 [(82, I (wr (aD + 1))), (60, I (wr (aD + 1)))] 2 rfl rfl (Ln _ rfl ?_))
     have cK : DomLe U162 aN.heap.size U199 := (DomLe.eqv hU200 (Mu (Mt (Oe (Or _) _) dE (Nat.le_refl _)) (Mt (Oe (Or _) _) dF (Nat.le_refl _))))
     exact ⟨(f4, dQ, wr (aD + 1)), ⟨H.1, _, aY, sl gB dQ gC, aZ, Ee ⟨rfl, rfl, rfl, rfl, rfl, rfl, rfl, rfl, rfl, rfl, rfl, trivial⟩, (((Br U162 _).step X169 (Oe (Or _) _)).step X206 cK), f5, f6, (Mt cK f7 X169.size), dR, f8, (Mt cK f9 X169.size), gA⟩, H.2⟩
    have H := H.2 cE
    refine W_exit ?_
    refine (if_pos rfl).mpr ?_
    have cL : DomLe U bF.heap.size U162 := (DomLe.eqv hU163 (Mu (Mt (Oe (Or _) _) b3 (Nat.le_refl _)) (Mt (Mt (Oe (Or _) _) c7 (Nat.le_refl _)) (Oe (Or _) _) (Nat.le_refl _))))
    exact ⟨(bK, aH), ⟨H.1, _, aJ, sl bR aH bS, aK, Ee ⟨rfl, rfl, rfl, rfl, rfl, rfl, rfl, trivial⟩, (((Br U _).step X78 (Oe (Or _) _)).step X169 cL), bM, bN, (Mt cL dE X78.size), bO, bP, (Mt cL dF X78.size), bQ⟩, H.2⟩
   have H := H.2 cA
   refine W_exit ?_
   refine (if_pos rfl).mpr ?_
   refine Wq (Wq (Wg (Lv ok 0 [(83, .slice aA (List.length (List.replicate (Int.toNat (ln r)) ((0 : Int)))) aB), (84, I to)] 2 rfl rfl ?_)))
   obtain ⟨dS, gD, gE, H⟩ := H
   refine Li 2 rfl rfl rfl Try.underlying22 ti_3 rfl rfl aO.readf gD gE fun jS jT gF gG => (Lo 3 rfl rfl rfl ti_3 ag_3 rfl gF gG aQ fun jU gH => ?_)
   obtain rfl := gH.int
   refine Lv ok 4 [(87, .bool (decide (dS < 0)))] 5 rfl rfl (Ln _ rfl ?_)
   refine Wc (decide (dS < 0)) rfl (fun cM => ?_) (fun cM => ?_)
   ·have H := H.1 cM
    refine W_exit ?_
    refine (if_neg (by decide)).mpr ?_
    refine (if_pos rfl).mpr ?_
    have dT : Fresh w.heap.size aP := (DomLe.fresh bE (a2.mono X15.size) (Nat.le_trans X15.size x.size))
    exact ⟨(aC, bB), H, _, aF, Ee ⟨rfl, trivial⟩, (((((((Br hx _).step X15 (Oe (Or _) _)).stepx x).step X31 ((a2.mono X15.size).dom _)).step aV (dT.dom _)).stepx aW).step X78 (DomLe.eqv hU (Mu (((b0 _).fresh dT (Nat.le_trans (Nat.le_trans X15.size x.size) X31.size)).dom _) ((bG.mono (Nat.le_trans (Nat.le_trans (Nat.le_trans X15.size x.size) X31.size) aV.size)).dom _)))), a0, aX, (fun _ => bD _)⟩
   have H := H.2 cM
   refine Wk (Wq (Wg (Lv ok 0 [(88, I limit), (89, I aC), (90, I (wr (limit - aC))), (16, I (wr (limit - aC)))] 4 rfl rfl (Ln _ rfl (Wq (Wq (Wg (Lv ok 0 [(91, I to), (17, I to)] 2 rfl rfl (Ln _ rfl ?_)))))))))
   refine W_block ?_
   obtain ⟨J300, gI, Hx302, H⟩ := H
   refine W_loop (S := Int × Int) (fun s ρ' w' => J300 s.1 s.2 ∧ ∃ (ρ : Env), ρ' = setAll [(0, sl a r c), (1, I fromx), (2, I to), (3, I limit), (9, I aC), (10, .slice aA (List.length (List.replicate (Int.toNat (ln r)) ((0 : Int)))) aB), (16, I s.1), (17, I s.2)] ρ ∧ aN = w') (fun s => gI s.1 s.2) (wr (limit - aC), to) ⟨Hx302, _, Ee ⟨rfl, rfl, rfl, rfl, rfl, rfl, rfl, rfl, trivial⟩, rfl⟩ ?_
   rintro ⟨step, aS⟩ _ _ ⟨Hi, ρ, rfl, rfl⟩
   have H := H step aS Hi
   refine Wq (Wq (Wg (Lv ok 0 [(92, I aS), (93, I fromx), (94, .bool (aS != fromx))] 3 rfl rfl (Ln _ rfl ?_))))
   refine Wc (aS != fromx) rfl (fun cN => ?_) (fun cN => ?_)
   ·have H := H.1 cN
    refine Wk (Wq (W_block (Wg (Lv ok 0 [(99, I step), (100, sl a r c), (101, .slice aA (List.length (List.replicate (Int.toNat (ln r)) ((0 : Int)))) aB), (102, I aS)] 4 rfl rfl ?_))))
    obtain ⟨jV, gJ, gK, H⟩ := H
    refine Li 4 rfl rfl rfl Try.underlying22 ti_3 rfl rfl aO.readf gJ gK fun jW jX gL gM => (Lo 5 rfl rfl rfl ti_3 ag_3 rfl gL gM aQ fun jY gN => ?_)
    obtain rfl := gN.int
    obtain ⟨jZ, gO, gP, H⟩ := H
    refine Li 6 rfl rfl rfl Try.underlying23 ti_22 rfl rfl a0.readf gO gP fun j0 j1 gQ gR => (Lo 7 rfl rfl rfl ti_22 ag_22 rfl gQ gR aX fun j2 gS => ?_)
    have dU := gS.slice
    obtain ⟨j3, j4, rfl⟩ := dU.shape
    refine Lv ok 8 [(107, I aS)] 9 rfl rfl ?_
    obtain ⟨cO, gT, gU, H⟩ := H
    refine Li 9 rfl rfl rfl Try.underlying22 ti_3 rfl rfl dU gT gU fun j5 j6 gV gW => (Lo 10 rfl rfl rfl ti_3 ag_3 rfl gV gW aX fun j7 gX => ?_)
    obtain rfl := gX.int
    refine Lv ok 11 [(110, I (mn step cO)), (16, I (mn step cO))] 13 rfl rfl (Ln _ rfl (Wg (Lv ok 0 [(95, .slice aA (List.length (List.replicate (Int.toNat (ln r)) ((0 : Int)))) aB), (96, I aS)] 2 rfl rfl ?_)))
    obtain ⟨dV, gY, gZ, H⟩ := H
    refine Li 2 rfl rfl rfl Try.underlying22 ti_3 rfl rfl aO.readf gY gZ fun j8 j9 g0 g1 => (Lo 3 rfl rfl rfl ti_3 ag_3 rfl g0 g1 aQ fun kA g2 => ?_)
    obtain rfl := g2.int
    refine Lv ok 4 [(17, I dV)] 5 rfl rfl ?_
    exact Ln _ rfl ⟨(mn step cO, dV), ⟨H.1, _, Ee ⟨rfl, rfl, rfl, rfl, rfl, rfl, rfl, rfl, trivial⟩, rfl⟩, H.2⟩
   have H := H.2 cN
   refine W_exit ?_
   refine (if_pos rfl).mpr ?_
   refine Wq (Wq (Wg (Lv ok 0 [(111, I to), (18, I to)] 2 rfl rfl (Ln _ rfl (W_block ?_)))))
   obtain ⟨J354, g3, Hx356, H⟩ := H
   refine W_loop (S := (List (List Int)) × Int) (fun s ρ' w' => J354 s.1 s.2 ∧ ∃ (ρ : Env) (aT : PH), ρ' = setAll [(0, sl a r c), (1, I fromx), (2, I to), (3, I limit), (9, I aC), (10, .slice aA (List.length (List.replicate (Int.toNat (ln r)) ((0 : Int)))) aB), (16, I step), (18, I s.2)] ρ ∧ But aF aN w' ∧ OD aT (sl a r c) s.1 ∧ Sub aT w' ∧ (∀ n, DomLe hx n aT) ∧ (∀ n, DomLe aF n aT)) (fun s => g3 s.1 s.2) (bB, to) ⟨Hx356, _, aF, Ee ⟨rfl, rfl, rfl, rfl, rfl, rfl, rfl, rfl, trivial⟩, (Br _ _), a0, aX, (fun _ => bD _), (fun _ => DomLe.refl _ _)⟩ ?_
   rintro ⟨cP, aE⟩ _ kB ⟨Hi, ρ, aT, rfl, HF⟩
   revert HF
   refine bb5 fun X353 dW bT dX cQ => ?_
   have H := H cP aE Hi
   refine Wq (Wq (Wg (Lv ok 0 [(112, I aE), (113, I fromx), (114, .bool (aE != fromx))] 3 rfl rfl (Ln _ rfl ?_))))
   refine Wc (aE != fromx) rfl (fun cR => ?_) (fun cR => ?_)
   ·have H := H.1 cR
    refine Wk (Wq (W_block (Wq (Wg (Lv ok 0 [(119, sl a r c), (120, .slice aA (List.length (List.replicate (Int.toNat (ln r)) ((0 : Int)))) aB), (121, I aE)] 3 rfl rfl ?_)))))
    obtain ⟨g4, g5, g6, H⟩ := H
    refine Li 3 rfl rfl rfl Try.underlying22 ti_3 rfl rfl aO.readf g5 g6 fun kC kD g7 g8 => ?_
    have dY := (Mj b3 (Dj.eqv hU bJ) (b7.ext aW)).symm
    have cS := (aQ.but X353 dY)
    refine Lo 4 rfl rfl rfl ti_3 ag_3 rfl g7 g8 cS fun kE g9 => ?_
    obtain rfl := g9.int
    obtain ⟨bU, hA, hB, H⟩ := H
    refine LP_indexb (v := sl a r c) 5 rfl rfl rfl Try.underlying23 ti_22 rfl rfl dW hA hB fun kF u hC rest hD bw => (LP_ldcell 6 rfl rfl rfl ti_22 ag_22 rfl hD bT ?_)
    have dZ := bw.od
    obtain ⟨d0, d1, rfl⟩ := dZ.shape
    have d2 := Sub.le bT bw.le
    have d3 : OS 3 hC emp (sl d0 bU d1) bU := OD.flat dZ
    refine Lv ok 7 [(126, I aE)] 8 rfl rfl ?_
    obtain ⟨d4, hE, hF, H⟩ := H
    refine Li 8 rfl rfl rfl Try.underlying22 ti_3 rfl rfl d3.readf hE hF fun kG kH hG hH => (Lo 9 rfl rfl rfl ti_3 ag_3 rfl hG hH d2 fun kI hI => ?_)
    obtain rfl := hI.int
    refine Lv ok 10 [(129, I step), (130, I (wr (d4 - step)))] 12 rfl rfl ?_
    obtain ⟨hJ, hK, H⟩ := H
    refine LP_indexw (v := sl d0 bU d1) 12 rfl rfl rfl Try.underlying22 ti_3 rfl rfl d3 hJ hK fun kJ hL => (LP_set 13 rfl rfl rfl rfl rfl hL (Le.refl emp) ⟨_, rfl, rfl⟩ d2 fun kK kL hM hN d5 hO => ?_)
    obtain ⟨kM, hP, dd⟩ := BwL.turn bw (OS.od hM) (Dom.of hO)
    have hQ := BwL.sub bw bT hN d5
    have d6 := BwL.but bw d5
    refine Ln _ rfl ?_
    refine W_open mix fun kN cT => ?_
    refine AP_game 11 [[], [], [0, 1], [0, 1, 2], [], [], [4, 5], [4, 5, 6], [0, 1, 2, 3, 4, 5, 6, 7], [0, 1, 2, 3, 4, 5, 6, 7, 8], [], [0, 1, 2, 3, 4, 5, 6, 7, 8, 9, 10], [0, 1, 2, 3, 4, 5, 6, 7, 8, 9, 10, 11], [0, 1, 2, 3, 4, 5, 6, 7, 8, 9, 10, 11, 12]] [[(0, none)], [(18, none)], [(132, some 0), (133, some 1)], [(134, some 2)], [(10, none)], [(18, none)], [(136, some 4), (137, some 5)], [(138, some 6)], [(135, some 3), (139, some 7)], [(140, some 8)], [(16, none)]] [(0, none), (1, none), (2, none), (3, none), (9, none), (10, none), (16, none), (18, none), (135, some 3), (139, some 7), (141, some 9), (142, some 10)] [(0, false), (1, false), (2, false), (3, false), (4, false), (5, false), (6, false), (7, false), (8, false), (9, false), (10, false)] (by kernel_rfl) (by kernel_rfl) ?_
    refine GS_ev ok [(0, sl a r c)] (sl a r c) rfl rfl (fun _ h => h) (fun _ => rfl) ?_
    refine GS_ev ok [(18, I aE)] (I aE) rfl rfl (fun _ h => h) (fun _ => rfl) ?_
    obtain ⟨aU, hR, hS, H⟩ := H
    obtain ⟨d7, kO, hT, hV, hW, hX, a5⟩ := run_indexb Try.underlying23 ti_22 hP _ hR hS
    refine GS_r0 [(132, sl a r c), (133, I aE)] (.pointer (some d7)) rfl rfl (fun _ h => h) (fun _ _ => ex_index rfl rfl rfl (hW _)) ?_
    have d8 := a5.od
    obtain ⟨a6, a7, rfl⟩ := d8.shape
    have cU := (hQ.ext cT)
    have d9 := Sub.le cU a5.le
    have eA : OS 3 hT emp (sl a6 aU a7) aU := OD.flat d8
    refine GS_r1 [(134, .pointer (some d7))] (sl a6 aU a7) rfl rfl (fun _ h => h) (fun _ w e => ex_ldcell rfl ti_22 ag_22 rfl hX e) cU ?_
    refine GS_ev ok [(10, .slice aA (List.length (List.replicate (Int.toNat (ln r)) ((0 : Int)))) aB)] (.slice aA (List.length (List.replicate (Int.toNat (ln r)) ((0 : Int)))) aB) rfl rfl (fun _ h => h) (fun _ => rfl) ?_
    refine GS_ev ok [(18, I aE)] (I aE) rfl rfl (fun _ h => h) (fun _ => rfl) ?_
    obtain ⟨a8, hY, hZ, H⟩ := H
    obtain ⟨eB, kP, h0, h1, h2⟩ := run_indexAt Try.underlying22 ti_3 aO.readf .i64 _ a8 hY hZ
    refine GS_r0 [(136, .slice aA (List.length (List.replicate (Int.toNat (ln r)) ((0 : Int)))) aB), (137, I aE)] (.pointer (some eB)) rfl rfl (fun _ h => h) (fun _ _ => ex_index rfl rfl rfl (h0 _)) ?_
    obtain ⟨kQ, h3, h4⟩ := run_loadAt ti_3 ag_3 h1 h2
    obtain rfl := h4.int
    have eC := (Mj (cQ _) dY aQ)
    have eD := ((cS.but d6 eC).ext cT)
    refine GS_r1 [(138, .pointer (some eB))] (I a8) rfl rfl (fun _ h => h) (fun _ w e => ex_load rfl rfl (h3 w e)) eD ?_
    obtain ⟨a9, h5, h6, H⟩ := H
    obtain ⟨eE, kR, h7, h8, h9⟩ := run_indexAt Try.underlying22 ti_3 eA.readf .i64 _ a9 h5 h6
    refine GS_r0 [(135, sl a6 aU a7), (139, I a8)] (.pointer (some eE)) rfl rfl (fun _ h => h) (fun _ _ => ex_index rfl rfl rfl (h7 _)) ?_
    obtain ⟨kS, iA, iB⟩ := run_loadAt ti_3 ag_3 h8 h9
    obtain rfl := iB.int
    refine GS_r1 [(140, .pointer (some eE))] (I a9) rfl rfl (fun _ h => h) (fun _ w e => ex_load rfl rfl (iA w e)) d9 ?_
    refine GS_ev ok [(16, I step)] (I step) rfl rfl (fun _ h => h) (fun _ => rfl) ?_
    intro kT bV ρ iC
    refine AP_forget [(0, sl a r c), (1, I fromx), (2, I to), (3, I limit), (9, I aC), (10, .slice aA (List.length (List.replicate (Int.toNat (ln r)) ((0 : Int)))) aB), (16, I step), (18, I aE), (135, sl a6 aU a7), (139, I a8), (141, I a9), (142, I step)] (by exact iC) fun ρ => ?_
    refine AP_tail 11 [[], [], [0, 1], [0, 1, 2], [], [], [4, 5], [4, 5, 6], [0, 1, 2, 3, 4, 5, 6, 7], [0, 1, 2, 3, 4, 5, 6, 7, 8], [], [0, 1, 2, 3, 4, 5, 6, 7, 8, 9, 10], [0, 1, 2, 3, 4, 5, 6, 7, 8, 9, 10, 11], [0, 1, 2, 3, 4, 5, 6, 7, 8, 9, 10, 11, 12]] (by kernel_rfl) ?_
    refine Lv ok 11 [(143, I (wr (a9 + step)))] 12 rfl rfl ?_
    obtain ⟨iD, iE, H⟩ := H
    refine LP_indexw (v := sl a6 aU a7) 12 rfl rfl rfl Try.underlying22 ti_3 rfl rfl eA iD iE fun kU iF => (LP_set 13 rfl rfl rfl rfl rfl iF (Le.refl emp) ⟨_, rfl, rfl⟩ (d9.ext bV) fun iG kV iH iI eF iJ => ?_)
    obtain ⟨kW, iK, eG⟩ := BwL.turn a5 (OS.od iH) (Dom.of iJ)
    have iL := BwL.sub a5 (cU.ext bV) iI eF
    have eH := BwL.but a5 eF
    refine Ln _ rfl (Wg (Lv ok 0 [(115, .slice aA (List.length (List.replicate (Int.toNat (ln r)) ((0 : Int)))) aB), (116, I aE)] 2 rfl rfl ?_))
    obtain ⟨eI, iM, iN, H⟩ := H
    refine Li 2 rfl rfl rfl Try.underlying22 ti_3 rfl rfl aO.readf iM iN fun kX kY iO iP => (Lo 3 rfl rfl rfl ti_3 ag_3 rfl iO iP ((eD.ext bV).but eH (Mj ((fun n => Oe dd n) _) eC cS)) fun kZ iQ => ?_)
    obtain rfl := iQ.int
    refine Lv ok 4 [(18, I eI)] 5 rfl rfl (Ln _ rfl ?_)
    have eJ : DomLe aF aN.heap.size aT := (Mt (Oe (Or _) _) (cQ _) (Nat.le_refl _))
    exact ⟨(List.set (List.set cP (Int.toNat g4) (List.set bU (Int.toNat aE) (wr (d4 - step)))) (Int.toNat aE) (List.set aU (Int.toNat a8) (wr (a9 + step))), eI), ⟨H.1, _, (un iG hV), Ee ⟨rfl, rfl, rfl, rfl, rfl, rfl, rfl, rfl, trivial⟩, (((((Br aF _).step X353 (Oe (Or _) _)).step d6 eJ).stepx (cT.trans bV)).step eH (Mt eJ ((fun n => Oe dd n) _) X353.size)), iK, iL, (fun _ => Mt (Mt (dX _) (((fun n => Oe dd n) _)) (Nat.le_refl _)) (((fun n => Oe eG n) _)) (Nat.le_refl _)), (fun _ => Mt (Mt (Mt (DomLe.refl _ _) ((cQ _)) (Nat.le_refl _)) (((fun n => Oe dd n) _)) (Nat.le_refl _)) (((fun n => Oe eG n) _)) (Nat.le_refl _))⟩, H.2⟩
   have H := H.2 cR
   refine W_exit ?_
   refine (if_pos rfl).mpr ?_
   refine Wg (Lv ok 0 [(145, I aC), (146, I step), (147, I (wr (aC + step))), (9, I (wr (aC + step)))] 4 rfl rfl (Ln _ rfl ?_))
   have eK : Fresh w.heap.size aP := (DomLe.fresh bE (a2.mono X15.size) (Nat.le_trans X15.size x.size))
   exact ⟨(cP, wr (aC + step)), ⟨H.1, _, aT, Ee ⟨rfl, rfl, rfl, rfl, rfl, trivial⟩, ((((((((Br hx _).step X15 (Oe (Or _) _)).stepx x).step X31 ((a2.mono X15.size).dom _)).step aV (eK.dom _)).stepx aW).step X78 (DomLe.eqv hU (Mu (((b0 _).fresh eK (Nat.le_trans (Nat.le_trans X15.size x.size) X31.size)).dom _) ((bG.mono (Nat.le_trans (Nat.le_trans (Nat.le_trans X15.size x.size) X31.size) aV.size)).dom _)))).step X353 (Mt (Oe (Or _) _) (bD _) (Nat.le_refl _))), dW, bT, (fun _ => dX _)⟩, H.2⟩
  have H := H.2 hc
  refine W_exit ?_
  refine (if_pos rfl).mpr ?_
  exact ⟨(aC, bB), H, _, aF, Ee ⟨rfl, trivial⟩, ((Br hx _).step X15 (Oe (Or _) _)), a0, bC, (fun _ => bD _)⟩
 rintro ⟨sent, k0⟩ _ wx ⟨H, ρ, bA, rfl, X6, o, iR, f⟩
 subst hk
 refine Wq (Wg (Lv ok 0 [(148, I sent), (8, I sent)] 2 rfl rfl (Ln _ rfl (W_ret ?_))))
 exact ⟨_, Ret_of [I sent] ⟨⟨rfl, rfl⟩, trivial⟩, _, _, _, H, rfl, (X.step X6 (Oe D _)), o, iR, (fun _ => f _)⟩

theorem impl_restore_w (t : Transport) (x : List (List Int)) (aF : List (List Int)) (fixed : Int) (Q : (List (List Int)) → Prop) (H : impl_restore t x aF fixed Q) (w : World) {vx : Value} {hx : PH} (r : RS hx vx t.Rows) (ex : Sub hx w) {bN : Value} {bO : PH} (cT : RS bO bN t.Cols) (eG : Sub bO w) {bP : Value} {bQ : PH} (cU : RS bQ bP t.Lo) (eH : Sub bQ w) {bR : Value} {bS : PH} (bT : RS bS bR t.Hi) (bU : Sub bS w) {bV : Value} {bW : PH} (bX : RS bW bV x) (cV : Sub bW w) {bY : Value} {bZ : PH} (b0 : RS bZ bY aF) (b1 : Sub bZ w) :
  CallsTo Try.prog 91 #[.agg #[vx, bN, bP, bR], bV, bY, I fixed] w fun v w' => ∃ a2 a3 a4, Q a2 ∧ v = a3 ∧ Ext w w' ∧ OD a4 a3 a2 ∧ Sub a4 w' ∧ Fresh w.heap.size a4 ∧ CanV a3 a2 := by
 obtain ⟨a, c, rfl⟩ := r.shape
 obtain ⟨aW, aX, rfl⟩ := cT.shape
 obtain ⟨a5, a6, rfl⟩ := cU.shape
 obtain ⟨aP, aQ, rfl⟩ := bT.shape
 obtain ⟨a7, a8, rfl⟩ := bX.shape
 obtain ⟨aI, aJ, rfl⟩ := b0.shape
 refine enter (args := [.agg #[sl a t.Rows c, sl aW t.Cols aX, sl a5 t.Lo a6, sl aP t.Hi aQ], sl a7 x a8, sl aI aF aJ, I fixed]) 69 Try.func91 rfl rfl rfl ?_
 refine Wo [(0, .agg #[sl a t.Rows c, sl aW t.Cols aX, sl a5 t.Lo a6, sl aP t.Hi aQ]), (1, sl a7 x a8), (2, sl aI aF aJ), (3, I fixed)] ⟨rfl, rfl, rfl, rfl, trivial⟩ fun ρ => ?_
 have X := Br emp w
 refine Wq (Wg (Ly 0 (cs := [sl a t.Rows c, sl aW t.Cols aX, sl a5 t.Lo a6, sl aP t.Hi aQ]) rfl rfl rfl rfl rfl fun b wx cW aY f => (Lv ok 1 [(8, .slice none 0 0)] 2 rfl rfl (Ln _ rfl (Wq ?_)))))
 refine W_quiet mix (by kernel_rfl) ?_
 refine QP_ev ok 0 [(14, pb b)] 1 rfl rfl ?_
 refine QP_ldbox 1 (v := sl a t.Rows c) rfl rfl rfl ti_22 ag_22 (fun _ => rfl) rfl aY rfl rfl ?_
 refine QP_ev ok 2 [(16, I (ln t.Rows)), (17, .pointer (some ⟨b, 1, none⟩))] 4 rfl rfl ?_
 refine QP_ldbox 4 (v := sl aW t.Cols aX) rfl rfl rfl ti_22 ag_22 (fun _ => rfl) rfl aY rfl rfl ?_
 refine QP_ev ok 5 [(19, I (ln t.Cols)), (9, I (ln t.Rows)), (10, I (ln t.Cols))] 8 rfl rfl ?_
 refine QP_end _ rfl fun cX a9 => ?_
 refine Wq (Wg (Lv ok 0 [(20, sl a7 x a8)] 1 rfl rfl ?_))
 have xc := (cW.trans a9)
 refine Lc 1 rfl rfl rfl cal_79 rfl (impl_copyMatrix_w _ _ H cX bX (cV.ext xc)) ?_
 rintro _ bA ⟨aB, eI, aR, H, rfl, aK, o, cY, aS, cn⟩
 obtain ⟨aD, aE, rfl⟩ := o.shape
 refine Lv ok 2 [(11, sl aD aB aE)] 3 rfl rfl (Ln _ rfl (Wq (Wq (Wg (Lv ok 0 [(22, sl aD aB aE), (23, I (ln aB)), (24, I 0)] 3 rfl rfl (Ln _ rfl (W_block ?_)))))))
 obtain ⟨J, m, Hx, H⟩ := H
 refine W_loop (S := (List (List Int)) × Int) (fun s ρ' w' => J s.1 s.2 ∧ ∃ (ρ : Env) (aG : PH), ρ' = setAll [(2, sl aI aF aJ), (3, I fixed), (4, pb b), (9, I (ln t.Rows)), (10, I (ln t.Cols)), (11, sl aD aB aE), (23, I (ln aB)), (24, I s.2)] ρ ∧ But aR bA w' ∧ OD aG (sl aD aB aE) s.1 ∧ Sub aG w' ∧ DomLe aR bA.heap.size aG ∧ CanV (sl aD aB aE) s.1) (fun s => m s.1 s.2) (aB, 0) ⟨Hx, _, aR, Ee ⟨rfl, rfl, rfl, rfl, rfl, rfl, rfl, rfl, trivial⟩, (Br _ _), o, cY, (Oe (Or _) _), cn⟩ ?_
 rintro ⟨out, aA⟩ _ bB ⟨Hi, ρ, aG, rfl, HF⟩
 revert HF
 refine bb5 fun X54 bC bD aT b2 => ?_
 have H := H out aA Hi
 refine Wq (Wg (Lv ok 0 [(25, .bool (decide (aA < (ln aB))))] 1 rfl rfl (Ln _ rfl (Wq ?_))))
 refine Wc (decide (aA < (ln aB))) rfl (fun hc => ?_) (fun hc => ?_)
 ·have H := H.1 hc
  refine Wk (Wq (W_block (Wq (Wg (Lv ok 0 [(26, I aA), (12, I aA)] 2 rfl rfl (Ln _ rfl (Wq (Wg (Lv ok 0 [(27, sl aD aB aE), (28, I aA)] 2 rfl rfl ?_)))))))))
  obtain ⟨aL, hi, cZ, H⟩ := H
  refine Li 2 rfl rfl rfl Try.underlying23 ti_22 rfl rfl bC.readf hi cZ fun eJ cs c0 d => (Lo 3 rfl rfl rfl ti_22 ag_22 rfl c0 d bD fun eK c1 => ?_)
  have c2 := c1.slice
  obtain ⟨eL, eM, rfl⟩ := c2.shape
  refine Lv ok 4 [(31, I (ln aL)), (32, I 0)] 6 rfl rfl (Ln _ rfl (W_block ?_))
  obtain ⟨J74, c3, Hx76, H⟩ := H
  refine W_loop (S := (List (List Int)) × Int) (fun s ρ' w' => J74 s.1 s.2 ∧ ∃ (ρ : Env) (aH : PH), ρ' = setAll [(2, sl aI aF aJ), (3, I fixed), (4, pb b), (9, I (ln t.Rows)), (10, I (ln t.Cols)), (11, sl aD aB aE), (12, I aA), (23, I (ln aB)), (24, I aA), (31, I (ln aL)), (32, I s.2)] ρ ∧ But aG bB w' ∧ OD aH (sl aD aB aE) s.1 ∧ Sub aH w' ∧ DomLe aG bB.heap.size aH ∧ CanV (sl aD aB aE) s.1) (fun s => c3 s.1 s.2) (out, 0) ⟨Hx76, _, aG, Ee ⟨rfl, rfl, rfl, rfl, rfl, rfl, rfl, rfl, rfl, rfl, rfl, trivial⟩, (Br _ _), bC, bD, (Oe (Or _) _), b2⟩ ?_
  rintro ⟨aZ, aC⟩ _ b3 ⟨Hi, ρ, aH, rfl, HF⟩
  revert HF
  refine bb5 fun X73 bE bF b4 bG => ?_
  have H := H aZ aC Hi
  refine Wq (Wg (Lv ok 0 [(33, .bool (decide (aC < (ln aL))))] 1 rfl rfl (Ln _ rfl (Wq ?_))))
  refine Wc (decide (aC < (ln aL))) rfl (fun bH => ?_) (fun bH => ?_)
  ·have H := H.1 bH
   refine Wk ?_
   have b5 := (xc.trans aK)
   have dj := (Df (ex.ext xc) aS).symm
   have b6 := (bU.ext xc)
   have b7 := (Df b6 aS).symm
   have b8 := (b1.ext xc)
   have b9 := (Df b8 aS).symm
   have cA := (aY.ext a9)
   have cB := (Df cA aS).symm
   obtain ⟨k, hk, H⟩ := jn_elim H
   refine W_join2 (S := (List (List Int))) (fun s ρ' w' => k s ∧ ∃ (ρ : Env) (aU : PH), ρ' = setAll [(2, sl aI aF aJ), (3, I fixed), (4, pb b), (9, I (ln t.Rows)), (10, I (ln t.Cols)), (11, sl aD aB aE), (12, I aA), (23, I (ln aB)), (24, I aA), (31, I (ln aL)), (32, I aC)] ρ ∧ But aH b3 w' ∧ OD aU (sl aD aB aE) s ∧ Sub aU w' ∧ DomLe aH b3.heap.size aU ∧ CanV (sl aD aB aE) s) ?_ ?_
   ·refine W_block (Wq (Wg (Lv ok 0 [(34, I aC), (13, I aC)] 2 rfl rfl (Ln _ rfl (Wq (Wg (Lv ok 0 [(35, I aA), (36, I (ln t.Cols)), (37, I (wr (aA * (ln t.Cols)))), (38, I aC), (39, I (wr ((wr (aA * (ln t.Cols))) + aC))), (40, I fixed), (41, .bool (decide ((wr ((wr (aA * (ln t.Cols))) + aC)) > fixed)))] 7 rfl rfl (Ln _ rfl ?_))))))))
    refine Wc (decide ((wr ((wr (aA * (ln t.Cols))) + aC)) > fixed)) rfl (fun bI => ?_) (fun bI => ?_)
    ·have H := H.1 bI
     refine W_open mix fun eN aV => ?_
     refine AP_game 23 [[], [], [0, 1], [0, 1, 2], [], [], [5], [], [5, 6, 7], [5, 6, 7, 8], [], [5, 6, 7, 8, 9, 10], [5, 6, 7, 8, 9, 10, 11], [], [], [13, 14], [13, 14, 15], [], [], [17, 18], [13, 14, 15, 16, 17, 18, 19], [13, 14, 15, 16, 17, 18, 19, 20], [5, 6, 7, 8, 9, 10, 11, 12, 13, 14, 15, 16, 17, 18, 19, 20, 21], [0, 1, 2, 3, 4, 5, 6, 7, 8, 9, 10, 11, 12, 13, 14, 15, 16, 17, 18, 19, 20, 21, 22], [0, 1, 2, 3, 4, 5, 6, 7, 8, 9, 10, 11, 12, 13, 14, 15, 16, 17, 18, 19, 20, 21, 22, 23]] [[(11, none)], [(12, none)], [(42, some 0), (43, some 1)], [(44, some 2)], [(13, none)], [(4, none)], [(47, some 5)], [(12, none)], [(48, some 6), (49, some 7)], [(50, some 8)], [(13, none)], [(51, some 9), (52, some 10)], [(53, some 11)], [(2, none)], [(12, none)], [(55, some 13), (56, some 14)], [(57, some 15)], [(9, none)], [(13, none)], [(59, some 17), (60, some 18)], [(58, some 16), (61, some 19)], [(62, some 20)], [(54, some 12), (63, some 21)]] [(2, none), (3, none), (4, none), (9, none), (10, none), (11, none), (12, none), (23, none), (24, none), (31, none), (32, none), (45, some 3), (46, some 4), (64, some 22)] [(0, false), (1, false), (2, false), (3, false), (4, false), (5, false), (6, false), (7, false), (8, false), (9, false), (10, false), (11, false), (12, false), (13, false), (14, false), (15, false), (16, false), (17, false), (18, false), (19, false), (20, false), (21, false), (22, false)] (by kernel_rfl) (by kernel_rfl) ?_
     refine GS_ev ok [(11, sl aD aB aE)] (sl aD aB aE) rfl rfl (fun _ h => h) (fun _ => rfl) ?_
     refine GS_ev ok [(12, I aA)] (I aA) rfl rfl (fun _ h => h) (fun _ => rfl) ?_
     obtain ⟨aM, c4, c5, H⟩ := H
     obtain ⟨cC, u, c6, rest, c7, c8, bw⟩ := run_indexb Try.underlying23 ti_22 bE _ c4 c5
     refine GS_r0 [(42, sl aD aB aE), (43, I aA)] (.pointer (some cC)) rfl rfl (fun _ h => h) (fun _ _ => ex_index rfl rfl rfl (c7 _)) ?_
     have cD := bw.od
     obtain ⟨a0, a1, rfl⟩ := cD.shape
     have bJ := (bF.ext aV)
     have c9 := Sub.le bJ bw.le
     have dA : OS 3 c6 emp (sl a0 aM a1) aM := OD.flat cD
     refine GS_r1 [(44, .pointer (some cC))] (sl a0 aM a1) rfl rfl (fun _ h => h) (fun _ w e => ex_ldcell rfl ti_22 ag_22 rfl c8 e) bJ ?_
     refine GS_ev ok [(13, I aC)] (I aC) rfl rfl (fun _ h => h) (fun _ => rfl) ?_
     refine GS_ev ok [(4, pb b)] (.pointer (some ⟨b, 3, none⟩)) rfl rfl (fun _ h => h) (fun _ => rfl) ?_
     refine GS_r1 [(47, .pointer (some ⟨b, 3, none⟩))] (sl aP t.Hi aQ) rfl rfl (fun _ h => h) (fun _ w e => ex_ldbox rfl ti_23 ag_23 (fun _ => rfl) rfl e rfl rfl) ((((aY.ext (a9.trans aK)).but X54 cB).but X73 (Mj aT cB (cA.ext aK))).ext aV) ?_
     refine GS_ev ok [(12, I aA)] (I aA) rfl rfl (fun _ h => h) (fun _ => rfl) ?_
     obtain ⟨bK, dB, dC, H⟩ := H
     obtain ⟨cE, eO, dD, dE, dF⟩ := run_indexAt Try.underlying23 ti_22 bT .i64 _ bK dB dC
     refine GS_r0 [(48, sl aP t.Hi aQ), (49, I aA)] (.pointer (some cE)) rfl rfl (fun _ h => h) (fun _ _ => ex_index rfl rfl rfl (dD _)) ?_
     obtain ⟨eP, dG, dH⟩ := run_loadAt ti_22 ag_22 dE dF
     have cF := dH.slice
     obtain ⟨cG, cH, rfl⟩ := cF.shape
     have cI := ((((bU.ext b5).but X54 b7).but X73 (Mj aT b7 (b6.ext aK))).ext aV)
     refine GS_r1 [(50, .pointer (some cE))] (sl cG bK cH) rfl rfl (fun _ h => h) (fun _ w e => ex_load rfl rfl (dG w e)) cI ?_
     refine GS_ev ok [(13, I aC)] (I aC) rfl rfl (fun _ h => h) (fun _ => rfl) ?_
     obtain ⟨aN, dI, dJ, H⟩ := H
     obtain ⟨cJ, eQ, dK, dL, dM⟩ := run_indexAt Try.underlying22 ti_3 cF .i64 _ aN dI dJ
     refine GS_r0 [(51, sl cG bK cH), (52, I aC)] (.pointer (some cJ)) rfl rfl (fun _ h => h) (fun _ _ => ex_index rfl rfl rfl (dK _)) ?_
     obtain ⟨eR, dN, dO⟩ := run_loadAt ti_3 ag_3 dL dM
     obtain rfl := dO.int
     refine GS_r1 [(53, .pointer (some cJ))] (I aN) rfl rfl (fun _ h => h) (fun _ w e => ex_load rfl rfl (dN w e)) cI ?_
     refine GS_ev ok [(2, sl aI aF aJ)] (sl aI aF aJ) rfl rfl (fun _ h => h) (fun _ => rfl) ?_
     refine GS_ev ok [(12, I aA)] (I aA) rfl rfl (fun _ h => h) (fun _ => rfl) ?_
     obtain ⟨bL, dP, dQ, H⟩ := H
     obtain ⟨cK, eS, dR, dS, dT⟩ := run_indexAt Try.underlying23 ti_22 b0 .i64 _ bL dP dQ
     refine GS_r0 [(55, sl aI aF aJ), (56, I aA)] (.pointer (some cK)) rfl rfl (fun _ h => h) (fun _ _ => ex_index rfl rfl rfl (dR _)) ?_
     obtain ⟨eT, dU, dV⟩ := run_loadAt ti_22 ag_22 dS dT
     have cL := dV.slice
     obtain ⟨cM, cN, rfl⟩ := cL.shape
     have cO := ((((b1.ext b5).but X54 b9).but X73 (Mj aT b9 (b8.ext aK))).ext aV)
     refine GS_r1 [(57, .pointer (some cK))] (sl cM bL cN) rfl rfl (fun _ h => h) (fun _ w e => ex_load rfl rfl (dU w e)) cO ?_
     refine GS_ev ok [(9, I (ln t.Rows))] (I (ln t.Rows)) rfl rfl (fun _ h => h) (fun _ => rfl) ?_
     refine GS_ev ok [(13, I aC)] (I aC) rfl rfl (fun _ h => h) (fun _ => rfl) ?_
     refine GS_ev ok [(59, I (ln t.Rows)), (60, I aC)] (I (wr ((ln t.Rows) + aC))) rfl rfl (fun _ h => h) (fun _ => rfl) ?_
     obtain ⟨aO, dW, dX, H⟩ := H
     obtain ⟨cP, eU, dY, dZ, d0⟩ := run_indexAt Try.underlying22 ti_3 cL .i64 _ aO dW dX
     refine GS_r0 [(58, sl cM bL cN), (61, I (wr ((ln t.Rows) + aC)))] (.pointer (some cP)) rfl rfl (fun _ h => h) (fun _ _ => ex_index rfl rfl rfl (dY _)) ?_
     obtain ⟨eV, d1, d2⟩ := run_loadAt ti_3 ag_3 dZ d0
     obtain rfl := d2.int
     refine GS_r1 [(62, .pointer (some cP))] (I aO) rfl rfl (fun _ h => h) (fun _ w e => ex_load rfl rfl (d1 w e)) cO ?_
     refine GS_ev ok [(54, I aN), (63, I aO)] (I (wr (aN - aO))) rfl rfl (fun _ h => h) (fun _ => rfl) ?_
     intro eW bM ρ hn
     refine AP_forget [(2, sl aI aF aJ), (3, I fixed), (4, pb b), (9, I (ln t.Rows)), (10, I (ln t.Cols)), (11, sl aD aB aE), (12, I aA), (23, I (ln aB)), (24, I aA), (31, I (ln aL)), (32, I aC), (45, sl a0 aM a1), (46, I aC), (64, I (wr (aN - aO)))] (by exact hn) fun ρ => ?_
     refine AP_tail 23 [[], [], [0, 1], [0, 1, 2], [], [], [5], [], [5, 6, 7], [5, 6, 7, 8], [], [5, 6, 7, 8, 9, 10], [5, 6, 7, 8, 9, 10, 11], [], [], [13, 14], [13, 14, 15], [], [], [17, 18], [13, 14, 15, 16, 17, 18, 19], [13, 14, 15, 16, 17, 18, 19, 20], [5, 6, 7, 8, 9, 10, 11, 12, 13, 14, 15, 16, 17, 18, 19, 20, 21], [0, 1, 2, 3, 4, 5, 6, 7, 8, 9, 10, 11, 12, 13, 14, 15, 16, 17, 18, 19, 20, 21, 22], [0, 1, 2, 3, 4, 5, 6, 7, 8, 9, 10, 11, 12, 13, 14, 15, 16, 17, 18, 19, 20, 21, 22, 23]] (by kernel_rfl) ?_
     obtain ⟨d3, hl, H⟩ := H
     refine LP_indexw (v := sl a0 aM a1) 23 rfl rfl rfl Try.underlying22 ti_3 rfl rfl dA d3 hl fun eX wa => (LP_set 24 rfl rfl rfl rfl rfl wa (Le.refl emp) ⟨_, rfl, rfl⟩ (c9.ext bM) fun d4 eY d5 d6 y dm => ?_)
     obtain ⟨eZ, d7, dd⟩ := BwL.turn bw (OS.od d5) (Dom.of dm)
     have d8 := BwL.sub bw (bJ.ext bM) d6 y
     have d9 := BwL.but bw y
     refine Ln _ rfl ?_
     have cQ := (aV.trans bM)
     exact ⟨List.set aZ (Int.toNat aA) (List.set aM (Int.toNat aC) (wr (aN - aO))), H, _, (un d4 rest), Ee ⟨rfl, rfl, rfl, rfl, rfl, rfl, rfl, rfl, rfl, rfl, rfl, trivial⟩, (((Br aH _).stepx cQ).step d9 (Oe (Or _) _)), d7, d8, (Mt (Oe (Or _) _) ((fun n => Oe dd n) _) cQ.size), (CanV.len (by simp) bG)⟩
    have H := H.2 bI
    exact Wk ⟨aZ, H, _, aH, Ee ⟨rfl, rfl, rfl, rfl, rfl, rfl, rfl, rfl, rfl, rfl, rfl, trivial⟩, (Br _ _), bE, bF, (Oe (Or _) _), bG⟩
   rintro eA _ e0 ⟨H, ρ, aU, rfl, HF⟩
   revert HF
   refine bb5 fun X126 eB eC eD eE => ?_
   subst hk
   refine Wg (Lv ok 0 [(66, I (wr (aC + 1))), (32, I (wr (aC + 1)))] 2 rfl rfl (Ln _ rfl ?_))
   have dl : DomLe aG bB.heap.size aH := (Mt (Oe (Or _) _) b4 (Nat.le_refl _))
   exact ⟨(eA, wr (aC + 1)), ⟨H.1, _, aU, Ee ⟨rfl, rfl, rfl, rfl, rfl, rfl, rfl, rfl, rfl, rfl, rfl, trivial⟩, (((Br aG _).step X73 (Oe (Or _) _)).step X126 dl), eB, eC, (Mt dl eD X73.size), eE⟩, H.2⟩
  have H := H.2 bH
  refine W_exit ?_
  refine (if_pos rfl).mpr ?_
  refine Wg (Lv ok 0 [(67, I (wr (aA + 1))), (24, I (wr (aA + 1)))] 2 rfl rfl (Ln _ rfl ?_))
  have cR : DomLe aR bA.heap.size aG := (Mt (Oe (Or _) _) aT (Nat.le_refl _))
  exact ⟨(aZ, wr (aA + 1)), ⟨H.1, _, aH, Ee ⟨rfl, rfl, rfl, rfl, rfl, rfl, rfl, rfl, trivial⟩, (((Br aR _).step X54 (Oe (Or _) _)).step X73 cR), bE, bF, (Mt cR b4 X54.size), bG⟩, H.2⟩
 have H := H.2 hc
 refine W_exit ?_
 refine (if_pos rfl).mpr ?_
 refine Wq (Wg (Lv ok 0 [(68, sl aD aB aE), (8, sl aD aB aE)] 2 rfl rfl (Ln _ rfl (W_ret ?_))))
 have X216 := (X.stepx xc)
 have cS := aS.mono X216.size
 have X218 := (X216.stepx aK)
 have eF := DomLe.fresh aT cS X218.size
 exact ⟨_, Ret_of [sl aD aB aE] ⟨⟨rfl, rfl⟩, trivial⟩, _, _, _, H, rfl, (X218.step X54 (cS.dom _)).ext, bC, bD, eF, b2⟩

theorem impl_fill_w (t : Transport) (Q : (List (List Int)) → Prop) (H : impl_fill t Q) (w : World) {vx : Value} {hx : PH} (r : RS hx vx t.Rows) (ex : Sub hx w) {dA : Value} {dB : PH} (bU : RS dB dA t.Cols) (fP : Sub dB w) {dC : Value} {dD : PH} (a3 : RS dD dC t.Lo) (fQ : Sub dD w) {dE : Value} {dF : PH} (b5 : RS dF dE t.Hi) (fR : Sub dF w) :
  CallsTo Try.prog 63 #[.agg #[vx, dA, dC, dE]] w fun v w' => ∃ b6 b7 b8, Q b6 ∧ v = b7 ∧ Ext w w' ∧ OD b8 b7 b6 ∧ Sub b8 w' ∧ Fresh w.heap.size b8 ∧ CanV b7 b6 := by
 obtain ⟨a, c, rfl⟩ := r.shape
 obtain ⟨aQ, aR, rfl⟩ := bU.shape
 obtain ⟨aK, aL, rfl⟩ := a3.shape
 obtain ⟨bI, bJ, rfl⟩ := b5.shape
 refine enter (args := [.agg #[sl a t.Rows c, sl aQ t.Cols aR, sl aK t.Lo aL, sl bI t.Hi bJ]]) 141 Try.func63 rfl rfl rfl ?_
 refine Wo [(0, .agg #[sl a t.Rows c, sl aQ t.Cols aR, sl aK t.Lo aL, sl bI t.Hi bJ])] ⟨rfl, trivial⟩ fun ρ => ?_
 have X := Br emp w
 refine Wq (Wg (Ly 0 (cs := [sl a t.Rows c, sl aQ t.Cols aR, sl aK t.Lo aL, sl bI t.Hi bJ]) rfl rfl rfl rfl rfl fun b wx x b9 f => (Lv ok 1 [(2, .slice none 0 0)] 2 rfl rfl (Ln _ rfl (Wq ?_)))))
 refine W_quiet mix (by kernel_rfl) ?_
 refine QP_ev ok 0 [(14, pb b)] 1 rfl rfl ?_
 refine QP_ldbox 1 (v := sl a t.Rows c) rfl rfl rfl ti_22 ag_22 (fun _ => rfl) rfl b9 rfl rfl ?_
 refine QP_ev ok 2 [(16, I (ln t.Rows)), (17, .pointer (some ⟨b, 1, none⟩))] 4 rfl rfl ?_
 refine QP_ldbox 4 (v := sl aQ t.Cols aR) rfl rfl rfl ti_22 ag_22 (fun _ => rfl) rfl b9 rfl rfl ?_
 refine QP_ev ok 5 [(19, I (ln t.Cols)), (3, I (ln t.Rows)), (4, I (ln t.Cols))] 8 rfl rfl ?_
 refine QP_end _ rfl fun fS bK => ?_
 refine Wq (Wg ?_)
 have bV := (b9.ext bK)
 refine Lb 0 (v := .agg #[sl a t.Rows c, sl aQ t.Cols aR, sl aK t.Lo aL, sl bI t.Hi bJ]) rfl rfl rfl ti_29 ag_29 (fun h => by cases h) rfl bV rfl rfl (Lv ok 1 [(21, .pointer (some ⟨b, 2, none⟩))] 2 rfl rfl (Lb 2 (v := sl aK t.Lo aL) rfl rfl rfl ti_23 ag_23 (fun _ => rfl) rfl bV rfl rfl ?_))
 have xc := (x.trans bK)
 have bB := (ex.ext xc)
 have bL := (fP.ext xc)
 have bW := (fQ.ext xc)
 have cA := (fR.ext xc)
 refine Lc 3 rfl rfl rfl cal_89 rfl (impl_residual_w _ _ _ _ H fS r bB bU bL a3 bW b5 cA a3 bW) ?_
 rintro _ jH ⟨a4, jI, jJ, H, rfl, aH, o, cB, jK⟩
 obtain ⟨a5, a6, rfl⟩ := o.shape
 refine Lv ok 4 [(5, sl a5 a4 a6)] 5 rfl rfl (Ln _ rfl (Wq (Wg (Lv ok 0 [(24, I (ln t.Rows)), (25, I (ln t.Cols)), (26, I (wr ((ln t.Rows) + (ln t.Cols)))), (27, I (wr ((wr ((ln t.Rows) + (ln t.Cols))) + 2)))] 4 rfl rfl ?_))))
 obtain ⟨hn, hb, H⟩ := H
 refine LP_maked (β := Int) 4 rfl rfl rfl Try.underlying23 ti_22 rfl hn (by first | omega | (simp only [ln] at *; omega)) (by first | omega | (simp only [ln] at *; omega)) fun bM jL cC aG dG fT aE => ?_
 obtain ⟨aA, aB, rfl⟩ := dG.shape
 refine Lv ok 5 [(6, .slice aA (List.length (List.replicate (Int.toNat (wr ((wr ((ln t.Rows) + (ln t.Cols))) + 2))) (([] : List Int)))) aB)] 6 rfl rfl (Ln _ rfl (Wq (Wq (Wg (Lv ok 0 [(29, .slice aA (List.length (List.replicate (Int.toNat (wr ((wr ((ln t.Rows) + (ln t.Cols))) + 2))) (([] : List Int)))) aB), (30, I (ln (List.replicate (Int.toNat (wr ((wr ((ln t.Rows) + (ln t.Cols))) + 2))) (([] : List Int))))), (31, I 0)] 3 rfl rfl ?_)))))
 refine Ln _ rfl (W_block ?_)
 obtain ⟨J, m, Hx, H⟩ := H
 refine W_loop (S := (List (List Int)) × Int) (fun s ρ' w' => J s.1 s.2 ∧ ∃ (ρ : Env) (aI : PH), ρ' = setAll [(1, pb b), (3, I (ln t.Rows)), (4, I (ln t.Cols)), (5, sl a5 a4 a6), (6, .slice aA (List.length (List.replicate (Int.toNat (wr ((wr ((ln t.Rows) + (ln t.Cols))) + 2))) (([] : List Int)))) aB), (30, I (ln (List.replicate (Int.toNat (wr ((wr ((ln t.Rows) + (ln t.Cols))) + 2))) (([] : List Int))))), (31, I s.2)] ρ ∧ But bM cC w' ∧ OD aI (.slice aA (List.length (List.replicate (Int.toNat (wr ((wr ((ln t.Rows) + (ln t.Cols))) + 2))) (([] : List Int)))) aB) s.1 ∧ Sub aI w' ∧ DomLe bM cC.heap.size aI) (fun s => m s.1 s.2) (List.replicate (Int.toNat (wr ((wr ((ln t.Rows) + (ln t.Cols))) + 2))) (([] : List Int)), 0) ⟨Hx, _, bM, Ee ⟨rfl, rfl, rfl, rfl, rfl, rfl, rfl, trivial⟩, (Br _ _), dG, fT, (Oe (Or _) _)⟩ ?_
 rintro ⟨bX, aC⟩ _ cD ⟨Hi, ρ, aI, rfl, X53, dH, bN, aJ⟩
 have H := H bX aC Hi
 refine Wq (Wg (Lv ok 0 [(32, .bool (decide (aC < (ln (List.replicate (Int.toNat (wr ((wr ((ln t.Rows) + (ln t.Cols))) + 2))) (([] : List Int)))))))] 1 rfl rfl (Ln _ rfl (Wq ?_))))
 refine Wc (decide (aC < (ln (List.replicate (Int.toNat (wr ((wr ((ln t.Rows) + (ln t.Cols))) + 2))) (([] : List Int)))))) rfl (fun hc => ?_) (fun hc => ?_)
 ·have H := H.1 hc
  refine Wk ?_
  have dj := (Df (bB.ext aH) aE).symm
  have dI := (Df cB aE).symm
  obtain ⟨k, hk, H⟩ := jn_elim H
  refine W_join2 (S := (List (List Int))) (fun s ρ' w' => k s ∧ ∃ (ρ : Env) (bO : PH), ρ' = setAll [(1, pb b), (3, I (ln t.Rows)), (4, I (ln t.Cols)), (5, sl a5 a4 a6), (6, .slice aA (List.length (List.replicate (Int.toNat (wr ((wr ((ln t.Rows) + (ln t.Cols))) + 2))) (([] : List Int)))) aB), (30, I (ln (List.replicate (Int.toNat (wr ((wr ((ln t.Rows) + (ln t.Cols))) + 2))) (([] : List Int))))), (31, I aC)] ρ ∧ But aI cD w' ∧ OD bO (.slice aA (List.length (List.replicate (Int.toNat (wr ((wr ((ln t.Rows) + (ln t.Cols))) + 2))) (([] : List Int)))) aB) s ∧ Sub bO w' ∧ DomLe aI cD.heap.size bO) ?_ ?_
  ·refine W_block (Wq (Wg (Lv ok 0 [(33, I aC), (7, I aC)] 2 rfl rfl (Ln _ rfl (Wq (Wg (Lv ok 0 [(34, .slice aA (List.length (List.replicate (Int.toNat (wr ((wr ((ln t.Rows) + (ln t.Cols))) + 2))) (([] : List Int)))) aB), (35, I aC), (36, I (ln t.Rows)), (37, I (ln t.Cols)), (38, I (wr ((ln t.Rows) + (ln t.Cols)))), (39, I (wr ((wr ((ln t.Rows) + (ln t.Cols))) + 2)))] 6 rfl rfl ?_)))))))
   obtain ⟨fU, jM, H⟩ := H
   refine LP_make (α := Int) 6 rfl rfl rfl Try.underlying22 ti_3 (x0 := (0 : Int)) rfl rfl fU (by first | omega | (simp only [ln] at *; omega)) (by first | omega | (simp only [ln] at *; omega)) fun jN jO jP bP dJ fV cE => ?_
   obtain ⟨jQ, jR, rfl⟩ := dJ.shape
   obtain ⟨hi, hl, H⟩ := H
   refine LP_indexd (v := .slice aA (List.length (List.replicate (Int.toNat (wr ((wr ((ln t.Rows) + (ln t.Cols))) + 2))) (([] : List Int)))) aB) 7 rfl rfl rfl Try.underlying23 ti_22 rfl rfl dH hi hl fun jS wa => (LP_setD (y := List.replicate (Int.toNat (wr ((wr ((ln t.Rows) + (ln t.Cols))) + 2))) ((0 : Int))) 8 rfl rfl rfl rfl rfl wa (OD.rvo (OS.od dJ)) (bN.ext bP) fV (Df bN cE) fun dK hw jT dL dM y dh dq jU => ?_)
   refine Ln _ rfl (Wq (Wg (Lv ok 0 [(42, I aC), (43, I (ln t.Rows)), (44, I (ln t.Cols)), (45, I (wr ((ln t.Rows) + (ln t.Cols)))), (46, .bool (decide (aC < (wr ((ln t.Rows) + (ln t.Cols))))))] 5 rfl rfl (Ln _ rfl ?_))))
   refine Wc (decide (aC < (wr ((ln t.Rows) + (ln t.Cols))))) rfl (fun cF => ?_) (fun cF => ?_)
   ·have H := H.1 cF
    refine W_open mix fun jV cG => ?_
    refine AP_game 8 [[], [], [0, 1], [0, 1, 2], [], [], [4, 5], [4, 5, 6], [0, 1, 2, 3, 4, 5, 6, 7]] [[(6, none)], [(7, none)], [(47, some 0), (48, some 1)], [(49, some 2)], [(5, none)], [(7, none)], [(51, some 4), (52, some 5)], [(53, some 6)]] [(1, none), (3, none), (4, none), (5, none), (6, none), (30, none), (31, none), (50, some 3), (54, some 7)] [(0, false), (1, false), (2, false), (3, false), (4, false), (5, false), (6, false), (7, false)] (by kernel_rfl) (by kernel_rfl) ?_
    refine GS_ev ok [(6, .slice aA (List.length (List.replicate (Int.toNat (wr ((wr ((ln t.Rows) + (ln t.Cols))) + 2))) (([] : List Int)))) aB)] (.slice aA (List.length (List.replicate (Int.toNat (wr ((wr ((ln t.Rows) + (ln t.Cols))) + 2))) (([] : List Int)))) aB) rfl rfl (fun _ h => h) (fun _ => rfl) ?_
    refine GS_ev ok [(7, I aC)] (I aC) rfl rfl (fun _ h => h) (fun _ => rfl) ?_
    obtain ⟨bC, fW, fX, H⟩ := H
    obtain ⟨dN, u, fY, rest, fZ, f0, bw⟩ := run_indexb Try.underlying23 ti_22 dL _ fW fX
    refine GS_r0 [(47, .slice aA (List.length (List.replicate (Int.toNat (wr ((wr ((ln t.Rows) + (ln t.Cols))) + 2))) (([] : List Int)))) aB), (48, I aC)] (.pointer (some dN)) rfl rfl (fun _ h => h) (fun _ _ => ex_index rfl rfl rfl (fZ _)) ?_
    have dO := bw.od
    obtain ⟨cH, cI, rfl⟩ := dO.shape
    have cJ := (dM.ext cG)
    have f1 := Sub.le cJ bw.le
    have f2 : OS 3 fY emp (sl cH bC cI) bC := OD.flat dO
    refine GS_r1 [(49, .pointer (some dN))] (sl cH bC cI) rfl rfl (fun _ h => h) (fun _ w e => ex_ldcell rfl ti_22 ag_22 rfl f0 e) cJ ?_
    refine GS_ev ok [(5, sl a5 a4 a6)] (sl a5 a4 a6) rfl rfl (fun _ h => h) (fun _ => rfl) ?_
    refine GS_ev ok [(7, I aC)] (I aC) rfl rfl (fun _ h => h) (fun _ => rfl) ?_
    obtain ⟨bQ, f3, f4, H⟩ := H
    obtain ⟨dP, cs, f5, f6, d⟩ := run_indexAt Try.underlying23 ti_22 o.readf .i64 _ bQ f3 f4
    refine GS_r0 [(51, sl a5 a4 a6), (52, I aC)] (.pointer (some dP)) rfl rfl (fun _ h => h) (fun _ _ => ex_index rfl rfl rfl (f5 _)) ?_
    obtain ⟨jW, f7, f8⟩ := run_loadAt ti_22 ag_22 f6 d
    have dQ := f8.slice
    obtain ⟨dR, dS, rfl⟩ := dQ.shape
    have dT := (((((cB.ext aG).but X53 dI).ext bP).but (But.dom y dh) (Mj aJ dI (cB.ext aG))).ext cG)
    refine GS_r1 [(53, .pointer (some dP))] (sl dR bQ dS) rfl rfl (fun _ h => h) (fun _ w e => ex_load rfl rfl (f7 w e)) dT ?_
    intro jX bY ρ f9
    refine AP_forget [(1, pb b), (3, I (ln t.Rows)), (4, I (ln t.Cols)), (5, sl a5 a4 a6), (6, .slice aA (List.length (List.replicate (Int.toNat (wr ((wr ((ln t.Rows) + (ln t.Cols))) + 2))) (([] : List Int)))) aB), (30, I (ln (List.replicate (Int.toNat (wr ((wr ((ln t.Rows) + (ln t.Cols))) + 2))) (([] : List Int))))), (31, I aC), (50, sl cH bC cI), (54, sl dR bQ dS)] (by exact f9) fun ρ => ?_
    refine AP_tail 8 [[], [], [0, 1], [0, 1, 2], [], [], [4, 5], [4, 5, 6], [0, 1, 2, 3, 4, 5, 6, 7]] (by kernel_rfl) ?_
    refine LP_copy (α := Int) 8 rfl rfl rfl Try.underlying22 ti_3 rfl rfl rfl f2 (f1.ext bY) dQ (dT.ext bY) fun gA jY gB gC dU gD => ?_
    obtain ⟨jZ, gE, dd⟩ := BwL.turn bw (OS.od gB) (Dom.of gD)
    have gF := BwL.sub bw (cJ.ext bY) gC dU
    have gG := BwL.but bw dU
    refine Ln _ rfl ?_
    have dV := (cG.trans bY)
    have dW : DomLe aI cD.heap.size dK := (Mt (Mu (Oe (Or _) _) ((cE.mono (Nat.le_refl _)).dom _)) (Oe dq _) (Nat.le_refl _))
    exact ⟨List.set (List.set bX (Int.toNat aC) (List.replicate (Int.toNat (wr ((wr ((ln t.Rows) + (ln t.Cols))) + 2))) ((0 : Int)))) (Int.toNat aC) (List.take (List.length bC) bQ ++ List.drop (List.length bQ) bC), H, _, (un gA rest), Ee ⟨rfl, rfl, rfl, rfl, rfl, rfl, rfl, trivial⟩, (((((Br aI _).stepx bP).step (But.dom y dh) (Oe (Or _) _)).stepx dV).step gG dW), gE, gF, (Mt dW ((fun n => Oe dd n) _) (Nat.le_trans (Nat.le_trans bP.size (But.dom y dh).size) dV.size))⟩
   have H := H.2 cF
   exact Wk ⟨List.set bX (Int.toNat aC) (List.replicate (Int.toNat (wr ((wr ((ln t.Rows) + (ln t.Cols))) + 2))) ((0 : Int))), H, _, dK, Ee ⟨rfl, rfl, rfl, rfl, rfl, rfl, rfl, trivial⟩, (((Br aI _).stepx bP).step (But.dom y dh) (Oe (Or _) _)), dL, dM, (Mt (Mu (Oe (Or _) _) ((cE.mono (Nat.le_refl _)).dom _)) (Oe dq _) (Nat.le_refl _))⟩
  rintro gH _ j0 ⟨H, ρ, bO, rfl, X88, gI, gJ, gK⟩
  subst hk
  refine Wg (Lv ok 0 [(56, I (wr (aC + 1))), (31, I (wr (aC + 1)))] 2 rfl rfl (Ln _ rfl ?_))
  have dX : DomLe bM cC.heap.size aI := (Mt (Oe (Or _) _) aJ (Nat.le_refl _))
  exact ⟨(gH, wr (aC + 1)), ⟨H.1, _, bO, Ee ⟨rfl, rfl, rfl, rfl, rfl, rfl, rfl, trivial⟩, (((Br bM _).step X53 (Oe (Or _) _)).step X88 dX), gI, gJ, (Mt dX gK X53.size)⟩, H.2⟩
 have H := H.2 hc
 refine W_exit ?_
 refine (if_pos rfl).mpr ?_
 refine Wq ?_
 refine W_open mix fun j1 a7 => ?_
 refine AP_game 5 [[], [0], [0, 1], [], [3], [0, 1, 2, 3, 4], [0, 1, 2, 3, 4, 5], [0, 1, 2, 3, 4, 5, 6]] [[(1, none)], [(57, some 0)], [(58, some 1)], [(1, none)], [(60, some 3)]] [(1, none), (3, none), (4, none), (6, none), (59, some 2), (61, some 4)] [(0, false), (1, false), (3, false), (4, false), (2, true)] (by kernel_rfl) (by kernel_rfl) ?_
 refine GS_ev ok [(1, pb b)] (.pointer (some ⟨b, 2, none⟩)) rfl rfl (fun _ h => h) (fun _ => rfl) ?_
 have a8 := (aH.trans aG)
 have dY := (bV.ext aH)
 have dZ := (Df dY aE).symm
 have bZ := (((bV.ext a8).but X53 dZ).ext a7)
 refine GS_r1 [(57, .pointer (some ⟨b, 2, none⟩))] (sl aK t.Lo aL) rfl rfl (fun _ h => h) (fun _ w e => ex_ldbox rfl ti_23 ag_23 (fun _ => rfl) rfl e rfl rfl) bZ ?_
 refine GS_ev ok [(1, pb b)] (.pointer (some ⟨b, 2, none⟩)) rfl rfl (fun _ h => h) (fun _ => rfl) ?_
 refine GS_r1 [(60, .pointer (some ⟨b, 2, none⟩))] (sl aK t.Lo aL) rfl rfl (fun _ h => h) (fun _ w e => ex_ldbox rfl ti_23 ag_23 (fun _ => rfl) rfl e rfl rfl) bZ ?_
 refine GS_lp [(58, sl aK t.Lo aL)] rfl rfl (fun _ h => h) rfl fun ρ gL aV => ?_
 have d0 := (bW.ext aH)
 have d1 := (Df d0 aE).symm
 have d2 := (a7.trans aV)
 have d3 := (((bW.ext a8).but X53 d1).ext d2)
 refine Lc 0 rfl rfl rfl cal_65 rfl (impl_rowSums_w _ _ H gL a3 d3) ?_
 rintro _ j2 ⟨aW, j3, j4, H, rfl, aX, cK, gM, gN⟩
 obtain ⟨aY, aZ, rfl⟩ := cK.shape
 refine LP_gs ⟨⟨.inr (bZ.ext (aV.trans aX)), .inl rfl, trivial⟩, ?_⟩
 intro gO a0 ρ gP
 refine AP_forget [(1, pb b), (3, I (ln t.Rows)), (4, I (ln t.Cols)), (6, .slice aA (List.length (List.replicate (Int.toNat (wr ((wr ((ln t.Rows) + (ln t.Cols))) + 2))) (([] : List Int)))) aB), (59, sl aY aW aZ), (61, sl aK t.Lo aL)] (by exact gP) fun ρ => ?_
 refine AP_tail 5 [[], [0], [0, 1], [], [3], [0, 1, 2, 3, 4], [0, 1, 2, 3, 4, 5], [0, 1, 2, 3, 4, 5, 6]] (by kernel_rfl) ?_
 have cL := (d3.ext (aX.trans a0))
 refine Lc 5 rfl rfl rfl cal_78 rfl (impl_colSums_w _ _ H gO a3 cL) ?_
 rintro _ cM ⟨aS, j5, j6, H, rfl, a1, cN, d4, gQ⟩
 obtain ⟨aT, aU, rfl⟩ := cN.shape
 refine Lv ok 6 [(8, sl aY aW aZ), (9, sl aT aS aU)] 8 rfl rfl (Ln _ rfl (Wq (Wq (Wg (Lv ok 0 [(63, pb b)] 1 rfl rfl ?_)))))
 have cO := (bZ.ext (((aV.trans aX).trans a0).trans a1))
 refine Lb 1 (v := sl a t.Rows c) rfl rfl rfl ti_22 ag_22 (fun _ => rfl) rfl cO rfl rfl (Lv ok 2 [(65, I (ln t.Rows)), (66, I 0)] 4 rfl rfl (Ln _ rfl (W_block ?_)))
 obtain ⟨J212, gR, Hx214, H⟩ := H
 refine W_loop (S := (List (List Int)) × Int) (fun s ρ' w' => J212 s.1 s.2 ∧ ∃ (ρ : Env) (aM : PH), ρ' = setAll [(1, pb b), (3, I (ln t.Rows)), (4, I (ln t.Cols)), (6, .slice aA (List.length (List.replicate (Int.toNat (wr ((wr ((ln t.Rows) + (ln t.Cols))) + 2))) (([] : List Int)))) aB), (8, sl aY aW aZ), (9, sl aT aS aU), (64, sl a t.Rows c), (65, I (ln t.Rows)), (66, I s.2)] ρ ∧ But aI cM w' ∧ OD aM (.slice aA (List.length (List.replicate (Int.toNat (wr ((wr ((ln t.Rows) + (ln t.Cols))) + 2))) (([] : List Int)))) aB) s.1 ∧ Sub aM w' ∧ DomLe aI cM.heap.size aM) (fun s => gR s.1 s.2) (bX, 0) ⟨Hx214, _, aI, Ee ⟨rfl, rfl, rfl, rfl, rfl, rfl, rfl, rfl, rfl, trivial⟩, (Br _ _), dH, (bN.ext ((((a7.trans aV).trans aX).trans a0).trans a1)), (Oe (Or _) _)⟩ ?_
 rintro ⟨cP, aF⟩ _ cQ ⟨Hi, ρ, aM, rfl, X211, d5, d6, aN⟩
 have H := H cP aF Hi
 refine Wq (Wg (Lv ok 0 [(67, .bool (decide (aF < (ln t.Rows))))] 1 rfl rfl (Ln _ rfl (Wq ?_))))
 refine Wc (decide (aF < (ln t.Rows))) rfl (fun cR => ?_) (fun cR => ?_)
 ·have H := H.1 cR
  refine Wk (Wq (W_block (Wq (Wg (Lv ok 0 [(68, I aF)] 1 rfl rfl ?_)))))
  obtain ⟨aO, gS, gT, H⟩ := H
  refine Li 1 rfl rfl rfl Try.underlying22 ti_3 rfl rfl r gS gT fun j7 j8 gU gV => ?_
  have d7 := (bB.ext aH)
  have d8 := (Df d7 aE).symm
  have d9 := ((((a7.trans aV).trans aX).trans a0).trans a1)
  refine Lo 2 rfl rfl rfl ti_3 ag_3 rfl gU gV ((((bB.ext a8).but X53 d8).ext d9).but X211 (Mj aJ d8 (d7.ext aG))) fun j9 gW => ?_
  obtain rfl := gW.int
  refine Lv ok 3 [(10, I aF), (11, I aO)] 5 rfl rfl (Ln _ rfl (Wq (Wq (Wg (Lv ok 0 [(71, I aO), (72, sl aY aW aZ), (73, I aF)] 3 rfl rfl ?_)))))
  obtain ⟨eA, gX, gY, H⟩ := H
  refine Li 3 rfl rfl rfl Try.underlying22 ti_3 rfl rfl cK.readf gX gY fun kA kB gZ g0 => ?_
  have eB := ((gM.ext (a0.trans a1)).but X211 (Df (bN.ext d2) gN))
  refine Lo 4 rfl rfl rfl ti_3 ag_3 rfl gZ g0 eB fun kC g1 => ?_
  obtain rfl := g1.int
  refine Lv ok 5 [(76, .bool (decide (aO < eA)))] 6 rfl rfl (Ln _ rfl ?_)
  refine Wc (decide (aO < eA)) rfl (fun cS => ?_) (fun cS => ?_)
  ·have H := H.1 cS
   refine Wq (Wg (Lv ok 0 [(2, .slice none 0 0)] 1 rfl rfl (Ln _ rfl (W_ret ?_))))
   have X251 := (X.stepx (xc.trans aH))
   have g2 := aE.mono X251.size
   have g3 := aE.mono X251.size
   have g4 := DomLe.fresh aJ g3 (X251.stepx aG).size
   exact ⟨_, Ret_of [.slice none 0 0] ⟨⟨rfl, rfl⟩, trivial⟩, _, _, emp, H, rfl, ((((X.stepx (((x.trans bK).trans aH).trans aG)).step X53 (g2.dom _)).stepx d9).step X211 (g4.dom _)).ext, OD.nil, (emp_sub _), (emp_fresh _), CanV.nil⟩
  have H := H.2 cS
  refine Wk ?_
  refine W_open mix fun kD cT => ?_
  refine AP_game 13 [[], [], [], [1, 2], [0, 1, 2, 3], [0, 1, 2, 3, 4], [], [], [], [], [8, 9], [8, 9, 10], [7, 8, 9, 10, 11], [0, 1, 2, 3, 4, 5, 6, 7, 8, 9, 10, 11, 12], [0, 1, 2, 3, 4, 5, 6, 7, 8, 9, 10, 11, 12, 13]] [[(6, none)], [(3, none)], [(4, none)], [(78, some 1), (79, some 2)], [(77, some 0), (80, some 3)], [(81, some 4)], [(10, none)], [(11, none)], [(8, none)], [(10, none)], [(85, some 8), (86, some 9)], [(87, some 10)], [(84, some 7), (88, some 11)]] [(1, none), (3, none), (4, none), (6, none), (8, none), (9, none), (64, none), (65, none), (66, none), (82, some 5), (83, some 6), (89, some 12)] [(0, false), (1, false), (2, false), (3, false), (4, false), (5, false), (6, false), (7, false), (8, false), (9, false), (10, false), (11, false), (12, false)] (by kernel_rfl) (by kernel_rfl) ?_
  refine GS_ev ok [(6, .slice aA (List.length (List.replicate (Int.toNat (wr ((wr ((ln t.Rows) + (ln t.Cols))) + 2))) (([] : List Int)))) aB)] (.slice aA (List.length (List.replicate (Int.toNat (wr ((wr ((ln t.Rows) + (ln t.Cols))) + 2))) (([] : List Int)))) aB) rfl rfl (fun _ h => h) (fun _ => rfl) ?_
  refine GS_ev ok [(3, I (ln t.Rows))] (I (ln t.Rows)) rfl rfl (fun _ h => h) (fun _ => rfl) ?_
  refine GS_ev ok [(4, I (ln t.Cols))] (I (ln t.Cols)) rfl rfl (fun _ h => h) (fun _ => rfl) ?_
  refine GS_ev ok [(78, I (ln t.Rows)), (79, I (ln t.Cols))] (I (wr ((ln t.Rows) + (ln t.Cols)))) rfl rfl (fun _ h => h) (fun _ => rfl) ?_
  obtain ⟨bD, g5, g6, H⟩ := H
  obtain ⟨eC, kE, g7, g8, g9, hA, bR⟩ := run_indexb Try.underlying23 ti_22 d5 _ g5 g6
  refine GS_r0 [(77, .slice aA (List.length (List.replicate (Int.toNat (wr ((wr ((ln t.Rows) + (ln t.Cols))) + 2))) (([] : List Int)))) aB), (80, I (wr ((ln t.Rows) + (ln t.Cols))))] (.pointer (some eC)) rfl rfl (fun _ h => h) (fun _ _ => ex_index rfl rfl rfl (g9 _)) ?_
  have eD := bR.od
  obtain ⟨b0, b1, rfl⟩ := eD.shape
  have cU := (d6.ext cT)
  have hB := Sub.le cU bR.le
  have hC : OS 3 g7 emp (sl b0 bD b1) bD := OD.flat eD
  refine GS_r1 [(81, .pointer (some eC))] (sl b0 bD b1) rfl rfl (fun _ h => h) (fun _ w e => ex_ldcell rfl ti_22 ag_22 rfl hA e) cU ?_
  refine GS_ev ok [(10, I aF)] (I aF) rfl rfl (fun _ h => h) (fun _ => rfl) ?_
  refine GS_ev ok [(11, I aO)] (I aO) rfl rfl (fun _ h => h) (fun _ => rfl) ?_
  refine GS_ev ok [(8, sl aY aW aZ)] (sl aY aW aZ) rfl rfl (fun _ h => h) (fun _ => rfl) ?_
  refine GS_ev ok [(10, I aF)] (I aF) rfl rfl (fun _ h => h) (fun _ => rfl) ?_
  obtain ⟨bE, hD, hE, H⟩ := H
  obtain ⟨eE, kF, hF, hG, hH⟩ := run_indexAt Try.underlying22 ti_3 cK.readf .i64 _ bE hD hE
  refine GS_r0 [(85, sl aY aW aZ), (86, I aF)] (.pointer (some eE)) rfl rfl (fun _ h => h) (fun _ _ => ex_index rfl rfl rfl (hF _)) ?_
  obtain ⟨kG, hI, hJ⟩ := run_loadAt ti_3 ag_3 hG hH
  obtain rfl := hJ.int
  refine GS_r1 [(87, .pointer (some eE))] (I bE) rfl rfl (fun _ h => h) (fun _ w e => ex_load rfl rfl (hI w e)) (eB.ext cT) ?_
  refine GS_ev ok [(84, I aO), (88, I bE)] (I (wr (aO - bE))) rfl rfl (fun _ h => h) (fun _ => rfl) ?_
  intro kH cV ρ hK
  refine AP_forget [(1, pb b), (3, I (ln t.Rows)), (4, I (ln t.Cols)), (6, .slice aA (List.length (List.replicate (Int.toNat (wr ((wr ((ln t.Rows) + (ln t.Cols))) + 2))) (([] : List Int)))) aB), (8, sl aY aW aZ), (9, sl aT aS aU), (64, sl a t.Rows c), (65, I (ln t.Rows)), (66, I aF), (82, sl b0 bD b1), (83, I aF), (89, I (wr (aO - bE)))] (by exact hK) fun ρ => ?_
  refine AP_tail 13 [[], [], [], [1, 2], [0, 1, 2, 3], [0, 1, 2, 3, 4], [], [], [], [], [8, 9], [8, 9, 10], [7, 8, 9, 10, 11], [0, 1, 2, 3, 4, 5, 6, 7, 8, 9, 10, 11, 12], [0, 1, 2, 3, 4, 5, 6, 7, 8, 9, 10, 11, 12, 13]] (by kernel_rfl) ?_
  obtain ⟨hL, hM, H⟩ := H
  refine LP_indexw (v := sl b0 bD b1) 13 rfl rfl rfl Try.underlying22 ti_3 rfl rfl hC hL hM fun kI hN => (LP_set 14 rfl rfl rfl rfl rfl hN (Le.refl emp) ⟨_, rfl, rfl⟩ (hB.ext cV) fun hO kJ hP hQ eF hR => ?_)
  obtain ⟨kK, hS, hT⟩ := BwL.turn bR (OS.od hP) (Dom.of hR)
  have hU := BwL.sub bR (cU.ext cV) hQ eF
  have hV := BwL.but bR eF
  refine Ln _ rfl (Wg (Lv ok 0 [(91, I (wr (aF + 1))), (66, I (wr (aF + 1)))] 2 rfl rfl (Ln _ rfl ?_)))
  have eG := (cT.trans cV)
  have eH : DomLe aI cM.heap.size aM := (Mt (Oe (Or _) _) aN (Nat.le_refl _))
  exact ⟨(List.set cP (Int.toNat (wr ((ln t.Rows) + (ln t.Cols)))) (List.set bD (Int.toNat aF) (wr (aO - bE))), wr (aF + 1)), ⟨H.1, _, (un hO g8), Ee ⟨rfl, rfl, rfl, rfl, rfl, rfl, rfl, rfl, rfl, trivial⟩, ((((Br aI _).step X211 (Oe (Or _) _)).stepx eG).step hV eH), hS, hU, (Mt eH ((fun n => Oe hT n) _) (Nat.le_trans X211.size eG.size))⟩, H.2⟩
 have H := H.2 cR
 refine W_exit ?_
 refine (if_pos rfl).mpr ?_
 refine Wq (Wq (Wg (Lv ok 0 [(92, .pointer (some ⟨b, 1, none⟩))] 1 rfl rfl ?_)))
 have eI := (Mj aJ dZ (dY.ext aG))
 have cW := (cO.but X211 eI)
 refine Lb 1 (v := sl aQ t.Cols aR) rfl rfl rfl ti_22 ag_22 (fun _ => rfl) rfl cW rfl rfl (Lv ok 2 [(94, I (ln t.Cols)), (95, I 0)] 4 rfl rfl (Ln _ rfl (W_block ?_)))
 obtain ⟨J322, hW, Hx324, H⟩ := H
 refine W_loop (S := (List (List Int)) × Int) (fun s ρ' w' => J322 s.1 s.2 ∧ ∃ (ρ : Env) (bS : PH), ρ' = setAll [(1, pb b), (3, I (ln t.Rows)), (4, I (ln t.Cols)), (6, .slice aA (List.length (List.replicate (Int.toNat (wr ((wr ((ln t.Rows) + (ln t.Cols))) + 2))) (([] : List Int)))) aB), (9, sl aT aS aU), (93, sl aQ t.Cols aR), (94, I (ln t.Cols)), (95, I s.2)] ρ ∧ But aM cQ w' ∧ OD bS (.slice aA (List.length (List.replicate (Int.toNat (wr ((wr ((ln t.Rows) + (ln t.Cols))) + 2))) (([] : List Int)))) aB) s.1 ∧ Sub bS w' ∧ DomLe aM cQ.heap.size bS) (fun s => hW s.1 s.2) (cP, 0) ⟨Hx324, _, aM, Ee ⟨rfl, rfl, rfl, rfl, rfl, rfl, rfl, rfl, trivial⟩, (Br _ _), d5, d6, (Oe (Or _) _)⟩ ?_
 rintro ⟨eJ, aD⟩ _ hX ⟨Hi, ρ, bS, rfl, X321, eK, eL, a9⟩
 have H := H eJ aD Hi
 refine Wq (Wg (Lv ok 0 [(96, .bool (decide (aD < (ln t.Cols))))] 1 rfl rfl (Ln _ rfl (Wq ?_))))
 refine Wc (decide (aD < (ln t.Cols))) rfl (fun cX => ?_) (fun cX => ?_)
 ·have H := H.1 cX
  refine Wk (Wq (W_block (Wq (Wg (Lv ok 0 [(97, I aD)] 1 rfl rfl ?_)))))
  obtain ⟨aP, hY, hZ, H⟩ := H
  refine Li 1 rfl rfl rfl Try.underlying22 ti_3 rfl rfl bU hY hZ fun kL kM h0 h1 => ?_
  have eM := (bL.ext aH)
  have cY := (Df eM aE).symm
  have b2 := ((((a7.trans aV).trans aX).trans a0).trans a1)
  have eN := (eM.ext aG)
  have eO := (Mj aJ cY eN)
  refine Lo 2 rfl rfl rfl ti_3 ag_3 rfl h0 h1 (((((bL.ext a8).but X53 cY).ext b2).but X211 eO).but X321 (Mj aN eO ((eN.but X53 cY).ext b2))) fun kN h2 => ?_
  obtain rfl := h2.int
  refine Lv ok 3 [(12, I aD), (13, I aP)] 5 rfl rfl (Ln _ rfl (Wq (Wq (Wg (Lv ok 0 [(100, I aP), (101, sl aT aS aU), (102, I aD)] 3 rfl rfl ?_)))))
  obtain ⟨eP, h3, h4, H⟩ := H
  refine Li 3 rfl rfl rfl Try.underlying22 ti_3 rfl rfl cN.readf h3 h4 fun kO kP h5 h6 => ?_
  have eQ := (Df (bN.ext (((a7.trans aV).trans aX).trans a0)) gQ)
  have eR := ((d4.but X211 eQ).but X321 (Mj aN eQ d4))
  refine Lo 4 rfl rfl rfl ti_3 ag_3 rfl h5 h6 eR fun kQ h7 => ?_
  obtain rfl := h7.int
  refine Lv ok 5 [(105, .bool (decide (aP < eP)))] 6 rfl rfl (Ln _ rfl ?_)
  refine Wc (decide (aP < eP)) rfl (fun cZ => ?_) (fun cZ => ?_)
  ·have H := H.1 cZ
   refine Wq (Wg (Lv ok 0 [(2, .slice none 0 0)] 1 rfl rfl (Ln _ rfl (W_ret ?_))))
   have X362 := (X.stepx (xc.trans aH))
   have eS := aE.mono X362.size
   have h8 := aE.mono X362.size
   have X365 := (X362.stepx aG)
   have h9 := DomLe.fresh aJ h8 X365.size
   have iA := aE.mono X362.size
   have iB := DomLe.fresh aJ iA X365.size
   have iC := DomLe.fresh aN iB ((X365.step X53 (eS.dom _)).stepx b2).size
   exact ⟨_, Ret_of [.slice none 0 0] ⟨⟨rfl, rfl⟩, trivial⟩, _, _, emp, H, rfl, (((((X.stepx (((x.trans bK).trans aH).trans aG)).step X53 (eS.dom _)).stepx b2).step X211 (h9.dom _)).step X321 (iC.dom _)).ext, OD.nil, (emp_sub _), (emp_fresh _), CanV.nil⟩
  have H := H.2 cZ
  refine Wk ?_
  refine W_open mix fun kR c0 => ?_
  refine AP_game 16 [[], [], [], [1, 2], [0, 1, 2, 3], [0, 1, 2, 3, 4], [], [], [6, 7], [6, 7, 8], [], [], [], [11, 12], [11, 12, 13], [10, 11, 12, 13, 14], [0, 1, 2, 3, 4, 5, 6, 7, 8, 9, 10, 11, 12, 13, 14, 15], [0, 1, 2, 3, 4, 5, 6, 7, 8, 9, 10, 11, 12, 13, 14, 15, 16]] [[(6, none)], [(3, none)], [(12, none)], [(107, some 1), (108, some 2)], [(106, some 0), (109, some 3)], [(110, some 4)], [(3, none)], [(4, none)], [(112, some 6), (113, some 7)], [(114, some 8)], [(13, none)], [(9, none)], [(12, none)], [(117, some 11), (118, some 12)], [(119, some 13)], [(116, some 10), (120, some 14)]] [(1, none), (3, none), (4, none), (6, none), (9, none), (93, none), (94, none), (95, none), (111, some 5), (115, some 9), (121, some 15)] [(0, false), (1, false), (2, false), (3, false), (4, false), (5, false), (6, false), (7, false), (8, false), (9, false), (10, false), (11, false), (12, false), (13, false), (14, false), (15, false)] (by kernel_rfl) (by kernel_rfl) ?_
  refine GS_ev ok [(6, .slice aA (List.length (List.replicate (Int.toNat (wr ((wr ((ln t.Rows) + (ln t.Cols))) + 2))) (([] : List Int)))) aB)] (.slice aA (List.length (List.replicate (Int.toNat (wr ((wr ((ln t.Rows) + (ln t.Cols))) + 2))) (([] : List Int)))) aB) rfl rfl (fun _ h => h) (fun _ => rfl) ?_
  refine GS_ev ok [(3, I (ln t.Rows))] (I (ln t.Rows)) rfl rfl (fun _ h => h) (fun _ => rfl) ?_
  refine GS_ev ok [(12, I aD)] (I aD) rfl rfl (fun _ h => h) (fun _ => rfl) ?_
  refine GS_ev ok [(107, I (ln t.Rows)), (108, I aD)] (I (wr ((ln t.Rows) + aD))) rfl rfl (fun _ h => h) (fun _ => rfl) ?_
  obtain ⟨bF, iD, iE, H⟩ := H
  obtain ⟨eT, kS, iF, iG, iH, iI, bT⟩ := run_indexb Try.underlying23 ti_22 eK _ iD iE
  refine GS_r0 [(106, .slice aA (List.length (List.replicate (Int.toNat (wr ((wr ((ln t.Rows) + (ln t.Cols))) + 2))) (([] : List Int)))) aB), (109, I (wr ((ln t.Rows) + aD)))] (.pointer (some eT)) rfl rfl (fun _ h => h) (fun _ _ => ex_index rfl rfl rfl (iH _)) ?_
  have eU := bT.od
  obtain ⟨b3, b4, rfl⟩ := eU.shape
  have c1 := (eL.ext c0)
  have iJ := Sub.le c1 bT.le
  have iK : OS 3 iF emp (sl b3 bF b4) bF := OD.flat eU
  refine GS_r1 [(110, .pointer (some eT))] (sl b3 bF b4) rfl rfl (fun _ h => h) (fun _ w e => ex_ldcell rfl ti_22 ag_22 rfl iI e) c1 ?_
  refine GS_ev ok [(3, I (ln t.Rows))] (I (ln t.Rows)) rfl rfl (fun _ h => h) (fun _ => rfl) ?_
  refine GS_ev ok [(4, I (ln t.Cols))] (I (ln t.Cols)) rfl rfl (fun _ h => h) (fun _ => rfl) ?_
  refine GS_ev ok [(112, I (ln t.Rows)), (113, I (ln t.Cols))] (I (wr ((ln t.Rows) + (ln t.Cols)))) rfl rfl (fun _ h => h) (fun _ => rfl) ?_
  refine GS_ev ok [(114, I (wr ((ln t.Rows) + (ln t.Cols))))] (I (wr ((wr ((ln t.Rows) + (ln t.Cols))) + 1))) rfl rfl (fun _ h => h) (fun _ => rfl) ?_
  refine GS_ev ok [(13, I aP)] (I aP) rfl rfl (fun _ h => h) (fun _ => rfl) ?_
  refine GS_ev ok [(9, sl aT aS aU)] (sl aT aS aU) rfl rfl (fun _ h => h) (fun _ => rfl) ?_
  refine GS_ev ok [(12, I aD)] (I aD) rfl rfl (fun _ h => h) (fun _ => rfl) ?_
  obtain ⟨bG, iL, iM, H⟩ := H
  obtain ⟨eV, kT, iN, iO, iP⟩ := run_indexAt Try.underlying22 ti_3 cN.readf .i64 _ bG iL iM
  refine GS_r0 [(117, sl aT aS aU), (118, I aD)] (.pointer (some eV)) rfl rfl (fun _ h => h) (fun _ _ => ex_index rfl rfl rfl (iN _)) ?_
  obtain ⟨kU, iQ, iR⟩ := run_loadAt ti_3 ag_3 iO iP
  obtain rfl := iR.int
  refine GS_r1 [(119, .pointer (some eV))] (I bG) rfl rfl (fun _ h => h) (fun _ w e => ex_load rfl rfl (iQ w e)) (eR.ext c0) ?_
  refine GS_ev ok [(116, I aP), (120, I bG)] (I (wr (aP - bG))) rfl rfl (fun _ h => h) (fun _ => rfl) ?_
  intro kV c2 ρ iS
  refine AP_forget [(1, pb b), (3, I (ln t.Rows)), (4, I (ln t.Cols)), (6, .slice aA (List.length (List.replicate (Int.toNat (wr ((wr ((ln t.Rows) + (ln t.Cols))) + 2))) (([] : List Int)))) aB), (9, sl aT aS aU), (93, sl aQ t.Cols aR), (94, I (ln t.Cols)), (95, I aD), (111, sl b3 bF b4), (115, I (wr ((wr ((ln t.Rows) + (ln t.Cols))) + 1))), (121, I (wr (aP - bG)))] (by exact iS) fun ρ => ?_
  refine AP_tail 16 [[], [], [], [1, 2], [0, 1, 2, 3], [0, 1, 2, 3, 4], [], [], [6, 7], [6, 7, 8], [], [], [], [11, 12], [11, 12, 13], [10, 11, 12, 13, 14], [0, 1, 2, 3, 4, 5, 6, 7, 8, 9, 10, 11, 12, 13, 14, 15], [0, 1, 2, 3, 4, 5, 6, 7, 8, 9, 10, 11, 12, 13, 14, 15, 16]] (by kernel_rfl) ?_
  obtain ⟨iT, iU, H⟩ := H
  refine LP_indexw (v := sl b3 bF b4) 16 rfl rfl rfl Try.underlying22 ti_3 rfl rfl iK iT iU fun kW iV => (LP_set 17 rfl rfl rfl rfl rfl iV (Le.refl emp) ⟨_, rfl, rfl⟩ (iJ.ext c2) fun iW kX iX iY eW iZ => ?_)
  obtain ⟨kY, i0, i1⟩ := BwL.turn bT (OS.od iX) (Dom.of iZ)
  have i2 := BwL.sub bT (c1.ext c2) iY eW
  have i3 := BwL.but bT eW
  refine Ln _ rfl (Wg (Lv ok 0 [(123, I (wr (aD + 1))), (95, I (wr (aD + 1)))] 2 rfl rfl (Ln _ rfl ?_)))
  have eX := (c0.trans c2)
  have eY : DomLe aM cQ.heap.size bS := (Mt (Oe (Or _) _) a9 (Nat.le_refl _))
  exact ⟨(List.set eJ (Int.toNat (wr ((ln t.Rows) + aD))) (List.set bF (Int.toNat (wr ((wr ((ln t.Rows) + (ln t.Cols))) + 1))) (wr (aP - bG))), wr (aD + 1)), ⟨H.1, _, (un iW iG), Ee ⟨rfl, rfl, rfl, rfl, rfl, rfl, rfl, rfl, trivial⟩, ((((Br aM _).step X321 (Oe (Or _) _)).stepx eX).step i3 eY), i0, i2, (Mt eY ((fun n => Oe i1 n) _) (Nat.le_trans X321.size eX.size))⟩, H.2⟩
 have H := H.2 cX
 refine W_exit ?_
 refine (if_pos rfl).mpr ?_
 refine Wq (Wg (Lv ok 0 [(124, .slice aA (List.length (List.replicate (Int.toNat (wr ((wr ((ln t.Rows) + (ln t.Cols))) + 2))) (([] : List Int)))) aB), (125, I (ln t.Rows)), (126, I (ln t.Cols)), (127, I (wr ((ln t.Rows) + (ln t.Cols)))), (128, I (ln t.Rows)), (129, I (ln t.Cols)), (130, I (wr ((ln t.Rows) + (ln t.Cols)))), (131, I (wr ((wr ((ln t.Rows) + (ln t.Cols))) + 1))), (132, pb b)] 9 rfl rfl ?_))
 have eZ := (Mj aN eI cO)
 have e0 := (cW.but X321 eZ)
 refine Lb 9 (v := sl a t.Rows c) rfl rfl rfl ti_22 ag_22 (fun _ => rfl) rfl e0 rfl rfl ?_
 have e1 := (bB.ext aH)
 have c3 := (Df e1 aE).symm
 have a2 := ((((a7.trans aV).trans aX).trans a0).trans a1)
 have e2 := (e1.ext aG)
 have c4 := (Mj aJ c3 e2)
 have e3 := ((e2.but X53 c3).ext a2)
 have e4 := (Mj aN c4 e3)
 have e5 := (((((bB.ext a8).but X53 c3).ext a2).but X211 c4).but X321 e4)
 refine Lc 10 rfl rfl rfl cal_64 rfl (impl_total_w _ _ H hX r e5) ?_
 rintro _ i4 ⟨kZ, H, rfl, bA⟩
 refine Lc 11 rfl rfl rfl cal_90 rfl (impl_push_w _ _ _ _ _ H i4 eK (eL.ext bA)) ?_
 rintro _ i5 ⟨k0, k1, k2, H, rfl, bH, i6, i7, k3⟩
 refine Ln _ rfl (Wq (Wg ?_))
 have e6 := ((e0.ext bA).but bH (Mj a9 eZ cW))
 refine Lb 0 (v := .agg #[sl a t.Rows c, sl aQ t.Cols aR, sl aK t.Lo aL, sl bI t.Hi bJ]) rfl rfl rfl ti_29 ag_29 (fun h => by cases h) rfl e6 rfl rfl (Lv ok 1 [(137, .pointer (some ⟨b, 2, none⟩))] 2 rfl rfl (Lb 2 (v := sl aK t.Lo aL) rfl rfl rfl ti_23 ag_23 (fun _ => rfl) rfl e6 rfl rfl (Lv ok 3 [(139, .slice aA (List.length (List.replicate (Int.toNat (wr ((wr ((ln t.Rows) + (ln t.Cols))) + 2))) (([] : List Int)))) aB)] 4 rfl rfl ?_)))
 have e7 := (bL.ext aH)
 have c5 := (Df e7 aE).symm
 have e8 := (e7.ext aG)
 have c6 := (Mj aJ c5 e8)
 have e9 := ((e8.but X53 c5).ext a2)
 have fA := (Mj aN c6 e9)
 have c7 := (Mj aJ d1 (d0.ext aG))
 have fB := (cL.ext a1)
 have fC := (Mj aN c7 fB)
 have fD := (((((cL.ext a1).but X211 c7).but X321 fC).ext bA).but bH (Mj a9 fC (fB.but X211 c7)))
 have fE := (cA.ext aH)
 have c8 := (Df fE aE).symm
 have fF := (fE.ext aG)
 have c9 := (Mj aJ c8 fF)
 have fG := ((fF.but X53 c8).ext a2)
 have fH := (Mj aN c9 fG)
 refine Lc 4 rfl rfl rfl cal_91 rfl (impl_restore_w _ _ _ _ _ H i5 r ((e5.ext bA).but bH (Mj a9 e4 (e3.but X211 c4))) bU (((((((bL.ext a8).but X53 c5).ext a2).but X211 c6).but X321 fA).ext bA).but bH (Mj a9 fA (e9.but X211 c6))) a3 fD b5 (((((((cA.ext a8).but X53 c8).ext a2).but X211 c9).but X321 fH).ext bA).but bH (Mj a9 fH (fG.but X211 c9))) a3 fD i6.readf i7) ?_
 rintro _ k4 ⟨fI, k5, k6, H, rfl, i9, fJ, jA, jB, cn⟩
 obtain ⟨fK, fL, rfl⟩ := fJ.shape
 refine Lv ok 5 [(2, sl fK fI fL)] 6 rfl rfl (Ln _ rfl (W_ret ?_))
 have X491 := (X.stepx (xc.trans aH))
 have fM := aE.mono X491.size
 have jC := aE.mono X491.size
 have X494 := (X491.stepx aG)
 have fN := DomLe.fresh aJ jC X494.size
 have jD := aE.mono X491.size
 have jE := DomLe.fresh aJ jD X494.size
 have X498 := ((X494.step X53 (fM.dom _)).stepx a2)
 have fO := DomLe.fresh aN jE X498.size
 have jF := DomLe.fresh a9 fO (X498.step X211 (fN.dom _)).size
 have X501 := (((((((X.stepx (((x.trans bK).trans aH).trans aG)).step X53 (fM.dom _)).stepx a2).step X211 (fN.dom _)).step X321 (fO.dom _)).stepx bA).step bH (jF.dom _))
 have jG := jB.mono X501.size
 exact ⟨_, Ret_of [sl fK fI fL] ⟨⟨rfl, rfl⟩, trivial⟩, _, _, _, H, rfl, (X501.stepx i9).ext, fJ, jA, jG, cn⟩

theorem slices_Equal_int_int_w (sx : List Int) (aA : List Int) (Q : Bool → Prop) (H : slices_Equal_int_int sx aA Q) (w : World) {vx : Value} {hx : PH} (r : RS hx vx sx) (ex : Sub hx w) {aF : Value} {aG : PH} (aH : RS aG aF aA) (aM : Sub aG w) :
  CallsTo Try.prog 88 #[vx, aF] w fun v w' => ∃ aI, Q aI ∧ v = .bool aI ∧ Ext w w' := by
 obtain ⟨a, c, rfl⟩ := r.shape
 obtain ⟨aB, aC, rfl⟩ := aH.shape
 refine enter (args := [sl a sx c, sl aB aA aC]) 26 Try.func88 rfl rfl rfl ?_
 refine Wo [(0, sl a sx c), (1, sl aB aA aC)] ⟨rfl, rfl, trivial⟩ fun ρ => ?_
 have X := Br emp w
 refine Wq (Wg (Lv ok 0 [(4, .bool false)] 1 rfl rfl (Ln _ rfl (Wq (Wq (Wg (Lv ok 0 [(6, sl a sx c), (7, I (ln sx)), (8, sl aB aA aC), (9, I (ln aA)), (10, .bool ((ln sx) != (ln aA)))] 5 rfl rfl (Ln _ rfl ?_))))))))
 refine Wc ((ln sx) != (ln aA)) rfl (fun hc => ?_) (fun hc => ?_)
 ·have H := H.1 hc
  refine Wq (Wg (Lv ok 0 [(4, .bool false)] 1 rfl rfl (Ln _ rfl (W_ret ?_))))
  exact ⟨_, Ret_of [.bool false] ⟨⟨rfl, rfl⟩, trivial⟩, _, H, rfl, X.ext⟩
 have H := H.2 hc
 refine Wk (Wq (Wq (Wg (Lv ok 0 [(11, sl a sx c), (12, I (ln sx)), (13, I 0)] 3 rfl rfl (Ln _ rfl (W_block ?_))))))
 obtain ⟨J, m, Hx, H⟩ := H
 refine W_loop (S := Int) (fun s ρ' w' => J s ∧ ∃ (ρ : Env), ρ' = setAll [(0, sl a sx c), (1, sl aB aA aC), (12, I (ln sx)), (13, I s)] ρ ∧ Ext w w') (fun s => m s) 0 ⟨Hx, _, Ee ⟨rfl, rfl, rfl, rfl, trivial⟩, (Ext.refl _)⟩ ?_
 rintro x _ wx ⟨Hi, ρ, rfl, X8⟩
 have H := H x Hi
 refine Wq (Wg (Lv ok 0 [(14, .bool (decide (x < (ln sx))))] 1 rfl rfl (Ln _ rfl (Wq ?_))))
 refine Wc (decide (x < (ln sx))) rfl (fun aD => ?_) (fun aD => ?_)
 ·have H := H.1 aD
  refine Wk (Wq (W_block (Wq (Wg (Lv ok 0 [(15, I x), (5, I x)] 2 rfl rfl (Ln _ rfl (Wq ?_)))))))
  refine W_quiet mix (by kernel_rfl) ?_
  refine QP_ev ok 0 [(16, sl a sx c), (17, I x)] 2 rfl rfl ?_
  obtain ⟨aJ, hi, aN, H⟩ := H
  refine QP_index 2 rfl rfl rfl Try.underlying22 ti_3 rfl rfl r hi aN fun aV cs aO d => ?_
  refine QP_load 3 rfl rfl rfl ti_3 ag_3 rfl aO d (ex.ext X8) fun aW aP => ?_
  obtain rfl := aP.int
  refine QP_ev ok 4 [(20, sl aB aA aC), (21, I x)] 6 rfl rfl ?_
  obtain ⟨aK, aQ, aR, H⟩ := H
  refine QP_index 6 rfl rfl rfl Try.underlying22 ti_3 rfl rfl aH aQ aR fun aX aY aS aT => ?_
  refine QP_load 7 rfl rfl rfl ti_3 ag_3 rfl aS aT (aM.ext X8) fun aZ aU => ?_
  obtain rfl := aU.int
  refine QP_ev ok 8 [(24, .bool (aJ != aK))] 9 rfl rfl ?_
  refine QP_end _ rfl fun a0 aL => ?_
  refine Wc (aJ != aK) rfl (fun aE => ?_) (fun aE => ?_)
  ·have H := H.1 aE
   refine Wq (Wg (Lv ok 0 [(4, .bool false)] 1 rfl rfl (Ln _ rfl (W_ret ?_))))
   exact ⟨_, Ret_of [.bool false] ⟨⟨rfl, rfl⟩, trivial⟩, _, H, rfl, (X.stepx (X8.trans aL)).ext⟩
  have H := H.2 aE
  refine Wk (Wg (Lv ok 0 [(25, I (wr (x + 1))), (13, I (wr (x + 1)))] 2 rfl rfl ?_))
  exact Ln _ rfl ⟨wr (x + 1), ⟨H.1, _, Ee ⟨rfl, rfl, rfl, rfl, trivial⟩, (X8.trans aL)⟩, H.2⟩
 have H := H.2 aD
 refine W_exit ?_
 refine (if_pos rfl).mpr ?_
 refine Wq (Wg (Lv ok 0 [(4, .bool true)] 1 rfl rfl (Ln _ rfl (W_ret ?_))))
 exact ⟨_, Ret_of [.bool true] ⟨⟨rfl, rfl⟩, trivial⟩, _, H, rfl, (X.stepx X8).ext⟩

theorem impl_anyFlow_w (t : Transport) (Q : (List (List Int)) → Prop) (H : impl_anyFlow t Q) (w : World) {vx : Value} {hx : PH} (r : RS hx vx t.Rows) (ex : Sub hx w) {aW : Value} {aX : PH} (aM : RS aX aW t.Cols) (bJ : Sub aX w) {aY : Value} {aZ : PH} (a0 : RS aZ aY t.Lo) (bK : Sub aZ w) {a1 : Value} {a2 : PH} (a3 : RS a2 a1 t.Hi) (bL : Sub a2 w) :
  CallsTo Try.prog 54 #[.agg #[vx, aW, aY, a1]] w fun v w' => ∃ aN aO aP, Q aN ∧ v = aO ∧ Ext w w' ∧ OD aP aO aN ∧ Sub aP w' ∧ Fresh w.heap.size aP ∧ CanV aO aN := by
 obtain ⟨a, c, rfl⟩ := r.shape
 obtain ⟨aE, aF, rfl⟩ := aM.shape
 obtain ⟨aH, aI, rfl⟩ := a0.shape
 obtain ⟨aJ, aK, rfl⟩ := a3.shape
 refine enter (args := [.agg #[sl a t.Rows c, sl aE t.Cols aF, sl aH t.Lo aI, sl aJ t.Hi aK]]) 24 Try.func54 rfl rfl rfl ?_
 refine Wo [(0, .agg #[sl a t.Rows c, sl aE t.Cols aF, sl aH t.Lo aI, sl aJ t.Hi aK])] ⟨rfl, trivial⟩ fun ρ => ?_
 have X := Br emp w
 refine Wq (Wg (Ly 0 (cs := [sl a t.Rows c, sl aE t.Cols aF, sl aH t.Lo aI, sl aJ t.Hi aK]) rfl rfl rfl rfl rfl fun b wx x aQ f => (Lv ok 1 [(2, .slice none 0 0)] 2 rfl rfl (Ln _ rfl (Wq (Wq ?_))))))
 refine W_quiet mix (by kernel_rfl) ?_
 refine QP_ev ok 0 [(4, pb b)] 1 rfl rfl ?_
 refine QP_ldbox 1 (v := sl a t.Rows c) rfl rfl rfl ti_22 ag_22 (fun _ => rfl) rfl aQ rfl rfl ?_
 obtain ⟨aR, Hd, H⟩ := H
 have a4 := (ex.ext x)
 refine QP_call (I aR) 2 rfl rfl rfl cal_64 rfl (fun bM bN => (impl_total_w _ _ Hd bM r (a4.ext bN)).mono ?_) ?_
 ·rintro _ _ ⟨_, rfl, rfl, x⟩; exact ⟨rfl, x⟩
 refine QP_ev ok 3 [(7, .pointer (some ⟨b, 1, none⟩))] 4 rfl rfl ?_
 refine QP_ldbox 4 (v := sl aE t.Cols aF) rfl rfl rfl ti_22 ag_22 (fun _ => rfl) rfl aQ rfl rfl ?_
 obtain ⟨aS, Hd25, H⟩ := H
 have a5 := (bJ.ext x)
 refine QP_call (I aS) 5 rfl rfl rfl cal_64 rfl (fun bO bP => (impl_total_w _ _ Hd25 bO aM (a5.ext bP)).mono ?_) ?_
 ·rintro _ _ ⟨_, rfl, rfl, x⟩; exact ⟨rfl, x⟩
 refine QP_ev ok 6 [(10, .bool (aR != aS))] 7 rfl rfl ?_
 refine QP_end _ rfl fun bQ aG => ?_
 refine Wc (aR != aS) rfl (fun hc => ?_) (fun hc => ?_)
 ·have H := H.1 hc
  refine Wq (Wg (Lv ok 0 [(2, .slice none 0 0)] 1 rfl rfl (Ln _ rfl (W_ret ?_))))
  exact ⟨_, Ret_of [.slice none 0 0] ⟨⟨rfl, rfl⟩, trivial⟩, _, _, emp, H, rfl, (X.stepx (x.trans aG)).ext, OD.nil, (emp_sub _), (emp_fresh _), CanV.nil⟩
 have H := H.2 hc
 refine Wk (Wq (Wg ?_))
 have a6 := (aQ.ext aG)
 refine Lb 0 (v := .agg #[sl a t.Rows c, sl aE t.Cols aF, sl aH t.Lo aI, sl aJ t.Hi aK]) rfl rfl rfl ti_29 ag_29 (fun h => by cases h) rfl a6 rfl rfl ?_
 have a7 := (a4.ext aG)
 have aL := (x.trans aG)
 refine Lc 1 rfl rfl rfl cal_63 rfl (impl_fill_w _ _ H bQ r a7 aM (a5.ext aG) a0 (bK.ext aL) a3 (bL.ext aL)) ?_
 rintro _ bR ⟨aA, b1, b2, H, rfl, aT, o, a8, bS, cn⟩
 obtain ⟨aB, aC, rfl⟩ := o.shape
 refine Lv ok 2 [(3, sl aB aA aC)] 3 rfl rfl (Ln _ rfl (Wq ?_))
 have X48 := (X.stepx (aL.trans aT))
 have bT := bS.mono (X.stepx aL).size
 obtain ⟨k, hk, H⟩ := jn_elim H
 refine W_join2 (S := Bool) (fun s ρ' w' => k s ∧ ∃ (ρ : Env), ρ' = setAll [(3, sl aB aA aC), (22, .bool s)] ρ ∧ Ext bR w') ?_ ?_
 ·refine W_open mix fun b3 aU => ?_
  refine AP_game 10 [[], [0], [0, 1], [0, 1, 2], [0, 1, 2, 3], [0, 1, 2], [0, 1, 2, 5], [0, 1, 2, 3, 4, 5, 6], [0, 1, 2, 3, 4, 5, 6, 7], [0, 1, 2, 3, 4, 5, 6, 7, 8]] [[(3, none)], [(13, some 0)], [(14, some 1)], [(3, none)], [(16, some 3)], [(1, none)], [(18, some 5)], [(17, some 4), (19, some 6)], [(20, some 7)], [(15, some 2), (21, some 8)]] [(3, none), (22, some 9)] [(0, false), (1, false), (2, false), (3, false), (5, false), (6, false), (4, true), (7, false), (8, false), (9, false)] (by kernel_rfl) (by kernel_rfl) ?_
  refine GS_ev ok [(3, sl aB aA aC)] (sl aB aA aC) rfl rfl (fun _ h => h) (fun _ => rfl) ?_
  refine GS_r0 [(13, sl aB aA aC)] (.bool (ln aA == 0)) rfl rfl (fun _ h => h) (fun _ _ => ex_eqnilc rfl Try.underlying23 rfl rfl (cn _ _ _ rfl) _) ?_
  refine GS_ev ok [(14, .bool (ln aA == 0))] (.bool (ln aA == 0)) rfl rfl (fun _ h => h) (fun _ => rfl) ?_
  generalize a9 : (ln aA == 0) = gb
  cases gb
  ·have H := H.2 a9
   refine GS_ev ok [(3, sl aB aA aC)] (sl aB aA aC) rfl rfl (fun _ h => h) (fun _ => rfl) ?_
   refine GS_ev ok [(1, pb b)] (pb b) rfl rfl (fun _ h => h) (fun _ => rfl) ?_
   have bA := ((a6.ext aT).ext aU)
   refine GS_r1 [(18, pb b)] (sl a t.Rows c) rfl rfl (fun _ h => h) (fun _ w e => ex_ldbox rfl ti_22 ag_22 (fun _ => rfl) rfl e rfl rfl) bA ?_
   refine GS_lp [(16, sl aB aA aC)] rfl rfl (fun _ h => h) rfl fun ρ bU bB => ?_
   have bC := (aU.trans bB)
   refine Lc 0 rfl rfl rfl cal_65 rfl (impl_rowSums_w _ _ H bU o.readf (a8.ext bC)) ?_
   rintro _ b4 ⟨bD, b5, bV, H, rfl, bE, bF, bW, b6⟩
   obtain ⟨bG, bH, rfl⟩ := bF.shape
   refine LP_gs ⟨⟨.inr (bA.ext (bB.trans bE)), trivial⟩, ?_⟩
   obtain ⟨aD, Hd81, H⟩ := H
   have bI := (bC.trans bE)
   refine GS_q [(17, sl bG bD bH), (19, sl a t.Rows c)] (.bool aD) [bV, hx] [sl bG bD bH, sl a t.Rows c] rfl rfl (fun _ h => h) rfl cal_88 (fun _ => rfl) (fun w e => (slices_Equal_int_int_w _ _ _ Hd81 w bF.readf e.1 r e.2.1).mono (fun _ _ h => by obtain ⟨_, rfl, rfl, x⟩ := h; exact ⟨rfl, x⟩)) ⟨bW, ((a7.ext aT).ext bI), trivial⟩ ?_
   refine GS_ev ok [(20, .bool aD)] (.bool (!aD)) rfl rfl (fun _ h => h) (fun _ => rfl) ?_
   refine GS_ev ok [(15, .bool false), (21, .bool (!aD))] (.bool (!aD)) rfl rfl (fun _ h => h) (fun _ => rfl) ?_
   intro b7 bX ρ hn
   refine AP_forget [(3, sl aB aA aC), (22, .bool (!aD))] (by exact hn) fun ρ => ?_
   refine AP_end rfl ?_
   exact ⟨!aD, H, _, Ee ⟨rfl, rfl, trivial⟩, (bI.trans bX)⟩
  have H := H.1 a9
  refine GS_off rfl rfl ?_
  refine GS_off rfl rfl ?_
  refine GS_off rfl rfl ?_
  refine GS_off rfl rfl ?_
  refine GS_off rfl rfl ?_
  refine GS_off rfl rfl ?_
  refine GS_ev ok [(15, .bool true), (21, undef)] (.bool true) rfl rfl (fun _ h => h) (fun _ => rfl) ?_
  intro b8 bY ρ bZ
  refine AP_forget [(3, sl aB aA aC), (22, .bool true)] (by exact bZ) fun ρ => ?_
  refine AP_end rfl ?_
  exact ⟨true, H, _, Ee ⟨rfl, rfl, trivial⟩, (aU.trans bY)⟩
 rintro b0 _ b9 ⟨H, ρ, rfl, X59⟩
 subst hk
 refine Wc (b0) rfl (fun aV => ?_) (fun aV => ?_)
 ·have H := H.1 aV
  refine Wq (Wg (Lv ok 0 [(2, .slice none 0 0)] 1 rfl rfl (Ln _ rfl (W_ret ?_))))
  exact ⟨_, Ret_of [.slice none 0 0] ⟨⟨rfl, rfl⟩, trivial⟩, _, _, emp, H, rfl, (X48.stepx X59).ext, OD.nil, (emp_sub _), (emp_fresh _), CanV.nil⟩
 have H := H.2 aV
 refine Wk (Wq (Wg (Lv ok 0 [(23, sl aB aA aC), (2, sl aB aA aC)] 2 rfl rfl (Ln _ rfl (W_ret ?_)))))
 exact ⟨_, Ret_of [sl aB aA aC] ⟨⟨rfl, rfl⟩, trivial⟩, _, _, _, H, rfl, (X48.stepx X59).ext, o, (a8.ext X59), bT, cn⟩

theorem impl_lowered_w (t : Transport) (x : List (List Int)) (i : Int) (j : Int) (Q : (List (List Int)) → Prop) (H : impl_lowered t x i j Q) (w : World) {vx : Value} {hx : PH} (r : RS hx vx t.Rows) (ex : Sub hx w) {bI : Value} {bJ : PH} (aW : RS bJ bI t.Cols) (cA : Sub bJ w) {bK : Value} {bL : PH} (aT : RS bL bK t.Lo) (cB : Sub bL w) {bM : Value} {bN : PH} (aX : RS bN bM t.Hi) (cC : Sub bN w) {bO : Value} {bP : PH} (aU : RS bP bO x) (cD : Sub bP w) :
  CallsTo Try.prog 102 #[.agg #[vx, bI, bK, bM], bO, I i, I j] w fun v w' => ∃ aY aZ a0, Q aY ∧ v = aZ ∧ Ext w w' ∧ OD a0 aZ aY ∧ Sub a0 w' ∧ Fresh w.heap.size a0 ∧ CanV aZ aY := by
 obtain ⟨a, c, rfl⟩ := r.shape
 obtain ⟨aG, aH, rfl⟩ := aW.shape
 obtain ⟨aC, aD, rfl⟩ := aT.shape
 obtain ⟨aP, aQ, rfl⟩ := aX.shape
 obtain ⟨aA, aB, rfl⟩ := aU.shape
 refine enter (args := [.agg #[sl a t.Rows c, sl aG t.Cols aH, sl aC t.Lo aD, sl aP t.Hi aQ], sl aA x aB, I i, I j]) 66 Try.func102 rfl rfl rfl ?_
 refine Wo [(0, .agg #[sl a t.Rows c, sl aG t.Cols aH, sl aC t.Lo aD, sl aP t.Hi aQ]), (1, sl aA x aB), (2, I i), (3, I j)] ⟨rfl, rfl, rfl, rfl, trivial⟩ fun ρ => ?_
 have X := Br emp w
 refine Wq (Wg (Ly 0 (cs := [sl a t.Rows c, sl aG t.Cols aH, sl aC t.Lo aD, sl aP t.Hi aQ]) rfl rfl rfl rfl rfl fun b wx bQ a1 f => (Lv ok 1 [(8, .slice none 0 0)] 2 rfl rfl (Ln _ rfl (Wq ?_)))))
 refine W_quiet mix (by kernel_rfl) ?_
 refine QP_ev ok 0 [(14, pb b)] 1 rfl rfl ?_
 refine QP_ldbox 1 (v := sl a t.Rows c) rfl rfl rfl ti_22 ag_22 (fun _ => rfl) rfl a1 rfl rfl ?_
 refine QP_ev ok 2 [(16, I (ln t.Rows)), (17, I i), (18, .pointer (some ⟨b, 1, none⟩))] 5 rfl rfl ?_
 refine QP_ldbox 5 (v := sl aG t.Cols aH) rfl rfl rfl ti_22 ag_22 (fun _ => rfl) rfl a1 rfl rfl ?_
 refine QP_ev ok 6 [(20, I (ln t.Cols)), (21, I (wr (i * (ln t.Cols)))), (22, I j), (23, I (wr ((wr (i * (ln t.Cols))) + j))), (9, I (ln t.Rows)), (10, I (wr ((wr (i * (ln t.Cols))) + j)))] 12 rfl rfl ?_
 refine QP_end _ rfl fun cE a2 => ?_
 refine Wq (Wg ?_)
 have a3 := (a1.ext a2)
 refine Lb 0 (v := .agg #[sl a t.Rows c, sl aG t.Cols aH, sl aC t.Lo aD, sl aP t.Hi aQ]) rfl rfl rfl ti_29 ag_29 (fun h => by cases h) rfl a3 rfl rfl (Lv ok 1 [(25, sl aA x aB), (26, I (wr ((wr (i * (ln t.Cols))) + j)))] 3 rfl rfl ?_)
 have xc := (bQ.trans a2)
 have a4 := (ex.ext xc)
 have a5 := (cA.ext xc)
 have a6 := (cB.ext xc)
 have a7 := (cC.ext xc)
 have a8 := (cD.ext xc)
 refine Lc 3 rfl rfl rfl cal_89 rfl (impl_residual_w _ _ _ _ H cE r a4 aW a5 aT a6 aX a7 aU a8) ?_
 rintro _ d0 ⟨aI, d1, d2, H, rfl, bR, o, cF, aE⟩
 obtain ⟨aJ, aK, rfl⟩ := o.shape
 refine Lv ok 4 [(11, sl aJ aI aK)] 5 rfl rfl (Ln _ rfl (Wq ?_))
 refine W_open mix fun d3 a9 => ?_
 refine AP_game 21 [[], [], [], [], [2, 3], [], [], [5, 6], [5, 6, 7], [], [5, 6, 7, 8, 9], [5, 6, 7, 8, 9, 10], [], [12], [], [12, 13, 14], [12, 13, 14, 15], [], [12, 13, 14, 15, 16, 17], [12, 13, 14, 15, 16, 17, 18], [5, 6, 7, 8, 9, 10, 11, 12, 13, 14, 15, 16, 17, 18, 19], [0, 1, 2, 3, 4, 5, 6, 7, 8, 9, 10, 11, 12, 13, 14, 15, 16, 17, 18, 19, 20], [0, 1, 2, 3, 4, 5, 6, 7, 8, 9, 10, 11, 12, 13, 14, 15, 16, 17, 18, 19, 20, 21]] [[(11, none)], [(2, none)], [(9, none)], [(3, none)], [(30, some 2), (31, some 3)], [(1, none)], [(2, none)], [(33, some 5), (34, some 6)], [(35, some 7)], [(3, none)], [(36, some 8), (37, some 9)], [(38, some 10)], [(4, none)], [(40, some 12)], [(2, none)], [(41, some 13), (42, some 14)], [(43, some 15)], [(3, none)], [(44, some 16), (45, some 17)], [(46, some 18)], [(39, some 11), (47, some 19)]] [(1, none), (2, none), (3, none), (4, none), (10, none), (11, none), (28, some 0), (29, some 1), (32, some 4), (48, some 20)] [(0, false), (1, false), (2, false), (3, false), (4, false), (5, false), (6, false), (7, false), (8, false), (9, false), (10, false), (11, false), (12, false), (13, false), (14, false), (15, false), (16, false), (17, false), (18, false), (19, false), (20, false)] (by kernel_rfl) (by kernel_rfl) ?_
 refine GS_ev ok [(11, sl aJ aI aK)] (sl aJ aI aK) rfl rfl (fun _ h => h) (fun _ => rfl) ?_
 refine GS_ev ok [(2, I i)] (I i) rfl rfl (fun _ h => h) (fun _ => rfl) ?_
 refine GS_ev ok [(9, I (ln t.Rows))] (I (ln t.Rows)) rfl rfl (fun _ h => h) (fun _ => rfl) ?_
 refine GS_ev ok [(3, I j)] (I j) rfl rfl (fun _ h => h) (fun _ => rfl) ?_
 refine GS_ev ok [(30, I (ln t.Rows)), (31, I j)] (I (wr ((ln t.Rows) + j))) rfl rfl (fun _ h => h) (fun _ => rfl) ?_
 refine GS_ev ok [(1, sl aA x aB)] (sl aA x aB) rfl rfl (fun _ h => h) (fun _ => rfl) ?_
 refine GS_ev ok [(2, I i)] (I i) rfl rfl (fun _ h => h) (fun _ => rfl) ?_
 obtain ⟨bA, hi, cG, H⟩ := H
 obtain ⟨bS, cs, cH, cI, d⟩ := run_indexAt Try.underlying23 ti_22 aU .i64 _ bA hi cG
 refine GS_r0 [(33, sl aA x aB), (34, I i)] (.pointer (some bS)) rfl rfl (fun _ h => h) (fun _ _ => ex_index rfl rfl rfl (cH _)) ?_
 obtain ⟨d4, cJ, cK⟩ := run_loadAt ti_22 ag_22 cI d
 have bT := cK.slice
 obtain ⟨bU, bV, rfl⟩ := bT.shape
 have aV := (bR.trans a9)
 have bB := (a8.ext aV)
 refine GS_r1 [(35, .pointer (some bS))] (sl bU bA bV) rfl rfl (fun _ h => h) (fun _ w e => ex_load rfl rfl (cJ w e)) bB ?_
 refine GS_ev ok [(3, I j)] (I j) rfl rfl (fun _ h => h) (fun _ => rfl) ?_
 obtain ⟨aR, cL, cM, H⟩ := H
 obtain ⟨bW, d5, cN, cO, cP⟩ := run_indexAt Try.underlying22 ti_3 bT .i64 _ aR cL cM
 refine GS_r0 [(36, sl bU bA bV), (37, I j)] (.pointer (some bW)) rfl rfl (fun _ h => h) (fun _ _ => ex_index rfl rfl rfl (cN _)) ?_
 obtain ⟨d6, cQ, cR⟩ := run_loadAt ti_3 ag_3 cO cP
 obtain rfl := cR.int
 refine GS_r1 [(38, .pointer (some bW))] (I aR) rfl rfl (fun _ h => h) (fun _ w e => ex_load rfl rfl (cQ w e)) bB ?_
 refine GS_ev ok [(4, pb b)] (.pointer (some ⟨b, 2, none⟩)) rfl rfl (fun _ h => h) (fun _ => rfl) ?_
 have bX := (a3.ext aV)
 refine GS_r1 [(40, .pointer (some ⟨b, 2, none⟩))] (sl aC t.Lo aD) rfl rfl (fun _ h => h) (fun _ w e => ex_ldbox rfl ti_23 ag_23 (fun _ => rfl) rfl e rfl rfl) bX ?_
 refine GS_ev ok [(2, I i)] (I i) rfl rfl (fun _ h => h) (fun _ => rfl) ?_
 obtain ⟨bC, cS, cT, H⟩ := H
 obtain ⟨bY, d7, cU, cV, cW⟩ := run_indexAt Try.underlying23 ti_22 aT .i64 _ bC cS cT
 refine GS_r0 [(41, sl aC t.Lo aD), (42, I i)] (.pointer (some bY)) rfl rfl (fun _ h => h) (fun _ _ => ex_index rfl rfl rfl (cU _)) ?_
 obtain ⟨d8, cX, cY⟩ := run_loadAt ti_22 ag_22 cV cW
 have bZ := cY.slice
 obtain ⟨b0, b1, rfl⟩ := bZ.shape
 have bD := (a6.ext aV)
 refine GS_r1 [(43, .pointer (some bY))] (sl b0 bC b1) rfl rfl (fun _ h => h) (fun _ w e => ex_load rfl rfl (cX w e)) bD ?_
 refine GS_ev ok [(3, I j)] (I j) rfl rfl (fun _ h => h) (fun _ => rfl) ?_
 obtain ⟨aS, cZ, c0, H⟩ := H
 obtain ⟨b2, d9, c1, c2, c3⟩ := run_indexAt Try.underlying22 ti_3 bZ .i64 _ aS cZ c0
 refine GS_r0 [(44, sl b0 bC b1), (45, I j)] (.pointer (some b2)) rfl rfl (fun _ h => h) (fun _ _ => ex_index rfl rfl rfl (c1 _)) ?_
 obtain ⟨eA, c4, c5⟩ := run_loadAt ti_3 ag_3 c2 c3
 obtain rfl := c5.int
 refine GS_r1 [(46, .pointer (some b2))] (I aS) rfl rfl (fun _ h => h) (fun _ w e => ex_load rfl rfl (c4 w e)) bD ?_
 refine GS_ev ok [(39, I aR), (47, I aS)] (I (wr (aR - aS))) rfl rfl (fun _ h => h) (fun _ => rfl) ?_
 intro c6 aL ρ hn
 refine AP_forget [(1, sl aA x aB), (2, I i), (3, I j), (4, pb b), (10, I (wr ((wr (i * (ln t.Cols))) + j))), (11, sl aJ aI aK), (28, sl aJ aI aK), (29, I i), (32, I (wr ((ln t.Rows) + j))), (48, I (wr (aR - aS)))] (by exact hn) fun ρ => ?_
 refine AP_tail 21 [[], [], [], [], [2, 3], [], [], [5, 6], [5, 6, 7], [], [5, 6, 7, 8, 9], [5, 6, 7, 8, 9, 10], [], [12], [], [12, 13, 14], [12, 13, 14, 15], [], [12, 13, 14, 15, 16, 17], [12, 13, 14, 15, 16, 17, 18], [5, 6, 7, 8, 9, 10, 11, 12, 13, 14, 15, 16, 17, 18, 19], [0, 1, 2, 3, 4, 5, 6, 7, 8, 9, 10, 11, 12, 13, 14, 15, 16, 17, 18, 19, 20], [0, 1, 2, 3, 4, 5, 6, 7, 8, 9, 10, 11, 12, 13, 14, 15, 16, 17, 18, 19, 20, 21]] (by kernel_rfl) ?_
 refine Lc 21 rfl rfl rfl cal_90 rfl (impl_push_w _ _ _ _ _ H c6 o (cF.ext (a9.trans aL))) ?_
 rintro _ c7 ⟨bE, eB, eC, H, rfl, aF, c8, c9, dm⟩
 refine Lv ok 22 [(12, I bE)] 23 rfl rfl (Ln _ rfl (Wq (Wg ?_)))
 have dj := (Df a3 aE).symm
 refine Lb 0 (v := .agg #[sl a t.Rows c, sl aG t.Cols aH, sl aC t.Lo aD, sl aP t.Hi aQ]) rfl rfl rfl ti_29 ag_29 (fun h => by cases h) rfl ((bX.ext aL).but aF dj) rfl rfl (Lv ok 1 [(51, sl aA x aB), (52, sl aJ aI aK), (53, I (wr ((wr (i * (ln t.Cols))) + j)))] 4 rfl rfl ?_)
 have bF := (aV.trans aL)
 have dA := (Df a4 aE).symm
 have dB := (Df a5 aE).symm
 have dC := (Df a6 aE).symm
 have dD := (Df a7 aE).symm
 have dE := (Df a8 aE).symm
 refine Lc 4 rfl rfl rfl cal_91 rfl (impl_restore_w _ _ _ _ _ H c7 r ((a4.ext bF).but aF dA) aW ((a5.ext bF).but aF dB) aT ((bD.ext aL).but aF dC) aX ((a7.ext bF).but aF dD) aU ((bB.ext aL).but aF dE) c8.readf c9) ?_
 rintro _ eD ⟨aM, eE, eF, H, rfl, dF, b3, bG, dG, cn⟩
 obtain ⟨aN, aO, rfl⟩ := b3.shape
 refine Lv ok 5 [(13, sl aN aM aO)] 6 rfl rfl (Ln _ rfl (Wq (Wg (Lv ok 0 [(55, sl aN aM aO), (56, I i)] 2 rfl rfl ?_))))
 obtain ⟨bH, dH, dI, H⟩ := H
 refine LP_indexb (v := sl aN aM aO) 2 rfl rfl rfl Try.underlying23 ti_22 rfl rfl b3 dH dI fun eG u dJ rest dK bw => (LP_ldcell 3 rfl rfl rfl ti_22 ag_22 rfl dK bG ?_)
 have b4 := bw.od
 obtain ⟨b5, b6, rfl⟩ := b4.shape
 have b7 := Sub.le bG bw.le
 have b8 : OS 3 dJ emp (sl b5 bH b6) bH := OD.flat b4
 refine Lv ok 4 [(59, I j)] 5 rfl rfl ?_
 obtain ⟨dL, dM, dN, H⟩ := H
 refine Li 5 rfl rfl rfl Try.underlying22 ti_3 rfl rfl b8.readf dM dN fun eH eI dO dP => (Lo 6 rfl rfl rfl ti_3 ag_3 rfl dO dP b7 fun eJ dQ => ?_)
 obtain rfl := dQ.int
 refine Lv ok 7 [(62, I bE), (63, I (wr (dL - bE)))] 9 rfl rfl ?_
 obtain ⟨dR, hl, H⟩ := H
 refine LP_indexw (v := sl b5 bH b6) 9 rfl rfl rfl Try.underlying22 ti_3 rfl rfl b8 dR hl fun eK wa => (LP_set 10 rfl rfl rfl rfl rfl wa (Le.refl emp) ⟨_, rfl, rfl⟩ b7 fun eL eM dS dT y dU => ?_)
 obtain ⟨eN, dV, dd⟩ := BwL.turn bw (OS.od dS) (Dom.of dU)
 have dW := BwL.sub bw bG dT y
 have dX := BwL.but bw y
 refine Ln _ rfl (Wq (Wg (Lv ok 0 [(65, sl aN aM aO), (8, sl aN aM aO)] 2 rfl rfl (Ln _ rfl (W_ret ?_)))))
 have dY := aE.mono (X.stepx xc).size
 have X166 := ((X.stepx ((((bQ.trans a2).trans bR).trans a9).trans aL)).step aF (dY.dom _))
 have b9 := dG.mono X166.size
 have X167 := (X166.stepx dF)
 have dZ := ((fun n => Oe dd n) _).fresh b9 X167.size
 exact ⟨_, Ret_of [sl aN aM aO] ⟨⟨rfl, rfl⟩, trivial⟩, _, _, _, H, rfl, (X167.step dX (b9.dom _)).ext, dV, dW, dZ, (CanV.len (by simp) cn)⟩

theorem impl_firstFrom_w (t : Transport) (x : List (List Int)) (fromx : Int) (Q : (List (List Int)) → Prop) (H : impl_firstFrom t x fromx Q) (w : World) {vx : Value} {hx : PH} (r : RS hx vx t.Rows) (ex : Sub hx w) {a0 : Value} {aK : PH} (a1 : RS aK a0 t.Cols) (bF : Sub aK w) {a2 : Value} {aL : PH} (a3 : RS aL a2 t.Lo) (bG : Sub aL w) {a4 : Value} {aM : PH} (a5 : RS aM a4 t.Hi) (bH : Sub aM w) {a6 : Value} {aB : PH} (aR : RS aB a6 x) (a7 : Sub aB w) :
  CallsTo Try.prog 87 #[.agg #[vx, a0, a2, a4], a6, I fromx] w fun v w' => ∃ aS aT aU, Q aS ∧ v = aT ∧ Ext w w' ∧ RS aU aT aS ∧ Sub aU w' ∧ DomLe (un hx (un aK (un aL (un aM aB)))) w.heap.size aU ∧ CanV aT aS := by
 obtain ⟨a, c, rfl⟩ := r.shape
 obtain ⟨aC, aD, rfl⟩ := a1.shape
 obtain ⟨aG, aH, rfl⟩ := a3.shape
 obtain ⟨aI, aJ, rfl⟩ := a5.shape
 obtain ⟨aV, aW, rfl⟩ := aR.shape
 refine enter (args := [.agg #[sl a t.Rows c, sl aC t.Cols aD, sl aG t.Lo aH, sl aI t.Hi aJ], sl aV x aW, I fromx]) 33 Try.func87 rfl rfl rfl ?_
 refine Wo [(0, .agg #[sl a t.Rows c, sl aC t.Cols aD, sl aG t.Lo aH, sl aI t.Hi aJ]), (1, sl aV x aW), (2, I fromx)] ⟨rfl, rfl, rfl, trivial⟩ fun ρ => ?_
 have D28 : Dom (un hx (un aK (un aL (un aM aB)))) aB := (Ot (Dom.r _ _) (Ot (Dom.r _ _) (Ot (Dom.r _ _) (Ot (Dom.r _ _) (Or _)))))
 have X := Br emp w
 refine Wq (Wg (Ly 0 (cs := [sl a t.Rows c, sl aC t.Cols aD, sl aG t.Lo aH, sl aI t.Hi aJ]) rfl rfl rfl rfl rfl fun b wx aX a8 f => (Lv ok 1 [(6, .slice none 0 0)] 2 rfl rfl (Ln _ rfl (Wq (Wg (Lv ok 0 [(9, .pointer (some ⟨b, 1, none⟩))] 1 rfl rfl (Lb 1 (v := sl aC t.Cols aD) rfl rfl rfl ti_22 ag_22 (fun _ => rfl) rfl a8 rfl rfl (Lv ok 2 [(11, I (ln t.Cols)), (7, I (ln t.Cols))] 4 rfl rfl ?_)))))))))
 refine Ln _ rfl (Wq (Wq (Wg (Lv ok 0 [(12, I fromx), (13, I (wr (fromx + 1))), (8, I (wr (fromx + 1)))] 3 rfl rfl (Ln _ rfl (W_block ?_))))))
 obtain ⟨hz, H⟩ := H
 obtain ⟨J, m, Hx, H⟩ := H
 refine W_loop (S := (List (List Int)) × Int) (fun s ρ' w' => J s.1 s.2 ∧ ∃ (ρ : Env) (aO : Value) (aN : PH), ρ' = setAll [(1, aO), (3, pb b), (7, I (ln t.Cols)), (8, I s.2)] ρ ∧ Ext wx w' ∧ RS aN aO s.1 ∧ Sub aN w' ∧ DomLe (un hx (un aK (un aL (un aM aB)))) w.heap.size aN ∧ Dj aN (bx b 29 [sl a t.Rows c, sl aC t.Cols aD, sl aG t.Lo aH, sl aI t.Hi aJ]) ∧ CanV aO s.1) (fun s => m s.1 s.2) (x, wr (fromx + 1)) ⟨Hx, _, sl aV x aW, aB, Ee ⟨rfl, rfl, rfl, rfl, trivial⟩, (Ext.refl _), aR, (a7.ext aX), (Oe D28 _), (Df a7 f), (can_of aR hz)⟩ ?_
 rintro ⟨aA, p⟩ _ bR ⟨Hi, ρ, aO, aN, rfl, HF⟩
 revert HF
 refine bb6 fun X40 aY a9 bI d cn => ?_
 have H := H aA p Hi
 obtain ⟨aE, aF, rfl⟩ := aY.shape
 refine Wq (Wq (Wg (Lv ok 0 [(14, I p), (15, pb b)] 2 rfl rfl ?_)))
 have bA := (a8.ext X40)
 refine Lb 2 (v := sl a t.Rows c) rfl rfl rfl ti_22 ag_22 (fun _ => rfl) rfl bA rfl rfl (Lv ok 3 [(17, I (ln t.Rows)), (18, I (ln t.Cols)), (19, I (wr ((ln t.Rows) * (ln t.Cols)))), (20, .bool (decide (p < (wr ((ln t.Rows) * (ln t.Cols))))))] 7 rfl rfl (Ln _ rfl ?_))
 refine Wc (decide (p < (wr ((ln t.Rows) * (ln t.Cols))))) rfl (fun hc => ?_) (fun hc => ?_)
 ·have H := H.1 hc
  refine Wk (Wq (W_block ?_))
  refine W_open mix fun bS aP => ?_
  refine AP_game 8 [[], [], [], [], [2, 3], [], [], [5, 6], [0, 1, 2, 3, 4, 5, 6, 7], [0, 1, 2, 3, 4, 5, 6, 7, 8]] [[(3, none)], [(1, none)], [(8, none)], [(7, none)], [(25, some 2), (26, some 3)], [(8, none)], [(7, none)], [(28, some 5), (29, some 6)]] [(1, none), (3, none), (7, none), (8, none), (23, some 0), (24, some 1), (27, some 4), (30, some 7)] [(0, false), (1, false), (2, false), (3, false), (4, false), (5, false), (6, false), (7, false)] (by kernel_rfl) (by kernel_rfl) ?_
  have bB := (bA.ext aP)
  refine GS_r1 [(3, pb b)] (.agg #[sl a t.Rows c, sl aC t.Cols aD, sl aG t.Lo aH, sl aI t.Hi aJ]) rfl rfl (fun _ h => h) (fun _ w e => ex_ldbox rfl ti_29 ag_29 (fun h => by cases h) rfl e rfl rfl) bB ?_
  refine GS_ev ok [(1, sl aE aA aF)] (sl aE aA aF) rfl rfl (fun _ h => h) (fun _ => rfl) ?_
  refine GS_ev ok [(8, I p)] (I p) rfl rfl (fun _ h => h) (fun _ => rfl) ?_
  refine GS_ev ok [(7, I (ln t.Cols))] (I (ln t.Cols)) rfl rfl (fun _ h => h) (fun _ => rfl) ?_
  obtain ⟨bJ, H⟩ := H
  refine GS_r0 [(25, I p), (26, I (ln t.Cols))] (I (wr (Int.tdiv p (ln t.Cols)))) rfl rfl (fun _ h => h) (fun _ _ => ex_quo rfl rfl rfl bJ _) ?_
  refine GS_ev ok [(8, I p)] (I p) rfl rfl (fun _ h => h) (fun _ => rfl) ?_
  refine GS_ev ok [(7, I (ln t.Cols))] (I (ln t.Cols)) rfl rfl (fun _ h => h) (fun _ => rfl) ?_
  obtain ⟨bK, H⟩ := H
  refine GS_r0 [(28, I p), (29, I (ln t.Cols))] (I (Int.tmod p (ln t.Cols))) rfl rfl (fun _ h => h) (fun _ _ => ex_rem rfl rfl rfl bK _) ?_
  intro bL aQ ρ hn
  refine AP_forget [(1, sl aE aA aF), (3, pb b), (7, I (ln t.Cols)), (8, I p), (23, .agg #[sl a t.Rows c, sl aC t.Cols aD, sl aG t.Lo aH, sl aI t.Hi aJ]), (24, sl aE aA aF), (27, I (wr (Int.tdiv p (ln t.Cols)))), (30, I (Int.tmod p (ln t.Cols)))] (by exact hn) fun ρ => ?_
  refine AP_tail 8 [[], [], [], [], [2, 3], [], [], [5, 6], [0, 1, 2, 3, 4, 5, 6, 7], [0, 1, 2, 3, 4, 5, 6, 7, 8]] (by kernel_rfl) ?_
  have xc := (((aX.trans X40).trans aP).trans aQ)
  refine Lc 8 rfl rfl rfl cal_102 rfl (impl_lowered_w _ _ _ _ _ H bL r (ex.ext xc) a1 (bF.ext xc) a3 (bG.ext xc) a5 (bH.ext xc) aY (a9.ext (aP.trans aQ))) ?_
  rintro _ bT ⟨aZ, bU, bM, H, rfl, bN, o, bO, bC, bP⟩
  obtain ⟨bD, bE, rfl⟩ := o.shape
  refine Lv ok 9 [(1, sl bD aZ bE)] 10 rfl rfl (Ln _ rfl (Wg (Lv ok 0 [(21, I p), (22, I (wr (p + 1))), (8, I (wr (p + 1)))] 3 rfl rfl (Ln _ rfl ?_))))
  have bQ := bC.mono (X.stepx xc).size
  have dj := (Df (bB.ext aQ) bC).symm
  exact ⟨(aZ, wr (p + 1)), ⟨H.1, _, sl bD aZ bE, bM, Ee ⟨rfl, rfl, rfl, rfl, trivial⟩, (((X40.trans aP).trans aQ).trans bN), o.readf, bO, (bQ.dom _), dj, bP⟩, H.2⟩
 have H := H.2 hc
 refine W_exit ?_
 refine (if_pos rfl).mpr ?_
 refine Wq (Wg (Lv ok 0 [(32, sl aE aA aF), (6, sl aE aA aF)] 2 rfl rfl (Ln _ rfl (W_ret ?_))))
 exact ⟨_, Ret_of [sl aE aA aF] ⟨⟨rfl, rfl⟩, trivial⟩, _, _, _, H, rfl, (X.stepx (aX.trans X40)).ext, aY, a9, bI, cn⟩

theorem impl_firstFlow_w (t : Transport) (Q : (List (List Int)) → Prop) (H : impl_firstFlow t Q) (w : World) {vx : Value} {hx : PH} (r : RS hx vx t.Rows) (ex : Sub hx w) {aT : Value} {aA : PH} (aL : RS aA aT t.Cols) (a5 : Sub aA w) {aU : Value} {aB : PH} (aM : RS aB aU t.Lo) (a6 : Sub aB w) {aV : Value} {aC : PH} (aN : RS aC aV t.Hi) (a7 : Sub aC w) :
  CallsTo Try.prog 49 #[.agg #[vx, aT, aU, aV]] w fun v w' => ∃ aO aP aQ, Q aO ∧ v = aP ∧ Ext w w' ∧ RS aQ aP aO ∧ Sub aQ w' ∧ DomLe (un hx (un aA (un aB aC))) w.heap.size aQ ∧ CanV aP aO := by
 obtain ⟨a, c, rfl⟩ := r.shape
 obtain ⟨aE, aF, rfl⟩ := aL.shape
 obtain ⟨aG, aH, rfl⟩ := aM.shape
 obtain ⟨aI, aJ, rfl⟩ := aN.shape
 refine enter (args := [.agg #[sl a t.Rows c, sl aE t.Cols aF, sl aG t.Lo aH, sl aI t.Hi aJ]]) 11 Try.func49 rfl rfl rfl ?_
 refine Wo [(0, .agg #[sl a t.Rows c, sl aE t.Cols aF, sl aG t.Lo aH, sl aI t.Hi aJ])] ⟨rfl, trivial⟩ fun ρ => ?_
 have D : Dom (un hx (un aA (un aB aC))) hx := (Dom.l _ _)
 have D19 : Dom (un hx (un aA (un aB aC))) aA := (Ot (Dom.r _ _) (Dom.l _ _))
 have D20 : Dom (un hx (un aA (un aB aC))) aB := (Ot (Dom.r _ _) (Ot (Dom.r _ _) (Dom.l _ _)))
 have D21 : Dom (un hx (un aA (un aB aC))) aC := (Ot (Dom.r _ _) (Ot (Dom.r _ _) (Ot (Dom.r _ _) (Or _))))
 have X := Br emp w
 refine Wq (Wg (Ly 0 (cs := [sl a t.Rows c, sl aE t.Cols aF, sl aG t.Lo aH, sl aI t.Hi aJ]) rfl rfl rfl rfl rfl fun b wx x aW f => (Lv ok 1 [(2, .slice none 0 0)] 2 rfl rfl (Ln _ rfl (Wq (Wg (Lb 0 (v := .agg #[sl a t.Rows c, sl aE t.Cols aF, sl aG t.Lo aH, sl aI t.Hi aJ]) rfl rfl rfl ti_29 ag_29 (fun h => by cases h) rfl aW rfl rfl ?_)))))))
 have aX := (ex.ext x)
 have aY := (a5.ext x)
 have aZ := (a6.ext x)
 have a0 := (a7.ext x)
 refine Lc 1 rfl rfl rfl cal_54 rfl (impl_anyFlow_w _ _ H wx r aX aL aY aM aZ aN a0) ?_
 rintro _ a8 ⟨aK, bG, bH, H, rfl, aD, o, a9, bA, cn⟩
 obtain ⟨aR, aS, rfl⟩ := o.shape
 refine Lv ok 2 [(3, sl aR aK aS)] 3 rfl rfl (Ln _ rfl (Wq (Wq (Wg (Lv ok 0 [(6, sl aR aK aS)] 1 rfl rfl (LP_val 1 _ rfl rfl (ex_eqnilc rfl Try.underlying23 rfl rfl (cn _ _ _ rfl) _) (Ln _ rfl ?_)))))))
 refine Wc (ln aK == 0) rfl (fun hc => ?_) (fun hc => ?_)
 ·have H := H.1 hc
  refine Wq (Wg (Lv ok 0 [(2, .slice none 0 0)] 1 rfl rfl (Ln _ rfl (W_ret ?_))))
  exact ⟨_, Ret_of [.slice none 0 0] ⟨⟨rfl, rfl⟩, trivial⟩, _, _, emp, H, rfl, (X.stepx (x.trans aD)).ext, (.inl ⟨rfl, rfl⟩), (emp_sub _), (fun _ _ _ => rfl), CanV.nil⟩
 have H := H.2 hc
 refine Wk (Wq (Wg (Lb 0 (v := .agg #[sl a t.Rows c, sl aE t.Cols aF, sl aG t.Lo aH, sl aI t.Hi aJ]) rfl rfl rfl ti_29 ag_29 (fun h => by cases h) rfl (aW.ext aD) rfl rfl (Lv ok 1 [(9, sl aR aK aS)] 2 rfl rfl (Lc 2 rfl rfl rfl cal_87 rfl (impl_firstFrom_w _ _ _ _ H a8 r (aX.ext aD) aL (aY.ext aD) aM (aZ.ext aD) aN (a0.ext aD) o.readf a9) ?_)))))
 rintro _ bI ⟨a1, bJ, bK, H, rfl, bB, a2, bC, bD, bE⟩
 obtain ⟨a3, a4, rfl⟩ := a2.shape
 refine Lv ok 3 [(2, sl a3 a1 a4)] 4 rfl rfl (Ln _ rfl (W_ret ?_))
 have X54 := (X.stepx x)
 have bF := bA.mono X54.size
 have X55 := (X54.stepx aD)
 exact ⟨_, Ret_of [sl a3 a1 a4] ⟨⟨rfl, rfl⟩, trivial⟩, _, _, _, H, rfl, (X55.stepx bB).ext, a2, bC, (Mt (Mu (Oe D _) (Mu (Oe D19 _) (Mu (Oe D20 _) (Mu (Oe D21 _) (bF.dom _))))) bD X55.size), bE⟩

theorem impl_nextFlow_w (t : Transport) (x : List (List Int)) (Q : (List (List Int)) → Prop) (H : impl_nextFlow t x Q) (w : World) {vx : Value} {hx : PH} (r : RS hx vx t.Rows) (ex : Sub hx w) {bT : Value} {aA : PH} (aZ : RS aA bT t.Cols) (cD : Sub aA w) {bU : Value} {aB : PH} (a0 : RS aB bU t.Lo) (cE : Sub aB w) {bV : Value} {aC : PH} (aT : RS aC bV t.Hi) (cF : Sub aC w) {bW : Value} {aI : PH} (a1 : RS aI bW x) (cG : Sub aI w) :
  CallsTo Try.prog 51 #[.agg #[vx, bT, bU, bV], bW] w fun v w' => ∃ a2 a3 a4, Q a2 ∧ v = a3 ∧ Ext w w' ∧ RS a4 a3 a2 ∧ Sub a4 w' ∧ DomLe (un hx (un aA (un aB (un aC aI)))) w.heap.size a4 ∧ CanV a3 a2 := by
 obtain ⟨a, c, rfl⟩ := r.shape
 obtain ⟨aJ, aK, rfl⟩ := aZ.shape
 obtain ⟨aO, aP, rfl⟩ := a0.shape
 obtain ⟨aL, aM, rfl⟩ := aT.shape
 obtain ⟨aD, aE, rfl⟩ := a1.shape
 refine enter (args := [.agg #[sl a t.Rows c, sl aJ t.Cols aK, sl aO t.Lo aP, sl aL t.Hi aM], sl aD x aE]) 77 Try.func51 rfl rfl rfl ?_
 refine Wo [(0, .agg #[sl a t.Rows c, sl aJ t.Cols aK, sl aO t.Lo aP, sl aL t.Hi aM]), (1, sl aD x aE)] ⟨rfl, rfl, trivial⟩ fun ρ => ?_
 have D : Dom (un hx (un aA (un aB (un aC aI)))) hx := (Dom.l _ _)
 have D25 : Dom (un hx (un aA (un aB (un aC aI)))) aA := (Ot (Dom.r _ _) (Dom.l _ _))
 have D26 : Dom (un hx (un aA (un aB (un aC aI)))) aB := (Ot (Dom.r _ _) (Ot (Dom.r _ _) (Dom.l _ _)))
 have D27 : Dom (un hx (un aA (un aB (un aC aI)))) aC := (Ot (Dom.r _ _) (Ot (Dom.r _ _) (Ot (Dom.r _ _) (Dom.l _ _))))
 have X := Br emp w
 refine Wq (Wg (Ly 0 (cs := [sl a t.Rows c, sl aJ t.Cols aK, sl aO t.Lo aP, sl aL t.Hi aM]) rfl rfl rfl rfl rfl fun b wx bX a5 f => (Lv ok 1 [(4, .slice none 0 0)] 2 rfl rfl (Ln _ rfl (Wq ?_)))))
 refine W_quiet mix (by kernel_rfl) ?_
 refine QP_ev ok 0 [(12, pb b)] 1 rfl rfl ?_
 refine QP_ldbox 1 (v := sl a t.Rows c) rfl rfl rfl ti_22 ag_22 (fun _ => rfl) rfl a5 rfl rfl ?_
 refine QP_ev ok 2 [(14, I (ln t.Rows)), (15, .pointer (some ⟨b, 1, none⟩))] 4 rfl rfl ?_
 refine QP_ldbox 4 (v := sl aJ t.Cols aK) rfl rfl rfl ti_22 ag_22 (fun _ => rfl) rfl a5 rfl rfl ?_
 refine QP_ev ok 5 [(17, I (ln t.Cols)), (5, I (ln t.Rows)), (6, I (ln t.Cols))] 8 rfl rfl ?_
 refine QP_end _ rfl fun cH a6 => ?_
 refine Wq (Wq (Wg (Lv ok 0 [(18, I (ln t.Rows)), (19, I (ln t.Cols)), (20, I (wr ((ln t.Rows) * (ln t.Cols)))), (21, I (wr ((wr ((ln t.Rows) * (ln t.Cols))) - 1))), (7, I (wr ((wr ((ln t.Rows) * (ln t.Cols))) - 1)))] 5 rfl rfl (Ln _ rfl (W_block ?_)))))
 obtain ⟨J, m, Hx, H⟩ := H
 refine W_loop (S := Int) (fun s ρ' w' => J s ∧ ∃ (ρ : Env), ρ' = setAll [(1, sl aD x aE), (2, pb b), (5, I (ln t.Rows)), (6, I (ln t.Cols)), (7, I s)] ρ ∧ Ext cH w') (fun s => m s) (wr ((wr ((ln t.Rows) * (ln t.Cols))) - 1)) ⟨Hx, _, Ee ⟨rfl, rfl, rfl, rfl, rfl, trivial⟩, (Ext.refl _)⟩ ?_
 rintro p _ cI ⟨Hi, ρ, rfl, X34⟩
 have H := H p Hi
 refine Wq (Wq (Wg (Lv ok 0 [(22, I p), (23, .bool (decide (p ≥ 0)))] 2 rfl rfl (Ln _ rfl ?_))))
 refine Wc (decide (p ≥ 0)) rfl (fun hc => ?_) (fun hc => ?_)
 ·have H := H.1 hc
  refine Wk ?_
  have xc := ((bX.trans a6).trans X34)
  have X35 := (X.stepx xc)
  obtain ⟨k, hk, H⟩ := jn_elim H
  refine W_join2 (S := Unit) (fun s ρ' w' => k ∧ ∃ (ρ : Env), ρ' = setAll [(1, sl aD x aE), (2, pb b), (5, I (ln t.Rows)), (6, I (ln t.Cols)), (7, I p)] ρ ∧ Ext cI w') ?_ ?_
  ·refine W_block (Wq ?_)
   refine W_quiet mix (by kernel_rfl) ?_
   refine QP_ev ok 0 [(26, I p), (27, I (ln t.Cols))] 2 rfl rfl ?_
   obtain ⟨hz, H⟩ := H
   refine QP_val 2 _ rfl rfl (fun _ _ => ex_quo rfl rfl rfl hz _) ?_
   refine QP_ev ok 3 [(29, I p), (30, I (ln t.Cols))] 5 rfl rfl ?_
   obtain ⟨cJ, H⟩ := H
   refine QP_val 5 _ rfl rfl (fun _ _ => ex_rem rfl rfl rfl cJ _) ?_
   refine QP_ev ok 6 [(8, I (wr (Int.tdiv p (ln t.Cols)))), (9, I (Int.tmod p (ln t.Cols)))] 8 rfl rfl ?_
   refine QP_end _ rfl fun d5 aU => ?_
   refine Wq (Wq ?_)
   refine W_quiet mix (by kernel_rfl) ?_
   refine QP_ev ok 0 [(32, sl aD x aE), (33, I (wr (Int.tdiv p (ln t.Cols))))] 2 rfl rfl ?_
   obtain ⟨d6, hi, cK, H⟩ := H
   refine QP_index 2 rfl rfl rfl Try.underlying23 ti_22 rfl rfl a1 hi cK fun d7 cs cL d => ?_
   have a7 := ((cG.ext xc).ext aU)
   refine QP_load 3 rfl rfl rfl ti_22 ag_22 rfl cL d a7 fun d8 cM => ?_
   have bY := cM.slice
   obtain ⟨d9, eA, rfl⟩ := bY.shape
   refine QP_ev ok 4 [(36, I (Int.tmod p (ln t.Cols)))] 5 rfl rfl ?_
   obtain ⟨a8, cN, cO, H⟩ := H
   refine QP_index 5 rfl rfl rfl Try.underlying22 ti_3 rfl rfl bY cN cO fun eB eC cP cQ => ?_
   refine QP_load 6 rfl rfl rfl ti_3 ag_3 rfl cP cQ a7 fun eD cR => ?_
   obtain rfl := cR.int
   refine QP_ev ok 7 [(39, .pointer (some ⟨b, 3, none⟩))] 8 rfl rfl ?_
   have bZ := ((a5.ext (a6.trans X34)).ext aU)
   refine QP_ldbox 8 (v := sl aL t.Hi aM) rfl rfl rfl ti_23 ag_23 (fun _ => rfl) rfl bZ rfl rfl ?_
   refine QP_ev ok 9 [(41, I (wr (Int.tdiv p (ln t.Cols))))] 10 rfl rfl ?_
   obtain ⟨eE, cS, cT, H⟩ := H
   refine QP_index 10 rfl rfl rfl Try.underlying23 ti_22 rfl rfl aT cS cT fun eF eG cU cV => ?_
   have a9 := ((cF.ext xc).ext aU)
   refine QP_load 11 rfl rfl rfl ti_22 ag_22 rfl cU cV a9 fun eH cW => ?_
   have b0 := cW.slice
   obtain ⟨eI, eJ, rfl⟩ := b0.shape
   refine QP_ev ok 12 [(44, I (Int.tmod p (ln t.Cols)))] 13 rfl rfl ?_
   obtain ⟨bA, cX, cY, H⟩ := H
   refine QP_index 13 rfl rfl rfl Try.underlying22 ti_3 rfl rfl b0 cX cY fun eK eL cZ c0 => ?_
   refine QP_load 14 rfl rfl rfl ti_3 ag_3 rfl cZ c0 a9 fun eM c1 => ?_
   obtain rfl := c1.int
   refine QP_ev ok 15 [(47, .bool (a8 == bA))] 16 rfl rfl ?_
   refine QP_end _ rfl fun c2 aV => ?_
   try refine Wo [(1, sl aD x aE), (2, pb b), (5, I (ln t.Rows)), (6, I (ln t.Cols)), (7, I p), (8, I (wr (Int.tdiv p (ln t.Cols)))), (9, I (Int.tmod p (ln t.Cols))), (47, .bool (a8 == bA))] ⟨rfl, rfl, rfl, rfl, rfl, rfl, rfl, rfl, trivial⟩ fun ρ => ?_
   refine Wc (a8 == bA) rfl (fun bB => ?_) (fun bB => ?_)
   ·have H := H.1 bB
    refine W_exit ?_
    refine (if_pos rfl).mpr ?_
    exact ⟨(), H, _, Ee ⟨rfl, rfl, rfl, rfl, rfl, trivial⟩, (aU.trans aV)⟩
   have H := H.2 bB
   refine Wk (Wq (Wg ?_))
   have bC := (bZ.ext aV)
   refine Lb 0 (v := .agg #[sl a t.Rows c, sl aJ t.Cols aK, sl aO t.Lo aP, sl aL t.Hi aM]) rfl rfl rfl ti_29 ag_29 (fun h => by cases h) rfl bC rfl rfl (Lv ok 1 [(49, sl aD x aE), (50, I p)] 3 rfl rfl ?_)
   have aN := (aU.trans aV)
   have bD := ((ex.ext xc).ext aN)
   have bE := ((cD.ext xc).ext aN)
   have bF := ((cE.ext xc).ext aN)
   have bG := (a9.ext aV)
   have bH := (a7.ext aV)
   refine Lc 3 rfl rfl rfl cal_89 rfl (impl_residual_w _ _ _ _ H c2 r bD aZ bE a0 bF aT bG a1 bH) ?_
   rintro _ c3 ⟨bI, eN, eO, H, rfl, aF, o, c4, aG⟩
   obtain ⟨bJ, bK, rfl⟩ := o.shape
   refine Lv ok 4 [(10, sl bJ bI bK)] 5 rfl rfl (Ln _ rfl (Wq (Wq (Wg (Lv ok 0 [(52, sl bJ bI bK), (53, I (ln t.Rows)), (54, I (Int.tmod p (ln t.Cols))), (55, I (wr ((ln t.Rows) + (Int.tmod p (ln t.Cols))))), (56, I (wr (Int.tdiv p (ln t.Cols))))] 5 rfl rfl (Lc 5 rfl rfl rfl cal_90 rfl (impl_push_w _ _ _ _ _ H c3 o c4) ?_))))))
   rintro _ c5 ⟨b1, eP, eQ, H, rfl, aH, c6, c7, dm⟩
   refine Lv ok 6 [(58, .bool (b1 == 0))] 7 rfl rfl (Ln _ rfl ?_)
   refine Wc (b1 == 0) rfl (fun bL => ?_) (fun bL => ?_)
   ·have H := H.1 bL
    refine W_exit ?_
    refine (if_pos rfl).mpr ?_
    exact ⟨(), H, _, Ee ⟨rfl, rfl, rfl, rfl, rfl, trivial⟩, But.ext (((Br emp _).stepx (aN.trans aF)).step aH ((aG.mono aN.size).dom _))⟩
   have H := H.2 bL
   refine Wk (Wq (Wg ?_))
   have dj := (Df bC aG).symm
   have bM := ((bC.ext aF).but aH dj)
   refine Lb 0 (v := .agg #[sl a t.Rows c, sl aJ t.Cols aK, sl aO t.Lo aP, sl aL t.Hi aM]) rfl rfl rfl ti_29 ag_29 (fun h => by cases h) rfl bM rfl rfl (Lv ok 1 [(60, sl aD x aE), (61, sl bJ bI bK), (62, I p)] 4 rfl rfl ?_)
   have c8 := (Df bD aG).symm
   have bN := ((bD.ext aF).but aH c8)
   have c9 := (Df bE aG).symm
   have bO := ((bE.ext aF).but aH c9)
   have dA := (Df bF aG).symm
   have bP := ((bF.ext aF).but aH dA)
   have dB := (Df bG aG).symm
   have bQ := ((bG.ext aF).but aH dB)
   have dC := (Df bH aG).symm
   refine Lc 4 rfl rfl rfl cal_91 rfl (impl_restore_w _ _ _ _ _ H c5 r bN aZ bO a0 bP aT bQ a1 ((bH.ext aF).but aH dC) c6.readf c7) ?_
   rintro _ eR ⟨aW, eS, eT, H, rfl, aQ, b2, bR, aR, cn⟩
   obtain ⟨aX, aY, rfl⟩ := b2.shape
   refine Lv ok 5 [(11, sl aX aW aY)] 6 rfl rfl (Ln _ rfl (Wq (Wg (Lv ok 0 [(64, sl aX aW aY), (65, I (wr (Int.tdiv p (ln t.Cols))))] 2 rfl rfl ?_))))
   obtain ⟨bS, dD, dE, H⟩ := H
   refine LP_indexb (v := sl aX aW aY) 2 rfl rfl rfl Try.underlying23 ti_22 rfl rfl b2 dD dE fun eU u dF rest dG bw => (LP_ldcell 3 rfl rfl rfl ti_22 ag_22 rfl dG bR ?_)
   have b3 := bw.od
   obtain ⟨b4, b5, rfl⟩ := b3.shape
   have b6 := Sub.le bR bw.le
   have b7 : OS 3 dF emp (sl b4 bS b5) bS := OD.flat b3
   refine Lv ok 4 [(68, I (Int.tmod p (ln t.Cols)))] 5 rfl rfl ?_
   obtain ⟨dH, dI, dJ, H⟩ := H
   refine Li 5 rfl rfl rfl Try.underlying22 ti_3 rfl rfl b7.readf dI dJ fun eV eW dK dL => (Lo 6 rfl rfl rfl ti_3 ag_3 rfl dK dL b6 fun eX dM => ?_)
   obtain rfl := dM.int
   refine Lv ok 7 [(71, I (wr (dH + 1)))] 8 rfl rfl ?_
   obtain ⟨dN, hl, H⟩ := H
   refine LP_indexw (v := sl b4 bS b5) 8 rfl rfl rfl Try.underlying22 ti_3 rfl rfl b7 dN hl fun eY wa => (LP_set 9 rfl rfl rfl rfl rfl wa (Le.refl emp) ⟨_, rfl, rfl⟩ b6 fun eZ dO dP dQ y dR => ?_)
   obtain ⟨e0, dS, dd⟩ := BwL.turn bw (OS.od dP) (Dom.of dR)
   have dT := BwL.sub bw bR dQ y
   have aS := BwL.but bw y
   refine Ln _ rfl ?_
   try refine Wo [(2, pb b), (7, I p), (11, sl aX aW aY)] ⟨rfl, rfl, rfl, trivial⟩ fun ρ => ?_
   refine Wq (Wg ?_)
   have dU := (Df bM aR).symm
   refine Lb 0 (v := .agg #[sl a t.Rows c, sl aJ t.Cols aK, sl aO t.Lo aP, sl aL t.Hi aM]) rfl rfl rfl ti_29 ag_29 (fun h => by cases h) rfl ((bM.ext aQ).but aS dU) rfl rfl (Lv ok 1 [(74, sl aX aW aY), (75, I p)] 3 rfl rfl ?_)
   have dV := (Df bN aR).symm
   have dW := (Df bO aR).symm
   have dX := (Df bP aR).symm
   have dY := (Df bQ aR).symm
   refine Lc 3 rfl rfl rfl cal_87 rfl (impl_firstFrom_w _ _ _ _ H dO r ((bN.ext aQ).but aS dV) aZ ((bO.ext aQ).but aS dW) a0 ((bP.ext aQ).but aS dX) aT ((bQ.ext aQ).but aS dY) dS.readf dT) ?_
   rintro _ e1 ⟨b8, e2, e3, H, rfl, dZ, b9, d0, d1, d2⟩
   obtain ⟨cA, cB, rfl⟩ := b9.shape
   refine Lv ok 4 [(4, sl cA b8 cB)] 5 rfl rfl (Ln _ rfl (W_ret ?_))
   have d3 := aG.mono (X35.stepx aN).size
   have X199 := ((X35.stepx (aN.trans aF)).step aH (d3.dom _))
   have cC := aR.mono X199.size
   have X200 := (X199.stepx aQ)
   have d4 := ((fun n => Oe dd n) _).fresh cC X200.size
   have X201 := (X200.step aS (cC.dom _))
   exact ⟨_, Ret_of [sl cA b8 cB] ⟨⟨rfl, rfl⟩, trivial⟩, _, _, _, H, rfl, (X201.stepx dZ).ext, b9, d0, (Mt (Mu (Oe D _) (Mu (Oe D25 _) (Mu (Oe D26 _) (Mu (Oe D27 _) (d4.dom _))))) d1 X201.size), d2⟩
  rintro ⟨⟩ _ e4 ⟨H, ρ, rfl, X45⟩
  subst hk
  refine Wg (Lv ok 0 [(24, I p), (25, I (wr (p - 1))), (7, I (wr (p - 1)))] 3 rfl rfl ?_)
  exact Ln _ rfl ⟨wr (p - 1), ⟨H.1, _, Ee ⟨rfl, rfl, rfl, rfl, rfl, trivial⟩, (X34.trans X45)⟩, H.2⟩
 have H := H.2 hc
 refine W_exit ?_
 refine (if_pos rfl).mpr ?_
 refine Wq (Wg (Lv ok 0 [(4, .slice none 0 0)] 1 rfl rfl (Ln _ rfl (W_ret ?_))))
 exact ⟨_, Ret_of [.slice none 0 0] ⟨⟨rfl, rfl⟩, trivial⟩, _, _, emp, H, rfl, (X.stepx ((bX.trans a6).trans X34)).ext, (.inl ⟨rfl, rfl⟩), (emp_sub _), (fun _ _ _ => rfl), CanV.nil⟩

theorem impl_countFlows_w (t : Transport) (Q : Int → Bool → Prop) (H : impl_countFlows t Q) (w : World) {vx : Value} {hx : PH} (r : RS hx vx t.Rows) (ex : Sub hx w) {aW : Value} {aX : PH} (aL : RS aX aW t.Cols) (aM : Sub aX w) {aY : Value} {aZ : PH} (aN : RS aZ aY t.Lo) (aO : Sub aZ w) {a0 : Value} {a1 : PH} (aP : RS a1 a0 t.Hi) (aQ : Sub a1 w) :
  CallsTo Try.prog 37 #[.agg #[vx, aW, aY, a0]] w fun v w' => ∃ a2 a3, Q a2 a3 ∧ v = .tuple #[I a2, .bool a3] ∧ Ext w w' := by
 obtain ⟨a, c, rfl⟩ := r.shape
 obtain ⟨aA, aB, rfl⟩ := aL.shape
 obtain ⟨aC, aD, rfl⟩ := aN.shape
 obtain ⟨aE, aF, rfl⟩ := aP.shape
 refine enter (args := [.agg #[sl a t.Rows c, sl aA t.Cols aB, sl aC t.Lo aD, sl aE t.Hi aF]]) 26 Try.func37 rfl rfl rfl ?_
 refine Wo [(0, .agg #[sl a t.Rows c, sl aA t.Cols aB, sl aC t.Lo aD, sl aE t.Hi aF])] ⟨rfl, trivial⟩ fun ρ => ?_
 have X := Br emp w
 refine Wq (Wg (Ly 0 (cs := [sl a t.Rows c, sl aA t.Cols aB, sl aC t.Lo aD, sl aE t.Hi aF]) rfl rfl rfl rfl rfl fun b wx x aG f => (Lv ok 1 [(2, I 0), (3, .bool false)] 3 rfl rfl (Ln _ rfl (Wq (Wq (Wg (Lv ok 0 [(6, pb b)] 1 rfl rfl (Lb 1 (v := sl a t.Rows c) rfl rfl rfl ti_22 ag_22 (fun _ => rfl) rfl aG rfl rfl ?_)))))))))
 refine Lv ok 2 [(8, I (ln t.Rows)), (9, .pointer (some ⟨b, 1, none⟩))] 4 rfl rfl (Lb 4 (v := sl aA t.Cols aB) rfl rfl rfl ti_22 ag_22 (fun _ => rfl) rfl aG rfl rfl (Lv ok 5 [(11, I (ln t.Cols)), (12, I (wr ((ln t.Rows) * (ln t.Cols)))), (13, .bool (decide ((wr ((ln t.Rows) * (ln t.Cols))) > 16)))] 8 rfl rfl (Ln _ rfl ?_)))
 refine Wc (decide ((wr ((ln t.Rows) * (ln t.Cols))) > 16)) rfl (fun hc => ?_) (fun hc => ?_)
 ·have H := H.1 hc
  refine Wq (Wg (Lv ok 0 [(2, I 0), (3, .bool false)] 2 rfl rfl (Ln _ rfl (W_ret ?_))))
  exact ⟨_, Ret_of [I 0, .bool false] ⟨⟨rfl, rfl⟩, ⟨rfl, rfl⟩, trivial⟩, _, _, H, rfl, (X.stepx x).ext⟩
 have H := H.2 hc
 refine Wk (Wq (Wg (Lv ok 0 [(4, I 0)] 1 rfl rfl (Ln _ rfl (Wq (Wq (Wg (Lb 0 (v := .agg #[sl a t.Rows c, sl aA t.Cols aB, sl aC t.Lo aD, sl aE t.Hi aF]) rfl rfl rfl ti_29 ag_29 (fun h => by cases h) rfl aG rfl rfl ?_))))))))
 have a4 := (ex.ext x)
 have a5 := (aM.ext x)
 have a6 := (aO.ext x)
 have a7 := (aQ.ext x)
 refine Lc 1 rfl rfl rfl cal_49 rfl (impl_firstFlow_w _ _ H wx r a4 aL a5 aN a6 aP a7) ?_
 rintro _ bH ⟨aR, bT, bI, H, rfl, aS, o, bJ, bK, cn⟩
 obtain ⟨a8, a9, rfl⟩ := o.shape
 refine Lv ok 2 [(5, sl a8 aR a9)] 3 rfl rfl (Ln _ rfl (W_block ?_))
 have dj := (Dl (Df aO f) (Df aQ f))
 obtain ⟨J, m, Hx, H⟩ := H
 refine W_loop (S := Int × (List (List Int))) (fun s ρ' w' => J s.1 s.2 ∧ ∃ (ρ : Env) (aI : Value) (aJ : PH), ρ' = setAll [(1, pb b), (4, I s.1), (5, aI)] ρ ∧ Ext bH w' ∧ RS aJ aI s.2 ∧ Sub aJ w' ∧ Dj aJ (bx b 29 [sl a t.Rows c, sl aA t.Cols aB, sl aC t.Lo aD, sl aE t.Hi aF]) ∧ CanV aI s.2) (fun s => m s.1 s.2) (0, aR) ⟨Hx, _, sl a8 aR a9, bI, Ee ⟨rfl, rfl, rfl, trivial⟩, (Ext.refl _), o, bJ, (Mj bK (Dl (Df ex f) (Dl (Df aM f) dj)) aG), cn⟩ ?_
 rintro ⟨n, aK⟩ _ bL ⟨Hi, ρ, aI, aJ, rfl, HF⟩
 revert HF
 refine bb5 fun X44 bA bM d bN => ?_
 have H := H n aK Hi
 obtain ⟨bB, bC, rfl⟩ := bA.shape
 refine Wq (Wq (Wg (Lv ok 0 [(16, sl bB aK bC)] 1 rfl rfl (LP_val 1 _ rfl rfl (ex_nenilc rfl Try.underlying23 rfl rfl (bN _ _ _ rfl) _) (Ln _ rfl ?_)))))
 refine Wc (!(ln aK == 0)) rfl (fun aT => ?_) (fun aT => ?_)
 ·have H := H.1 aT
  refine Wk (Wq (W_block (Wq (Wg (Lv ok 0 [(21, I n), (22, I (wr (n + 1))), (4, I (wr (n + 1)))] 3 rfl rfl (Ln _ rfl (Wq (Wg (Lv ok 0 [(23, I (wr (n + 1))), (24, .bool (decide ((wr (n + 1)) > 2000)))] 2 rfl rfl ?_)))))))))
  refine Ln _ rfl ?_
  refine Wc (decide ((wr (n + 1)) > 2000)) rfl (fun aU => ?_) (fun aU => ?_)
  ·have H := H.1 aU
   refine Wq (Wg (Lv ok 0 [(2, I 0), (3, .bool false)] 2 rfl rfl (Ln _ rfl (W_ret ?_))))
   exact ⟨_, Ret_of [I 0, .bool false] ⟨⟨rfl, rfl⟩, ⟨rfl, rfl⟩, trivial⟩, _, _, H, rfl, (X.stepx ((x.trans aS).trans X44)).ext⟩
  have H := H.2 aU
  refine Wk (Wg ?_)
  have aH := (aS.trans X44)
  have bD := (aG.ext aH)
  refine Lb 0 (v := .agg #[sl a t.Rows c, sl aA t.Cols aB, sl aC t.Lo aD, sl aE t.Hi aF]) rfl rfl rfl ti_29 ag_29 (fun h => by cases h) rfl bD rfl rfl (Lv ok 1 [(19, sl bB aK bC)] 2 rfl rfl (Lc 2 rfl rfl rfl cal_51 rfl (impl_nextFlow_w _ _ _ H bL r (a4.ext aH) aL (a5.ext aH) aN (a6.ext aH) aP (a7.ext aH) bA bM) ?_))
  rintro _ bU ⟨aV, bV, bO, H, rfl, bP, bE, bQ, bR, bS⟩
  obtain ⟨bF, bG, rfl⟩ := bE.shape
  refine Lv ok 3 [(5, sl bF aV bG)] 4 rfl rfl ?_
  exact Ln _ rfl ⟨(wr (n + 1), aV), ⟨H.1, _, sl bF aV bG, bO, Ee ⟨rfl, rfl, rfl, trivial⟩, (X44.trans bP), bE, bQ, (Mj bR (Dl (Df ex f) (Dl (Df aM f) (Dl (Df aO f) (Dl (Df aQ f) d)))) bD), bS⟩, H.2⟩
 have H := H.2 aT
 refine W_exit ?_
 refine (if_pos rfl).mpr ?_
 refine Wq (Wg (Lv ok 0 [(25, I n), (2, I n), (3, .bool true)] 3 rfl rfl (Ln _ rfl (W_ret ?_))))
 exact ⟨_, Ret_of [I n, .bool true] ⟨⟨rfl, rfl⟩, ⟨rfl, rfl⟩, trivial⟩, _, _, H, rfl, (X.stepx ((x.trans aS).trans X44)).ext⟩

theorem impl_CountFits_w (x : List (List Int)) (p : List (List Int)) (Q : Int → Bool → Prop) (H : impl_CountFits x p Q) (w : World) {vx : Value} {hx : PH} (r : RS hx vx x) (ex : Sub hx w) {aG : Value} {aH : PH} (aD : RS aH aG p) (aI : Sub aH w) :
  CallsTo Try.prog 15 #[vx, aG] w fun v w' => ∃ aJ aK, Q aJ aK ∧ v = .tuple #[I aJ, .bool aK] ∧ Ext w w' := by
 obtain ⟨a, c, rfl⟩ := r.shape
 obtain ⟨aA, aB, rfl⟩ := aD.shape
 refine enter (args := [sl a x c, sl aA p aB]) 16 Try.func15 rfl rfl rfl ?_
 refine Wo [(0, sl a x c), (1, sl aA p aB)] ⟨rfl, rfl, trivial⟩ fun ρ => ?_
 have X := Br emp w
 refine Wq (Wg (Lv ok 0 [(4, I 0), (5, .bool false)] 2 rfl rfl (Ln _ rfl (Wq (Wq (Wg (Lv ok 0 [(6, sl a x c), (7, sl aA p aB)] 2 rfl rfl (Lc 2 rfl rfl rfl cal_41 rfl (impl_areSuppressed_w _ _ _ H w r ex aD aI) ?_))))))))
 rintro _ wx ⟨aL, H, rfl, aC⟩
 refine Lv ok 3 [(9, .bool (!aL))] 4 rfl rfl (Ln _ rfl ?_)
 refine Wc (!aL) rfl (fun hc => ?_) (fun hc => ?_)
 ·have H := H.1 hc
  refine Wq (Wg (Lv ok 0 [(4, I 0), (5, .bool false)] 2 rfl rfl (Ln _ rfl (W_ret ?_))))
  exact ⟨_, Ret_of [I 0, .bool false] ⟨⟨rfl, rfl⟩, ⟨rfl, rfl⟩, trivial⟩, _, _, H, rfl, (X.stepx aC).ext⟩
 have H := H.2 hc
 refine Wk (Wq (Wg (Lv ok 0 [(10, sl a x c), (11, sl aA p aB)] 2 rfl rfl (Lc 2 rfl rfl rfl cal_42 rfl (impl_attackNetwork_w _ _ _ H wx r (ex.ext aC) aD (aI.ext aC)) ?_))))
 rintro _ aP ⟨aW, aX, aY, aZ, a0, a1, a2, a3, a4, H, rfl, aQ, HF⟩
 revert HF
 refine bb9 fun o aR f aM aS a5 aN aT => ?_
 refine bb9 fun a6 aO aU a7 d a8 a9 bA => ?_
 refine bb2 fun bB bC => ?_
 obtain ⟨bD, bE, rfl⟩ := o.shape
 obtain ⟨bF, bG, rfl⟩ := aM.shape
 obtain ⟨bH, bI, rfl⟩ := aN.shape
 obtain ⟨bJ, bK, rfl⟩ := aO.shape
 refine Lc 3 rfl rfl rfl cal_37 rfl (impl_countFlows_w _ _ H aP o.readf aR aM.readf aS aN.readf aT aO.readf aU) ?_
 rintro _ bL ⟨aE, aF, H, rfl, aV⟩
 refine Lv ok 4 [(14, I aE), (15, .bool aF), (4, I aE), (5, .bool aF)] 8 rfl rfl (Ln _ rfl (W_ret ?_))
 exact ⟨_, Ret_of [I aE, .bool aF] ⟨⟨rfl, rfl⟩, ⟨rfl, rfl⟩, trivial⟩, _, _, H, rfl, (X.stepx ((aC.trans aQ).trans aV)).ext⟩

theorem laws_eqIntS_w (a : List Int) (b : List Int) (Q : Bool → Prop) (H : laws_eqIntS a b Q) (w : World) {vx : Value} {hx : PH} (r : RS hx vx a) (ex : Sub hx w) {aF : Value} {aG : PH} (aH : RS aG aF b) (aL : Sub aG w) :
  CallsTo Try.prog 38 #[vx, aF] w fun v w' => ∃ aI, Q aI ∧ v = .bool aI ∧ Ext w w' := by
 obtain ⟨aA, c, rfl⟩ := r.shape
 obtain ⟨aB, aC, rfl⟩ := aH.shape
 refine enter (args := [sl aA a c, sl aB b aC]) 26 Try.func38 rfl rfl rfl ?_
 refine Wo [(0, sl aA a c), (1, sl aB b aC)] ⟨rfl, rfl, trivial⟩ fun ρ => ?_
 have X := Br emp w
 refine Wq (Wg (Lv ok 0 [(4, .bool false)] 1 rfl rfl (Ln _ rfl (Wq (Wq (Wg (Lv ok 0 [(6, sl aA a c), (7, I (ln a)), (8, sl aB b aC), (9, I (ln b)), (10, .bool ((ln a) != (ln b)))] 5 rfl rfl (Ln _ rfl ?_))))))))
 refine Wc ((ln a) != (ln b)) rfl (fun hc => ?_) (fun hc => ?_)
 ·have H := H.1 hc
  refine Wq (Wg (Lv ok 0 [(4, .bool false)] 1 rfl rfl (Ln _ rfl (W_ret ?_))))
  exact ⟨_, Ret_of [.bool false] ⟨⟨rfl, rfl⟩, trivial⟩, _, H, rfl, X.ext⟩
 have H := H.2 hc
 refine Wk (Wq (Wq (Wg (Lv ok 0 [(5, I 0)] 1 rfl rfl (Ln _ rfl (W_block ?_))))))
 obtain ⟨J, m, Hx, H⟩ := H
 refine W_loop (S := Int) (fun s ρ' w' => J s ∧ ∃ (ρ : Env), ρ' = setAll [(0, sl aA a c), (1, sl aB b aC), (5, I s)] ρ ∧ Ext w w') (fun s => m s) 0 ⟨Hx, _, Ee ⟨rfl, rfl, rfl, trivial⟩, (Ext.refl _)⟩ ?_
 rintro i _ wx ⟨Hi, ρ, rfl, X8⟩
 have H := H i Hi
 refine Wq (Wq (Wg (Lv ok 0 [(11, I i), (12, sl aA a c), (13, I (ln a)), (14, .bool (decide (i < (ln a))))] 4 rfl rfl (Ln _ rfl ?_))))
 refine Wc (decide (i < (ln a))) rfl (fun aD => ?_) (fun aD => ?_)
 ·have H := H.1 aD
  refine Wk (Wq (W_block (Wq ?_)))
  refine W_quiet mix (by kernel_rfl) ?_
  refine QP_ev ok 0 [(17, sl aA a c), (18, I i)] 2 rfl rfl ?_
  obtain ⟨x, hi, aM, H⟩ := H
  refine QP_index 2 rfl rfl rfl Try.underlying22 ti_3 rfl rfl r hi aM fun aU cs aN d => ?_
  refine QP_load 3 rfl rfl rfl ti_3 ag_3 rfl aN d (ex.ext X8) fun aV aO => ?_
  obtain rfl := aO.int
  refine QP_ev ok 4 [(21, sl aB b aC), (22, I i)] 6 rfl rfl ?_
  obtain ⟨aJ, aP, aQ, H⟩ := H
  refine QP_index 6 rfl rfl rfl Try.underlying22 ti_3 rfl rfl aH aP aQ fun aW aX aR aS => ?_
  refine QP_load 7 rfl rfl rfl ti_3 ag_3 rfl aR aS (aL.ext X8) fun aY aT => ?_
  obtain rfl := aT.int
  refine QP_ev ok 8 [(25, .bool (x != aJ))] 9 rfl rfl ?_
  refine QP_end _ rfl fun aZ aK => ?_
  refine Wc (x != aJ) rfl (fun aE => ?_) (fun aE => ?_)
  ·have H := H.1 aE
   refine Wq (Wg (Lv ok 0 [(4, .bool false)] 1 rfl rfl (Ln _ rfl (W_ret ?_))))
   exact ⟨_, Ret_of [.bool false] ⟨⟨rfl, rfl⟩, trivial⟩, _, H, rfl, (X.stepx (X8.trans aK)).ext⟩
  have H := H.2 aE
  refine Wk (Wg (Lv ok 0 [(15, I i), (16, I (wr (i + 1))), (5, I (wr (i + 1)))] 3 rfl rfl ?_))
  exact Ln _ rfl ⟨wr (i + 1), ⟨H.1, _, Ee ⟨rfl, rfl, rfl, trivial⟩, (X8.trans aK)⟩, H.2⟩
 have H := H.2 aD
 refine W_exit ?_
 refine (if_pos rfl).mpr ?_
 refine Wq (Wg (Lv ok 0 [(4, .bool true)] 1 rfl rfl (Ln _ rfl (W_ret ?_))))
 exact ⟨_, Ret_of [.bool true] ⟨⟨rfl, rfl⟩, trivial⟩, _, H, rfl, (X.stepx X8).ext⟩

theorem laws_eqIntSS_w (a : List (List Int)) (b : List (List Int)) (Q : Bool → Prop) (H : laws_eqIntSS a b Q) (w : World) {vx : Value} {hx : PH} (r : RS hx vx a) (ex : Sub hx w) {aG : Value} {aH : PH} (aI : RS aH aG b) (aQ : Sub aH w) :
  CallsTo Try.prog 16 #[vx, aG] w fun v w' => ∃ aJ, Q aJ ∧ v = .bool aJ ∧ Ext w w' := by
 obtain ⟨aA, c, rfl⟩ := r.shape
 obtain ⟨aB, aC, rfl⟩ := aI.shape
 refine enter (args := [sl aA a c, sl aB b aC]) 27 Try.func16 rfl rfl rfl ?_
 refine Wo [(0, sl aA a c), (1, sl aB b aC)] ⟨rfl, rfl, trivial⟩ fun ρ => ?_
 have X := Br emp w
 refine Wq (Wg (Lv ok 0 [(4, .bool false)] 1 rfl rfl (Ln _ rfl (Wq (Wq (Wg (Lv ok 0 [(6, sl aA a c), (7, I (ln a)), (8, sl aB b aC), (9, I (ln b)), (10, .bool ((ln a) != (ln b)))] 5 rfl rfl (Ln _ rfl ?_))))))))
 refine Wc ((ln a) != (ln b)) rfl (fun hc => ?_) (fun hc => ?_)
 ·have H := H.1 hc
  refine Wq (Wg (Lv ok 0 [(4, .bool false)] 1 rfl rfl (Ln _ rfl (W_ret ?_))))
  exact ⟨_, Ret_of [.bool false] ⟨⟨rfl, rfl⟩, trivial⟩, _, H, rfl, X.ext⟩
 have H := H.2 hc
 refine Wk (Wq (Wq (Wg (Lv ok 0 [(5, I 0)] 1 rfl rfl (Ln _ rfl (W_block ?_))))))
 obtain ⟨J, m, Hx, H⟩ := H
 refine W_loop (S := Int) (fun s ρ' w' => J s ∧ ∃ (ρ : Env), ρ' = setAll [(0, sl aA a c), (1, sl aB b aC), (5, I s)] ρ ∧ Ext w w') (fun s => m s) 0 ⟨Hx, _, Ee ⟨rfl, rfl, rfl, trivial⟩, (Ext.refl _)⟩ ?_
 rintro i _ wx ⟨Hi, ρ, rfl, X8⟩
 have H := H i Hi
 refine Wq (Wq (Wg (Lv ok 0 [(11, I i), (12, sl aA a c), (13, I (ln a)), (14, .bool (decide (i < (ln a))))] 4 rfl rfl (Ln _ rfl ?_))))
 refine Wc (decide (i < (ln a))) rfl (fun aD => ?_) (fun aD => ?_)
 ·have H := H.1 aD
  refine Wk (Wq (W_block (Wq ?_)))
  refine W_quiet mix (by kernel_rfl) ?_
  refine QP_ev ok 0 [(17, sl aA a c), (18, I i)] 2 rfl rfl ?_
  obtain ⟨x, hi, aR, H⟩ := H
  refine QP_index 2 rfl rfl rfl Try.underlying23 ti_22 rfl rfl r hi aR fun a0 cs aS d => ?_
  have aK := (ex.ext X8)
  refine QP_load 3 rfl rfl rfl ti_22 ag_22 rfl aS d aK fun a1 aT => ?_
  have aL := aT.slice
  obtain ⟨a2, a3, rfl⟩ := aL.shape
  refine QP_ev ok 4 [(21, sl aB b aC), (22, I i)] 6 rfl rfl ?_
  obtain ⟨a4, aU, aV, H⟩ := H
  refine QP_index 6 rfl rfl rfl Try.underlying23 ti_22 rfl rfl aI aU aV fun a5 a6 aW aX => ?_
  have aM := (aQ.ext X8)
  refine QP_load 7 rfl rfl rfl ti_22 ag_22 rfl aW aX aM fun a7 aY => ?_
  have aN := aY.slice
  obtain ⟨a8, a9, rfl⟩ := aN.shape
  obtain ⟨aE, Hd, H⟩ := H
  refine QP_call (.bool aE) 8 rfl rfl rfl cal_38 rfl (fun aZ aO => (laws_eqIntS_w _ _ _ Hd aZ aL (aK.ext aO) aN (aM.ext aO)).mono ?_) ?_
  ·rintro _ _ ⟨_, rfl, rfl, x⟩; exact ⟨rfl, x⟩
  refine QP_ev ok 9 [(26, .bool (!aE))] 10 rfl rfl ?_
  refine QP_end _ rfl fun bA aP => ?_
  refine Wc (!aE) rfl (fun aF => ?_) (fun aF => ?_)
  ·have H := H.1 aF
   refine Wq (Wg (Lv ok 0 [(4, .bool false)] 1 rfl rfl (Ln _ rfl (W_ret ?_))))
   exact ⟨_, Ret_of [.bool false] ⟨⟨rfl, rfl⟩, trivial⟩, _, H, rfl, (X.stepx (X8.trans aP)).ext⟩
  have H := H.2 aF
  refine Wk (Wg (Lv ok 0 [(15, I i), (16, I (wr (i + 1))), (5, I (wr (i + 1)))] 3 rfl rfl ?_))
  exact Ln _ rfl ⟨wr (i + 1), ⟨H.1, _, Ee ⟨rfl, rfl, rfl, trivial⟩, (X8.trans aP)⟩, H.2⟩
 have H := H.2 aD
 refine W_exit ?_
 refine (if_pos rfl).mpr ?_
 refine Wq (Wg (Lv ok 0 [(4, .bool true)] 1 rfl rfl (Ln _ rfl (W_ret ?_))))
 exact ⟨_, Ret_of [.bool true] ⟨⟨rfl, rfl⟩, trivial⟩, _, H, rfl, (X.stepx X8).ext⟩

theorem laws_FnExactCountFits_w (aX : List (List Int)) (aP : List (List Int)) (Q : Bool → Prop) (H : laws_FnExactCountFits aX aP Q) (w : World) {vx : Value} {hx : PH} (r : RS hx vx aX) (ex : Sub hx w) {a7 : Value} {a8 : PH} (aG : RS a8 a7 aP) (bQ : Sub a8 w) :
  CallsTo Try.prog 4 #[vx, a7] w fun v w' => ∃ a9, Q a9 ∧ v = .bool a9 ∧ Ext w w' := by
 obtain ⟨a, c, rfl⟩ := r.shape
 obtain ⟨aA, aB, rfl⟩ := aG.shape
 refine enter (args := [sl a aX c, sl aA aP aB]) 58 Try.func4 rfl rfl rfl ?_
 refine Wo [(0, sl a aX c), (1, sl aA aP aB)] ⟨rfl, rfl, trivial⟩ fun ρ => ?_
 have X := Br emp w
 refine Wq (Wg (Lv ok 0 [(4, .bool false)] 1 rfl rfl (Ln _ rfl (Wq (Wg (Lv ok 0 [(5, I 1048576)] 1 rfl rfl (Ln _ rfl (Wq (Wg (Lv ok 0 [(12, sl a aX c), (13, I 1048576)] 2 rfl rfl (Lc 2 rfl rfl rfl cal_12 rfl (laws_szIntSS_w _ _ _ H w r ex) ?_)))))))))))
 rintro _ wx ⟨aH, H, rfl, x⟩
 refine Lv ok 3 [(5, I aH)] 4 rfl rfl (Ln _ rfl (Wq (Wq (Wg (Lv ok 0 [(15, I aH), (16, .bool (decide (aH < 0)))] 2 rfl rfl (Ln _ rfl ?_))))))
 refine Wc (decide (aH < 0)) rfl (fun hc => ?_) (fun hc => ?_)
 ·have H := H.1 hc
  refine Wq (Wg (Lv ok 0 [(4, .bool true)] 1 rfl rfl (Ln _ rfl (W_ret ?_))))
  exact ⟨_, Ret_of [.bool true] ⟨⟨rfl, rfl⟩, trivial⟩, _, H, rfl, (X.stepx x).ext⟩
 have H := H.2 hc
 refine Wk (Wq (Wg (Lv ok 0 [(17, sl aA aP aB), (18, I aH)] 2 rfl rfl ?_)))
 have bA := (bQ.ext x)
 refine Lc 2 rfl rfl rfl cal_12 rfl (laws_szIntSS_w _ _ _ H wx aG bA) ?_
 rintro _ bR ⟨aM, H, rfl, aN⟩
 refine Lv ok 3 [(5, I aM)] 4 rfl rfl (Ln _ rfl (Wq (Wq (Wg (Lv ok 0 [(20, I aM), (21, .bool (decide (aM < 0)))] 2 rfl rfl (Ln _ rfl ?_))))))
 refine Wc (decide (aM < 0)) rfl (fun aU => ?_) (fun aU => ?_)
 ·have H := H.1 aU
  refine Wq (Wg (Lv ok 0 [(4, .bool true)] 1 rfl rfl (Ln _ rfl (W_ret ?_))))
  exact ⟨_, Ret_of [.bool true] ⟨⟨rfl, rfl⟩, trivial⟩, _, H, rfl, (X.stepx (x.trans aN)).ext⟩
 have H := H.2 aU
 refine Wk (Wq (Wg (Lv ok 0 [(23, sl a aX c)] 1 rfl rfl ?_)))
 have bB := (ex.ext (x.trans aN))
 refine Lc 1 rfl rfl rfl cal_14 rfl (laws_toIntSS_w _ _ H bR r bB) ?_
 rintro _ bS ⟨b7, b8, b9, H, rfl, aV, o, bT, f⟩
 obtain ⟨cA, cB, rfl⟩ := o.shape
 refine Lv ok 2 [(25, sl aA aP aB)] 3 rfl rfl ?_
 have bC := (bA.ext (aN.trans aV))
 refine Lc 3 rfl rfl rfl cal_14 rfl (laws_toIntSS_w _ _ H bS aG bC) ?_
 rintro _ bU ⟨cC, cD, cE, H, rfl, aO, bD, bV, cF⟩
 obtain ⟨cG, cH, rfl⟩ := bD.shape
 refine Lc 4 rfl rfl rfl cal_13 rfl (spec_CountFits_w _ _ _ H bU o.readf (bT.ext aO) bD.readf bV) ?_
 rintro _ bW ⟨aC, aD, H, rfl, aW⟩
 refine Lv ok 5 [(22, .tuple #[I aC, .bool aD]), (28, I aC), (29, .bool aD), (6, I aC), (7, .bool aD)] 10 rfl rfl (Ln _ rfl (Wq (Wg (Lv ok 0 [(30, sl a aX c)] 1 rfl rfl ?_))))
 have bE := (bB.ext ((aV.trans aO).trans aW))
 refine Lc 1 rfl rfl rfl cal_14 rfl (laws_toIntSS_w _ _ H bW r bE) ?_
 rintro _ bX ⟨aI, cI, cJ, H, rfl, aY, aZ, bY, cK⟩
 obtain ⟨aJ, aK, rfl⟩ := aZ.shape
 refine Lv ok 2 [(8, sl aJ aI aK)] 3 rfl rfl (Ln _ rfl ?_)
 try refine Wo [(0, sl a aX c), (1, sl aA aP aB), (6, I aC), (7, .bool aD), (8, sl aJ aI aK)] ⟨rfl, rfl, rfl, rfl, rfl, trivial⟩ fun ρ => ?_
 refine Wq (Wg (Lv ok 0 [(32, sl aA aP aB)] 1 rfl rfl ?_))
 have bF := (bC.ext ((aO.trans aW).trans aY))
 refine Lc 1 rfl rfl rfl cal_14 rfl (laws_toIntSS_w _ _ H bX aG bF) ?_
 rintro _ bZ ⟨aQ, cL, cM, H, rfl, aR, a0, bG, cN⟩
 obtain ⟨aS, aT, rfl⟩ := a0.shape
 refine Lv ok 2 [(9, sl aS aQ aT)] 3 rfl rfl (Ln _ rfl (Wq (Wg (Lv ok 0 [(35, sl aJ aI aK), (36, sl aS aQ aT)] 2 rfl rfl ?_))))
 have bH := (bY.ext aR)
 refine Lc 2 rfl rfl rfl cal_15 rfl (impl_CountFits_w _ _ _ H bZ aZ.readf bH a0.readf bG) ?_
 rintro _ bI ⟨aE, aF, H, rfl, aL⟩
 refine Lv ok 3 [(34, .tuple #[I aE, .bool aF]), (38, I aE), (39, .bool aF), (10, I aE), (11, .bool aF)] 8 rfl rfl (Ln _ rfl (Wq ?_))
 have X72 := (X.stepx (((((((x.trans aN).trans aV).trans aO).trans aW).trans aY).trans aR).trans aL))
 obtain ⟨k, hk, H⟩ := jn_elim H
 refine W_join2 (S := Bool) (fun s ρ' w' => k s ∧ ∃ (ρ : Env), ρ' = setAll [(0, sl a aX c), (1, sl aA aP aB), (8, sl aJ aI aK), (9, sl aS aQ aT), (47, .bool s)] ρ ∧ bI = w') ?_ ?_
 ·refine Wg (Lv ok 0 [(40, I aE), (41, I aC), (42, .bool (aE != aC)), (43, .bool (aE != aC))] 4 rfl rfl ?_)
  refine LP_split 43 (aE != aC) rfl (fun a1 => ?_) (fun a1 => ?_)
  ·have H := H.1 a1
   refine Lv ok 4 [(44, undef), (45, undef), (46, undef), (47, .bool true)] 8 rfl rfl ?_
   exact Ln _ rfl ⟨true, H, _, Ee ⟨rfl, rfl, rfl, rfl, rfl, trivial⟩, rfl⟩
  have H := H.2 a1
  refine Lv ok 4 [(44, .bool aF), (45, .bool aD), (46, .bool (aF != aD)), (47, .bool (aF != aD))] 8 rfl rfl ?_
  exact Ln _ rfl ⟨aF != aD, H, _, Ee ⟨rfl, rfl, rfl, rfl, rfl, trivial⟩, rfl⟩
 rintro b0 _ _ ⟨H, ρ, rfl, rfl⟩
 subst hk
 refine Wc (b0) rfl (fun a2 => ?_) (fun a2 => ?_)
 ·have H := H.1 a2
  refine Wq (Wg (Lv ok 0 [(4, .bool false)] 1 rfl rfl (Ln _ rfl (W_ret ?_))))
  exact ⟨_, Ret_of [.bool false] ⟨⟨rfl, rfl⟩, trivial⟩, _, H, rfl, X72.ext⟩
 have H := H.2 a2
 refine Wk (Wq (Wq (Wg (Lv ok 0 [(48, sl aJ aI aK), (49, sl a aX c)] 2 rfl rfl (Lc 2 rfl rfl rfl cal_14 rfl (laws_toIntSS_w _ _ H bI r (bE.ext ((aY.trans aR).trans aL))) ?_)))))
 rintro _ b1 ⟨cO, cP, cQ, H, rfl, a3, bJ, b2, cR⟩
 obtain ⟨cS, cT, rfl⟩ := bJ.shape
 refine Lc 3 rfl rfl rfl cal_16 rfl (laws_eqIntSS_w _ _ _ H b1 aZ.readf ((bH.ext aL).ext a3) bJ.readf b2) ?_
 rintro _ b3 ⟨bK, H, rfl, bL⟩
 refine Lv ok 4 [(52, .bool (!bK))] 5 rfl rfl (Ln _ rfl ?_)
 refine Wc (!bK) rfl (fun a4 => ?_) (fun a4 => ?_)
 ·have H := H.1 a4
  refine Wq (Wg (Lv ok 0 [(4, .bool false)] 1 rfl rfl (Ln _ rfl (W_ret ?_))))
  exact ⟨_, Ret_of [.bool false] ⟨⟨rfl, rfl⟩, trivial⟩, _, H, rfl, (X72.stepx (a3.trans bL)).ext⟩
 have H := H.2 a4
 refine Wk (Wq (Wq (Wg (Lv ok 0 [(53, sl aS aQ aT), (54, sl aA aP aB)] 2 rfl rfl ?_))))
 have bM := (a3.trans bL)
 refine Lc 2 rfl rfl rfl cal_14 rfl (laws_toIntSS_w _ _ H b3 aG ((bF.ext (aR.trans aL)).ext bM)) ?_
 rintro _ b4 ⟨cU, cV, cW, H, rfl, b5, bN, b6, cX⟩
 obtain ⟨cY, cZ, rfl⟩ := bN.shape
 have a5 := (bM.trans b5)
 refine Lc 3 rfl rfl rfl cal_16 rfl (laws_eqIntSS_w _ _ _ H b4 a0.readf ((bG.ext aL).ext a5) bN.readf b6) ?_
 rintro _ c0 ⟨bO, H, rfl, bP⟩
 refine Lv ok 4 [(57, .bool (!bO))] 5 rfl rfl (Ln _ rfl ?_)
 refine Wc (!bO) rfl (fun a6 => ?_) (fun a6 => ?_)
 ·have H := H.1 a6
  refine Wq (Wg (Lv ok 0 [(4, .bool false)] 1 rfl rfl (Ln _ rfl (W_ret ?_))))
  exact ⟨_, Ret_of [.bool false] ⟨⟨rfl, rfl⟩, trivial⟩, _, H, rfl, (X72.stepx (a5.trans bP)).ext⟩
 have H := H.2 a6
 refine Wk (Wq (Wg (Lv ok 0 [(4, .bool true)] 1 rfl rfl (Ln _ rfl (W_ret ?_)))))
 exact ⟨_, Ret_of [.bool true] ⟨⟨rfl, rfl⟩, trivial⟩, _, H, rfl, (X72.stepx (a5.trans bP)).ext⟩

end Go.Proofs.Ytommbnkecafodaa
