/- The walks, further. -/
import Derived.Test.YtommbnkecafodaaFWalk
set_option linter.unusedVariables false
set_option autoImplicit false
namespace Go.Proofs.Ytommbnkecafodaa
open Go Go.RowKit Go.Gv

open Go.Proofs
set_option maxRecDepth 8000
set_option maxHeartbeats 4000000
theorem impl_colSums_w (x : List (List Int)) (Q : (List Int) → Prop) (H : impl_colSums x Q) (w : World) {vx : Value} {hx : PH} (r : RS hx vx x) (ex : Sub hx w) :
  CallsTo Try.prog 78 #[vx] w fun v w' => ∃ aU aV aK, Q aU ∧ v = aV ∧ Ext w w' ∧ OS 3 aK emp aV aU ∧ Sub aK w' ∧ Fresh w.heap.size aK := by
 obtain ⟨a, c, rfl⟩ := r.shape
 refine enter (args := [sl a x c]) 36 Try.func78 rfl rfl rfl ?_
 refine Wo [(0, sl a x c)] ⟨rfl, trivial⟩ fun ρ => ?_
 have X := Br emp w
 refine Wq (Wg (Lv ok 0 [(2, .slice none 0 0)] 1 rfl rfl (Ln _ rfl (Wq (Wg (Lv ok 0 [(8, sl a x c)] 1 rfl rfl ?_))))))
 obtain ⟨aA, hi, a4, H⟩ := H
 refine Li 1 rfl rfl rfl Try.underlying23 ti_22 rfl rfl r hi a4 fun bU cs a5 d => (Lo 2 rfl rfl rfl ti_22 ag_22 rfl a5 d ex fun bV a6 => ?_)
 have a7 := a6.slice
 obtain ⟨bW, bX, rfl⟩ := a7.shape
 refine Lv ok 3 [(11, I (ln aA))] 4 rfl rfl ?_
 obtain ⟨hn, hb, H⟩ := H
 refine LP_make (α := Int) 4 rfl rfl rfl Try.underlying22 ti_3 (x0 := (0 : Int)) rfl rfl hn (by first | omega | (simp only [ln] at *; omega)) (by first | omega | (simp only [ln] at *; omega)) fun aI bY wx aL o a8 f => ?_
 obtain ⟨aB, aC, rfl⟩ := o.shape
 refine Lv ok 5 [(3, .slice aB (List.length (List.replicate (Int.toNat (ln aA)) ((0 : Int)))) aC)] 6 rfl rfl (Ln _ rfl (Wq (Wq (Wg (Lv ok 0 [(13, sl a x c), (14, I (ln x)), (15, I 0)] 3 rfl rfl (Ln _ rfl (W_block ?_)))))))
 obtain ⟨J, m, Hx, H⟩ := H
 refine W_loop (S := (List Int) × Int) (fun s ρ' w' => J s.1 s.2 ∧ ∃ (ρ : Env) (aD : PH), ρ' = setAll [(3, .slice aB (List.length (List.replicate (Int.toNat (ln aA)) ((0 : Int)))) aC), (13, sl a x c), (14, I (ln x)), (15, I s.2)] ρ ∧ But aI wx w' ∧ OS 3 aD emp (.slice aB (List.length (List.replicate (Int.toNat (ln aA)) ((0 : Int)))) aC) s.1 ∧ Sub aD w' ∧ DomLe aI wx.heap.size aD) (fun s => m s.1 s.2) (List.replicate (Int.toNat (ln aA)) ((0 : Int)), 0) ⟨Hx, _, aI, Ee ⟨rfl, rfl, rfl, rfl, trivial⟩, (Br _ _), o, a8, (Oe (Or _) _)⟩ ?_
 rintro ⟨sums, aF⟩ _ aM ⟨Hi, ρ, aD, rfl, X23, aW, aX, aN⟩
 have H := H sums aF Hi
 refine Wq (Wg (Lv ok 0 [(16, .bool (decide (aF < (ln x))))] 1 rfl rfl (Ln _ rfl (Wq ?_))))
 refine Wc (decide (aF < (ln x))) rfl (fun hc => ?_) (fun hc => ?_)
 ·have H := H.1 hc
  refine Wk (Wq (W_block (Wq (Wg ?_))))
  obtain ⟨aG, a9, bA, H⟩ := H
  refine Li 0 rfl rfl rfl Try.underlying23 ti_22 rfl rfl r a9 bA fun bZ b0 bB bC => ?_
  have aY := ((ex.ext aL).but X23 (Df ex f).symm)
  refine Lo 1 rfl rfl rfl ti_22 ag_22 rfl bB bC aY fun b1 bD => ?_
  have aZ := bD.slice
  obtain ⟨aO, aP, rfl⟩ := aZ.shape
  refine Lv ok 2 [(5, sl aO aG aP)] 3 rfl rfl (Ln _ rfl (Wq (Wg (Lv ok 0 [(19, sl aO aG aP), (20, I (ln aG)), (21, I 0)] 3 rfl rfl (Ln _ rfl (W_block ?_))))))
  obtain ⟨J46, bE, Hx48, H⟩ := H
  refine W_loop (S := (List Int) × Int) (fun s ρ' w' => J46 s.1 s.2 ∧ ∃ (ρ : Env) (aH : PH), ρ' = setAll [(3, .slice aB (List.length (List.replicate (Int.toNat (ln aA)) ((0 : Int)))) aC), (13, sl a x c), (14, I (ln x)), (15, I aF), (19, sl aO aG aP), (20, I (ln aG)), (21, I s.2)] ρ ∧ But aD aM w' ∧ OS 3 aH emp (.slice aB (List.length (List.replicate (Int.toNat (ln aA)) ((0 : Int)))) aC) s.1 ∧ Sub aH w' ∧ DomLe aD aM.heap.size aH) (fun s => bE s.1 s.2) (sums, 0) ⟨Hx48, _, aD, Ee ⟨rfl, rfl, rfl, rfl, rfl, rfl, rfl, trivial⟩, (Br _ _), aW, aX, (Oe (Or _) _)⟩ ?_
  rintro ⟨aQ, aE⟩ _ b2 ⟨Hi, ρ, aH, rfl, X45, aR, aS, a0⟩
  have H := H aQ aE Hi
  refine Wq (Wg (Lv ok 0 [(22, .bool (decide (aE < (ln aG))))] 1 rfl rfl (Ln _ rfl (Wq ?_))))
  refine Wc (decide (aE < (ln aG))) rfl (fun aT => ?_) (fun aT => ?_)
  ·have H := H.1 aT
   refine Wk (Wq (W_block (Wq (Wg (Lv ok 0 [(23, I aE)] 1 rfl rfl ?_)))))
   obtain ⟨aJ, bF, bG, H⟩ := H
   refine Li 1 rfl rfl rfl Try.underlying22 ti_3 rfl rfl aZ bF bG fun b3 b4 bH bI => ?_
   have dj := (Mj aN (Df ex f).symm (ex.ext aL))
   refine Lo 2 rfl rfl rfl ti_3 ag_3 rfl bH bI (aY.but X45 dj) fun b5 bJ => ?_
   obtain rfl := bJ.int
   refine Lv ok 3 [(6, I aE), (7, I aJ)] 5 rfl rfl (Ln _ rfl (Wg (Lv ok 0 [(26, .slice aB (List.length (List.replicate (Int.toNat (ln aA)) ((0 : Int)))) aC), (27, I aE)] 2 rfl rfl ?_)))
   obtain ⟨a1, bK, bL, H⟩ := H
   refine Li 2 rfl rfl rfl Try.underlying22 ti_3 rfl rfl aR.readf bK bL fun b6 b7 bM bN => (Lo 3 rfl rfl rfl ti_3 ag_3 rfl bM bN aS fun b8 bO => ?_)
   obtain rfl := bO.int
   refine Lv ok 4 [(30, I aJ), (31, I (wr (a1 + aJ)))] 6 rfl rfl ?_
   obtain ⟨bP, hl, H⟩ := H
   refine LP_indexw (v := .slice aB (List.length (List.replicate (Int.toNat (ln aA)) ((0 : Int)))) aC) 6 rfl rfl rfl Try.underlying22 ti_3 rfl rfl aR bP hl fun b9 wa => (LP_set 7 rfl rfl rfl rfl rfl wa (Le.refl emp) ⟨_, rfl, rfl⟩ aS fun bQ cA bR bS y dm => (Ln _ rfl (Wg (Lv ok 0 [(33, I (wr (aE + 1))), (21, I (wr (aE + 1)))] 2 rfl rfl (Ln _ rfl ?_)))))
   have dl : DomLe aD aM.heap.size aH := (Mt (Oe (Or _) _) a0 (Nat.le_refl _))
   exact ⟨(List.set aQ (Int.toNat aE) (wr (a1 + aJ)), wr (aE + 1)), ⟨H.1, _, bQ, Ee ⟨rfl, rfl, rfl, rfl, rfl, rfl, rfl, trivial⟩, (((Br aD _).step X45 (Oe (Or _) _)).step y dl), bR, bS, (Mt dl (dm _) X45.size)⟩, H.2⟩
  have H := H.2 aT
  refine W_exit ?_
  refine (if_pos rfl).mpr ?_
  refine Wg (Lv ok 0 [(34, I (wr (aF + 1))), (15, I (wr (aF + 1)))] 2 rfl rfl (Ln _ rfl ?_))
  have a2 : DomLe aI wx.heap.size aD := (Mt (Oe (Or _) _) aN (Nat.le_refl _))
  exact ⟨(aQ, wr (aF + 1)), ⟨H.1, _, aH, Ee ⟨rfl, rfl, rfl, rfl, trivial⟩, (((Br aI _).step X23 (Oe (Or _) _)).step X45 a2), aR, aS, (Mt a2 a0 X23.size)⟩, H.2⟩
 have H := H.2 hc
 refine W_exit ?_
 refine (if_pos rfl).mpr ?_
 refine Wq (Wg (Lv ok 0 [(35, .slice aB (List.length (List.replicate (Int.toNat (ln aA)) ((0 : Int)))) aC), (2, .slice aB (List.length (List.replicate (Int.toNat (ln aA)) ((0 : Int)))) aC)] 2 rfl rfl (Ln _ rfl (W_ret ?_))))
 have a3 := f.mono X.size
 have X82 := (X.stepx aL)
 have bT := DomLe.fresh aN a3 X82.size
 exact ⟨_, Ret_of [.slice aB (List.length (List.replicate (Int.toNat (ln aA)) ((0 : Int)))) aC] ⟨⟨rfl, rfl⟩, trivial⟩, _, _, _, H, rfl, (X82.step X23 (a3.dom _)).ext, aW, aX, bT⟩

theorem impl_push_w (r : List (List Int)) (fromx : Int) (to : Int) (limit : Int) (Q : Int → (List (List Int)) → Prop) (H : impl_push r fromx to limit Q) (w : World) {vx : Value} {hx : PH} (cV : OD hx vx r) (ex : Sub hx w) :
  CallsTo Try.prog 90 #[vx, I fromx, I to, I limit] w fun v w' => ∃ cW cX bW, Q cW cX ∧ v = I cW ∧ But hx w w' ∧ OD bW vx cX ∧ Sub bW w' ∧ (∀ n, DomLe hx n bW) := by
 obtain ⟨a, c, rfl⟩ := cV.shape
 refine enter (args := [sl a r c, I fromx, I to, I limit]) 149 Try.func90 rfl rfl rfl ?_
 refine Wo [(0, sl a r c), (1, I fromx), (2, I to), (3, I limit)] ⟨rfl, rfl, rfl, rfl, trivial⟩ fun ρ => ?_
 have D : Dom hx hx := (Or _)
 have X := Br hx w
 refine Wq (Wg (Lv ok 0 [(8, I 0)] 1 rfl rfl (Ln _ rfl (Wq (Wg (Lv ok 0 [(9, I 0)] 1 rfl rfl (Ln _ rfl ?_)))))))
 obtain ⟨k, hk, H⟩ := jn_elim H
 refine W_join2 (S := Int × (List (List Int))) (fun s ρ' w' => k s.1 s.2 ∧ ∃ (ρ : Env) (bA : PH), ρ' = setAll [(9, I s.1)] ρ ∧ But hx w w' ∧ OD bA (sl a r c) s.2 ∧ Sub bA w' ∧ (∀ n, DomLe hx n bA)) ?_ ?_
 ·refine W_block ?_
  obtain ⟨J, m, Hx, H⟩ := H
  refine W_loop (S := (List (List Int)) × Int) (fun s ρ' w' => J s.1 s.2 ∧ ∃ (ρ : Env) (aF : PH), ρ' = setAll [(0, sl a r c), (1, I fromx), (2, I to), (3, I limit), (9, I s.2)] ρ ∧ But hx w w' ∧ OD aF (sl a r c) s.1 ∧ Sub aF w' ∧ (∀ n, DomLe hx n aF)) (fun s => m s.1 s.2) (r, 0) ⟨Hx, _, hx, Ee ⟨rfl, rfl, rfl, rfl, rfl, trivial⟩, (Br _ _), cV, ex, (fun _ => DomLe.refl _ _)⟩ ?_
  rintro ⟨bB, aC⟩ _ iS ⟨Hi, ρ, aF, rfl, X15, a0, bC, bD⟩
  have H := H bB aC Hi
  refine Wq (Wq (Wg (Lv ok 0 [(19, I aC), (20, I limit), (21, .bool (decide (aC < limit)))] 3 rfl rfl (Ln _ rfl ?_))))
  refine Wc (decide (aC < limit)) rfl (fun hc => ?_) (fun hc => ?_)
  ·have H := H.1 hc
   refine Wk (W_block (Wq (Wg (Lv ok 0 [(22, sl a r c), (23, I (ln r))] 2 rfl rfl ?_))))
   obtain ⟨hn, hb, H⟩ := H
   refine LP_make (α := Int) 2 rfl rfl rfl Try.underlying22 ti_3 (x0 := (0 : Int)) rfl rfl hn (by first | omega | (simp only [ln] at *; omega)) (by first | omega | (simp only [ln] at *; omega)) fun a1 iT bX x cY eL a2 => ?_
   obtain ⟨aA, aB, rfl⟩ := cY.shape
   refine Lv ok 3 [(10, .slice aA (List.length (List.replicate (Int.toNat (ln r)) ((0 : Int)))) aB)] 4 rfl rfl (Ln _ rfl (Wq (Wq (Wg (Lv ok 0 [(25, .slice aA (List.length (List.replicate (Int.toNat (ln r)) ((0 : Int)))) aB), (26, I (ln (List.replicate (Int.toNat (ln r)) ((0 : Int))))), (27, I 0)] 3 rfl rfl (Ln _ rfl (W_block ?_)))))))
   obtain ⟨J32, eM, Hx34, H⟩ := H
   refine W_loop (S := (List Int) × Int) (fun s ρ' w' => J32 s.1 s.2 ∧ ∃ (ρ : Env) (aP : PH), ρ' = setAll [(0, sl a r c), (1, I fromx), (2, I to), (3, I limit), (9, I aC), (10, .slice aA (List.length (List.replicate (Int.toNat (ln r)) ((0 : Int)))) aB), (26, I (ln (List.replicate (Int.toNat (ln r)) ((0 : Int))))), (27, I s.2)] ρ ∧ But a1 bX w' ∧ OS 3 aP emp (.slice aA (List.length (List.replicate (Int.toNat (ln r)) ((0 : Int)))) aB) s.1 ∧ Sub aP w' ∧ DomLe a1 bX.heap.size aP) (fun s => eM s.1 s.2) (List.replicate (Int.toNat (ln r)) ((0 : Int)), 0) ⟨Hx34, _, a1, Ee ⟨rfl, rfl, rfl, rfl, rfl, rfl, rfl, rfl, trivial⟩, (Br _ _), cY, eL, (Oe (Or _) _)⟩ ?_
   rintro ⟨back, aG⟩ _ iU ⟨Hi, ρ, aP, rfl, X31, cZ, c0, bE⟩
   have H := H back aG Hi
   refine Wq (Wg (Lv ok 0 [(28, .bool (decide (aG < (ln (List.replicate (Int.toNat (ln r)) ((0 : Int)))))))] 1 rfl rfl (Ln _ rfl (Wq ?_))))
   refine Wc (decide (aG < (ln (List.replicate (Int.toNat (ln r)) ((0 : Int)))))) rfl (fun bY => ?_) (fun bY => ?_)
   ·have H := H.1 bY
    refine Wk (Wq (W_block (Wq (Wg (Lv ok 0 [(29, I aG), (11, I aG)] 2 rfl rfl (Ln _ rfl (Wg ?_)))))))
    refine Lv ok 0 [(30, .slice aA (List.length (List.replicate (Int.toNat (ln r)) ((0 : Int)))) aB), (31, I aG)] 2 rfl rfl ?_
    obtain ⟨hi, hl, H⟩ := H
    refine LP_indexw (v := .slice aA (List.length (List.replicate (Int.toNat (ln r)) ((0 : Int)))) aB) 2 rfl rfl rfl Try.underlying22 ti_3 rfl rfl cZ hi hl fun iV wa => (LP_set 3 rfl rfl rfl rfl rfl wa (Le.refl emp) ⟨_, rfl, rfl⟩ c0 fun eN iW eO eP y dm => (Ln _ rfl (Wg (Lv ok 0 [(33, I (wr (aG + 1))), (27, I (wr (aG + 1)))] 2 rfl rfl (Ln _ rfl ?_)))))
    have dl : DomLe a1 bX.heap.size aP := (Mt (Oe (Or _) _) bE (Nat.le_refl _))
    exact ⟨(List.set back (Int.toNat aG) ((-1)), wr (aG + 1)), ⟨H.1, _, eN, Ee ⟨rfl, rfl, rfl, rfl, rfl, rfl, rfl, rfl, trivial⟩, (((Br a1 _).step X31 (Oe (Or _) _)).step y dl), eO, eP, (Mt dl (dm _) X31.size)⟩, H.2⟩
   have H := H.2 bY
   refine W_exit ?_
   refine (if_pos rfl).mpr ?_
   refine Wq (Wg (Lv ok 0 [(34, .slice aA (List.length (List.replicate (Int.toNat (ln r)) ((0 : Int)))) aB), (35, I fromx), (36, I fromx)] 3 rfl rfl ?_))
   obtain ⟨eQ, eR, H⟩ := H
   refine LP_indexw (v := .slice aA (List.length (List.replicate (Int.toNat (ln r)) ((0 : Int)))) aB) 3 rfl rfl rfl Try.underlying22 ti_3 rfl rfl cZ eQ eR fun iX eS => (LP_set 4 rfl rfl rfl rfl rfl eS (Le.refl emp) ⟨_, rfl, rfl⟩ c0 fun bZ iY eT c1 aV b0 => (Ln _ rfl (Wq (Wg (Lv ok 0 [(38, I fromx)] 1 rfl rfl (LP_lit (α := Int) (g := emp) 1 (vs := [I fromx]) (xs := [fromx]) rfl rfl rfl Try.underlying22 ti_3 rfl rfl ⟨⟨_, rfl, rfl⟩, trivial⟩ rfl rfl fun b1 iZ bF aW c2 eU bG => ?_))))))
   obtain ⟨c3, c4, rfl⟩ := c2.shape
   refine Lv ok 2 [(12, .slice c3 (List.length ([fromx])) c4)] 3 rfl rfl (Ln _ rfl (Wq (W_block ?_)))
   obtain ⟨U, hU⟩ : ∃ U : PH, U = (un bZ b1) := ⟨_, rfl⟩
   have D74 : Dom U bZ := Dom.eqv hU (Dom.l _ _)
   have D75 : Dom U b1 := Dom.eqv hU (Ot (Dom.r _ _) (Or _))
   have dj := (Df c1 bG).symm
   obtain ⟨J79, eV, Hx81, H⟩ := H
   refine W_loop (S := (List Int) × (List Int)) (fun s ρ' w' => J79 s.1 s.2 ∧ ∃ (ρ : Env) (aL : PH) (b2 : Value) (aM : PH), ρ' = setAll [(0, sl a r c), (1, I fromx), (2, I to), (3, I limit), (9, I aC), (10, .slice aA (List.length (List.replicate (Int.toNat (ln r)) ((0 : Int)))) aB), (12, b2)] ρ ∧ But U bF w' ∧ OS 3 aL emp (.slice aA (List.length (List.replicate (Int.toNat (ln r)) ((0 : Int)))) aB) s.1 ∧ Sub aL w' ∧ DomLe U bF.heap.size aL ∧ OT aM b2 s.2 ∧ Sub aM w' ∧ DomLe U bF.heap.size aM ∧ Dj aM aL) (fun s => eV s.1 s.2) (List.set back (Int.toNat fromx) fromx, [fromx]) ⟨Hx81, _, bZ, .slice c3 (List.length ([fromx])) c4, b1, Ee ⟨rfl, rfl, rfl, rfl, rfl, rfl, rfl, trivial⟩, (Br _ _), eT, (c1.ext aW), (Oe D74 _), (OS.ot c2), eU, (Oe D75 _), dj⟩ ?_
   rintro ⟨c5, queue⟩ _ aN ⟨Hi, ρ, aL, b2, aM, rfl, HF⟩
   revert HF
   refine bb8 fun X78 aO aQ b3 b4 c6 c7 d => ?_
   have H := H c5 queue Hi
   obtain ⟨bH, bI, rfl⟩ := b4.shape
   refine Wq ?_
   have b5 := (Df bC a2).symm
   have c8 := (bC.ext x)
   have b6 := (Mj bE b5 c8)
   have c9 := (c8.but X31 b5)
   have b7 := (c9.but aV b6)
   have eW := (Df b7 bG).symm
   have bJ := (Dl (Mj (b0 _) b6 c9) eW)
   have aX := (((((bC.ext x).but X31 b5).but aV b6).ext aW).but X78 (Dj.eqv hU bJ))
   obtain ⟨eX, eY, H⟩ := jn_elim H
   refine W_join2 (S := Bool) (fun s ρ' w' => eX s ∧ ∃ (ρ : Env), ρ' = setAll [(0, sl a r c), (1, I fromx), (2, I to), (3, I limit), (9, I aC), (10, .slice aA (List.length (List.replicate (Int.toNat (ln r)) ((0 : Int)))) aB), (12, sl bH queue bI), (49, .bool s)] ρ ∧ aN = w') ?_ ?_
   ·refine Wg (Lv ok 0 [(40, sl bH queue bI), (41, I (ln queue)), (42, .bool (decide ((ln queue) > 0))), (43, .bool (decide ((ln queue) > 0)))] 4 rfl rfl ?_)
    refine LP_split 43 (decide ((ln queue) > 0)) rfl (fun b8 => ?_) (fun b8 => ?_)
    ·have H := H.1 b8
     refine Lv ok 4 [(44, .slice aA (List.length (List.replicate (Int.toNat (ln r)) ((0 : Int)))) aB), (45, I to)] 6 rfl rfl ?_
     obtain ⟨b9, eZ, e0, H⟩ := H
     refine Li 6 rfl rfl rfl Try.underlying22 ti_3 rfl rfl aO.readf eZ e0 fun i0 cs e1 e2 => (Lo 7 rfl rfl rfl ti_3 ag_3 rfl e1 e2 aQ fun i1 e3 => ?_)
     obtain rfl := e3.int
     refine Lv ok 8 [(48, .bool (decide (b9 < 0))), (49, .bool (decide (b9 < 0)))] 10 rfl rfl ?_
     exact Ln _ rfl ⟨decide (b9 < 0), H, _, Ee ⟨rfl, rfl, rfl, rfl, rfl, rfl, rfl, rfl, trivial⟩, rfl⟩
    have H := H.2 b8
    refine Lv ok 4 [(44, undef), (45, undef), (46, undef), (47, undef), (48, undef), (49, .bool false)] 10 rfl rfl ?_
    exact Ln _ rfl ⟨false, H, _, Ee ⟨rfl, rfl, rfl, rfl, rfl, rfl, rfl, rfl, trivial⟩, rfl⟩
   rintro e4 _ _ ⟨H, ρ, rfl, rfl⟩
   subst eY
   refine Wc (e4) rfl (fun cA => ?_) (fun cA => ?_)
   ·have H := H.1 cA
    refine Wk (W_block (Wq (Wg (Lv ok 0 [(50, sl bH queue bI)] 1 rfl rfl ?_))))
    obtain ⟨aR, e5, e6, H⟩ := H
    refine Li 1 rfl rfl rfl Try.underlying22 ti_3 rfl rfl b4.readf e5 e6 fun i2 i3 e7 e8 => (Lo 2 rfl rfl rfl ti_3 ag_3 rfl e7 e8 c6 fun i4 e9 => ?_)
    obtain rfl := e9.int
    refine Lv ok 3 [(13, I aR)] 4 rfl rfl (Ln _ rfl (Wq (Wg (Lv ok 0 [(53, sl bH queue bI)] 1 rfl rfl ?_))))
    obtain ⟨fA, hu, H⟩ := H
    refine LP_sliceT 1 1 rfl rfl rfl Try.underlying22 ti_3 rfl rfl b4 fA hu fun i5 dA => ?_
    obtain ⟨dB, dC, rfl⟩ := dA.shape
    refine Lv ok 2 [(12, .slice dB (List.length (List.drop (Int.toNat 1) queue)) dC)] 3 rfl rfl (Ln _ rfl (Wq (Wg (Lv ok 0 [(55, sl a r c), (56, I aR)] 2 rfl rfl ?_))))
    obtain ⟨aI, fB, fC, H⟩ := H
    refine Li 2 rfl rfl rfl Try.underlying23 ti_22 rfl rfl a0.readf fB fC fun i6 i7 fD fE => (Lo 3 rfl rfl rfl ti_22 ag_22 rfl fD fE aX fun i9 fF => ?_)
    have dD := fF.slice
    obtain ⟨cB, cC, rfl⟩ := dD.shape
    refine Lv ok 4 [(59, I (ln aI)), (60, I 0)] 6 rfl rfl (Ln _ rfl (W_block ?_))
    obtain ⟨U162, hU163⟩ : ∃ U : PH, U = (un aL aM) := ⟨_, rfl⟩
    have D164 : Dom U162 aL := Dom.eqv hU163 (Dom.l _ _)
    have D165 : Dom U162 aM := Dom.eqv hU163 (Ot (Dom.r _ _) (Or _))
    obtain ⟨J170, fG, Hx172, H⟩ := H
    refine W_loop (S := (List Int) × (List Int) × Int) (fun s ρ' w' => J170 s.1 s.2.1 s.2.2 ∧ ∃ (ρ : Env) (aJ : PH) (cD : Value) (aK : PH), ρ' = setAll [(0, sl a r c), (1, I fromx), (2, I to), (3, I limit), (9, I aC), (10, .slice aA (List.length (List.replicate (Int.toNat (ln r)) ((0 : Int)))) aB), (12, cD), (13, I aR), (58, sl cB aI cC), (59, I (ln aI)), (60, I s.2.2)] ρ ∧ But U162 aN w' ∧ OS 3 aJ emp (.slice aA (List.length (List.replicate (Int.toNat (ln r)) ((0 : Int)))) aB) s.1 ∧ Sub aJ w' ∧ DomLe U162 aN.heap.size aJ ∧ OT aK cD s.2.1 ∧ Sub aK w' ∧ DomLe U162 aN.heap.size aK ∧ Dj aK aJ) (fun s => fG s.1 s.2.1 s.2.2) (c5, List.drop (Int.toNat 1) queue, 0) ⟨Hx172, _, aL, .slice dB (List.length (List.drop (Int.toNat 1) queue)) dC, aM, Ee ⟨rfl, rfl, rfl, rfl, rfl, rfl, rfl, rfl, rfl, rfl, rfl, trivial⟩, (Br _ _), aO, aQ, (Oe D164 _), dA, c6, (Oe D165 _), (Dom.dj (Or _) d)⟩ ?_
    rintro ⟨bK, aH, aD⟩ _ bL ⟨Hi, ρ, aJ, cD, aK, rfl, HF⟩
    revert HF
    refine bb8 fun X169 bM bN dE bO bP dF bQ => ?_
    have H := H bK aH aD Hi
    obtain ⟨bR, bS, rfl⟩ := bO.shape
    refine Wq (Wg (Lv ok 0 [(61, .bool (decide (aD < (ln aI))))] 1 rfl rfl (Ln _ rfl (Wq ?_))))
    refine Wc (decide (aD < (ln aI))) rfl (fun cE => ?_) (fun cE => ?_)
    ·have H := H.1 cE
     refine Wk ?_
     have dG := (b7.ext aW)
     obtain ⟨U199, hU200⟩ : ∃ U : PH, U = (un aJ aK) := ⟨_, rfl⟩
     have D201 : Dom U199 aJ := Dom.eqv hU200 (Dom.l _ _)
     have D202 : Dom U199 aK := Dom.eqv hU200 (Ot (Dom.r _ _) (Or _))
     obtain ⟨fH, fI, H⟩ := jn_elim H
     refine W_join2 (S := (List Int) × (List Int)) (fun s ρ' w' => fH s.1 s.2 ∧ ∃ (ρ : Env) (aY : PH) (cF : Value) (aZ : PH), ρ' = setAll [(0, sl a r c), (1, I fromx), (2, I to), (3, I limit), (9, I aC), (10, .slice aA (List.length (List.replicate (Int.toNat (ln r)) ((0 : Int)))) aB), (12, cF), (13, I aR), (58, sl cB aI cC), (59, I (ln aI)), (60, I aD)] ρ ∧ But U199 bL w' ∧ OS 3 aY emp (.slice aA (List.length (List.replicate (Int.toNat (ln r)) ((0 : Int)))) aB) s.1 ∧ Sub aY w' ∧ DomLe U199 bL.heap.size aY ∧ OT aZ cF s.2 ∧ Sub aZ w' ∧ DomLe U199 bL.heap.size aZ ∧ Dj aZ aY) ?_ ?_
     ·refine W_block (Wq (Wg (Lv ok 0 [(62, I aD)] 1 rfl rfl ?_)))
      obtain ⟨a3, fJ, fK, H⟩ := H
      refine Li 1 rfl rfl rfl Try.underlying22 ti_3 rfl rfl dD fJ fK fun jA jB fL fM => (Lo 2 rfl rfl rfl ti_3 ag_3 rfl fL fM (aX.but X169 (Dj.eqv hU163 (Dl (Mj b3 (Dj.eqv hU bJ) dG) (Dom.dj (Or _) (Mj c7 (Dj.eqv hU bJ) dG))))) fun jC fN => ?_)
      obtain rfl := fN.int
      refine Lv ok 3 [(14, I aD), (15, I a3)] 5 rfl rfl (Ln _ rfl ?_)
      obtain ⟨fO, fP, H⟩ := jn_elim H
      refine W_join2 (S := Bool) (fun s ρ' w' => fO s ∧ ∃ (ρ : Env), ρ' = setAll [(0, sl a r c), (1, I fromx), (2, I to), (3, I limit), (9, I aC), (10, .slice aA (List.length (List.replicate (Int.toNat (ln r)) ((0 : Int)))) aB), (12, sl bR aH bS), (13, I aR), (14, I aD), (58, sl cB aI cC), (59, I (ln aI)), (60, I aD), (73, .bool s)] ρ ∧ bL = w') ?_ ?_
      ·refine Wg (Lv ok 0 [(65, I a3), (66, .bool (decide (a3 > 0))), (67, .bool (decide (a3 > 0)))] 3 rfl rfl ?_)
       refine LP_split 67 (decide (a3 > 0)) rfl (fun cG => ?_) (fun cG => ?_)
       ·have H := H.1 cG
        refine Lv ok 3 [(68, .slice aA (List.length (List.replicate (Int.toNat (ln r)) ((0 : Int)))) aB), (69, I aD)] 5 rfl rfl ?_
        obtain ⟨cH, fQ, fR, H⟩ := H
        refine Li 5 rfl rfl rfl Try.underlying22 ti_3 rfl rfl bM.readf fQ fR fun jD jE fS fT => (Lo 6 rfl rfl rfl ti_3 ag_3 rfl fS fT bN fun jF fU => ?_)
        obtain rfl := fU.int
        refine Lv ok 7 [(72, .bool (decide (cH < 0))), (73, .bool (decide (cH < 0)))] 9 rfl rfl ?_
        exact Ln _ rfl ⟨decide (cH < 0), H, _, Ee ⟨rfl, rfl, rfl, rfl, rfl, rfl, rfl, rfl, rfl, rfl, rfl, rfl, rfl, trivial⟩, rfl⟩
       have H := H.2 cG
       refine Lv ok 3 [(68, undef), (69, undef), (70, undef), (71, undef), (72, undef), (73, .bool false)] 9 rfl rfl ?_
       exact Ln _ rfl ⟨false, H, _, Ee ⟨rfl, rfl, rfl, rfl, rfl, rfl, rfl, rfl, rfl, rfl, rfl, rfl, rfl, trivial⟩, rfl⟩
      rintro fV _ _ ⟨H, ρ, rfl, rfl⟩
      subst fP
      refine Wc (fV) rfl (fun cI => ?_) (fun cI => ?_)
      ·have H := H.1 cI
       refine Wq (Wg (Lv ok 0 [(74, .slice aA (List.length (List.replicate (Int.toNat (ln r)) ((0 : Int)))) aB), (75, I aD), (76, I aR)] 3 rfl rfl ?_))
       obtain ⟨fW, fX, H⟩ := H
       refine LP_indexw (v := .slice aA (List.length (List.replicate (Int.toNat (ln r)) ((0 : Int)))) aB) 3 rfl rfl rfl Try.underlying22 ti_3 rfl rfl bM fW fX fun jG fY => (LP_set 4 rfl rfl rfl rfl rfl fY (Le.refl emp) ⟨_, rfl, rfl⟩ bN fun fZ jH f0 dH cJ dI => (Ln _ rfl (Wg (Lv ok 0 [(78, sl bR aH bS), (79, I aD)] 2 rfl rfl (LP_lit (α := Int) (g := emp) 2 (vs := [I aD]) (xs := [aD]) rfl rfl rfl Try.underlying22 ti_3 rfl rfl ⟨⟨_, rfl, rfl⟩, trivial⟩ rfl rfl fun jI jJ jK a4 dJ f1 jL => ?_)))))
       obtain ⟨jM, jN, rfl⟩ := dJ.shape
       obtain ⟨jO, H⟩ := H
       refine LP_appendT (α := Int) 3 rfl rfl rfl Try.underlying22 ti_3 rfl rfl rfl bO ((bP.but cJ bQ.symm).ext a4) dJ.readf f1 (by first | omega | (simp only [ln] at *; omega)) (by first | omega | (simp only [ln] at *; omega)) fun f2 jP jQ dK f3 dL dM => ?_
       obtain ⟨dN, dO, rfl⟩ := dK.shape
       refine Lv ok 4 [(12, .slice dN (List.length (aH ++ ([aD]))) dO)] 5 rfl rfl (Ln _ rfl ?_)
       have dP := (Mj (dI _) bQ.symm bP).symm
       exact ⟨(List.set bK (Int.toNat aD) aR, aH ++ ([aD])), H, _, fZ, .slice dN (List.length (aH ++ ([aD]))) dO, f2, Ee ⟨rfl, rfl, rfl, rfl, rfl, rfl, rfl, rfl, rfl, rfl, rfl, trivial⟩, ((((Br U199 _).step cJ (Oe D201 _)).stepx a4).step dL (Oe D202 _)), f0, ((dH.ext a4).but dL dP), (Mt (Oe D201 _) (dI _) (Nat.le_refl _)), dK, f3, (Mt (Oe D202 _) dM (Nat.le_trans cJ.size a4.size)), (Mj dM dP (dH.ext a4))⟩
      have H := H.2 cI
      exact Wk ⟨(bK, aH), H, _, aJ, sl bR aH bS, aK, Ee ⟨rfl, rfl, rfl, rfl, rfl, rfl, rfl, rfl, rfl, rfl, rfl, trivial⟩, (Br _ _), bM, bN, (Oe D201 _), bO, bP, (Oe D202 _), bQ⟩
     rintro ⟨f4, dQ⟩ _ jR ⟨H, ρ, aY, cF, aZ, rfl, HF⟩
     revert HF
     refine bb8 fun X206 f5 f6 f7 dR f8 f9 gA => ?_
     subst fI
     obtain ⟨gB, gC, rfl⟩ := dR.shape
     refine Wg (Lv ok 0 [(82, I (wr (aD + 1))), (60, I (wr (aD + 1)))] 2 rfl rfl (Ln _ rfl ?_))
     have cK : DomLe U162 aN.heap.size U199 := (DomLe.eqv hU200 (Mu (Mt (Oe (Or _) _) dE (Nat.le_refl _)) (Mt (Oe (Or _) _) dF (Nat.le_refl _))))
     exact ⟨(f4, dQ, wr (aD + 1)), ⟨H.1, _, aY, sl gB dQ gC, aZ, Ee ⟨rfl, rfl, rfl, rfl, rfl, rfl, rfl, rfl, rfl, rfl, rfl, trivial⟩, (((Br U162 _).step X169 (Oe (Or _) _)).step X206 cK), f5, f6, (Mt cK f7 X169.size), dR, f8, (Mt cK f9 X169.size), gA⟩, H.2⟩
    have H := H.2 cE
    refine W_exit ?_
    refine (if_pos rfl).mpr ?_
    have cL : DomLe U bF.heap.size U162 := (DomLe.eqv hU163 (Mu (Mt (Oe (Or _) _) b3 (Nat.le_refl _)) (Mt (Mt (Oe (Or _) _) c7 (Nat.le_refl _)) (Oe (Or _) _) (Nat.le_refl _))))
    exact ⟨(bK, aH), ⟨H.1, _, aJ, sl bR aH bS, aK, Ee ⟨rfl, rfl, rfl, rfl, rfl, rfl, rfl, trivial⟩, (((Br U _).step X78 (Oe (Or _) _)).step X169 cL), bM, bN, (Mt cL dE X78.size), bO, bP, (Mt cL dF X78.size), bQ⟩, H.2⟩
   have H := H.2 cA
   refine W_exit ?_
   refine (if_pos rfl).mpr ?_
   refine Wq (Wq (Wg (Lv ok 0 [(83, .slice aA (List.length (List.replicate (Int.toNat (ln r)) ((0 : Int)))) aB), (84, I to)] 2 rfl rfl ?_)))
   obtain ⟨dS, gD, gE, H⟩ := H
   refine Li 2 rfl rfl rfl Try.underlying22 ti_3 rfl rfl aO.readf gD gE fun jS jT gF gG => (Lo 3 rfl rfl rfl ti_3 ag_3 rfl gF gG aQ fun jU gH => ?_)
   obtain rfl := gH.int
   refine Lv ok 4 [(87, .bool (decide (dS < 0)))] 5 rfl rfl (Ln _ rfl ?_)
   refine Wc (decide (dS < 0)) rfl (fun cM => ?_) (fun cM => ?_)
   ·have H := H.1 cM
    refine W_exit ?_
    refine (if_neg (by decide)).mpr ?_
    refine (if_pos rfl).mpr ?_
    have dT : Fresh w.heap.size aP := (DomLe.fresh bE (a2.mono X15.size) (Nat.le_trans X15.size x.size))
    exact ⟨(aC, bB), H, _, aF, Ee ⟨rfl, trivial⟩, (((((((Br hx _).step X15 (Oe (Or _) _)).stepx x).step X31 ((a2.mono X15.size).dom _)).step aV (dT.dom _)).stepx aW).step X78 (DomLe.eqv hU (Mu (((b0 _).fresh dT (Nat.le_trans (Nat.le_trans X15.size x.size) X31.size)).dom _) ((bG.mono (Nat.le_trans (Nat.le_trans (Nat.le_trans X15.size x.size) X31.size) aV.size)).dom _)))), a0, aX, (fun _ => bD _)⟩
   have H := H.2 cM
   refine Wk (Wq (Wg (Lv ok 0 [(88, I limit), (89, I aC), (90, I (wr (limit - aC))), (16, I (wr (limit - aC)))] 4 rfl rfl (Ln _ rfl (Wq (Wq (Wg (Lv ok 0 [(91, I to), (17, I to)] 2 rfl rfl (Ln _ rfl ?_)))))))))
   refine W_block ?_
   obtain ⟨J300, gI, Hx302, H⟩ := H
   refine W_loop (S := Int × Int) (fun s ρ' w' => J300 s.1 s.2 ∧ ∃ (ρ : Env), ρ' = setAll [(0, sl a r c), (1, I fromx), (2, I to), (3, I limit), (9, I aC), (10, .slice aA (List.length (List.replicate (Int.toNat (ln r)) ((0 : Int)))) aB), (16, I s.1), (17, I s.2)] ρ ∧ aN = w') (fun s => gI s.1 s.2) (wr (limit - aC), to) ⟨Hx302, _, Ee ⟨rfl, rfl, rfl, rfl, rfl, rfl, rfl, rfl, trivial⟩, rfl⟩ ?_
   rintro ⟨step, aS⟩ _ _ ⟨Hi, ρ, rfl, rfl⟩
   have H := H step aS Hi
   refine Wq (Wq (Wg (Lv ok 0 [(92, I aS), (93, I fromx), (94, .bool (aS != fromx))] 3 rfl rfl (Ln _ rfl ?_))))
   refine Wc (aS != fromx) rfl (fun cN => ?_) (fun cN => ?_)
   ·have H := H.1 cN
    refine Wk (Wq (W_block (Wg (Lv ok 0 [(99, I step), (100, sl a r c), (101, .slice aA (List.length (List.replicate (Int.toNat (ln r)) ((0 : Int)))) aB), (102, I aS)] 4 rfl rfl ?_))))
    obtain ⟨jV, gJ, gK, H⟩ := H
    refine Li 4 rfl rfl rfl Try.underlying22 ti_3 rfl rfl aO.readf gJ gK fun jW jX gL gM => (Lo 5 rfl rfl rfl ti_3 ag_3 rfl gL gM aQ fun jY gN => ?_)
    obtain rfl := gN.int
    obtain ⟨jZ, gO, gP, H⟩ := H
    refine Li 6 rfl rfl rfl Try.underlying23 ti_22 rfl rfl a0.readf gO gP fun j0 j1 gQ gR => (Lo 7 rfl rfl rfl ti_22 ag_22 rfl gQ gR aX fun j2 gS => ?_)
    have dU := gS.slice
    obtain ⟨j3, j4, rfl⟩ := dU.shape
    refine Lv ok 8 [(107, I aS)] 9 rfl rfl ?_
    obtain ⟨cO, gT, gU, H⟩ := H
    refine Li 9 rfl rfl rfl Try.underlying22 ti_3 rfl rfl dU gT gU fun j5 j6 gV gW => (Lo 10 rfl rfl rfl ti_3 ag_3 rfl gV gW aX fun j7 gX => ?_)
    obtain rfl := gX.int
    refine Lv ok 11 [(110, I (mn step cO)), (16, I (mn step cO))] 13 rfl rfl (Ln _ rfl (Wg (Lv ok 0 [(95, .slice aA (List.length (List.replicate (Int.toNat (ln r)) ((0 : Int)))) aB), (96, I aS)] 2 rfl rfl ?_)))
    obtain ⟨dV, gY, gZ, H⟩ := H
    refine Li 2 rfl rfl rfl Try.underlying22 ti_3 rfl rfl aO.readf gY gZ fun j8 j9 g0 g1 => (Lo 3 rfl rfl rfl ti_3 ag_3 rfl g0 g1 aQ fun kA g2 => ?_)
    obtain rfl := g2.int
    refine Lv ok 4 [(17, I dV)] 5 rfl rfl ?_
    exact Ln _ rfl ⟨(mn step cO, dV), ⟨H.1, _, Ee ⟨rfl, rfl, rfl, rfl, rfl, rfl, rfl, rfl, trivial⟩, rfl⟩, H.2⟩
   have H := H.2 cN
   refine W_exit ?_
   refine (if_pos rfl).mpr ?_
   refine Wq (Wq (Wg (Lv ok 0 [(111, I to), (18, I to)] 2 rfl rfl (Ln _ rfl (W_block ?_)))))
   obtain ⟨J354, g3, Hx356, H⟩ := H
   refine W_loop (S := (List (List Int)) × Int) (fun s ρ' w' => J354 s.1 s.2 ∧ ∃ (ρ : Env) (aT : PH), ρ' = setAll [(0, sl a r c), (1, I fromx), (2, I to), (3, I limit), (9, I aC), (10, .slice aA (List.length (List.replicate (Int.toNat (ln r)) ((0 : Int)))) aB), (16, I step), (18, I s.2)] ρ ∧ But aF aN w' ∧ OD aT (sl a r c) s.1 ∧ Sub aT w' ∧ (∀ n, DomLe hx n aT) ∧ (∀ n, DomLe aF n aT)) (fun s => g3 s.1 s.2) (bB, to) ⟨Hx356, _, aF, Ee ⟨rfl, rfl, rfl, rfl, rfl, rfl, rfl, rfl, trivial⟩, (Br _ _), a0, aX, (fun _ => bD _), (fun _ => DomLe.refl _ _)⟩ ?_
   rintro ⟨cP, aE⟩ _ kB ⟨Hi, ρ, aT, rfl, HF⟩
   revert HF
   refine bb5 fun X353 dW bT dX cQ => ?_
   have H := H cP aE Hi
   refine Wq (Wq (Wg (Lv ok 0 [(112, I aE), (113, I fromx), (114, .bool (aE != fromx))] 3 rfl rfl (Ln _ rfl ?_))))
   refine Wc (aE != fromx) rfl (fun cR => ?_) (fun cR => ?_)
   ·have H := H.1 cR
    refine Wk (Wq (W_block (Wq (Wg (Lv ok 0 [(119, sl a r c), (120, .slice aA (List.length (List.replicate (Int.toNat (ln r)) ((0 : Int)))) aB), (121, I aE)] 3 rfl rfl ?_)))))
    obtain ⟨g4, g5, g6, H⟩ := H
    refine Li 3 rfl rfl rfl Try.underlying22 ti_3 rfl rfl aO.readf g5 g6 fun kC kD g7 g8 => ?_
    have dY := (Mj b3 (Dj.eqv hU bJ) (b7.ext aW)).symm
    have cS := (aQ.but X353 dY)
    refine Lo 4 rfl rfl rfl ti_3 ag_3 rfl g7 g8 cS fun kE g9 => ?_
    obtain rfl := g9.int
    obtain ⟨bU, hA, hB, H⟩ := H
    refine LP_indexb (v := sl a r c) 5 rfl rfl rfl Try.underlying23 ti_22 rfl rfl dW hA hB fun kF u hC rest hD bw => (LP_ldcell 6 rfl rfl rfl ti_22 ag_22 rfl hD bT ?_)
    have dZ := bw.od
    obtain ⟨d0, d1, rfl⟩ := dZ.shape
    have d2 := Sub.le bT bw.le
    have d3 : OS 3 hC emp (sl d0 bU d1) bU := OD.flat dZ
    refine Lv ok 7 [(126, I aE)] 8 rfl rfl ?_
    obtain ⟨d4, hE, hF, H⟩ := H
    refine Li 8 rfl rfl rfl Try.underlying22 ti_3 rfl rfl d3.readf hE hF fun kG kH hG hH => (Lo 9 rfl rfl rfl ti_3 ag_3 rfl hG hH d2 fun kI hI => ?_)
    obtain rfl := hI.int
    refine Lv ok 10 [(129, I step), (130, I (wr (d4 - step)))] 12 rfl rfl ?_
    obtain ⟨hJ, hK, H⟩ := H
    refine LP_indexw (v := sl d0 bU d1) 12 rfl rfl rfl Try.underlying22 ti_3 rfl rfl d3 hJ hK fun kJ hL => (LP_set 13 rfl rfl rfl rfl rfl hL (Le.refl emp) ⟨_, rfl, rfl⟩ d2 fun kK kL hM hN d5 hO => ?_)
    obtain ⟨kM, hP, dd⟩ := BwL.turn bw (OS.od hM) (Dom.of hO)
    have hQ := BwL.sub bw bT hN d5
    have d6 := BwL.but bw d5
    refine Ln _ rfl ?_
    refine W_open mix fun kN cT => ?_
    refine AP_game 11 [[], [], [0, 1], [0, 1, 2], [], [], [4, 5], [4, 5, 6], [0, 1, 2, 3, 4, 5, 6, 7], [0, 1, 2, 3, 4, 5, 6, 7, 8], [], [0, 1, 2, 3, 4, 5, 6, 7, 8, 9, 10], [0, 1, 2, 3, 4, 5, 6, 7, 8, 9, 10, 11], [0, 1, 2, 3, 4, 5, 6, 7, 8, 9, 10, 11, 12]] [[(0, none)], [(18, none)], [(132, some 0), (133, some 1)], [(134, some 2)], [(10, none)], [(18, none)], [(136, some 4), (137, some 5)], [(138, some 6)], [(135, some 3), (139, some 7)], [(140, some 8)], [(16, none)]] [(0, none), (1, none), (2, none), (3, none), (9, none), (10, none), (16, none), (18, none), (135, some 3), (139, some 7), (141, some 9), (142, some 10)] [(0, false), (1, false), (2, false), (3, false), (4, false), (5, false), (6, false), (7, false), (8, false), (9, false), (10, false)] (by kernel_rfl) (by kernel_rfl) ?_
    refine GS_ev ok [(0, sl a r c)] (sl a r c) rfl rfl (fun _ h => h) (fun _ => rfl) ?_
    refine GS_ev ok [(18, I aE)] (I aE) rfl rfl (fun _ h => h) (fun _ => rfl) ?_
    obtain ⟨aU, hR, hS, H⟩ := H
    obtain ⟨d7, kO, hT, hV, hW, hX, a5⟩ := run_indexb Try.underlying23 ti_22 hP _ hR hS
    refine GS_r0 [(132, sl a r c), (133, I aE)] (.pointer (some d7)) rfl rfl (fun _ h => h) (fun _ _ => ex_index rfl rfl rfl (hW _)) ?_
    have d8 := a5.od
    obtain ⟨a6, a7, rfl⟩ := d8.shape
    have cU := (hQ.ext cT)
    have d9 := Sub.le cU a5.le
    have eA : OS 3 hT emp (sl a6 aU a7) aU := OD.flat d8
    refine GS_r1 [(134, .pointer (some d7))] (sl a6 aU a7) rfl rfl (fun _ h => h) (fun _ w e => ex_ldcell rfl ti_22 ag_22 rfl hX e) cU ?_
    refine GS_ev ok [(10, .slice aA (List.length (List.replicate (Int.toNat (ln r)) ((0 : Int)))) aB)] (.slice aA (List.length (List.replicate (Int.toNat (ln r)) ((0 : Int)))) aB) rfl rfl (fun _ h => h) (fun _ => rfl) ?_
    refine GS_ev ok [(18, I aE)] (I aE) rfl rfl (fun _ h => h) (fun _ => rfl) ?_
    obtain ⟨a8, hY, hZ, H⟩ := H
    obtain ⟨eB, kP, h0, h1, h2⟩ := run_indexAt Try.underlying22 ti_3 aO.readf .i64 _ a8 hY hZ
    refine GS_r0 [(136, .slice aA (List.length (List.replicate (Int.toNat (ln r)) ((0 : Int)))) aB), (137, I aE)] (.pointer (some eB)) rfl rfl (fun _ h => h) (fun _ _ => ex_index rfl rfl rfl (h0 _)) ?_
    obtain ⟨kQ, h3, h4⟩ := run_loadAt ti_3 ag_3 h1 h2
    obtain rfl := h4.int
    have eC := (Mj (cQ _) dY aQ)
    have eD := ((cS.but d6 eC).ext cT)
    refine GS_r1 [(138, .pointer (some eB))] (I a8) rfl rfl (fun _ h => h) (fun _ w e => ex_load rfl rfl (h3 w e)) eD ?_
    obtain ⟨a9, h5, h6, H⟩ := H
    obtain ⟨eE, kR, h7, h8, h9⟩ := run_indexAt Try.underlying22 ti_3 eA.readf .i64 _ a9 h5 h6
    refine GS_r0 [(135, sl a6 aU a7), (139, I a8)] (.pointer (some eE)) rfl rfl (fun _ h => h) (fun _ _ => ex_index rfl rfl rfl (h7 _)) ?_
    obtain ⟨kS, iA, iB⟩ := run_loadAt ti_3 ag_3 h8 h9
    obtain rfl := iB.int
    refine GS_r1 [(140, .pointer (some eE))] (I a9) rfl rfl (fun _ h => h) (fun _ w e => ex_load rfl rfl (iA w e)) d9 ?_
    refine GS_ev ok [(16, I step)] (I step) rfl rfl (fun _ h => h) (fun _ => rfl) ?_
    intro kT bV ρ iC
    refine AP_forget [(0, sl a r c), (1, I fromx), (2, I to), (3, I limit), (9, I aC), (10, .slice aA (List.length (List.replicate (Int.toNat (ln r)) ((0 : Int)))) aB), (16, I step), (18, I aE), (135, sl a6 aU a7), (139, I a8), (141, I a9), (142, I step)] (by exact iC) fun ρ => ?_
    refine AP_tail 11 [[], [], [0, 1], [0, 1, 2], [], [], [4, 5], [4, 5, 6], [0, 1, 2, 3, 4, 5, 6, 7], [0, 1, 2, 3, 4, 5, 6, 7, 8], [], [0, 1, 2, 3, 4, 5, 6, 7, 8, 9, 10], [0, 1, 2, 3, 4, 5, 6, 7, 8, 9, 10, 11], [0, 1, 2, 3, 4, 5, 6, 7, 8, 9, 10, 11, 12]] (by kernel_rfl) ?_
    refine Lv ok 11 [(143, I (wr (a9 + step)))] 12 rfl rfl ?_
    obtain ⟨iD, iE, H⟩ := H
    refine LP_indexw (v := sl a6 aU a7) 12 rfl rfl rfl Try.underlying22 ti_3 rfl rfl eA iD iE fun kU iF => (LP_set 13 rfl rfl rfl rfl rfl iF (Le.refl emp) ⟨_, rfl, rfl⟩ (d9.ext bV) fun iG kV iH iI eF iJ => ?_)
    obtain ⟨kW, iK, eG⟩ := BwL.turn a5 (OS.od iH) (Dom.of iJ)
    have iL := BwL.sub a5 (cU.ext bV) iI eF
    have eH := BwL.but a5 eF
    refine Ln _ rfl (Wg (Lv ok 0 [(115, .slice aA (List.length (List.replicate (Int.toNat (ln r)) ((0 : Int)))) aB), (116, I aE)] 2 rfl rfl ?_))
    obtain ⟨eI, iM, iN, H⟩ := H
    refine Li 2 rfl rfl rfl Try.underlying22 ti_3 rfl rfl aO.readf iM iN fun kX kY iO iP => (Lo 3 rfl rfl rfl ti_3 ag_3 rfl iO iP ((eD.ext bV).but eH (Mj ((fun n => Oe dd n) _) eC cS)) fun kZ iQ => ?_)
    obtain rfl := iQ.int
    refine Lv ok 4 [(18, I eI)] 5 rfl rfl (Ln _ rfl ?_)
    have eJ : DomLe aF aN.heap.size aT := (Mt (Oe (Or _) _) (cQ _) (Nat.le_refl _))
    exact ⟨(List.set (List.set cP (Int.toNat g4) (List.set bU (Int.toNat aE) (wr (d4 - step)))) (Int.toNat aE) (List.set aU (Int.toNat a8) (wr (a9 + step))), eI), ⟨H.1, _, (un iG hV), Ee ⟨rfl, rfl, rfl, rfl, rfl, rfl, rfl, rfl, trivial⟩, (((((Br aF _).step X353 (Oe (Or _) _)).step d6 eJ).stepx (cT.trans bV)).step eH (Mt eJ ((fun n => Oe dd n) _) X353.size)), iK, iL, (fun _ => Mt (Mt (dX _) (((fun n => Oe dd n) _)) (Nat.le_refl _)) (((fun n => Oe eG n) _)) (Nat.le_refl _)), (fun _ => Mt (Mt (Mt (DomLe.refl _ _) ((cQ _)) (Nat.le_refl _)) (((fun n => Oe dd n) _)) (Nat.le_refl _)) (((fun n => Oe eG n) _)) (Nat.le_refl _))⟩, H.2⟩
   have H := H.2 cR
   refine W_exit ?_
   refine (if_pos rfl).mpr ?_
   refine Wg (Lv ok 0 [(145, I aC), (146, I step), (147, I (wr (aC + step))), (9, I (wr (aC + step)))] 4 rfl rfl (Ln _ rfl ?_))
   have eK : Fresh w.heap.size aP := (DomLe.fresh bE (a2.mono X15.size) (Nat.le_trans X15.size x.size))
   exact ⟨(cP, wr (aC + step)), ⟨H.1, _, aT, Ee ⟨rfl, rfl, rfl, rfl, rfl, trivial⟩, ((((((((Br hx _).step X15 (Oe (Or _) _)).stepx x).step X31 ((a2.mono X15.size).dom _)).step aV (eK.dom _)).stepx aW).step X78 (DomLe.eqv hU (Mu (((b0 _).fresh eK (Nat.le_trans (Nat.le_trans X15.size x.size) X31.size)).dom _) ((bG.mono (Nat.le_trans (Nat.le_trans (Nat.le_trans X15.size x.size) X31.size) aV.size)).dom _)))).step X353 (Mt (Oe (Or _) _) (bD _) (Nat.le_refl _))), dW, bT, (fun _ => dX _)⟩, H.2⟩
  have H := H.2 hc
  refine W_exit ?_
  refine (if_pos rfl).mpr ?_
  exact ⟨(aC, bB), H, _, aF, Ee ⟨rfl, trivial⟩, ((Br hx _).step X15 (Oe (Or _) _)), a0, bC, (fun _ => bD _)⟩
 rintro ⟨sent, k0⟩ _ wx ⟨H, ρ, bA, rfl, X6, o, iR, f⟩
 subst hk
 refine Wq (Wg (Lv ok 0 [(148, I sent), (8, I sent)] 2 rfl rfl (Ln _ rfl (W_ret ?_))))
 exact ⟨_, Ret_of [I sent] ⟨⟨rfl, rfl⟩, trivial⟩, _, _, _, H, rfl, (X.step X6 (Oe D _)), o, iR, (fun _ => f _)⟩

theorem slices_Clone_int_int_w (sx : List Int) (Q : (List Int) → Prop) (H : slices_Clone_int_int sx Q) (w : World) {vx : Value} {hx : PH} (r : RS hx vx sx) (ex : Sub hx w) :
  CallsTo Try.prog 101 #[vx] w fun v w' => ∃ aB aC aA, Q aB ∧ v = aC ∧ Ext w w' ∧ OS 3 aA emp aC aB ∧ Sub aA w' ∧ Fresh w.heap.size aA := by
 obtain ⟨a, c, rfl⟩ := r.shape
 refine enter (args := [sl a sx c]) 8 Try.func101 rfl rfl rfl ?_
 refine Wo [(0, sl a sx c)] ⟨rfl, trivial⟩ fun ρ => ?_
 have X := Br emp w
 refine Wq (Wg (Lv ok 0 [(2, .slice none 0 0)] 1 rfl rfl (Ln _ rfl (Wq (Wq (Wg (Lv ok 0 [(3, sl a sx c)] 1 rfl rfl (LP_val 1 _ rfl rfl (ex_eqnil rfl Try.underlying22 rfl rfl _) ?_))))))))
 have H := H _ (nil_of r)
 refine Ln _ rfl ?_
 refine Wc (Option.isNone a) rfl (fun hc => ?_) (fun hc => ?_)
 ·have H := H.1 hc
  refine Wq (Wg (Lv ok 0 [(2, .slice none 0 0)] 1 rfl rfl (Ln _ rfl (W_ret ?_))))
  exact ⟨_, Ret_of [.slice none 0 0] ⟨⟨rfl, rfl⟩, trivial⟩, _, _, emp, H, rfl, X.ext, OS.nil, (emp_sub _), (emp_fresh _)⟩
 have H := H.2 hc
 refine Wk (Wq (Wg (LP_lit (α := Int) (g := emp) 0 (vs := []) (xs := []) rfl rfl rfl Try.underlying22 ti_3 rfl rfl trivial rfl rfl fun aK aL wx x o aH f => ?_)))
 obtain ⟨aM, aN, rfl⟩ := o.shape
 refine Lv ok 1 [(6, sl a sx c)] 2 rfl rfl ?_
 obtain ⟨hb, H⟩ := H
 refine LP_appendf (α := Int) 2 rfl rfl rfl Try.underlying22 ti_3 rfl rfl rfl o aH r (ex.ext x) (by first | omega | (simp only [ln] at *; omega)) (by first | omega | (simp only [ln] at *; omega)) fun aO aP aQ aD aI y dm => ?_
 obtain ⟨aE, aF, rfl⟩ := aD.shape
 refine Lv ok 3 [(2, .slice aE (List.length ((([] : List Int)) ++ sx)) aF)] 4 rfl rfl (Ln _ rfl (W_ret ?_))
 have aG := f.mono X.size
 have X16 := (X.stepx x)
 have aJ := dm.fresh aG X16.size
 exact ⟨_, Ret_of [.slice aE (List.length ((([] : List Int)) ++ sx)) aF] ⟨⟨rfl, rfl⟩, trivial⟩, _, _, _, H, rfl, (X16.step y (aG.dom _)).ext, aD, aI, aJ⟩

theorem impl_copyMatrix_w (x : List (List Int)) (Q : (List (List Int)) → Prop) (H : impl_copyMatrix x Q) (w : World) {vx : Value} {hx : PH} (r : RS hx vx x) (ex : Sub hx w) :
  CallsTo Try.prog 79 #[vx] w fun v w' => ∃ aF aG aH, Q aF ∧ v = aG ∧ Ext w w' ∧ OD aH aG aF ∧ Sub aH w' ∧ Fresh w.heap.size aH ∧ CanV aG aF := by
 obtain ⟨a, c, rfl⟩ := r.shape
 refine enter (args := [sl a x c]) 23 Try.func79 rfl rfl rfl ?_
 refine Wo [(0, sl a x c)] ⟨rfl, trivial⟩ fun ρ => ?_
 have X := Br emp w
 refine Wq (Wg (Lv ok 0 [(2, .slice none 0 0)] 1 rfl rfl (Ln _ rfl (Wq (Wg (Lv ok 0 [(6, sl a x c), (7, I (ln x))] 2 rfl rfl ?_))))))
 obtain ⟨hn, hb, H⟩ := H
 refine LP_maked (β := Int) 2 rfl rfl rfl Try.underlying23 ti_22 rfl hn (by first | omega | (simp only [ln] at *; omega)) (by first | omega | (simp only [ln] at *; omega)) fun aD a7 wx aJ o aW f => ?_
 obtain ⟨aB, aC, rfl⟩ := o.shape
 refine Lv ok 3 [(3, .slice aB (List.length (List.replicate (Int.toNat (ln x)) (([] : List Int)))) aC)] 4 rfl rfl (Ln _ rfl (Wq (Wq (Wg (Lv ok 0 [(9, sl a x c), (10, I (ln x)), (11, I 0)] 3 rfl rfl (Ln _ rfl (W_block ?_)))))))
 obtain ⟨hz, H⟩ := H
 obtain ⟨J, m, Hx, H⟩ := H
 refine W_loop (S := (List (List Int)) × Int) (fun s ρ' w' => J s.1 s.2 ∧ ∃ (ρ : Env) (aE : PH), ρ' = setAll [(3, .slice aB (List.length (List.replicate (Int.toNat (ln x)) (([] : List Int)))) aC), (9, sl a x c), (10, I (ln x)), (11, I s.2)] ρ ∧ But aD wx w' ∧ OD aE (.slice aB (List.length (List.replicate (Int.toNat (ln x)) (([] : List Int)))) aC) s.1 ∧ Sub aE w' ∧ DomLe aD wx.heap.size aE ∧ CanV (.slice aB (List.length (List.replicate (Int.toNat (ln x)) (([] : List Int)))) aC) s.1) (fun s => m s.1 s.2) (List.replicate (Int.toNat (ln x)) (([] : List Int)), 0) ⟨Hx, _, aD, Ee ⟨rfl, rfl, rfl, rfl, trivial⟩, (Br _ _), o, aW, (Oe (Or _) _), (can_of o.readf hz)⟩ ?_
 rintro ⟨out, aA⟩ _ aX ⟨Hi, ρ, aE, rfl, HF⟩
 revert HF
 refine bb5 fun X14 aK aI aL cn => ?_
 have H := H out aA Hi
 refine Wq (Wg (Lv ok 0 [(12, .bool (decide (aA < (ln x))))] 1 rfl rfl (Ln _ rfl (Wq ?_))))
 refine Wc (decide (aA < (ln x))) rfl (fun hc => ?_) (fun hc => ?_)
 ·have H := H.1 hc
  refine Wk (Wq (W_block (Wq (Wg (Lv ok 0 [(13, I aA)] 1 rfl rfl ?_)))))
  obtain ⟨aM, hi, aY, H⟩ := H
  refine Li 1 rfl rfl rfl Try.underlying23 ti_22 rfl rfl r hi aY fun a8 cs aZ d => ?_
  have aN := ((ex.ext aJ).but X14 (Df ex f).symm)
  refine Lo 2 rfl rfl rfl ti_22 ag_22 rfl aZ d aN fun a9 a0 => ?_
  have aO := a0.slice
  obtain ⟨aP, aQ, rfl⟩ := aO.shape
  refine Lv ok 3 [(4, I aA), (5, sl aP aM aQ)] 5 rfl rfl (Ln _ rfl (Wg (Lv ok 0 [(16, .slice aB (List.length (List.replicate (Int.toNat (ln x)) (([] : List Int)))) aC), (17, I aA), (18, sl aP aM aQ)] 3 rfl rfl (Lc 3 rfl rfl rfl cal_101 rfl (slices_Clone_int_int_w _ _ H aX aO aN) ?_))))
  rintro _ bA ⟨aR, bB, bC, H, rfl, aS, aT, a1, aU⟩
  obtain ⟨bD, bE, rfl⟩ := aT.shape
  obtain ⟨a2, hl, H⟩ := H
  refine LP_indexd (v := .slice aB (List.length (List.replicate (Int.toNat (ln x)) (([] : List Int)))) aC) 4 rfl rfl rfl Try.underlying23 ti_22 rfl rfl aK a2 hl fun bF wa => (LP_setD (y := aR) 5 rfl rfl rfl rfl rfl wa (OD.rvo (OS.od aT)) (aI.ext aS) a1 (Df aI aU) fun a3 hw bG a4 a5 y dh dq bH => (Ln _ rfl (Wg (Lv ok 0 [(21, I (wr (aA + 1))), (11, I (wr (aA + 1)))] 2 rfl rfl ?_))))
  refine Ln _ rfl ?_
  have dl : DomLe aD wx.heap.size aE := (Mt (Oe (Or _) _) aL (Nat.le_refl _))
  exact ⟨(List.set out (Int.toNat aA) aR, wr (aA + 1)), ⟨H.1, _, a3, Ee ⟨rfl, rfl, rfl, rfl, trivial⟩, ((((Br aD _).step X14 (Oe (Or _) _)).stepx aS).step (But.dom y dh) dl), a4, a5, (Mt (Mu dl ((aU.mono X14.size).dom _)) (Oe dq _) (Nat.le_refl _)), (CanV.len (by simp) cn)⟩, H.2⟩
 have H := H.2 hc
 refine W_exit ?_
 refine (if_pos rfl).mpr ?_
 refine Wq (Wg (Lv ok 0 [(22, .slice aB (List.length (List.replicate (Int.toNat (ln x)) (([] : List Int)))) aC), (2, .slice aB (List.length (List.replicate (Int.toNat (ln x)) (([] : List Int)))) aC)] 2 rfl rfl (Ln _ rfl (W_ret ?_))))
 have aV := f.mono X.size
 have X47 := (X.stepx aJ)
 have a6 := DomLe.fresh aL aV X47.size
 exact ⟨_, Ret_of [.slice aB (List.length (List.replicate (Int.toNat (ln x)) (([] : List Int)))) aC] ⟨⟨rfl, rfl⟩, trivial⟩, _, _, _, H, rfl, (X47.step X14 (aV.dom _)).ext, aK, aI, a6, cn⟩

theorem impl_restore_w (t : Transport) (x : List (List Int)) (aF : List (List Int)) (fixed : Int) (Q : (List (List Int)) → Prop) (H : impl_restore t x aF fixed Q) (w : World) {vx : Value} {hx : PH} (r : RS hx vx t.Rows) (ex : Sub hx w) {bN : Value} {bO : PH} (cT : RS bO bN t.Cols) (eG : Sub bO w) {bP : Value} {bQ : PH} (cU : RS bQ bP t.Lo) (eH : Sub bQ w) {bR : Value} {bS : PH} (bT : RS bS bR t.Hi) (bU : Sub bS w) {bV : Value} {bW : PH} (bX : RS bW bV x) (cV : Sub bW w) {bY : Value} {bZ : PH} (b0 : RS bZ bY aF) (b1 : Sub bZ w) :
  CallsTo Try.prog 91 #[.agg #[vx, bN, bP, bR], bV, bY, I fixed] w fun v w' => ∃ a2 a3 a4, Q a2 ∧ v = a3 ∧ Ext w w' ∧ OD a4 a3 a2 ∧ Sub a4 w' ∧ Fresh w.heap.size a4 ∧ CanV a3 a2 := by
 obtain ⟨a, c, rfl⟩ := r.shape
 obtain ⟨aW, aX, rfl⟩ := cT.shape
 obtain ⟨a5, a6, rfl⟩ := cU.shape
 obtain ⟨aP, aQ, rfl⟩ := bT.shape
 obtain ⟨a7, a8, rfl⟩ := bX.shape
 obtain ⟨aI, aJ, rfl⟩ := b0.shape
 refine enter (args := [.agg #[sl a t.Rows c, sl aW t.Cols aX, sl a5 t.Lo a6, sl aP t.Hi aQ], sl a7 x a8, sl aI aF aJ, I fixed]) 69 Try.func91 rfl rfl rfl ?_
 refine Wo [(0, .agg #[sl a t.Rows c, sl aW t.Cols aX, sl a5 t.Lo a6, sl aP t.Hi aQ]), (1, sl a7 x a8), (2, sl aI aF aJ), (3, I fixed)] ⟨rfl, rfl, rfl, rfl, trivial⟩ fun ρ => ?_
 have X := Br emp w
 refine Wq (Wg (Ly 0 (cs := [sl a t.Rows c, sl aW t.Cols aX, sl a5 t.Lo a6, sl aP t.Hi aQ]) rfl rfl rfl rfl rfl fun b wx cW aY f => (Lv ok 1 [(8, .slice none 0 0)] 2 rfl rfl (Ln _ rfl (Wq ?_)))))
 refine W_quiet mix (by kernel_rfl) ?_
 refine QP_ev ok 0 [(14, pb b)] 1 rfl rfl ?_
 refine QP_ldbox 1 (v := sl a t.Rows c) rfl rfl rfl ti_22 ag_22 (fun _ => rfl) rfl aY rfl rfl ?_
 refine QP_ev ok 2 [(16, I (ln t.Rows)), (17, .pointer (some ⟨b, 1, none⟩))] 4 rfl rfl ?_
 refine QP_ldbox 4 (v := sl aW t.Cols aX) rfl rfl rfl ti_22 ag_22 (fun _ => rfl) rfl aY rfl rfl ?_
 refine QP_ev ok 5 [(19, I (ln t.Cols)), (9, I (ln t.Rows)), (10, I (ln t.Cols))] 8 rfl rfl ?_
 refine QP_end _ rfl fun cX a9 => ?_
 refine Wq (Wg (Lv ok 0 [(20, sl a7 x a8)] 1 rfl rfl ?_))
 have xc := (cW.trans a9)
 refine Lc 1 rfl rfl rfl cal_79 rfl (impl_copyMatrix_w _ _ H cX bX (cV.ext xc)) ?_
 rintro _ bA ⟨aB, eI, aR, H, rfl, aK, o, cY, aS, cn⟩
 obtain ⟨aD, aE, rfl⟩ := o.shape
 refine Lv ok 2 [(11, sl aD aB aE)] 3 rfl rfl (Ln _ rfl (Wq (Wq (Wg (Lv ok 0 [(22, sl aD aB aE), (23, I (ln aB)), (24, I 0)] 3 rfl rfl (Ln _ rfl (W_block ?_)))))))
 obtain ⟨J, m, Hx, H⟩ := H
 refine W_loop (S := (List (List Int)) × Int) (fun s ρ' w' => J s.1 s.2 ∧ ∃ (ρ : Env) (aG : PH), ρ' = setAll [(2, sl aI aF aJ), (3, I fixed), (4, pb b), (9, I (ln t.Rows)), (10, I (ln t.Cols)), (11, sl aD aB aE), (23, I (ln aB)), (24, I s.2)] ρ ∧ But aR bA w' ∧ OD aG (sl aD aB aE) s.1 ∧ Sub aG w' ∧ DomLe aR bA.heap.size aG ∧ CanV (sl aD aB aE) s.1) (fun s => m s.1 s.2) (aB, 0) ⟨Hx, _, aR, Ee ⟨rfl, rfl, rfl, rfl, rfl, rfl, rfl, rfl, trivial⟩, (Br _ _), o, cY, (Oe (Or _) _), cn⟩ ?_
 rintro ⟨out, aA⟩ _ bB ⟨Hi, ρ, aG, rfl, HF⟩
 revert HF
 refine bb5 fun X54 bC bD aT b2 => ?_
 have H := H out aA Hi
 refine Wq (Wg (Lv ok 0 [(25, .bool (decide (aA < (ln aB))))] 1 rfl rfl (Ln _ rfl (Wq ?_))))
 refine Wc (decide (aA < (ln aB))) rfl (fun hc => ?_) (fun hc => ?_)
 ·have H := H.1 hc
  refine Wk (Wq (W_block (Wq (Wg (Lv ok 0 [(26, I aA), (12, I aA)] 2 rfl rfl (Ln _ rfl (Wq (Wg (Lv ok 0 [(27, sl aD aB aE), (28, I aA)] 2 rfl rfl ?_)))))))))
  obtain ⟨aL, hi, cZ, H⟩ := H
  refine Li 2 rfl rfl rfl Try.underlying23 ti_22 rfl rfl bC.readf hi cZ fun eJ cs c0 d => (Lo 3 rfl rfl rfl ti_22 ag_22 rfl c0 d bD fun eK c1 => ?_)
  have c2 := c1.slice
  obtain ⟨eL, eM, rfl⟩ := c2.shape
  refine Lv ok 4 [(31, I (ln aL)), (32, I 0)] 6 rfl rfl (Ln _ rfl (W_block ?_))
  obtain ⟨J74, c3, Hx76, H⟩ := H
  refine W_loop (S := (List (List Int)) × Int) (fun s ρ' w' => J74 s.1 s.2 ∧ ∃ (ρ : Env) (aH : PH), ρ' = setAll [(2, sl aI aF aJ), (3, I fixed), (4, pb b), (9, I (ln t.Rows)), (10, I (ln t.Cols)), (11, sl aD aB aE), (12, I aA), (23, I (ln aB)), (24, I aA), (31, I (ln aL)), (32, I s.2)] ρ ∧ But aG bB w' ∧ OD aH (sl aD aB aE) s.1 ∧ Sub aH w' ∧ DomLe aG bB.heap.size aH ∧ CanV (sl aD aB aE) s.1) (fun s => c3 s.1 s.2) (out, 0) ⟨Hx76, _, aG, Ee ⟨rfl, rfl, rfl, rfl, rfl, rfl, rfl, rfl, rfl, rfl, rfl, trivial⟩, (Br _ _), bC, bD, (Oe (Or _) _), b2⟩ ?_
  rintro ⟨aZ, aC⟩ _ b3 ⟨Hi, ρ, aH, rfl, HF⟩
  revert HF
  refine bb5 fun X73 bE bF b4 bG => ?_
  have H := H aZ aC Hi
  refine Wq (Wg (Lv ok 0 [(33, .bool (decide (aC < (ln aL))))] 1 rfl rfl (Ln _ rfl (Wq ?_))))
  refine Wc (decide (aC < (ln aL))) rfl (fun bH => ?_) (fun bH => ?_)
  ·have H := H.1 bH
   refine Wk ?_
   have b5 := (xc.trans aK)
   have dj := (Df (ex.ext xc) aS).symm
   have b6 := (bU.ext xc)
   have b7 := (Df b6 aS).symm
   have b8 := (b1.ext xc)
   have b9 := (Df b8 aS).symm
   have cA := (aY.ext a9)
   have cB := (Df cA aS).symm
   obtain ⟨k, hk, H⟩ := jn_elim H
   refine W_join2 (S := (List (List Int))) (fun s ρ' w' => k s ∧ ∃ (ρ : Env) (aU : PH), ρ' = setAll [(2, sl aI aF aJ), (3, I fixed), (4, pb b), (9, I (ln t.Rows)), (10, I (ln t.Cols)), (11, sl aD aB aE), (12, I aA), (23, I (ln aB)), (24, I aA), (31, I (ln aL)), (32, I aC)] ρ ∧ But aH b3 w' ∧ OD aU (sl aD aB aE) s ∧ Sub aU w' ∧ DomLe aH b3.heap.size aU ∧ CanV (sl aD aB aE) s) ?_ ?_
   ·refine W_block (Wq (Wg (Lv ok 0 [(34, I aC), (13, I aC)] 2 rfl rfl (Ln _ rfl (Wq (Wg (Lv ok 0 [(35, I aA), (36, I (ln t.Cols)), (37, I (wr (aA * (ln t.Cols)))), (38, I aC), (39, I (wr ((wr (aA * (ln t.Cols))) + aC))), (40, I fixed), (41, .bool (decide ((wr ((wr (aA * (ln t.Cols))) + aC)) > fixed)))] 7 rfl rfl (Ln _ rfl ?_))))))))
    refine Wc (decide ((wr ((wr (aA * (ln t.Cols))) + aC)) > fixed)) rfl (fun bI => ?_) (fun bI => ?_)
    ·have H := H.1 bI
     refine W_open mix fun eN aV => ?_
     refine AP_game 23 [[], [], [0, 1], [0, 1, 2], [], [], [5], [], [5, 6, 7], [5, 6, 7, 8], [], [5, 6, 7, 8, 9, 10], [5, 6, 7, 8, 9, 10, 11], [], [], [13, 14], [13, 14, 15], [], [], [17, 18], [13, 14, 15, 16, 17, 18, 19], [13, 14, 15, 16, 17, 18, 19, 20], [5, 6, 7, 8, 9, 10, 11, 12, 13, 14, 15, 16, 17, 18, 19, 20, 21], [0, 1, 2, 3, 4, 5, 6, 7, 8, 9, 10, 11, 12, 13, 14, 15, 16, 17, 18, 19, 20, 21, 22], [0, 1, 2, 3, 4, 5, 6, 7, 8, 9, 10, 11, 12, 13, 14, 15, 16, 17, 18, 19, 20, 21, 22, 23]] [[(11, none)], [(12, none)], [(42, some 0), (43, some 1)], [(44, some 2)], [(13, none)], [(4, none)], [(47, some 5)], [(12, none)], [(48, some 6), (49, some 7)], [(50, some 8)], [(13, none)], [(51, some 9), (52, some 10)], [(53, some 11)], [(2, none)], [(12, none)], [(55, some 13), (56, some 14)], [(57, some 15)], [(9, none)], [(13, none)], [(59, some 17), (60, some 18)], [(58, some 16), (61, some 19)], [(62, some 20)], [(54, some 12), (63, some 21)]] [(2, none), (3, none), (4, none), (9, none), (10, none), (11, none), (12, none), (23, none), (24, none), (31, none), (32, none), (45, some 3), (46, some 4), (64, some 22)] [(0, false), (1, false), (2, false), (3, false), (4, false), (5, false), (6, false), (7, false), (8, false), (9, false), (10, false), (11, false), (12, false), (13, false), (14, false), (15, false), (16, false), (17, false), (18, false), (19, false), (20, false), (21, false), (22, false)] (by kernel_rfl) (by kernel_rfl) ?_
     refine GS_ev ok [(11, sl aD aB aE)] (sl aD aB aE) rfl rfl (fun _ h => h) (fun _ => rfl) ?_
     refine GS_ev ok [(12, I aA)] (I aA) rfl rfl (fun _ h => h) (fun _ => rfl) ?_
     obtain ⟨aM, c4, c5, H⟩ := H
     obtain ⟨cC, u, c6, rest, c7, c8, bw⟩ := run_indexb Try.underlying23 ti_22 bE _ c4 c5
     refine GS_r0 [(42, sl aD aB aE), (43, I aA)] (.pointer (some cC)) rfl rfl (fun _ h => h) (fun _ _ => ex_index rfl rfl rfl (c7 _)) ?_
     have cD := bw.od
     obtain ⟨a0, a1, rfl⟩ := cD.shape
     have bJ := (bF.ext aV)
     have c9 := Sub.le bJ bw.le
     have dA : OS 3 c6 emp (sl a0 aM a1) aM := OD.flat cD
     refine GS_r1 [(44, .pointer (some cC))] (sl a0 aM a1) rfl rfl (fun _ h => h) (fun _ w e => ex_ldcell rfl ti_22 ag_22 rfl c8 e) bJ ?_
     refine GS_ev ok [(13, I aC)] (I aC) rfl rfl (fun _ h => h) (fun _ => rfl) ?_
     refine GS_ev ok [(4, pb b)] (.pointer (some ⟨b, 3, none⟩)) rfl rfl (fun _ h => h) (fun _ => rfl) ?_
     refine GS_r1 [(47, .pointer (some ⟨b, 3, none⟩))] (sl aP t.Hi aQ) rfl rfl (fun _ h => h) (fun _ w e => ex_ldbox rfl ti_23 ag_23 (fun _ => rfl) rfl e rfl rfl) ((((aY.ext (a9.trans aK)).but X54 cB).but X73 (Mj aT cB (cA.ext aK))).ext aV) ?_
     refine GS_ev ok [(12, I aA)] (I aA) rfl rfl (fun _ h => h) (fun _ => rfl) ?_
     obtain ⟨bK, dB, dC, H⟩ := H
     obtain ⟨cE, eO, dD, dE, dF⟩ := run_indexAt Try.underlying23 ti_22 bT .i64 _ bK dB dC
     refine GS_r0 [(48, sl aP t.Hi aQ), (49, I aA)] (.pointer (some cE)) rfl rfl (fun _ h => h) (fun _ _ => ex_index rfl rfl rfl (dD _)) ?_
     obtain ⟨eP, dG, dH⟩ := run_loadAt ti_22 ag_22 dE dF
     have cF := dH.slice
     obtain ⟨cG, cH, rfl⟩ := cF.shape
     have cI := ((((bU.ext b5).but X54 b7).but X73 (Mj aT b7 (b6.ext aK))).ext aV)
     refine GS_r1 [(50, .pointer (some cE))] (sl cG bK cH) rfl rfl (fun _ h => h) (fun _ w e => ex_load rfl rfl (dG w e)) cI ?_
     refine GS_ev ok [(13, I aC)] (I aC) rfl rfl (fun _ h => h) (fun _ => rfl) ?_
     obtain ⟨aN, dI, dJ, H⟩ := H
     obtain ⟨cJ, eQ, dK, dL, dM⟩ := run_indexAt Try.underlying22 ti_3 cF .i64 _ aN dI dJ
     refine GS_r0 [(51, sl cG bK cH), (52, I aC)] (.pointer (some cJ)) rfl rfl (fun _ h => h) (fun _ _ => ex_index rfl rfl rfl (dK _)) ?_
     obtain ⟨eR, dN, dO⟩ := run_loadAt ti_3 ag_3 dL dM
     obtain rfl := dO.int
     refine GS_r1 [(53, .pointer (some cJ))] (I aN) rfl rfl (fun _ h => h) (fun _ w e => ex_load rfl rfl (dN w e)) cI ?_
     refine GS_ev ok [(2, sl aI aF aJ)] (sl aI aF aJ) rfl rfl (fun _ h => h) (fun _ => rfl) ?_
     refine GS_ev ok [(12, I aA)] (I aA) rfl rfl (fun _ h => h) (fun _ => rfl) ?_
     obtain ⟨bL, dP, dQ, H⟩ := H
     obtain ⟨cK, eS, dR, dS, dT⟩ := run_indexAt Try.underlying23 ti_22 b0 .i64 _ bL dP dQ
     refine GS_r0 [(55, sl aI aF aJ), (56, I aA)] (.pointer (some cK)) rfl rfl (fun _ h => h) (fun _ _ => ex_index rfl rfl rfl (dR _)) ?_
     obtain ⟨eT, dU, dV⟩ := run_loadAt ti_22 ag_22 dS dT
     have cL := dV.slice
     obtain ⟨cM, cN, rfl⟩ := cL.shape
     have cO := ((((b1.ext b5).but X54 b9).but X73 (Mj aT b9 (b8.ext aK))).ext aV)
     refine GS_r1 [(57, .pointer (some cK))] (sl cM bL cN) rfl rfl (fun _ h => h) (fun _ w e => ex_load rfl rfl (dU w e)) cO ?_
     refine GS_ev ok [(9, I (ln t.Rows))] (I (ln t.Rows)) rfl rfl (fun _ h => h) (fun _ => rfl) ?_
     refine GS_ev ok [(13, I aC)] (I aC) rfl rfl (fun _ h => h) (fun _ => rfl) ?_
     refine GS_ev ok [(59, I (ln t.Rows)), (60, I aC)] (I (wr ((ln t.Rows) + aC))) rfl rfl (fun _ h => h) (fun _ => rfl) ?_
     obtain ⟨aO, dW, dX, H⟩ := H
     obtain ⟨cP, eU, dY, dZ, d0⟩ := run_indexAt Try.underlying22 ti_3 cL .i64 _ aO dW dX
     refine GS_r0 [(58, sl cM bL cN), (61, I (wr ((ln t.Rows) + aC)))] (.pointer (some cP)) rfl rfl (fun _ h => h) (fun _ _ => ex_index rfl rfl rfl (dY _)) ?_
     obtain ⟨eV, d1, d2⟩ := run_loadAt ti_3 ag_3 dZ d0
     obtain rfl := d2.int
     refine GS_r1 [(62, .pointer (some cP))] (I aO) rfl rfl (fun _ h => h) (fun _ w e => ex_load rfl rfl (d1 w e)) cO ?_
     refine GS_ev ok [(54, I aN), (63, I aO)] (I (wr (aN - aO))) rfl rfl (fun _ h => h) (fun _ => rfl) ?_
     intro eW bM ρ hn
     refine AP_forget [(2, sl aI aF aJ), (3, I fixed), (4, pb b), (9, I (ln t.Rows)), (10, I (ln t.Cols)), (11, sl aD aB aE), (12, I aA), (23, I (ln aB)), (24, I aA), (31, I (ln aL)), (32, I aC), (45, sl a0 aM a1), (46, I aC), (64, I (wr (aN - aO)))] (by exact hn) fun ρ => ?_
     refine AP_tail 23 [[], [], [0, 1], [0, 1, 2], [], [], [5], [], [5, 6, 7], [5, 6, 7, 8], [], [5, 6, 7, 8, 9, 10], [5, 6, 7, 8, 9, 10, 11], [], [], [13, 14], [13, 14, 15], [], [], [17, 18], [13, 14, 15, 16, 17, 18, 19], [13, 14, 15, 16, 17, 18, 19, 20], [5, 6, 7, 8, 9, 10, 11, 12, 13, 14, 15, 16, 17, 18, 19, 20, 21], [0, 1, 2, 3, 4, 5, 6, 7, 8, 9, 10, 11, 12, 13, 14, 15, 16, 17, 18, 19, 20, 21, 22], [0, 1, 2, 3, 4, 5, 6, 7, 8, 9, 10, 11, 12, 13, 14, 15, 16, 17, 18, 19, 20, 21, 22, 23]] (by kernel_rfl) ?_
     obtain ⟨d3, hl, H⟩ := H
     refine LP_indexw (v := sl a0 aM a1) 23 rfl rfl rfl Try.underlying22 ti_3 rfl rfl dA d3 hl fun eX wa => (LP_set 24 rfl rfl rfl rfl rfl wa (Le.refl emp) ⟨_, rfl, rfl⟩ (c9.ext bM) fun d4 eY d5 d6 y dm => ?_)
     obtain ⟨eZ, d7, dd⟩ := BwL.turn bw (OS.od d5) (Dom.of dm)
     have d8 := BwL.sub bw (bJ.ext bM) d6 y
     have d9 := BwL.but bw y
     refine Ln _ rfl ?_
     have cQ := (aV.trans bM)
     exact ⟨List.set aZ (Int.toNat aA) (List.set aM (Int.toNat aC) (wr (aN - aO))), H, _, (un d4 rest), Ee ⟨rfl, rfl, rfl, rfl, rfl, rfl, rfl, rfl, rfl, rfl, rfl, trivial⟩, (((Br aH _).stepx cQ).step d9 (Oe (Or _) _)), d7, d8, (Mt (Oe (Or _) _) ((fun n => Oe dd n) _) cQ.size), (CanV.len (by simp) bG)⟩
    have H := H.2 bI
    exact Wk ⟨aZ, H, _, aH, Ee ⟨rfl, rfl, rfl, rfl, rfl, rfl, rfl, rfl, rfl, rfl, rfl, trivial⟩, (Br _ _), bE, bF, (Oe (Or _) _), bG⟩
   rintro eA _ e0 ⟨H, ρ, aU, rfl, HF⟩
   revert HF
   refine bb5 fun X126 eB eC eD eE => ?_
   subst hk
   refine Wg (Lv ok 0 [(66, I (wr (aC + 1))), (32, I (wr (aC + 1)))] 2 rfl rfl (Ln _ rfl ?_))
   have dl : DomLe aG bB.heap.size aH := (Mt (Oe (Or _) _) b4 (Nat.le_refl _))
   exact ⟨(eA, wr (aC + 1)), ⟨H.1, _, aU, Ee ⟨rfl, rfl, rfl, rfl, rfl, rfl, rfl, rfl, rfl, rfl, rfl, trivial⟩, (((Br aG _).step X73 (Oe (Or _) _)).step X126 dl), eB, eC, (Mt dl eD X73.size), eE⟩, H.2⟩
  have H := H.2 bH
  refine W_exit ?_
  refine (if_pos rfl).mpr ?_
  refine Wg (Lv ok 0 [(67, I (wr (aA + 1))), (24, I (wr (aA + 1)))] 2 rfl rfl (Ln _ rfl ?_))
  have cR : DomLe aR bA.heap.size aG := (Mt (Oe (Or _) _) aT (Nat.le_refl _))
  exact ⟨(aZ, wr (aA + 1)), ⟨H.1, _, aH, Ee ⟨rfl, rfl, rfl, rfl, rfl, rfl, rfl, rfl, trivial⟩, (((Br aR _).step X54 (Oe (Or _) _)).step X73 cR), bE, bF, (Mt cR b4 X54.size), bG⟩, H.2⟩
 have H := H.2 hc
 refine W_exit ?_
 refine (if_pos rfl).mpr ?_
 refine Wq (Wg (Lv ok 0 [(68, sl aD aB aE), (8, sl aD aB aE)] 2 rfl rfl (Ln _ rfl (W_ret ?_))))
 have X216 := (X.stepx xc)
 have cS := aS.mono X216.size
 have X218 := (X216.stepx aK)
 have eF := DomLe.fresh aT cS X218.size
 exact ⟨_, Ret_of [sl aD aB aE] ⟨⟨rfl, rfl⟩, trivial⟩, _, _, _, H, rfl, (X218.step X54 (cS.dom _)).ext, bC, bD, eF, b2⟩

theorem impl_fill_w (t : Transport) (Q : (List (List Int)) → Prop) (H : impl_fill t Q) (w : World) {vx : Value} {hx : PH} (r : RS hx vx t.Rows) (ex : Sub hx w) {dA : Value} {dB : PH} (bU : RS dB dA t.Cols) (fP : Sub dB w) {dC : Value} {dD : PH} (a3 : RS dD dC t.Lo) (fQ : Sub dD w) {dE : Value} {dF : PH} (b5 : RS dF dE t.Hi) (fR : Sub dF w) :
  CallsTo Try.prog 63 #[.agg #[vx, dA, dC, dE]] w fun v w' => ∃ b6 b7 b8, Q b6 ∧ v = b7 ∧ Ext w w' ∧ OD b8 b7 b6 ∧ Sub b8 w' ∧ Fresh w.heap.size b8 ∧ CanV b7 b6 := by
 obtain ⟨a, c, rfl⟩ := r.shape
 obtain ⟨aQ, aR, rfl⟩ := bU.shape
 obtain ⟨aK, aL, rfl⟩ := a3.shape
 obtain ⟨bI, bJ, rfl⟩ := b5.shape
 refine enter (args := [.agg #[sl a t.Rows c, sl aQ t.Cols aR, sl aK t.Lo aL, sl bI t.Hi bJ]]) 141 Try.func63 rfl rfl rfl ?_
 refine Wo [(0, .agg #[sl a t.Rows c, sl aQ t.Cols aR, sl aK t.Lo aL, sl bI t.Hi bJ])] ⟨rfl, trivial⟩ fun ρ => ?_
 have X := Br emp w
 refine Wq (Wg (Ly 0 (cs := [sl a t.Rows c, sl aQ t.Cols aR, sl aK t.Lo aL, sl bI t.Hi bJ]) rfl rfl rfl rfl rfl fun b wx x b9 f => (Lv ok 1 [(2, .slice none 0 0)] 2 rfl rfl (Ln _ rfl (Wq ?_)))))
 refine W_quiet mix (by kernel_rfl) ?_
 refine QP_ev ok 0 [(14, pb b)] 1 rfl rfl ?_
 refine QP_ldbox 1 (v := sl a t.Rows c) rfl rfl rfl ti_22 ag_22 (fun _ => rfl) rfl b9 rfl rfl ?_
 refine QP_ev ok 2 [(16, I (ln t.Rows)), (17, .pointer (some ⟨b, 1, none⟩))] 4 rfl rfl ?_
 refine QP_ldbox 4 (v := sl aQ t.Cols aR) rfl rfl rfl ti_22 ag_22 (fun _ => rfl) rfl b9 rfl rfl ?_
 refine QP_ev ok 5 [(19, I (ln t.Cols)), (3, I (ln t.Rows)), (4, I (ln t.Cols))] 8 rfl rfl ?_
 refine QP_end _ rfl fun fS bK => ?_
 refine Wq (Wg ?_)
 have bV := (b9.ext bK)
 refine Lb 0 (v := .agg #[sl a t.Rows c, sl aQ t.Cols aR, sl aK t.Lo aL, sl bI t.Hi bJ]) rfl rfl rfl ti_29 ag_29 (fun h => by cases h) rfl bV rfl rfl (Lv ok 1 [(21, .pointer (some ⟨b, 2, none⟩))] 2 rfl rfl (Lb 2 (v := sl aK t.Lo aL) rfl rfl rfl ti_23 ag_23 (fun _ => rfl) rfl bV rfl rfl ?_))
 have xc := (x.trans bK)
 have bB := (ex.ext xc)
 have bL := (fP.ext xc)
 have bW := (fQ.ext xc)
 have cA := (fR.ext xc)
 refine Lc 3 rfl rfl rfl cal_89 rfl (impl_residual_w _ _ _ _ H fS r bB bU bL a3 bW b5 cA a3 bW) ?_
 rintro _ jH ⟨a4, jI, jJ, H, rfl, aH, o, cB, jK⟩
 obtain ⟨a5, a6, rfl⟩ := o.shape
 refine Lv ok 4 [(5, sl a5 a4 a6)] 5 rfl rfl (Ln _ rfl (Wq (Wg (Lv ok 0 [(24, I (ln t.Rows)), (25, I (ln t.Cols)), (26, I (wr ((ln t.Rows) + (ln t.Cols)))), (27, I (wr ((wr ((ln t.Rows) + (ln t.Cols))) + 2)))] 4 rfl rfl ?_))))
 obtain ⟨hn, hb, H⟩ := H
 refine LP_maked (β := Int) 4 rfl rfl rfl Try.underlying23 ti_22 rfl hn (by first | omega | (simp only [ln] at *; omega)) (by first | omega | (simp only [ln] at *; omega)) fun bM jL cC aG dG fT aE => ?_
 obtain ⟨aA, aB, rfl⟩ := dG.shape
 refine Lv ok 5 [(6, .slice aA (List.length (List.replicate (Int.toNat (wr ((wr ((ln t.Rows) + (ln t.Cols))) + 2))) (([] : List Int)))) aB)] 6 rfl rfl (Ln _ rfl (Wq (Wq (Wg (Lv ok 0 [(29, .slice aA (List.length (List.replicate (Int.toNat (wr ((wr ((ln t.Rows) + (ln t.Cols))) + 2))) (([] : List Int)))) aB), (30, I (ln (List.replicate (Int.toNat (wr ((wr ((ln t.Rows) + (ln t.Cols))) + 2))) (([] : List Int))))), (31, I 0)] 3 rfl rfl ?_)))))
 refine Ln _ rfl (W_block ?_)
 obtain ⟨J, m, Hx, H⟩ := H
 refine W_loop (S := (List (List Int)) × Int) (fun s ρ' w' => J s.1 s.2 ∧ ∃ (ρ : Env) (aI : PH), ρ' = setAll [(1, pb b), (3, I (ln t.Rows)), (4, I (ln t.Cols)), (5, sl a5 a4 a6), (6, .slice aA (List.length (List.replicate (Int.toNat (wr ((wr ((ln t.Rows) + (ln t.Cols))) + 2))) (([] : List Int)))) aB), (30, I (ln (List.replicate (Int.toNat (wr ((wr ((ln t.Rows) + (ln t.Cols))) + 2))) (([] : List Int))))), (31, I s.2)] ρ ∧ But bM cC w' ∧ OD aI (.slice aA (List.length (List.replicate (Int.toNat (wr ((wr ((ln t.Rows) + (ln t.Cols))) + 2))) (([] : List Int)))) aB) s.1 ∧ Sub aI w' ∧ DomLe bM cC.heap.size aI) (fun s => m s.1 s.2) (List.replicate (Int.toNat (wr ((wr ((ln t.Rows) + (ln t.Cols))) + 2))) (([] : List Int)), 0) ⟨Hx, _, bM, Ee ⟨rfl, rfl, rfl, rfl, rfl, rfl, rfl, trivial⟩, (Br _ _), dG, fT, (Oe (Or _) _)⟩ ?_
 rintro ⟨bX, aC⟩ _ cD ⟨Hi, ρ, aI, rfl, X53, dH, bN, aJ⟩
 have H := H bX aC Hi
 refine Wq (Wg (Lv ok 0 [(32, .bool (decide (aC < (ln (List.replicate (Int.toNat (wr ((wr ((ln t.Rows) + (ln t.Cols))) + 2))) (([] : List Int)))))))] 1 rfl rfl (Ln _ rfl (Wq ?_))))
 refine Wc (decide (aC < (ln (List.replicate (Int.toNat (wr ((wr ((ln t.Rows) + (ln t.Cols))) + 2))) (([] : List Int)))))) rfl (fun hc => ?_) (fun hc => ?_)
 ·have H := H.1 hc
  refine Wk ?_
  have dj := (Df (bB.ext aH) aE).symm
  have dI := (Df cB aE).symm
  obtain ⟨k, hk, H⟩ := jn_elim H
  refine W_join2 (S := (List (List Int))) (fun s ρ' w' => k s ∧ ∃ (ρ : Env) (bO : PH), ρ' = setAll [(1, pb b), (3, I (ln t.Rows)), (4, I (ln t.Cols)), (5, sl a5 a4 a6), (6, .slice aA (List.length (List.replicate (Int.toNat (wr ((wr ((ln t.Rows) + (ln t.Cols))) + 2))) (([] : List Int)))) aB), (30, I (ln (List.replicate (Int.toNat (wr ((wr ((ln t.Rows) + (ln t.Cols))) + 2))) (([] : List Int))))), (31, I aC)] ρ ∧ But aI cD w' ∧ OD bO (.slice aA (List.length (List.replicate (Int.toNat (wr ((wr ((ln t.Rows) + (ln t.Cols))) + 2))) (([] : List Int)))) aB) s ∧ Sub bO w' ∧ DomLe aI cD.heap.size bO) ?_ ?_
  ·refine W_block (Wq (Wg (Lv ok 0 [(33, I aC), (7, I aC)] 2 rfl rfl (Ln _ rfl (Wq (Wg (Lv ok 0 [(34, .slice aA (List.length (List.replicate (Int.toNat (wr ((wr ((ln t.Rows) + (ln t.Cols))) + 2))) (([] : List Int)))) aB), (35, I aC), (36, I (ln t.Rows)), (37, I (ln t.Cols)), (38, I (wr ((ln t.Rows) + (ln t.Cols)))), (39, I (wr ((wr ((ln t.Rows) + (ln t.Cols))) + 2)))] 6 rfl rfl ?_)))))))
   obtain ⟨fU, jM, H⟩ := H
   refine LP_make (α := Int) 6 rfl rfl rfl Try.underlying22 ti_3 (x0 := (0 : Int)) rfl rfl fU (by first | omega | (simp only [ln] at *; omega)) (by first | omega | (simp only [ln] at *; omega)) fun jN jO jP bP dJ fV cE => ?_
   obtain ⟨jQ, jR, rfl⟩ := dJ.shape
   obtain ⟨hi, hl, H⟩ := H
   refine LP_indexd (v := .slice aA (List.length (List.replicate (Int.toNat (wr ((wr ((ln t.Rows) + (ln t.Cols))) + 2))) (([] : List Int)))) aB) 7 rfl rfl rfl Try.underlying23 ti_22 rfl rfl dH hi hl fun jS wa => (LP_setD (y := List.replicate (Int.toNat (wr ((wr ((ln t.Rows) + (ln t.Cols))) + 2))) ((0 : Int))) 8 rfl rfl rfl rfl rfl wa (OD.rvo (OS.od dJ)) (bN.ext bP) fV (Df bN cE) fun dK hw jT dL dM y dh dq jU => ?_)
   refine Ln _ rfl (Wq (Wg (Lv ok 0 [(42, I aC), (43, I (ln t.Rows)), (44, I (ln t.Cols)), (45, I (wr ((ln t.Rows) + (ln t.Cols)))), (46, .bool (decide (aC < (wr ((ln t.Rows) + (ln t.Cols))))))] 5 rfl rfl (Ln _ rfl ?_))))
   refine Wc (decide (aC < (wr ((ln t.Rows) + (ln t.Cols))))) rfl (fun cF => ?_) (fun cF => ?_)
   ·have H := H.1 cF
    refine W_open mix fun jV cG => ?_
    refine AP_game 8 [[], [], [0, 1], [0, 1, 2], [], [], [4, 5], [4, 5, 6], [0, 1, 2, 3, 4, 5, 6, 7]] [[(6, none)], [(7, none)], [(47, some 0), (48, some 1)], [(49, some 2)], [(5, none)], [(7, none)], [(51, some 4), (52, some 5)], [(53, some 6)]] [(1, none), (3, none), (4, none), (5, none), (6, none), (30, none), (31, none), (50, some 3), (54, some 7)] [(0, false), (1, false), (2, false), (3, false), (4, false), (5, false), (6, false), (7, false)] (by kernel_rfl) (by kernel_rfl) ?_
    refine GS_ev ok [(6, .slice aA (List.length (List.replicate (Int.toNat (wr ((wr ((ln t.Rows) + (ln t.Cols))) + 2))) (([] : List Int)))) aB)] (.slice aA (List.length (List.replicate (Int.toNat (wr ((wr ((ln t.Rows) + (ln t.Cols))) + 2))) (([] : List Int)))) aB) rfl rfl (fun _ h => h) (fun _ => rfl) ?_
    refine GS_ev ok [(7, I aC)] (I aC) rfl rfl (fun _ h => h) (fun _ => rfl) ?_
    obtain ⟨bC, fW, fX, H⟩ := H
    obtain ⟨dN, u, fY, rest, fZ, f0, bw⟩ := run_indexb Try.underlying23 ti_22 dL _ fW fX
    refine GS_r0 [(47, .slice aA (List.length (List.replicate (Int.toNat (wr ((wr ((ln t.Rows) + (ln t.Cols))) + 2))) (([] : List Int)))) aB), (48, I aC)] (.pointer (some dN)) rfl rfl (fun _ h => h) (fun _ _ => ex_index rfl rfl rfl (fZ _)) ?_
    have dO := bw.od
    obtain ⟨cH, cI, rfl⟩ := dO.shape
    have cJ := (dM.ext cG)
    have f1 := Sub.le cJ bw.le
    have f2 : OS 3 fY emp (sl cH bC cI) bC := OD.flat dO
    refine GS_r1 [(49, .pointer (some dN))] (sl cH bC cI) rfl rfl (fun _ h => h) (fun _ w e => ex_ldcell rfl ti_22 ag_22 rfl f0 e) cJ ?_
    refine GS_ev ok [(5, sl a5 a4 a6)] (sl a5 a4 a6) rfl rfl (fun _ h => h) (fun _ => rfl) ?_
    refine GS_ev ok [(7, I aC)] (I aC) rfl rfl (fun _ h => h) (fun _ => rfl) ?_
    obtain ⟨bQ, f3, f4, H⟩ := H
    obtain ⟨dP, cs, f5, f6, d⟩ := run_indexAt Try.underlying23 ti_22 o.readf .i64 _ bQ f3 f4
    refine GS_r0 [(51, sl a5 a4 a6), (52, I aC)] (.pointer (some dP)) rfl rfl (fun _ h => h) (fun _ _ => ex_index rfl rfl rfl (f5 _)) ?_
    obtain ⟨jW, f7, f8⟩ := run_loadAt ti_22 ag_22 f6 d
    have dQ := f8.slice
    obtain ⟨dR, dS, rfl⟩ := dQ.shape
    have dT := (((((cB.ext aG).but X53 dI).ext bP).but (But.dom y dh) (Mj aJ dI (cB.ext aG))).ext cG)
    refine GS_r1 [(53, .pointer (some dP))] (sl dR bQ dS) rfl rfl (fun _ h => h) (fun _ w e => ex_load rfl rfl (f7 w e)) dT ?_
    intro jX bY ρ f9
    refine AP_forget [(1, pb b), (3, I (ln t.Rows)), (4, I (ln t.Cols)), (5, sl a5 a4 a6), (6, .slice aA (List.length (List.replicate (Int.toNat (wr ((wr ((ln t.Rows) + (ln t.Cols))) + 2))) (([] : List Int)))) aB), (30, I (ln (List.replicate (Int.toNat (wr ((wr ((ln t.Rows) + (ln t.Cols))) + 2))) (([] : List Int))))), (31, I aC), (50, sl cH bC cI), (54, sl dR bQ dS)] (by exact f9) fun ρ => ?_
    refine AP_tail 8 [[], [], [0, 1], [0, 1, 2], [], [], [4, 5], [4, 5, 6], [0, 1, 2, 3, 4, 5, 6, 7]] (by kernel_rfl) ?_
    refine LP_copy (α := Int) 8 rfl rfl rfl Try.underlying22 ti_3 rfl rfl rfl f2 (f1.ext bY) dQ (dT.ext bY) fun gA jY gB gC dU gD => ?_
    obtain ⟨jZ, gE, dd⟩ := BwL.turn bw (OS.od gB) (Dom.of gD)
    have gF := BwL.sub bw (cJ.ext bY) gC dU
    have gG := BwL.but bw dU
    refine Ln _ rfl ?_
    have dV := (cG.trans bY)
    have dW : DomLe aI cD.heap.size dK := (Mt (Mu (Oe (Or _) _) ((cE.mono (Nat.le_refl _)).dom _)) (Oe dq _) (Nat.le_refl _))
    exact ⟨List.set (List.set bX (Int.toNat aC) (List.replicate (Int.toNat (wr ((wr ((ln t.Rows) + (ln t.Cols))) + 2))) ((0 : Int)))) (Int.toNat aC) (List.take (List.length bC) bQ ++ List.drop (List.length bQ) bC), H, _, (un gA rest), Ee ⟨rfl, rfl, rfl, rfl, rfl, rfl, rfl, trivial⟩, (((((Br aI _).stepx bP).step (But.dom y dh) (Oe (Or _) _)).stepx dV).step gG dW), gE, gF, (Mt dW ((fun n => Oe dd n) _) (Nat.le_trans (Nat.le_trans bP.size (But.dom y dh).size) dV.size))⟩
   have H := H.2 cF
   exact Wk ⟨List.set bX (Int.toNat aC) (List.replicate (Int.toNat (wr ((wr ((ln t.Rows) + (ln t.Cols))) + 2))) ((0 : Int))), H, _, dK, Ee ⟨rfl, rfl, rfl, rfl, rfl, rfl, rfl, trivial⟩, (((Br aI _).stepx bP).step (But.dom y dh) (Oe (Or _) _)), dL, dM, (Mt (Mu (Oe (Or _) _) ((cE.mono (Nat.le_refl _)).dom _)) (Oe dq _) (Nat.le_refl _))⟩
  rintro gH _ j0 ⟨H, ρ, bO, rfl, X88, gI, gJ, gK⟩
  subst hk
  refine Wg (Lv ok 0 [(56, I (wr (aC + 1))), (31, I (wr (aC + 1)))] 2 rfl rfl (Ln _ rfl ?_))
  have dX : DomLe bM cC.heap.size aI := (Mt (Oe (Or _) _) aJ (Nat.le_refl _))
  exact ⟨(gH, wr (aC + 1)), ⟨H.1, _, bO, Ee ⟨rfl, rfl, rfl, rfl, rfl, rfl, rfl, trivial⟩, (((Br bM _).step X53 (Oe (Or _) _)).step X88 dX), gI, gJ, (Mt dX gK X53.size)⟩, H.2⟩
 have H := H.2 hc
 refine W_exit ?_
 refine (if_pos rfl).mpr ?_
 refine Wq ?_
 refine W_open mix fun j1 a7 => ?_
 refine AP_game 5 [[], [0], [0, 1], [], [3], [0, 1, 2, 3, 4], [0, 1, 2, 3, 4, 5], [0, 1, 2, 3, 4, 5, 6]] [[(1, none)], [(57, some 0)], [(58, some 1)], [(1, none)], [(60, some 3)]] [(1, none), (3, none), (4, none), (6, none), (59, some 2), (61, some 4)] [(0, false), (1, false), (3, false), (4, false), (2, true)] (by kernel_rfl) (by kernel_rfl) ?_
 refine GS_ev ok [(1, pb b)] (.pointer (some ⟨b, 2, none⟩)) rfl rfl (fun _ h => h) (fun _ => rfl) ?_
 have a8 := (aH.trans aG)
 have dY := (bV.ext aH)
 have dZ := (Df dY aE).symm
 have bZ := (((bV.ext a8).but X53 dZ).ext a7)
 refine GS_r1 [(57, .pointer (some ⟨b, 2, none⟩))] (sl aK t.Lo aL) rfl rfl (fun _ h => h) (fun _ w e => ex_ldbox rfl ti_23 ag_23 (fun _ => rfl) rfl e rfl rfl) bZ ?_
 refine GS_ev ok [(1, pb b)] (.pointer (some ⟨b, 2, none⟩)) rfl rfl (fun _ h => h) (fun _ => rfl) ?_
 refine GS_r1 [(60, .pointer (some ⟨b, 2, none⟩))] (sl aK t.Lo aL) rfl rfl (fun _ h => h) (fun _ w e => ex_ldbox rfl ti_23 ag_23 (fun _ => rfl) rfl e rfl rfl) bZ ?_
 refine GS_lp [(58, sl aK t.Lo aL)] rfl rfl (fun _ h => h) rfl fun ρ gL aV => ?_
 have d0 := (bW.ext aH)
 have d1 := (Df d0 aE).symm
 have d2 := (a7.trans aV)
 have d3 := (((bW.ext a8).but X53 d1).ext d2)
 refine Lc 0 rfl rfl rfl cal_65 rfl (impl_rowSums_w _ _ H gL a3 d3) ?_
 rintro _ j2 ⟨aW, j3, j4, H, rfl, aX, cK, gM, gN⟩
 obtain ⟨aY, aZ, rfl⟩ := cK.shape
 refine LP_gs ⟨⟨.inr (bZ.ext (aV.trans aX)), .inl rfl, trivial⟩, ?_⟩
 intro gO a0 ρ gP
 refine AP_forget [(1, pb b), (3, I (ln t.Rows)), (4, I (ln t.Cols)), (6, .slice aA (List.length (List.replicate (Int.toNat (wr ((wr ((ln t.Rows) + (ln t.Cols))) + 2))) (([] : List Int)))) aB), (59, sl aY aW aZ), (61, sl aK t.Lo aL)] (by exact gP) fun ρ => ?_
 refine AP_tail 5 [[], [0], [0, 1], [], [3], [0, 1, 2, 3, 4], [0, 1, 2, 3, 4, 5], [0, 1, 2, 3, 4, 5, 6]] (by kernel_rfl) ?_
 have cL := (d3.ext (aX.trans a0))
 refine Lc 5 rfl rfl rfl cal_78 rfl (impl_colSums_w _ _ H gO a3 cL) ?_
 rintro _ cM ⟨aS, j5, j6, H, rfl, a1, cN, d4, gQ⟩
 obtain ⟨aT, aU, rfl⟩ := cN.shape
 refine Lv ok 6 [(8, sl aY aW aZ), (9, sl aT aS aU)] 8 rfl rfl (Ln _ rfl (Wq (Wq (Wg (Lv ok 0 [(63, pb b)] 1 rfl rfl ?_)))))
 have cO := (bZ.ext (((aV.trans aX).trans a0).trans a1))
 refine Lb 1 (v := sl a t.Rows c) rfl rfl rfl ti_22 ag_22 (fun _ => rfl) rfl cO rfl rfl (Lv ok 2 [(65, I (ln t.Rows)), (66, I 0)] 4 rfl rfl (Ln _ rfl (W_block ?_)))
 obtain ⟨J212, gR, Hx214, H⟩ := H
 refine W_loop (S := (List (List Int)) × Int) (fun s ρ' w' => J212 s.1 s.2 ∧ ∃ (ρ : Env) (aM : PH), ρ' = setAll [(1, pb b), (3, I (ln t.Rows)), (4, I (ln t.Cols)), (6, .slice aA (List.length (List.replicate (Int.toNat (wr ((wr ((ln t.Rows) + (ln t.Cols))) + 2))) (([] : List Int)))) aB), (8, sl aY aW aZ), (9, sl aT aS aU), (64, sl a t.Rows c), (65, I (ln t.Rows)), (66, I s.2)] ρ ∧ But aI cM w' ∧ OD aM (.slice aA (List.length (List.replicate (Int.toNat (wr ((wr ((ln t.Rows) + (ln t.Cols))) + 2))) (([] : List Int)))) aB) s.1 ∧ Sub aM w' ∧ DomLe aI cM.heap.size aM) (fun s => gR s.1 s.2) (bX, 0) ⟨Hx214, _, aI, Ee ⟨rfl, rfl, rfl, rfl, rfl, rfl, rfl, rfl, rfl, trivial⟩, (Br _ _), dH, (bN.ext ((((a7.trans aV).trans aX).trans a0).trans a1)), (Oe (Or _) _)⟩ ?_
 rintro ⟨cP, aF⟩ _ cQ ⟨Hi, ρ, aM, rfl, X211, d5, d6, aN⟩
 have H := H cP aF Hi
 refine Wq (Wg (Lv ok 0 [(67, .bool (decide (aF < (ln t.Rows))))] 1 rfl rfl (Ln _ rfl (Wq ?_))))
 refine Wc (decide (aF < (ln t.Rows))) rfl (fun cR => ?_) (fun cR => ?_)
 ·have H := H.1 cR
  refine Wk (Wq (W_block (Wq (Wg (Lv ok 0 [(68, I aF)] 1 rfl rfl ?_)))))
  obtain ⟨aO, gS, gT, H⟩ := H
  refine Li 1 rfl rfl rfl Try.underlying22 ti_3 rfl rfl r gS gT fun j7 j8 gU gV => ?_
  have d7 := (bB.ext aH)
  have d8 := (Df d7 aE).symm
  have d9 := ((((a7.trans aV).trans aX).trans a0).trans a1)
  refine Lo 2 rfl rfl rfl ti_3 ag_3 rfl gU gV ((((bB.ext a8).but X53 d8).ext d9).but X211 (Mj aJ d8 (d7.ext aG))) fun j9 gW => ?_
  obtain rfl := gW.int
  refine Lv ok 3 [(10, I aF), (11, I aO)] 5 rfl rfl (Ln _ rfl (Wq (Wq (Wg (Lv ok 0 [(71, I aO), (72, sl aY aW aZ), (73, I aF)] 3 rfl rfl ?_)))))
  obtain ⟨eA, gX, gY, H⟩ := H
  refine Li 3 rfl rfl rfl Try.underlying22 ti_3 rfl rfl cK.readf gX gY fun kA kB gZ g0 => ?_
  have eB := ((gM.ext (a0.trans a1)).but X211 (Df (bN.ext d2) gN))
  refine Lo 4 rfl rfl rfl ti_3 ag_3 rfl gZ g0 eB fun kC g1 => ?_
  obtain rfl := g1.int
  refine Lv ok 5 [(76, .bool (decide (aO < eA)))] 6 rfl rfl (Ln _ rfl ?_)
  refine Wc (decide (aO < eA)) rfl (fun cS => ?_) (fun cS => ?_)
  ·have H := H.1 cS
   refine Wq (Wg (Lv ok 0 [(2, .slice none 0 0)] 1 rfl rfl (Ln _ rfl (W_ret ?_))))
   have X251 := (X.stepx (xc.trans aH))
   have g2 := aE.mono X251.size
   have g3 := aE.mono X251.size
   have g4 := DomLe.fresh aJ g3 (X251.stepx aG).size
   exact ⟨_, Ret_of [.slice none 0 0] ⟨⟨rfl, rfl⟩, trivial⟩, _, _, emp, H, rfl, ((((X.stepx (((x.trans bK).trans aH).trans aG)).step X53 (g2.dom _)).stepx d9).step X211 (g4.dom _)).ext, OD.nil, (emp_sub _), (emp_fresh _), CanV.nil⟩
  have H := H.2 cS
  refine Wk ?_
  refine W_open mix fun kD cT => ?_
  refine AP_game 13 [[], [], [], [1, 2], [0, 1, 2, 3], [0, 1, 2, 3, 4], [], [], [], [], [8, 9], [8, 9, 10], [7, 8, 9, 10, 11], [0, 1, 2, 3, 4, 5, 6, 7, 8, 9, 10, 11, 12], [0, 1, 2, 3, 4, 5, 6, 7, 8, 9, 10, 11, 12, 13]] [[(6, none)], [(3, none)], [(4, none)], [(78, some 1), (79, some 2)], [(77, some 0), (80, some 3)], [(81, some 4)], [(10, none)], [(11, none)], [(8, none)], [(10, none)], [(85, some 8), (86, some 9)], [(87, some 10)], [(84, some 7), (88, some 11)]] [(1, none), (3, none), (4, none), (6, none), (8, none), (9, none), (64, none), (65, none), (66, none), (82, some 5), (83, some 6), (89, some 12)] [(0, false), (1, false), (2, false), (3, false), (4, false), (5, false), (6, false), (7, false), (8, false), (9, false), (10, false), (11, false), (12, false)] (by kernel_rfl) (by kernel_rfl) ?_
  refine GS_ev ok [(6, .slice aA (List.length (List.replicate (Int.toNat (wr ((wr ((ln t.Rows) + (ln t.Cols))) + 2))) (([] : List Int)))) aB)] (.slice aA (List.length (List.replicate (Int.toNat (wr ((wr ((ln t.Rows) + (ln t.Cols))) + 2))) (([] : List Int)))) aB) rfl rfl (fun _ h => h) (fun _ => rfl) ?_
  refine GS_ev ok [(3, I (ln t.Rows))] (I (ln t.Rows)) rfl rfl (fun _ h => h) (fun _ => rfl) ?_
  refine GS_ev ok [(4, I (ln t.Cols))] (I (ln t.Cols)) rfl rfl (fun _ h => h) (fun _ => rfl) ?_
  refine GS_ev ok [(78, I (ln t.Rows)), (79, I (ln t.Cols))] (I (wr ((ln t.Rows) + (ln t.Cols)))) rfl rfl (fun _ h => h) (fun _ => rfl) ?_
  obtain ⟨bD, g5, g6, H⟩ := H
  obtain ⟨eC, kE, g7, g8, g9, hA, bR⟩ := run_indexb Try.underlying23 ti_22 d5 _ g5 g6
  refine GS_r0 [(77, .slice aA (List.length (List.replicate (Int.toNat (wr ((wr ((ln t.Rows) + (ln t.Cols))) + 2))) (([] : List Int)))) aB), (80, I (wr ((ln t.Rows) + (ln t.Cols))))] (.pointer (some eC)) rfl rfl (fun _ h => h) (fun _ _ => ex_index rfl rfl rfl (g9 _)) ?_
  have eD := bR.od
  obtain ⟨b0, b1, rfl⟩ := eD.shape
  have cU := (d6.ext cT)
  have hB := Sub.le cU bR.le
  have hC : OS 3 g7 emp (sl b0 bD b1) bD := OD.flat eD
  refine GS_r1 [(81, .pointer (some eC))] (sl b0 bD b1) rfl rfl (fun _ h => h) (fun _ w e => ex_ldcell rfl ti_22 ag_22 rfl hA e) cU ?_
  refine GS_ev ok [(10, I aF)] (I aF) rfl rfl (fun _ h => h) (fun _ => rfl) ?_
  refine GS_ev ok [(11, I aO)] (I aO) rfl rfl (fun _ h => h) (fun _ => rfl) ?_
  refine GS_ev ok [(8, sl aY aW aZ)] (sl aY aW aZ) rfl rfl (fun _ h => h) (fun _ => rfl) ?_
  refine GS_ev ok [(10, I aF)] (I aF) rfl rfl (fun _ h => h) (fun _ => rfl) ?_
  obtain ⟨bE, hD, hE, H⟩ := H
  obtain ⟨eE, kF, hF, hG, hH⟩ := run_indexAt Try.underlying22 ti_3 cK.readf .i64 _ bE hD hE
  refine GS_r0 [(85, sl aY aW aZ), (86, I aF)] (.pointer (some eE)) rfl rfl (fun _ h => h) (fun _ _ => ex_index rfl rfl rfl (hF _)) ?_
  obtain ⟨kG, hI, hJ⟩ := run_loadAt ti_3 ag_3 hG hH
  obtain rfl := hJ.int
  refine GS_r1 [(87, .pointer (some eE))] (I bE) rfl rfl (fun _ h => h) (fun _ w e => ex_load rfl rfl (hI w e)) (eB.ext cT) ?_
  refine GS_ev ok [(84, I aO), (88, I bE)] (I (wr (aO - bE))) rfl rfl (fun _ h => h) (fun _ => rfl) ?_
  intro kH cV ρ hK
  refine AP_forget [(1, pb b), (3, I (ln t.Rows)), (4, I (ln t.Cols)), (6, .slice aA (List.length (List.replicate (Int.toNat (wr ((wr ((ln t.Rows) + (ln t.Cols))) + 2))) (([] : List Int)))) aB), (8, sl aY aW aZ), (9, sl aT aS aU), (64, sl a t.Rows c), (65, I (ln t.Rows)), (66, I aF), (82, sl b0 bD b1), (83, I aF), (89, I (wr (aO - bE)))] (by exact hK) fun ρ => ?_
  refine AP_tail 13 [[], [], [], [1, 2], [0, 1, 2, 3], [0, 1, 2, 3, 4], [], [], [], [], [8, 9], [8, 9, 10], [7, 8, 9, 10, 11], [0, 1, 2, 3, 4, 5, 6, 7, 8, 9, 10, 11, 12], [0, 1, 2, 3, 4, 5, 6, 7, 8, 9, 10, 11, 12, 13]] (by kernel_rfl) ?_
  obtain ⟨hL, hM, H⟩ := H
  refine LP_indexw (v := sl b0 bD b1) 13 rfl rfl rfl Try.underlying22 ti_3 rfl rfl hC hL hM fun kI hN => (LP_set 14 rfl rfl rfl rfl rfl hN (Le.refl emp) ⟨_, rfl, rfl⟩ (hB.ext cV) fun hO kJ hP hQ eF hR => ?_)
  obtain ⟨kK, hS, hT⟩ := BwL.turn bR (OS.od hP) (Dom.of hR)
  have hU := BwL.sub bR (cU.ext cV) hQ eF
  have hV := BwL.but bR eF
  refine Ln _ rfl (Wg (Lv ok 0 [(91, I (wr (aF + 1))), (66, I (wr (aF + 1)))] 2 rfl rfl (Ln _ rfl ?_)))
  have eG := (cT.trans cV)
  have eH : DomLe aI cM.heap.size aM := (Mt (Oe (Or _) _) aN (Nat.le_refl _))
  exact ⟨(List.set cP (Int.toNat (wr ((ln t.Rows) + (ln t.Cols)))) (List.set bD (Int.toNat aF) (wr (aO - bE))), wr (aF + 1)), ⟨H.1, _, (un hO g8), Ee ⟨rfl, rfl, rfl, rfl, rfl, rfl, rfl, rfl, rfl, trivial⟩, ((((Br aI _).step X211 (Oe (Or _) _)).stepx eG).step hV eH), hS, hU, (Mt eH ((fun n => Oe hT n) _) (Nat.le_trans X211.size eG.size))⟩, H.2⟩
 have H := H.2 cR
 refine W_exit ?_
 refine (if_pos rfl).mpr ?_
 refine Wq (Wq (Wg (Lv ok 0 [(92, .pointer (some ⟨b, 1, none⟩))] 1 rfl rfl ?_)))
 have eI := (Mj aJ dZ (dY.ext aG))
 have cW := (cO.but X211 eI)
 refine Lb 1 (v := sl aQ t.Cols aR) rfl rfl rfl ti_22 ag_22 (fun _ => rfl) rfl cW rfl rfl (Lv ok 2 [(94, I (ln t.Cols)), (95, I 0)] 4 rfl rfl (Ln _ rfl (W_block ?_)))
 obtain ⟨J322, hW, Hx324, H⟩ := H
 refine W_loop (S := (List (List Int)) × Int) (fun s ρ' w' => J322 s.1 s.2 ∧ ∃ (ρ : Env) (bS : PH), ρ' = setAll [(1, pb b), (3, I (ln t.Rows)), (4, I (ln t.Cols)), (6, .slice aA (List.length (List.replicate (Int.toNat (wr ((wr ((ln t.Rows) + (ln t.Cols))) + 2))) (([] : List Int)))) aB), (9, sl aT aS aU), (93, sl aQ t.Cols aR), (94, I (ln t.Cols)), (95, I s.2)] ρ ∧ But aM cQ w' ∧ OD bS (.slice aA (List.length (List.replicate (Int.toNat (wr ((wr ((ln t.Rows) + (ln t.Cols))) + 2))) (([] : List Int)))) aB) s.1 ∧ Sub bS w' ∧ DomLe aM cQ.heap.size bS) (fun s => hW s.1 s.2) (cP, 0) ⟨Hx324, _, aM, Ee ⟨rfl, rfl, rfl, rfl, rfl, rfl, rfl, rfl, trivial⟩, (Br _ _), d5, d6, (Oe (Or _) _)⟩ ?_
 rintro ⟨eJ, aD⟩ _ hX ⟨Hi, ρ, bS, rfl, X321, eK, eL, a9⟩
 have H := H eJ aD Hi
 refine Wq (Wg (Lv ok 0 [(96, .bool (decide (aD < (ln t.Cols))))] 1 rfl rfl (Ln _ rfl (Wq ?_))))
 refine Wc (decide (aD < (ln t.Cols))) rfl (fun cX => ?_) (fun cX => ?_)
 ·have H := H.1 cX
  refine Wk (Wq (W_block (Wq (Wg (Lv ok 0 [(97, I aD)] 1 rfl rfl ?_)))))
  obtain ⟨aP, hY, hZ, H⟩ := H
  refine Li 1 rfl rfl rfl Try.underlying22 ti_3 rfl rfl bU hY hZ fun kL kM h0 h1 => ?_
  have eM := (bL.ext aH)
  have cY := (Df eM aE).symm
  have b2 := ((((a7.trans aV).trans aX).trans a0).trans a1)
  have eN := (eM.ext aG)
  have eO := (Mj aJ cY eN)
  refine Lo 2 rfl rfl rfl ti_3 ag_3 rfl h0 h1 (((((bL.ext a8).but X53 cY).ext b2).but X211 eO).but X321 (Mj aN eO ((eN.but X53 cY).ext b2))) fun kN h2 => ?_
  obtain rfl := h2.int
  refine Lv ok 3 [(12, I aD), (13, I aP)] 5 rfl rfl (Ln _ rfl (Wq (Wq (Wg (Lv ok 0 [(100, I aP), (101, sl aT aS aU), (102, I aD)] 3 rfl rfl ?_)))))
  obtain ⟨eP, h3, h4, H⟩ := H
  refine Li 3 rfl rfl rfl Try.underlying22 ti_3 rfl rfl cN.readf h3 h4 fun kO kP h5 h6 => ?_
  have eQ := (Df (bN.ext (((a7.trans aV).trans aX).trans a0)) gQ)
  have eR := ((d4.but X211 eQ).but X321 (Mj aN eQ d4))
  refine Lo 4 rfl rfl rfl ti_3 ag_3 rfl h5 h6 eR fun kQ h7 => ?_
  obtain rfl := h7.int
  refine Lv ok 5 [(105, .bool (decide (aP < eP)))] 6 rfl rfl (Ln _ rfl ?_)
  refine Wc (decide (aP < eP)) rfl (fun cZ => ?_) (fun cZ => ?_)
  ·have H := H.1 cZ
   refine Wq (Wg (Lv ok 0 [(2, .slice none 0 0)] 1 rfl rfl (Ln _ rfl (W_ret ?_))))
   have X362 := (X.stepx (xc.trans aH))
   have eS := aE.mono X362.size
   have h8 := aE.mono X362.size
   have X365 := (X362.stepx aG)
   have h9 := DomLe.fresh aJ h8 X365.size
   have iA := aE.mono X362.size
   have iB := DomLe.fresh aJ iA X365.size
   have iC := DomLe.fresh aN iB ((X365.step X53 (eS.dom _)).stepx b2).size
   exact ⟨_, Ret_of [.slice none 0 0] ⟨⟨rfl, rfl⟩, trivial⟩, _, _, emp, H, rfl, (((((X.stepx (((x.trans bK).trans aH).trans aG)).step X53 (eS.dom _)).stepx b2).step X211 (h9.dom _)).step X321 (iC.dom _)).ext, OD.nil, (emp_sub _), (emp_fresh _), CanV.nil⟩
  have H := H.2 cZ
  refine Wk ?_
  refine W_open mix fun kR c0 => ?_
  refine AP_game 16 [[], [], [], [1, 2], [0, 1, 2, 3], [0, 1, 2, 3, 4], [], [], [6, 7], [6, 7, 8], [], [], [], [11, 12], [11, 12, 13], [10, 11, 12, 13, 14], [0, 1, 2, 3, 4, 5, 6, 7, 8, 9, 10, 11, 12, 13, 14, 15], [0, 1, 2, 3, 4, 5, 6, 7, 8, 9, 10, 11, 12, 13, 14, 15, 16]] [[(6, none)], [(3, none)], [(12, none)], [(107, some 1), (108, some 2)], [(106, some 0), (109, some 3)], [(110, some 4)], [(3, none)], [(4, none)], [(112, some 6), (113, some 7)], [(114, some 8)], [(13, none)], [(9, none)], [(12, none)], [(117, some 11), (118, some 12)], [(119, some 13)], [(116, some 10), (120, some 14)]] [(1, none), (3, none), (4, none), (6, none), (9, none), (93, none), (94, none), (95, none), (111, some 5), (115, some 9), (121, some 15)] [(0, false), (1, false), (2, false), (3, false), (4, false), (5, false), (6, false), (7, false), (8, false), (9, false), (10, false), (11, false), (12, false), (13, false), (14, false), (15, false)] (by kernel_rfl) (by kernel_rfl) ?_
  refine GS_ev ok [(6, .slice aA (List.length (List.replicate (Int.toNat (wr ((wr ((ln t.Rows) + (ln t.Cols))) + 2))) (([] : List Int)))) aB)] (.slice aA (List.length (List.replicate (Int.toNat (wr ((wr ((ln t.Rows) + (ln t.Cols))) + 2))) (([] : List Int)))) aB) rfl rfl (fun _ h => h) (fun _ => rfl) ?_
  refine GS_ev ok [(3, I (ln t.Rows))] (I (ln t.Rows)) rfl rfl (fun _ h => h) (fun _ => rfl) ?_
  refine GS_ev ok [(12, I aD)] (I aD) rfl rfl (fun _ h => h) (fun _ => rfl) ?_
  refine GS_ev ok [(107, I (ln t.Rows)), (108, I aD)] (I (wr ((ln t.Rows) + aD))) rfl rfl (fun _ h => h) (fun _ => rfl) ?_
  obtain ⟨bF, iD, iE, H⟩ := H
  obtain ⟨eT, kS, iF, iG, iH, iI, bT⟩ := run_indexb Try.underlying23 ti_22 eK _ iD iE
  refine GS_r0 [(106, .slice aA (List.length (List.replicate (Int.toNat (wr ((wr ((ln t.Rows) + (ln t.Cols))) + 2))) (([] : List Int)))) aB), (109, I (wr ((ln t.Rows) + aD)))] (.pointer (some eT)) rfl rfl (fun _ h => h) (fun _ _ => ex_index rfl rfl rfl (iH _)) ?_
  have eU := bT.od
  obtain ⟨b3, b4, rfl⟩ := eU.shape
  have c1 := (eL.ext c0)
  have iJ := Sub.le c1 bT.le
  have iK : OS 3 iF emp (sl b3 bF b4) bF := OD.flat eU
  refine GS_r1 [(110, .pointer (some eT))] (sl b3 bF b4) rfl rfl (fun _ h => h) (fun _ w e => ex_ldcell rfl ti_22 ag_22 rfl iI e) c1 ?_
  refine GS_ev ok [(3, I (ln t.Rows))] (I (ln t.Rows)) rfl rfl (fun _ h => h) (fun _ => rfl) ?_
  refine GS_ev ok [(4, I (ln t.Cols))] (I (ln t.Cols)) rfl rfl (fun _ h => h) (fun _ => rfl) ?_
  refine GS_ev ok [(112, I (ln t.Rows)), (113, I (ln t.Cols))] (I (wr ((ln t.Rows) + (ln t.Cols)))) rfl rfl (fun _ h => h) (fun _ => rfl) ?_
  refine GS_ev ok [(114, I (wr ((ln t.Rows) + (ln t.Cols))))] (I (wr ((wr ((ln t.Rows) + (ln t.Cols))) + 1))) rfl rfl (fun _ h => h) (fun _ => rfl) ?_
  refine GS_ev ok [(13, I aP)] (I aP) rfl rfl (fun _ h => h) (fun _ => rfl) ?_
  refine GS_ev ok [(9, sl aT aS aU)] (sl aT aS aU) rfl rfl (fun _ h => h) (fun _ => rfl) ?_
  refine GS_ev ok [(12, I aD)] (I aD) rfl rfl (fun _ h => h) (fun _ => rfl) ?_
  obtain ⟨bG, iL, iM, H⟩ := H
  obtain ⟨eV, kT, iN, iO, iP⟩ := run_indexAt Try.underlying22 ti_3 cN.readf .i64 _ bG iL iM
  refine GS_r0 [(117, sl aT aS aU), (118, I aD)] (.pointer (some eV)) rfl rfl (fun _ h => h) (fun _ _ => ex_index rfl rfl rfl (iN _)) ?_
  obtain ⟨kU, iQ, iR⟩ := run_loadAt ti_3 ag_3 iO iP
  obtain rfl := iR.int
  refine GS_r1 [(119, .pointer (some eV))] (I bG) rfl rfl (fun _ h => h) (fun _ w e => ex_load rfl rfl (iQ w e)) (eR.ext c0) ?_
  refine GS_ev ok [(116, I aP), (120, I bG)] (I (wr (aP - bG))) rfl rfl (fun _ h => h) (fun _ => rfl) ?_
  intro kV c2 ρ iS
  refine AP_forget [(1, pb b), (3, I (ln t.Rows)), (4, I (ln t.Cols)), (6, .slice aA (List.length (List.replicate (Int.toNat (wr ((wr ((ln t.Rows) + (ln t.Cols))) + 2))) (([] : List Int)))) aB), (9, sl aT aS aU), (93, sl aQ t.Cols aR), (94, I (ln t.Cols)), (95, I aD), (111, sl b3 bF b4), (115, I (wr ((wr ((ln t.Rows) + (ln t.Cols))) + 1))), (121, I (wr (aP - bG)))] (by exact iS) fun ρ => ?_
  refine AP_tail 16 [[], [], [], [1, 2], [0, 1, 2, 3], [0, 1, 2, 3, 4], [], [], [6, 7], [6, 7, 8], [], [], [], [11, 12], [11, 12, 13], [10, 11, 12, 13, 14], [0, 1, 2, 3, 4, 5, 6, 7, 8, 9, 10, 11, 12, 13, 14, 15], [0, 1, 2, 3, 4, 5, 6, 7, 8, 9, 10, 11, 12, 13, 14, 15, 16]] (by kernel_rfl) ?_
  obtain ⟨iT, iU, H⟩ := H
  refine LP_indexw (v := sl b3 bF b4) 16 rfl rfl rfl Try.underlying22 ti_3 rfl rfl iK iT iU fun kW iV => (LP_set 17 rfl rfl rfl rfl rfl iV (Le.refl emp) ⟨_, rfl, rfl⟩ (iJ.ext c2) fun iW kX iX iY eW iZ => ?_)
  obtain ⟨kY, i0, i1⟩ := BwL.turn bT (OS.od iX) (Dom.of iZ)
  have i2 := BwL.sub bT (c1.ext c2) iY eW
  have i3 := BwL.but bT eW
  refine Ln _ rfl (Wg (Lv ok 0 [(123, I (wr (aD + 1))), (95, I (wr (aD + 1)))] 2 rfl rfl (Ln _ rfl ?_)))
  have eX := (c0.trans c2)
  have eY : DomLe aM cQ.heap.size bS := (Mt (Oe (Or _) _) a9 (Nat.le_refl _))
  exact ⟨(List.set eJ (Int.toNat (wr ((ln t.Rows) + aD))) (List.set bF (Int.toNat (wr ((wr ((ln t.Rows) + (ln t.Cols))) + 1))) (wr (aP - bG))), wr (aD + 1)), ⟨H.1, _, (un iW iG), Ee ⟨rfl, rfl, rfl, rfl, rfl, rfl, rfl, rfl, trivial⟩, ((((Br aM _).step X321 (Oe (Or _) _)).stepx eX).step i3 eY), i0, i2, (Mt eY ((fun n => Oe i1 n) _) (Nat.le_trans X321.size eX.size))⟩, H.2⟩
 have H := H.2 cX
 refine W_exit ?_
 refine (if_pos rfl).mpr ?_
 refine Wq (Wg (Lv ok 0 [(124, .slice aA (List.length (List.replicate (Int.toNat (wr ((wr ((ln t.Rows) + (ln t.Cols))) + 2))) (([] : List Int)))) aB), (125, I (ln t.Rows)), (126, I (ln t.Cols)), (127, I (wr ((ln t.Rows) + (ln t.Cols)))), (128, I (ln t.Rows)), (129, I (ln t.Cols)), (130, I (wr ((ln t.Rows) + (ln t.Cols)))), (131, I (wr ((wr ((ln t.Rows) + (ln t.Cols))) + 1))), (132, pb b)] 9 rfl rfl ?_))
 have eZ := (Mj aN eI cO)
 have e0 := (cW.but X321 eZ)
 refine Lb 9 (v := sl a t.Rows c) rfl rfl rfl ti_22 ag_22 (fun _ => rfl) rfl e0 rfl rfl ?_
 have e1 := (bB.ext aH)
 have c3 := (Df e1 aE).symm
 have a2 := ((((a7.trans aV).trans aX).trans a0).trans a1)
 have e2 := (e1.ext aG)
 have c4 := (Mj aJ c3 e2)
 have e3 := ((e2.but X53 c3).ext a2)
 have e4 := (Mj aN c4 e3)
 have e5 := (((((bB.ext a8).but X53 c3).ext a2).but X211 c4).but X321 e4)
 refine Lc 10 rfl rfl rfl cal_64 rfl (impl_total_w _ _ H hX r e5) ?_
 rintro _ i4 ⟨kZ, H, rfl, bA⟩
 refine Lc 11 rfl rfl rfl cal_90 rfl (impl_push_w _ _ _ _ _ H i4 eK (eL.ext bA)) ?_
 rintro _ i5 ⟨k0, k1, k2, H, rfl, bH, i6, i7, k3⟩
 refine Ln _ rfl (Wq (Wg ?_))
 have e6 := ((e0.ext bA).but bH (Mj a9 eZ cW))
 refine Lb 0 (v := .agg #[sl a t.Rows c, sl aQ t.Cols aR, sl aK t.Lo aL, sl bI t.Hi bJ]) rfl rfl rfl ti_29 ag_29 (fun h => by cases h) rfl e6 rfl rfl (Lv ok 1 [(137, .pointer (some ⟨b, 2, none⟩))] 2 rfl rfl (Lb 2 (v := sl aK t.Lo aL) rfl rfl rfl ti_23 ag_23 (fun _ => rfl) rfl e6 rfl rfl (Lv ok 3 [(139, .slice aA (List.length (List.replicate (Int.toNat (wr ((wr ((ln t.Rows) + (ln t.Cols))) + 2))) (([] : List Int)))) aB)] 4 rfl rfl ?_)))
 have e7 := (bL.ext aH)
 have c5 := (Df e7 aE).symm
 have e8 := (e7.ext aG)
 have c6 := (Mj aJ c5 e8)
 have e9 := ((e8.but X53 c5).ext a2)
 have fA := (Mj aN c6 e9)
 have c7 := (Mj aJ d1 (d0.ext aG))
 have fB := (cL.ext a1)
 have fC := (Mj aN c7 fB)
 have fD := (((((cL.ext a1).but X211 c7).but X321 fC).ext bA).but bH (Mj a9 fC (fB.but X211 c7)))
 have fE := (cA.ext aH)
 have c8 := (Df fE aE).symm
 have fF := (fE.ext aG)
 have c9 := (Mj aJ c8 fF)
 have fG := ((fF.but X53 c8).ext a2)
 have fH := (Mj aN c9 fG)
 refine Lc 4 rfl rfl rfl cal_91 rfl (impl_restore_w _ _ _ _ _ H i5 r ((e5.ext bA).but bH (Mj a9 e4 (e3.but X211 c4))) bU (((((((bL.ext a8).but X53 c5).ext a2).but X211 c6).but X321 fA).ext bA).but bH (Mj a9 fA (e9.but X211 c6))) a3 fD b5 (((((((cA.ext a8).but X53 c8).ext a2).but X211 c9).but X321 fH).ext bA).but bH (Mj a9 fH (fG.but X211 c9))) a3 fD i6.readf i7) ?_
 rintro _ k4 ⟨fI, k5, k6, H, rfl, i9, fJ, jA, jB, cn⟩
 obtain ⟨fK, fL, rfl⟩ := fJ.shape
 refine Lv ok 5 [(2, sl fK fI fL)] 6 rfl rfl (Ln _ rfl (W_ret ?_))
 have X491 := (X.stepx (xc.trans aH))
 have fM := aE.mono X491.size
 have jC := aE.mono X491.size
 have X494 := (X491.stepx aG)
 have fN := DomLe.fresh aJ jC X494.size
 have jD := aE.mono X491.size
 have jE := DomLe.fresh aJ jD X494.size
 have X498 := ((X494.step X53 (fM.dom _)).stepx a2)
 have fO := DomLe.fresh aN jE X498.size
 have jF := DomLe.fresh a9 fO (X498.step X211 (fN.dom _)).size
 have X501 := (((((((X.stepx (((x.trans bK).trans aH).trans aG)).step X53 (fM.dom _)).stepx a2).step X211 (fN.dom _)).step X321 (fO.dom _)).stepx bA).step bH (jF.dom _))
 have jG := jB.mono X501.size
 exact ⟨_, Ret_of [sl fK fI fL] ⟨⟨rfl, rfl⟩, trivial⟩, _, _, _, H, rfl, (X501.stepx i9).ext, fJ, jA, jG, cn⟩

theorem slices_Equal_int_int_w (sx : List Int) (aA : List Int) (Q : Bool → Prop) (H : slices_Equal_int_int sx aA Q) (w : World) {vx : Value} {hx : PH} (r : RS hx vx sx) (ex : Sub hx w) {aF : Value} {aG : PH} (aH : RS aG aF aA) (aM : Sub aG w) :
  CallsTo Try.prog 88 #[vx, aF] w fun v w' => ∃ aI, Q aI ∧ v = .bool aI ∧ Ext w w' := by
 obtain ⟨a, c, rfl⟩ := r.shape
 obtain ⟨aB, aC, rfl⟩ := aH.shape
 refine enter (args := [sl a sx c, sl aB aA aC]) 26 Try.func88 rfl rfl rfl ?_
 refine Wo [(0, sl a sx c), (1, sl aB aA aC)] ⟨rfl, rfl, trivial⟩ fun ρ => ?_
 have X := Br emp w
 refine Wq (Wg (Lv ok 0 [(4, .bool false)] 1 rfl rfl (Ln _ rfl (Wq (Wq (Wg (Lv ok 0 [(6, sl a sx c), (7, I (ln sx)), (8, sl aB aA aC), (9, I (ln aA)), (10, .bool ((ln sx) != (ln aA)))] 5 rfl rfl (Ln _ rfl ?_))))))))
 refine Wc ((ln sx) != (ln aA)) rfl (fun hc => ?_) (fun hc => ?_)
 ·have H := H.1 hc
  refine Wq (Wg (Lv ok 0 [(4, .bool false)] 1 rfl rfl (Ln _ rfl (W_ret ?_))))
  exact ⟨_, Ret_of [.bool false] ⟨⟨rfl, rfl⟩, trivial⟩, _, H, rfl, X.ext⟩
 have H := H.2 hc
 refine Wk (Wq (Wq (Wg (Lv ok 0 [(11, sl a sx c), (12, I (ln sx)), (13, I 0)] 3 rfl rfl (Ln _ rfl (W_block ?_))))))
 obtain ⟨J, m, Hx, H⟩ := H
 refine W_loop (S := Int) (fun s ρ' w' => J s ∧ ∃ (ρ : Env), ρ' = setAll [(0, sl a sx c), (1, sl aB aA aC), (12, I (ln sx)), (13, I s)] ρ ∧ Ext w w') (fun s => m s) 0 ⟨Hx, _, Ee ⟨rfl, rfl, rfl, rfl, trivial⟩, (Ext.refl _)⟩ ?_
 rintro x _ wx ⟨Hi, ρ, rfl, X8⟩
 have H := H x Hi
 refine Wq (Wg (Lv ok 0 [(14, .bool (decide (x < (ln sx))))] 1 rfl rfl (Ln _ rfl (Wq ?_))))
 refine Wc (decide (x < (ln sx))) rfl (fun aD => ?_) (fun aD => ?_)
 ·have H := H.1 aD
  refine Wk (Wq (W_block (Wq (Wg (Lv ok 0 [(15, I x), (5, I x)] 2 rfl rfl (Ln _ rfl (Wq ?_)))))))
  refine W_quiet mix (by kernel_rfl) ?_
  refine QP_ev ok 0 [(16, sl a sx c), (17, I x)] 2 rfl rfl ?_
  obtain ⟨aJ, hi, aN, H⟩ := H
  refine QP_index 2 rfl rfl rfl Try.underlying22 ti_3 rfl rfl r hi aN fun aV cs aO d => ?_
  refine QP_load 3 rfl rfl rfl ti_3 ag_3 rfl aO d (ex.ext X8) fun aW aP => ?_
  obtain rfl := aP.int
  refine QP_ev ok 4 [(20, sl aB aA aC), (21, I x)] 6 rfl rfl ?_
  obtain ⟨aK, aQ, aR, H⟩ := H
  refine QP_index 6 rfl rfl rfl Try.underlying22 ti_3 rfl rfl aH aQ aR fun aX aY aS aT => ?_
  refine QP_load 7 rfl rfl rfl ti_3 ag_3 rfl aS aT (aM.ext X8) fun aZ aU => ?_
  obtain rfl := aU.int
  refine QP_ev ok 8 [(24, .bool (aJ != aK))] 9 rfl rfl ?_
  refine QP_end _ rfl fun a0 aL => ?_
  refine Wc (aJ != aK) rfl (fun aE => ?_) (fun aE => ?_)
  ·have H := H.1 aE
   refine Wq (Wg (Lv ok 0 [(4, .bool false)] 1 rfl rfl (Ln _ rfl (W_ret ?_))))
   exact ⟨_, Ret_of [.bool false] ⟨⟨rfl, rfl⟩, trivial⟩, _, H, rfl, (X.stepx (X8.trans aL)).ext⟩
  have H := H.2 aE
  refine Wk (Wg (Lv ok 0 [(25, I (wr (x + 1))), (13, I (wr (x + 1)))] 2 rfl rfl ?_))
  exact Ln _ rfl ⟨wr (x + 1), ⟨H.1, _, Ee ⟨rfl, rfl, rfl, rfl, trivial⟩, (X8.trans aL)⟩, H.2⟩
 have H := H.2 aD
 refine W_exit ?_
 refine (if_pos rfl).mpr ?_
 refine Wq (Wg (Lv ok 0 [(4, .bool true)] 1 rfl rfl (Ln _ rfl (W_ret ?_))))
 exact ⟨_, Ret_of [.bool true] ⟨⟨rfl, rfl⟩, trivial⟩, _, H, rfl, (X.stepx X8).ext⟩

theorem impl_anyFlow_w (t : Transport) (Q : (List (List Int)) → Prop) (H : impl_anyFlow t Q) (w : World) {vx : Value} {hx : PH} (r : RS hx vx t.Rows) (ex : Sub hx w) {aW : Value} {aX : PH} (aM : RS aX aW t.Cols) (bJ : Sub aX w) {aY : Value} {aZ : PH} (a0 : RS aZ aY t.Lo) (bK : Sub aZ w) {a1 : Value} {a2 : PH} (a3 : RS a2 a1 t.Hi) (bL : Sub a2 w) :
  CallsTo Try.prog 54 #[.agg #[vx, aW, aY, a1]] w fun v w' => ∃ aN aO aP, Q aN ∧ v = aO ∧ Ext w w' ∧ OD aP aO aN ∧ Sub aP w' ∧ Fresh w.heap.size aP ∧ CanV aO aN := by
 obtain ⟨a, c, rfl⟩ := r.shape
 obtain ⟨aE, aF, rfl⟩ := aM.shape
 obtain ⟨aH, aI, rfl⟩ := a0.shape
 obtain ⟨aJ, aK, rfl⟩ := a3.shape
 refine enter (args := [.agg #[sl a t.Rows c, sl aE t.Cols aF, sl aH t.Lo aI, sl aJ t.Hi aK]]) 24 Try.func54 rfl rfl rfl ?_
 refine Wo [(0, .agg #[sl a t.Rows c, sl aE t.Cols aF, sl aH t.Lo aI, sl aJ t.Hi aK])] ⟨rfl, trivial⟩ fun ρ => ?_
 have X := Br emp w
 refine Wq (Wg (Ly 0 (cs := [sl a t.Rows c, sl aE t.Cols aF, sl aH t.Lo aI, sl aJ t.Hi aK]) rfl rfl rfl rfl rfl fun b wx x aQ f => (Lv ok 1 [(2, .slice none 0 0)] 2 rfl rfl (Ln _ rfl (Wq (Wq ?_))))))
 refine W_quiet mix (by kernel_rfl) ?_
 refine QP_ev ok 0 [(4, pb b)] 1 rfl rfl ?_
 refine QP_ldbox 1 (v := sl a t.Rows c) rfl rfl rfl ti_22 ag_22 (fun _ => rfl) rfl aQ rfl rfl ?_
 obtain ⟨aR, Hd, H⟩ := H
 have a4 := (ex.ext x)
 refine QP_call (I aR) 2 rfl rfl rfl cal_64 rfl (fun bM bN => (impl_total_w _ _ Hd bM r (a4.ext bN)).mono ?_) ?_
 ·rintro _ _ ⟨_, rfl, rfl, x⟩; exact ⟨rfl, x⟩
 refine QP_ev ok 3 [(7, .pointer (some ⟨b, 1, none⟩))] 4 rfl rfl ?_
 refine QP_ldbox 4 (v := sl aE t.Cols aF) rfl rfl rfl ti_22 ag_22 (fun _ => rfl) rfl aQ rfl rfl ?_
 obtain ⟨aS, Hd25, H⟩ := H
 have a5 := (bJ.ext x)
 refine QP_call (I aS) 5 rfl rfl rfl cal_64 rfl (fun bO bP => (impl_total_w _ _ Hd25 bO aM (a5.ext bP)).mono ?_) ?_
 ·rintro _ _ ⟨_, rfl, rfl, x⟩; exact ⟨rfl, x⟩
 refine QP_ev ok 6 [(10, .bool (aR != aS))] 7 rfl rfl ?_
 refine QP_end _ rfl fun bQ aG => ?_
 refine Wc (aR != aS) rfl (fun hc => ?_) (fun hc => ?_)
 ·have H := H.1 hc
  refine Wq (Wg (Lv ok 0 [(2, .slice none 0 0)] 1 rfl rfl (Ln _ rfl (W_ret ?_))))
  exact ⟨_, Ret_of [.slice none 0 0] ⟨⟨rfl, rfl⟩, trivial⟩, _, _, emp, H, rfl, (X.stepx (x.trans aG)).ext, OD.nil, (emp_sub _), (emp_fresh _), CanV.nil⟩
 have H := H.2 hc
 refine Wk (Wq (Wg ?_))
 have a6 := (aQ.ext aG)
 refine Lb 0 (v := .agg #[sl a t.Rows c, sl aE t.Cols aF, sl aH t.Lo aI, sl aJ t.Hi aK]) rfl rfl rfl ti_29 ag_29 (fun h => by cases h) rfl a6 rfl rfl ?_
 have a7 := (a4.ext aG)
 have aL := (x.trans aG)
 refine Lc 1 rfl rfl rfl cal_63 rfl (impl_fill_w _ _ H bQ r a7 aM (a5.ext aG) a0 (bK.ext aL) a3 (bL.ext aL)) ?_
 rintro _ bR ⟨aA, b1, b2, H, rfl, aT, o, a8, bS, cn⟩
 obtain ⟨aB, aC, rfl⟩ := o.shape
 refine Lv ok 2 [(3, sl aB aA aC)] 3 rfl rfl (Ln _ rfl (Wq ?_))
 have X48 := (X.stepx (aL.trans aT))
 have bT := bS.mono (X.stepx aL).size
 obtain ⟨k, hk, H⟩ := jn_elim H
 refine W_join2 (S := Bool) (fun s ρ' w' => k s ∧ ∃ (ρ : Env), ρ' = setAll [(3, sl aB aA aC), (22, .bool s)] ρ ∧ Ext bR w') ?_ ?_
 ·refine W_open mix fun b3 aU => ?_
  refine AP_game 10 [[], [0], [0, 1], [0, 1, 2], [0, 1, 2, 3], [0, 1, 2], [0, 1, 2, 5], [0, 1, 2, 3, 4, 5, 6], [0, 1, 2, 3, 4, 5, 6, 7], [0, 1, 2, 3, 4, 5, 6, 7, 8]] [[(3, none)], [(13, some 0)], [(14, some 1)], [(3, none)], [(16, some 3)], [(1, none)], [(18, some 5)], [(17, some 4), (19, some 6)], [(20, some 7)], [(15, some 2), (21, some 8)]] [(3, none), (22, some 9)] [(0, false), (1, false), (2, false), (3, false), (5, false), (6, false), (4, true), (7, false), (8, false), (9, false)] (by kernel_rfl) (by kernel_rfl) ?_
  refine GS_ev ok [(3, sl aB aA aC)] (sl aB aA aC) rfl rfl (fun _ h => h) (fun _ => rfl) ?_
  refine GS_r0 [(13, sl aB aA aC)] (.bool (ln aA == 0)) rfl rfl (fun _ h => h) (fun _ _ => ex_eqnilc rfl Try.underlying23 rfl rfl (cn _ _ _ rfl) _) ?_
  refine GS_ev ok [(14, .bool (ln aA == 0))] (.bool (ln aA == 0)) rfl rfl (fun _ h => h) (fun _ => rfl) ?_
  generalize a9 : (ln aA == 0) = gb
  cases gb
  ·have H := H.2 a9
   refine GS_ev ok [(3, sl aB aA aC)] (sl aB aA aC) rfl rfl (fun _ h => h) (fun _ => rfl) ?_
   refine GS_ev ok [(1, pb b)] (pb b) rfl rfl (fun _ h => h) (fun _ => rfl) ?_
   have bA := ((a6.ext aT).ext aU)
   refine GS_r1 [(18, pb b)] (sl a t.Rows c) rfl rfl (fun _ h => h) (fun _ w e => ex_ldbox rfl ti_22 ag_22 (fun _ => rfl) rfl e rfl rfl) bA ?_
   refine GS_lp [(16, sl aB aA aC)] rfl rfl (fun _ h => h) rfl fun ρ bU bB => ?_
   have bC := (aU.trans bB)
   refine Lc 0 rfl rfl rfl cal_65 rfl (impl_rowSums_w _ _ H bU o.readf (a8.ext bC)) ?_
   rintro _ b4 ⟨bD, b5, bV, H, rfl, bE, bF, bW, b6⟩
   obtain ⟨bG, bH, rfl⟩ := bF.shape
   refine LP_gs ⟨⟨.inr (bA.ext (bB.trans bE)), trivial⟩, ?_⟩
   obtain ⟨aD, Hd81, H⟩ := H
   have bI := (bC.trans bE)
   refine GS_q [(17, sl bG bD bH), (19, sl a t.Rows c)] (.bool aD) [bV, hx] [sl bG bD bH, sl a t.Rows c] rfl rfl (fun _ h => h) rfl cal_88 (fun _ => rfl) (fun w e => (slices_Equal_int_int_w _ _ _ Hd81 w bF.readf e.1 r e.2.1).mono (fun _ _ h => by obtain ⟨_, rfl, rfl, x⟩ := h; exact ⟨rfl, x⟩)) ⟨bW, ((a7.ext aT).ext bI), trivial⟩ ?_
   refine GS_ev ok [(20, .bool aD)] (.bool (!aD)) rfl rfl (fun _ h => h) (fun _ => rfl) ?_
   refine GS_ev ok [(15, .bool false), (21, .bool (!aD))] (.bool (!aD)) rfl rfl (fun _ h => h) (fun _ => rfl) ?_
   intro b7 bX ρ hn
   refine AP_forget [(3, sl aB aA aC), (22, .bool (!aD))] (by exact hn) fun ρ => ?_
   refine AP_end rfl ?_
   exact ⟨!aD, H, _, Ee ⟨rfl, rfl, trivial⟩, (bI.trans bX)⟩
  have H := H.1 a9
  refine GS_off rfl rfl ?_
  refine GS_off rfl rfl ?_
  refine GS_off rfl rfl ?_
  refine GS_off rfl rfl ?_
  refine GS_off rfl rfl ?_
  refine GS_off rfl rfl ?_
  refine GS_ev ok [(15, .bool true), (21, undef)] (.bool true) rfl rfl (fun _ h => h) (fun _ => rfl) ?_
  intro b8 bY ρ bZ
  refine AP_forget [(3, sl aB aA aC), (22, .bool true)] (by exact bZ) fun ρ => ?_
  refine AP_end rfl ?_
  exact ⟨true, H, _, Ee ⟨rfl, rfl, trivial⟩, (aU.trans bY)⟩
 rintro b0 _ b9 ⟨H, ρ, rfl, X59⟩
 subst hk
 refine Wc (b0) rfl (fun aV => ?_) (fun aV => ?_)
 ·have H := H.1 aV
  refine Wq (Wg (Lv ok 0 [(2, .slice none 0 0)] 1 rfl rfl (Ln _ rfl (W_ret ?_))))
  exact ⟨_, Ret_of [.slice none 0 0] ⟨⟨rfl, rfl⟩, trivial⟩, _, _, emp, H, rfl, (X48.stepx X59).ext, OD.nil, (emp_sub _), (emp_fresh _), CanV.nil⟩
 have H := H.2 aV
 refine Wk (Wq (Wg (Lv ok 0 [(23, sl aB aA aC), (2, sl aB aA aC)] 2 rfl rfl (Ln _ rfl (W_ret ?_)))))
 exact ⟨_, Ret_of [sl aB aA aC] ⟨⟨rfl, rfl⟩, trivial⟩, _, _, _, H, rfl, (X48.stepx X59).ext, o, (a8.ext X59), bT, cn⟩

theorem impl_lowered_w (t : Transport) (x : List (List Int)) (i : Int) (j : Int) (Q : (List (List Int)) → Prop) (H : impl_lowered t x i j Q) (w : World) {vx : Value} {hx : PH} (r : RS hx vx t.Rows) (ex : Sub hx w) {bI : Value} {bJ : PH} (aW : RS bJ bI t.Cols) (cA : Sub bJ w) {bK : Value} {bL : PH} (aT : RS bL bK t.Lo) (cB : Sub bL w) {bM : Value} {bN : PH} (aX : RS bN bM t.Hi) (cC : Sub bN w) {bO : Value} {bP : PH} (aU : RS bP bO x) (cD : Sub bP w) :
  CallsTo Try.prog 102 #[.agg #[vx, bI, bK, bM], bO, I i, I j] w fun v w' => ∃ aY aZ a0, Q aY ∧ v = aZ ∧ Ext w w' ∧ OD a0 aZ aY ∧ Sub a0 w' ∧ Fresh w.heap.size a0 ∧ CanV aZ aY := by
 obtain ⟨a, c, rfl⟩ := r.shape
 obtain ⟨aG, aH, rfl⟩ := aW.shape
 obtain ⟨aC, aD, rfl⟩ := aT.shape
 obtain ⟨aP, aQ, rfl⟩ := aX.shape
 obtain ⟨aA, aB, rfl⟩ := aU.shape
 refine enter (args := [.agg #[sl a t.Rows c, sl aG t.Cols aH, sl aC t.Lo aD, sl aP t.Hi aQ], sl aA x aB, I i, I j]) 66 Try.func102 rfl rfl rfl ?_
 refine Wo [(0, .agg #[sl a t.Rows c, sl aG t.Cols aH, sl aC t.Lo aD, sl aP t.Hi aQ]), (1, sl aA x aB), (2, I i), (3, I j)] ⟨rfl, rfl, rfl, rfl, trivial⟩ fun ρ => ?_
 have X := Br emp w
 refine Wq (Wg (Ly 0 (cs := [sl a t.Rows c, sl aG t.Cols aH, sl aC t.Lo aD, sl aP t.Hi aQ]) rfl rfl rfl rfl rfl fun b wx bQ a1 f => (Lv ok 1 [(8, .slice none 0 0)] 2 rfl rfl (Ln _ rfl (Wq ?_)))))
 refine W_quiet mix (by kernel_rfl) ?_
 refine QP_ev ok 0 [(14, pb b)] 1 rfl rfl ?_
 refine QP_ldbox 1 (v := sl a t.Rows c) rfl rfl rfl ti_22 ag_22 (fun _ => rfl) rfl a1 rfl rfl ?_
 refine QP_ev ok 2 [(16, I (ln t.Rows)), (17, I i), (18, .pointer (some ⟨b, 1, none⟩))] 5 rfl rfl ?_
 refine QP_ldbox 5 (v := sl aG t.Cols aH) rfl rfl rfl ti_22 ag_22 (fun _ => rfl) rfl a1 rfl rfl ?_
 refine QP_ev ok 6 [(20, I (ln t.Cols)), (21, I (wr (i * (ln t.Cols)))), (22, I j), (23, I (wr ((wr (i * (ln t.Cols))) + j))), (9, I (ln t.Rows)), (10, I (wr ((wr (i * (ln t.Cols))) + j)))] 12 rfl rfl ?_
 refine QP_end _ rfl fun cE a2 => ?_
 refine Wq (Wg ?_)
 have a3 := (a1.ext a2)
 refine Lb 0 (v := .agg #[sl a t.Rows c, sl aG t.Cols aH, sl aC t.Lo aD, sl aP t.Hi aQ]) rfl rfl rfl ti_29 ag_29 (fun h => by cases h) rfl a3 rfl rfl (Lv ok 1 [(25, sl aA x aB), (26, I (wr ((wr (i * (ln t.Cols))) + j)))] 3 rfl rfl ?_)
 have xc := (bQ.trans a2)
 have a4 := (ex.ext xc)
 have a5 := (cA.ext xc)
 have a6 := (cB.ext xc)
 have a7 := (cC.ext xc)
 have a8 := (cD.ext xc)
 refine Lc 3 rfl rfl rfl cal_89 rfl (impl_residual_w _ _ _ _ H cE r a4 aW a5 aT a6 aX a7 aU a8) ?_
 rintro _ d0 ⟨aI, d1, d2, H, rfl, bR, o, cF, aE⟩
 obtain ⟨aJ, aK, rfl⟩ := o.shape
 refine Lv ok 4 [(11, sl aJ aI aK)] 5 rfl rfl (Ln _ rfl (Wq ?_))
 refine W_open mix fun d3 a9 => ?_
 refine AP_game 21 [[], [], [], [], [2, 3], [], [], [5, 6], [5, 6, 7], [], [5, 6, 7, 8, 9], [5, 6, 7, 8, 9, 10], [], [12], [], [12, 13, 14], [12, 13, 14, 15], [], [12, 13, 14, 15, 16, 17], [12, 13, 14, 15, 16, 17, 18], [5, 6, 7, 8, 9, 10, 11, 12, 13, 14, 15, 16, 17, 18, 19], [0, 1, 2, 3, 4, 5, 6, 7, 8, 9, 10, 11, 12, 13, 14, 15, 16, 17, 18, 19, 20], [0, 1, 2, 3, 4, 5, 6, 7, 8, 9, 10, 11, 12, 13, 14, 15, 16, 17, 18, 19, 20, 21]] [[(11, none)], [(2, none)], [(9, none)], [(3, none)], [(30, some 2), (31, some 3)], [(1, none)], [(2, none)], [(33, some 5), (34, some 6)], [(35, some 7)], [(3, none)], [(36, some 8), (37, some 9)], [(38, some 10)], [(4, none)], [(40, some 12)], [(2, none)], [(41, some 13), (42, some 14)], [(43, some 15)], [(3, none)], [(44, some 16), (45, some 17)], [(46, some 18)], [(39, some 11), (47, some 19)]] [(1, none), (2, none), (3, none), (4, none), (10, none), (11, none), (28, some 0), (29, some 1), (32, some 4), (48, some 20)] [(0, false), (1, false), (2, false), (3, false), (4, false), (5, false), (6, false), (7, false), (8, false), (9, false), (10, false), (11, false), (12, false), (13, false), (14, false), (15, false), (16, false), (17, false), (18, false), (19, false), (20, false)] (by kernel_rfl) (by kernel_rfl) ?_
 refine GS_ev ok [(11, sl aJ aI aK)] (sl aJ aI aK) rfl rfl (fun _ h => h) (fun _ => rfl) ?_
 refine GS_ev ok [(2, I i)] (I i) rfl rfl (fun _ h => h) (fun _ => rfl) ?_
 refine GS_ev ok [(9, I (ln t.Rows))] (I (ln t.Rows)) rfl rfl (fun _ h => h) (fun _ => rfl) ?_
 refine GS_ev ok [(3, I j)] (I j) rfl rfl (fun _ h => h) (fun _ => rfl) ?_
 refine GS_ev ok [(30, I (ln t.Rows)), (31, I j)] (I (wr ((ln t.Rows) + j))) rfl rfl (fun _ h => h) (fun _ => rfl) ?_
 refine GS_ev ok [(1, sl aA x aB)] (sl aA x aB) rfl rfl (fun _ h => h) (fun _ => rfl) ?_
 refine GS_ev ok [(2, I i)] (I i) rfl rfl (fun _ h => h) (fun _ => rfl) ?_
 obtain ⟨bA, hi, cG, H⟩ := H
 obtain ⟨bS, cs, cH, cI, d⟩ := run_indexAt Try.underlying23 ti_22 aU .i64 _ bA hi cG
 refine GS_r0 [(33, sl aA x aB), (34, I i)] (.pointer (some bS)) rfl rfl (fun _ h => h) (fun _ _ => ex_index rfl rfl rfl (cH _)) ?_
 obtain ⟨d4, cJ, cK⟩ := run_loadAt ti_22 ag_22 cI d
 have bT := cK.slice
 obtain ⟨bU, bV, rfl⟩ := bT.shape
 have aV := (bR.trans a9)
 have bB := (a8.ext aV)
 refine GS_r1 [(35, .pointer (some bS))] (sl bU bA bV) rfl rfl (fun _ h => h) (fun _ w e => ex_load rfl rfl (cJ w e)) bB ?_
 refine GS_ev ok [(3, I j)] (I j) rfl rfl (fun _ h => h) (fun _ => rfl) ?_
 obtain ⟨aR, cL, cM, H⟩ := H
 obtain ⟨bW, d5, cN, cO, cP⟩ := run_indexAt Try.underlying22 ti_3 bT .i64 _ aR cL cM
 refine GS_r0 [(36, sl bU bA bV), (37, I j)] (.pointer (some bW)) rfl rfl (fun _ h => h) (fun _ _ => ex_index rfl rfl rfl (cN _)) ?_
 obtain ⟨d6, cQ, cR⟩ := run_loadAt ti_3 ag_3 cO cP
 obtain rfl := cR.int
 refine GS_r1 [(38, .pointer (some bW))] (I aR) rfl rfl (fun _ h => h) (fun _ w e => ex_load rfl rfl (cQ w e)) bB ?_
 refine GS_ev ok [(4, pb b)] (.pointer (some ⟨b, 2, none⟩)) rfl rfl (fun _ h => h) (fun _ => rfl) ?_
 have bX := (a3.ext aV)
 refine GS_r1 [(40, .pointer (some ⟨b, 2, none⟩))] (sl aC t.Lo aD) rfl rfl (fun _ h => h) (fun _ w e => ex_ldbox rfl ti_23 ag_23 (fun _ => rfl) rfl e rfl rfl) bX ?_
 refine GS_ev ok [(2, I i)] (I i) rfl rfl (fun _ h => h) (fun _ => rfl) ?_
 obtain ⟨bC, cS, cT, H⟩ := H
 obtain ⟨bY, d7, cU, cV, cW⟩ := run_indexAt Try.underlying23 ti_22 aT .i64 _ bC cS cT
 refine GS_r0 [(41, sl aC t.Lo aD), (42, I i)] (.pointer (some bY)) rfl rfl (fun _ h => h) (fun _ _ => ex_index rfl rfl rfl (cU _)) ?_
 obtain ⟨d8, cX, cY⟩ := run_loadAt ti_22 ag_22 cV cW
 have bZ := cY.slice
 obtain ⟨b0, b1, rfl⟩ := bZ.shape
 have bD := (a6.ext aV)
 refine GS_r1 [(43, .pointer (some bY))] (sl b0 bC b1) rfl rfl (fun _ h => h) (fun _ w e => ex_load rfl rfl (cX w e)) bD ?_
 refine GS_ev ok [(3, I j)] (I j) rfl rfl (fun _ h => h) (fun _ => rfl) ?_
 obtain ⟨aS, cZ, c0, H⟩ := H
 obtain ⟨b2, d9, c1, c2, c3⟩ := run_indexAt Try.underlying22 ti_3 bZ .i64 _ aS cZ c0
 refine GS_r0 [(44, sl b0 bC b1), (45, I j)] (.pointer (some b2)) rfl rfl (fun _ h => h) (fun _ _ => ex_index rfl rfl rfl (c1 _)) ?_
 obtain ⟨eA, c4, c5⟩ := run_loadAt ti_3 ag_3 c2 c3
 obtain rfl := c5.int
 refine GS_r1 [(46, .pointer (some b2))] (I aS) rfl rfl (fun _ h => h) (fun _ w e => ex_load rfl rfl (c4 w e)) bD ?_
 refine GS_ev ok [(39, I aR), (47, I aS)] (I (wr (aR - aS))) rfl rfl (fun _ h => h) (fun _ => rfl) ?_
 intro c6 aL ρ hn
 refine AP_forget [(1, sl aA x aB), (2, I i), (3, I j), (4, pb b), (10, I (wr ((wr (i * (ln t.Cols))) + j))), (11, sl aJ aI aK), (28, sl aJ aI aK), (29, I i), (32, I (wr ((ln t.Rows) + j))), (48, I (wr (aR - aS)))] (by exact hn) fun ρ => ?_
 refine AP_tail 21 [[], [], [], [], [2, 3], [], [], [5, 6], [5, 6, 7], [], [5, 6, 7, 8, 9], [5, 6, 7, 8, 9, 10], [], [12], [], [12, 13, 14], [12, 13, 14, 15], [], [12, 13, 14, 15, 16, 17], [12, 13, 14, 15, 16, 17, 18], [5, 6, 7, 8, 9, 10, 11, 12, 13, 14, 15, 16, 17, 18, 19], [0, 1, 2, 3, 4, 5, 6, 7, 8, 9, 10, 11, 12, 13, 14, 15, 16, 17, 18, 19, 20], [0, 1, 2, 3, 4, 5, 6, 7, 8, 9, 10, 11, 12, 13, 14, 15, 16, 17, 18, 19, 20, 21]] (by kernel_rfl) ?_
 refine Lc 21 rfl rfl rfl cal_90 rfl (impl_push_w _ _ _ _ _ H c6 o (cF.ext (a9.trans aL))) ?_
 rintro _ c7 ⟨bE, eB, eC, H, rfl, aF, c8, c9, dm⟩
 refine Lv ok 22 [(12, I bE)] 23 rfl rfl (Ln _ rfl (Wq (Wg ?_)))
 have dj := (Df a3 aE).symm
 refine Lb 0 (v := .agg #[sl a t.Rows c, sl aG t.Cols aH, sl aC t.Lo aD, sl aP t.Hi aQ]) rfl rfl rfl ti_29 ag_29 (fun h => by cases h) rfl ((bX.ext aL).but aF dj) rfl rfl (Lv ok 1 [(51, sl aA x aB), (52, sl aJ aI aK), (53, I (wr ((wr (i * (ln t.Cols))) + j)))] 4 rfl rfl ?_)
 have bF := (aV.trans aL)
 have dA := (Df a4 aE).symm
 have dB := (Df a5 aE).symm
 have dC := (Df a6 aE).symm
 have dD := (Df a7 aE).symm
 have dE := (Df a8 aE).symm
 refine Lc 4 rfl rfl rfl cal_91 rfl (impl_restore_w _ _ _ _ _ H c7 r ((a4.ext bF).but aF dA) aW ((a5.ext bF).but aF dB) aT ((bD.ext aL).but aF dC) aX ((a7.ext bF).but aF dD) aU ((bB.ext aL).but aF dE) c8.readf c9) ?_
 rintro _ eD ⟨aM, eE, eF, H, rfl, dF, b3, bG, dG, cn⟩
 obtain ⟨aN, aO, rfl⟩ := b3.shape
 refine Lv ok 5 [(13, sl aN aM aO)] 6 rfl rfl (Ln _ rfl (Wq (Wg (Lv ok 0 [(55, sl aN aM aO), (56, I i)] 2 rfl rfl ?_))))
 obtain ⟨bH, dH, dI, H⟩ := H
 refine LP_indexb (v := sl aN aM aO) 2 rfl rfl rfl Try.underlying23 ti_22 rfl rfl b3 dH dI fun eG u dJ rest dK bw => (LP_ldcell 3 rfl rfl rfl ti_22 ag_22 rfl dK bG ?_)
 have b4 := bw.od
 obtain ⟨b5, b6, rfl⟩ := b4.shape
 have b7 := Sub.le bG bw.le
 have b8 : OS 3 dJ emp (sl b5 bH b6) bH := OD.flat b4
 refine Lv ok 4 [(59, I j)] 5 rfl rfl ?_
 obtain ⟨dL, dM, dN, H⟩ := H
 refine Li 5 rfl rfl rfl Try.underlying22 ti_3 rfl rfl b8.readf dM dN fun eH eI dO dP => (Lo 6 rfl rfl rfl ti_3 ag_3 rfl dO dP b7 fun eJ dQ => ?_)
 obtain rfl := dQ.int
 refine Lv ok 7 [(62, I bE), (63, I (wr (dL - bE)))] 9 rfl rfl ?_
 obtain ⟨dR, hl, H⟩ := H
 refine LP_indexw (v := sl b5 bH b6) 9 rfl rfl rfl Try.underlying22 ti_3 rfl rfl b8 dR hl fun eK wa => (LP_set 10 rfl rfl rfl rfl rfl wa (Le.refl emp) ⟨_, rfl, rfl⟩ b7 fun eL eM dS dT y dU => ?_)
 obtain ⟨eN, dV, dd⟩ := BwL.turn bw (OS.od dS) (Dom.of dU)
 have dW := BwL.sub bw bG dT y
 have dX := BwL.but bw y
 refine Ln _ rfl (Wq (Wg (Lv ok 0 [(65, sl aN aM aO), (8, sl aN aM aO)] 2 rfl rfl (Ln _ rfl (W_ret ?_)))))
 have dY := aE.mono (X.stepx xc).size
 have X166 := ((X.stepx ((((bQ.trans a2).trans bR).trans a9).trans aL)).step aF (dY.dom _))
 have b9 := dG.mono X166.size
 have X167 := (X166.stepx dF)
 have dZ := ((fun n => Oe dd n) _).fresh b9 X167.size
 exact ⟨_, Ret_of [sl aN aM aO] ⟨⟨rfl, rfl⟩, trivial⟩, _, _, _, H, rfl, (X167.step dX (b9.dom _)).ext, dV, dW, dZ, (CanV.len (by simp) cn)⟩

theorem impl_firstFrom_w (t : Transport) (x : List (List Int)) (fromx : Int) (Q : (List (List Int)) → Prop) (H : impl_firstFrom t x fromx Q) (w : World) {vx : Value} {hx : PH} (r : RS hx vx t.Rows) (ex : Sub hx w) {a0 : Value} {aK : PH} (a1 : RS aK a0 t.Cols) (bF : Sub aK w) {a2 : Value} {aL : PH} (a3 : RS aL a2 t.Lo) (bG : Sub aL w) {a4 : Value} {aM : PH} (a5 : RS aM a4 t.Hi) (bH : Sub aM w) {a6 : Value} {aB : PH} (aR : RS aB a6 x) (a7 : Sub aB w) :
  CallsTo Try.prog 87 #[.agg #[vx, a0, a2, a4], a6, I fromx] w fun v w' => ∃ aS aT aU, Q aS ∧ v = aT ∧ Ext w w' ∧ RS aU aT aS ∧ Sub aU w' ∧ DomLe (un hx (un aK (un aL (un aM aB)))) w.heap.size aU ∧ CanV aT aS := by
 obtain ⟨a, c, rfl⟩ := r.shape
 obtain ⟨aC, aD, rfl⟩ := a1.shape
 obtain ⟨aG, aH, rfl⟩ := a3.shape
 obtain ⟨aI, aJ, rfl⟩ := a5.shape
 obtain ⟨aV, aW, rfl⟩ := aR.shape
 refine enter (args := [.agg #[sl a t.Rows c, sl aC t.Cols aD, sl aG t.Lo aH, sl aI t.Hi aJ], sl aV x aW, I fromx]) 33 Try.func87 rfl rfl rfl ?_
 refine Wo [(0, .agg #[sl a t.Rows c, sl aC t.Cols aD, sl aG t.Lo aH, sl aI t.Hi aJ]), (1, sl aV x aW), (2, I fromx)] ⟨rfl, rfl, rfl, trivial⟩ fun ρ => ?_
 have D28 : Dom (un hx (un aK (un aL (un aM aB)))) aB := (Ot (Dom.r _ _) (Ot (Dom.r _ _) (Ot (Dom.r _ _) (Ot (Dom.r _ _) (Or _)))))
 have X := Br emp w
 refine Wq (Wg (Ly 0 (cs := [sl a t.Rows c, sl aC t.Cols aD, sl aG t.Lo aH, sl aI t.Hi aJ]) rfl rfl rfl rfl rfl fun b wx aX a8 f => (Lv ok 1 [(6, .slice none 0 0)] 2 rfl rfl (Ln _ rfl (Wq (Wg (Lv ok 0 [(9, .pointer (some ⟨b, 1, none⟩))] 1 rfl rfl (Lb 1 (v := sl aC t.Cols aD) rfl rfl rfl ti_22 ag_22 (fun _ => rfl) rfl a8 rfl rfl (Lv ok 2 [(11, I (ln t.Cols)), (7, I (ln t.Cols))] 4 rfl rfl ?_)))))))))
 refine Ln _ rfl (Wq (Wq (Wg (Lv ok 0 [(12, I fromx), (13, I (wr (fromx + 1))), (8, I (wr (fromx + 1)))] 3 rfl rfl (Ln _ rfl (W_block ?_))))))
 obtain ⟨hz, H⟩ := H
 obtain ⟨J, m, Hx, H⟩ := H
 refine W_loop (S := (List (List Int)) × Int) (fun s ρ' w' => J s.1 s.2 ∧ ∃ (ρ : Env) (aO : Value) (aN : PH), ρ' = setAll [(1, aO), (3, pb b), (7, I (ln t.Cols)), (8, I s.2)] ρ ∧ Ext wx w' ∧ RS aN aO s.1 ∧ Sub aN w' ∧ DomLe (un hx (un aK (un aL (un aM aB)))) w.heap.size aN ∧ Dj aN (bx b 29 [sl a t.Rows c, sl aC t.Cols aD, sl aG t.Lo aH, sl aI t.Hi aJ]) ∧ CanV aO s.1) (fun s => m s.1 s.2) (x, wr (fromx + 1)) ⟨Hx, _, sl aV x aW, aB, Ee ⟨rfl, rfl, rfl, rfl, trivial⟩, (Ext.refl _), aR, (a7.ext aX), (Oe D28 _), (Df a7 f), (can_of aR hz)⟩ ?_
 rintro ⟨aA, p⟩ _ bR ⟨Hi, ρ, aO, aN, rfl, HF⟩
 revert HF
 refine bb6 fun X40 aY a9 bI d cn => ?_
 have H := H aA p Hi
 obtain ⟨aE, aF, rfl⟩ := aY.shape
 refine Wq (Wq (Wg (Lv ok 0 [(14, I p), (15, pb b)] 2 rfl rfl ?_)))
 have bA := (a8.ext X40)
 refine Lb 2 (v := sl a t.Rows c) rfl rfl rfl ti_22 ag_22 (fun _ => rfl) rfl bA rfl rfl (Lv ok 3 [(17, I (ln t.Rows)), (18, I (ln t.Cols)), (19, I (wr ((ln t.Rows) * (ln t.Cols)))), (20, .bool (decide (p < (wr ((ln t.Rows) * (ln t.Cols))))))] 7 rfl rfl (Ln _ rfl ?_))
 refine Wc (decide (p < (wr ((ln t.Rows) * (ln t.Cols))))) rfl (fun hc => ?_) (fun hc => ?_)
 ·have H := H.1 hc
  refine Wk (Wq (W_block ?_))
  refine W_open mix fun bS aP => ?_
  refine AP_game 8 [[], [], [], [], [2, 3], [], [], [5, 6], [0, 1, 2, 3, 4, 5, 6, 7], [0, 1, 2, 3, 4, 5, 6, 7, 8]] [[(3, none)], [(1, none)], [(8, none)], [(7, none)], [(25, some 2), (26, some 3)], [(8, none)], [(7, none)], [(28, some 5), (29, some 6)]] [(1, none), (3, none), (7, none), (8, none), (23, some 0), (24, some 1), (27, some 4), (30, some 7)] [(0, false), (1, false), (2, false), (3, false), (4, false), (5, false), (6, false), (7, false)] (by kernel_rfl) (by kernel_rfl) ?_
  have bB := (bA.ext aP)
  refine GS_r1 [(3, pb b)] (.agg #[sl a t.Rows c, sl aC t.Cols aD, sl aG t.Lo aH, sl aI t.Hi aJ]) rfl rfl (fun _ h => h) (fun _ w e => ex_ldbox rfl ti_29 ag_29 (fun h => by cases h) rfl e rfl rfl) bB ?_
  refine GS_ev ok [(1, sl aE aA aF)] (sl aE aA aF) rfl rfl (fun _ h => h) (fun _ => rfl) ?_
  refine GS_ev ok [(8, I p)] (I p) rfl rfl (fun _ h => h) (fun _ => rfl) ?_
  refine GS_ev ok [(7, I (ln t.Cols))] (I (ln t.Cols)) rfl rfl (fun _ h => h) (fun _ => rfl) ?_
  obtain ⟨bJ, H⟩ := H
  refine GS_r0 [(25, I p), (26, I (ln t.Cols))] (I (wr (Int.tdiv p (ln t.Cols)))) rfl rfl (fun _ h => h) (fun _ _ => ex_quo rfl rfl rfl bJ _) ?_
  refine GS_ev ok [(8, I p)] (I p) rfl rfl (fun _ h => h) (fun _ => rfl) ?_
  refine GS_ev ok [(7, I (ln t.Cols))] (I (ln t.Cols)) rfl rfl (fun _ h => h) (fun _ => rfl) ?_
  obtain ⟨bK, H⟩ := H
  refine GS_r0 [(28, I p), (29, I (ln t.Cols))] (I (Int.tmod p (ln t.Cols))) rfl rfl (fun _ h => h) (fun _ _ => ex_rem rfl rfl rfl bK _) ?_
  intro bL aQ ρ hn
  refine AP_forget [(1, sl aE aA aF), (3, pb b), (7, I (ln t.Cols)), (8, I p), (23, .agg #[sl a t.Rows c, sl aC t.Cols aD, sl aG t.Lo aH, sl aI t.Hi aJ]), (24, sl aE aA aF), (27, I (wr (Int.tdiv p (ln t.Cols)))), (30, I (Int.tmod p (ln t.Cols)))] (by exact hn) fun ρ => ?_
  refine AP_tail 8 [[], [], [], [], [2, 3], [], [], [5, 6], [0, 1, 2, 3, 4, 5, 6, 7], [0, 1, 2, 3, 4, 5, 6, 7, 8]] (by kernel_rfl) ?_
  have xc := (((aX.trans X40).trans aP).trans aQ)
  refine Lc 8 rfl rfl rfl cal_102 rfl (impl_lowered_w _ _ _ _ _ H bL r (ex.ext xc) a1 (bF.ext xc) a3 (bG.ext xc) a5 (bH.ext xc) aY (a9.ext (aP.trans aQ))) ?_
  rintro _ bT ⟨aZ, bU, bM, H, rfl, bN, o, bO, bC, bP⟩
  obtain ⟨bD, bE, rfl⟩ := o.shape
  refine Lv ok 9 [(1, sl bD aZ bE)] 10 rfl rfl (Ln _ rfl (Wg (Lv ok 0 [(21, I p), (22, I (wr (p + 1))), (8, I (wr (p + 1)))] 3 rfl rfl (Ln _ rfl ?_))))
  have bQ := bC.mono (X.stepx xc).size
  have dj := (Df (bB.ext aQ) bC).symm
  exact ⟨(aZ, wr (p + 1)), ⟨H.1, _, sl bD aZ bE, bM, Ee ⟨rfl, rfl, rfl, rfl, trivial⟩, (((X40.trans aP).trans aQ).trans bN), o.readf, bO, (bQ.dom _), dj, bP⟩, H.2⟩
 have H := H.2 hc
 refine W_exit ?_
 refine (if_pos rfl).mpr ?_
 refine Wq (Wg (Lv ok 0 [(32, sl aE aA aF), (6, sl aE aA aF)] 2 rfl rfl (Ln _ rfl (W_ret ?_))))
 exact ⟨_, Ret_of [sl aE aA aF] ⟨⟨rfl, rfl⟩, trivial⟩, _, _, _, H, rfl, (X.stepx (aX.trans X40)).ext, aY, a9, bI, cn⟩

theorem impl_firstFlow_w (t : Transport) (Q : (List (List Int)) → Prop) (H : impl_firstFlow t Q) (w : World) {vx : Value} {hx : PH} (r : RS hx vx t.Rows) (ex : Sub hx w) {aT : Value} {aA : PH} (aL : RS aA aT t.Cols) (a5 : Sub aA w) {aU : Value} {aB : PH} (aM : RS aB aU t.Lo) (a6 : Sub aB w) {aV : Value} {aC : PH} (aN : RS aC aV t.Hi) (a7 : Sub aC w) :
  CallsTo Try.prog 49 #[.agg #[vx, aT, aU, aV]] w fun v w' => ∃ aO aP aQ, Q aO ∧ v = aP ∧ Ext w w' ∧ RS aQ aP aO ∧ Sub aQ w' ∧ DomLe (un hx (un aA (un aB aC))) w.heap.size aQ ∧ CanV aP aO := by
 obtain ⟨a, c, rfl⟩ := r.shape
 obtain ⟨aE, aF, rfl⟩ := aL.shape
 obtain ⟨aG, aH, rfl⟩ := aM.shape
 obtain ⟨aI, aJ, rfl⟩ := aN.shape
 refine enter (args := [.agg #[sl a t.Rows c, sl aE t.Cols aF, sl aG t.Lo aH, sl aI t.Hi aJ]]) 11 Try.func49 rfl rfl rfl ?_
 refine Wo [(0, .agg #[sl a t.Rows c, sl aE t.Cols aF, sl aG t.Lo aH, sl aI t.Hi aJ])] ⟨rfl, trivial⟩ fun ρ => ?_
 have D : Dom (un hx (un aA (un aB aC))) hx := (Dom.l _ _)
 have D19 : Dom (un hx (un aA (un aB aC))) aA := (Ot (Dom.r _ _) (Dom.l _ _))
 have D20 : Dom (un hx (un aA (un aB aC))) aB := (Ot (Dom.r _ _) (Ot (Dom.r _ _) (Dom.l _ _)))
 have D21 : Dom (un hx (un aA (un aB aC))) aC := (Ot (Dom.r _ _) (Ot (Dom.r _ _) (Ot (Dom.r _ _) (Or _))))
 have X := Br emp w
 refine Wq (Wg (Ly 0 (cs := [sl a t.Rows c, sl aE t.Cols aF, sl aG t.Lo aH, sl aI t.Hi aJ]) rfl rfl rfl rfl rfl fun b wx x aW f => (Lv ok 1 [(2, .slice none 0 0)] 2 rfl rfl (Ln _ rfl (Wq (Wg (Lb 0 (v := .agg #[sl a t.Rows c, sl aE t.Cols aF, sl aG t.Lo aH, sl aI t.Hi aJ]) rfl rfl rfl ti_29 ag_29 (fun h => by cases h) rfl aW rfl rfl ?_)))))))
 have aX := (ex.ext x)
 have aY := (a5.ext x)
 have aZ := (a6.ext x)
 have a0 := (a7.ext x)
 refine Lc 1 rfl rfl rfl cal_54 rfl (impl_anyFlow_w _ _ H wx r aX aL aY aM aZ aN a0) ?_
 rintro _ a8 ⟨aK, bG, bH, H, rfl, aD, o, a9, bA, cn⟩
 obtain ⟨aR, aS, rfl⟩ := o.shape
 refine Lv ok 2 [(3, sl aR aK aS)] 3 rfl rfl (Ln _ rfl (Wq (Wq (Wg (Lv ok 0 [(6, sl aR aK aS)] 1 rfl rfl (LP_val 1 _ rfl rfl (ex_eqnilc rfl Try.underlying23 rfl rfl (cn _ _ _ rfl) _) (Ln _ rfl ?_)))))))
 refine Wc (ln aK == 0) rfl (fun hc => ?_) (fun hc => ?_)
 ·have H := H.1 hc
  refine Wq (Wg (Lv ok 0 [(2, .slice none 0 0)] 1 rfl rfl (Ln _ rfl (W_ret ?_))))
  exact ⟨_, Ret_of [.slice none 0 0] ⟨⟨rfl, rfl⟩, trivial⟩, _, _, emp, H, rfl, (X.stepx (x.trans aD)).ext, (.inl ⟨rfl, rfl⟩), (emp_sub _), (fun _ _ _ => rfl), CanV.nil⟩
 have H := H.2 hc
 refine Wk (Wq (Wg (Lb 0 (v := .agg #[sl a t.Rows c, sl aE t.Cols aF, sl aG t.Lo aH, sl aI t.Hi aJ]) rfl rfl rfl ti_29 ag_29 (fun h => by cases h) rfl (aW.ext aD) rfl rfl (Lv ok 1 [(9, sl aR aK aS)] 2 rfl rfl (Lc 2 rfl rfl rfl cal_87 rfl (impl_firstFrom_w _ _ _ _ H a8 r (aX.ext aD) aL (aY.ext aD) aM (aZ.ext aD) aN (a0.ext aD) o.readf a9) ?_)))))
 rintro _ bI ⟨a1, bJ, bK, H, rfl, bB, a2, bC, bD, bE⟩
 obtain ⟨a3, a4, rfl⟩ := a2.shape
 refine Lv ok 3 [(2, sl a3 a1 a4)] 4 rfl rfl (Ln _ rfl (W_ret ?_))
 have X54 := (X.stepx x)
 have bF := bA.mono X54.size
 have X55 := (X54.stepx aD)
 exact ⟨_, Ret_of [sl a3 a1 a4] ⟨⟨rfl, rfl⟩, trivial⟩, _, _, _, H, rfl, (X55.stepx bB).ext, a2, bC, (Mt (Mu (Oe D _) (Mu (Oe D19 _) (Mu (Oe D20 _) (Mu (Oe D21 _) (bF.dom _))))) bD X55.size), bE⟩

theorem impl_nextFlow_w (t : Transport) (x : List (List Int)) (Q : (List (List Int)) → Prop) (H : impl_nextFlow t x Q) (w : World) {vx : Value} {hx : PH} (r : RS hx vx t.Rows) (ex : Sub hx w) {bT : Value} {aA : PH} (aZ : RS aA bT t.Cols) (cD : Sub aA w) {bU : Value} {aB : PH} (a0 : RS aB bU t.Lo) (cE : Sub aB w) {bV : Value} {aC : PH} (aT : RS aC bV t.Hi) (cF : Sub aC w) {bW : Value} {aI : PH} (a1 : RS aI bW x) (cG : Sub aI w) :
  CallsTo Try.prog 51 #[.agg #[vx, bT, bU, bV], bW] w fun v w' => ∃ a2 a3 a4, Q a2 ∧ v = a3 ∧ Ext w w' ∧ RS a4 a3 a2 ∧ Sub a4 w' ∧ DomLe (un hx (un aA (un aB (un aC aI)))) w.heap.size a4 ∧ CanV a3 a2 := by
 obtain ⟨a, c, rfl⟩ := r.shape
 obtain ⟨aJ, aK, rfl⟩ := aZ.shape
 obtain ⟨aO, aP, rfl⟩ := a0.shape
 obtain ⟨aL, aM, rfl⟩ := aT.shape
 obtain ⟨aD, aE, rfl⟩ := a1.shape
 refine enter (args := [.agg #[sl a t.Rows c, sl aJ t.Cols aK, sl aO t.Lo aP, sl aL t.Hi aM], sl aD x aE]) 77 Try.func51 rfl rfl rfl ?_
 refine Wo [(0, .agg #[sl a t.Rows c, sl aJ t.Cols aK, sl aO t.Lo aP, sl aL t.Hi aM]), (1, sl aD x aE)] ⟨rfl, rfl, trivial⟩ fun ρ => ?_
 have D : Dom (un hx (un aA (un aB (un aC aI)))) hx := (Dom.l _ _)
 have D25 : Dom (un hx (un aA (un aB (un aC aI)))) aA := (Ot (Dom.r _ _) (Dom.l _ _))
 have D26 : Dom (un hx (un aA (un aB (un aC aI)))) aB := (Ot (Dom.r _ _) (Ot (Dom.r _ _) (Dom.l _ _)))
 have D27 : Dom (un hx (un aA (un aB (un aC aI)))) aC := (Ot (Dom.r _ _) (Ot (Dom.r _ _) (Ot (Dom.r _ _) (Dom.l _ _))))
 have X := Br emp w
 refine Wq (Wg (Ly 0 (cs := [sl a t.Rows c, sl aJ t.Cols aK, sl aO t.Lo aP, sl aL t.Hi aM]) rfl rfl rfl rfl rfl fun b wx bX a5 f => (Lv ok 1 [(4, .slice none 0 0)] 2 rfl rfl (Ln _ rfl (Wq ?_)))))
 refine W_quiet mix (by kernel_rfl) ?_
 refine QP_ev ok 0 [(12, pb b)] 1 rfl rfl ?_
 refine QP_ldbox 1 (v := sl a t.Rows c) rfl rfl rfl ti_22 ag_22 (fun _ => rfl) rfl a5 rfl rfl ?_
 refine QP_ev ok 2 [(14, I (ln t.Rows)), (15, .pointer (some ⟨b, 1, none⟩))] 4 rfl rfl ?_
 refine QP_ldbox 4 (v := sl aJ t.Cols aK) rfl rfl rfl ti_22 ag_22 (fun _ => rfl) rfl a5 rfl rfl ?_
 refine QP_ev ok 5 [(17, I (ln t.Cols)), (5, I (ln t.Rows)), (6, I (ln t.Cols))] 8 rfl rfl ?_
 refine QP_end _ rfl fun cH a6 => ?_
 refine Wq (Wq (Wg (Lv ok 0 [(18, I (ln t.Rows)), (19, I (ln t.Cols)), (20, I (wr ((ln t.Rows) * (ln t.Cols)))), (21, I (wr ((wr ((ln t.Rows) * (ln t.Cols))) - 1))), (7, I (wr ((wr ((ln t.Rows) * (ln t.Cols))) - 1)))] 5 rfl rfl (Ln _ rfl (W_block ?_)))))
 obtain ⟨J, m, Hx, H⟩ := H
 refine W_loop (S := Int) (fun s ρ' w' => J s ∧ ∃ (ρ : Env), ρ' = setAll [(1, sl aD x aE), (2, pb b), (5, I (ln t.Rows)), (6, I (ln t.Cols)), (7, I s)] ρ ∧ Ext cH w') (fun s => m s) (wr ((wr ((ln t.Rows) * (ln t.Cols))) - 1)) ⟨Hx, _, Ee ⟨rfl, rfl, rfl, rfl, rfl, trivial⟩, (Ext.refl _)⟩ ?_
 rintro p _ cI ⟨Hi, ρ, rfl, X34⟩
 have H := H p Hi
 refine Wq (Wq (Wg (Lv ok 0 [(22, I p), (23, .bool (decide (p ≥ 0)))] 2 rfl rfl (Ln _ rfl ?_))))
 refine Wc (decide (p ≥ 0)) rfl (fun hc => ?_) (fun hc => ?_)
 ·have H := H.1 hc
  refine Wk ?_
  have xc := ((bX.trans a6).trans X34)
  have X35 := (X.stepx xc)
  obtain ⟨k, hk, H⟩ := jn_elim H
  refine W_join2 (S := Unit) (fun s ρ' w' => k ∧ ∃ (ρ : Env), ρ' = setAll [(1, sl aD x aE), (2, pb b), (5, I (ln t.Rows)), (6, I (ln t.Cols)), (7, I p)] ρ ∧ Ext cI w') ?_ ?_
  ·refine W_block (Wq ?_)
   refine W_quiet mix (by kernel_rfl) ?_
   refine QP_ev ok 0 [(26, I p), (27, I (ln t.Cols))] 2 rfl rfl ?_
   obtain ⟨hz, H⟩ := H
   refine QP_val 2 _ rfl rfl (fun _ _ => ex_quo rfl rfl rfl hz _) ?_
   refine QP_ev ok 3 [(29, I p), (30, I (ln t.Cols))] 5 rfl rfl ?_
   obtain ⟨cJ, H⟩ := H
   refine QP_val 5 _ rfl rfl (fun _ _ => ex_rem rfl rfl rfl cJ _) ?_
   refine QP_ev ok 6 [(8, I (wr (Int.tdiv p (ln t.Cols)))), (9, I (Int.tmod p (ln t.Cols)))] 8 rfl rfl ?_
   refine QP_end _ rfl fun d5 aU => ?_
   refine Wq (Wq ?_)
   refine W_quiet mix (by kernel_rfl) ?_
   refine QP_ev ok 0 [(32, sl aD x aE), (33, I (wr (Int.tdiv p (ln t.Cols))))] 2 rfl rfl ?_
   obtain ⟨d6, hi, cK, H⟩ := H
   refine QP_index 2 rfl rfl rfl Try.underlying23 ti_22 rfl rfl a1 hi cK fun d7 cs cL d => ?_
   have a7 := ((cG.ext xc).ext aU)
   refine QP_load 3 rfl rfl rfl ti_22 ag_22 rfl cL d a7 fun d8 cM => ?_
   have bY := cM.slice
   obtain ⟨d9, eA, rfl⟩ := bY.shape
   refine QP_ev ok 4 [(36, I (Int.tmod p (ln t.Cols)))] 5 rfl rfl ?_
   obtain ⟨a8, cN, cO, H⟩ := H
   refine QP_index 5 rfl rfl rfl Try.underlying22 ti_3 rfl rfl bY cN cO fun eB eC cP cQ => ?_
   refine QP_load 6 rfl rfl rfl ti_3 ag_3 rfl cP cQ a7 fun eD cR => ?_
   obtain rfl := cR.int
   refine QP_ev ok 7 [(39, .pointer (some ⟨b, 3, none⟩))] 8 rfl rfl ?_
   have bZ := ((a5.ext (a6.trans X34)).ext aU)
   refine QP_ldbox 8 (v := sl aL t.Hi aM) rfl rfl rfl ti_23 ag_23 (fun _ => rfl) rfl bZ rfl rfl ?_
   refine QP_ev ok 9 [(41, I (wr (Int.tdiv p (ln t.Cols))))] 10 rfl rfl ?_
   obtain ⟨eE, cS, cT, H⟩ := H
   refine QP_index 10 rfl rfl rfl Try.underlying23 ti_22 rfl rfl aT cS cT fun eF eG cU cV => ?_
   have a9 := ((cF.ext xc).ext aU)
   refine QP_load 11 rfl rfl rfl ti_22 ag_22 rfl cU cV a9 fun eH cW => ?_
   have b0 := cW.slice
   obtain ⟨eI, eJ, rfl⟩ := b0.shape
   refine QP_ev ok 12 [(44, I (Int.tmod p (ln t.Cols)))] 13 rfl rfl ?_
   obtain ⟨bA, cX, cY, H⟩ := H
   refine QP_index 13 rfl rfl rfl Try.underlying22 ti_3 rfl rfl b0 cX cY fun eK eL cZ c0 => ?_
   refine QP_load 14 rfl rfl rfl ti_3 ag_3 rfl cZ c0 a9 fun eM c1 => ?_
   obtain rfl := c1.int
   refine QP_ev ok 15 [(47, .bool (a8 == bA))] 16 rfl rfl ?_
   refine QP_end _ rfl fun c2 aV => ?_
   try refine Wo [(1, sl aD x aE), (2, pb b), (5, I (ln t.Rows)), (6, I (ln t.Cols)), (7, I p), (8, I (wr (Int.tdiv p (ln t.Cols)))), (9, I (Int.tmod p (ln t.Cols))), (47, .bool (a8 == bA))] ⟨rfl, rfl, rfl, rfl, rfl, rfl, rfl, rfl, trivial⟩ fun ρ => ?_
   refine Wc (a8 == bA) rfl (fun bB => ?_) (fun bB => ?_)
   ·have H := H.1 bB
    refine W_exit ?_
    refine (if_pos rfl).mpr ?_
    exact ⟨(), H, _, Ee ⟨rfl, rfl, rfl, rfl, rfl, trivial⟩, (aU.trans aV)⟩
   have H := H.2 bB
   refine Wk (Wq (Wg ?_))
   have bC := (bZ.ext aV)
   refine Lb 0 (v := .agg #[sl a t.Rows c, sl aJ t.Cols aK, sl aO t.Lo aP, sl aL t.Hi aM]) rfl rfl rfl ti_29 ag_29 (fun h => by cases h) rfl bC rfl rfl (Lv ok 1 [(49, sl aD x aE), (50, I p)] 3 rfl rfl ?_)
   have aN := (aU.trans aV)
   have bD := ((ex.ext xc).ext aN)
   have bE := ((cD.ext xc).ext aN)
   have bF := ((cE.ext xc).ext aN)
   have bG := (a9.ext aV)
   have bH := (a7.ext aV)
   refine Lc 3 rfl rfl rfl cal_89 rfl (impl_residual_w _ _ _ _ H c2 r bD aZ bE a0 bF aT bG a1 bH) ?_
   rintro _ c3 ⟨bI, eN, eO, H, rfl, aF, o, c4, aG⟩
   obtain ⟨bJ, bK, rfl⟩ := o.shape
   refine Lv ok 4 [(10, sl bJ bI bK)] 5 rfl rfl (Ln _ rfl (Wq (Wq (Wg (Lv ok 0 [(52, sl bJ bI bK), (53, I (ln t.Rows)), (54, I (Int.tmod p (ln t.Cols))), (55, I (wr ((ln t.Rows) + (Int.tmod p (ln t.Cols))))), (56, I (wr (Int.tdiv p (ln t.Cols))))] 5 rfl rfl (Lc 5 rfl rfl rfl cal_90 rfl (impl_push_w _ _ _ _ _ H c3 o c4) ?_))))))
   rintro _ c5 ⟨b1, eP, eQ, H, rfl, aH, c6, c7, dm⟩
   refine Lv ok 6 [(58, .bool (b1 == 0))] 7 rfl rfl (Ln _ rfl ?_)
   refine Wc (b1 == 0) rfl (fun bL => ?_) (fun bL => ?_)
   ·have H := H.1 bL
    refine W_exit ?_
    refine (if_pos rfl).mpr ?_
    exact ⟨(), H, _, Ee ⟨rfl, rfl, rfl, rfl, rfl, trivial⟩, But.ext (((Br emp _).stepx (aN.trans aF)).step aH ((aG.mono aN.size).dom _))⟩
   have H := H.2 bL
   refine Wk (Wq (Wg ?_))
   have dj := (Df bC aG).symm
   have bM := ((bC.ext aF).but aH dj)
   refine Lb 0 (v := .agg #[sl a t.Rows c, sl aJ t.Cols aK, sl aO t.Lo aP, sl aL t.Hi aM]) rfl rfl rfl ti_29 ag_29 (fun h => by cases h) rfl bM rfl rfl (Lv ok 1 [(60, sl aD x aE), (61, sl bJ bI bK), (62, I p)] 4 rfl rfl ?_)
   have c8 := (Df bD aG).symm
   have bN := ((bD.ext aF).but aH c8)
   have c9 := (Df bE aG).symm
   have bO := ((bE.ext aF).but aH c9)
   have dA := (Df bF aG).symm
   have bP := ((bF.ext aF).but aH dA)
   have dB := (Df bG aG).symm
   have bQ := ((bG.ext aF).but aH dB)
   have dC := (Df bH aG).symm
   refine Lc 4 rfl rfl rfl cal_91 rfl (impl_restore_w _ _ _ _ _ H c5 r bN aZ bO a0 bP aT bQ a1 ((bH.ext aF).but aH dC) c6.readf c7) ?_
   rintro _ eR ⟨aW, eS, eT, H, rfl, aQ, b2, bR, aR, cn⟩
   obtain ⟨aX, aY, rfl⟩ := b2.shape
   refine Lv ok 5 [(11, sl aX aW aY)] 6 rfl rfl (Ln _ rfl (Wq (Wg (Lv ok 0 [(64, sl aX aW aY), (65, I (wr (Int.tdiv p (ln t.Cols))))] 2 rfl rfl ?_))))
   obtain ⟨bS, dD, dE, H⟩ := H
   refine LP_indexb (v := sl aX aW aY) 2 rfl rfl rfl Try.underlying23 ti_22 rfl rfl b2 dD dE fun eU u dF rest dG bw => (LP_ldcell 3 rfl rfl rfl ti_22 ag_22 rfl dG bR ?_)
   have b3 := bw.od
   obtain ⟨b4, b5, rfl⟩ := b3.shape
   have b6 := Sub.le bR bw.le
   have b7 : OS 3 dF emp (sl b4 bS b5) bS := OD.flat b3
   refine Lv ok 4 [(68, I (Int.tmod p (ln t.Cols)))] 5 rfl rfl ?_
   obtain ⟨dH, dI, dJ, H⟩ := H
   refine Li 5 rfl rfl rfl Try.underlying22 ti_3 rfl rfl b7.readf dI dJ fun eV eW dK dL => (Lo 6 rfl rfl rfl ti_3 ag_3 rfl dK dL b6 fun eX dM => ?_)
   obtain rfl := dM.int
   refine Lv ok 7 [(71, I (wr (dH + 1)))] 8 rfl rfl ?_
   obtain ⟨dN, hl, H⟩ := H
   refine LP_indexw (v := sl b4 bS b5) 8 rfl rfl rfl Try.underlying22 ti_3 rfl rfl b7 dN hl fun eY wa => (LP_set 9 rfl rfl rfl rfl rfl wa (Le.refl emp) ⟨_, rfl, rfl⟩ b6 fun eZ dO dP dQ y dR => ?_)
   obtain ⟨e0, dS, dd⟩ := BwL.turn bw (OS.od dP) (Dom.of dR)
   have dT := BwL.sub bw bR dQ y
   have aS := BwL.but bw y
   refine Ln _ rfl ?_
   try refine Wo [(2, pb b), (7, I p), (11, sl aX aW aY)] ⟨rfl, rfl, rfl, trivial⟩ fun ρ => ?_
   refine Wq (Wg ?_)
   have dU := (Df bM aR).symm
   refine Lb 0 (v := .agg #[sl a t.Rows c, sl aJ t.Cols aK, sl aO t.Lo aP, sl aL t.Hi aM]) rfl rfl rfl ti_29 ag_29 (fun h => by cases h) rfl ((bM.ext aQ).but aS dU) rfl rfl (Lv ok 1 [(74, sl aX aW aY), (75, I p)] 3 rfl rfl ?_)
   have dV := (Df bN aR).symm
   have dW := (Df bO aR).symm
   have dX := (Df bP aR).symm
   have dY := (Df bQ aR).symm
   refine Lc 3 rfl rfl rfl cal_87 rfl (impl_firstFrom_w _ _ _ _ H dO r ((bN.ext aQ).but aS dV) aZ ((bO.ext aQ).but aS dW) a0 ((bP.ext aQ).but aS dX) aT ((bQ.ext aQ).but aS dY) dS.readf dT) ?_
   rintro _ e1 ⟨b8, e2, e3, H, rfl, dZ, b9, d0, d1, d2⟩
   obtain ⟨cA, cB, rfl⟩ := b9.shape
   refine Lv ok 4 [(4, sl cA b8 cB)] 5 rfl rfl (Ln _ rfl (W_ret ?_))
   have d3 := aG.mono (X35.stepx aN).size
   have X199 := ((X35.stepx (aN.trans aF)).step aH (d3.dom _))
   have cC := aR.mono X199.size
   have X200 := (X199.stepx aQ)
   have d4 := ((fun n => Oe dd n) _).fresh cC X200.size
   have X201 := (X200.step aS (cC.dom _))
   exact ⟨_, Ret_of [sl cA b8 cB] ⟨⟨rfl, rfl⟩, trivial⟩, _, _, _, H, rfl, (X201.stepx dZ).ext, b9, d0, (Mt (Mu (Oe D _) (Mu (Oe D25 _) (Mu (Oe D26 _) (Mu (Oe D27 _) (d4.dom _))))) d1 X201.size), d2⟩
  rintro ⟨⟩ _ e4 ⟨H, ρ, rfl, X45⟩
  subst hk
  refine Wg (Lv ok 0 [(24, I p), (25, I (wr (p - 1))), (7, I (wr (p - 1)))] 3 rfl rfl ?_)
  exact Ln _ rfl ⟨wr (p - 1), ⟨H.1, _, Ee ⟨rfl, rfl, rfl, rfl, rfl, trivial⟩, (X34.trans X45)⟩, H.2⟩
 have H := H.2 hc
 refine W_exit ?_
 refine (if_pos rfl).mpr ?_
 refine Wq (Wg (Lv ok 0 [(4, .slice none 0 0)] 1 rfl rfl (Ln _ rfl (W_ret ?_))))
 exact ⟨_, Ret_of [.slice none 0 0] ⟨⟨rfl, rfl⟩, trivial⟩, _, _, emp, H, rfl, (X.stepx ((bX.trans a6).trans X34)).ext, (.inl ⟨rfl, rfl⟩), (emp_sub _), (fun _ _ _ => rfl), CanV.nil⟩

theorem impl_countFlows_w (t : Transport) (Q : Int → Bool → Prop) (H : impl_countFlows t Q) (w : World) {vx : Value} {hx : PH} (r : RS hx vx t.Rows) (ex : Sub hx w) {aW : Value} {aX : PH} (aL : RS aX aW t.Cols) (aM : Sub aX w) {aY : Value} {aZ : PH} (aN : RS aZ aY t.Lo) (aO : Sub aZ w) {a0 : Value} {a1 : PH} (aP : RS a1 a0 t.Hi) (aQ : Sub a1 w) :
  CallsTo Try.prog 37 #[.agg #[vx, aW, aY, a0]] w fun v w' => ∃ a2 a3, Q a2 a3 ∧ v = .tuple #[I a2, .bool a3] ∧ Ext w w' := by
 obtain ⟨a, c, rfl⟩ := r.shape
 obtain ⟨aA, aB, rfl⟩ := aL.shape
 obtain ⟨aC, aD, rfl⟩ := aN.shape
 obtain ⟨aE, aF, rfl⟩ := aP.shape
 refine enter (args := [.agg #[sl a t.Rows c, sl aA t.Cols aB, sl aC t.Lo aD, sl aE t.Hi aF]]) 26 Try.func37 rfl rfl rfl ?_
 refine Wo [(0, .agg #[sl a t.Rows c, sl aA t.Cols aB, sl aC t.Lo aD, sl aE t.Hi aF])] ⟨rfl, trivial⟩ fun ρ => ?_
 have X := Br emp w
 refine Wq (Wg (Ly 0 (cs := [sl a t.Rows c, sl aA t.Cols aB, sl aC t.Lo aD, sl aE t.Hi aF]) rfl rfl rfl rfl rfl fun b wx x aG f => (Lv ok 1 [(2, I 0), (3, .bool false)] 3 rfl rfl (Ln _ rfl (Wq (Wq (Wg (Lv ok 0 [(6, pb b)] 1 rfl rfl (Lb 1 (v := sl a t.Rows c) rfl rfl rfl ti_22 ag_22 (fun _ => rfl) rfl aG rfl rfl ?_)))))))))
 refine Lv ok 2 [(8, I (ln t.Rows)), (9, .pointer (some ⟨b, 1, none⟩))] 4 rfl rfl (Lb 4 (v := sl aA t.Cols aB) rfl rfl rfl ti_22 ag_22 (fun _ => rfl) rfl aG rfl rfl (Lv ok 5 [(11, I (ln t.Cols)), (12, I (wr ((ln t.Rows) * (ln t.Cols)))), (13, .bool (decide ((wr ((ln t.Rows) * (ln t.Cols))) > 16)))] 8 rfl rfl (Ln _ rfl ?_)))
 refine Wc (decide ((wr ((ln t.Rows) * (ln t.Cols))) > 16)) rfl (fun hc => ?_) (fun hc => ?_)
 ·have H := H.1 hc
  refine Wq (Wg (Lv ok 0 [(2, I 0), (3, .bool false)] 2 rfl rfl (Ln _ rfl (W_ret ?_))))
  exact ⟨_, Ret_of [I 0, .bool false] ⟨⟨rfl, rfl⟩, ⟨rfl, rfl⟩, trivial⟩, _, _, H, rfl, (X.stepx x).ext⟩
 have H := H.2 hc
 refine Wk (Wq (Wg (Lv ok 0 [(4, I 0)] 1 rfl rfl (Ln _ rfl (Wq (Wq (Wg (Lb 0 (v := .agg #[sl a t.Rows c, sl aA t.Cols aB, sl aC t.Lo aD, sl aE t.Hi aF]) rfl rfl rfl ti_29 ag_29 (fun h => by cases h) rfl aG rfl rfl ?_))))))))
 have a4 := (ex.ext x)
 have a5 := (aM.ext x)
 have a6 := (aO.ext x)
 have a7 := (aQ.ext x)
 refine Lc 1 rfl rfl rfl cal_49 rfl (impl_firstFlow_w _ _ H wx r a4 aL a5 aN a6 aP a7) ?_
 rintro _ bH ⟨aR, bT, bI, H, rfl, aS, o, bJ, bK, cn⟩
 obtain ⟨a8, a9, rfl⟩ := o.shape
 refine Lv ok 2 [(5, sl a8 aR a9)] 3 rfl rfl (Ln _ rfl (W_block ?_))
 have dj := (Dl (Df aO f) (Df aQ f))
 obtain ⟨J, m, Hx, H⟩ := H
 refine W_loop (S := Int × (List (List Int))) (fun s ρ' w' => J s.1 s.2 ∧ ∃ (ρ : Env) (aI : Value) (aJ : PH), ρ' = setAll [(1, pb b), (4, I s.1), (5, aI)] ρ ∧ Ext bH w' ∧ RS aJ aI s.2 ∧ Sub aJ w' ∧ Dj aJ (bx b 29 [sl a t.Rows c, sl aA t.Cols aB, sl aC t.Lo aD, sl aE t.Hi aF]) ∧ CanV aI s.2) (fun s => m s.1 s.2) (0, aR) ⟨Hx, _, sl a8 aR a9, bI, Ee ⟨rfl, rfl, rfl, trivial⟩, (Ext.refl _), o, bJ, (Mj bK (Dl (Df ex f) (Dl (Df aM f) dj)) aG), cn⟩ ?_
 rintro ⟨n, aK⟩ _ bL ⟨Hi, ρ, aI, aJ, rfl, HF⟩
 revert HF
 refine bb5 fun X44 bA bM d bN => ?_
 have H := H n aK Hi
 obtain ⟨bB, bC, rfl⟩ := bA.shape
 refine Wq (Wq (Wg (Lv ok 0 [(16, sl bB aK bC)] 1 rfl rfl (LP_val 1 _ rfl rfl (ex_nenilc rfl Try.underlying23 rfl rfl (bN _ _ _ rfl) _) (Ln _ rfl ?_)))))
 refine Wc (!(ln aK == 0)) rfl (fun aT => ?_) (fun aT => ?_)
 ·have H := H.1 aT
  refine Wk (Wq (W_block (Wq (Wg (Lv ok 0 [(21, I n), (22, I (wr (n + 1))), (4, I (wr (n + 1)))] 3 rfl rfl (Ln _ rfl (Wq (Wg (Lv ok 0 [(23, I (wr (n + 1))), (24, .bool (decide ((wr (n + 1)) > 2000)))] 2 rfl rfl ?_)))))))))
  refine Ln _ rfl ?_
  refine Wc (decide ((wr (n + 1)) > 2000)) rfl (fun aU => ?_) (fun aU => ?_)
  ·have H := H.1 aU
   refine Wq (Wg (Lv ok 0 [(2, I 0), (3, .bool false)] 2 rfl rfl (Ln _ rfl (W_ret ?_))))
   exact ⟨_, Ret_of [I 0, .bool false] ⟨⟨rfl, rfl⟩, ⟨rfl, rfl⟩, trivial⟩, _, _, H, rfl, (X.stepx ((x.trans aS).trans X44)).ext⟩
  have H := H.2 aU
  refine Wk (Wg ?_)
  have aH := (aS.trans X44)
  have bD := (aG.ext aH)
  refine Lb 0 (v := .agg #[sl a t.Rows c, sl aA t.Cols aB, sl aC t.Lo aD, sl aE t.Hi aF]) rfl rfl rfl ti_29 ag_29 (fun h => by cases h) rfl bD rfl rfl (Lv ok 1 [(19, sl bB aK bC)] 2 rfl rfl (Lc 2 rfl rfl rfl cal_51 rfl (impl_nextFlow_w _ _ _ H bL r (a4.ext aH) aL (a5.ext aH) aN (a6.ext aH) aP (a7.ext aH) bA bM) ?_))
  rintro _ bU ⟨aV, bV, bO, H, rfl, bP, bE, bQ, bR, bS⟩
  obtain ⟨bF, bG, rfl⟩ := bE.shape
  refine Lv ok 3 [(5, sl bF aV bG)] 4 rfl rfl ?_
  exact Ln _ rfl ⟨(wr (n + 1), aV), ⟨H.1, _, sl bF aV bG, bO, Ee ⟨rfl, rfl, rfl, trivial⟩, (X44.trans bP), bE, bQ, (Mj bR (Dl (Df ex f) (Dl (Df aM f) (Dl (Df aO f) (Dl (Df aQ f) d)))) bD), bS⟩, H.2⟩
 have H := H.2 aT
 refine W_exit ?_
 refine (if_pos rfl).mpr ?_
 refine Wq (Wg (Lv ok 0 [(25, I n), (2, I n), (3, .bool true)] 3 rfl rfl (Ln _ rfl (W_ret ?_))))
 exact ⟨_, Ret_of [I n, .bool true] ⟨⟨rfl, rfl⟩, ⟨rfl, rfl⟩, trivial⟩, _, _, H, rfl, (X.stepx ((x.trans aS).trans X44)).ext⟩

theorem impl_CountFlows_w (t : Transport) (Q : Int → Bool → Prop) (H : impl_CountFlows t Q) (w : World) {vx : Value} {hx : PH} (r : RS hx vx t.Rows) (ex : Sub hx w) {aM : Value} {aN : PH} (aH : RS aN aM t.Cols) (a0 : Sub aN w) {aO : Value} {aP : PH} (aI : RS aP aO t.Lo) (a1 : Sub aP w) {aQ : Value} {aR : PH} (aJ : RS aR aQ t.Hi) (a2 : Sub aR w) :
  CallsTo Try.prog 10 #[.agg #[vx, aM, aO, aQ]] w fun v w' => ∃ aS aT, Q aS aT ∧ v = .tuple #[I aS, .bool aT] ∧ Ext w w' := by
 obtain ⟨a, c, rfl⟩ := r.shape
 obtain ⟨aB, aC, rfl⟩ := aH.shape
 obtain ⟨aD, aE, rfl⟩ := aI.shape
 obtain ⟨aF, aG, rfl⟩ := aJ.shape
 refine enter (args := [.agg #[sl a t.Rows c, sl aB t.Cols aC, sl aD t.Lo aE, sl aF t.Hi aG]]) 11 Try.func10 rfl rfl rfl ?_
 refine Wo [(0, .agg #[sl a t.Rows c, sl aB t.Cols aC, sl aD t.Lo aE, sl aF t.Hi aG])] ⟨rfl, trivial⟩ fun ρ => ?_
 have X := Br emp w
 refine Wq (Wg (Ly 0 (cs := [sl a t.Rows c, sl aB t.Cols aC, sl aD t.Lo aE, sl aF t.Hi aG]) rfl rfl rfl rfl rfl fun b wx x aU f => (Lv ok 1 [(2, I 0), (3, .bool false)] 3 rfl rfl (Ln _ rfl (Wq (Wq (Wg (Lb 0 (v := .agg #[sl a t.Rows c, sl aB t.Cols aC, sl aD t.Lo aE, sl aF t.Hi aG]) rfl rfl rfl ti_29 ag_29 (fun h => by cases h) rfl aU rfl rfl ?_))))))))
 have aV := (ex.ext x)
 have aW := (a0.ext x)
 have aX := (a1.ext x)
 have aY := (a2.ext x)
 refine Lc 1 rfl rfl rfl cal_36 rfl (impl_IsTransport_w _ _ H wx r aV aH aW aI aX aJ aY) ?_
 rintro _ a3 ⟨aZ, H, rfl, aA⟩
 refine Lv ok 2 [(6, .bool (!aZ))] 3 rfl rfl (Ln _ rfl ?_)
 refine Wc (!aZ) rfl (fun hc => ?_) (fun hc => ?_)
 ·have H := H.1 hc
  refine Wq (Wg (Lv ok 0 [(2, I 0), (3, .bool false)] 2 rfl rfl (Ln _ rfl (W_ret ?_))))
  exact ⟨_, Ret_of [I 0, .bool false] ⟨⟨rfl, rfl⟩, ⟨rfl, rfl⟩, trivial⟩, _, _, H, rfl, (X.stepx (x.trans aA)).ext⟩
 have H := H.2 hc
 refine Wk (Wq (Wg (Lb 0 (v := .agg #[sl a t.Rows c, sl aB t.Cols aC, sl aD t.Lo aE, sl aF t.Hi aG]) rfl rfl rfl ti_29 ag_29 (fun h => by cases h) rfl (aU.ext aA) rfl rfl (Lc 1 rfl rfl rfl cal_37 rfl (impl_countFlows_w _ _ H a3 r (aV.ext aA) aH (aW.ext aA) aI (aX.ext aA) aJ (aY.ext aA)) ?_))))
 rintro _ a5 ⟨aK, aL, H, rfl, a4⟩
 refine Lv ok 2 [(9, I aK), (10, .bool aL), (2, I aK), (3, .bool aL)] 6 rfl rfl (Ln _ rfl (W_ret ?_))
 exact ⟨_, Ret_of [I aK, .bool aL] ⟨⟨rfl, rfl⟩, ⟨rfl, rfl⟩, trivial⟩, _, _, H, rfl, (X.stepx ((x.trans aA).trans a4)).ext⟩

theorem laws_eqIntS_w (a : List Int) (b : List Int) (Q : Bool → Prop) (H : laws_eqIntS a b Q) (w : World) {vx : Value} {hx : PH} (r : RS hx vx a) (ex : Sub hx w) {aF : Value} {aG : PH} (aH : RS aG aF b) (aL : Sub aG w) :
  CallsTo Try.prog 38 #[vx, aF] w fun v w' => ∃ aI, Q aI ∧ v = .bool aI ∧ Ext w w' := by
 obtain ⟨aA, c, rfl⟩ := r.shape
 obtain ⟨aB, aC, rfl⟩ := aH.shape
 refine enter (args := [sl aA a c, sl aB b aC]) 26 Try.func38 rfl rfl rfl ?_
 refine Wo [(0, sl aA a c), (1, sl aB b aC)] ⟨rfl, rfl, trivial⟩ fun ρ => ?_
 have X := Br emp w
 refine Wq (Wg (Lv ok 0 [(4, .bool false)] 1 rfl rfl (Ln _ rfl (Wq (Wq (Wg (Lv ok 0 [(6, sl aA a c), (7, I (ln a)), (8, sl aB b aC), (9, I (ln b)), (10, .bool ((ln a) != (ln b)))] 5 rfl rfl (Ln _ rfl ?_))))))))
 refine Wc ((ln a) != (ln b)) rfl (fun hc => ?_) (fun hc => ?_)
 ·have H := H.1 hc
  refine Wq (Wg (Lv ok 0 [(4, .bool false)] 1 rfl rfl (Ln _ rfl (W_ret ?_))))
  exact ⟨_, Ret_of [.bool false] ⟨⟨rfl, rfl⟩, trivial⟩, _, H, rfl, X.ext⟩
 have H := H.2 hc
 refine Wk (Wq (Wq (Wg (Lv ok 0 [(5, I 0)] 1 rfl rfl (Ln _ rfl (W_block ?_))))))
 obtain ⟨J, m, Hx, H⟩ := H
 refine W_loop (S := Int) (fun s ρ' w' => J s ∧ ∃ (ρ : Env), ρ' = setAll [(0, sl aA a c), (1, sl aB b aC), (5, I s)] ρ ∧ Ext w w') (fun s => m s) 0 ⟨Hx, _, Ee ⟨rfl, rfl, rfl, trivial⟩, (Ext.refl _)⟩ ?_
 rintro i _ wx ⟨Hi, ρ, rfl, X8⟩
 have H := H i Hi
 refine Wq (Wq (Wg (Lv ok 0 [(11, I i), (12, sl aA a c), (13, I (ln a)), (14, .bool (decide (i < (ln a))))] 4 rfl rfl (Ln _ rfl ?_))))
 refine Wc (decide (i < (ln a))) rfl (fun aD => ?_) (fun aD => ?_)
 ·have H := H.1 aD
  refine Wk (Wq (W_block (Wq ?_)))
  refine W_quiet mix (by kernel_rfl) ?_
  refine QP_ev ok 0 [(17, sl aA a c), (18, I i)] 2 rfl rfl ?_
  obtain ⟨x, hi, aM, H⟩ := H
  refine QP_index 2 rfl rfl rfl Try.underlying22 ti_3 rfl rfl r hi aM fun aU cs aN d => ?_
  refine QP_load 3 rfl rfl rfl ti_3 ag_3 rfl aN d (ex.ext X8) fun aV aO => ?_
  obtain rfl := aO.int
  refine QP_ev ok 4 [(21, sl aB b aC), (22, I i)] 6 rfl rfl ?_
  obtain ⟨aJ, aP, aQ, H⟩ := H
  refine QP_index 6 rfl rfl rfl Try.underlying22 ti_3 rfl rfl aH aP aQ fun aW aX aR aS => ?_
  refine QP_load 7 rfl rfl rfl ti_3 ag_3 rfl aR aS (aL.ext X8) fun aY aT => ?_
  obtain rfl := aT.int
  refine QP_ev ok 8 [(25, .bool (x != aJ))] 9 rfl rfl ?_
  refine QP_end _ rfl fun aZ aK => ?_
  refine Wc (x != aJ) rfl (fun aE => ?_) (fun aE => ?_)
  ·have H := H.1 aE
   refine Wq (Wg (Lv ok 0 [(4, .bool false)] 1 rfl rfl (Ln _ rfl (W_ret ?_))))
   exact ⟨_, Ret_of [.bool false] ⟨⟨rfl, rfl⟩, trivial⟩, _, H, rfl, (X.stepx (X8.trans aK)).ext⟩
  have H := H.2 aE
  refine Wk (Wg (Lv ok 0 [(15, I i), (16, I (wr (i + 1))), (5, I (wr (i + 1)))] 3 rfl rfl ?_))
  exact Ln _ rfl ⟨wr (i + 1), ⟨H.1, _, Ee ⟨rfl, rfl, rfl, trivial⟩, (X8.trans aK)⟩, H.2⟩
 have H := H.2 aD
 refine W_exit ?_
 refine (if_pos rfl).mpr ?_
 refine Wq (Wg (Lv ok 0 [(4, .bool true)] 1 rfl rfl (Ln _ rfl (W_ret ?_))))
 exact ⟨_, Ret_of [.bool true] ⟨⟨rfl, rfl⟩, trivial⟩, _, H, rfl, (X.stepx X8).ext⟩

theorem laws_eqIntSS_w (a : List (List Int)) (b : List (List Int)) (Q : Bool → Prop) (H : laws_eqIntSS a b Q) (w : World) {vx : Value} {hx : PH} (r : RS hx vx a) (ex : Sub hx w) {aG : Value} {aH : PH} (aI : RS aH aG b) (aQ : Sub aH w) :
  CallsTo Try.prog 16 #[vx, aG] w fun v w' => ∃ aJ, Q aJ ∧ v = .bool aJ ∧ Ext w w' := by
 obtain ⟨aA, c, rfl⟩ := r.shape
 obtain ⟨aB, aC, rfl⟩ := aI.shape
 refine enter (args := [sl aA a c, sl aB b aC]) 27 Try.func16 rfl rfl rfl ?_
 refine Wo [(0, sl aA a c), (1, sl aB b aC)] ⟨rfl, rfl, trivial⟩ fun ρ => ?_
 have X := Br emp w
 refine Wq (Wg (Lv ok 0 [(4, .bool false)] 1 rfl rfl (Ln _ rfl (Wq (Wq (Wg (Lv ok 0 [(6, sl aA a c), (7, I (ln a)), (8, sl aB b aC), (9, I (ln b)), (10, .bool ((ln a) != (ln b)))] 5 rfl rfl (Ln _ rfl ?_))))))))
 refine Wc ((ln a) != (ln b)) rfl (fun hc => ?_) (fun hc => ?_)
 ·have H := H.1 hc
  refine Wq (Wg (Lv ok 0 [(4, .bool false)] 1 rfl rfl (Ln _ rfl (W_ret ?_))))
  exact ⟨_, Ret_of [.bool false] ⟨⟨rfl, rfl⟩, trivial⟩, _, H, rfl, X.ext⟩
 have H := H.2 hc
 refine Wk (Wq (Wq (Wg (Lv ok 0 [(5, I 0)] 1 rfl rfl (Ln _ rfl (W_block ?_))))))
 obtain ⟨J, m, Hx, H⟩ := H
 refine W_loop (S := Int) (fun s ρ' w' => J s ∧ ∃ (ρ : Env), ρ' = setAll [(0, sl aA a c), (1, sl aB b aC), (5, I s)] ρ ∧ Ext w w') (fun s => m s) 0 ⟨Hx, _, Ee ⟨rfl, rfl, rfl, trivial⟩, (Ext.refl _)⟩ ?_
 rintro i _ wx ⟨Hi, ρ, rfl, X8⟩
 have H := H i Hi
 refine Wq (Wq (Wg (Lv ok 0 [(11, I i), (12, sl aA a c), (13, I (ln a)), (14, .bool (decide (i < (ln a))))] 4 rfl rfl (Ln _ rfl ?_))))
 refine Wc (decide (i < (ln a))) rfl (fun aD => ?_) (fun aD => ?_)
 ·have H := H.1 aD
  refine Wk (Wq (W_block (Wq ?_)))
  refine W_quiet mix (by kernel_rfl) ?_
  refine QP_ev ok 0 [(17, sl aA a c), (18, I i)] 2 rfl rfl ?_
  obtain ⟨x, hi, aR, H⟩ := H
  refine QP_index 2 rfl rfl rfl Try.underlying23 ti_22 rfl rfl r hi aR fun a0 cs aS d => ?_
  have aK := (ex.ext X8)
  refine QP_load 3 rfl rfl rfl ti_22 ag_22 rfl aS d aK fun a1 aT => ?_
  have aL := aT.slice
  obtain ⟨a2, a3, rfl⟩ := aL.shape
  refine QP_ev ok 4 [(21, sl aB b aC), (22, I i)] 6 rfl rfl ?_
  obtain ⟨a4, aU, aV, H⟩ := H
  refine QP_index 6 rfl rfl rfl Try.underlying23 ti_22 rfl rfl aI aU aV fun a5 a6 aW aX => ?_
  have aM := (aQ.ext X8)
  refine QP_load 7 rfl rfl rfl ti_22 ag_22 rfl aW aX aM fun a7 aY => ?_
  have aN := aY.slice
  obtain ⟨a8, a9, rfl⟩ := aN.shape
  obtain ⟨aE, Hd, H⟩ := H
  refine QP_call (.bool aE) 8 rfl rfl rfl cal_38 rfl (fun aZ aO => (laws_eqIntS_w _ _ _ Hd aZ aL (aK.ext aO) aN (aM.ext aO)).mono ?_) ?_
  ·rintro _ _ ⟨_, rfl, rfl, x⟩; exact ⟨rfl, x⟩
  refine QP_ev ok 9 [(26, .bool (!aE))] 10 rfl rfl ?_
  refine QP_end _ rfl fun bA aP => ?_
  refine Wc (!aE) rfl (fun aF => ?_) (fun aF => ?_)
  ·have H := H.1 aF
   refine Wq (Wg (Lv ok 0 [(4, .bool false)] 1 rfl rfl (Ln _ rfl (W_ret ?_))))
   exact ⟨_, Ret_of [.bool false] ⟨⟨rfl, rfl⟩, trivial⟩, _, H, rfl, (X.stepx (X8.trans aP)).ext⟩
  have H := H.2 aF
  refine Wk (Wg (Lv ok 0 [(15, I i), (16, I (wr (i + 1))), (5, I (wr (i + 1)))] 3 rfl rfl ?_))
  exact Ln _ rfl ⟨wr (i + 1), ⟨H.1, _, Ee ⟨rfl, rfl, rfl, trivial⟩, (X8.trans aP)⟩, H.2⟩
 have H := H.2 aD
 refine W_exit ?_
 refine (if_pos rfl).mpr ?_
 refine Wq (Wg (Lv ok 0 [(4, .bool true)] 1 rfl rfl (Ln _ rfl (W_ret ?_))))
 exact ⟨_, Ret_of [.bool true] ⟨⟨rfl, rfl⟩, trivial⟩, _, H, rfl, (X.stepx X8).ext⟩

theorem laws_eqTransport_w (a : Transport) (b : Transport) (Q : Bool → Prop) (H : laws_eqTransport a b Q) (w : World) {vx : Value} {hx : PH} (r : RS hx vx a.Rows) (ex : Sub hx w) {a1 : Value} {a2 : PH} (a3 : RS a2 a1 a.Cols) (bY : Sub a2 w) {a4 : Value} {a5 : PH} (a6 : RS a5 a4 a.Lo) (bZ : Sub a5 w) {a7 : Value} {a8 : PH} (a9 : RS a8 a7 a.Hi) (b0 : Sub a8 w) {bA : Value} {bB : PH} (bC : RS bB bA b.Rows) (b1 : Sub bB w) {bD : Value} {bE : PH} (bF : RS bE bD b.Cols) (b2 : Sub bE w) {bG : Value} {bH : PH} (bI : RS bH bG b.Lo) (b3 : Sub bH w) {bJ : Value} {bK : PH} (bL : RS bK bJ b.Hi) (b4 : Sub bK w) :
  CallsTo Try.prog 11 #[.agg #[vx, a1, a4, a7], .agg #[bA, bD, bG, bJ]] w fun v w' => ∃ bM, Q bM ∧ v = .bool bM ∧ Ext w w' := by
 obtain ⟨aA, c, rfl⟩ := r.shape
 obtain ⟨aB, aC, rfl⟩ := a3.shape
 obtain ⟨aD, aE, rfl⟩ := a6.shape
 obtain ⟨aF, aG, rfl⟩ := a9.shape
 obtain ⟨aH, aI, rfl⟩ := bC.shape
 obtain ⟨aJ, aK, rfl⟩ := bF.shape
 obtain ⟨aL, aM, rfl⟩ := bI.shape
 obtain ⟨aN, aO, rfl⟩ := bL.shape
 refine enter (args := [.agg #[sl aA a.Rows c, sl aB a.Cols aC, sl aD a.Lo aE, sl aF a.Hi aG], .agg #[sl aH b.Rows aI, sl aJ b.Cols aK, sl aL b.Lo aM, sl aN b.Hi aO]]) 29 Try.func11 rfl rfl rfl ?_
 refine Wo [(0, .agg #[sl aA a.Rows c, sl aB a.Cols aC, sl aD a.Lo aE, sl aF a.Hi aG]), (1, .agg #[sl aH b.Rows aI, sl aJ b.Cols aK, sl aL b.Lo aM, sl aN b.Hi aO])] ⟨rfl, rfl, trivial⟩ fun ρ => ?_
 have X := Br emp w
 refine Wq (Wg (Ly 0 (cs := [sl aA a.Rows c, sl aB a.Cols aC, sl aD a.Lo aE, sl aF a.Hi aG]) rfl rfl rfl rfl rfl fun aP wx x b5 f => (Ly 1 (cs := [sl aH b.Rows aI, sl aJ b.Cols aK, sl aL b.Lo aM, sl aN b.Hi aO]) rfl rfl rfl rfl rfl fun aQ b6 bN bO cA => (Lv ok 2 [(4, .bool false)] 3 rfl rfl (Ln _ rfl (Wq (Wq (Wg (Lv ok 0 [(5, pb aP)] 1 rfl rfl ?_)))))))))
 have bP := (b5.ext bN)
 refine Lb 1 (v := sl aA a.Rows c) rfl rfl rfl ti_22 ag_22 (fun _ => rfl) rfl bP rfl rfl (Lv ok 2 [(7, pb aQ)] 3 rfl rfl (Lb 3 (v := sl aH b.Rows aI) rfl rfl rfl ti_22 ag_22 (fun _ => rfl) rfl bO rfl rfl ?_))
 have xc := (x.trans bN)
 refine Lc 4 rfl rfl rfl cal_38 rfl (laws_eqIntS_w _ _ _ H b6 r (ex.ext xc) bC (b1.ext xc)) ?_
 rintro _ b7 ⟨bQ, H, rfl, aR⟩
 refine Lv ok 5 [(10, .bool (!bQ))] 6 rfl rfl (Ln _ rfl ?_)
 refine Wc (!bQ) rfl (fun hc => ?_) (fun hc => ?_)
 ·have H := H.1 hc
  refine Wq (Wg (Lv ok 0 [(4, .bool false)] 1 rfl rfl (Ln _ rfl (W_ret ?_))))
  exact ⟨_, Ret_of [.bool false] ⟨⟨rfl, rfl⟩, trivial⟩, _, H, rfl, (X.stepx (xc.trans aR)).ext⟩
 have H := H.2 hc
 refine Wk (Wq (Wq (Wg (Lv ok 0 [(11, .pointer (some ⟨aP, 1, none⟩))] 1 rfl rfl ?_))))
 have bR := (bP.ext aR)
 refine Lb 1 (v := sl aB a.Cols aC) rfl rfl rfl ti_22 ag_22 (fun _ => rfl) rfl bR rfl rfl (Lv ok 2 [(13, .pointer (some ⟨aQ, 1, none⟩))] 3 rfl rfl ?_)
 have bS := (bO.ext aR)
 refine Lb 3 (v := sl aJ b.Cols aK) rfl rfl rfl ti_22 ag_22 (fun _ => rfl) rfl bS rfl rfl ?_
 have aS := (xc.trans aR)
 refine Lc 4 rfl rfl rfl cal_38 rfl (laws_eqIntS_w _ _ _ H b7 a3 (bY.ext aS) bF (b2.ext aS)) ?_
 rintro _ b8 ⟨bT, H, rfl, aT⟩
 refine Lv ok 5 [(16, .bool (!bT))] 6 rfl rfl (Ln _ rfl ?_)
 refine Wc (!bT) rfl (fun aX => ?_) (fun aX => ?_)
 ·have H := H.1 aX
  refine Wq (Wg (Lv ok 0 [(4, .bool false)] 1 rfl rfl (Ln _ rfl (W_ret ?_))))
  exact ⟨_, Ret_of [.bool false] ⟨⟨rfl, rfl⟩, trivial⟩, _, H, rfl, (X.stepx (aS.trans aT)).ext⟩
 have H := H.2 aX
 refine Wk (Wq (Wq (Wg (Lv ok 0 [(17, .pointer (some ⟨aP, 2, none⟩))] 1 rfl rfl ?_))))
 have bU := (bR.ext aT)
 refine Lb 1 (v := sl aD a.Lo aE) rfl rfl rfl ti_23 ag_23 (fun _ => rfl) rfl bU rfl rfl (Lv ok 2 [(19, .pointer (some ⟨aQ, 2, none⟩))] 3 rfl rfl ?_)
 have bV := (bS.ext aT)
 refine Lb 3 (v := sl aL b.Lo aM) rfl rfl rfl ti_23 ag_23 (fun _ => rfl) rfl bV rfl rfl ?_
 have aU := (aS.trans aT)
 refine Lc 4 rfl rfl rfl cal_16 rfl (laws_eqIntSS_w _ _ _ H b8 a6 (bZ.ext aU) bI (b3.ext aU)) ?_
 rintro _ b9 ⟨bW, H, rfl, aV⟩
 refine Lv ok 5 [(22, .bool (!bW))] 6 rfl rfl (Ln _ rfl ?_)
 refine Wc (!bW) rfl (fun aY => ?_) (fun aY => ?_)
 ·have H := H.1 aY
  refine Wq (Wg (Lv ok 0 [(4, .bool false)] 1 rfl rfl (Ln _ rfl (W_ret ?_))))
  exact ⟨_, Ret_of [.bool false] ⟨⟨rfl, rfl⟩, trivial⟩, _, H, rfl, (X.stepx (aU.trans aV)).ext⟩
 have H := H.2 aY
 refine Wk (Wq (Wq (Wg (Lv ok 0 [(23, .pointer (some ⟨aP, 3, none⟩))] 1 rfl rfl (Lb 1 (v := sl aF a.Hi aG) rfl rfl rfl ti_23 ag_23 (fun _ => rfl) rfl (bU.ext aV) rfl rfl (Lv ok 2 [(25, .pointer (some ⟨aQ, 3, none⟩))] 3 rfl rfl (Lb 3 (v := sl aN b.Hi aO) rfl rfl rfl ti_23 ag_23 (fun _ => rfl) rfl (bV.ext aV) rfl rfl ?_)))))))
 have aW := (aU.trans aV)
 refine Lc 4 rfl rfl rfl cal_16 rfl (laws_eqIntSS_w _ _ _ H b9 a9 (b0.ext aW) bL (b4.ext aW)) ?_
 rintro _ cB ⟨aZ, H, rfl, bX⟩
 refine Lv ok 5 [(28, .bool (!aZ))] 6 rfl rfl (Ln _ rfl ?_)
 try refine Wo [(28, .bool (!aZ))] ⟨rfl, trivial⟩ fun ρ => ?_
 refine Wc (!aZ) rfl (fun a0 => ?_) (fun a0 => ?_)
 ·have H := H.1 a0
  refine Wq (Wg (Lv ok 0 [(4, .bool false)] 1 rfl rfl (Ln _ rfl (W_ret ?_))))
  exact ⟨_, Ret_of [.bool false] ⟨⟨rfl, rfl⟩, trivial⟩, _, H, rfl, (X.stepx (aW.trans bX)).ext⟩
 have H := H.2 a0
 refine Wk (Wq (Wg (Lv ok 0 [(4, .bool true)] 1 rfl rfl (Ln _ rfl (W_ret ?_)))))
 exact ⟨_, Ret_of [.bool true] ⟨⟨rfl, rfl⟩, trivial⟩, _, H, rfl, (X.stepx (aW.trans bX)).ext⟩

theorem laws_FnExactCountFlows_w (aT : Transport) (Q : Bool → Prop) (H : laws_FnExactCountFlows aT Q) (w : World) {vx : Value} {hx : PH} (r : RS hx vx aT.Rows) (ex : Sub hx w) {bQ : Value} {bR : PH} (aR : RS bR bQ aT.Cols) (cR : Sub bR w) {bS : Value} {bT : PH} (aS : RS bT bS aT.Lo) (cS : Sub bT w) {bU : Value} {bV : PH} (aU : RS bV bU aT.Hi) (cT : Sub bV w) :
  CallsTo Try.prog 3 #[.agg #[vx, bQ, bS, bU]] w fun v w' => ∃ bW, Q bW ∧ v = .bool bW ∧ Ext w w' := by
 obtain ⟨a, c, rfl⟩ := r.shape
 obtain ⟨aD, aE, rfl⟩ := aR.shape
 obtain ⟨aF, aG, rfl⟩ := aS.shape
 obtain ⟨aH, aI, rfl⟩ := aU.shape
 refine enter (args := [.agg #[sl a aT.Rows c, sl aD aT.Cols aE, sl aF aT.Lo aG, sl aH aT.Hi aI]]) 40 Try.func3 rfl rfl rfl ?_
 refine Wo [(0, .agg #[sl a aT.Rows c, sl aD aT.Cols aE, sl aF aT.Lo aG, sl aH aT.Hi aI])] ⟨rfl, trivial⟩ fun ρ => ?_
 have X := Br emp w
 refine Wq (Wg (Ly 0 (cs := [sl a aT.Rows c, sl aD aT.Cols aE, sl aF aT.Lo aG, sl aH aT.Hi aI]) rfl rfl rfl rfl rfl fun b wx x bX f => (Lv ok 1 [(2, .bool false)] 2 rfl rfl (Ln _ rfl (Wq (Wg (Lv ok 0 [(3, I 1048576)] 1 rfl rfl (Ln _ rfl (Wq (Wg (Lb 0 (v := .agg #[sl a aT.Rows c, sl aD aT.Cols aE, sl aF aT.Lo aG, sl aH aT.Hi aI]) rfl rfl rfl ti_25 ag_25 (fun h => by cases h) rfl bX rfl rfl ?_)))))))))))
 refine Lv ok 1 [(10, I 1048576)] 2 rfl rfl ?_
 have bY := (ex.ext x)
 have bZ := (cR.ext x)
 have b0 := (cS.ext x)
 have b1 := (cT.ext x)
 refine Lc 2 rfl rfl rfl cal_7 rfl (laws_szTransport_w _ _ _ H wx r bY aR bZ aS b0 aU b1) ?_
 rintro _ cU ⟨a6, H, rfl, aJ⟩
 refine Lv ok 3 [(3, I a6)] 4 rfl rfl (Ln _ rfl (Wq (Wq (Wg (Lv ok 0 [(12, I a6), (13, .bool (decide (a6 < 0)))] 2 rfl rfl (Ln _ rfl ?_))))))
 refine Wc (decide (a6 < 0)) rfl (fun hc => ?_) (fun hc => ?_)
 ·have H := H.1 hc
  refine Wq (Wg (Lv ok 0 [(2, .bool true)] 1 rfl rfl (Ln _ rfl (W_ret ?_))))
  exact ⟨_, Ret_of [.bool true] ⟨⟨rfl, rfl⟩, trivial⟩, _, H, rfl, (X.stepx (x.trans aJ)).ext⟩
 have H := H.2 hc
 refine Wk (Wq (Wg ?_))
 have b2 := (bX.ext aJ)
 refine Lb 0 (v := .agg #[sl a aT.Rows c, sl aD aT.Cols aE, sl aF aT.Lo aG, sl aH aT.Hi aI]) rfl rfl rfl ti_25 ag_25 (fun h => by cases h) rfl b2 rfl rfl ?_
 have b3 := (bY.ext aJ)
 have b4 := (bZ.ext aJ)
 have b5 := (b0.ext aJ)
 have b6 := (b1.ext aJ)
 refine Lc 1 rfl rfl rfl cal_9 rfl (laws_toTransport_w _ _ H cU r b3 aR b4 aS b5 aU b6) ?_
 rintro _ cV ⟨dS, dT, dU, dV, dW, dX, dY, dZ, d0, H, rfl, bA, HF⟩
 revert HF
 refine bb9 fun o cW d1 b7 cX d2 b8 cY => ?_
 refine bb9 fun d3 b9 cZ d4 d d5 d6 d7 => ?_
 refine bb2 fun d8 d9 => ?_
 obtain ⟨eA, eB, rfl⟩ := o.shape
 obtain ⟨eC, eD, rfl⟩ := b7.shape
 obtain ⟨eE, eF, rfl⟩ := b8.shape
 obtain ⟨eG, eH, rfl⟩ := b9.shape
 refine Lc 2 rfl rfl rfl cal_8 rfl (spec_CountFlows_w _ _ H cV o.readf cW b7.readf cX b8.readf cY b9.readf cZ) ?_
 rintro _ c0 ⟨aK, aL, H, rfl, bB⟩
 refine Lv ok 3 [(14, .tuple #[I aK, .bool aL]), (18, I aK), (19, .bool aL), (4, I aK), (5, .bool aL)] 8 rfl rfl (Ln _ rfl (Wq (Wg ?_)))
 have aV := (bA.trans bB)
 have bC := (b2.ext aV)
 refine Lb 0 (v := .agg #[sl a aT.Rows c, sl aD aT.Cols aE, sl aF aT.Lo aG, sl aH aT.Hi aI]) rfl rfl rfl ti_25 ag_25 (fun h => by cases h) rfl bC rfl rfl ?_
 have bD := (b3.ext aV)
 have bE := (b4.ext aV)
 have bF := (b5.ext aV)
 have bG := (b6.ext aV)
 refine Lc 1 rfl rfl rfl cal_9 rfl (laws_toTransport_w _ _ H c0 r bD aR bE aS bF aU bG) ?_
 rintro _ eI ⟨aA, eJ, eK, eL, eM, eN, eO, eP, eQ, H, rfl, aM, HF⟩
 revert HF
 refine bb9 fun bH cA eR bI cB eS bJ cC => ?_
 refine bb9 fun eT bK cD eU eV eW eX eY => ?_
 refine bb2 fun eZ e0 => ?_
 obtain ⟨aW, aX, rfl⟩ := bH.shape
 obtain ⟨aY, aZ, rfl⟩ := bI.shape
 obtain ⟨a0, a1, rfl⟩ := bJ.shape
 obtain ⟨a2, a3, rfl⟩ := bK.shape
 refine La 2 rfl rfl rfl ti_29 rfl fun bL e1 aP c1 aC => (Lx 3 (vs := [sl aW aA.Rows aX, sl aY aA.Cols aZ, sl a0 aA.Lo a1, sl a2 aA.Hi a3]) (cs' := [sl aW aA.Rows aX, sl aY aA.Cols aZ, sl a0 aA.Lo a1, sl a2 aA.Hi a3]) rfl rfl rfl ti_29 rfl rfl rfl rfl rfl c1 rfl rfl fun c2 cE y => (Ln _ rfl (Wq (Wg (Lb 0 (v := .agg #[sl aW aA.Rows aX, sl aY aA.Cols aZ, sl a0 aA.Lo a1, sl a2 aA.Hi a3]) rfl rfl rfl ti_29 ag_29 (fun h => by cases h) rfl cE rfl rfl ?_)))))
 have dj := (Df cA aC).symm
 have cF := ((cA.ext aP).but y dj)
 have c3 := (Df cB aC).symm
 have cG := ((cB.ext aP).but y c3)
 have c4 := (Df cC aC).symm
 have cH := ((cC.ext aP).but y c4)
 have c5 := (Df cD aC).symm
 have cI := ((cD.ext aP).but y c5)
 refine Lc 1 rfl rfl rfl cal_10 rfl (impl_CountFlows_w _ _ H c2 bH.readf cF bI.readf cG bJ.readf cH bK.readf cI) ?_
 rintro _ c6 ⟨aN, aO, H, rfl, aB⟩
 refine Lv ok 2 [(22, .tuple #[I aN, .bool aO]), (25, I aN), (26, .bool aO), (7, I aN), (8, .bool aO)] 7 rfl rfl (Ln _ rfl ?_)
 try refine Wo [(1, pb b), (4, I aK), (5, .bool aL), (6, pb bL), (7, I aN), (8, .bool aO)] ⟨rfl, rfl, rfl, rfl, rfl, rfl, trivial⟩ fun ρ => ?_
 refine Wq ?_
 have c7 := aC.mono (X.stepx ((((x.trans aJ).trans bA).trans bB).trans aM)).size
 have X137 := (((X.stepx (((((x.trans aJ).trans bA).trans bB).trans aM).trans aP)).step y (c7.dom _)).stepx aB)
 have a4 := (aM.trans aP)
 have c8 := (Df (bD.ext aM) aC).symm
 have c9 := (Df (bE.ext aM) aC).symm
 have dA := (Df (bF.ext aM) aC).symm
 have dB := (Df (bG.ext aM) aC).symm
 have dC := (Df (bC.ext aM) aC).symm
 obtain ⟨k, hk, H⟩ := jn_elim H
 refine W_join2 (S := Bool) (fun s ρ' w' => k s ∧ ∃ (ρ : Env), ρ' = setAll [(1, pb b), (6, pb bL), (34, .bool s)] ρ ∧ c6 = w') ?_ ?_
 ·refine Wg (Lv ok 0 [(27, I aN), (28, I aK), (29, .bool (aN != aK)), (30, .bool (aN != aK))] 4 rfl rfl ?_)
  refine LP_split 30 (aN != aK) rfl (fun bM => ?_) (fun bM => ?_)
  ·have H := H.1 bM
   refine Lv ok 4 [(31, undef), (32, undef), (33, undef), (34, .bool true)] 8 rfl rfl ?_
   exact Ln _ rfl ⟨true, H, _, Ee ⟨rfl, rfl, rfl, trivial⟩, rfl⟩
  have H := H.2 bM
  refine Lv ok 4 [(31, .bool aO), (32, .bool aL), (33, .bool (aO != aL)), (34, .bool (aO != aL))] 8 rfl rfl ?_
  exact Ln _ rfl ⟨aO != aL, H, _, Ee ⟨rfl, rfl, rfl, trivial⟩, rfl⟩
 rintro dD _ _ ⟨H, ρ, rfl, rfl⟩
 subst hk
 refine Wc (dD) rfl (fun bN => ?_) (fun bN => ?_)
 ·have H := H.1 bN
  refine Wq (Wg (Lv ok 0 [(2, .bool false)] 1 rfl rfl (Ln _ rfl (W_ret ?_))))
  exact ⟨_, Ret_of [.bool false] ⟨⟨rfl, rfl⟩, trivial⟩, _, H, rfl, X137.ext⟩
 have H := H.2 bN
 refine Wk (Wq (Wq ?_))
 refine W_open mix fun e2 a7 => ?_
 refine AP_game 3 [[], [], [1], [0, 1, 2], [0, 1, 2, 3]] [[(6, none)], [(1, none)], [(36, some 1)]] [(35, some 0), (37, some 2)] [(0, false), (1, false), (2, true)] (by kernel_rfl) (by kernel_rfl) ?_
 have cJ := ((cE.ext aB).ext a7)
 refine GS_r1 [(6, pb bL)] (.agg #[sl aW aA.Rows aX, sl aY aA.Cols aZ, sl a0 aA.Lo a1, sl a2 aA.Hi a3]) rfl rfl (fun _ h => h) (fun _ w e => ex_ldbox rfl ti_29 ag_29 (fun h => by cases h) rfl e rfl rfl) cJ ?_
 refine GS_r1 [(1, pb b)] (.agg #[sl a aT.Rows c, sl aD aT.Cols aE, sl aF aT.Lo aG, sl aH aT.Hi aI]) rfl rfl (fun _ h => h) (fun _ w e => ex_ldbox rfl ti_25 ag_25 (fun h => by cases h) rfl e rfl rfl) ((((bC.ext a4).but y dC).ext aB).ext a7) ?_
 refine GS_lp [(36, .agg #[sl a aT.Rows c, sl aD aT.Cols aE, sl aF aT.Lo aG, sl aH aT.Hi aI])] rfl rfl (fun _ h => h) rfl fun ρ dE bO => ?_
 have a8 := (a7.trans bO)
 refine Lc 0 rfl rfl rfl cal_9 rfl (laws_toTransport_w _ _ H dE r ((((bD.ext a4).but y c8).ext aB).ext a8) aR ((((bE.ext a4).but y c9).ext aB).ext a8) aS ((((bF.ext a4).but y dA).ext aB).ext a8) aU ((((bG.ext a4).but y dB).ext aB).ext a8)) ?_
 rintro _ e3 ⟨a9, e4, e5, e6, e7, e8, e9, fA, fB, H, rfl, cK, HF⟩
 revert HF
 refine bb9 fun cL dF fC cM dG fD cN dH => ?_
 refine bb9 fun fE cO dI fF fG fH fI fJ => ?_
 refine bb2 fun fK fL => ?_
 obtain ⟨dJ, dK, rfl⟩ := cL.shape
 obtain ⟨dL, dM, rfl⟩ := cM.shape
 obtain ⟨dN, dO, rfl⟩ := cN.shape
 obtain ⟨dP, dQ, rfl⟩ := cO.shape
 refine LP_gs ⟨⟨.inl rfl, .inr (cJ.ext (bO.trans cK)), trivial⟩, ?_⟩
 intro dR a5 ρ hn
 refine AP_forget [(35, .agg #[sl aW aA.Rows aX, sl aY aA.Cols aZ, sl a0 aA.Lo a1, sl a2 aA.Hi a3]), (37, .agg #[sl dJ a9.Rows dK, sl dL a9.Cols dM, sl dN a9.Lo dO, sl dP a9.Hi dQ])] (by exact hn) fun ρ => ?_
 refine AP_tail 3 [[], [], [1], [0, 1, 2], [0, 1, 2, 3]] (by kernel_rfl) ?_
 have aQ := (((a7.trans bO).trans cK).trans a5)
 refine Lc 3 rfl rfl rfl cal_11 rfl (laws_eqTransport_w _ _ _ H dR bH.readf ((cF.ext aB).ext aQ) bI.readf ((cG.ext aB).ext aQ) bJ.readf ((cH.ext aB).ext aQ) bK.readf ((cI.ext aB).ext aQ) cL.readf (dF.ext a5) cM.readf (dG.ext a5) cN.readf (dH.ext a5) cO.readf (dI.ext a5)) ?_
 rintro _ fM ⟨cP, H, rfl, cQ⟩
 refine Lv ok 4 [(39, .bool (!cP))] 5 rfl rfl (Ln _ rfl ?_)
 refine Wc (!cP) rfl (fun bP => ?_) (fun bP => ?_)
 ·have H := H.1 bP
  refine Wq (Wg (Lv ok 0 [(2, .bool false)] 1 rfl rfl (Ln _ rfl (W_ret ?_))))
  exact ⟨_, Ret_of [.bool false] ⟨⟨rfl, rfl⟩, trivial⟩, _, H, rfl, (X137.stepx (aQ.trans cQ)).ext⟩
 have H := H.2 bP
 refine Wk (Wq (Wg (Lv ok 0 [(2, .bool true)] 1 rfl rfl (Ln _ rfl (W_ret ?_)))))
 exact ⟨_, Ret_of [.bool true] ⟨⟨rfl, rfl⟩, trivial⟩, _, H, rfl, (X137.stepx (aQ.trans cQ)).ext⟩

end Go.Proofs.Ytommbnkecafodaa
