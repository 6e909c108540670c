/- The walks, further. -/
import Derived.Test.YtommbnkecafodaaRWalk2
set_option linter.unusedVariables false
set_option autoImplicit false
namespace Go.Proofs.Ytommbnkecafodaa
open Go Go.RowKit Go.Gv

open Go.Proofs
set_option maxRecDepth 8000
set_option maxHeartbeats 4000000
theorem impl_fill_w (t : Transport) (Q : (List (List Int)) → Prop) (H : impl_fill t Q) (w : World) {vx : Value} {hx : PH} (r : RS hx vx t.Rows) (ex : Sub hx w) {dA : Value} {dB : PH} (bU : RS dB dA t.Cols) (fP : Sub dB w) {dC : Value} {dD : PH} (a3 : RS dD dC t.Lo) (fQ : Sub dD w) {dE : Value} {dF : PH} (b5 : RS dF dE t.Hi) (fR : Sub dF w) :
  CallsTo Try.prog 63 #[.agg #[vx, dA, dC, dE]] w fun v w' => ∃ b6 b7 b8, Q b6 ∧ v = b7 ∧ Ext w w' ∧ OD b8 b7 b6 ∧ Sub b8 w' ∧ Fresh w.heap.size b8 ∧ CanV b7 b6 := by
 obtain ⟨a, c, rfl⟩ := r.shape
 obtain ⟨aQ, aR, rfl⟩ := bU.shape
 obtain ⟨aK, aL, rfl⟩ := a3.shape
 obtain ⟨bI, bJ, rfl⟩ := b5.shape
 refine enter (args := [.agg #[sl a t.Rows c, sl aQ t.Cols aR, sl aK t.Lo aL, sl bI t.Hi bJ]]) 141 Try.func63 rfl rfl rfl ?_
 refine Wo [(0, .agg #[sl a t.Rows c, sl aQ t.Cols aR, sl aK t.Lo aL, sl bI t.Hi bJ])] ⟨rfl, trivial⟩ fun ρ => ?_
 have X := Br emp w
 refine Wq (Wg (Ly 0 (cs := [sl a t.Rows c, sl aQ t.Cols aR, sl aK t.Lo aL, sl bI t.Hi bJ]) rfl rfl rfl rfl rfl fun b wx x b9 f => (Lv ok 1 [(2, .slice none 0 0)] 2 rfl rfl (Ln _ rfl (Wq ?_)))))
 refine W_quiet mix (by kernel_rfl) ?_
 refine QP_ev ok 0 [(14, pb b)] 1 rfl rfl ?_
 refine QP_ldbox 1 (v := sl a t.Rows c) rfl rfl rfl ti_22 ag_22 (fun _ => rfl) rfl b9 rfl rfl ?_
 refine QP_ev ok 2 [(16, I (ln t.Rows)), (17, .pointer (some ⟨b, 1, none⟩))] 4 rfl rfl ?_
 refine QP_ldbox 4 (v := sl aQ t.Cols aR) rfl rfl rfl ti_22 ag_22 (fun _ => rfl) rfl b9 rfl rfl ?_
 refine QP_ev ok 5 [(19, I (ln t.Cols)), (3, I (ln t.Rows)), (4, I (ln t.Cols))] 8 rfl rfl ?_
 refine QP_end _ rfl fun fS bK => ?_
 refine Wq (Wg ?_)
 have bV := (b9.ext bK)
 refine Lb 0 (v := .agg #[sl a t.Rows c, sl aQ t.Cols aR, sl aK t.Lo aL, sl bI t.Hi bJ]) rfl rfl rfl ti_29 ag_29 (fun h => by cases h) rfl bV rfl rfl (Lv ok 1 [(21, .pointer (some ⟨b, 2, none⟩))] 2 rfl rfl (Lb 2 (v := sl aK t.Lo aL) rfl rfl rfl ti_23 ag_23 (fun _ => rfl) rfl bV rfl rfl ?_))
 have xc := (x.trans bK)
 have bB := (ex.ext xc)
 have bL := (fP.ext xc)
 have bW := (fQ.ext xc)
 have cA := (fR.ext xc)
 refine Lc 3 rfl rfl rfl cal_89 rfl (impl_residual_w _ _ _ _ H fS r bB bU bL a3 bW b5 cA a3 bW) ?_
 rintro _ jH ⟨a4, jI, jJ, H, rfl, aH, o, cB, jK⟩
 obtain ⟨a5, a6, rfl⟩ := o.shape
 refine Lv ok 4 [(5, sl a5 a4 a6)] 5 rfl rfl (Ln _ rfl (Wq (Wg (Lv ok 0 [(24, I (ln t.Rows)), (25, I (ln t.Cols)), (26, I (wr ((ln t.Rows) + (ln t.Cols)))), (27, I (wr ((wr ((ln t.Rows) + (ln t.Cols))) + 2)))] 4 rfl rfl ?_))))
 obtain ⟨hn, hb, H⟩ := H
 refine LP_maked (β := Int) 4 rfl rfl rfl Try.underlying23 ti_22 rfl hn (by first | omega | (simp only [ln] at *; omega)) (by first | omega | (simp only [ln] at *; omega)) fun bM jL cC aG dG fT aE => ?_
 obtain ⟨aA, aB, rfl⟩ := dG.shape
 refine Lv ok 5 [(6, .slice aA (List.length (List.replicate (Int.toNat (wr ((wr ((ln t.Rows) + (ln t.Cols))) + 2))) (([] : List Int)))) aB)] 6 rfl rfl (Ln _ rfl (Wq (Wq (Wg (Lv ok 0 [(29, .slice aA (List.length (List.replicate (Int.toNat (wr ((wr ((ln t.Rows) + (ln t.Cols))) + 2))) (([] : List Int)))) aB), (30, I (ln (List.replicate (Int.toNat (wr ((wr ((ln t.Rows) + (ln t.Cols))) + 2))) (([] : List Int))))), (31, I 0)] 3 rfl rfl ?_)))))
 refine Ln _ rfl (W_block ?_)
 obtain ⟨J, m, Hx, H⟩ := H
 refine W_loop (S := (List (List Int)) × Int) (fun s ρ' w' => J s.1 s.2 ∧ ∃ (ρ : Env) (aI : PH), ρ' = setAll [(1, pb b), (3, I (ln t.Rows)), (4, I (ln t.Cols)), (5, sl a5 a4 a6), (6, .slice aA (List.length (List.replicate (Int.toNat (wr ((wr ((ln t.Rows) + (ln t.Cols))) + 2))) (([] : List Int)))) aB), (30, I (ln (List.replicate (Int.toNat (wr ((wr ((ln t.Rows) + (ln t.Cols))) + 2))) (([] : List Int))))), (31, I s.2)] ρ ∧ But bM cC w' ∧ OD aI (.slice aA (List.length (List.replicate (Int.toNat (wr ((wr ((ln t.Rows) + (ln t.Cols))) + 2))) (([] : List Int)))) aB) s.1 ∧ Sub aI w' ∧ DomLe bM cC.heap.size aI) (fun s => m s.1 s.2) (List.replicate (Int.toNat (wr ((wr ((ln t.Rows) + (ln t.Cols))) + 2))) (([] : List Int)), 0) ⟨Hx, _, bM, Ee ⟨rfl, rfl, rfl, rfl, rfl, rfl, rfl, trivial⟩, (Br _ _), dG, fT, (Oe (Or _) _)⟩ ?_
 rintro ⟨bX, aC⟩ _ cD ⟨Hi, ρ, aI, rfl, X53, dH, bN, aJ⟩
 have H := H bX aC Hi
 refine Wq (Wg (Lv ok 0 [(32, .bool (decide (aC < (ln (List.replicate (Int.toNat (wr ((wr ((ln t.Rows) + (ln t.Cols))) + 2))) (([] : List Int)))))))] 1 rfl rfl (Ln _ rfl (Wq ?_))))
 refine Wc (decide (aC < (ln (List.replicate (Int.toNat (wr ((wr ((ln t.Rows) + (ln t.Cols))) + 2))) (([] : List Int)))))) rfl (fun hc => ?_) (fun hc => ?_)
 ·have H := H.1 hc
  refine Wk ?_
  have dj := (Df (bB.ext aH) aE).symm
  have dI := (Df cB aE).symm
  obtain ⟨k, hk, H⟩ := jn_elim H
  refine W_join2 (S := (List (List Int))) (fun s ρ' w' => k s ∧ ∃ (ρ : Env) (bO : PH), ρ' = setAll [(1, pb b), (3, I (ln t.Rows)), (4, I (ln t.Cols)), (5, sl a5 a4 a6), (6, .slice aA (List.length (List.replicate (Int.toNat (wr ((wr ((ln t.Rows) + (ln t.Cols))) + 2))) (([] : List Int)))) aB), (30, I (ln (List.replicate (Int.toNat (wr ((wr ((ln t.Rows) + (ln t.Cols))) + 2))) (([] : List Int))))), (31, I aC)] ρ ∧ But aI cD w' ∧ OD bO (.slice aA (List.length (List.replicate (Int.toNat (wr ((wr ((ln t.Rows) + (ln t.Cols))) + 2))) (([] : List Int)))) aB) s ∧ Sub bO w' ∧ DomLe aI cD.heap.size bO) ?_ ?_
  ·refine W_block (Wq (Wg (Lv ok 0 [(33, I aC), (7, I aC)] 2 rfl rfl (Ln _ rfl (Wq (Wg (Lv ok 0 [(34, .slice aA (List.length (List.replicate (Int.toNat (wr ((wr ((ln t.Rows) + (ln t.Cols))) + 2))) (([] : List Int)))) aB), (35, I aC), (36, I (ln t.Rows)), (37, I (ln t.Cols)), (38, I (wr ((ln t.Rows) + (ln t.Cols)))), (39, I (wr ((wr ((ln t.Rows) + (ln t.Cols))) + 2)))] 6 rfl rfl ?_)))))))
   obtain ⟨fU, jM, H⟩ := H
   refine LP_make (α := Int) 6 rfl rfl rfl Try.underlying22 ti_3 (x0 := (0 : Int)) rfl rfl fU (by first | omega | (simp only [ln] at *; omega)) (by first | omega | (simp only [ln] at *; omega)) fun jN jO jP bP dJ fV cE => ?_
   obtain ⟨jQ, jR, rfl⟩ := dJ.shape
   obtain ⟨hi, hl, H⟩ := H
   refine LP_indexd (v := .slice aA (List.length (List.replicate (Int.toNat (wr ((wr ((ln t.Rows) + (ln t.Cols))) + 2))) (([] : List Int)))) aB) 7 rfl rfl rfl Try.underlying23 ti_22 rfl rfl dH hi hl fun jS wa => (LP_setD (y := List.replicate (Int.toNat (wr ((wr ((ln t.Rows) + (ln t.Cols))) + 2))) ((0 : Int))) 8 rfl rfl rfl rfl rfl wa (OD.rvo (OS.od dJ)) (bN.ext bP) fV (Df bN cE) fun dK hw jT dL dM y dh dq jU => ?_)
   refine Ln _ rfl (Wq (Wg (Lv ok 0 [(42, I aC), (43, I (ln t.Rows)), (44, I (ln t.Cols)), (45, I (wr ((ln t.Rows) + (ln t.Cols)))), (46, .bool (decide (aC < (wr ((ln t.Rows) + (ln t.Cols))))))] 5 rfl rfl (Ln _ rfl ?_))))
   refine Wc (decide (aC < (wr ((ln t.Rows) + (ln t.Cols))))) rfl (fun cF => ?_) (fun cF => ?_)
   ·have H := H.1 cF
    refine W_open mix fun jV cG => ?_
    refine AP_game 8 [[], [], [0, 1], [0, 1, 2], [], [], [4, 5], [4, 5, 6], [0, 1, 2, 3, 4, 5, 6, 7]] [[(6, none)], [(7, none)], [(47, some 0), (48, some 1)], [(49, some 2)], [(5, none)], [(7, none)], [(51, some 4), (52, some 5)], [(53, some 6)]] [(1, none), (3, none), (4, none), (5, none), (6, none), (30, none), (31, none), (50, some 3), (54, some 7)] [(0, false), (1, false), (2, false), (3, false), (4, false), (5, false), (6, false), (7, false)] (by kernel_rfl) (by kernel_rfl) ?_
    refine GS_ev ok [(6, .slice aA (List.length (List.replicate (Int.toNat (wr ((wr ((ln t.Rows) + (ln t.Cols))) + 2))) (([] : List Int)))) aB)] (.slice aA (List.length (List.replicate (Int.toNat (wr ((wr ((ln t.Rows) + (ln t.Cols))) + 2))) (([] : List Int)))) aB) rfl rfl (fun _ h => h) (fun _ => rfl) ?_
    refine GS_ev ok [(7, I aC)] (I aC) rfl rfl (fun _ h => h) (fun _ => rfl) ?_
    obtain ⟨bC, fW, fX, H⟩ := H
    obtain ⟨dN, u, fY, rest, fZ, f0, bw⟩ := run_indexb Try.underlying23 ti_22 dL _ fW fX
    refine GS_r0 [(47, .slice aA (List.length (List.replicate (Int.toNat (wr ((wr ((ln t.Rows) + (ln t.Cols))) + 2))) (([] : List Int)))) aB), (48, I aC)] (.pointer (some dN)) rfl rfl (fun _ h => h) (fun _ _ => ex_index rfl rfl rfl (fZ _)) ?_
    have dO := bw.od
    obtain ⟨cH, cI, rfl⟩ := dO.shape
    have cJ := (dM.ext cG)
    have f1 := Sub.le cJ bw.le
    have f2 : OS 3 fY emp (sl cH bC cI) bC := OD.flat dO
    refine GS_r1 [(49, .pointer (some dN))] (sl cH bC cI) rfl rfl (fun _ h => h) (fun _ w e => ex_ldcell rfl ti_22 ag_22 rfl f0 e) cJ ?_
    refine GS_ev ok [(5, sl a5 a4 a6)] (sl a5 a4 a6) rfl rfl (fun _ h => h) (fun _ => rfl) ?_
    refine GS_ev ok [(7, I aC)] (I aC) rfl rfl (fun _ h => h) (fun _ => rfl) ?_
    obtain ⟨bQ, f3, f4, H⟩ := H
    obtain ⟨dP, cs, f5, f6, d⟩ := run_indexAt Try.underlying23 ti_22 o.readf .i64 _ bQ f3 f4
    refine GS_r0 [(51, sl a5 a4 a6), (52, I aC)] (.pointer (some dP)) rfl rfl (fun _ h => h) (fun _ _ => ex_index rfl rfl rfl (f5 _)) ?_
    obtain ⟨jW, f7, f8⟩ := run_loadAt ti_22 ag_22 f6 d
    have dQ := f8.slice
    obtain ⟨dR, dS, rfl⟩ := dQ.shape
    have dT := (((((cB.ext aG).but X53 dI).ext bP).but (But.dom y dh) (Mj aJ dI (cB.ext aG))).ext cG)
    refine GS_r1 [(53, .pointer (some dP))] (sl dR bQ dS) rfl rfl (fun _ h => h) (fun _ w e => ex_load rfl rfl (f7 w e)) dT ?_
    intro jX bY ρ f9
    refine AP_forget [(1, pb b), (3, I (ln t.Rows)), (4, I (ln t.Cols)), (5, sl a5 a4 a6), (6, .slice aA (List.length (List.replicate (Int.toNat (wr ((wr ((ln t.Rows) + (ln t.Cols))) + 2))) (([] : List Int)))) aB), (30, I (ln (List.replicate (Int.toNat (wr ((wr ((ln t.Rows) + (ln t.Cols))) + 2))) (([] : List Int))))), (31, I aC), (50, sl cH bC cI), (54, sl dR bQ dS)] (by exact f9) fun ρ => ?_
    refine AP_tail 8 [[], [], [0, 1], [0, 1, 2], [], [], [4, 5], [4, 5, 6], [0, 1, 2, 3, 4, 5, 6, 7]] (by kernel_rfl) ?_
    refine LP_copy (α := Int) 8 rfl rfl rfl Try.underlying22 ti_3 rfl rfl rfl f2 (f1.ext bY) dQ (dT.ext bY) fun gA jY gB gC dU gD => ?_
    obtain ⟨jZ, gE, dd⟩ := BwL.turn bw (OS.od gB) (Dom.of gD)
    have gF := BwL.sub bw (cJ.ext bY) gC dU
    have gG := BwL.but bw dU
    refine Ln _ rfl ?_
    have dV := (cG.trans bY)
    have dW : DomLe aI cD.heap.size dK := (Mt (Mu (Oe (Or _) _) ((cE.mono (Nat.le_refl _)).dom _)) (Oe dq _) (Nat.le_refl _))
    exact ⟨List.set (List.set bX (Int.toNat aC) (List.replicate (Int.toNat (wr ((wr ((ln t.Rows) + (ln t.Cols))) + 2))) ((0 : Int)))) (Int.toNat aC) (List.take (List.length bC) bQ ++ List.drop (List.length bQ) bC), H, _, (un gA rest), Ee ⟨rfl, rfl, rfl, rfl, rfl, rfl, rfl, trivial⟩, (((((Br aI _).stepx bP).step (But.dom y dh) (Oe (Or _) _)).stepx dV).step gG dW), gE, gF, (Mt dW ((fun n => Oe dd n) _) (Nat.le_trans (Nat.le_trans bP.size (But.dom y dh).size) dV.size))⟩
   have H := H.2 cF
   exact Wk ⟨List.set bX (Int.toNat aC) (List.replicate (Int.toNat (wr ((wr ((ln t.Rows) + (ln t.Cols))) + 2))) ((0 : Int))), H, _, dK, Ee ⟨rfl, rfl, rfl, rfl, rfl, rfl, rfl, trivial⟩, (((Br aI _).stepx bP).step (But.dom y dh) (Oe (Or _) _)), dL, dM, (Mt (Mu (Oe (Or _) _) ((cE.mono (Nat.le_refl _)).dom _)) (Oe dq _) (Nat.le_refl _))⟩
  rintro gH _ j0 ⟨H, ρ, bO, rfl, X88, gI, gJ, gK⟩
  subst hk
  refine Wg (Lv ok 0 [(56, I (wr (aC + 1))), (31, I (wr (aC + 1)))] 2 rfl rfl (Ln _ rfl ?_))
  have dX : DomLe bM cC.heap.size aI := (Mt (Oe (Or _) _) aJ (Nat.le_refl _))
  exact ⟨(gH, wr (aC + 1)), ⟨H.1, _, bO, Ee ⟨rfl, rfl, rfl, rfl, rfl, rfl, rfl, trivial⟩, (((Br bM _).step X53 (Oe (Or _) _)).step X88 dX), gI, gJ, (Mt dX gK X53.size)⟩, H.2⟩
 have H := H.2 hc
 refine W_exit ?_
 refine (if_pos rfl).mpr ?_
 refine Wq ?_
 refine W_open mix fun j1 a7 => ?_
 refine AP_game 5 [[], [0], [0, 1], [], [3], [0, 1, 2, 3, 4], [0, 1, 2, 3, 4, 5], [0, 1, 2, 3, 4, 5, 6]] [[(1, none)], [(57, some 0)], [(58, some 1)], [(1, none)], [(60, some 3)]] [(1, none), (3, none), (4, none), (6, none), (59, some 2), (61, some 4)] [(0, false), (1, false), (3, false), (4, false), (2, true)] (by kernel_rfl) (by kernel_rfl) ?_
 refine GS_ev ok [(1, pb b)] (.pointer (some ⟨b, 2, none⟩)) rfl rfl (fun _ h => h) (fun _ => rfl) ?_
 have a8 := (aH.trans aG)
 have dY := (bV.ext aH)
 have dZ := (Df dY aE).symm
 have bZ := (((bV.ext a8).but X53 dZ).ext a7)
 refine GS_r1 [(57, .pointer (some ⟨b, 2, none⟩))] (sl aK t.Lo aL) rfl rfl (fun _ h => h) (fun _ w e => ex_ldbox rfl ti_23 ag_23 (fun _ => rfl) rfl e rfl rfl) bZ ?_
 refine GS_ev ok [(1, pb b)] (.pointer (some ⟨b, 2, none⟩)) rfl rfl (fun _ h => h) (fun _ => rfl) ?_
 refine GS_r1 [(60, .pointer (some ⟨b, 2, none⟩))] (sl aK t.Lo aL) rfl rfl (fun _ h => h) (fun _ w e => ex_ldbox rfl ti_23 ag_23 (fun _ => rfl) rfl e rfl rfl) bZ ?_
 refine GS_lp [(58, sl aK t.Lo aL)] rfl rfl (fun _ h => h) rfl fun ρ gL aV => ?_
 have d0 := (bW.ext aH)
 have d1 := (Df d0 aE).symm
 have d2 := (a7.trans aV)
 have d3 := (((bW.ext a8).but X53 d1).ext d2)
 refine Lc 0 rfl rfl rfl cal_65 rfl (impl_rowSums_w _ _ H gL a3 d3) ?_
 rintro _ j2 ⟨aW, j3, j4, H, rfl, aX, cK, gM, gN⟩
 obtain ⟨aY, aZ, rfl⟩ := cK.shape
 refine LP_gs ⟨⟨.inr (bZ.ext (aV.trans aX)), .inl rfl, trivial⟩, ?_⟩
 intro gO a0 ρ gP
 refine AP_forget [(1, pb b), (3, I (ln t.Rows)), (4, I (ln t.Cols)), (6, .slice aA (List.length (List.replicate (Int.toNat (wr ((wr ((ln t.Rows) + (ln t.Cols))) + 2))) (([] : List Int)))) aB), (59, sl aY aW aZ), (61, sl aK t.Lo aL)] (by exact gP) fun ρ => ?_
 refine AP_tail 5 [[], [0], [0, 1], [], [3], [0, 1, 2, 3, 4], [0, 1, 2, 3, 4, 5], [0, 1, 2, 3, 4, 5, 6]] (by kernel_rfl) ?_
 have cL := (d3.ext (aX.trans a0))
 refine Lc 5 rfl rfl rfl cal_78 rfl (impl_colSums_w _ _ H gO a3 cL) ?_
 rintro _ cM ⟨aS, j5, j6, H, rfl, a1, cN, d4, gQ⟩
 obtain ⟨aT, aU, rfl⟩ := cN.shape
 refine Lv ok 6 [(8, sl aY aW aZ), (9, sl aT aS aU)] 8 rfl rfl (Ln _ rfl (Wq (Wq (Wg (Lv ok 0 [(63, pb b)] 1 rfl rfl ?_)))))
 have cO := (bZ.ext (((aV.trans aX).trans a0).trans a1))
 refine Lb 1 (v := sl a t.Rows c) rfl rfl rfl ti_22 ag_22 (fun _ => rfl) rfl cO rfl rfl (Lv ok 2 [(65, I (ln t.Rows)), (66, I 0)] 4 rfl rfl (Ln _ rfl (W_block ?_)))
 obtain ⟨J212, gR, Hx214, H⟩ := H
 refine W_loop (S := (List (List Int)) × Int) (fun s ρ' w' => J212 s.1 s.2 ∧ ∃ (ρ : Env) (aM : PH), ρ' = setAll [(1, pb b), (3, I (ln t.Rows)), (4, I (ln t.Cols)), (6, .slice aA (List.length (List.replicate (Int.toNat (wr ((wr ((ln t.Rows) + (ln t.Cols))) + 2))) (([] : List Int)))) aB), (8, sl aY aW aZ), (9, sl aT aS aU), (64, sl a t.Rows c), (65, I (ln t.Rows)), (66, I s.2)] ρ ∧ But aI cM w' ∧ OD aM (.slice aA (List.length (List.replicate (Int.toNat (wr ((wr ((ln t.Rows) + (ln t.Cols))) + 2))) (([] : List Int)))) aB) s.1 ∧ Sub aM w' ∧ DomLe aI cM.heap.size aM) (fun s => gR s.1 s.2) (bX, 0) ⟨Hx214, _, aI, Ee ⟨rfl, rfl, rfl, rfl, rfl, rfl, rfl, rfl, rfl, trivial⟩, (Br _ _), dH, (bN.ext ((((a7.trans aV).trans aX).trans a0).trans a1)), (Oe (Or _) _)⟩ ?_
 rintro ⟨cP, aF⟩ _ cQ ⟨Hi, ρ, aM, rfl, X211, d5, d6, aN⟩
 have H := H cP aF Hi
 refine Wq (Wg (Lv ok 0 [(67, .bool (decide (aF < (ln t.Rows))))] 1 rfl rfl (Ln _ rfl (Wq ?_))))
 refine Wc (decide (aF < (ln t.Rows))) rfl (fun cR => ?_) (fun cR => ?_)
 ·have H := H.1 cR
  refine Wk (Wq (W_block (Wq (Wg (Lv ok 0 [(68, I aF)] 1 rfl rfl ?_)))))
  obtain ⟨aO, gS, gT, H⟩ := H
  refine Li 1 rfl rfl rfl Try.underlying22 ti_3 rfl rfl r gS gT fun j7 j8 gU gV => ?_
  have d7 := (bB.ext aH)
  have d8 := (Df d7 aE).symm
  have d9 := ((((a7.trans aV).trans aX).trans a0).trans a1)
  refine Lo 2 rfl rfl rfl ti_3 ag_3 rfl gU gV ((((bB.ext a8).but X53 d8).ext d9).but X211 (Mj aJ d8 (d7.ext aG))) fun j9 gW => ?_
  obtain rfl := gW.int
  refine Lv ok 3 [(10, I aF), (11, I aO)] 5 rfl rfl (Ln _ rfl (Wq (Wq (Wg (Lv ok 0 [(71, I aO), (72, sl aY aW aZ), (73, I aF)] 3 rfl rfl ?_)))))
  obtain ⟨eA, gX, gY, H⟩ := H
  refine Li 3 rfl rfl rfl Try.underlying22 ti_3 rfl rfl cK.readf gX gY fun kA kB gZ g0 => ?_
  have eB := ((gM.ext (a0.trans a1)).but X211 (Df (bN.ext d2) gN))
  refine Lo 4 rfl rfl rfl ti_3 ag_3 rfl gZ g0 eB fun kC g1 => ?_
  obtain rfl := g1.int
  refine Lv ok 5 [(76, .bool (decide (aO < eA)))] 6 rfl rfl (Ln _ rfl ?_)
  refine Wc (decide (aO < eA)) rfl (fun cS => ?_) (fun cS => ?_)
  ·have H := H.1 cS
   refine Wq (Wg (Lv ok 0 [(2, .slice none 0 0)] 1 rfl rfl (Ln _ rfl (W_ret ?_))))
   have X251 := (X.stepx (xc.trans aH))
   have g2 := aE.mono X251.size
   have g3 := aE.mono X251.size
   have g4 := DomLe.fresh aJ g3 (X251.stepx aG).size
   exact ⟨_, Ret_of [.slice none 0 0] ⟨⟨rfl, rfl⟩, trivial⟩, _, _, emp, H, rfl, ((((X.stepx (((x.trans bK).trans aH).trans aG)).step X53 (g2.dom _)).stepx d9).step X211 (g4.dom _)).ext, OD.nil, (emp_sub _), (emp_fresh _), CanV.nil⟩
  have H := H.2 cS
  refine Wk ?_
  refine W_open mix fun kD cT => ?_
  refine AP_game 13 [[], [], [], [1, 2], [0, 1, 2, 3], [0, 1, 2, 3, 4], [], [], [], [], [8, 9], [8, 9, 10], [7, 8, 9, 10, 11], [0, 1, 2, 3, 4, 5, 6, 7, 8, 9, 10, 11, 12], [0, 1, 2, 3, 4, 5, 6, 7, 8, 9, 10, 11, 12, 13]] [[(6, none)], [(3, none)], [(4, none)], [(78, some 1), (79, some 2)], [(77, some 0), (80, some 3)], [(81, some 4)], [(10, none)], [(11, none)], [(8, none)], [(10, none)], [(85, some 8), (86, some 9)], [(87, some 10)], [(84, some 7), (88, some 11)]] [(1, none), (3, none), (4, none), (6, none), (8, none), (9, none), (64, none), (65, none), (66, none), (82, some 5), (83, some 6), (89, some 12)] [(0, false), (1, false), (2, false), (3, false), (4, false), (5, false), (6, false), (7, false), (8, false), (9, false), (10, false), (11, false), (12, false)] (by kernel_rfl) (by kernel_rfl) ?_
  refine GS_ev ok [(6, .slice aA (List.length (List.replicate (Int.toNat (wr ((wr ((ln t.Rows) + (ln t.Cols))) + 2))) (([] : List Int)))) aB)] (.slice aA (List.length (List.replicate (Int.toNat (wr ((wr ((ln t.Rows) + (ln t.Cols))) + 2))) (([] : List Int)))) aB) rfl rfl (fun _ h => h) (fun _ => rfl) ?_
  refine GS_ev ok [(3, I (ln t.Rows))] (I (ln t.Rows)) rfl rfl (fun _ h => h) (fun _ => rfl) ?_
  refine GS_ev ok [(4, I (ln t.Cols))] (I (ln t.Cols)) rfl rfl (fun _ h => h) (fun _ => rfl) ?_
  refine GS_ev ok [(78, I (ln t.Rows)), (79, I (ln t.Cols))] (I (wr ((ln t.Rows) + (ln t.Cols)))) rfl rfl (fun _ h => h) (fun _ => rfl) ?_
  obtain ⟨bD, g5, g6, H⟩ := H
  obtain ⟨eC, kE, g7, g8, g9, hA, bR⟩ := run_indexb Try.underlying23 ti_22 d5 _ g5 g6
  refine GS_r0 [(77, .slice aA (List.length (List.replicate (Int.toNat (wr ((wr ((ln t.Rows) + (ln t.Cols))) + 2))) (([] : List Int)))) aB), (80, I (wr ((ln t.Rows) + (ln t.Cols))))] (.pointer (some eC)) rfl rfl (fun _ h => h) (fun _ _ => ex_index rfl rfl rfl (g9 _)) ?_
  have eD := bR.od
  obtain ⟨b0, b1, rfl⟩ := eD.shape
  have cU := (d6.ext cT)
  have hB := Sub.le cU bR.le
  have hC : OS 3 g7 emp (sl b0 bD b1) bD := OD.flat eD
  refine GS_r1 [(81, .pointer (some eC))] (sl b0 bD b1) rfl rfl (fun _ h => h) (fun _ w e => ex_ldcell rfl ti_22 ag_22 rfl hA e) cU ?_
  refine GS_ev ok [(10, I aF)] (I aF) rfl rfl (fun _ h => h) (fun _ => rfl) ?_
  refine GS_ev ok [(11, I aO)] (I aO) rfl rfl (fun _ h => h) (fun _ => rfl) ?_
  refine GS_ev ok [(8, sl aY aW aZ)] (sl aY aW aZ) rfl rfl (fun _ h => h) (fun _ => rfl) ?_
  refine GS_ev ok [(10, I aF)] (I aF) rfl rfl (fun _ h => h) (fun _ => rfl) ?_
  obtain ⟨bE, hD, hE, H⟩ := H
  obtain ⟨eE, kF, hF, hG, hH⟩ := run_indexAt Try.underlying22 ti_3 cK.readf .i64 _ bE hD hE
  refine GS_r0 [(85, sl aY aW aZ), (86, I aF)] (.pointer (some eE)) rfl rfl (fun _ h => h) (fun _ _ => ex_index rfl rfl rfl (hF _)) ?_
  obtain ⟨kG, hI, hJ⟩ := run_loadAt ti_3 ag_3 hG hH
  obtain rfl := hJ.int
  refine GS_r1 [(87, .pointer (some eE))] (I bE) rfl rfl (fun _ h => h) (fun _ w e => ex_load rfl rfl (hI w e)) (eB.ext cT) ?_
  refine GS_ev ok [(84, I aO), (88, I bE)] (I (wr (aO - bE))) rfl rfl (fun _ h => h) (fun _ => rfl) ?_
  intro kH cV ρ hK
  refine AP_forget [(1, pb b), (3, I (ln t.Rows)), (4, I (ln t.Cols)), (6, .slice aA (List.length (List.replicate (Int.toNat (wr ((wr ((ln t.Rows) + (ln t.Cols))) + 2))) (([] : List Int)))) aB), (8, sl aY aW aZ), (9, sl aT aS aU), (64, sl a t.Rows c), (65, I (ln t.Rows)), (66, I aF), (82, sl b0 bD b1), (83, I aF), (89, I (wr (aO - bE)))] (by exact hK) fun ρ => ?_
  refine AP_tail 13 [[], [], [], [1, 2], [0, 1, 2, 3], [0, 1, 2, 3, 4], [], [], [], [], [8, 9], [8, 9, 10], [7, 8, 9, 10, 11], [0, 1, 2, 3, 4, 5, 6, 7, 8, 9, 10, 11, 12], [0, 1, 2, 3, 4, 5, 6, 7, 8, 9, 10, 11, 12, 13]] (by kernel_rfl) ?_
  obtain ⟨hL, hM, H⟩ := H
  refine LP_indexw (v := sl b0 bD b1) 13 rfl rfl rfl Try.underlying22 ti_3 rfl rfl hC hL hM fun kI hN => (LP_set 14 rfl rfl rfl rfl rfl hN (Le.refl emp) ⟨_, rfl, rfl⟩ (hB.ext cV) fun hO kJ hP hQ eF hR => ?_)
  obtain ⟨kK, hS, hT⟩ := BwL.turn bR (OS.od hP) (Dom.of hR)
  have hU := BwL.sub bR (cU.ext cV) hQ eF
  have hV := BwL.but bR eF
  refine Ln _ rfl (Wg (Lv ok 0 [(91, I (wr (aF + 1))), (66, I (wr (aF + 1)))] 2 rfl rfl (Ln _ rfl ?_)))
  have eG := (cT.trans cV)
  have eH : DomLe aI cM.heap.size aM := (Mt (Oe (Or _) _) aN (Nat.le_refl _))
  exact ⟨(List.set cP (Int.toNat (wr ((ln t.Rows) + (ln t.Cols)))) (List.set bD (Int.toNat aF) (wr (aO - bE))), wr (aF + 1)), ⟨H.1, _, (un hO g8), Ee ⟨rfl, rfl, rfl, rfl, rfl, rfl, rfl, rfl, rfl, trivial⟩, ((((Br aI _).step X211 (Oe (Or _) _)).stepx eG).step hV eH), hS, hU, (Mt eH ((fun n => Oe hT n) _) (Nat.le_trans X211.size eG.size))⟩, H.2⟩
 have H := H.2 cR
 refine W_exit ?_
 refine (if_pos rfl).mpr ?_
 refine Wq (Wq (Wg (Lv ok 0 [(92, .pointer (some ⟨b, 1, none⟩))] 1 rfl rfl ?_)))
 have eI := (Mj aJ dZ (dY.ext aG))
 have cW := (cO.but X211 eI)
 refine Lb 1 (v := sl aQ t.Cols aR) rfl rfl rfl ti_22 ag_22 (fun _ => rfl) rfl cW rfl rfl (Lv ok 2 [(94, I (ln t.Cols)), (95, I 0)] 4 rfl rfl (Ln _ rfl (W_block ?_)))
 obtain ⟨J322, hW, Hx324, H⟩ := H
 refine W_loop (S := (List (List Int)) × Int) (fun s ρ' w' => J322 s.1 s.2 ∧ ∃ (ρ : Env) (bS : PH), ρ' = setAll [(1, pb b), (3, I (ln t.Rows)), (4, I (ln t.Cols)), (6, .slice aA (List.length (List.replicate (Int.toNat (wr ((wr ((ln t.Rows) + (ln t.Cols))) + 2))) (([] : List Int)))) aB), (9, sl aT aS aU), (93, sl aQ t.Cols aR), (94, I (ln t.Cols)), (95, I s.2)] ρ ∧ But aM cQ w' ∧ OD bS (.slice aA (List.length (List.replicate (Int.toNat (wr ((wr ((ln t.Rows) + (ln t.Cols))) + 2))) (([] : List Int)))) aB) s.1 ∧ Sub bS w' ∧ DomLe aM cQ.heap.size bS) (fun s => hW s.1 s.2) (cP, 0) ⟨Hx324, _, aM, Ee ⟨rfl, rfl, rfl, rfl, rfl, rfl, rfl, rfl, trivial⟩, (Br _ _), d5, d6, (Oe (Or _) _)⟩ ?_
 rintro ⟨eJ, aD⟩ _ hX ⟨Hi, ρ, bS, rfl, X321, eK, eL, a9⟩
 have H := H eJ aD Hi
 refine Wq (Wg (Lv ok 0 [(96, .bool (decide (aD < (ln t.Cols))))] 1 rfl rfl (Ln _ rfl (Wq ?_))))
 refine Wc (decide (aD < (ln t.Cols))) rfl (fun cX => ?_) (fun cX => ?_)
 ·have H := H.1 cX
  refine Wk (Wq (W_block (Wq (Wg (Lv ok 0 [(97, I aD)] 1 rfl rfl ?_)))))
  obtain ⟨aP, hY, hZ, H⟩ := H
  refine Li 1 rfl rfl rfl Try.underlying22 ti_3 rfl rfl bU hY hZ fun kL kM h0 h1 => ?_
  have eM := (bL.ext aH)
  have cY := (Df eM aE).symm
  have b2 := ((((a7.trans aV).trans aX).trans a0).trans a1)
  have eN := (eM.ext aG)
  have eO := (Mj aJ cY eN)
  refine Lo 2 rfl rfl rfl ti_3 ag_3 rfl h0 h1 (((((bL.ext a8).but X53 cY).ext b2).but X211 eO).but X321 (Mj aN eO ((eN.but X53 cY).ext b2))) fun kN h2 => ?_
  obtain rfl := h2.int
  refine Lv ok 3 [(12, I aD), (13, I aP)] 5 rfl rfl (Ln _ rfl (Wq (Wq (Wg (Lv ok 0 [(100, I aP), (101, sl aT aS aU), (102, I aD)] 3 rfl rfl ?_)))))
  obtain ⟨eP, h3, h4, H⟩ := H
  refine Li 3 rfl rfl rfl Try.underlying22 ti_3 rfl rfl cN.readf h3 h4 fun kO kP h5 h6 => ?_
  have eQ := (Df (bN.ext (((a7.trans aV).trans aX).trans a0)) gQ)
  have eR := ((d4.but X211 eQ).but X321 (Mj aN eQ d4))
  refine Lo 4 rfl rfl rfl ti_3 ag_3 rfl h5 h6 eR fun kQ h7 => ?_
  obtain rfl := h7.int
  refine Lv ok 5 [(105, .bool (decide (aP < eP)))] 6 rfl rfl (Ln _ rfl ?_)
  refine Wc (decide (aP < eP)) rfl (fun cZ => ?_) (fun cZ => ?_)
  ·have H := H.1 cZ
   refine Wq (Wg (Lv ok 0 [(2, .slice none 0 0)] 1 rfl rfl (Ln _ rfl (W_ret ?_))))
   have X362 := (X.stepx (xc.trans aH))
   have eS := aE.mono X362.size
   have h8 := aE.mono X362.size
   have X365 := (X362.stepx aG)
   have h9 := DomLe.fresh aJ h8 X365.size
   have iA := aE.mono X362.size
   have iB := DomLe.fresh aJ iA X365.size
   have iC := DomLe.fresh aN iB ((X365.step X53 (eS.dom _)).stepx b2).size
   exact ⟨_, Ret_of [.slice none 0 0] ⟨⟨rfl, rfl⟩, trivial⟩, _, _, emp, H, rfl, (((((X.stepx (((x.trans bK).trans aH).trans aG)).step X53 (eS.dom _)).stepx b2).step X211 (h9.dom _)).step X321 (iC.dom _)).ext, OD.nil, (emp_sub _), (emp_fresh _), CanV.nil⟩
  have H := H.2 cZ
  refine Wk ?_
  refine W_open mix fun kR c0 => ?_
  refine AP_game 16 [[], [], [], [1, 2], [0, 1, 2, 3], [0, 1, 2, 3, 4], [], [], [6, 7], [6, 7, 8], [], [], [], [11, 12], [11, 12, 13], [10, 11, 12, 13, 14], [0, 1, 2, 3, 4, 5, 6, 7, 8, 9, 10, 11, 12, 13, 14, 15], [0, 1, 2, 3, 4, 5, 6, 7, 8, 9, 10, 11, 12, 13, 14, 15, 16]] [[(6, none)], [(3, none)], [(12, none)], [(107, some 1), (108, some 2)], [(106, some 0), (109, some 3)], [(110, some 4)], [(3, none)], [(4, none)], [(112, some 6), (113, some 7)], [(114, some 8)], [(13, none)], [(9, none)], [(12, none)], [(117, some 11), (118, some 12)], [(119, some 13)], [(116, some 10), (120, some 14)]] [(1, none), (3, none), (4, none), (6, none), (9, none), (93, none), (94, none), (95, none), (111, some 5), (115, some 9), (121, some 15)] [(0, false), (1, false), (2, false), (3, false), (4, false), (5, false), (6, false), (7, false), (8, false), (9, false), (10, false), (11, false), (12, false), (13, false), (14, false), (15, false)] (by kernel_rfl) (by kernel_rfl) ?_
  refine GS_ev ok [(6, .slice aA (List.length (List.replicate (Int.toNat (wr ((wr ((ln t.Rows) + (ln t.Cols))) + 2))) (([] : List Int)))) aB)] (.slice aA (List.length (List.replicate (Int.toNat (wr ((wr ((ln t.Rows) + (ln t.Cols))) + 2))) (([] : List Int)))) aB) rfl rfl (fun _ h => h) (fun _ => rfl) ?_
  refine GS_ev ok [(3, I (ln t.Rows))] (I (ln t.Rows)) rfl rfl (fun _ h => h) (fun _ => rfl) ?_
  refine GS_ev ok [(12, I aD)] (I aD) rfl rfl (fun _ h => h) (fun _ => rfl) ?_
  refine GS_ev ok [(107, I (ln t.Rows)), (108, I aD)] (I (wr ((ln t.Rows) + aD))) rfl rfl (fun _ h => h) (fun _ => rfl) ?_
  obtain ⟨bF, iD, iE, H⟩ := H
  obtain ⟨eT, kS, iF, iG, iH, iI, bT⟩ := run_indexb Try.underlying23 ti_22 eK _ iD iE
  refine GS_r0 [(106, .slice aA (List.length (List.replicate (Int.toNat (wr ((wr ((ln t.Rows) + (ln t.Cols))) + 2))) (([] : List Int)))) aB), (109, I (wr ((ln t.Rows) + aD)))] (.pointer (some eT)) rfl rfl (fun _ h => h) (fun _ _ => ex_index rfl rfl rfl (iH _)) ?_
  have eU := bT.od
  obtain ⟨b3, b4, rfl⟩ := eU.shape
  have c1 := (eL.ext c0)
  have iJ := Sub.le c1 bT.le
  have iK : OS 3 iF emp (sl b3 bF b4) bF := OD.flat eU
  refine GS_r1 [(110, .pointer (some eT))] (sl b3 bF b4) rfl rfl (fun _ h => h) (fun _ w e => ex_ldcell rfl ti_22 ag_22 rfl iI e) c1 ?_
  refine GS_ev ok [(3, I (ln t.Rows))] (I (ln t.Rows)) rfl rfl (fun _ h => h) (fun _ => rfl) ?_
  refine GS_ev ok [(4, I (ln t.Cols))] (I (ln t.Cols)) rfl rfl (fun _ h => h) (fun _ => rfl) ?_
  refine GS_ev ok [(112, I (ln t.Rows)), (113, I (ln t.Cols))] (I (wr ((ln t.Rows) + (ln t.Cols)))) rfl rfl (fun _ h => h) (fun _ => rfl) ?_
  refine GS_ev ok [(114, I (wr ((ln t.Rows) + (ln t.Cols))))] (I (wr ((wr ((ln t.Rows) + (ln t.Cols))) + 1))) rfl rfl (fun _ h => h) (fun _ => rfl) ?_
  refine GS_ev ok [(13, I aP)] (I aP) rfl rfl (fun _ h => h) (fun _ => rfl) ?_
  refine GS_ev ok [(9, sl aT aS aU)] (sl aT aS aU) rfl rfl (fun _ h => h) (fun _ => rfl) ?_
  refine GS_ev ok [(12, I aD)] (I aD) rfl rfl (fun _ h => h) (fun _ => rfl) ?_
  obtain ⟨bG, iL, iM, H⟩ := H
  obtain ⟨eV, kT, iN, iO, iP⟩ := run_indexAt Try.underlying22 ti_3 cN.readf .i64 _ bG iL iM
  refine GS_r0 [(117, sl aT aS aU), (118, I aD)] (.pointer (some eV)) rfl rfl (fun _ h => h) (fun _ _ => ex_index rfl rfl rfl (iN _)) ?_
  obtain ⟨kU, iQ, iR⟩ := run_loadAt ti_3 ag_3 iO iP
  obtain rfl := iR.int
  refine GS_r1 [(119, .pointer (some eV))] (I bG) rfl rfl (fun _ h => h) (fun _ w e => ex_load rfl rfl (iQ w e)) (eR.ext c0) ?_
  refine GS_ev ok [(116, I aP), (120, I bG)] (I (wr (aP - bG))) rfl rfl (fun _ h => h) (fun _ => rfl) ?_
  intro kV c2 ρ iS
  refine AP_forget [(1, pb b), (3, I (ln t.Rows)), (4, I (ln t.Cols)), (6, .slice aA (List.length (List.replicate (Int.toNat (wr ((wr ((ln t.Rows) + (ln t.Cols))) + 2))) (([] : List Int)))) aB), (9, sl aT aS aU), (93, sl aQ t.Cols aR), (94, I (ln t.Cols)), (95, I aD), (111, sl b3 bF b4), (115, I (wr ((wr ((ln t.Rows) + (ln t.Cols))) + 1))), (121, I (wr (aP - bG)))] (by exact iS) fun ρ => ?_
  refine AP_tail 16 [[], [], [], [1, 2], [0, 1, 2, 3], [0, 1, 2, 3, 4], [], [], [6, 7], [6, 7, 8], [], [], [], [11, 12], [11, 12, 13], [10, 11, 12, 13, 14], [0, 1, 2, 3, 4, 5, 6, 7, 8, 9, 10, 11, 12, 13, 14, 15], [0, 1, 2, 3, 4, 5, 6, 7, 8, 9, 10, 11, 12, 13, 14, 15, 16]] (by kernel_rfl) ?_
  obtain ⟨iT, iU, H⟩ := H
  refine LP_indexw (v := sl b3 bF b4) 16 rfl rfl rfl Try.underlying22 ti_3 rfl rfl iK iT iU fun kW iV => (LP_set 17 rfl rfl rfl rfl rfl iV (Le.refl emp) ⟨_, rfl, rfl⟩ (iJ.ext c2) fun iW kX iX iY eW iZ => ?_)
  obtain ⟨kY, i0, i1⟩ := BwL.turn bT (OS.od iX) (Dom.of iZ)
  have i2 := BwL.sub bT (c1.ext c2) iY eW
  have i3 := BwL.but bT eW
  refine Ln _ rfl (Wg (Lv ok 0 [(123, I (wr (aD + 1))), (95, I (wr (aD + 1)))] 2 rfl rfl (Ln _ rfl ?_)))
  have eX := (c0.trans c2)
  have eY : DomLe aM cQ.heap.size bS := (Mt (Oe (Or _) _) a9 (Nat.le_refl _))
  exact ⟨(List.set eJ (Int.toNat (wr ((ln t.Rows) + aD))) (List.set bF (Int.toNat (wr ((wr ((ln t.Rows) + (ln t.Cols))) + 1))) (wr (aP - bG))), wr (aD + 1)), ⟨H.1, _, (un iW iG), Ee ⟨rfl, rfl, rfl, rfl, rfl, rfl, rfl, rfl, trivial⟩, ((((Br aM _).step X321 (Oe (Or _) _)).stepx eX).step i3 eY), i0, i2, (Mt eY ((fun n => Oe i1 n) _) (Nat.le_trans X321.size eX.size))⟩, H.2⟩
 have H := H.2 cX
 refine W_exit ?_
 refine (if_pos rfl).mpr ?_
 refine Wq (Wg (Lv ok 0 [(124, .slice aA (List.length (List.replicate (Int.toNat (wr ((wr ((ln t.Rows) + (ln t.Cols))) + 2))) (([] : List Int)))) aB), (125, I (ln t.Rows)), (126, I (ln t.Cols)), (127, I (wr ((ln t.Rows) + (ln t.Cols)))), (128, I (ln t.Rows)), (129, I (ln t.Cols)), (130, I (wr ((ln t.Rows) + (ln t.Cols)))), (131, I (wr ((wr ((ln t.Rows) + (ln t.Cols))) + 1))), (132, pb b)] 9 rfl rfl ?_))
 have eZ := (Mj aN eI cO)
 have e0 := (cW.but X321 eZ)
 refine Lb 9 (v := sl a t.Rows c) rfl rfl rfl ti_22 ag_22 (fun _ => rfl) rfl e0 rfl rfl ?_
 have e1 := (bB.ext aH)
 have c3 := (Df e1 aE).symm
 have a2 := ((((a7.trans aV).trans aX).trans a0).trans a1)
 have e2 := (e1.ext aG)
 have c4 := (Mj aJ c3 e2)
 have e3 := ((e2.but X53 c3).ext a2)
 have e4 := (Mj aN c4 e3)
 have e5 := (((((bB.ext a8).but X53 c3).ext a2).but X211 c4).but X321 e4)
 refine Lc 10 rfl rfl rfl cal_64 rfl (impl_total_w _ _ H hX r e5) ?_
 rintro _ i4 ⟨kZ, H, rfl, bA⟩
 refine Lc 11 rfl rfl rfl cal_90 rfl (impl_push_w _ _ _ _ _ H i4 eK (eL.ext bA)) ?_
 rintro _ i5 ⟨k0, k1, k2, H, rfl, bH, i6, i7, k3⟩
 refine Ln _ rfl (Wq (Wg ?_))
 have e6 := ((e0.ext bA).but bH (Mj a9 eZ cW))
 refine Lb 0 (v := .agg #[sl a t.Rows c, sl aQ t.Cols aR, sl aK t.Lo aL, sl bI t.Hi bJ]) rfl rfl rfl ti_29 ag_29 (fun h => by cases h) rfl e6 rfl rfl (Lv ok 1 [(137, .pointer (some ⟨b, 2, none⟩))] 2 rfl rfl (Lb 2 (v := sl aK t.Lo aL) rfl rfl rfl ti_23 ag_23 (fun _ => rfl) rfl e6 rfl rfl (Lv ok 3 [(139, .slice aA (List.length (List.replicate (Int.toNat (wr ((wr ((ln t.Rows) + (ln t.Cols))) + 2))) (([] : List Int)))) aB)] 4 rfl rfl ?_)))
 have e7 := (bL.ext aH)
 have c5 := (Df e7 aE).symm
 have e8 := (e7.ext aG)
 have c6 := (Mj aJ c5 e8)
 have e9 := ((e8.but X53 c5).ext a2)
 have fA := (Mj aN c6 e9)
 have c7 := (Mj aJ d1 (d0.ext aG))
 have fB := (cL.ext a1)
 have fC := (Mj aN c7 fB)
 have fD := (((((cL.ext a1).but X211 c7).but X321 fC).ext bA).but bH (Mj a9 fC (fB.but X211 c7)))
 have fE := (cA.ext aH)
 have c8 := (Df fE aE).symm
 have fF := (fE.ext aG)
 have c9 := (Mj aJ c8 fF)
 have fG := ((fF.but X53 c8).ext a2)
 have fH := (Mj aN c9 fG)
 refine Lc 4 rfl rfl rfl cal_91 rfl (impl_restore_w _ _ _ _ _ H i5 r ((e5.ext bA).but bH (Mj a9 e4 (e3.but X211 c4))) bU (((((((bL.ext a8).but X53 c5).ext a2).but X211 c6).but X321 fA).ext bA).but bH (Mj a9 fA (e9.but X211 c6))) a3 fD b5 (((((((cA.ext a8).but X53 c8).ext a2).but X211 c9).but X321 fH).ext bA).but bH (Mj a9 fH (fG.but X211 c9))) a3 fD i6.readf i7) ?_
 rintro _ k4 ⟨fI, k5, k6, H, rfl, i9, fJ, jA, jB, cn⟩
 obtain ⟨fK, fL, rfl⟩ := fJ.shape
 refine Lv ok 5 [(2, sl fK fI fL)] 6 rfl rfl (Ln _ rfl (W_ret ?_))
 have X491 := (X.stepx (xc.trans aH))
 have fM := aE.mono X491.size
 have jC := aE.mono X491.size
 have X494 := (X491.stepx aG)
 have fN := DomLe.fresh aJ jC X494.size
 have jD := aE.mono X491.size
 have jE := DomLe.fresh aJ jD X494.size
 have X498 := ((X494.step X53 (fM.dom _)).stepx a2)
 have fO := DomLe.fresh aN jE X498.size
 have jF := DomLe.fresh a9 fO (X498.step X211 (fN.dom _)).size
 have X501 := (((((((X.stepx (((x.trans bK).trans aH).trans aG)).step X53 (fM.dom _)).stepx a2).step X211 (fN.dom _)).step X321 (fO.dom _)).stepx bA).step bH (jF.dom _))
 have jG := jB.mono X501.size
 exact ⟨_, Ret_of [sl fK fI fL] ⟨⟨rfl, rfl⟩, trivial⟩, _, _, _, H, rfl, (X501.stepx i9).ext, fJ, jA, jG, cn⟩

theorem slices_Equal_int_int_w (sx : List Int) (aA : List Int) (Q : Bool → Prop) (H : slices_Equal_int_int sx aA Q) (w : World) {vx : Value} {hx : PH} (r : RS hx vx sx) (ex : Sub hx w) {aF : Value} {aG : PH} (aH : RS aG aF aA) (aM : Sub aG w) :
  CallsTo Try.prog 88 #[vx, aF] w fun v w' => ∃ aI, Q aI ∧ v = .bool aI ∧ Ext w w' := by
 obtain ⟨a, c, rfl⟩ := r.shape
 obtain ⟨aB, aC, rfl⟩ := aH.shape
 refine enter (args := [sl a sx c, sl aB aA aC]) 26 Try.func88 rfl rfl rfl ?_
 refine Wo [(0, sl a sx c), (1, sl aB aA aC)] ⟨rfl, rfl, trivial⟩ fun ρ => ?_
 have X := Br emp w
 refine Wq (Wg (Lv ok 0 [(4, .bool false)] 1 rfl rfl (Ln _ rfl (Wq (Wq (Wg (Lv ok 0 [(6, sl a sx c), (7, I (ln sx)), (8, sl aB aA aC), (9, I (ln aA)), (10, .bool ((ln sx) != (ln aA)))] 5 rfl rfl (Ln _ rfl ?_))))))))
 refine Wc ((ln sx) != (ln aA)) rfl (fun hc => ?_) (fun hc => ?_)
 ·have H := H.1 hc
  refine Wq (Wg (Lv ok 0 [(4, .bool false)] 1 rfl rfl (Ln _ rfl (W_ret ?_))))
  exact ⟨_, Ret_of [.bool false] ⟨⟨rfl, rfl⟩, trivial⟩, _, H, rfl, X.ext⟩
 have H := H.2 hc
 refine Wk (Wq (Wq (Wg (Lv ok 0 [(11, sl a sx c), (12, I (ln sx)), (13, I 0)] 3 rfl rfl (Ln _ rfl (W_block ?_))))))
 obtain ⟨J, m, Hx, H⟩ := H
 refine W_loop (S := Int) (fun s ρ' w' => J s ∧ ∃ (ρ : Env), ρ' = setAll [(0, sl a sx c), (1, sl aB aA aC), (12, I (ln sx)), (13, I s)] ρ ∧ Ext w w') (fun s => m s) 0 ⟨Hx, _, Ee ⟨rfl, rfl, rfl, rfl, trivial⟩, (Ext.refl _)⟩ ?_
 rintro x _ wx ⟨Hi, ρ, rfl, X8⟩
 have H := H x Hi
 refine Wq (Wg (Lv ok 0 [(14, .bool (decide (x < (ln sx))))] 1 rfl rfl (Ln _ rfl (Wq ?_))))
 refine Wc (decide (x < (ln sx))) rfl (fun aD => ?_) (fun aD => ?_)
 ·have H := H.1 aD
  refine Wk (Wq (W_block (Wq (Wg (Lv ok 0 [(15, I x), (5, I x)] 2 rfl rfl (Ln _ rfl (Wq ?_)))))))
  refine W_quiet mix (by kernel_rfl) ?_
  refine QP_ev ok 0 [(16, sl a sx c), (17, I x)] 2 rfl rfl ?_
  obtain ⟨aJ, hi, aN, H⟩ := H
  refine QP_index 2 rfl rfl rfl Try.underlying22 ti_3 rfl rfl r hi aN fun aV cs aO d => ?_
  refine QP_load 3 rfl rfl rfl ti_3 ag_3 rfl aO d (ex.ext X8) fun aW aP => ?_
  obtain rfl := aP.int
  refine QP_ev ok 4 [(20, sl aB aA aC), (21, I x)] 6 rfl rfl ?_
  obtain ⟨aK, aQ, aR, H⟩ := H
  refine QP_index 6 rfl rfl rfl Try.underlying22 ti_3 rfl rfl aH aQ aR fun aX aY aS aT => ?_
  refine QP_load 7 rfl rfl rfl ti_3 ag_3 rfl aS aT (aM.ext X8) fun aZ aU => ?_
  obtain rfl := aU.int
  refine QP_ev ok 8 [(24, .bool (aJ != aK))] 9 rfl rfl ?_
  refine QP_end _ rfl fun a0 aL => ?_
  refine Wc (aJ != aK) rfl (fun aE => ?_) (fun aE => ?_)
  ·have H := H.1 aE
   refine Wq (Wg (Lv ok 0 [(4, .bool false)] 1 rfl rfl (Ln _ rfl (W_ret ?_))))
   exact ⟨_, Ret_of [.bool false] ⟨⟨rfl, rfl⟩, trivial⟩, _, H, rfl, (X.stepx (X8.trans aL)).ext⟩
  have H := H.2 aE
  refine Wk (Wg (Lv ok 0 [(25, I (wr (x + 1))), (13, I (wr (x + 1)))] 2 rfl rfl ?_))
  exact Ln _ rfl ⟨wr (x + 1), ⟨H.1, _, Ee ⟨rfl, rfl, rfl, rfl, trivial⟩, (X8.trans aL)⟩, H.2⟩
 have H := H.2 aD
 refine W_exit ?_
 refine (if_pos rfl).mpr ?_
 refine Wq (Wg (Lv ok 0 [(4, .bool true)] 1 rfl rfl (Ln _ rfl (W_ret ?_))))
 exact ⟨_, Ret_of [.bool true] ⟨⟨rfl, rfl⟩, trivial⟩, _, H, rfl, (X.stepx X8).ext⟩

theorem impl_anyFlow_w (t : Transport) (Q : (List (List Int)) → Prop) (H : impl_anyFlow t Q) (w : World) {vx : Value} {hx : PH} (r : RS hx vx t.Rows) (ex : Sub hx w) {aW : Value} {aX : PH} (aM : RS aX aW t.Cols) (bJ : Sub aX w) {aY : Value} {aZ : PH} (a0 : RS aZ aY t.Lo) (bK : Sub aZ w) {a1 : Value} {a2 : PH} (a3 : RS a2 a1 t.Hi) (bL : Sub a2 w) :
  CallsTo Try.prog 54 #[.agg #[vx, aW, aY, a1]] w fun v w' => ∃ aN aO aP, Q aN ∧ v = aO ∧ Ext w w' ∧ OD aP aO aN ∧ Sub aP w' ∧ Fresh w.heap.size aP ∧ CanV aO aN := by
 obtain ⟨a, c, rfl⟩ := r.shape
 obtain ⟨aE, aF, rfl⟩ := aM.shape
 obtain ⟨aH, aI, rfl⟩ := a0.shape
 obtain ⟨aJ, aK, rfl⟩ := a3.shape
 refine enter (args := [.agg #[sl a t.Rows c, sl aE t.Cols aF, sl aH t.Lo aI, sl aJ t.Hi aK]]) 24 Try.func54 rfl rfl rfl ?_
 refine Wo [(0, .agg #[sl a t.Rows c, sl aE t.Cols aF, sl aH t.Lo aI, sl aJ t.Hi aK])] ⟨rfl, trivial⟩ fun ρ => ?_
 have X := Br emp w
 refine Wq (Wg (Ly 0 (cs := [sl a t.Rows c, sl aE t.Cols aF, sl aH t.Lo aI, sl aJ t.Hi aK]) rfl rfl rfl rfl rfl fun b wx x aQ f => (Lv ok 1 [(2, .slice none 0 0)] 2 rfl rfl (Ln _ rfl (Wq (Wq ?_))))))
 refine W_quiet mix (by kernel_rfl) ?_
 refine QP_ev ok 0 [(4, pb b)] 1 rfl rfl ?_
 refine QP_ldbox 1 (v := sl a t.Rows c) rfl rfl rfl ti_22 ag_22 (fun _ => rfl) rfl aQ rfl rfl ?_
 obtain ⟨aR, Hd, H⟩ := H
 have a4 := (ex.ext x)
 refine QP_call (I aR) 2 rfl rfl rfl cal_64 rfl (fun bM bN => (impl_total_w _ _ Hd bM r (a4.ext bN)).mono ?_) ?_
 ·rintro _ _ ⟨_, rfl, rfl, x⟩; exact ⟨rfl, x⟩
 refine QP_ev ok 3 [(7, .pointer (some ⟨b, 1, none⟩))] 4 rfl rfl ?_
 refine QP_ldbox 4 (v := sl aE t.Cols aF) rfl rfl rfl ti_22 ag_22 (fun _ => rfl) rfl aQ rfl rfl ?_
 obtain ⟨aS, Hd25, H⟩ := H
 have a5 := (bJ.ext x)
 refine QP_call (I aS) 5 rfl rfl rfl cal_64 rfl (fun bO bP => (impl_total_w _ _ Hd25 bO aM (a5.ext bP)).mono ?_) ?_
 ·rintro _ _ ⟨_, rfl, rfl, x⟩; exact ⟨rfl, x⟩
 refine QP_ev ok 6 [(10, .bool (aR != aS))] 7 rfl rfl ?_
 refine QP_end _ rfl fun bQ aG => ?_
 refine Wc (aR != aS) rfl (fun hc => ?_) (fun hc => ?_)
 ·have H := H.1 hc
  refine Wq (Wg (Lv ok 0 [(2, .slice none 0 0)] 1 rfl rfl (Ln _ rfl (W_ret ?_))))
  exact ⟨_, Ret_of [.slice none 0 0] ⟨⟨rfl, rfl⟩, trivial⟩, _, _, emp, H, rfl, (X.stepx (x.trans aG)).ext, OD.nil, (emp_sub _), (emp_fresh _), CanV.nil⟩
 have H := H.2 hc
 refine Wk (Wq (Wg ?_))
 have a6 := (aQ.ext aG)
 refine Lb 0 (v := .agg #[sl a t.Rows c, sl aE t.Cols aF, sl aH t.Lo aI, sl aJ t.Hi aK]) rfl rfl rfl ti_29 ag_29 (fun h => by cases h) rfl a6 rfl rfl ?_
 have a7 := (a4.ext aG)
 have aL := (x.trans aG)
 refine Lc 1 rfl rfl rfl cal_63 rfl (impl_fill_w _ _ H bQ r a7 aM (a5.ext aG) a0 (bK.ext aL) a3 (bL.ext aL)) ?_
 rintro _ bR ⟨aA, b1, b2, H, rfl, aT, o, a8, bS, cn⟩
 obtain ⟨aB, aC, rfl⟩ := o.shape
 refine Lv ok 2 [(3, sl aB aA aC)] 3 rfl rfl (Ln _ rfl (Wq ?_))
 have X48 := (X.stepx (aL.trans aT))
 have bT := bS.mono (X.stepx aL).size
 obtain ⟨k, hk, H⟩ := jn_elim H
 refine W_join2 (S := Bool) (fun s ρ' w' => k s ∧ ∃ (ρ : Env), ρ' = setAll [(3, sl aB aA aC), (22, .bool s)] ρ ∧ Ext bR w') ?_ ?_
 ·refine W_open mix fun b3 aU => ?_
  refine AP_game 10 [[], [0], [0, 1], [0, 1, 2], [0, 1, 2, 3], [0, 1, 2], [0, 1, 2, 5], [0, 1, 2, 3, 4, 5, 6], [0, 1, 2, 3, 4, 5, 6, 7], [0, 1, 2, 3, 4, 5, 6, 7, 8]] [[(3, none)], [(13, some 0)], [(14, some 1)], [(3, none)], [(16, some 3)], [(1, none)], [(18, some 5)], [(17, some 4), (19, some 6)], [(20, some 7)], [(15, some 2), (21, some 8)]] [(3, none), (22, some 9)] [(0, false), (1, false), (2, false), (3, false), (5, false), (6, false), (4, true), (7, false), (8, false), (9, false)] (by kernel_rfl) (by kernel_rfl) ?_
  refine GS_ev ok [(3, sl aB aA aC)] (sl aB aA aC) rfl rfl (fun _ h => h) (fun _ => rfl) ?_
  refine GS_r0 [(13, sl aB aA aC)] (.bool (ln aA == 0)) rfl rfl (fun _ h => h) (fun _ _ => ex_eqnilc rfl Try.underlying23 rfl rfl (cn _ _ _ rfl) _) ?_
  refine GS_ev ok [(14, .bool (ln aA == 0))] (.bool (ln aA == 0)) rfl rfl (fun _ h => h) (fun _ => rfl) ?_
  generalize a9 : (ln aA == 0) = gb
  cases gb
  ·have H := H.2 a9
   refine GS_ev ok [(3, sl aB aA aC)] (sl aB aA aC) rfl rfl (fun _ h => h) (fun _ => rfl) ?_
   refine GS_ev ok [(1, pb b)] (pb b) rfl rfl (fun _ h => h) (fun _ => rfl) ?_
   have bA := ((a6.ext aT).ext aU)
   refine GS_r1 [(18, pb b)] (sl a t.Rows c) rfl rfl (fun _ h => h) (fun _ w e => ex_ldbox rfl ti_22 ag_22 (fun _ => rfl) rfl e rfl rfl) bA ?_
   refine GS_lp [(16, sl aB aA aC)] rfl rfl (fun _ h => h) rfl fun ρ bU bB => ?_
   have bC := (aU.trans bB)
   refine Lc 0 rfl rfl rfl cal_65 rfl (impl_rowSums_w _ _ H bU o.readf (a8.ext bC)) ?_
   rintro _ b4 ⟨bD, b5, bV, H, rfl, bE, bF, bW, b6⟩
   obtain ⟨bG, bH, rfl⟩ := bF.shape
   refine LP_gs ⟨⟨.inr (bA.ext (bB.trans bE)), trivial⟩, ?_⟩
   obtain ⟨aD, Hd81, H⟩ := H
   have bI := (bC.trans bE)
   refine GS_q [(17, sl bG bD bH), (19, sl a t.Rows c)] (.bool aD) [bV, hx] [sl bG bD bH, sl a t.Rows c] rfl rfl (fun _ h => h) rfl cal_88 (fun _ => rfl) (fun w e => (slices_Equal_int_int_w _ _ _ Hd81 w bF.readf e.1 r e.2.1).mono (fun _ _ h => by obtain ⟨_, rfl, rfl, x⟩ := h; exact ⟨rfl, x⟩)) ⟨bW, ((a7.ext aT).ext bI), trivial⟩ ?_
   refine GS_ev ok [(20, .bool aD)] (.bool (!aD)) rfl rfl (fun _ h => h) (fun _ => rfl) ?_
   refine GS_ev ok [(15, .bool false), (21, .bool (!aD))] (.bool (!aD)) rfl rfl (fun _ h => h) (fun _ => rfl) ?_
   intro b7 bX ρ hn
   refine AP_forget [(3, sl aB aA aC), (22, .bool (!aD))] (by exact hn) fun ρ => ?_
   refine AP_end rfl ?_
   exact ⟨!aD, H, _, Ee ⟨rfl, rfl, trivial⟩, (bI.trans bX)⟩
  have H := H.1 a9
  refine GS_off rfl rfl ?_
  refine GS_off rfl rfl ?_
  refine GS_off rfl rfl ?_
  refine GS_off rfl rfl ?_
  refine GS_off rfl rfl ?_
  refine GS_off rfl rfl ?_
  refine GS_ev ok [(15, .bool true), (21, undef)] (.bool true) rfl rfl (fun _ h => h) (fun _ => rfl) ?_
  intro b8 bY ρ bZ
  refine AP_forget [(3, sl aB aA aC), (22, .bool true)] (by exact bZ) fun ρ => ?_
  refine AP_end rfl ?_
  exact ⟨true, H, _, Ee ⟨rfl, rfl, trivial⟩, (aU.trans bY)⟩
 rintro b0 _ b9 ⟨H, ρ, rfl, X59⟩
 subst hk
 refine Wc (b0) rfl (fun aV => ?_) (fun aV => ?_)
 ·have H := H.1 aV
  refine Wq (Wg (Lv ok 0 [(2, .slice none 0 0)] 1 rfl rfl (Ln _ rfl (W_ret ?_))))
  exact ⟨_, Ret_of [.slice none 0 0] ⟨⟨rfl, rfl⟩, trivial⟩, _, _, emp, H, rfl, (X48.stepx X59).ext, OD.nil, (emp_sub _), (emp_fresh _), CanV.nil⟩
 have H := H.2 aV
 refine Wk (Wq (Wg (Lv ok 0 [(23, sl aB aA aC), (2, sl aB aA aC)] 2 rfl rfl (Ln _ rfl (W_ret ?_)))))
 exact ⟨_, Ret_of [sl aB aA aC] ⟨⟨rfl, rfl⟩, trivial⟩, _, _, _, H, rfl, (X48.stepx X59).ext, o, (a8.ext X59), bT, cn⟩

theorem impl_lowered_w (t : Transport) (x : List (List Int)) (i : Int) (j : Int) (Q : (List (List Int)) → Prop) (H : impl_lowered t x i j Q) (w : World) {vx : Value} {hx : PH} (r : RS hx vx t.Rows) (ex : Sub hx w) {bI : Value} {bJ : PH} (aW : RS bJ bI t.Cols) (cA : Sub bJ w) {bK : Value} {bL : PH} (aT : RS bL bK t.Lo) (cB : Sub bL w) {bM : Value} {bN : PH} (aX : RS bN bM t.Hi) (cC : Sub bN w) {bO : Value} {bP : PH} (aU : RS bP bO x) (cD : Sub bP w) :
  CallsTo Try.prog 102 #[.agg #[vx, bI, bK, bM], bO, I i, I j] w fun v w' => ∃ aY aZ a0, Q aY ∧ v = aZ ∧ Ext w w' ∧ OD a0 aZ aY ∧ Sub a0 w' ∧ Fresh w.heap.size a0 ∧ CanV aZ aY := by
 obtain ⟨a, c, rfl⟩ := r.shape
 obtain ⟨aG, aH, rfl⟩ := aW.shape
 obtain ⟨aC, aD, rfl⟩ := aT.shape
 obtain ⟨aP, aQ, rfl⟩ := aX.shape
 obtain ⟨aA, aB, rfl⟩ := aU.shape
 refine enter (args := [.agg #[sl a t.Rows c, sl aG t.Cols aH, sl aC t.Lo aD, sl aP t.Hi aQ], sl aA x aB, I i, I j]) 66 Try.func102 rfl rfl rfl ?_
 refine Wo [(0, .agg #[sl a t.Rows c, sl aG t.Cols aH, sl aC t.Lo aD, sl aP t.Hi aQ]), (1, sl aA x aB), (2, I i), (3, I j)] ⟨rfl, rfl, rfl, rfl, trivial⟩ fun ρ => ?_
 have X := Br emp w
 refine Wq (Wg (Ly 0 (cs := [sl a t.Rows c, sl aG t.Cols aH, sl aC t.Lo aD, sl aP t.Hi aQ]) rfl rfl rfl rfl rfl fun b wx bQ a1 f => (Lv ok 1 [(8, .slice none 0 0)] 2 rfl rfl (Ln _ rfl (Wq ?_)))))
 refine W_quiet mix (by kernel_rfl) ?_
 refine QP_ev ok 0 [(14, pb b)] 1 rfl rfl ?_
 refine QP_ldbox 1 (v := sl a t.Rows c) rfl rfl rfl ti_22 ag_22 (fun _ => rfl) rfl a1 rfl rfl ?_
 refine QP_ev ok 2 [(16, I (ln t.Rows)), (17, I i), (18, .pointer (some ⟨b, 1, none⟩))] 5 rfl rfl ?_
 refine QP_ldbox 5 (v := sl aG t.Cols aH) rfl rfl rfl ti_22 ag_22 (fun _ => rfl) rfl a1 rfl rfl ?_
 refine QP_ev ok 6 [(20, I (ln t.Cols)), (21, I (wr (i * (ln t.Cols)))), (22, I j), (23, I (wr ((wr (i * (ln t.Cols))) + j))), (9, I (ln t.Rows)), (10, I (wr ((wr (i * (ln t.Cols))) + j)))] 12 rfl rfl ?_
 refine QP_end _ rfl fun cE a2 => ?_
 refine Wq (Wg ?_)
 have a3 := (a1.ext a2)
 refine Lb 0 (v := .agg #[sl a t.Rows c, sl aG t.Cols aH, sl aC t.Lo aD, sl aP t.Hi aQ]) rfl rfl rfl ti_29 ag_29 (fun h => by cases h) rfl a3 rfl rfl (Lv ok 1 [(25, sl aA x aB), (26, I (wr ((wr (i * (ln t.Cols))) + j)))] 3 rfl rfl ?_)
 have xc := (bQ.trans a2)
 have a4 := (ex.ext xc)
 have a5 := (cA.ext xc)
 have a6 := (cB.ext xc)
 have a7 := (cC.ext xc)
 have a8 := (cD.ext xc)
 refine Lc 3 rfl rfl rfl cal_89 rfl (impl_residual_w _ _ _ _ H cE r a4 aW a5 aT a6 aX a7 aU a8) ?_
 rintro _ d0 ⟨aI, d1, d2, H, rfl, bR, o, cF, aE⟩
 obtain ⟨aJ, aK, rfl⟩ := o.shape
 refine Lv ok 4 [(11, sl aJ aI aK)] 5 rfl rfl (Ln _ rfl (Wq ?_))
 refine W_open mix fun d3 a9 => ?_
 refine AP_game 21 [[], [], [], [], [2, 3], [], [], [5, 6], [5, 6, 7], [], [5, 6, 7, 8, 9], [5, 6, 7, 8, 9, 10], [], [12], [], [12, 13, 14], [12, 13, 14, 15], [], [12, 13, 14, 15, 16, 17], [12, 13, 14, 15, 16, 17, 18], [5, 6, 7, 8, 9, 10, 11, 12, 13, 14, 15, 16, 17, 18, 19], [0, 1, 2, 3, 4, 5, 6, 7, 8, 9, 10, 11, 12, 13, 14, 15, 16, 17, 18, 19, 20], [0, 1, 2, 3, 4, 5, 6, 7, 8, 9, 10, 11, 12, 13, 14, 15, 16, 17, 18, 19, 20, 21]] [[(11, none)], [(2, none)], [(9, none)], [(3, none)], [(30, some 2), (31, some 3)], [(1, none)], [(2, none)], [(33, some 5), (34, some 6)], [(35, some 7)], [(3, none)], [(36, some 8), (37, some 9)], [(38, some 10)], [(4, none)], [(40, some 12)], [(2, none)], [(41, some 13), (42, some 14)], [(43, some 15)], [(3, none)], [(44, some 16), (45, some 17)], [(46, some 18)], [(39, some 11), (47, some 19)]] [(1, none), (2, none), (3, none), (4, none), (10, none), (11, none), (28, some 0), (29, some 1), (32, some 4), (48, some 20)] [(0, false), (1, false), (2, false), (3, false), (4, false), (5, false), (6, false), (7, false), (8, false), (9, false), (10, false), (11, false), (12, false), (13, false), (14, false), (15, false), (16, false), (17, false), (18, false), (19, false), (20, false)] (by kernel_rfl) (by kernel_rfl) ?_
 refine GS_ev ok [(11, sl aJ aI aK)] (sl aJ aI aK) rfl rfl (fun _ h => h) (fun _ => rfl) ?_
 refine GS_ev ok [(2, I i)] (I i) rfl rfl (fun _ h => h) (fun _ => rfl) ?_
 refine GS_ev ok [(9, I (ln t.Rows))] (I (ln t.Rows)) rfl rfl (fun _ h => h) (fun _ => rfl) ?_
 refine GS_ev ok [(3, I j)] (I j) rfl rfl (fun _ h => h) (fun _ => rfl) ?_
 refine GS_ev ok [(30, I (ln t.Rows)), (31, I j)] (I (wr ((ln t.Rows) + j))) rfl rfl (fun _ h => h) (fun _ => rfl) ?_
 refine GS_ev ok [(1, sl aA x aB)] (sl aA x aB) rfl rfl (fun _ h => h) (fun _ => rfl) ?_
 refine GS_ev ok [(2, I i)] (I i) rfl rfl (fun _ h => h) (fun _ => rfl) ?_
 obtain ⟨bA, hi, cG, H⟩ := H
 obtain ⟨bS, cs, cH, cI, d⟩ := run_indexAt Try.underlying23 ti_22 aU .i64 _ bA hi cG
 refine GS_r0 [(33, sl aA x aB), (34, I i)] (.pointer (some bS)) rfl rfl (fun _ h => h) (fun _ _ => ex_index rfl rfl rfl (cH _)) ?_
 obtain ⟨d4, cJ, cK⟩ := run_loadAt ti_22 ag_22 cI d
 have bT := cK.slice
 obtain ⟨bU, bV, rfl⟩ := bT.shape
 have aV := (bR.trans a9)
 have bB := (a8.ext aV)
 refine GS_r1 [(35, .pointer (some bS))] (sl bU bA bV) rfl rfl (fun _ h => h) (fun _ w e => ex_load rfl rfl (cJ w e)) bB ?_
 refine GS_ev ok [(3, I j)] (I j) rfl rfl (fun _ h => h) (fun _ => rfl) ?_
 obtain ⟨aR, cL, cM, H⟩ := H
 obtain ⟨bW, d5, cN, cO, cP⟩ := run_indexAt Try.underlying22 ti_3 bT .i64 _ aR cL cM
 refine GS_r0 [(36, sl bU bA bV), (37, I j)] (.pointer (some bW)) rfl rfl (fun _ h => h) (fun _ _ => ex_index rfl rfl rfl (cN _)) ?_
 obtain ⟨d6, cQ, cR⟩ := run_loadAt ti_3 ag_3 cO cP
 obtain rfl := cR.int
 refine GS_r1 [(38, .pointer (some bW))] (I aR) rfl rfl (fun _ h => h) (fun _ w e => ex_load rfl rfl (cQ w e)) bB ?_
 refine GS_ev ok [(4, pb b)] (.pointer (some ⟨b, 2, none⟩)) rfl rfl (fun _ h => h) (fun _ => rfl) ?_
 have bX := (a3.ext aV)
 refine GS_r1 [(40, .pointer (some ⟨b, 2, none⟩))] (sl aC t.Lo aD) rfl rfl (fun _ h => h) (fun _ w e => ex_ldbox rfl ti_23 ag_23 (fun _ => rfl) rfl e rfl rfl) bX ?_
 refine GS_ev ok [(2, I i)] (I i) rfl rfl (fun _ h => h) (fun _ => rfl) ?_
 obtain ⟨bC, cS, cT, H⟩ := H
 obtain ⟨bY, d7, cU, cV, cW⟩ := run_indexAt Try.underlying23 ti_22 aT .i64 _ bC cS cT
 refine GS_r0 [(41, sl aC t.Lo aD), (42, I i)] (.pointer (some bY)) rfl rfl (fun _ h => h) (fun _ _ => ex_index rfl rfl rfl (cU _)) ?_
 obtain ⟨d8, cX, cY⟩ := run_loadAt ti_22 ag_22 cV cW
 have bZ := cY.slice
 obtain ⟨b0, b1, rfl⟩ := bZ.shape
 have bD := (a6.ext aV)
 refine GS_r1 [(43, .pointer (some bY))] (sl b0 bC b1) rfl rfl (fun _ h => h) (fun _ w e => ex_load rfl rfl (cX w e)) bD ?_
 refine GS_ev ok [(3, I j)] (I j) rfl rfl (fun _ h => h) (fun _ => rfl) ?_
 obtain ⟨aS, cZ, c0, H⟩ := H
 obtain ⟨b2, d9, c1, c2, c3⟩ := run_indexAt Try.underlying22 ti_3 bZ .i64 _ aS cZ c0
 refine GS_r0 [(44, sl b0 bC b1), (45, I j)] (.pointer (some b2)) rfl rfl (fun _ h => h) (fun _ _ => ex_index rfl rfl rfl (c1 _)) ?_
 obtain ⟨eA, c4, c5⟩ := run_loadAt ti_3 ag_3 c2 c3
 obtain rfl := c5.int
 refine GS_r1 [(46, .pointer (some b2))] (I aS) rfl rfl (fun _ h => h) (fun _ w e => ex_load rfl rfl (c4 w e)) bD ?_
 refine GS_ev ok [(39, I aR), (47, I aS)] (I (wr (aR - aS))) rfl rfl (fun _ h => h) (fun _ => rfl) ?_
 intro c6 aL ρ hn
 refine AP_forget [(1, sl aA x aB), (2, I i), (3, I j), (4, pb b), (10, I (wr ((wr (i * (ln t.Cols))) + j))), (11, sl aJ aI aK), (28, sl aJ aI aK), (29, I i), (32, I (wr ((ln t.Rows) + j))), (48, I (wr (aR - aS)))] (by exact hn) fun ρ => ?_
 refine AP_tail 21 [[], [], [], [], [2, 3], [], [], [5, 6], [5, 6, 7], [], [5, 6, 7, 8, 9], [5, 6, 7, 8, 9, 10], [], [12], [], [12, 13, 14], [12, 13, 14, 15], [], [12, 13, 14, 15, 16, 17], [12, 13, 14, 15, 16, 17, 18], [5, 6, 7, 8, 9, 10, 11, 12, 13, 14, 15, 16, 17, 18, 19], [0, 1, 2, 3, 4, 5, 6, 7, 8, 9, 10, 11, 12, 13, 14, 15, 16, 17, 18, 19, 20], [0, 1, 2, 3, 4, 5, 6, 7, 8, 9, 10, 11, 12, 13, 14, 15, 16, 17, 18, 19, 20, 21]] (by kernel_rfl) ?_
 refine Lc 21 rfl rfl rfl cal_90 rfl (impl_push_w _ _ _ _ _ H c6 o (cF.ext (a9.trans aL))) ?_
 rintro _ c7 ⟨bE, eB, eC, H, rfl, aF, c8, c9, dm⟩
 refine Lv ok 22 [(12, I bE)] 23 rfl rfl (Ln _ rfl (Wq (Wg ?_)))
 have dj := (Df a3 aE).symm
 refine Lb 0 (v := .agg #[sl a t.Rows c, sl aG t.Cols aH, sl aC t.Lo aD, sl aP t.Hi aQ]) rfl rfl rfl ti_29 ag_29 (fun h => by cases h) rfl ((bX.ext aL).but aF dj) rfl rfl (Lv ok 1 [(51, sl aA x aB), (52, sl aJ aI aK), (53, I (wr ((wr (i * (ln t.Cols))) + j)))] 4 rfl rfl ?_)
 have bF := (aV.trans aL)
 have dA := (Df a4 aE).symm
 have dB := (Df a5 aE).symm
 have dC := (Df a6 aE).symm
 have dD := (Df a7 aE).symm
 have dE := (Df a8 aE).symm
 refine Lc 4 rfl rfl rfl cal_91 rfl (impl_restore_w _ _ _ _ _ H c7 r ((a4.ext bF).but aF dA) aW ((a5.ext bF).but aF dB) aT ((bD.ext aL).but aF dC) aX ((a7.ext bF).but aF dD) aU ((bB.ext aL).but aF dE) c8.readf c9) ?_
 rintro _ eD ⟨aM, eE, eF, H, rfl, dF, b3, bG, dG, cn⟩
 obtain ⟨aN, aO, rfl⟩ := b3.shape
 refine Lv ok 5 [(13, sl aN aM aO)] 6 rfl rfl (Ln _ rfl (Wq (Wg (Lv ok 0 [(55, sl aN aM aO), (56, I i)] 2 rfl rfl ?_))))
 obtain ⟨bH, dH, dI, H⟩ := H
 refine LP_indexb (v := sl aN aM aO) 2 rfl rfl rfl Try.underlying23 ti_22 rfl rfl b3 dH dI fun eG u dJ rest dK bw => (LP_ldcell 3 rfl rfl rfl ti_22 ag_22 rfl dK bG ?_)
 have b4 := bw.od
 obtain ⟨b5, b6, rfl⟩ := b4.shape
 have b7 := Sub.le bG bw.le
 have b8 : OS 3 dJ emp (sl b5 bH b6) bH := OD.flat b4
 refine Lv ok 4 [(59, I j)] 5 rfl rfl ?_
 obtain ⟨dL, dM, dN, H⟩ := H
 refine Li 5 rfl rfl rfl Try.underlying22 ti_3 rfl rfl b8.readf dM dN fun eH eI dO dP => (Lo 6 rfl rfl rfl ti_3 ag_3 rfl dO dP b7 fun eJ dQ => ?_)
 obtain rfl := dQ.int
 refine Lv ok 7 [(62, I bE), (63, I (wr (dL - bE)))] 9 rfl rfl ?_
 obtain ⟨dR, hl, H⟩ := H
 refine LP_indexw (v := sl b5 bH b6) 9 rfl rfl rfl Try.underlying22 ti_3 rfl rfl b8 dR hl fun eK wa => (LP_set 10 rfl rfl rfl rfl rfl wa (Le.refl emp) ⟨_, rfl, rfl⟩ b7 fun eL eM dS dT y dU => ?_)
 obtain ⟨eN, dV, dd⟩ := BwL.turn bw (OS.od dS) (Dom.of dU)
 have dW := BwL.sub bw bG dT y
 have dX := BwL.but bw y
 refine Ln _ rfl (Wq (Wg (Lv ok 0 [(65, sl aN aM aO), (8, sl aN aM aO)] 2 rfl rfl (Ln _ rfl (W_ret ?_)))))
 have dY := aE.mono (X.stepx xc).size
 have X166 := ((X.stepx ((((bQ.trans a2).trans bR).trans a9).trans aL)).step aF (dY.dom _))
 have b9 := dG.mono X166.size
 have X167 := (X166.stepx dF)
 have dZ := ((fun n => Oe dd n) _).fresh b9 X167.size
 exact ⟨_, Ret_of [sl aN aM aO] ⟨⟨rfl, rfl⟩, trivial⟩, _, _, _, H, rfl, (X167.step dX (b9.dom _)).ext, dV, dW, dZ, (CanV.len (by simp) cn)⟩

theorem impl_firstFrom_w (t : Transport) (x : List (List Int)) (fromx : Int) (Q : (List (List Int)) → Prop) (H : impl_firstFrom t x fromx Q) (w : World) {vx : Value} {hx : PH} (r : RS hx vx t.Rows) (ex : Sub hx w) {a0 : Value} {aK : PH} (a1 : RS aK a0 t.Cols) (bF : Sub aK w) {a2 : Value} {aL : PH} (a3 : RS aL a2 t.Lo) (bG : Sub aL w) {a4 : Value} {aM : PH} (a5 : RS aM a4 t.Hi) (bH : Sub aM w) {a6 : Value} {aB : PH} (aR : RS aB a6 x) (a7 : Sub aB w) :
  CallsTo Try.prog 87 #[.agg #[vx, a0, a2, a4], a6, I fromx] w fun v w' => ∃ aS aT aU, Q aS ∧ v = aT ∧ Ext w w' ∧ RS aU aT aS ∧ Sub aU w' ∧ DomLe (un hx (un aK (un aL (un aM aB)))) w.heap.size aU ∧ CanV aT aS := by
 obtain ⟨a, c, rfl⟩ := r.shape
 obtain ⟨aC, aD, rfl⟩ := a1.shape
 obtain ⟨aG, aH, rfl⟩ := a3.shape
 obtain ⟨aI, aJ, rfl⟩ := a5.shape
 obtain ⟨aV, aW, rfl⟩ := aR.shape
 refine enter (args := [.agg #[sl a t.Rows c, sl aC t.Cols aD, sl aG t.Lo aH, sl aI t.Hi aJ], sl aV x aW, I fromx]) 33 Try.func87 rfl rfl rfl ?_
 refine Wo [(0, .agg #[sl a t.Rows c, sl aC t.Cols aD, sl aG t.Lo aH, sl aI t.Hi aJ]), (1, sl aV x aW), (2, I fromx)] ⟨rfl, rfl, rfl, trivial⟩ fun ρ => ?_
 have D28 : Dom (un hx (un aK (un aL (un aM aB)))) aB := (Ot (Dom.r _ _) (Ot (Dom.r _ _) (Ot (Dom.r _ _) (Ot (Dom.r _ _) (Or _)))))
 have X := Br emp w
 refine Wq (Wg (Ly 0 (cs := [sl a t.Rows c, sl aC t.Cols aD, sl aG t.Lo aH, sl aI t.Hi aJ]) rfl rfl rfl rfl rfl fun b wx aX a8 f => (Lv ok 1 [(6, .slice none 0 0)] 2 rfl rfl (Ln _ rfl (Wq (Wg (Lv ok 0 [(9, .pointer (some ⟨b, 1, none⟩))] 1 rfl rfl (Lb 1 (v := sl aC t.Cols aD) rfl rfl rfl ti_22 ag_22 (fun _ => rfl) rfl a8 rfl rfl (Lv ok 2 [(11, I (ln t.Cols)), (7, I (ln t.Cols))] 4 rfl rfl ?_)))))))))
 refine Ln _ rfl (Wq (Wq (Wg (Lv ok 0 [(12, I fromx), (13, I (wr (fromx + 1))), (8, I (wr (fromx + 1)))] 3 rfl rfl (Ln _ rfl (W_block ?_))))))
 obtain ⟨hz, H⟩ := H
 obtain ⟨J, m, Hx, H⟩ := H
 refine W_loop (S := (List (List Int)) × Int) (fun s ρ' w' => J s.1 s.2 ∧ ∃ (ρ : Env) (aO : Value) (aN : PH), ρ' = setAll [(1, aO), (3, pb b), (7, I (ln t.Cols)), (8, I s.2)] ρ ∧ Ext wx w' ∧ RS aN aO s.1 ∧ Sub aN w' ∧ DomLe (un hx (un aK (un aL (un aM aB)))) w.heap.size aN ∧ Dj aN (bx b 29 [sl a t.Rows c, sl aC t.Cols aD, sl aG t.Lo aH, sl aI t.Hi aJ]) ∧ CanV aO s.1) (fun s => m s.1 s.2) (x, wr (fromx + 1)) ⟨Hx, _, sl aV x aW, aB, Ee ⟨rfl, rfl, rfl, rfl, trivial⟩, (Ext.refl _), aR, (a7.ext aX), (Oe D28 _), (Df a7 f), (can_of aR hz)⟩ ?_
 rintro ⟨aA, p⟩ _ bR ⟨Hi, ρ, aO, aN, rfl, HF⟩
 revert HF
 refine bb6 fun X40 aY a9 bI d cn => ?_
 have H := H aA p Hi
 obtain ⟨aE, aF, rfl⟩ := aY.shape
 refine Wq (Wq (Wg (Lv ok 0 [(14, I p), (15, pb b)] 2 rfl rfl ?_)))
 have bA := (a8.ext X40)
 refine Lb 2 (v := sl a t.Rows c) rfl rfl rfl ti_22 ag_22 (fun _ => rfl) rfl bA rfl rfl (Lv ok 3 [(17, I (ln t.Rows)), (18, I (ln t.Cols)), (19, I (wr ((ln t.Rows) * (ln t.Cols)))), (20, .bool (decide (p < (wr ((ln t.Rows) * (ln t.Cols))))))] 7 rfl rfl (Ln _ rfl ?_))
 refine Wc (decide (p < (wr ((ln t.Rows) * (ln t.Cols))))) rfl (fun hc => ?_) (fun hc => ?_)
 ·have H := H.1 hc
  refine Wk (Wq (W_block ?_))
  refine W_open mix fun bS aP => ?_
  refine AP_game 8 [[], [], [], [], [2, 3], [], [], [5, 6], [0, 1, 2, 3, 4, 5, 6, 7], [0, 1, 2, 3, 4, 5, 6, 7, 8]] [[(3, none)], [(1, none)], [(8, none)], [(7, none)], [(25, some 2), (26, some 3)], [(8, none)], [(7, none)], [(28, some 5), (29, some 6)]] [(1, none), (3, none), (7, none), (8, none), (23, some 0), (24, some 1), (27, some 4), (30, some 7)] [(0, false), (1, false), (2, false), (3, false), (4, false), (5, false), (6, false), (7, false)] (by kernel_rfl) (by kernel_rfl) ?_
  have bB := (bA.ext aP)
  refine GS_r1 [(3, pb b)] (.agg #[sl a t.Rows c, sl aC t.Cols aD, sl aG t.Lo aH, sl aI t.Hi aJ]) rfl rfl (fun _ h => h) (fun _ w e => ex_ldbox rfl ti_29 ag_29 (fun h => by cases h) rfl e rfl rfl) bB ?_
  refine GS_ev ok [(1, sl aE aA aF)] (sl aE aA aF) rfl rfl (fun _ h => h) (fun _ => rfl) ?_
  refine GS_ev ok [(8, I p)] (I p) rfl rfl (fun _ h => h) (fun _ => rfl) ?_
  refine GS_ev ok [(7, I (ln t.Cols))] (I (ln t.Cols)) rfl rfl (fun _ h => h) (fun _ => rfl) ?_
  obtain ⟨bJ, H⟩ := H
  refine GS_r0 [(25, I p), (26, I (ln t.Cols))] (I (wr (Int.tdiv p (ln t.Cols)))) rfl rfl (fun _ h => h) (fun _ _ => ex_quo rfl rfl rfl bJ _) ?_
  refine GS_ev ok [(8, I p)] (I p) rfl rfl (fun _ h => h) (fun _ => rfl) ?_
  refine GS_ev ok [(7, I (ln t.Cols))] (I (ln t.Cols)) rfl rfl (fun _ h => h) (fun _ => rfl) ?_
  obtain ⟨bK, H⟩ := H
  refine GS_r0 [(28, I p), (29, I (ln t.Cols))] (I (Int.tmod p (ln t.Cols))) rfl rfl (fun _ h => h) (fun _ _ => ex_rem rfl rfl rfl bK _) ?_
  intro bL aQ ρ hn
  refine AP_forget [(1, sl aE aA aF), (3, pb b), (7, I (ln t.Cols)), (8, I p), (23, .agg #[sl a t.Rows c, sl aC t.Cols aD, sl aG t.Lo aH, sl aI t.Hi aJ]), (24, sl aE aA aF), (27, I (wr (Int.tdiv p (ln t.Cols)))), (30, I (Int.tmod p (ln t.Cols)))] (by exact hn) fun ρ => ?_
  refine AP_tail 8 [[], [], [], [], [2, 3], [], [], [5, 6], [0, 1, 2, 3, 4, 5, 6, 7], [0, 1, 2, 3, 4, 5, 6, 7, 8]] (by kernel_rfl) ?_
  have xc := (((aX.trans X40).trans aP).trans aQ)
  refine Lc 8 rfl rfl rfl cal_102 rfl (impl_lowered_w _ _ _ _ _ H bL r (ex.ext xc) a1 (bF.ext xc) a3 (bG.ext xc) a5 (bH.ext xc) aY (a9.ext (aP.trans aQ))) ?_
  rintro _ bT ⟨aZ, bU, bM, H, rfl, bN, o, bO, bC, bP⟩
  obtain ⟨bD, bE, rfl⟩ := o.shape
  refine Lv ok 9 [(1, sl bD aZ bE)] 10 rfl rfl (Ln _ rfl (Wg (Lv ok 0 [(21, I p), (22, I (wr (p + 1))), (8, I (wr (p + 1)))] 3 rfl rfl (Ln _ rfl ?_))))
  have bQ := bC.mono (X.stepx xc).size
  have dj := (Df (bB.ext aQ) bC).symm
  exact ⟨(aZ, wr (p + 1)), ⟨H.1, _, sl bD aZ bE, bM, Ee ⟨rfl, rfl, rfl, rfl, trivial⟩, (((X40.trans aP).trans aQ).trans bN), o.readf, bO, (bQ.dom _), dj, bP⟩, H.2⟩
 have H := H.2 hc
 refine W_exit ?_
 refine (if_pos rfl).mpr ?_
 refine Wq (Wg (Lv ok 0 [(32, sl aE aA aF), (6, sl aE aA aF)] 2 rfl rfl (Ln _ rfl (W_ret ?_))))
 exact ⟨_, Ret_of [sl aE aA aF] ⟨⟨rfl, rfl⟩, trivial⟩, _, _, _, H, rfl, (X.stepx (aX.trans X40)).ext, aY, a9, bI, cn⟩

theorem impl_firstFlow_w (t : Transport) (Q : (List (List Int)) → Prop) (H : impl_firstFlow t Q) (w : World) {vx : Value} {hx : PH} (r : RS hx vx t.Rows) (ex : Sub hx w) {aT : Value} {aA : PH} (aL : RS aA aT t.Cols) (a5 : Sub aA w) {aU : Value} {aB : PH} (aM : RS aB aU t.Lo) (a6 : Sub aB w) {aV : Value} {aC : PH} (aN : RS aC aV t.Hi) (a7 : Sub aC w) :
  CallsTo Try.prog 49 #[.agg #[vx, aT, aU, aV]] w fun v w' => ∃ aO aP aQ, Q aO ∧ v = aP ∧ Ext w w' ∧ RS aQ aP aO ∧ Sub aQ w' ∧ DomLe (un hx (un aA (un aB aC))) w.heap.size aQ ∧ CanV aP aO := by
 obtain ⟨a, c, rfl⟩ := r.shape
 obtain ⟨aE, aF, rfl⟩ := aL.shape
 obtain ⟨aG, aH, rfl⟩ := aM.shape
 obtain ⟨aI, aJ, rfl⟩ := aN.shape
 refine enter (args := [.agg #[sl a t.Rows c, sl aE t.Cols aF, sl aG t.Lo aH, sl aI t.Hi aJ]]) 11 Try.func49 rfl rfl rfl ?_
 refine Wo [(0, .agg #[sl a t.Rows c, sl aE t.Cols aF, sl aG t.Lo aH, sl aI t.Hi aJ])] ⟨rfl, trivial⟩ fun ρ => ?_
 have D : Dom (un hx (un aA (un aB aC))) hx := (Dom.l _ _)
 have D19 : Dom (un hx (un aA (un aB aC))) aA := (Ot (Dom.r _ _) (Dom.l _ _))
 have D20 : Dom (un hx (un aA (un aB aC))) aB := (Ot (Dom.r _ _) (Ot (Dom.r _ _) (Dom.l _ _)))
 have D21 : Dom (un hx (un aA (un aB aC))) aC := (Ot (Dom.r _ _) (Ot (Dom.r _ _) (Ot (Dom.r _ _) (Or _))))
 have X := Br emp w
 refine Wq (Wg (Ly 0 (cs := [sl a t.Rows c, sl aE t.Cols aF, sl aG t.Lo aH, sl aI t.Hi aJ]) rfl rfl rfl rfl rfl fun b wx x aW f => (Lv ok 1 [(2, .slice none 0 0)] 2 rfl rfl (Ln _ rfl (Wq (Wg (Lb 0 (v := .agg #[sl a t.Rows c, sl aE t.Cols aF, sl aG t.Lo aH, sl aI t.Hi aJ]) rfl rfl rfl ti_29 ag_29 (fun h => by cases h) rfl aW rfl rfl ?_)))))))
 have aX := (ex.ext x)
 have aY := (a5.ext x)
 have aZ := (a6.ext x)
 have a0 := (a7.ext x)
 refine Lc 1 rfl rfl rfl cal_54 rfl (impl_anyFlow_w _ _ H wx r aX aL aY aM aZ aN a0) ?_
 rintro _ a8 ⟨aK, bG, bH, H, rfl, aD, o, a9, bA, cn⟩
 obtain ⟨aR, aS, rfl⟩ := o.shape
 refine Lv ok 2 [(3, sl aR aK aS)] 3 rfl rfl (Ln _ rfl (Wq (Wq (Wg (Lv ok 0 [(6, sl aR aK aS)] 1 rfl rfl (LP_val 1 _ rfl rfl (ex_eqnilc rfl Try.underlying23 rfl rfl (cn _ _ _ rfl) _) (Ln _ rfl ?_)))))))
 refine Wc (ln aK == 0) rfl (fun hc => ?_) (fun hc => ?_)
 ·have H := H.1 hc
  refine Wq (Wg (Lv ok 0 [(2, .slice none 0 0)] 1 rfl rfl (Ln _ rfl (W_ret ?_))))
  exact ⟨_, Ret_of [.slice none 0 0] ⟨⟨rfl, rfl⟩, trivial⟩, _, _, emp, H, rfl, (X.stepx (x.trans aD)).ext, (.inl ⟨rfl, rfl⟩), (emp_sub _), (fun _ _ _ => rfl), CanV.nil⟩
 have H := H.2 hc
 refine Wk (Wq (Wg (Lb 0 (v := .agg #[sl a t.Rows c, sl aE t.Cols aF, sl aG t.Lo aH, sl aI t.Hi aJ]) rfl rfl rfl ti_29 ag_29 (fun h => by cases h) rfl (aW.ext aD) rfl rfl (Lv ok 1 [(9, sl aR aK aS)] 2 rfl rfl (Lc 2 rfl rfl rfl cal_87 rfl (impl_firstFrom_w _ _ _ _ H a8 r (aX.ext aD) aL (aY.ext aD) aM (aZ.ext aD) aN (a0.ext aD) o.readf a9) ?_)))))
 rintro _ bI ⟨a1, bJ, bK, H, rfl, bB, a2, bC, bD, bE⟩
 obtain ⟨a3, a4, rfl⟩ := a2.shape
 refine Lv ok 3 [(2, sl a3 a1 a4)] 4 rfl rfl (Ln _ rfl (W_ret ?_))
 have X54 := (X.stepx x)
 have bF := bA.mono X54.size
 have X55 := (X54.stepx aD)
 exact ⟨_, Ret_of [sl a3 a1 a4] ⟨⟨rfl, rfl⟩, trivial⟩, _, _, _, H, rfl, (X55.stepx bB).ext, a2, bC, (Mt (Mu (Oe D _) (Mu (Oe D19 _) (Mu (Oe D20 _) (Mu (Oe D21 _) (bF.dom _))))) bD X55.size), bE⟩

theorem impl_nextFlow_w (t : Transport) (x : List (List Int)) (Q : (List (List Int)) → Prop) (H : impl_nextFlow t x Q) (w : World) {vx : Value} {hx : PH} (r : RS hx vx t.Rows) (ex : Sub hx w) {bT : Value} {aA : PH} (aZ : RS aA bT t.Cols) (cD : Sub aA w) {bU : Value} {aB : PH} (a0 : RS aB bU t.Lo) (cE : Sub aB w) {bV : Value} {aC : PH} (aT : RS aC bV t.Hi) (cF : Sub aC w) {bW : Value} {aI : PH} (a1 : RS aI bW x) (cG : Sub aI w) :
  CallsTo Try.prog 51 #[.agg #[vx, bT, bU, bV], bW] w fun v w' => ∃ a2 a3 a4, Q a2 ∧ v = a3 ∧ Ext w w' ∧ RS a4 a3 a2 ∧ Sub a4 w' ∧ DomLe (un hx (un aA (un aB (un aC aI)))) w.heap.size a4 ∧ CanV a3 a2 := by
 obtain ⟨a, c, rfl⟩ := r.shape
 obtain ⟨aJ, aK, rfl⟩ := aZ.shape
 obtain ⟨aO, aP, rfl⟩ := a0.shape
 obtain ⟨aL, aM, rfl⟩ := aT.shape
 obtain ⟨aD, aE, rfl⟩ := a1.shape
 refine enter (args := [.agg #[sl a t.Rows c, sl aJ t.Cols aK, sl aO t.Lo aP, sl aL t.Hi aM], sl aD x aE]) 77 Try.func51 rfl rfl rfl ?_
 refine Wo [(0, .agg #[sl a t.Rows c, sl aJ t.Cols aK, sl aO t.Lo aP, sl aL t.Hi aM]), (1, sl aD x aE)] ⟨rfl, rfl, trivial⟩ fun ρ => ?_
 have D : Dom (un hx (un aA (un aB (un aC aI)))) hx := (Dom.l _ _)
 have D25 : Dom (un hx (un aA (un aB (un aC aI)))) aA := (Ot (Dom.r _ _) (Dom.l _ _))
 have D26 : Dom (un hx (un aA (un aB (un aC aI)))) aB := (Ot (Dom.r _ _) (Ot (Dom.r _ _) (Dom.l _ _)))
 have D27 : Dom (un hx (un aA (un aB (un aC aI)))) aC := (Ot (Dom.r _ _) (Ot (Dom.r _ _) (Ot (Dom.r _ _) (Dom.l _ _))))
 have X := Br emp w
 refine Wq (Wg (Ly 0 (cs := [sl a t.Rows c, sl aJ t.Cols aK, sl aO t.Lo aP, sl aL t.Hi aM]) rfl rfl rfl rfl rfl fun b wx bX a5 f => (Lv ok 1 [(4, .slice none 0 0)] 2 rfl rfl (Ln _ rfl (Wq ?_)))))
 refine W_quiet mix (by kernel_rfl) ?_
 refine QP_ev ok 0 [(12, pb b)] 1 rfl rfl ?_
 refine QP_ldbox 1 (v := sl a t.Rows c) rfl rfl rfl ti_22 ag_22 (fun _ => rfl) rfl a5 rfl rfl ?_
 refine QP_ev ok 2 [(14, I (ln t.Rows)), (15, .pointer (some ⟨b, 1, none⟩))] 4 rfl rfl ?_
 refine QP_ldbox 4 (v := sl aJ t.Cols aK) rfl rfl rfl ti_22 ag_22 (fun _ => rfl) rfl a5 rfl rfl ?_
 refine QP_ev ok 5 [(17, I (ln t.Cols)), (5, I (ln t.Rows)), (6, I (ln t.Cols))] 8 rfl rfl ?_
 refine QP_end _ rfl fun cH a6 => ?_
 refine Wq (Wq (Wg (Lv ok 0 [(18, I (ln t.Rows)), (19, I (ln t.Cols)), (20, I (wr ((ln t.Rows) * (ln t.Cols)))), (21, I (wr ((wr ((ln t.Rows) * (ln t.Cols))) - 1))), (7, I (wr ((wr ((ln t.Rows) * (ln t.Cols))) - 1)))] 5 rfl rfl (Ln _ rfl (W_block ?_)))))
 obtain ⟨J, m, Hx, H⟩ := H
 refine W_loop (S := Int) (fun s ρ' w' => J s ∧ ∃ (ρ : Env), ρ' = setAll [(1, sl aD x aE), (2, pb b), (5, I (ln t.Rows)), (6, I (ln t.Cols)), (7, I s)] ρ ∧ Ext cH w') (fun s => m s) (wr ((wr ((ln t.Rows) * (ln t.Cols))) - 1)) ⟨Hx, _, Ee ⟨rfl, rfl, rfl, rfl, rfl, trivial⟩, (Ext.refl _)⟩ ?_
 rintro p _ cI ⟨Hi, ρ, rfl, X34⟩
 have H := H p Hi
 refine Wq (Wq (Wg (Lv ok 0 [(22, I p), (23, .bool (decide (p ≥ 0)))] 2 rfl rfl (Ln _ rfl ?_))))
 refine Wc (decide (p ≥ 0)) rfl (fun hc => ?_) (fun hc => ?_)
 ·have H := H.1 hc
  refine Wk ?_
  have xc := ((bX.trans a6).trans X34)
  have X35 := (X.stepx xc)
  obtain ⟨k, hk, H⟩ := jn_elim H
  refine W_join2 (S := Unit) (fun s ρ' w' => k ∧ ∃ (ρ : Env), ρ' = setAll [(1, sl aD x aE), (2, pb b), (5, I (ln t.Rows)), (6, I (ln t.Cols)), (7, I p)] ρ ∧ Ext cI w') ?_ ?_
  ·refine W_block (Wq ?_)
   refine W_quiet mix (by kernel_rfl) ?_
   refine QP_ev ok 0 [(26, I p), (27, I (ln t.Cols))] 2 rfl rfl ?_
   obtain ⟨hz, H⟩ := H
   refine QP_val 2 _ rfl rfl (fun _ _ => ex_quo rfl rfl rfl hz _) ?_
   refine QP_ev ok 3 [(29, I p), (30, I (ln t.Cols))] 5 rfl rfl ?_
   obtain ⟨cJ, H⟩ := H
   refine QP_val 5 _ rfl rfl (fun _ _ => ex_rem rfl rfl rfl cJ _) ?_
   refine QP_ev ok 6 [(8, I (wr (Int.tdiv p (ln t.Cols)))), (9, I (Int.tmod p (ln t.Cols)))] 8 rfl rfl ?_
   refine QP_end _ rfl fun d5 aU => ?_
   refine Wq (Wq ?_)
   refine W_quiet mix (by kernel_rfl) ?_
   refine QP_ev ok 0 [(32, sl aD x aE), (33, I (wr (Int.tdiv p (ln t.Cols))))] 2 rfl rfl ?_
   obtain ⟨d6, hi, cK, H⟩ := H
   refine QP_index 2 rfl rfl rfl Try.underlying23 ti_22 rfl rfl a1 hi cK fun d7 cs cL d => ?_
   have a7 := ((cG.ext xc).ext aU)
   refine QP_load 3 rfl rfl rfl ti_22 ag_22 rfl cL d a7 fun d8 cM => ?_
   have bY := cM.slice
   obtain ⟨d9, eA, rfl⟩ := bY.shape
   refine QP_ev ok 4 [(36, I (Int.tmod p (ln t.Cols)))] 5 rfl rfl ?_
   obtain ⟨a8, cN, cO, H⟩ := H
   refine QP_index 5 rfl rfl rfl Try.underlying22 ti_3 rfl rfl bY cN cO fun eB eC cP cQ => ?_
   refine QP_load 6 rfl rfl rfl ti_3 ag_3 rfl cP cQ a7 fun eD cR => ?_
   obtain rfl := cR.int
   refine QP_ev ok 7 [(39, .pointer (some ⟨b, 3, none⟩))] 8 rfl rfl ?_
   have bZ := ((a5.ext (a6.trans X34)).ext aU)
   refine QP_ldbox 8 (v := sl aL t.Hi aM) rfl rfl rfl ti_23 ag_23 (fun _ => rfl) rfl bZ rfl rfl ?_
   refine QP_ev ok 9 [(41, I (wr (Int.tdiv p (ln t.Cols))))] 10 rfl rfl ?_
   obtain ⟨eE, cS, cT, H⟩ := H
   refine QP_index 10 rfl rfl rfl Try.underlying23 ti_22 rfl rfl aT cS cT fun eF eG cU cV => ?_
   have a9 := ((cF.ext xc).ext aU)
   refine QP_load 11 rfl rfl rfl ti_22 ag_22 rfl cU cV a9 fun eH cW => ?_
   have b0 := cW.slice
   obtain ⟨eI, eJ, rfl⟩ := b0.shape
   refine QP_ev ok 12 [(44, I (Int.tmod p (ln t.Cols)))] 13 rfl rfl ?_
   obtain ⟨bA, cX, cY, H⟩ := H
   refine QP_index 13 rfl rfl rfl Try.underlying22 ti_3 rfl rfl b0 cX cY fun eK eL cZ c0 => ?_
   refine QP_load 14 rfl rfl rfl ti_3 ag_3 rfl cZ c0 a9 fun eM c1 => ?_
   obtain rfl := c1.int
   refine QP_ev ok 15 [(47, .bool (a8 == bA))] 16 rfl rfl ?_
   refine QP_end _ rfl fun c2 aV => ?_
   try refine Wo [(1, sl aD x aE), (2, pb b), (5, I (ln t.Rows)), (6, I (ln t.Cols)), (7, I p), (8, I (wr (Int.tdiv p (ln t.Cols)))), (9, I (Int.tmod p (ln t.Cols))), (47, .bool (a8 == bA))] ⟨rfl, rfl, rfl, rfl, rfl, rfl, rfl, rfl, trivial⟩ fun ρ => ?_
   refine Wc (a8 == bA) rfl (fun bB => ?_) (fun bB => ?_)
   ·have H := H.1 bB
    refine W_exit ?_
    refine (if_pos rfl).mpr ?_
    exact ⟨(), H, _, Ee ⟨rfl, rfl, rfl, rfl, rfl, trivial⟩, (aU.trans aV)⟩
   have H := H.2 bB
   refine Wk (Wq (Wg ?_))
   have bC := (bZ.ext aV)
   refine Lb 0 (v := .agg #[sl a t.Rows c, sl aJ t.Cols aK, sl aO t.Lo aP, sl aL t.Hi aM]) rfl rfl rfl ti_29 ag_29 (fun h => by cases h) rfl bC rfl rfl (Lv ok 1 [(49, sl aD x aE), (50, I p)] 3 rfl rfl ?_)
   have aN := (aU.trans aV)
   have bD := ((ex.ext xc).ext aN)
   have bE := ((cD.ext xc).ext aN)
   have bF := ((cE.ext xc).ext aN)
   have bG := (a9.ext aV)
   have bH := (a7.ext aV)
   refine Lc 3 rfl rfl rfl cal_89 rfl (impl_residual_w _ _ _ _ H c2 r bD aZ bE a0 bF aT bG a1 bH) ?_
   rintro _ c3 ⟨bI, eN, eO, H, rfl, aF, o, c4, aG⟩
   obtain ⟨bJ, bK, rfl⟩ := o.shape
   refine Lv ok 4 [(10, sl bJ bI bK)] 5 rfl rfl (Ln _ rfl (Wq (Wq (Wg (Lv ok 0 [(52, sl bJ bI bK), (53, I (ln t.Rows)), (54, I (Int.tmod p (ln t.Cols))), (55, I (wr ((ln t.Rows) + (Int.tmod p (ln t.Cols))))), (56, I (wr (Int.tdiv p (ln t.Cols))))] 5 rfl rfl (Lc 5 rfl rfl rfl cal_90 rfl (impl_push_w _ _ _ _ _ H c3 o c4) ?_))))))
   rintro _ c5 ⟨b1, eP, eQ, H, rfl, aH, c6, c7, dm⟩
   refine Lv ok 6 [(58, .bool (b1 == 0))] 7 rfl rfl (Ln _ rfl ?_)
   refine Wc (b1 == 0) rfl (fun bL => ?_) (fun bL => ?_)
   ·have H := H.1 bL
    refine W_exit ?_
    refine (if_pos rfl).mpr ?_
    exact ⟨(), H, _, Ee ⟨rfl, rfl, rfl, rfl, rfl, trivial⟩, But.ext (((Br emp _).stepx (aN.trans aF)).step aH ((aG.mono aN.size).dom _))⟩
   have H := H.2 bL
   refine Wk (Wq (Wg ?_))
   have dj := (Df bC aG).symm
   have bM := ((bC.ext aF).but aH dj)
   refine Lb 0 (v := .agg #[sl a t.Rows c, sl aJ t.Cols aK, sl aO t.Lo aP, sl aL t.Hi aM]) rfl rfl rfl ti_29 ag_29 (fun h => by cases h) rfl bM rfl rfl (Lv ok 1 [(60, sl aD x aE), (61, sl bJ bI bK), (62, I p)] 4 rfl rfl ?_)
   have c8 := (Df bD aG).symm
   have bN := ((bD.ext aF).but aH c8)
   have c9 := (Df bE aG).symm
   have bO := ((bE.ext aF).but aH c9)
   have dA := (Df bF aG).symm
   have bP := ((bF.ext aF).but aH dA)
   have dB := (Df bG aG).symm
   have bQ := ((bG.ext aF).but aH dB)
   have dC := (Df bH aG).symm
   refine Lc 4 rfl rfl rfl cal_91 rfl (impl_restore_w _ _ _ _ _ H c5 r bN aZ bO a0 bP aT bQ a1 ((bH.ext aF).but aH dC) c6.readf c7) ?_
   rintro _ eR ⟨aW, eS, eT, H, rfl, aQ, b2, bR, aR, cn⟩
   obtain ⟨aX, aY, rfl⟩ := b2.shape
   refine Lv ok 5 [(11, sl aX aW aY)] 6 rfl rfl (Ln _ rfl (Wq (Wg (Lv ok 0 [(64, sl aX aW aY), (65, I (wr (Int.tdiv p (ln t.Cols))))] 2 rfl rfl ?_))))
   obtain ⟨bS, dD, dE, H⟩ := H
   refine LP_indexb (v := sl aX aW aY) 2 rfl rfl rfl Try.underlying23 ti_22 rfl rfl b2 dD dE fun eU u dF rest dG bw => (LP_ldcell 3 rfl rfl rfl ti_22 ag_22 rfl dG bR ?_)
   have b3 := bw.od
   obtain ⟨b4, b5, rfl⟩ := b3.shape
   have b6 := Sub.le bR bw.le
   have b7 : OS 3 dF emp (sl b4 bS b5) bS := OD.flat b3
   refine Lv ok 4 [(68, I (Int.tmod p (ln t.Cols)))] 5 rfl rfl ?_
   obtain ⟨dH, dI, dJ, H⟩ := H
   refine Li 5 rfl rfl rfl Try.underlying22 ti_3 rfl rfl b7.readf dI dJ fun eV eW dK dL => (Lo 6 rfl rfl rfl ti_3 ag_3 rfl dK dL b6 fun eX dM => ?_)
   obtain rfl := dM.int
   refine Lv ok 7 [(71, I (wr (dH + 1)))] 8 rfl rfl ?_
   obtain ⟨dN, hl, H⟩ := H
   refine LP_indexw (v := sl b4 bS b5) 8 rfl rfl rfl Try.underlying22 ti_3 rfl rfl b7 dN hl fun eY wa => (LP_set 9 rfl rfl rfl rfl rfl wa (Le.refl emp) ⟨_, rfl, rfl⟩ b6 fun eZ dO dP dQ y dR => ?_)
   obtain ⟨e0, dS, dd⟩ := BwL.turn bw (OS.od dP) (Dom.of dR)
   have dT := BwL.sub bw bR dQ y
   have aS := BwL.but bw y
   refine Ln _ rfl ?_
   try refine Wo [(2, pb b), (7, I p), (11, sl aX aW aY)] ⟨rfl, rfl, rfl, trivial⟩ fun ρ => ?_
   refine Wq (Wg ?_)
   have dU := (Df bM aR).symm
   refine Lb 0 (v := .agg #[sl a t.Rows c, sl aJ t.Cols aK, sl aO t.Lo aP, sl aL t.Hi aM]) rfl rfl rfl ti_29 ag_29 (fun h => by cases h) rfl ((bM.ext aQ).but aS dU) rfl rfl (Lv ok 1 [(74, sl aX aW aY), (75, I p)] 3 rfl rfl ?_)
   have dV := (Df bN aR).symm
   have dW := (Df bO aR).symm
   have dX := (Df bP aR).symm
   have dY := (Df bQ aR).symm
   refine Lc 3 rfl rfl rfl cal_87 rfl (impl_firstFrom_w _ _ _ _ H dO r ((bN.ext aQ).but aS dV) aZ ((bO.ext aQ).but aS dW) a0 ((bP.ext aQ).but aS dX) aT ((bQ.ext aQ).but aS dY) dS.readf dT) ?_
   rintro _ e1 ⟨b8, e2, e3, H, rfl, dZ, b9, d0, d1, d2⟩
   obtain ⟨cA, cB, rfl⟩ := b9.shape
   refine Lv ok 4 [(4, sl cA b8 cB)] 5 rfl rfl (Ln _ rfl (W_ret ?_))
   have d3 := aG.mono (X35.stepx aN).size
   have X199 := ((X35.stepx (aN.trans aF)).step aH (d3.dom _))
   have cC := aR.mono X199.size
   have X200 := (X199.stepx aQ)
   have d4 := ((fun n => Oe dd n) _).fresh cC X200.size
   have X201 := (X200.step aS (cC.dom _))
   exact ⟨_, Ret_of [sl cA b8 cB] ⟨⟨rfl, rfl⟩, trivial⟩, _, _, _, H, rfl, (X201.stepx dZ).ext, b9, d0, (Mt (Mu (Oe D _) (Mu (Oe D25 _) (Mu (Oe D26 _) (Mu (Oe D27 _) (d4.dom _))))) d1 X201.size), d2⟩
  rintro ⟨⟩ _ e4 ⟨H, ρ, rfl, X45⟩
  subst hk
  refine Wg (Lv ok 0 [(24, I p), (25, I (wr (p - 1))), (7, I (wr (p - 1)))] 3 rfl rfl ?_)
  exact Ln _ rfl ⟨wr (p - 1), ⟨H.1, _, Ee ⟨rfl, rfl, rfl, rfl, rfl, trivial⟩, (X34.trans X45)⟩, H.2⟩
 have H := H.2 hc
 refine W_exit ?_
 refine (if_pos rfl).mpr ?_
 refine Wq (Wg (Lv ok 0 [(4, .slice none 0 0)] 1 rfl rfl (Ln _ rfl (W_ret ?_))))
 exact ⟨_, Ret_of [.slice none 0 0] ⟨⟨rfl, rfl⟩, trivial⟩, _, _, emp, H, rfl, (X.stepx ((bX.trans a6).trans X34)).ext, (.inl ⟨rfl, rfl⟩), (emp_sub _), (fun _ _ _ => rfl), CanV.nil⟩

theorem impl_countFlows_w (t : Transport) (Q : Int → Bool → Prop) (H : impl_countFlows t Q) (w : World) {vx : Value} {hx : PH} (r : RS hx vx t.Rows) (ex : Sub hx w) {aW : Value} {aX : PH} (aL : RS aX aW t.Cols) (aM : Sub aX w) {aY : Value} {aZ : PH} (aN : RS aZ aY t.Lo) (aO : Sub aZ w) {a0 : Value} {a1 : PH} (aP : RS a1 a0 t.Hi) (aQ : Sub a1 w) :
  CallsTo Try.prog 37 #[.agg #[vx, aW, aY, a0]] w fun v w' => ∃ a2 a3, Q a2 a3 ∧ v = .tuple #[I a2, .bool a3] ∧ Ext w w' := by
 obtain ⟨a, c, rfl⟩ := r.shape
 obtain ⟨aA, aB, rfl⟩ := aL.shape
 obtain ⟨aC, aD, rfl⟩ := aN.shape
 obtain ⟨aE, aF, rfl⟩ := aP.shape
 refine enter (args := [.agg #[sl a t.Rows c, sl aA t.Cols aB, sl aC t.Lo aD, sl aE t.Hi aF]]) 26 Try.func37 rfl rfl rfl ?_
 refine Wo [(0, .agg #[sl a t.Rows c, sl aA t.Cols aB, sl aC t.Lo aD, sl aE t.Hi aF])] ⟨rfl, trivial⟩ fun ρ => ?_
 have X := Br emp w
 refine Wq (Wg (Ly 0 (cs := [sl a t.Rows c, sl aA t.Cols aB, sl aC t.Lo aD, sl aE t.Hi aF]) rfl rfl rfl rfl rfl fun b wx x aG f => (Lv ok 1 [(2, I 0), (3, .bool false)] 3 rfl rfl (Ln _ rfl (Wq (Wq (Wg (Lv ok 0 [(6, pb b)] 1 rfl rfl (Lb 1 (v := sl a t.Rows c) rfl rfl rfl ti_22 ag_22 (fun _ => rfl) rfl aG rfl rfl ?_)))))))))
 refine Lv ok 2 [(8, I (ln t.Rows)), (9, .pointer (some ⟨b, 1, none⟩))] 4 rfl rfl (Lb 4 (v := sl aA t.Cols aB) rfl rfl rfl ti_22 ag_22 (fun _ => rfl) rfl aG rfl rfl (Lv ok 5 [(11, I (ln t.Cols)), (12, I (wr ((ln t.Rows) * (ln t.Cols)))), (13, .bool (decide ((wr ((ln t.Rows) * (ln t.Cols))) > 16)))] 8 rfl rfl (Ln _ rfl ?_)))
 refine Wc (decide ((wr ((ln t.Rows) * (ln t.Cols))) > 16)) rfl (fun hc => ?_) (fun hc => ?_)
 ·have H := H.1 hc
  refine Wq (Wg (Lv ok 0 [(2, I 0), (3, .bool false)] 2 rfl rfl (Ln _ rfl (W_ret ?_))))
  exact ⟨_, Ret_of [I 0, .bool false] ⟨⟨rfl, rfl⟩, ⟨rfl, rfl⟩, trivial⟩, _, _, H, rfl, (X.stepx x).ext⟩
 have H := H.2 hc
 refine Wk (Wq (Wg (Lv ok 0 [(4, I 0)] 1 rfl rfl (Ln _ rfl (Wq (Wq (Wg (Lb 0 (v := .agg #[sl a t.Rows c, sl aA t.Cols aB, sl aC t.Lo aD, sl aE t.Hi aF]) rfl rfl rfl ti_29 ag_29 (fun h => by cases h) rfl aG rfl rfl ?_))))))))
 have a4 := (ex.ext x)
 have a5 := (aM.ext x)
 have a6 := (aO.ext x)
 have a7 := (aQ.ext x)
 refine Lc 1 rfl rfl rfl cal_49 rfl (impl_firstFlow_w _ _ H wx r a4 aL a5 aN a6 aP a7) ?_
 rintro _ bH ⟨aR, bT, bI, H, rfl, aS, o, bJ, bK, cn⟩
 obtain ⟨a8, a9, rfl⟩ := o.shape
 refine Lv ok 2 [(5, sl a8 aR a9)] 3 rfl rfl (Ln _ rfl (W_block ?_))
 have dj := (Dl (Df aO f) (Df aQ f))
 obtain ⟨J, m, Hx, H⟩ := H
 refine W_loop (S := Int × (List (List Int))) (fun s ρ' w' => J s.1 s.2 ∧ ∃ (ρ : Env) (aI : Value) (aJ : PH), ρ' = setAll [(1, pb b), (4, I s.1), (5, aI)] ρ ∧ Ext bH w' ∧ RS aJ aI s.2 ∧ Sub aJ w' ∧ Dj aJ (bx b 29 [sl a t.Rows c, sl aA t.Cols aB, sl aC t.Lo aD, sl aE t.Hi aF]) ∧ CanV aI s.2) (fun s => m s.1 s.2) (0, aR) ⟨Hx, _, sl a8 aR a9, bI, Ee ⟨rfl, rfl, rfl, trivial⟩, (Ext.refl _), o, bJ, (Mj bK (Dl (Df ex f) (Dl (Df aM f) dj)) aG), cn⟩ ?_
 rintro ⟨n, aK⟩ _ bL ⟨Hi, ρ, aI, aJ, rfl, HF⟩
 revert HF
 refine bb5 fun X44 bA bM d bN => ?_
 have H := H n aK Hi
 obtain ⟨bB, bC, rfl⟩ := bA.shape
 refine Wq (Wq (Wg (Lv ok 0 [(16, sl bB aK bC)] 1 rfl rfl (LP_val 1 _ rfl rfl (ex_nenilc rfl Try.underlying23 rfl rfl (bN _ _ _ rfl) _) (Ln _ rfl ?_)))))
 refine Wc (!(ln aK == 0)) rfl (fun aT => ?_) (fun aT => ?_)
 ·have H := H.1 aT
  refine Wk (Wq (W_block (Wq (Wg (Lv ok 0 [(21, I n), (22, I (wr (n + 1))), (4, I (wr (n + 1)))] 3 rfl rfl (Ln _ rfl (Wq (Wg (Lv ok 0 [(23, I (wr (n + 1))), (24, .bool (decide ((wr (n + 1)) > 2000)))] 2 rfl rfl ?_)))))))))
  refine Ln _ rfl ?_
  refine Wc (decide ((wr (n + 1)) > 2000)) rfl (fun aU => ?_) (fun aU => ?_)
  ·have H := H.1 aU
   refine Wq (Wg (Lv ok 0 [(2, I 0), (3, .bool false)] 2 rfl rfl (Ln _ rfl (W_ret ?_))))
   exact ⟨_, Ret_of [I 0, .bool false] ⟨⟨rfl, rfl⟩, ⟨rfl, rfl⟩, trivial⟩, _, _, H, rfl, (X.stepx ((x.trans aS).trans X44)).ext⟩
  have H := H.2 aU
  refine Wk (Wg ?_)
  have aH := (aS.trans X44)
  have bD := (aG.ext aH)
  refine Lb 0 (v := .agg #[sl a t.Rows c, sl aA t.Cols aB, sl aC t.Lo aD, sl aE t.Hi aF]) rfl rfl rfl ti_29 ag_29 (fun h => by cases h) rfl bD rfl rfl (Lv ok 1 [(19, sl bB aK bC)] 2 rfl rfl (Lc 2 rfl rfl rfl cal_51 rfl (impl_nextFlow_w _ _ _ H bL r (a4.ext aH) aL (a5.ext aH) aN (a6.ext aH) aP (a7.ext aH) bA bM) ?_))
  rintro _ bU ⟨aV, bV, bO, H, rfl, bP, bE, bQ, bR, bS⟩
  obtain ⟨bF, bG, rfl⟩ := bE.shape
  refine Lv ok 3 [(5, sl bF aV bG)] 4 rfl rfl ?_
  exact Ln _ rfl ⟨(wr (n + 1), aV), ⟨H.1, _, sl bF aV bG, bO, Ee ⟨rfl, rfl, rfl, trivial⟩, (X44.trans bP), bE, bQ, (Mj bR (Dl (Df ex f) (Dl (Df aM f) (Dl (Df aO f) (Dl (Df aQ f) d)))) bD), bS⟩, H.2⟩
 have H := H.2 aT
 refine W_exit ?_
 refine (if_pos rfl).mpr ?_
 refine Wq (Wg (Lv ok 0 [(25, I n), (2, I n), (3, .bool true)] 3 rfl rfl (Ln _ rfl (W_ret ?_))))
 exact ⟨_, Ret_of [I n, .bool true] ⟨⟨rfl, rfl⟩, ⟨rfl, rfl⟩, trivial⟩, _, _, H, rfl, (X.stepx ((x.trans aS).trans X44)).ext⟩

theorem impl_CountRoundings_w (x : List (List Int)) (base : Int) (Q : Int → Bool → Prop) (H : impl_CountRoundings x base Q) (w : World) {vx : Value} {hx : PH} (r : RS hx vx x) (ex : Sub hx w) :
  CallsTo Try.prog 18 #[vx, I base] w fun v w' => ∃ aF aG, Q aF aG ∧ v = .tuple #[I aF, .bool aG] ∧ Ext w w' := by
 obtain ⟨a, c, rfl⟩ := r.shape
 refine enter (args := [sl a x c, I base]) 20 Try.func18 rfl rfl rfl ?_
 refine Wo [(0, sl a x c), (1, I base)] ⟨rfl, rfl, trivial⟩ fun ρ => ?_
 have X := Br emp w
 refine Wq (Wg (Lv ok 0 [(4, I 0), (5, .bool false)] 2 rfl rfl (Ln _ rfl (Wq ?_))))
 obtain ⟨k, hk, H⟩ := jn_elim H
 refine W_join2 (S := Bool) (fun s ρ' w' => k s ∧ ∃ (ρ : Env), ρ' = setAll [(0, sl a x c), (1, I base), (13, .bool s)] ρ ∧ Ext w w') ?_ ?_
 ·refine Wg (Lv ok 0 [(6, sl a x c)] 1 rfl rfl (Lc 1 rfl rfl rfl cal_45 rfl (impl_isMatrix_w _ _ H w r ex) ?_))
  rintro _ aL ⟨aA, H, rfl, aH⟩
  refine Lv ok 2 [(8, .bool (!aA)), (9, .bool (!aA))] 4 rfl rfl ?_
  refine LP_split 9 (!aA) rfl (fun hc => ?_) (fun hc => ?_)
  ·have H := H.1 hc
   refine Lv ok 4 [(10, undef), (11, undef), (12, undef), (13, .bool true)] 8 rfl rfl ?_
   exact Ln _ rfl ⟨true, H, _, Ee ⟨rfl, rfl, rfl, trivial⟩, aH⟩
  have H := H.2 hc
  refine Lv ok 4 [(10, I base)] 5 rfl rfl (Lc 5 rfl rfl rfl cal_46 rfl (impl_isBaseOf_w _ _ H aL ) ?_)
  rintro _ aV ⟨aB, H, rfl, aM⟩
  refine Lv ok 6 [(12, .bool (!aB)), (13, .bool (!aB))] 8 rfl rfl ?_
  exact Ln _ rfl ⟨!aB, H, _, Ee ⟨rfl, rfl, rfl, trivial⟩, (aH.trans aM)⟩
 rintro aN _ wx ⟨H, ρ, rfl, X2⟩
 subst hk
 refine Wc (aN) rfl (fun aC => ?_) (fun aC => ?_)
 ·have H := H.1 aC
  refine Wq (Wg (Lv ok 0 [(4, I 0), (5, .bool false)] 2 rfl rfl (Ln _ rfl (W_ret ?_))))
  exact ⟨_, Ret_of [I 0, .bool false] ⟨⟨rfl, rfl⟩, ⟨rfl, rfl⟩, trivial⟩, _, _, H, rfl, (X.stepx X2).ext⟩
 have H := H.2 aC
 refine Wk (Wq (Wg (Lv ok 0 [(14, sl a x c), (15, I base)] 2 rfl rfl (Lc 2 rfl rfl rfl cal_47 rfl (impl_roundingNetwork_w _ _ _ H wx r (ex.ext X2)) ?_))))
 rintro _ aO ⟨aW, aX, aY, aZ, a0, a1, a2, a3, a4, H, rfl, aP, HF⟩
 revert HF
 refine bb9 fun o aQ f aI aR a5 aJ aS => ?_
 refine bb9 fun a6 aK aT a7 d a8 a9 bA => ?_
 refine bb2 fun bB bC => ?_
 obtain ⟨bD, bE, rfl⟩ := o.shape
 obtain ⟨bF, bG, rfl⟩ := aI.shape
 obtain ⟨bH, bI, rfl⟩ := aJ.shape
 obtain ⟨bJ, bK, rfl⟩ := aK.shape
 refine Lc 3 rfl rfl rfl cal_37 rfl (impl_countFlows_w _ _ H aO o.readf aQ aI.readf aR aJ.readf aS aK.readf aT) ?_
 rintro _ bL ⟨aD, aE, H, rfl, aU⟩
 refine Lv ok 4 [(18, I aD), (19, .bool aE), (4, I aD), (5, .bool aE)] 8 rfl rfl (Ln _ rfl (W_ret ?_))
 exact ⟨_, Ret_of [I aD, .bool aE] ⟨⟨rfl, rfl⟩, ⟨rfl, rfl⟩, trivial⟩, _, _, H, rfl, (X.stepx ((X2.trans aP).trans aU)).ext⟩

theorem laws_eqIntS_w (a : List Int) (b : List Int) (Q : Bool → Prop) (H : laws_eqIntS a b Q) (w : World) {vx : Value} {hx : PH} (r : RS hx vx a) (ex : Sub hx w) {aF : Value} {aG : PH} (aH : RS aG aF b) (aL : Sub aG w) :
  CallsTo Try.prog 38 #[vx, aF] w fun v w' => ∃ aI, Q aI ∧ v = .bool aI ∧ Ext w w' := by
 obtain ⟨aA, c, rfl⟩ := r.shape
 obtain ⟨aB, aC, rfl⟩ := aH.shape
 refine enter (args := [sl aA a c, sl aB b aC]) 26 Try.func38 rfl rfl rfl ?_
 refine Wo [(0, sl aA a c), (1, sl aB b aC)] ⟨rfl, rfl, trivial⟩ fun ρ => ?_
 have X := Br emp w
 refine Wq (Wg (Lv ok 0 [(4, .bool false)] 1 rfl rfl (Ln _ rfl (Wq (Wq (Wg (Lv ok 0 [(6, sl aA a c), (7, I (ln a)), (8, sl aB b aC), (9, I (ln b)), (10, .bool ((ln a) != (ln b)))] 5 rfl rfl (Ln _ rfl ?_))))))))
 refine Wc ((ln a) != (ln b)) rfl (fun hc => ?_) (fun hc => ?_)
 ·have H := H.1 hc
  refine Wq (Wg (Lv ok 0 [(4, .bool false)] 1 rfl rfl (Ln _ rfl (W_ret ?_))))
  exact ⟨_, Ret_of [.bool false] ⟨⟨rfl, rfl⟩, trivial⟩, _, H, rfl, X.ext⟩
 have H := H.2 hc
 refine Wk (Wq (Wq (Wg (Lv ok 0 [(5, I 0)] 1 rfl rfl (Ln _ rfl (W_block ?_))))))
 obtain ⟨J, m, Hx, H⟩ := H
 refine W_loop (S := Int) (fun s ρ' w' => J s ∧ ∃ (ρ : Env), ρ' = setAll [(0, sl aA a c), (1, sl aB b aC), (5, I s)] ρ ∧ Ext w w') (fun s => m s) 0 ⟨Hx, _, Ee ⟨rfl, rfl, rfl, trivial⟩, (Ext.refl _)⟩ ?_
 rintro i _ wx ⟨Hi, ρ, rfl, X8⟩
 have H := H i Hi
 refine Wq (Wq (Wg (Lv ok 0 [(11, I i), (12, sl aA a c), (13, I (ln a)), (14, .bool (decide (i < (ln a))))] 4 rfl rfl (Ln _ rfl ?_))))
 refine Wc (decide (i < (ln a))) rfl (fun aD => ?_) (fun aD => ?_)
 ·have H := H.1 aD
  refine Wk (Wq (W_block (Wq ?_)))
  refine W_quiet mix (by kernel_rfl) ?_
  refine QP_ev ok 0 [(17, sl aA a c), (18, I i)] 2 rfl rfl ?_
  obtain ⟨x, hi, aM, H⟩ := H
  refine QP_index 2 rfl rfl rfl Try.underlying22 ti_3 rfl rfl r hi aM fun aU cs aN d => ?_
  refine QP_load 3 rfl rfl rfl ti_3 ag_3 rfl aN d (ex.ext X8) fun aV aO => ?_
  obtain rfl := aO.int
  refine QP_ev ok 4 [(21, sl aB b aC), (22, I i)] 6 rfl rfl ?_
  obtain ⟨aJ, aP, aQ, H⟩ := H
  refine QP_index 6 rfl rfl rfl Try.underlying22 ti_3 rfl rfl aH aP aQ fun aW aX aR aS => ?_
  refine QP_load 7 rfl rfl rfl ti_3 ag_3 rfl aR aS (aL.ext X8) fun aY aT => ?_
  obtain rfl := aT.int
  refine QP_ev ok 8 [(25, .bool (x != aJ))] 9 rfl rfl ?_
  refine QP_end _ rfl fun aZ aK => ?_
  refine Wc (x != aJ) rfl (fun aE => ?_) (fun aE => ?_)
  ·have H := H.1 aE
   refine Wq (Wg (Lv ok 0 [(4, .bool false)] 1 rfl rfl (Ln _ rfl (W_ret ?_))))
   exact ⟨_, Ret_of [.bool false] ⟨⟨rfl, rfl⟩, trivial⟩, _, H, rfl, (X.stepx (X8.trans aK)).ext⟩
  have H := H.2 aE
  refine Wk (Wg (Lv ok 0 [(15, I i), (16, I (wr (i + 1))), (5, I (wr (i + 1)))] 3 rfl rfl ?_))
  exact Ln _ rfl ⟨wr (i + 1), ⟨H.1, _, Ee ⟨rfl, rfl, rfl, trivial⟩, (X8.trans aK)⟩, H.2⟩
 have H := H.2 aD
 refine W_exit ?_
 refine (if_pos rfl).mpr ?_
 refine Wq (Wg (Lv ok 0 [(4, .bool true)] 1 rfl rfl (Ln _ rfl (W_ret ?_))))
 exact ⟨_, Ret_of [.bool true] ⟨⟨rfl, rfl⟩, trivial⟩, _, H, rfl, (X.stepx X8).ext⟩

theorem laws_eqIntSS_w (a : List (List Int)) (b : List (List Int)) (Q : Bool → Prop) (H : laws_eqIntSS a b Q) (w : World) {vx : Value} {hx : PH} (r : RS hx vx a) (ex : Sub hx w) {aG : Value} {aH : PH} (aI : RS aH aG b) (aQ : Sub aH w) :
  CallsTo Try.prog 16 #[vx, aG] w fun v w' => ∃ aJ, Q aJ ∧ v = .bool aJ ∧ Ext w w' := by
 obtain ⟨aA, c, rfl⟩ := r.shape
 obtain ⟨aB, aC, rfl⟩ := aI.shape
 refine enter (args := [sl aA a c, sl aB b aC]) 27 Try.func16 rfl rfl rfl ?_
 refine Wo [(0, sl aA a c), (1, sl aB b aC)] ⟨rfl, rfl, trivial⟩ fun ρ => ?_
 have X := Br emp w
 refine Wq (Wg (Lv ok 0 [(4, .bool false)] 1 rfl rfl (Ln _ rfl (Wq (Wq (Wg (Lv ok 0 [(6, sl aA a c), (7, I (ln a)), (8, sl aB b aC), (9, I (ln b)), (10, .bool ((ln a) != (ln b)))] 5 rfl rfl (Ln _ rfl ?_))))))))
 refine Wc ((ln a) != (ln b)) rfl (fun hc => ?_) (fun hc => ?_)
 ·have H := H.1 hc
  refine Wq (Wg (Lv ok 0 [(4, .bool false)] 1 rfl rfl (Ln _ rfl (W_ret ?_))))
  exact ⟨_, Ret_of [.bool false] ⟨⟨rfl, rfl⟩, trivial⟩, _, H, rfl, X.ext⟩
 have H := H.2 hc
 refine Wk (Wq (Wq (Wg (Lv ok 0 [(5, I 0)] 1 rfl rfl (Ln _ rfl (W_block ?_))))))
 obtain ⟨J, m, Hx, H⟩ := H
 refine W_loop (S := Int) (fun s ρ' w' => J s ∧ ∃ (ρ : Env), ρ' = setAll [(0, sl aA a c), (1, sl aB b aC), (5, I s)] ρ ∧ Ext w w') (fun s => m s) 0 ⟨Hx, _, Ee ⟨rfl, rfl, rfl, trivial⟩, (Ext.refl _)⟩ ?_
 rintro i _ wx ⟨Hi, ρ, rfl, X8⟩
 have H := H i Hi
 refine Wq (Wq (Wg (Lv ok 0 [(11, I i), (12, sl aA a c), (13, I (ln a)), (14, .bool (decide (i < (ln a))))] 4 rfl rfl (Ln _ rfl ?_))))
 refine Wc (decide (i < (ln a))) rfl (fun aD => ?_) (fun aD => ?_)
 ·have H := H.1 aD
  refine Wk (Wq (W_block (Wq ?_)))
  refine W_quiet mix (by kernel_rfl) ?_
  refine QP_ev ok 0 [(17, sl aA a c), (18, I i)] 2 rfl rfl ?_
  obtain ⟨x, hi, aR, H⟩ := H
  refine QP_index 2 rfl rfl rfl Try.underlying23 ti_22 rfl rfl r hi aR fun a0 cs aS d => ?_
  have aK := (ex.ext X8)
  refine QP_load 3 rfl rfl rfl ti_22 ag_22 rfl aS d aK fun a1 aT => ?_
  have aL := aT.slice
  obtain ⟨a2, a3, rfl⟩ := aL.shape
  refine QP_ev ok 4 [(21, sl aB b aC), (22, I i)] 6 rfl rfl ?_
  obtain ⟨a4, aU, aV, H⟩ := H
  refine QP_index 6 rfl rfl rfl Try.underlying23 ti_22 rfl rfl aI aU aV fun a5 a6 aW aX => ?_
  have aM := (aQ.ext X8)
  refine QP_load 7 rfl rfl rfl ti_22 ag_22 rfl aW aX aM fun a7 aY => ?_
  have aN := aY.slice
  obtain ⟨a8, a9, rfl⟩ := aN.shape
  obtain ⟨aE, Hd, H⟩ := H
  refine QP_call (.bool aE) 8 rfl rfl rfl cal_38 rfl (fun aZ aO => (laws_eqIntS_w _ _ _ Hd aZ aL (aK.ext aO) aN (aM.ext aO)).mono ?_) ?_
  ·rintro _ _ ⟨_, rfl, rfl, x⟩; exact ⟨rfl, x⟩
  refine QP_ev ok 9 [(26, .bool (!aE))] 10 rfl rfl ?_
  refine QP_end _ rfl fun bA aP => ?_
  refine Wc (!aE) rfl (fun aF => ?_) (fun aF => ?_)
  ·have H := H.1 aF
   refine Wq (Wg (Lv ok 0 [(4, .bool false)] 1 rfl rfl (Ln _ rfl (W_ret ?_))))
   exact ⟨_, Ret_of [.bool false] ⟨⟨rfl, rfl⟩, trivial⟩, _, H, rfl, (X.stepx (X8.trans aP)).ext⟩
  have H := H.2 aF
  refine Wk (Wg (Lv ok 0 [(15, I i), (16, I (wr (i + 1))), (5, I (wr (i + 1)))] 3 rfl rfl ?_))
  exact Ln _ rfl ⟨wr (i + 1), ⟨H.1, _, Ee ⟨rfl, rfl, rfl, trivial⟩, (X8.trans aP)⟩, H.2⟩
 have H := H.2 aD
 refine W_exit ?_
 refine (if_pos rfl).mpr ?_
 refine Wq (Wg (Lv ok 0 [(4, .bool true)] 1 rfl rfl (Ln _ rfl (W_ret ?_))))
 exact ⟨_, Ret_of [.bool true] ⟨⟨rfl, rfl⟩, trivial⟩, _, H, rfl, (X.stepx X8).ext⟩

theorem laws_FnExactCountRoundings_w (aX : List (List Int)) (aBase : Int) (Q : Bool → Prop) (H : laws_FnExactCountRoundings aX aBase Q) (w : World) {vx : Value} {hx : PH} (r : RS hx vx aX) (ex : Sub hx w) :
  CallsTo Try.prog 5 #[vx, I aBase] w fun v w' => ∃ aO, Q aO ∧ v = .bool aO ∧ Ext w w' := by
 obtain ⟨a, c, rfl⟩ := r.shape
 refine enter (args := [sl a aX c, I aBase]) 44 Try.func5 rfl rfl rfl ?_
 refine Wo [(0, sl a aX c), (1, I aBase)] ⟨rfl, rfl, trivial⟩ fun ρ => ?_
 have X := Br emp w
 refine Wq (Wg (Lv ok 0 [(4, .bool false)] 1 rfl rfl (Ln _ rfl (Wq (Wg (Lv ok 0 [(5, I 1048576)] 1 rfl rfl (Ln _ rfl (Wq (Wg (Lv ok 0 [(11, sl a aX c), (12, I 1048576)] 2 rfl rfl (Lc 2 rfl rfl rfl cal_12 rfl (laws_szIntSS_w _ _ _ H w r ex) ?_)))))))))))
 rintro _ wx ⟨aH, H, rfl, x⟩
 refine Lv ok 3 [(5, I aH)] 4 rfl rfl (Ln _ rfl (Wq (Wq (Wg (Lv ok 0 [(14, I aH), (15, .bool (decide (aH < 0)))] 2 rfl rfl (Ln _ rfl ?_))))))
 refine Wc (decide (aH < 0)) rfl (fun hc => ?_) (fun hc => ?_)
 ·have H := H.1 hc
  refine Wq (Wg (Lv ok 0 [(4, .bool true)] 1 rfl rfl (Ln _ rfl (W_ret ?_))))
  exact ⟨_, Ret_of [.bool true] ⟨⟨rfl, rfl⟩, trivial⟩, _, H, rfl, (X.stepx x).ext⟩
 have H := H.2 hc
 refine Wk (Wq (Wg (Lv ok 0 [(17, sl a aX c)] 1 rfl rfl ?_)))
 have aP := (ex.ext x)
 refine Lc 1 rfl rfl rfl cal_14 rfl (laws_toIntSS_w _ _ H wx r aP) ?_
 rintro _ a0 ⟨a7, a8, a9, H, rfl, aQ, o, a1, f⟩
 obtain ⟨bA, bB, rfl⟩ := o.shape
 refine Lv ok 2 [(19, I aBase)] 3 rfl rfl (Lc 3 rfl rfl rfl cal_17 rfl (spec_CountRoundings_w _ _ _ H a0 o.readf a1) ?_)
 rintro _ a2 ⟨aA, aB, H, rfl, aR⟩
 refine Lv ok 4 [(16, .tuple #[I aA, .bool aB]), (21, I aA), (22, .bool aB), (6, I aA), (7, .bool aB)] 9 rfl rfl (Ln _ rfl (Wq (Wg (Lv ok 0 [(23, sl a aX c)] 1 rfl rfl ?_))))
 have aS := (aP.ext (aQ.trans aR))
 refine Lc 1 rfl rfl rfl cal_14 rfl (laws_toIntSS_w _ _ H a2 r aS) ?_
 rintro _ a3 ⟨aE, bC, bD, H, rfl, aT, aI, aU, bE⟩
 obtain ⟨aF, aG, rfl⟩ := aI.shape
 refine Lv ok 2 [(8, sl aF aE aG)] 3 rfl rfl (Ln _ rfl (Wq (Wg (Lv ok 0 [(26, sl aF aE aG), (27, I aBase)] 2 rfl rfl (Lc 2 rfl rfl rfl cal_18 rfl (impl_CountRoundings_w _ _ _ H a3 aI.readf aU) ?_)))))
 rintro _ aV ⟨aC, aD, H, rfl, aJ⟩
 refine Lv ok 3 [(25, .tuple #[I aC, .bool aD]), (29, I aC), (30, .bool aD), (9, I aC), (10, .bool aD)] 8 rfl rfl (Ln _ rfl ?_)
 try refine Wo [(0, sl a aX c), (6, I aA), (7, .bool aB), (8, sl aF aE aG), (9, I aC), (10, .bool aD)] ⟨rfl, rfl, rfl, rfl, rfl, rfl, trivial⟩ fun ρ => ?_
 refine Wq ?_
 have X32 := (X.stepx ((((x.trans aQ).trans aR).trans aT).trans aJ))
 obtain ⟨k, hk, H⟩ := jn_elim H
 refine W_join2 (S := Bool) (fun s ρ' w' => k s ∧ ∃ (ρ : Env), ρ' = setAll [(0, sl a aX c), (8, sl aF aE aG), (38, .bool s)] ρ ∧ aV = w') ?_ ?_
 ·refine Wg (Lv ok 0 [(31, I aC), (32, I aA), (33, .bool (aC != aA)), (34, .bool (aC != aA))] 4 rfl rfl ?_)
  refine LP_split 34 (aC != aA) rfl (fun aK => ?_) (fun aK => ?_)
  ·have H := H.1 aK
   refine Lv ok 4 [(35, undef), (36, undef), (37, undef), (38, .bool true)] 8 rfl rfl ?_
   exact Ln _ rfl ⟨true, H, _, Ee ⟨rfl, rfl, rfl, trivial⟩, rfl⟩
  have H := H.2 aK
  refine Lv ok 4 [(35, .bool aD), (36, .bool aB), (37, .bool (aD != aB)), (38, .bool (aD != aB))] 8 rfl rfl ?_
  exact Ln _ rfl ⟨aD != aB, H, _, Ee ⟨rfl, rfl, rfl, trivial⟩, rfl⟩
 rintro a4 _ _ ⟨H, ρ, rfl, rfl⟩
 subst hk
 refine Wc (a4) rfl (fun aL => ?_) (fun aL => ?_)
 ·have H := H.1 aL
  refine Wq (Wg (Lv ok 0 [(4, .bool false)] 1 rfl rfl (Ln _ rfl (W_ret ?_))))
  exact ⟨_, Ret_of [.bool false] ⟨⟨rfl, rfl⟩, trivial⟩, _, H, rfl, X32.ext⟩
 have H := H.2 aL
 refine Wk (Wq (Wq (Wg (Lv ok 0 [(39, sl aF aE aG), (40, sl a aX c)] 2 rfl rfl (Lc 2 rfl rfl rfl cal_14 rfl (laws_toIntSS_w _ _ H aV r (aS.ext (aT.trans aJ))) ?_)))))
 rintro _ a5 ⟨bF, bG, bH, H, rfl, aM, aW, a6, bI⟩
 obtain ⟨bJ, bK, rfl⟩ := aW.shape
 refine Lc 3 rfl rfl rfl cal_16 rfl (laws_eqIntSS_w _ _ _ H a5 aI.readf ((aU.ext aJ).ext aM) aW.readf a6) ?_
 rintro _ bL ⟨aY, H, rfl, aZ⟩
 refine Lv ok 4 [(43, .bool (!aY))] 5 rfl rfl (Ln _ rfl ?_)
 refine Wc (!aY) rfl (fun aN => ?_) (fun aN => ?_)
 ·have H := H.1 aN
  refine Wq (Wg (Lv ok 0 [(4, .bool false)] 1 rfl rfl (Ln _ rfl (W_ret ?_))))
  exact ⟨_, Ret_of [.bool false] ⟨⟨rfl, rfl⟩, trivial⟩, _, H, rfl, (X32.stepx (aM.trans aZ)).ext⟩
 have H := H.2 aN
 refine Wk (Wq (Wg (Lv ok 0 [(4, .bool true)] 1 rfl rfl (Ln _ rfl (W_ret ?_)))))
 exact ⟨_, Ret_of [.bool true] ⟨⟨rfl, rfl⟩, trivial⟩, _, H, rfl, (X32.stepx (aM.trans aZ)).ext⟩

end Go.Proofs.Ytommbnkecafodaa
