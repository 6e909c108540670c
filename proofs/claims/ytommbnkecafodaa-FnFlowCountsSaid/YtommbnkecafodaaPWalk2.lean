/- The walks, further. -/
import Derived.Test.YtommbnkecafodaaPWalk
set_option linter.unusedVariables false
set_option autoImplicit false
namespace Go.Proofs.Ytommbnkecafodaa
open Go Go.RowKit Go.Gv

open Go.Proofs
set_option maxRecDepth 8000
set_option maxHeartbeats 4000000
theorem impl_fill_w (t : Transport) (Q : (List (List Int)) → Prop) (H : impl_fill t Q) (w : World) {vx : Value} {hx : PH} (r : RS hx vx t.Rows) (ex : Sub hx w) {dA : Value} {dB : PH} (bU : RS dB dA t.Cols) (fP : Sub dB w) {dC : Value} {dD : PH} (a3 : RS dD dC t.Lo) (fQ : Sub dD w) {dE : Value} {dF : PH} (b5 : RS dF dE t.Hi) (fR : Sub dF w) :
  CallsTo Try.prog 63 #[.agg #[vx, dA, dC, dE]] w fun v w' => ∃ b6 b7 b8, Q b6 ∧ v = b7 ∧ Ext w w' ∧ OD b8 b7 b6 ∧ Sub b8 w' ∧ Fresh w.heap.size b8 ∧ CanV b7 b6 := by
 obtain ⟨a, c, rfl⟩ := r.shape
 obtain ⟨aQ, aR, rfl⟩ := bU.shape
 obtain ⟨aK, aL, rfl⟩ := a3.shape
 obtain ⟨bI, bJ, rfl⟩ := b5.shape
 refine enter (args := [.agg #[sl a t.Rows c, sl aQ t.Cols aR, sl aK t.Lo aL, sl bI t.Hi bJ]]) 141 Try.func63 rfl rfl rfl ?_
 refine Wo [(0, .agg #[sl a t.Rows c, sl aQ t.Cols aR, sl aK t.Lo aL, sl bI t.Hi bJ])] ⟨rfl, trivial⟩ fun ρ => ?_
 have X := Br emp w
 refine Wq (Wg (Ly 0 (cs := [sl a t.Rows c, sl aQ t.Cols aR, sl aK t.Lo aL, sl bI t.Hi bJ]) rfl rfl rfl rfl rfl fun b wx x b9 f => (Lv ok 1 [(2, .slice none 0 0)] 2 rfl rfl (Ln _ rfl (Wq ?_)))))
 refine W_quiet mix (by kernel_rfl) ?_
 refine QP_ev ok 0 [(14, pb b)] 1 rfl rfl ?_
 refine QP_ldbox 1 (v := sl a t.Rows c) rfl rfl rfl ti_22 ag_22 (fun _ => rfl) rfl b9 rfl rfl ?_
 refine QP_ev ok 2 [(16, I (ln t.Rows)), (17, .pointer (some ⟨b, 1, none⟩))] 4 rfl rfl ?_
 refine QP_ldbox 4 (v := sl aQ t.Cols aR) rfl rfl rfl ti_22 ag_22 (fun _ => rfl) rfl b9 rfl rfl ?_
 refine QP_ev ok 5 [(19, I (ln t.Cols)), (3, I (ln t.Rows)), (4, I (ln t.Cols))] 8 rfl rfl ?_
 refine QP_end _ rfl fun fS bK => ?_
 refine Wq (Wg ?_)
 have bV := (b9.ext bK)
 refine Lb 0 (v := .agg #[sl a t.Rows c, sl aQ t.Cols aR, sl aK t.Lo aL, sl bI t.Hi bJ]) rfl rfl rfl ti_29 ag_29 (fun h => by cases h) rfl bV rfl rfl (Lv ok 1 [(21, .pointer (some ⟨b, 2, none⟩))] 2 rfl rfl (Lb 2 (v := sl aK t.Lo aL) rfl rfl rfl ti_23 ag_23 (fun _ => rfl) rfl bV rfl rfl ?_))
 have xc := (x.trans bK)
 have bB := (ex.ext xc)
 have bL := (fP.ext xc)
 have bW := (fQ.ext xc)
 have cA := (fR.ext xc)
 refine Lc 3 rfl rfl rfl cal_89 rfl (impl_residual_w _ _ _ _ H fS r bB bU bL a3 bW b5 cA a3 bW) ?_
 rintro _ jH ⟨a4, jI, jJ, H, rfl, aH, o, cB, jK⟩
 obtain ⟨a5, a6, rfl⟩ := o.shape
 refine Lv ok 4 [(5, sl a5 a4 a6)] 5 rfl rfl (Ln _ rfl (Wq (Wg (Lv ok 0 [(24, I (ln t.Rows)), (25, I (ln t.Cols)), (26, I (wr ((ln t.Rows) + (ln t.Cols)))), (27, I (wr ((wr ((ln t.Rows) + (ln t.Cols))) + 2)))] 4 rfl rfl ?_))))
 obtain ⟨hn, hb, H⟩ := H
 refine LP_maked (β := Int) 4 rfl rfl rfl Try.underlying23 ti_22 rfl hn (by first | omega | (simp only [ln] at *; omega)) (by first | omega | (simp only [ln] at *; omega)) fun bM jL cC aG dG fT aE => ?_
 obtain ⟨aA, aB, rfl⟩ := dG.shape
 refine Lv ok 5 [(6, .slice aA (List.length (List.replicate (Int.toNat (wr ((wr ((ln t.Rows) + (ln t.Cols))) + 2))) (([] : List Int)))) aB)] 6 rfl rfl (Ln _ rfl (Wq (Wq (Wg (Lv ok 0 [(29, .slice aA (List.length (List.replicate (Int.toNat (wr ((wr ((ln t.Rows) + (ln t.Cols))) + 2))) (([] : List Int)))) aB), (30, I (ln (List.replicate (Int.toNat (wr ((wr ((ln t.Rows) + (ln t.Cols))) + 2))) (([] : List Int))))), (31, I 0)] 3 rfl rfl ?_)))))
 refine Ln _ rfl (W_block ?_)
 obtain ⟨J, m, Hx, H⟩ := H
 refine W_loop (S := (List (List Int)) × Int) (fun s ρ' w' => J s.1 s.2 ∧ ∃ (ρ : Env) (aI : PH), ρ' = setAll [(1, pb b), (3, I (ln t.Rows)), (4, I (ln t.Cols)), (5, sl a5 a4 a6), (6, .slice aA (List.length (List.replicate (Int.toNat (wr ((wr ((ln t.Rows) + (ln t.Cols))) + 2))) (([] : List Int)))) aB), (30, I (ln (List.replicate (Int.toNat (wr ((wr ((ln t.Rows) + (ln t.Cols))) + 2))) (([] : List Int))))), (31, I s.2)] ρ ∧ But bM cC w' ∧ OD aI (.slice aA (List.length (List.replicate (Int.toNat (wr ((wr ((ln t.Rows) + (ln t.Cols))) + 2))) (([] : List Int)))) aB) s.1 ∧ Sub aI w' ∧ DomLe bM cC.heap.size aI) (fun s => m s.1 s.2) (List.replicate (Int.toNat (wr ((wr ((ln t.Rows) + (ln t.Cols))) + 2))) (([] : List Int)), 0) ⟨Hx, _, bM, Ee ⟨rfl, rfl, rfl, rfl, rfl, rfl, rfl, trivial⟩, (Br _ _), dG, fT, (Oe (Or _) _)⟩ ?_
 rintro ⟨bX, aC⟩ _ cD ⟨Hi, ρ, aI, rfl, X53, dH, bN, aJ⟩
 have H := H bX aC Hi
 refine Wq (Wg (Lv ok 0 [(32, .bool (decide (aC < (ln (List.replicate (Int.toNat (wr ((wr ((ln t.Rows) + (ln t.Cols))) + 2))) (([] : List Int)))))))] 1 rfl rfl (Ln _ rfl (Wq ?_))))
 refine Wc (decide (aC < (ln (List.replicate (Int.toNat (wr ((wr ((ln t.Rows) + (ln t.Cols))) + 2))) (([] : List Int)))))) rfl (fun hc => ?_) (fun hc => ?_)
 ·have H := H.1 hc
  refine Wk ?_
  have dj := (Df (bB.ext aH) aE).symm
  have dI := (Df cB aE).symm
  obtain ⟨k, hk, H⟩ := jn_elim H
  refine W_join2 (S := (List (List Int))) (fun s ρ' w' => k s ∧ ∃ (ρ : Env) (bO : PH), ρ' = setAll [(1, pb b), (3, I (ln t.Rows)), (4, I (ln t.Cols)), (5, sl a5 a4 a6), (6, .slice aA (List.length (List.replicate (Int.toNat (wr ((wr ((ln t.Rows) + (ln t.Cols))) + 2))) (([] : List Int)))) aB), (30, I (ln (List.replicate (Int.toNat (wr ((wr ((ln t.Rows) + (ln t.Cols))) + 2))) (([] : List Int))))), (31, I aC)] ρ ∧ But aI cD w' ∧ OD bO (.slice aA (List.length (List.replicate (Int.toNat (wr ((wr ((ln t.Rows) + (ln t.Cols))) + 2))) (([] : List Int)))) aB) s ∧ Sub bO w' ∧ DomLe aI cD.heap.size bO) ?_ ?_
  ·refine W_block (Wq (Wg (Lv ok 0 [(33, I aC), (7, I aC)] 2 rfl rfl (Ln _ rfl (Wq (Wg (Lv ok 0 [(34, .slice aA (List.length (List.replicate (Int.toNat (wr ((wr ((ln t.Rows) + (ln t.Cols))) + 2))) (([] : List Int)))) aB), (35, I aC), (36, I (ln t.Rows)), (37, I (ln t.Cols)), (38, I (wr ((ln t.Rows) + (ln t.Cols)))), (39, I (wr ((wr ((ln t.Rows) + (ln t.Cols))) + 2)))] 6 rfl rfl ?_)))))))
   obtain ⟨fU, jM, H⟩ := H
   refine LP_make (α := Int) 6 rfl rfl rfl Try.underlying22 ti_3 (x0 := (0 : Int)) rfl rfl fU (by first | omega | (simp only [ln] at *; omega)) (by first | omega | (simp only [ln] at *; omega)) fun jN jO jP bP dJ fV cE => ?_
   obtain ⟨jQ, jR, rfl⟩ := dJ.shape
   obtain ⟨hi, hl, H⟩ := H
   refine LP_indexd (v := .slice aA (List.length (List.replicate (Int.toNat (wr ((wr ((ln t.Rows) + (ln t.Cols))) + 2))) (([] : List Int)))) aB) 7 rfl rfl rfl Try.underlying23 ti_22 rfl rfl dH hi hl fun jS wa => (LP_setD (y := List.replicate (Int.toNat (wr ((wr ((ln t.Rows) + (ln t.Cols))) + 2))) ((0 : Int))) 8 rfl rfl rfl rfl rfl wa (OD.rvo (OS.od dJ)) (bN.ext bP) fV (Df bN cE) fun dK hw jT dL dM y dh dq jU => ?_)
   refine Ln _ rfl (Wq (Wg (Lv ok 0 [(42, I aC), (43, I (ln t.Rows)), (44, I (ln t.Cols)), (45, I (wr ((ln t.Rows) + (ln t.Cols)))), (46, .bool (decide (aC < (wr ((ln t.Rows) + (ln t.Cols))))))] 5 rfl rfl (Ln _ rfl ?_))))
   refine Wc (decide (aC < (wr ((ln t.Rows) + (ln t.Cols))))) rfl (fun cF => ?_) (fun cF => ?_)
   ·have H := H.1 cF
    refine W_open mix fun jV cG => ?_
    refine AP_game 8 [[], [], [0, 1], [0, 1, 2], [], [], [4, 5], [4, 5, 6], [0, 1, 2, 3, 4, 5, 6, 7]] [[(6, none)], [(7, none)], [(47, some 0), (48, some 1)], [(49, some 2)], [(5, none)], [(7, none)], [(51, some 4), (52, some 5)], [(53, some 6)]] [(1, none), (3, none), (4, none), (5, none), (6, none), (30, none), (31, none), (50, some 3), (54, some 7)] [(0, false), (1, false), (2, false), (3, false), (4, false), (5, false), (6, false), (7, false)] (by kernel_rfl) (by kernel_rfl) ?_
    refine GS_ev ok [(6, .slice aA (List.length (List.replicate (Int.toNat (wr ((wr ((ln t.Rows) + (ln t.Cols))) + 2))) (([] : List Int)))) aB)] (.slice aA (List.length (List.replicate (Int.toNat (wr ((wr ((ln t.Rows) + (ln t.Cols))) + 2))) (([] : List Int)))) aB) rfl rfl (fun _ h => h) (fun _ => rfl) ?_
    refine GS_ev ok [(7, I aC)] (I aC) rfl rfl (fun _ h => h) (fun _ => rfl) ?_
    obtain ⟨bC, fW, fX, H⟩ := H
    obtain ⟨dN, u, fY, rest, fZ, f0, bw⟩ := run_indexb Try.underlying23 ti_22 dL _ fW fX
    refine GS_r0 [(47, .slice aA (List.length (List.replicate (Int.toNat (wr ((wr ((ln t.Rows) + (ln t.Cols))) + 2))) (([] : List Int)))) aB), (48, I aC)] (.pointer (some dN)) rfl rfl (fun _ h => h) (fun _ _ => ex_index rfl rfl rfl (fZ _)) ?_
    have dO := bw.od
    obtain ⟨cH, cI, rfl⟩ := dO.shape
    have cJ := (dM.ext cG)
    have f1 := Sub.le cJ bw.le
    have f2 : OS 3 fY emp (sl cH bC cI) bC := OD.flat dO
    refine GS_r1 [(49, .pointer (some dN))] (sl cH bC cI) rfl rfl (fun _ h => h) (fun _ w e => ex_ldcell rfl ti_22 ag_22 rfl f0 e) cJ ?_
    refine GS_ev ok [(5, sl a5 a4 a6)] (sl a5 a4 a6) rfl rfl (fun _ h => h) (fun _ => rfl) ?_
    refine GS_ev ok [(7, I aC)] (I aC) rfl rfl (fun _ h => h) (fun _ => rfl) ?_
    obtain ⟨bQ, f3, f4, H⟩ := H
    obtain ⟨dP, cs, f5, f6, d⟩ := run_indexAt Try.underlying23 ti_22 o.readf .i64 _ bQ f3 f4
    refine GS_r0 [(51, sl a5 a4 a6), (52, I aC)] (.pointer (some dP)) rfl rfl (fun _ h => h) (fun _ _ => ex_index rfl rfl rfl (f5 _)) ?_
    obtain ⟨jW, f7, f8⟩ := run_loadAt ti_22 ag_22 f6 d
    have dQ := f8.slice
    obtain ⟨dR, dS, rfl⟩ := dQ.shape
    have dT := (((((cB.ext aG).but X53 dI).ext bP).but (But.dom y dh) (Mj aJ dI (cB.ext aG))).ext cG)
    refine GS_r1 [(53, .pointer (some dP))] (sl dR bQ dS) rfl rfl (fun _ h => h) (fun _ w e => ex_load rfl rfl (f7 w e)) dT ?_
    intro jX bY ρ f9
    refine AP_forget [(1, pb b), (3, I (ln t.Rows)), (4, I (ln t.Cols)), (5, sl a5 a4 a6), (6, .slice aA (List.length (List.replicate (Int.toNat (wr ((wr ((ln t.Rows) + (ln t.Cols))) + 2))) (([] : List Int)))) aB), (30, I (ln (List.replicate (Int.toNat (wr ((wr ((ln t.Rows) + (ln t.Cols))) + 2))) (([] : List Int))))), (31, I aC), (50, sl cH bC cI), (54, sl dR bQ dS)] (by exact f9) fun ρ => ?_
    refine AP_tail 8 [[], [], [0, 1], [0, 1, 2], [], [], [4, 5], [4, 5, 6], [0, 1, 2, 3, 4, 5, 6, 7]] (by kernel_rfl) ?_
    refine LP_copy (α := Int) 8 rfl rfl rfl Try.underlying22 ti_3 rfl rfl rfl f2 (f1.ext bY) dQ (dT.ext bY) fun gA jY gB gC dU gD => ?_
    obtain ⟨jZ, gE, dd⟩ := BwL.turn bw (OS.od gB) (Dom.of gD)
    have gF := BwL.sub bw (cJ.ext bY) gC dU
    have gG := BwL.but bw dU
    refine Ln _ rfl ?_
    have dV := (cG.trans bY)
    have dW : DomLe aI cD.heap.size dK := (Mt (Mu (Oe (Or _) _) ((cE.mono (Nat.le_refl _)).dom _)) (Oe dq _) (Nat.le_refl _))
    exact ⟨List.set (List.set bX (Int.toNat aC) (List.replicate (Int.toNat (wr ((wr ((ln t.Rows) + (ln t.Cols))) + 2))) ((0 : Int)))) (Int.toNat aC) (List.take (List.length bC) bQ ++ List.drop (List.length bQ) bC), H, _, (un gA rest), Ee ⟨rfl, rfl, rfl, rfl, rfl, rfl, rfl, trivial⟩, (((((Br aI _).stepx bP).step (But.dom y dh) (Oe (Or _) _)).stepx dV).step gG dW), gE, gF, (Mt dW ((fun n => Oe dd n) _) (Nat.le_trans (Nat.le_trans bP.size (But.dom y dh).size) dV.size))⟩
   have H := H.2 cF
   exact Wk ⟨List.set bX (Int.toNat aC) (List.replicate (Int.toNat (wr ((wr ((ln t.Rows) + (ln t.Cols))) + 2))) ((0 : Int))), H, _, dK, Ee ⟨rfl, rfl, rfl, rfl, rfl, rfl, rfl, trivial⟩, (((Br aI _).stepx bP).step (But.dom y dh) (Oe (Or _) _)), dL, dM, (Mt (Mu (Oe (Or _) _) ((cE.mono (Nat.le_refl _)).dom _)) (Oe dq _) (Nat.le_refl _))⟩
  rintro gH _ j0 ⟨H, ρ, bO, rfl, X88, gI, gJ, gK⟩
  subst hk
  refine Wg (Lv ok 0 [(56, I (wr (aC + 1))), (31, I (wr (aC + 1)))] 2 rfl rfl (Ln _ rfl ?_))
  have dX : DomLe bM cC.heap.size aI := (Mt (Oe (Or _) _) aJ (Nat.le_refl _))
  exact ⟨(gH, wr (aC + 1)), ⟨H.1, _, bO, Ee ⟨rfl, rfl, rfl, rfl, rfl, rfl, rfl, trivial⟩, (((Br bM _).step X53 (Oe (Or _) _)).step X88 dX), gI, gJ, (Mt dX gK X53.size)⟩, H.2⟩
 have H := H.2 hc
 refine W_exit ?_
 refine (if_pos rfl).mpr ?_
 refine Wq ?_
 refine W_open mix fun j1 a7 => ?_
 refine AP_game 5 [[], [0], [0, 1], [], [3], [0, 1, 2, 3, 4], [0, 1, 2, 3, 4, 5], [0, 1, 2, 3, 4, 5, 6]] [[(1, none)], [(57, some 0)], [(58, some 1)], [(1, none)], [(60, some 3)]] [(1, none), (3, none), (4, none), (6, none), (59, some 2), (61, some 4)] [(0, false), (1, false), (3, false), (4, false), (2, true)] (by kernel_rfl) (by kernel_rfl) ?_
 refine GS_ev ok [(1, pb b)] (.pointer (some ⟨b, 2, none⟩)) rfl rfl (fun _ h => h) (fun _ => rfl) ?_
 have a8 := (aH.trans aG)
 have dY := (bV.ext aH)
 have dZ := (Df dY aE).symm
 have bZ := (((bV.ext a8).but X53 dZ).ext a7)
 refine GS_r1 [(57, .pointer (some ⟨b, 2, none⟩))] (sl aK t.Lo aL) rfl rfl (fun _ h => h) (fun _ w e => ex_ldbox rfl ti_23 ag_23 (fun _ => rfl) rfl e rfl rfl) bZ ?_
 refine GS_ev ok [(1, pb b)] (.pointer (some ⟨b, 2, none⟩)) rfl rfl (fun _ h => h) (fun _ => rfl) ?_
 refine GS_r1 [(60, .pointer (some ⟨b, 2, none⟩))] (sl aK t.Lo aL) rfl rfl (fun _ h => h) (fun _ w e => ex_ldbox rfl ti_23 ag_23 (fun _ => rfl) rfl e rfl rfl) bZ ?_
 refine GS_lp [(58, sl aK t.Lo aL)] rfl rfl (fun _ h => h) rfl fun ρ gL aV => ?_
 have d0 := (bW.ext aH)
 have d1 := (Df d0 aE).symm
 have d2 := (a7.trans aV)
 have d3 := (((bW.ext a8).but X53 d1).ext d2)
 refine Lc 0 rfl rfl rfl cal_65 rfl (impl_rowSums_w _ _ H gL a3 d3) ?_
 rintro _ j2 ⟨aW, j3, j4, H, rfl, aX, cK, gM, gN⟩
 obtain ⟨aY, aZ, rfl⟩ := cK.shape
 refine LP_gs ⟨⟨.inr (bZ.ext (aV.trans aX)), .inl rfl, trivial⟩, ?_⟩
 intro gO a0 ρ gP
 refine AP_forget [(1, pb b), (3, I (ln t.Rows)), (4, I (ln t.Cols)), (6, .slice aA (List.length (List.replicate (Int.toNat (wr ((wr ((ln t.Rows) + (ln t.Cols))) + 2))) (([] : List Int)))) aB), (59, sl aY aW aZ), (61, sl aK t.Lo aL)] (by exact gP) fun ρ => ?_
 refine AP_tail 5 [[], [0], [0, 1], [], [3], [0, 1, 2, 3, 4], [0, 1, 2, 3, 4, 5], [0, 1, 2, 3, 4, 5, 6]] (by kernel_rfl) ?_
 have cL := (d3.ext (aX.trans a0))
 refine Lc 5 rfl rfl rfl cal_78 rfl (impl_colSums_w _ _ H gO a3 cL) ?_
 rintro _ cM ⟨aS, j5, j6, H, rfl, a1, cN, d4, gQ⟩
 obtain ⟨aT, aU, rfl⟩ := cN.shape
 refine Lv ok 6 [(8, sl aY aW aZ), (9, sl aT aS aU)] 8 rfl rfl (Ln _ rfl (Wq (Wq (Wg (Lv ok 0 [(63, pb b)] 1 rfl rfl ?_)))))
 have cO := (bZ.ext (((aV.trans aX).trans a0).trans a1))
 refine Lb 1 (v := sl a t.Rows c) rfl rfl rfl ti_22 ag_22 (fun _ => rfl) rfl cO rfl rfl (Lv ok 2 [(65, I (ln t.Rows)), (66, I 0)] 4 rfl rfl (Ln _ rfl (W_block ?_)))
 obtain ⟨J212, gR, Hx214, H⟩ := H
 refine W_loop (S := (List (List Int)) × Int) (fun s ρ' w' => J212 s.1 s.2 ∧ ∃ (ρ : Env) (aM : PH), ρ' = setAll [(1, pb b), (3, I (ln t.Rows)), (4, I (ln t.Cols)), (6, .slice aA (List.length (List.replicate (Int.toNat (wr ((wr ((ln t.Rows) + (ln t.Cols))) + 2))) (([] : List Int)))) aB), (8, sl aY aW aZ), (9, sl aT aS aU), (64, sl a t.Rows c), (65, I (ln t.Rows)), (66, I s.2)] ρ ∧ But aI cM w' ∧ OD aM (.slice aA (List.length (List.replicate (Int.toNat (wr ((wr ((ln t.Rows) + (ln t.Cols))) + 2))) (([] : List Int)))) aB) s.1 ∧ Sub aM w' ∧ DomLe aI cM.heap.size aM) (fun s => gR s.1 s.2) (bX, 0) ⟨Hx214, _, aI, Ee ⟨rfl, rfl, rfl, rfl, rfl, rfl, rfl, rfl, rfl, trivial⟩, (Br _ _), dH, (bN.ext ((((a7.trans aV).trans aX).trans a0).trans a1)), (Oe (Or _) _)⟩ ?_
 rintro ⟨cP, aF⟩ _ cQ ⟨Hi, ρ, aM, rfl, X211, d5, d6, aN⟩
 have H := H cP aF Hi
 refine Wq (Wg (Lv ok 0 [(67, .bool (decide (aF < (ln t.Rows))))] 1 rfl rfl (Ln _ rfl (Wq ?_))))
 refine Wc (decide (aF < (ln t.Rows))) rfl (fun cR => ?_) (fun cR => ?_)
 ·have H := H.1 cR
  refine Wk (Wq (W_block (Wq (Wg (Lv ok 0 [(68, I aF)] 1 rfl rfl ?_)))))
  obtain ⟨aO, gS, gT, H⟩ := H
  refine Li 1 rfl rfl rfl Try.underlying22 ti_3 rfl rfl r gS gT fun j7 j8 gU gV => ?_
  have d7 := (bB.ext aH)
  have d8 := (Df d7 aE).symm
  have d9 := ((((a7.trans aV).trans aX).trans a0).trans a1)
  refine Lo 2 rfl rfl rfl ti_3 ag_3 rfl gU gV ((((bB.ext a8).but X53 d8).ext d9).but X211 (Mj aJ d8 (d7.ext aG))) fun j9 gW => ?_
  obtain rfl := gW.int
  refine Lv ok 3 [(10, I aF), (11, I aO)] 5 rfl rfl (Ln _ rfl (Wq (Wq (Wg (Lv ok 0 [(71, I aO), (72, sl aY aW aZ), (73, I aF)] 3 rfl rfl ?_)))))
  obtain ⟨eA, gX, gY, H⟩ := H
  refine Li 3 rfl rfl rfl Try.underlying22 ti_3 rfl rfl cK.readf gX gY fun kA kB gZ g0 => ?_
  have eB := ((gM.ext (a0.trans a1)).but X211 (Df (bN.ext d2) gN))
  refine Lo 4 rfl rfl rfl ti_3 ag_3 rfl gZ g0 eB fun kC g1 => ?_
  obtain rfl := g1.int
  refine Lv ok 5 [(76, .bool (decide (aO < eA)))] 6 rfl rfl (Ln _ rfl ?_)
  refine Wc (decide (aO < eA)) rfl (fun cS => ?_) (fun cS => ?_)
  ·have H := H.1 cS
   refine Wq (Wg (Lv ok 0 [(2, .slice none 0 0)] 1 rfl rfl (Ln _ rfl (W_ret ?_))))
   have X251 := (X.stepx (xc.trans aH))
   have g2 := aE.mono X251.size
   have g3 := aE.mono X251.size
   have g4 := DomLe.fresh aJ g3 (X251.stepx aG).size
   exact ⟨_, Ret_of [.slice none 0 0] ⟨⟨rfl, rfl⟩, trivial⟩, _, _, emp, H, rfl, ((((X.stepx (((x.trans bK).trans aH).trans aG)).step X53 (g2.dom _)).stepx d9).step X211 (g4.dom _)).ext, OD.nil, (emp_sub _), (emp_fresh _), CanV.nil⟩
  have H := H.2 cS
  refine Wk ?_
  refine W_open mix fun kD cT => ?_
  refine AP_game 13 [[], [], [], [1, 2], [0, 1, 2, 3], [0, 1, 2, 3, 4], [], [], [], [], [8, 9], [8, 9, 10], [7, 8, 9, 10, 11], [0, 1, 2, 3, 4, 5, 6, 7, 8, 9, 10, 11, 12], [0, 1, 2, 3, 4, 5, 6, 7, 8, 9, 10, 11, 12, 13]] [[(6, none)], [(3, none)], [(4, none)], [(78, some 1), (79, some 2)], [(77, some 0), (80, some 3)], [(81, some 4)], [(10, none)], [(11, none)], [(8, none)], [(10, none)], [(85, some 8), (86, some 9)], [(87, some 10)], [(84, some 7), (88, some 11)]] [(1, none), (3, none), (4, none), (6, none), (8, none), (9, none), (64, none), (65, none), (66, none), (82, some 5), (83, some 6), (89, some 12)] [(0, false), (1, false), (2, false), (3, false), (4, false), (5, false), (6, false), (7, false), (8, false), (9, false), (10, false), (11, false), (12, false)] (by kernel_rfl) (by kernel_rfl) ?_
  refine GS_ev ok [(6, .slice aA (List.length (List.replicate (Int.toNat (wr ((wr ((ln t.Rows) + (ln t.Cols))) + 2))) (([] : List Int)))) aB)] (.slice aA (List.length (List.replicate (Int.toNat (wr ((wr ((ln t.Rows) + (ln t.Cols))) + 2))) (([] : List Int)))) aB) rfl rfl (fun _ h => h) (fun _ => rfl) ?_
  refine GS_ev ok [(3, I (ln t.Rows))] (I (ln t.Rows)) rfl rfl (fun _ h => h) (fun _ => rfl) ?_
  refine GS_ev ok [(4, I (ln t.Cols))] (I (ln t.Cols)) rfl rfl (fun _ h => h) (fun _ => rfl) ?_
  refine GS_ev ok [(78, I (ln t.Rows)), (79, I (ln t.Cols))] (I (wr ((ln t.Rows) + (ln t.Cols)))) rfl rfl (fun _ h => h) (fun _ => rfl) ?_
  obtain ⟨bD, g5, g6, H⟩ := H
  obtain ⟨eC, kE, g7, g8, g9, hA, bR⟩ := run_indexb Try.underlying23 ti_22 d5 _ g5 g6
  refine GS_r0 [(77, .slice aA (List.length (List.replicate (Int.toNat (wr ((wr ((ln t.Rows) + (ln t.Cols))) + 2))) (([] : List Int)))) aB), (80, I (wr ((ln t.Rows) + (ln t.Cols))))] (.pointer (some eC)) rfl rfl (fun _ h => h) (fun _ _ => ex_index rfl rfl rfl (g9 _)) ?_
  have eD := bR.od
  obtain ⟨b0, b1, rfl⟩ := eD.shape
  have cU := (d6.ext cT)
  have hB := Sub.le cU bR.le
  have hC : OS 3 g7 emp (sl b0 bD b1) bD := OD.flat eD
  refine GS_r1 [(81, .pointer (some eC))] (sl b0 bD b1) rfl rfl (fun _ h => h) (fun _ w e => ex_ldcell rfl ti_22 ag_22 rfl hA e) cU ?_
  refine GS_ev ok [(10, I aF)] (I aF) rfl rfl (fun _ h => h) (fun _ => rfl) ?_
  refine GS_ev ok [(11, I aO)] (I aO) rfl rfl (fun _ h => h) (fun _ => rfl) ?_
  refine GS_ev ok [(8, sl aY aW aZ)] (sl aY aW aZ) rfl rfl (fun _ h => h) (fun _ => rfl) ?_
  refine GS_ev ok [(10, I aF)] (I aF) rfl rfl (fun _ h => h) (fun _ => rfl) ?_
  obtain ⟨bE, hD, hE, H⟩ := H
  obtain ⟨eE, kF, hF, hG, hH⟩ := run_indexAt Try.underlying22 ti_3 cK.readf .i64 _ bE hD hE
  refine GS_r0 [(85, sl aY aW aZ), (86, I aF)] (.pointer (some eE)) rfl rfl (fun _ h => h) (fun _ _ => ex_index rfl rfl rfl (hF _)) ?_
  obtain ⟨kG, hI, hJ⟩ := run_loadAt ti_3 ag_3 hG hH
  obtain rfl := hJ.int
  refine GS_r1 [(87, .pointer (some eE))] (I bE) rfl rfl (fun _ h => h) (fun _ w e => ex_load rfl rfl (hI w e)) (eB.ext cT) ?_
  refine GS_ev ok [(84, I aO), (88, I bE)] (I (wr (aO - bE))) rfl rfl (fun _ h => h) (fun _ => rfl) ?_
  intro kH cV ρ hK
  refine AP_forget [(1, pb b), (3, I (ln t.Rows)), (4, I (ln t.Cols)), (6, .slice aA (List.length (List.replicate (Int.toNat (wr ((wr ((ln t.Rows) + (ln t.Cols))) + 2))) (([] : List Int)))) aB), (8, sl aY aW aZ), (9, sl aT aS aU), (64, sl a t.Rows c), (65, I (ln t.Rows)), (66, I aF), (82, sl b0 bD b1), (83, I aF), (89, I (wr (aO - bE)))] (by exact hK) fun ρ => ?_
  refine AP_tail 13 [[], [], [], [1, 2], [0, 1, 2, 3], [0, 1, 2, 3, 4], [], [], [], [], [8, 9], [8, 9, 10], [7, 8, 9, 10, 11], [0, 1, 2, 3, 4, 5, 6, 7, 8, 9, 10, 11, 12], [0, 1, 2, 3, 4, 5, 6, 7, 8, 9, 10, 11, 12, 13]] (by kernel_rfl) ?_
  obtain ⟨hL, hM, H⟩ := H
  refine LP_indexw (v := sl b0 bD b1) 13 rfl rfl rfl Try.underlying22 ti_3 rfl rfl hC hL hM fun kI hN => (LP_set 14 rfl rfl rfl rfl rfl hN (Le.refl emp) ⟨_, rfl, rfl⟩ (hB.ext cV) fun hO kJ hP hQ eF hR => ?_)
  obtain ⟨kK, hS, hT⟩ := BwL.turn bR (OS.od hP) (Dom.of hR)
  have hU := BwL.sub bR (cU.ext cV) hQ eF
  have hV := BwL.but bR eF
  refine Ln _ rfl (Wg (Lv ok 0 [(91, I (wr (aF + 1))), (66, I (wr (aF + 1)))] 2 rfl rfl (Ln _ rfl ?_)))
  have eG := (cT.trans cV)
  have eH : DomLe aI cM.heap.size aM := (Mt (Oe (Or _) _) aN (Nat.le_refl _))
  exact ⟨(List.set cP (Int.toNat (wr ((ln t.Rows) + (ln t.Cols)))) (List.set bD (Int.toNat aF) (wr (aO - bE))), wr (aF + 1)), ⟨H.1, _, (un hO g8), Ee ⟨rfl, rfl, rfl, rfl, rfl, rfl, rfl, rfl, rfl, trivial⟩, ((((Br aI _).step X211 (Oe (Or _) _)).stepx eG).step hV eH), hS, hU, (Mt eH ((fun n => Oe hT n) _) (Nat.le_trans X211.size eG.size))⟩, H.2⟩
 have H := H.2 cR
 refine W_exit ?_
 refine (if_pos rfl).mpr ?_
 refine Wq (Wq (Wg (Lv ok 0 [(92, .pointer (some ⟨b, 1, none⟩))] 1 rfl rfl ?_)))
 have eI := (Mj aJ dZ (dY.ext aG))
 have cW := (cO.but X211 eI)
 refine Lb 1 (v := sl aQ t.Cols aR) rfl rfl rfl ti_22 ag_22 (fun _ => rfl) rfl cW rfl rfl (Lv ok 2 [(94, I (ln t.Cols)), (95, I 0)] 4 rfl rfl (Ln _ rfl (W_block ?_)))
 obtain ⟨J322, hW, Hx324, H⟩ := H
 refine W_loop (S := (List (List Int)) × Int) (fun s ρ' w' => J322 s.1 s.2 ∧ ∃ (ρ : Env) (bS : PH), ρ' = setAll [(1, pb b), (3, I (ln t.Rows)), (4, I (ln t.Cols)), (6, .slice aA (List.length (List.replicate (Int.toNat (wr ((wr ((ln t.Rows) + (ln t.Cols))) + 2))) (([] : List Int)))) aB), (9, sl aT aS aU), (93, sl aQ t.Cols aR), (94, I (ln t.Cols)), (95, I s.2)] ρ ∧ But aM cQ w' ∧ OD bS (.slice aA (List.length (List.replicate (Int.toNat (wr ((wr ((ln t.Rows) + (ln t.Cols))) + 2))) (([] : List Int)))) aB) s.1 ∧ Sub bS w' ∧ DomLe aM cQ.heap.size bS) (fun s => hW s.1 s.2) (cP, 0) ⟨Hx324, _, aM, Ee ⟨rfl, rfl, rfl, rfl, rfl, rfl, rfl, rfl, trivial⟩, (Br _ _), d5, d6, (Oe (Or _) _)⟩ ?_
 rintro ⟨eJ, aD⟩ _ hX ⟨Hi, ρ, bS, rfl, X321, eK, eL, a9⟩
 have H := H eJ aD Hi
 refine Wq (Wg (Lv ok 0 [(96, .bool (decide (aD < (ln t.Cols))))] 1 rfl rfl (Ln _ rfl (Wq ?_))))
 refine Wc (decide (aD < (ln t.Cols))) rfl (fun cX => ?_) (fun cX => ?_)
 ·have H := H.1 cX
  refine Wk (Wq (W_block (Wq (Wg (Lv ok 0 [(97, I aD)] 1 rfl rfl ?_)))))
  obtain ⟨aP, hY, hZ, H⟩ := H
  refine Li 1 rfl rfl rfl Try.underlying22 ti_3 rfl rfl bU hY hZ fun kL kM h0 h1 => ?_
  have eM := (bL.ext aH)
  have cY := (Df eM aE).symm
  have b2 := ((((a7.trans aV).trans aX).trans a0).trans a1)
  have eN := (eM.ext aG)
  have eO := (Mj aJ cY eN)
  refine Lo 2 rfl rfl rfl ti_3 ag_3 rfl h0 h1 (((((bL.ext a8).but X53 cY).ext b2).but X211 eO).but X321 (Mj aN eO ((eN.but X53 cY).ext b2))) fun kN h2 => ?_
  obtain rfl := h2.int
  refine Lv ok 3 [(12, I aD), (13, I aP)] 5 rfl rfl (Ln _ rfl (Wq (Wq (Wg (Lv ok 0 [(100, I aP), (101, sl aT aS aU), (102, I aD)] 3 rfl rfl ?_)))))
  obtain ⟨eP, h3, h4, H⟩ := H
  refine Li 3 rfl rfl rfl Try.underlying22 ti_3 rfl rfl cN.readf h3 h4 fun kO kP h5 h6 => ?_
  have eQ := (Df (bN.ext (((a7.trans aV).trans aX).trans a0)) gQ)
  have eR := ((d4.but X211 eQ).but X321 (Mj aN eQ d4))
  refine Lo 4 rfl rfl rfl ti_3 ag_3 rfl h5 h6 eR fun kQ h7 => ?_
  obtain rfl := h7.int
  refine Lv ok 5 [(105, .bool (decide (aP < eP)))] 6 rfl rfl (Ln _ rfl ?_)
  refine Wc (decide (aP < eP)) rfl (fun cZ => ?_) (fun cZ => ?_)
  ·have H := H.1 cZ
   refine Wq (Wg (Lv ok 0 [(2, .slice none 0 0)] 1 rfl rfl (Ln _ rfl (W_ret ?_))))
   have X362 := (X.stepx (xc.trans aH))
   have eS := aE.mono X362.size
   have h8 := aE.mono X362.size
   have X365 := (X362.stepx aG)
   have h9 := DomLe.fresh aJ h8 X365.size
   have iA := aE.mono X362.size
   have iB := DomLe.fresh aJ iA X365.size
   have iC := DomLe.fresh aN iB ((X365.step X53 (eS.dom _)).stepx b2).size
   exact ⟨_, Ret_of [.slice none 0 0] ⟨⟨rfl, rfl⟩, trivial⟩, _, _, emp, H, rfl, (((((X.stepx (((x.trans bK).trans aH).trans aG)).step X53 (eS.dom _)).stepx b2).step X211 (h9.dom _)).step X321 (iC.dom _)).ext, OD.nil, (emp_sub _), (emp_fresh _), CanV.nil⟩
  have H := H.2 cZ
  refine Wk ?_
  refine W_open mix fun kR c0 => ?_
  refine AP_game 16 [[], [], [], [1, 2], [0, 1, 2, 3], [0, 1, 2, 3, 4], [], [], [6, 7], [6, 7, 8], [], [], [], [11, 12], [11, 12, 13], [10, 11, 12, 13, 14], [0, 1, 2, 3, 4, 5, 6, 7, 8, 9, 10, 11, 12, 13, 14, 15], [0, 1, 2, 3, 4, 5, 6, 7, 8, 9, 10, 11, 12, 13, 14, 15, 16]] [[(6, none)], [(3, none)], [(12, none)], [(107, some 1), (108, some 2)], [(106, some 0), (109, some 3)], [(110, some 4)], [(3, none)], [(4, none)], [(112, some 6), (113, some 7)], [(114, some 8)], [(13, none)], [(9, none)], [(12, none)], [(117, some 11), (118, some 12)], [(119, some 13)], [(116, some 10), (120, some 14)]] [(1, none), (3, none), (4, none), (6, none), (9, none), (93, none), (94, none), (95, none), (111, some 5), (115, some 9), (121, some 15)] [(0, false), (1, false), (2, false), (3, false), (4, false), (5, false), (6, false), (7, false), (8, false), (9, false), (10, false), (11, false), (12, false), (13, false), (14, false), (15, false)] (by kernel_rfl) (by kernel_rfl) ?_
  refine GS_ev ok [(6, .slice aA (List.length (List.replicate (Int.toNat (wr ((wr ((ln t.Rows) + (ln t.Cols))) + 2))) (([] : List Int)))) aB)] (.slice aA (List.length (List.replicate (Int.toNat (wr ((wr ((ln t.Rows) + (ln t.Cols))) + 2))) (([] : List Int)))) aB) rfl rfl (fun _ h => h) (fun _ => rfl) ?_
  refine GS_ev ok [(3, I (ln t.Rows))] (I (ln t.Rows)) rfl rfl (fun _ h => h) (fun _ => rfl) ?_
  refine GS_ev ok [(12, I aD)] (I aD) rfl rfl (fun _ h => h) (fun _ => rfl) ?_
  refine GS_ev ok [(107, I (ln t.Rows)), (108, I aD)] (I (wr ((ln t.Rows) + aD))) rfl rfl (fun _ h => h) (fun _ => rfl) ?_
  obtain ⟨bF, iD, iE, H⟩ := H
  obtain ⟨eT, kS, iF, iG, iH, iI, bT⟩ := run_indexb Try.underlying23 ti_22 eK _ iD iE
  refine GS_r0 [(106, .slice aA (List.length (List.replicate (Int.toNat (wr ((wr ((ln t.Rows) + (ln t.Cols))) + 2))) (([] : List Int)))) aB), (109, I (wr ((ln t.Rows) + aD)))] (.pointer (some eT)) rfl rfl (fun _ h => h) (fun _ _ => ex_index rfl rfl rfl (iH _)) ?_
  have eU := bT.od
  obtain ⟨b3, b4, rfl⟩ := eU.shape
  have c1 := (eL.ext c0)
  have iJ := Sub.le c1 bT.le
  have iK : OS 3 iF emp (sl b3 bF b4) bF := OD.flat eU
  refine GS_r1 [(110, .pointer (some eT))] (sl b3 bF b4) rfl rfl (fun _ h => h) (fun _ w e => ex_ldcell rfl ti_22 ag_22 rfl iI e) c1 ?_
  refine GS_ev ok [(3, I (ln t.Rows))] (I (ln t.Rows)) rfl rfl (fun _ h => h) (fun _ => rfl) ?_
  refine GS_ev ok [(4, I (ln t.Cols))] (I (ln t.Cols)) rfl rfl (fun _ h => h) (fun _ => rfl) ?_
  refine GS_ev ok [(112, I (ln t.Rows)), (113, I (ln t.Cols))] (I (wr ((ln t.Rows) + (ln t.Cols)))) rfl rfl (fun _ h => h) (fun _ => rfl) ?_
  refine GS_ev ok [(114, I (wr ((ln t.Rows) + (ln t.Cols))))] (I (wr ((wr ((ln t.Rows) + (ln t.Cols))) + 1))) rfl rfl (fun _ h => h) (fun _ => rfl) ?_
  refine GS_ev ok [(13, I aP)] (I aP) rfl rfl (fun _ h => h) (fun _ => rfl) ?_
  refine GS_ev ok [(9, sl aT aS aU)] (sl aT aS aU) rfl rfl (fun _ h => h) (fun _ => rfl) ?_
  refine GS_ev ok [(12, I aD)] (I aD) rfl rfl (fun _ h => h) (fun _ => rfl) ?_
  obtain ⟨bG, iL, iM, H⟩ := H
  obtain ⟨eV, kT, iN, iO, iP⟩ := run_indexAt Try.underlying22 ti_3 cN.readf .i64 _ bG iL iM
  refine GS_r0 [(117, sl aT aS aU), (118, I aD)] (.pointer (some eV)) rfl rfl (fun _ h => h) (fun _ _ => ex_index rfl rfl rfl (iN _)) ?_
  obtain ⟨kU, iQ, iR⟩ := run_loadAt ti_3 ag_3 iO iP
  obtain rfl := iR.int
  refine GS_r1 [(119, .pointer (some eV))] (I bG) rfl rfl (fun _ h => h) (fun _ w e => ex_load rfl rfl (iQ w e)) (eR.ext c0) ?_
  refine GS_ev ok [(116, I aP), (120, I bG)] (I (wr (aP - bG))) rfl rfl (fun _ h => h) (fun _ => rfl) ?_
  intro kV c2 ρ iS
  refine AP_forget [(1, pb b), (3, I (ln t.Rows)), (4, I (ln t.Cols)), (6, .slice aA (List.length (List.replicate (Int.toNat (wr ((wr ((ln t.Rows) + (ln t.Cols))) + 2))) (([] : List Int)))) aB), (9, sl aT aS aU), (93, sl aQ t.Cols aR), (94, I (ln t.Cols)), (95, I aD), (111, sl b3 bF b4), (115, I (wr ((wr ((ln t.Rows) + (ln t.Cols))) + 1))), (121, I (wr (aP - bG)))] (by exact iS) fun ρ => ?_
  refine AP_tail 16 [[], [], [], [1, 2], [0, 1, 2, 3], [0, 1, 2, 3, 4], [], [], [6, 7], [6, 7, 8], [], [], [], [11, 12], [11, 12, 13], [10, 11, 12, 13, 14], [0, 1, 2, 3, 4, 5, 6, 7, 8, 9, 10, 11, 12, 13, 14, 15], [0, 1, 2, 3, 4, 5, 6, 7, 8, 9, 10, 11, 12, 13, 14, 15, 16]] (by kernel_rfl) ?_
  obtain ⟨iT, iU, H⟩ := H
  refine LP_indexw (v := sl b3 bF b4) 16 rfl rfl rfl Try.underlying22 ti_3 rfl rfl iK iT iU fun kW iV => (LP_set 17 rfl rfl rfl rfl rfl iV (Le.refl emp) ⟨_, rfl, rfl⟩ (iJ.ext c2) fun iW kX iX iY eW iZ => ?_)
  obtain ⟨kY, i0, i1⟩ := BwL.turn bT (OS.od iX) (Dom.of iZ)
  have i2 := BwL.sub bT (c1.ext c2) iY eW
  have i3 := BwL.but bT eW
  refine Ln _ rfl (Wg (Lv ok 0 [(123, I (wr (aD + 1))), (95, I (wr (aD + 1)))] 2 rfl rfl (Ln _ rfl ?_)))
  have eX := (c0.trans c2)
  have eY : DomLe aM cQ.heap.size bS := (Mt (Oe (Or _) _) a9 (Nat.le_refl _))
  exact ⟨(List.set eJ (Int.toNat (wr ((ln t.Rows) + aD))) (List.set bF (Int.toNat (wr ((wr ((ln t.Rows) + (ln t.Cols))) + 1))) (wr (aP - bG))), wr (aD + 1)), ⟨H.1, _, (un iW iG), Ee ⟨rfl, rfl, rfl, rfl, rfl, rfl, rfl, rfl, trivial⟩, ((((Br aM _).step X321 (Oe (Or _) _)).stepx eX).step i3 eY), i0, i2, (Mt eY ((fun n => Oe i1 n) _) (Nat.le_trans X321.size eX.size))⟩, H.2⟩
 have H := H.2 cX
 refine W_exit ?_
 refine (if_pos rfl).mpr ?_
 refine Wq (Wg (Lv ok 0 [(124, .slice aA (List.length (List.replicate (Int.toNat (wr ((wr ((ln t.Rows) + (ln t.Cols))) + 2))) (([] : List Int)))) aB), (125, I (ln t.Rows)), (126, I (ln t.Cols)), (127, I (wr ((ln t.Rows) + (ln t.Cols)))), (128, I (ln t.Rows)), (129, I (ln t.Cols)), (130, I (wr ((ln t.Rows) + (ln t.Cols)))), (131, I (wr ((wr ((ln t.Rows) + (ln t.Cols))) + 1))), (132, pb b)] 9 rfl rfl ?_))
 have eZ := (Mj aN eI cO)
 have e0 := (cW.but X321 eZ)
 refine Lb 9 (v := sl a t.Rows c) rfl rfl rfl ti_22 ag_22 (fun _ => rfl) rfl e0 rfl rfl ?_
 have e1 := (bB.ext aH)
 have c3 := (Df e1 aE).symm
 have a2 := ((((a7.trans aV).trans aX).trans a0).trans a1)
 have e2 := (e1.ext aG)
 have c4 := (Mj aJ c3 e2)
 have e3 := ((e2.but X53 c3).ext a2)
 have e4 := (Mj aN c4 e3)
 have e5 := (((((bB.ext a8).but X53 c3).ext a2).but X211 c4).but X321 e4)
 refine Lc 10 rfl rfl rfl cal_64 rfl (impl_total_w _ _ H hX r e5) ?_
 rintro _ i4 ⟨kZ, H, rfl, bA⟩
 refine Lc 11 rfl rfl rfl cal_90 rfl (impl_push_w _ _ _ _ _ H i4 eK (eL.ext bA)) ?_
 rintro _ i5 ⟨k0, k1, k2, H, rfl, bH, i6, i7, k3⟩
 refine Ln _ rfl (Wq (Wg ?_))
 have e6 := ((e0.ext bA).but bH (Mj a9 eZ cW))
 refine Lb 0 (v := .agg #[sl a t.Rows c, sl aQ t.Cols aR, sl aK t.Lo aL, sl bI t.Hi bJ]) rfl rfl rfl ti_29 ag_29 (fun h => by cases h) rfl e6 rfl rfl (Lv ok 1 [(137, .pointer (some ⟨b, 2, none⟩))] 2 rfl rfl (Lb 2 (v := sl aK t.Lo aL) rfl rfl rfl ti_23 ag_23 (fun _ => rfl) rfl e6 rfl rfl (Lv ok 3 [(139, .slice aA (List.length (List.replicate (Int.toNat (wr ((wr ((ln t.Rows) + (ln t.Cols))) + 2))) (([] : List Int)))) aB)] 4 rfl rfl ?_)))
 have e7 := (bL.ext aH)
 have c5 := (Df e7 aE).symm
 have e8 := (e7.ext aG)
 have c6 := (Mj aJ c5 e8)
 have e9 := ((e8.but X53 c5).ext a2)
 have fA := (Mj aN c6 e9)
 have c7 := (Mj aJ d1 (d0.ext aG))
 have fB := (cL.ext a1)
 have fC := (Mj aN c7 fB)
 have fD := (((((cL.ext a1).but X211 c7).but X321 fC).ext bA).but bH (Mj a9 fC (fB.but X211 c7)))
 have fE := (cA.ext aH)
 have c8 := (Df fE aE).symm
 have fF := (fE.ext aG)
 have c9 := (Mj aJ c8 fF)
 have fG := ((fF.but X53 c8).ext a2)
 have fH := (Mj aN c9 fG)
 refine Lc 4 rfl rfl rfl cal_91 rfl (impl_restore_w _ _ _ _ _ H i5 r ((e5.ext bA).but bH (Mj a9 e4 (e3.but X211 c4))) bU (((((((bL.ext a8).but X53 c5).ext a2).but X211 c6).but X321 fA).ext bA).but bH (Mj a9 fA (e9.but X211 c6))) a3 fD b5 (((((((cA.ext a8).but X53 c8).ext a2).but X211 c9).but X321 fH).ext bA).but bH (Mj a9 fH (fG.but X211 c9))) a3 fD i6.readf i7) ?_
 rintro _ k4 ⟨fI, k5, k6, H, rfl, i9, fJ, jA, jB, cn⟩
 obtain ⟨fK, fL, rfl⟩ := fJ.shape
 refine Lv ok 5 [(2, sl fK fI fL)] 6 rfl rfl (Ln _ rfl (W_ret ?_))
 have X491 := (X.stepx (xc.trans aH))
 have fM := aE.mono X491.size
 have jC := aE.mono X491.size
 have X494 := (X491.stepx aG)
 have fN := DomLe.fresh aJ jC X494.size
 have jD := aE.mono X491.size
 have jE := DomLe.fresh aJ jD X494.size
 have X498 := ((X494.step X53 (fM.dom _)).stepx a2)
 have fO := DomLe.fresh aN jE X498.size
 have jF := DomLe.fresh a9 fO (X498.step X211 (fN.dom _)).size
 have X501 := (((((((X.stepx (((x.trans bK).trans aH).trans aG)).step X53 (fM.dom _)).stepx a2).step X211 (fN.dom _)).step X321 (fO.dom _)).stepx bA).step bH (jF.dom _))
 have jG := jB.mono X501.size
 exact ⟨_, Ret_of [sl fK fI fL] ⟨⟨rfl, rfl⟩, trivial⟩, _, _, _, H, rfl, (X501.stepx i9).ext, fJ, jA, jG, cn⟩

theorem slices_Equal_int_int_w (sx : List Int) (aA : List Int) (Q : Bool → Prop) (H : slices_Equal_int_int sx aA Q) (w : World) {vx : Value} {hx : PH} (r : RS hx vx sx) (ex : Sub hx w) {aF : Value} {aG : PH} (aH : RS aG aF aA) (aM : Sub aG w) :
  CallsTo Try.prog 88 #[vx, aF] w fun v w' => ∃ aI, Q aI ∧ v = .bool aI ∧ Ext w w' := by
 obtain ⟨a, c, rfl⟩ := r.shape
 obtain ⟨aB, aC, rfl⟩ := aH.shape
 refine enter (args := [sl a sx c, sl aB aA aC]) 26 Try.func88 rfl rfl rfl ?_
 refine Wo [(0, sl a sx c), (1, sl aB aA aC)] ⟨rfl, rfl, trivial⟩ fun ρ => ?_
 have X := Br emp w
 refine Wq (Wg (Lv ok 0 [(4, .bool false)] 1 rfl rfl (Ln _ rfl (Wq (Wq (Wg (Lv ok 0 [(6, sl a sx c), (7, I (ln sx)), (8, sl aB aA aC), (9, I (ln aA)), (10, .bool ((ln sx) != (ln aA)))] 5 rfl rfl (Ln _ rfl ?_))))))))
 refine Wc ((ln sx) != (ln aA)) rfl (fun hc => ?_) (fun hc => ?_)
 ·have H := H.1 hc
  refine Wq (Wg (Lv ok 0 [(4, .bool false)] 1 rfl rfl (Ln _ rfl (W_ret ?_))))
  exact ⟨_, Ret_of [.bool false] ⟨⟨rfl, rfl⟩, trivial⟩, _, H, rfl, X.ext⟩
 have H := H.2 hc
 refine Wk (Wq (Wq (Wg (Lv ok 0 [(11, sl a sx c), (12, I (ln sx)), (13, I 0)] 3 rfl rfl (Ln _ rfl (W_block ?_))))))
 obtain ⟨J, m, Hx, H⟩ := H
 refine W_loop (S := Int) (fun s ρ' w' => J s ∧ ∃ (ρ : Env), ρ' = setAll [(0, sl a sx c), (1, sl aB aA aC), (12, I (ln sx)), (13, I s)] ρ ∧ Ext w w') (fun s => m s) 0 ⟨Hx, _, Ee ⟨rfl, rfl, rfl, rfl, trivial⟩, (Ext.refl _)⟩ ?_
 rintro x _ wx ⟨Hi, ρ, rfl, X8⟩
 have H := H x Hi
 refine Wq (Wg (Lv ok 0 [(14, .bool (decide (x < (ln sx))))] 1 rfl rfl (Ln _ rfl (Wq ?_))))
 refine Wc (decide (x < (ln sx))) rfl (fun aD => ?_) (fun aD => ?_)
 ·have H := H.1 aD
  refine Wk (Wq (W_block (Wq (Wg (Lv ok 0 [(15, I x), (5, I x)] 2 rfl rfl (Ln _ rfl (Wq ?_)))))))
  refine W_quiet mix (by kernel_rfl) ?_
  refine QP_ev ok 0 [(16, sl a sx c), (17, I x)] 2 rfl rfl ?_
  obtain ⟨aJ, hi, aN, H⟩ := H
  refine QP_index 2 rfl rfl rfl Try.underlying22 ti_3 rfl rfl r hi aN fun aV cs aO d => ?_
  refine QP_load 3 rfl rfl rfl ti_3 ag_3 rfl aO d (ex.ext X8) fun aW aP => ?_
  obtain rfl := aP.int
  refine QP_ev ok 4 [(20, sl aB aA aC), (21, I x)] 6 rfl rfl ?_
  obtain ⟨aK, aQ, aR, H⟩ := H
  refine QP_index 6 rfl rfl rfl Try.underlying22 ti_3 rfl rfl aH aQ aR fun aX aY aS aT => ?_
  refine QP_load 7 rfl rfl rfl ti_3 ag_3 rfl aS aT (aM.ext X8) fun aZ aU => ?_
  obtain rfl := aU.int
  refine QP_ev ok 8 [(24, .bool (aJ != aK))] 9 rfl rfl ?_
  refine QP_end _ rfl fun a0 aL => ?_
  refine Wc (aJ != aK) rfl (fun aE => ?_) (fun aE => ?_)
  ·have H := H.1 aE
   refine Wq (Wg (Lv ok 0 [(4, .bool false)] 1 rfl rfl (Ln _ rfl (W_ret ?_))))
   exact ⟨_, Ret_of [.bool false] ⟨⟨rfl, rfl⟩, trivial⟩, _, H, rfl, (X.stepx (X8.trans aL)).ext⟩
  have H := H.2 aE
  refine Wk (Wg (Lv ok 0 [(25, I (wr (x + 1))), (13, I (wr (x + 1)))] 2 rfl rfl ?_))
  exact Ln _ rfl ⟨wr (x + 1), ⟨H.1, _, Ee ⟨rfl, rfl, rfl, rfl, trivial⟩, (X8.trans aL)⟩, H.2⟩
 have H := H.2 aD
 refine W_exit ?_
 refine (if_pos rfl).mpr ?_
 refine Wq (Wg (Lv ok 0 [(4, .bool true)] 1 rfl rfl (Ln _ rfl (W_ret ?_))))
 exact ⟨_, Ret_of [.bool true] ⟨⟨rfl, rfl⟩, trivial⟩, _, H, rfl, (X.stepx X8).ext⟩

theorem impl_anyFlow_w (t : Transport) (Q : (List (List Int)) → Prop) (H : impl_anyFlow t Q) (w : World) {vx : Value} {hx : PH} (r : RS hx vx t.Rows) (ex : Sub hx w) {aW : Value} {aX : PH} (aM : RS aX aW t.Cols) (bJ : Sub aX w) {aY : Value} {aZ : PH} (a0 : RS aZ aY t.Lo) (bK : Sub aZ w) {a1 : Value} {a2 : PH} (a3 : RS a2 a1 t.Hi) (bL : Sub a2 w) :
  CallsTo Try.prog 54 #[.agg #[vx, aW, aY, a1]] w fun v w' => ∃ aN aO aP, Q aN ∧ v = aO ∧ Ext w w' ∧ OD aP aO aN ∧ Sub aP w' ∧ Fresh w.heap.size aP ∧ CanV aO aN := by
 obtain ⟨a, c, rfl⟩ := r.shape
 obtain ⟨aE, aF, rfl⟩ := aM.shape
 obtain ⟨aH, aI, rfl⟩ := a0.shape
 obtain ⟨aJ, aK, rfl⟩ := a3.shape
 refine enter (args := [.agg #[sl a t.Rows c, sl aE t.Cols aF, sl aH t.Lo aI, sl aJ t.Hi aK]]) 24 Try.func54 rfl rfl rfl ?_
 refine Wo [(0, .agg #[sl a t.Rows c, sl aE t.Cols aF, sl aH t.Lo aI, sl aJ t.Hi aK])] ⟨rfl, trivial⟩ fun ρ => ?_
 have X := Br emp w
 refine Wq (Wg (Ly 0 (cs := [sl a t.Rows c, sl aE t.Cols aF, sl aH t.Lo aI, sl aJ t.Hi aK]) rfl rfl rfl rfl rfl fun b wx x aQ f => (Lv ok 1 [(2, .slice none 0 0)] 2 rfl rfl (Ln _ rfl (Wq (Wq ?_))))))
 refine W_quiet mix (by kernel_rfl) ?_
 refine QP_ev ok 0 [(4, pb b)] 1 rfl rfl ?_
 refine QP_ldbox 1 (v := sl a t.Rows c) rfl rfl rfl ti_22 ag_22 (fun _ => rfl) rfl aQ rfl rfl ?_
 obtain ⟨aR, Hd, H⟩ := H
 have a4 := (ex.ext x)
 refine QP_call (I aR) 2 rfl rfl rfl cal_64 rfl (fun bM bN => (impl_total_w _ _ Hd bM r (a4.ext bN)).mono ?_) ?_
 ·rintro _ _ ⟨_, rfl, rfl, x⟩; exact ⟨rfl, x⟩
 refine QP_ev ok 3 [(7, .pointer (some ⟨b, 1, none⟩))] 4 rfl rfl ?_
 refine QP_ldbox 4 (v := sl aE t.Cols aF) rfl rfl rfl ti_22 ag_22 (fun _ => rfl) rfl aQ rfl rfl ?_
 obtain ⟨aS, Hd25, H⟩ := H
 have a5 := (bJ.ext x)
 refine QP_call (I aS) 5 rfl rfl rfl cal_64 rfl (fun bO bP => (impl_total_w _ _ Hd25 bO aM (a5.ext bP)).mono ?_) ?_
 ·rintro _ _ ⟨_, rfl, rfl, x⟩; exact ⟨rfl, x⟩
 refine QP_ev ok 6 [(10, .bool (aR != aS))] 7 rfl rfl ?_
 refine QP_end _ rfl fun bQ aG => ?_
 refine Wc (aR != aS) rfl (fun hc => ?_) (fun hc => ?_)
 ·have H := H.1 hc
  refine Wq (Wg (Lv ok 0 [(2, .slice none 0 0)] 1 rfl rfl (Ln _ rfl (W_ret ?_))))
  exact ⟨_, Ret_of [.slice none 0 0] ⟨⟨rfl, rfl⟩, trivial⟩, _, _, emp, H, rfl, (X.stepx (x.trans aG)).ext, OD.nil, (emp_sub _), (emp_fresh _), CanV.nil⟩
 have H := H.2 hc
 refine Wk (Wq (Wg ?_))
 have a6 := (aQ.ext aG)
 refine Lb 0 (v := .agg #[sl a t.Rows c, sl aE t.Cols aF, sl aH t.Lo aI, sl aJ t.Hi aK]) rfl rfl rfl ti_29 ag_29 (fun h => by cases h) rfl a6 rfl rfl ?_
 have a7 := (a4.ext aG)
 have aL := (x.trans aG)
 refine Lc 1 rfl rfl rfl cal_63 rfl (impl_fill_w _ _ H bQ r a7 aM (a5.ext aG) a0 (bK.ext aL) a3 (bL.ext aL)) ?_
 rintro _ bR ⟨aA, b1, b2, H, rfl, aT, o, a8, bS, cn⟩
 obtain ⟨aB, aC, rfl⟩ := o.shape
 refine Lv ok 2 [(3, sl aB aA aC)] 3 rfl rfl (Ln _ rfl (Wq ?_))
 have X48 := (X.stepx (aL.trans aT))
 have bT := bS.mono (X.stepx aL).size
 obtain ⟨k, hk, H⟩ := jn_elim H
 refine W_join2 (S := Bool) (fun s ρ' w' => k s ∧ ∃ (ρ : Env), ρ' = setAll [(3, sl aB aA aC), (22, .bool s)] ρ ∧ Ext bR w') ?_ ?_
 ·refine W_open mix fun b3 aU => ?_
  refine AP_game 10 [[], [0], [0, 1], [0, 1, 2], [0, 1, 2, 3], [0, 1, 2], [0, 1, 2, 5], [0, 1, 2, 3, 4, 5, 6], [0, 1, 2, 3, 4, 5, 6, 7], [0, 1, 2, 3, 4, 5, 6, 7, 8]] [[(3, none)], [(13, some 0)], [(14, some 1)], [(3, none)], [(16, some 3)], [(1, none)], [(18, some 5)], [(17, some 4), (19, some 6)], [(20, some 7)], [(15, some 2), (21, some 8)]] [(3, none), (22, some 9)] [(0, false), (1, false), (2, false), (3, false), (5, false), (6, false), (4, true), (7, false), (8, false), (9, false)] (by kernel_rfl) (by kernel_rfl) ?_
  refine GS_ev ok [(3, sl aB aA aC)] (sl aB aA aC) rfl rfl (fun _ h => h) (fun _ => rfl) ?_
  refine GS_r0 [(13, sl aB aA aC)] (.bool (ln aA == 0)) rfl rfl (fun _ h => h) (fun _ _ => ex_eqnilc rfl Try.underlying23 rfl rfl (cn _ _ _ rfl) _) ?_
  refine GS_ev ok [(14, .bool (ln aA == 0))] (.bool (ln aA == 0)) rfl rfl (fun _ h => h) (fun _ => rfl) ?_
  generalize a9 : (ln aA == 0) = gb
  cases gb
  ·have H := H.2 a9
   refine GS_ev ok [(3, sl aB aA aC)] (sl aB aA aC) rfl rfl (fun _ h => h) (fun _ => rfl) ?_
   refine GS_ev ok [(1, pb b)] (pb b) rfl rfl (fun _ h => h) (fun _ => rfl) ?_
   have bA := ((a6.ext aT).ext aU)
   refine GS_r1 [(18, pb b)] (sl a t.Rows c) rfl rfl (fun _ h => h) (fun _ w e => ex_ldbox rfl ti_22 ag_22 (fun _ => rfl) rfl e rfl rfl) bA ?_
   refine GS_lp [(16, sl aB aA aC)] rfl rfl (fun _ h => h) rfl fun ρ bU bB => ?_
   have bC := (aU.trans bB)
   refine Lc 0 rfl rfl rfl cal_65 rfl (impl_rowSums_w _ _ H bU o.readf (a8.ext bC)) ?_
   rintro _ b4 ⟨bD, b5, bV, H, rfl, bE, bF, bW, b6⟩
   obtain ⟨bG, bH, rfl⟩ := bF.shape
   refine LP_gs ⟨⟨.inr (bA.ext (bB.trans bE)), trivial⟩, ?_⟩
   obtain ⟨aD, Hd81, H⟩ := H
   have bI := (bC.trans bE)
   refine GS_q [(17, sl bG bD bH), (19, sl a t.Rows c)] (.bool aD) [bV, hx] [sl bG bD bH, sl a t.Rows c] rfl rfl (fun _ h => h) rfl cal_88 (fun _ => rfl) (fun w e => (slices_Equal_int_int_w _ _ _ Hd81 w bF.readf e.1 r e.2.1).mono (fun _ _ h => by obtain ⟨_, rfl, rfl, x⟩ := h; exact ⟨rfl, x⟩)) ⟨bW, ((a7.ext aT).ext bI), trivial⟩ ?_
   refine GS_ev ok [(20, .bool aD)] (.bool (!aD)) rfl rfl (fun _ h => h) (fun _ => rfl) ?_
   refine GS_ev ok [(15, .bool false), (21, .bool (!aD))] (.bool (!aD)) rfl rfl (fun _ h => h) (fun _ => rfl) ?_
   intro b7 bX ρ hn
   refine AP_forget [(3, sl aB aA aC), (22, .bool (!aD))] (by exact hn) fun ρ => ?_
   refine AP_end rfl ?_
   exact ⟨!aD, H, _, Ee ⟨rfl, rfl, trivial⟩, (bI.trans bX)⟩
  have H := H.1 a9
  refine GS_off rfl rfl ?_
  refine GS_off rfl rfl ?_
  refine GS_off rfl rfl ?_
  refine GS_off rfl rfl ?_
  refine GS_off rfl rfl ?_
  refine GS_off rfl rfl ?_
  refine GS_ev ok [(15, .bool true), (21, undef)] (.bool true) rfl rfl (fun _ h => h) (fun _ => rfl) ?_
  intro b8 bY ρ bZ
  refine AP_forget [(3, sl aB aA aC), (22, .bool true)] (by exact bZ) fun ρ => ?_
  refine AP_end rfl ?_
  exact ⟨true, H, _, Ee ⟨rfl, rfl, trivial⟩, (aU.trans bY)⟩
 rintro b0 _ b9 ⟨H, ρ, rfl, X59⟩
 subst hk
 refine Wc (b0) rfl (fun aV => ?_) (fun aV => ?_)
 ·have H := H.1 aV
  refine Wq (Wg (Lv ok 0 [(2, .slice none 0 0)] 1 rfl rfl (Ln _ rfl (W_ret ?_))))
  exact ⟨_, Ret_of [.slice none 0 0] ⟨⟨rfl, rfl⟩, trivial⟩, _, _, emp, H, rfl, (X48.stepx X59).ext, OD.nil, (emp_sub _), (emp_fresh _), CanV.nil⟩
 have H := H.2 aV
 refine Wk (Wq (Wg (Lv ok 0 [(23, sl aB aA aC), (2, sl aB aA aC)] 2 rfl rfl (Ln _ rfl (W_ret ?_)))))
 exact ⟨_, Ret_of [sl aB aA aC] ⟨⟨rfl, rfl⟩, trivial⟩, _, _, _, H, rfl, (X48.stepx X59).ext, o, (a8.ext X59), bT, cn⟩

theorem impl_lowered_w (t : Transport) (x : List (List Int)) (i : Int) (j : Int) (Q : (List (List Int)) → Prop) (H : impl_lowered t x i j Q) (w : World) {vx : Value} {hx : PH} (r : RS hx vx t.Rows) (ex : Sub hx w) {bI : Value} {bJ : PH} (aW : RS bJ bI t.Cols) (cA : Sub bJ w) {bK : Value} {bL : PH} (aT : RS bL bK t.Lo) (cB : Sub bL w) {bM : Value} {bN : PH} (aX : RS bN bM t.Hi) (cC : Sub bN w) {bO : Value} {bP : PH} (aU : RS bP bO x) (cD : Sub bP w) :
  CallsTo Try.prog 102 #[.agg #[vx, bI, bK, bM], bO, I i, I j] w fun v w' => ∃ aY aZ a0, Q aY ∧ v = aZ ∧ Ext w w' ∧ OD a0 aZ aY ∧ Sub a0 w' ∧ Fresh w.heap.size a0 ∧ CanV aZ aY := by
 obtain ⟨a, c, rfl⟩ := r.shape
 obtain ⟨aG, aH, rfl⟩ := aW.shape
 obtain ⟨aC, aD, rfl⟩ := aT.shape
 obtain ⟨aP, aQ, rfl⟩ := aX.shape
 obtain ⟨aA, aB, rfl⟩ := aU.shape
 refine enter (args := [.agg #[sl a t.Rows c, sl aG t.Cols aH, sl aC t.Lo aD, sl aP t.Hi aQ], sl aA x aB, I i, I j]) 66 Try.func102 rfl rfl rfl ?_
 refine Wo [(0, .agg #[sl a t.Rows c, sl aG t.Cols aH, sl aC t.Lo aD, sl aP t.Hi aQ]), (1, sl aA x aB), (2, I i), (3, I j)] ⟨rfl, rfl, rfl, rfl, trivial⟩ fun ρ => ?_
 have X := Br emp w
 refine Wq (Wg (Ly 0 (cs := [sl a t.Rows c, sl aG t.Cols aH, sl aC t.Lo aD, sl aP t.Hi aQ]) rfl rfl rfl rfl rfl fun b wx bQ a1 f => (Lv ok 1 [(8, .slice none 0 0)] 2 rfl rfl (Ln _ rfl (Wq ?_)))))
 refine W_quiet mix (by kernel_rfl) ?_
 refine QP_ev ok 0 [(14, pb b)] 1 rfl rfl ?_
 refine QP_ldbox 1 (v := sl a t.Rows c) rfl rfl rfl ti_22 ag_22 (fun _ => rfl) rfl a1 rfl rfl ?_
 refine QP_ev ok 2 [(16, I (ln t.Rows)), (17, I i), (18, .pointer (some ⟨b, 1, none⟩))] 5 rfl rfl ?_
 refine QP_ldbox 5 (v := sl aG t.Cols aH) rfl rfl rfl ti_22 ag_22 (fun _ => rfl) rfl a1 rfl rfl ?_
 refine QP_ev ok 6 [(20, I (ln t.Cols)), (21, I (wr (i * (ln t.Cols)))), (22, I j), (23, I (wr ((wr (i * (ln t.Cols))) + j))), (9, I (ln t.Rows)), (10, I (wr ((wr (i * (ln t.Cols))) + j)))] 12 rfl rfl ?_
 refine QP_end _ rfl fun cE a2 => ?_
 refine Wq (Wg ?_)
 have a3 := (a1.ext a2)
 refine Lb 0 (v := .agg #[sl a t.Rows c, sl aG t.Cols aH, sl aC t.Lo aD, sl aP t.Hi aQ]) rfl rfl rfl ti_29 ag_29 (fun h => by cases h) rfl a3 rfl rfl (Lv ok 1 [(25, sl aA x aB), (26, I (wr ((wr (i * (ln t.Cols))) + j)))] 3 rfl rfl ?_)
 have xc := (bQ.trans a2)
 have a4 := (ex.ext xc)
 have a5 := (cA.ext xc)
 have a6 := (cB.ext xc)
 have a7 := (cC.ext xc)
 have a8 := (cD.ext xc)
 refine Lc 3 rfl rfl rfl cal_89 rfl (impl_residual_w _ _ _ _ H cE r a4 aW a5 aT a6 aX a7 aU a8) ?_
 rintro _ d0 ⟨aI, d1, d2, H, rfl, bR, o, cF, aE⟩
 obtain ⟨aJ, aK, rfl⟩ := o.shape
 refine Lv ok 4 [(11, sl aJ aI aK)] 5 rfl rfl (Ln _ rfl (Wq ?_))
 refine W_open mix fun d3 a9 => ?_
 refine AP_game 21 [[], [], [], [], [2, 3], [], [], [5, 6], [5, 6, 7], [], [5, 6, 7, 8, 9], [5, 6, 7, 8, 9, 10], [], [12], [], [12, 13, 14], [12, 13, 14, 15], [], [12, 13, 14, 15, 16, 17], [12, 13, 14, 15, 16, 17, 18], [5, 6, 7, 8, 9, 10, 11, 12, 13, 14, 15, 16, 17, 18, 19], [0, 1, 2, 3, 4, 5, 6, 7, 8, 9, 10, 11, 12, 13, 14, 15, 16, 17, 18, 19, 20], [0, 1, 2, 3, 4, 5, 6, 7, 8, 9, 10, 11, 12, 13, 14, 15, 16, 17, 18, 19, 20, 21]] [[(11, none)], [(2, none)], [(9, none)], [(3, none)], [(30, some 2), (31, some 3)], [(1, none)], [(2, none)], [(33, some 5), (34, some 6)], [(35, some 7)], [(3, none)], [(36, some 8), (37, some 9)], [(38, some 10)], [(4, none)], [(40, some 12)], [(2, none)], [(41, some 13), (42, some 14)], [(43, some 15)], [(3, none)], [(44, some 16), (45, some 17)], [(46, some 18)], [(39, some 11), (47, some 19)]] [(1, none), (2, none), (3, none), (4, none), (10, none), (11, none), (28, some 0), (29, some 1), (32, some 4), (48, some 20)] [(0, false), (1, false), (2, false), (3, false), (4, false), (5, false), (6, false), (7, false), (8, false), (9, false), (10, false), (11, false), (12, false), (13, false), (14, false), (15, false), (16, false), (17, false), (18, false), (19, false), (20, false)] (by kernel_rfl) (by kernel_rfl) ?_
 refine GS_ev ok [(11, sl aJ aI aK)] (sl aJ aI aK) rfl rfl (fun _ h => h) (fun _ => rfl) ?_
 refine GS_ev ok [(2, I i)] (I i) rfl rfl (fun _ h => h) (fun _ => rfl) ?_
 refine GS_ev ok [(9, I (ln t.Rows))] (I (ln t.Rows)) rfl rfl (fun _ h => h) (fun _ => rfl) ?_
 refine GS_ev ok [(3, I j)] (I j) rfl rfl (fun _ h => h) (fun _ => rfl) ?_
 refine GS_ev ok [(30, I (ln t.Rows)), (31, I j)] (I (wr ((ln t.Rows) + j))) rfl rfl (fun _ h => h) (fun _ => rfl) ?_
 refine GS_ev ok [(1, sl aA x aB)] (sl aA x aB) rfl rfl (fun _ h => h) (fun _ => rfl) ?_
 refine GS_ev ok [(2, I i)] (I i) rfl rfl (fun _ h => h) (fun _ => rfl) ?_
 obtain ⟨bA, hi, cG, H⟩ := H
 obtain ⟨bS, cs, cH, cI, d⟩ := run_indexAt Try.underlying23 ti_22 aU .i64 _ bA hi cG
 refine GS_r0 [(33, sl aA x aB), (34, I i)] (.pointer (some bS)) rfl rfl (fun _ h => h) (fun _ _ => ex_index rfl rfl rfl (cH _)) ?_
 obtain ⟨d4, cJ, cK⟩ := run_loadAt ti_22 ag_22 cI d
 have bT := cK.slice
 obtain ⟨bU, bV, rfl⟩ := bT.shape
 have aV := (bR.trans a9)
 have bB := (a8.ext aV)
 refine GS_r1 [(35, .pointer (some bS))] (sl bU bA bV) rfl rfl (fun _ h => h) (fun _ w e => ex_load rfl rfl (cJ w e)) bB ?_
 refine GS_ev ok [(3, I j)] (I j) rfl rfl (fun _ h => h) (fun _ => rfl) ?_
 obtain ⟨aR, cL, cM, H⟩ := H
 obtain ⟨bW, d5, cN, cO, cP⟩ := run_indexAt Try.underlying22 ti_3 bT .i64 _ aR cL cM
 refine GS_r0 [(36, sl bU bA bV), (37, I j)] (.pointer (some bW)) rfl rfl (fun _ h => h) (fun _ _ => ex_index rfl rfl rfl (cN _)) ?_
 obtain ⟨d6, cQ, cR⟩ := run_loadAt ti_3 ag_3 cO cP
 obtain rfl := cR.int
 refine GS_r1 [(38, .pointer (some bW))] (I aR) rfl rfl (fun _ h => h) (fun _ w e => ex_load rfl rfl (cQ w e)) bB ?_
 refine GS_ev ok [(4, pb b)] (.pointer (some ⟨b, 2, none⟩)) rfl rfl (fun _ h => h) (fun _ => rfl) ?_
 have bX := (a3.ext aV)
 refine GS_r1 [(40, .pointer (some ⟨b, 2, none⟩))] (sl aC t.Lo aD) rfl rfl (fun _ h => h) (fun _ w e => ex_ldbox rfl ti_23 ag_23 (fun _ => rfl) rfl e rfl rfl) bX ?_
 refine GS_ev ok [(2, I i)] (I i) rfl rfl (fun _ h => h) (fun _ => rfl) ?_
 obtain ⟨bC, cS, cT, H⟩ := H
 obtain ⟨bY, d7, cU, cV, cW⟩ := run_indexAt Try.underlying23 ti_22 aT .i64 _ bC cS cT
 refine GS_r0 [(41, sl aC t.Lo aD), (42, I i)] (.pointer (some bY)) rfl rfl (fun _ h => h) (fun _ _ => ex_index rfl rfl rfl (cU _)) ?_
 obtain ⟨d8, cX, cY⟩ := run_loadAt ti_22 ag_22 cV cW
 have bZ := cY.slice
 obtain ⟨b0, b1, rfl⟩ := bZ.shape
 have bD := (a6.ext aV)
 refine GS_r1 [(43, .pointer (some bY))] (sl b0 bC b1) rfl rfl (fun _ h => h) (fun _ w e => ex_load rfl rfl (cX w e)) bD ?_
 refine GS_ev ok [(3, I j)] (I j) rfl rfl (fun _ h => h) (fun _ => rfl) ?_
 obtain ⟨aS, cZ, c0, H⟩ := H
 obtain ⟨b2, d9, c1, c2, c3⟩ := run_indexAt Try.underlying22 ti_3 bZ .i64 _ aS cZ c0
 refine GS_r0 [(44, sl b0 bC b1), (45, I j)] (.pointer (some b2)) rfl rfl (fun _ h => h) (fun _ _ => ex_index rfl rfl rfl (c1 _)) ?_
 obtain ⟨eA, c4, c5⟩ := run_loadAt ti_3 ag_3 c2 c3
 obtain rfl := c5.int
 refine GS_r1 [(46, .pointer (some b2))] (I aS) rfl rfl (fun _ h => h) (fun _ w e => ex_load rfl rfl (c4 w e)) bD ?_
 refine GS_ev ok [(39, I aR), (47, I aS)] (I (wr (aR - aS))) rfl rfl (fun _ h => h) (fun _ => rfl) ?_
 intro c6 aL ρ hn
 refine AP_forget [(1, sl aA x aB), (2, I i), (3, I j), (4, pb b), (10, I (wr ((wr (i * (ln t.Cols))) + j))), (11, sl aJ aI aK), (28, sl aJ aI aK), (29, I i), (32, I (wr ((ln t.Rows) + j))), (48, I (wr (aR - aS)))] (by exact hn) fun ρ => ?_
 refine AP_tail 21 [[], [], [], [], [2, 3], [], [], [5, 6], [5, 6, 7], [], [5, 6, 7, 8, 9], [5, 6, 7, 8, 9, 10], [], [12], [], [12, 13, 14], [12, 13, 14, 15], [], [12, 13, 14, 15, 16, 17], [12, 13, 14, 15, 16, 17, 18], [5, 6, 7, 8, 9, 10, 11, 12, 13, 14, 15, 16, 17, 18, 19], [0, 1, 2, 3, 4, 5, 6, 7, 8, 9, 10, 11, 12, 13, 14, 15, 16, 17, 18, 19, 20], [0, 1, 2, 3, 4, 5, 6, 7, 8, 9, 10, 11, 12, 13, 14, 15, 16, 17, 18, 19, 20, 21]] (by kernel_rfl) ?_
 refine Lc 21 rfl rfl rfl cal_90 rfl (impl_push_w _ _ _ _ _ H c6 o (cF.ext (a9.trans aL))) ?_
 rintro _ c7 ⟨bE, eB, eC, H, rfl, aF, c8, c9, dm⟩
 refine Lv ok 22 [(12, I bE)] 23 rfl rfl (Ln _ rfl (Wq (Wg ?_)))
 have dj := (Df a3 aE).symm
 refine Lb 0 (v := .agg #[sl a t.Rows c, sl aG t.Cols aH, sl aC t.Lo aD, sl aP t.Hi aQ]) rfl rfl rfl ti_29 ag_29 (fun h => by cases h) rfl ((bX.ext aL).but aF dj) rfl rfl (Lv ok 1 [(51, sl aA x aB), (52, sl aJ aI aK), (53, I (wr ((wr (i * (ln t.Cols))) + j)))] 4 rfl rfl ?_)
 have bF := (aV.trans aL)
 have dA := (Df a4 aE).symm
 have dB := (Df a5 aE).symm
 have dC := (Df a6 aE).symm
 have dD := (Df a7 aE).symm
 have dE := (Df a8 aE).symm
 refine Lc 4 rfl rfl rfl cal_91 rfl (impl_restore_w _ _ _ _ _ H c7 r ((a4.ext bF).but aF dA) aW ((a5.ext bF).but aF dB) aT ((bD.ext aL).but aF dC) aX ((a7.ext bF).but aF dD) aU ((bB.ext aL).but aF dE) c8.readf c9) ?_
 rintro _ eD ⟨aM, eE, eF, H, rfl, dF, b3, bG, dG, cn⟩
 obtain ⟨aN, aO, rfl⟩ := b3.shape
 refine Lv ok 5 [(13, sl aN aM aO)] 6 rfl rfl (Ln _ rfl (Wq (Wg (Lv ok 0 [(55, sl aN aM aO), (56, I i)] 2 rfl rfl ?_))))
 obtain ⟨bH, dH, dI, H⟩ := H
 refine LP_indexb (v := sl aN aM aO) 2 rfl rfl rfl Try.underlying23 ti_22 rfl rfl b3 dH dI fun eG u dJ rest dK bw => (LP_ldcell 3 rfl rfl rfl ti_22 ag_22 rfl dK bG ?_)
 have b4 := bw.od
 obtain ⟨b5, b6, rfl⟩ := b4.shape
 have b7 := Sub.le bG bw.le
 have b8 : OS 3 dJ emp (sl b5 bH b6) bH := OD.flat b4
 refine Lv ok 4 [(59, I j)] 5 rfl rfl ?_
 obtain ⟨dL, dM, dN, H⟩ := H
 refine Li 5 rfl rfl rfl Try.underlying22 ti_3 rfl rfl b8.readf dM dN fun eH eI dO dP => (Lo 6 rfl rfl rfl ti_3 ag_3 rfl dO dP b7 fun eJ dQ => ?_)
 obtain rfl := dQ.int
 refine Lv ok 7 [(62, I bE), (63, I (wr (dL - bE)))] 9 rfl rfl ?_
 obtain ⟨dR, hl, H⟩ := H
 refine LP_indexw (v := sl b5 bH b6) 9 rfl rfl rfl Try.underlying22 ti_3 rfl rfl b8 dR hl fun eK wa => (LP_set 10 rfl rfl rfl rfl rfl wa (Le.refl emp) ⟨_, rfl, rfl⟩ b7 fun eL eM dS dT y dU => ?_)
 obtain ⟨eN, dV, dd⟩ := BwL.turn bw (OS.od dS) (Dom.of dU)
 have dW := BwL.sub bw bG dT y
 have dX := BwL.but bw y
 refine Ln _ rfl (Wq (Wg (Lv ok 0 [(65, sl aN aM aO), (8, sl aN aM aO)] 2 rfl rfl (Ln _ rfl (W_ret ?_)))))
 have dY := aE.mono (X.stepx xc).size
 have X166 := ((X.stepx ((((bQ.trans a2).trans bR).trans a9).trans aL)).step aF (dY.dom _))
 have b9 := dG.mono X166.size
 have X167 := (X166.stepx dF)
 have dZ := ((fun n => Oe dd n) _).fresh b9 X167.size
 exact ⟨_, Ret_of [sl aN aM aO] ⟨⟨rfl, rfl⟩, trivial⟩, _, _, _, H, rfl, (X167.step dX (b9.dom _)).ext, dV, dW, dZ, (CanV.len (by simp) cn)⟩

theorem impl_firstFrom_w (t : Transport) (x : List (List Int)) (fromx : Int) (Q : (List (List Int)) → Prop) (H : impl_firstFrom t x fromx Q) (w : World) {vx : Value} {hx : PH} (r : RS hx vx t.Rows) (ex : Sub hx w) {a0 : Value} {aK : PH} (a1 : RS aK a0 t.Cols) (bF : Sub aK w) {a2 : Value} {aL : PH} (a3 : RS aL a2 t.Lo) (bG : Sub aL w) {a4 : Value} {aM : PH} (a5 : RS aM a4 t.Hi) (bH : Sub aM w) {a6 : Value} {aB : PH} (aR : RS aB a6 x) (a7 : Sub aB w) :
  CallsTo Try.prog 87 #[.agg #[vx, a0, a2, a4], a6, I fromx] w fun v w' => ∃ aS aT aU, Q aS ∧ v = aT ∧ Ext w w' ∧ RS aU aT aS ∧ Sub aU w' ∧ DomLe (un hx (un aK (un aL (un aM aB)))) w.heap.size aU ∧ CanV aT aS := by
 obtain ⟨a, c, rfl⟩ := r.shape
 obtain ⟨aC, aD, rfl⟩ := a1.shape
 obtain ⟨aG, aH, rfl⟩ := a3.shape
 obtain ⟨aI, aJ, rfl⟩ := a5.shape
 obtain ⟨aV, aW, rfl⟩ := aR.shape
 refine enter (args := [.agg #[sl a t.Rows c, sl aC t.Cols aD, sl aG t.Lo aH, sl aI t.Hi aJ], sl aV x aW, I fromx]) 33 Try.func87 rfl rfl rfl ?_
 refine Wo [(0, .agg #[sl a t.Rows c, sl aC t.Cols aD, sl aG t.Lo aH, sl aI t.Hi aJ]), (1, sl aV x aW), (2, I fromx)] ⟨rfl, rfl, rfl, trivial⟩ fun ρ => ?_
 have D28 : Dom (un hx (un aK (un aL (un aM aB)))) aB := (Ot (Dom.r _ _) (Ot (Dom.r _ _) (Ot (Dom.r _ _) (Ot (Dom.r _ _) (Or _)))))
 have X := Br emp w
 refine Wq (Wg (Ly 0 (cs := [sl a t.Rows c, sl aC t.Cols aD, sl aG t.Lo aH, sl aI t.Hi aJ]) rfl rfl rfl rfl rfl fun b wx aX a8 f => (Lv ok 1 [(6, .slice none 0 0)] 2 rfl rfl (Ln _ rfl (Wq (Wg (Lv ok 0 [(9, .pointer (some ⟨b, 1, none⟩))] 1 rfl rfl (Lb 1 (v := sl aC t.Cols aD) rfl rfl rfl ti_22 ag_22 (fun _ => rfl) rfl a8 rfl rfl (Lv ok 2 [(11, I (ln t.Cols)), (7, I (ln t.Cols))] 4 rfl rfl ?_)))))))))
 refine Ln _ rfl (Wq (Wq (Wg (Lv ok 0 [(12, I fromx), (13, I (wr (fromx + 1))), (8, I (wr (fromx + 1)))] 3 rfl rfl (Ln _ rfl (W_block ?_))))))
 obtain ⟨hz, H⟩ := H
 obtain ⟨J, m, Hx, H⟩ := H
 refine W_loop (S := (List (List Int)) × Int) (fun s ρ' w' => J s.1 s.2 ∧ ∃ (ρ : Env) (aO : Value) (aN : PH), ρ' = setAll [(1, aO), (3, pb b), (7, I (ln t.Cols)), (8, I s.2)] ρ ∧ Ext wx w' ∧ RS aN aO s.1 ∧ Sub aN w' ∧ DomLe (un hx (un aK (un aL (un aM aB)))) w.heap.size aN ∧ Dj aN (bx b 29 [sl a t.Rows c, sl aC t.Cols aD, sl aG t.Lo aH, sl aI t.Hi aJ]) ∧ CanV aO s.1) (fun s => m s.1 s.2) (x, wr (fromx + 1)) ⟨Hx, _, sl aV x aW, aB, Ee ⟨rfl, rfl, rfl, rfl, trivial⟩, (Ext.refl _), aR, (a7.ext aX), (Oe D28 _), (Df a7 f), (can_of aR hz)⟩ ?_
 rintro ⟨aA, p⟩ _ bR ⟨Hi, ρ, aO, aN, rfl, HF⟩
 revert HF
 refine bb6 fun X40 aY a9 bI d cn => ?_
 have H := H aA p Hi
 obtain ⟨aE, aF, rfl⟩ := aY.shape
 refine Wq (Wq (Wg (Lv ok 0 [(14, I p), (15, pb b)] 2 rfl rfl ?_)))
 have bA := (a8.ext X40)
 refine Lb 2 (v := sl a t.Rows c) rfl rfl rfl ti_22 ag_22 (fun _ => rfl) rfl bA rfl rfl (Lv ok 3 [(17, I (ln t.Rows)), (18, I (ln t.Cols)), (19, I (wr ((ln t.Rows) * (ln t.Cols)))), (20, .bool (decide (p < (wr ((ln t.Rows) * (ln t.Cols))))))] 7 rfl rfl (Ln _ rfl ?_))
 refine Wc (decide (p < (wr ((ln t.Rows) * (ln t.Cols))))) rfl (fun hc => ?_) (fun hc => ?_)
 ·have H := H.1 hc
  refine Wk (Wq (W_block ?_))
  refine W_open mix fun bS aP => ?_
  refine AP_game 8 [[], [], [], [], [2, 3], [], [], [5, 6], [0, 1, 2, 3, 4, 5, 6, 7], [0, 1, 2, 3, 4, 5, 6, 7, 8]] [[(3, none)], [(1, none)], [(8, none)], [(7, none)], [(25, some 2), (26, some 3)], [(8, none)], [(7, none)], [(28, some 5), (29, some 6)]] [(1, none), (3, none), (7, none), (8, none), (23, some 0), (24, some 1), (27, some 4), (30, some 7)] [(0, false), (1, false), (2, false), (3, false), (4, false), (5, false), (6, false), (7, false)] (by kernel_rfl) (by kernel_rfl) ?_
  have bB := (bA.ext aP)
  refine GS_r1 [(3, pb b)] (.agg #[sl a t.Rows c, sl aC t.Cols aD, sl aG t.Lo aH, sl aI t.Hi aJ]) rfl rfl (fun _ h => h) (fun _ w e => ex_ldbox rfl ti_29 ag_29 (fun h => by cases h) rfl e rfl rfl) bB ?_
  refine GS_ev ok [(1, sl aE aA aF)] (sl aE aA aF) rfl rfl (fun _ h => h) (fun _ => rfl) ?_
  refine GS_ev ok [(8, I p)] (I p) rfl rfl (fun _ h => h) (fun _ => rfl) ?_
  refine GS_ev ok [(7, I (ln t.Cols))] (I (ln t.Cols)) rfl rfl (fun _ h => h) (fun _ => rfl) ?_
  obtain ⟨bJ, H⟩ := H
  refine GS_r0 [(25, I p), (26, I (ln t.Cols))] (I (wr (Int.tdiv p (ln t.Cols)))) rfl rfl (fun _ h => h) (fun _ _ => ex_quo rfl rfl rfl bJ _) ?_
  refine GS_ev ok [(8, I p)] (I p) rfl rfl (fun _ h => h) (fun _ => rfl) ?_
  refine GS_ev ok [(7, I (ln t.Cols))] (I (ln t.Cols)) rfl rfl (fun _ h => h) (fun _ => rfl) ?_
  obtain ⟨bK, H⟩ := H
  refine GS_r0 [(28, I p), (29, I (ln t.Cols))] (I (Int.tmod p (ln t.Cols))) rfl rfl (fun _ h => h) (fun _ _ => ex_rem rfl rfl rfl bK _) ?_
  intro bL aQ ρ hn
  refine AP_forget [(1, sl aE aA aF), (3, pb b), (7, I (ln t.Cols)), (8, I p), (23, .agg #[sl a t.Rows c, sl aC t.Cols aD, sl aG t.Lo aH, sl aI t.Hi aJ]), (24, sl aE aA aF), (27, I (wr (Int.tdiv p (ln t.Cols)))), (30, I (Int.tmod p (ln t.Cols)))] (by exact hn) fun ρ => ?_
  refine AP_tail 8 [[], [], [], [], [2, 3], [], [], [5, 6], [0, 1, 2, 3, 4, 5, 6, 7], [0, 1, 2, 3, 4, 5, 6, 7, 8]] (by kernel_rfl) ?_
  have xc := (((aX.trans X40).trans aP).trans aQ)
  refine Lc 8 rfl rfl rfl cal_102 rfl (impl_lowered_w _ _ _ _ _ H bL r (ex.ext xc) a1 (bF.ext xc) a3 (bG.ext xc) a5 (bH.ext xc) aY (a9.ext (aP.trans aQ))) ?_
  rintro _ bT ⟨aZ, bU, bM, H, rfl, bN, o, bO, bC, bP⟩
  obtain ⟨bD, bE, rfl⟩ := o.shape
  refine Lv ok 9 [(1, sl bD aZ bE)] 10 rfl rfl (Ln _ rfl (Wg (Lv ok 0 [(21, I p), (22, I (wr (p + 1))), (8, I (wr (p + 1)))] 3 rfl rfl (Ln _ rfl ?_))))
  have bQ := bC.mono (X.stepx xc).size
  have dj := (Df (bB.ext aQ) bC).symm
  exact ⟨(aZ, wr (p + 1)), ⟨H.1, _, sl bD aZ bE, bM, Ee ⟨rfl, rfl, rfl, rfl, trivial⟩, (((X40.trans aP).trans aQ).trans bN), o.readf, bO, (bQ.dom _), dj, bP⟩, H.2⟩
 have H := H.2 hc
 refine W_exit ?_
 refine (if_pos rfl).mpr ?_
 refine Wq (Wg (Lv ok 0 [(32, sl aE aA aF), (6, sl aE aA aF)] 2 rfl rfl (Ln _ rfl (W_ret ?_))))
 exact ⟨_, Ret_of [sl aE aA aF] ⟨⟨rfl, rfl⟩, trivial⟩, _, _, _, H, rfl, (X.stepx (aX.trans X40)).ext, aY, a9, bI, cn⟩

theorem impl_firstFlow_w (t : Transport) (Q : (List (List Int)) → Prop) (H : impl_firstFlow t Q) (w : World) {vx : Value} {hx : PH} (r : RS hx vx t.Rows) (ex : Sub hx w) {aT : Value} {aA : PH} (aL : RS aA aT t.Cols) (a5 : Sub aA w) {aU : Value} {aB : PH} (aM : RS aB aU t.Lo) (a6 : Sub aB w) {aV : Value} {aC : PH} (aN : RS aC aV t.Hi) (a7 : Sub aC w) :
  CallsTo Try.prog 49 #[.agg #[vx, aT, aU, aV]] w fun v w' => ∃ aO aP aQ, Q aO ∧ v = aP ∧ Ext w w' ∧ RS aQ aP aO ∧ Sub aQ w' ∧ DomLe (un hx (un aA (un aB aC))) w.heap.size aQ ∧ CanV aP aO := by
 obtain ⟨a, c, rfl⟩ := r.shape
 obtain ⟨aE, aF, rfl⟩ := aL.shape
 obtain ⟨aG, aH, rfl⟩ := aM.shape
 obtain ⟨aI, aJ, rfl⟩ := aN.shape
 refine enter (args := [.agg #[sl a t.Rows c, sl aE t.Cols aF, sl aG t.Lo aH, sl aI t.Hi aJ]]) 11 Try.func49 rfl rfl rfl ?_
 refine Wo [(0, .agg #[sl a t.Rows c, sl aE t.Cols aF, sl aG t.Lo aH, sl aI t.Hi aJ])] ⟨rfl, trivial⟩ fun ρ => ?_
 have D : Dom (un hx (un aA (un aB aC))) hx := (Dom.l _ _)
 have D19 : Dom (un hx (un aA (un aB aC))) aA := (Ot (Dom.r _ _) (Dom.l _ _))
 have D20 : Dom (un hx (un aA (un aB aC))) aB := (Ot (Dom.r _ _) (Ot (Dom.r _ _) (Dom.l _ _)))
 have D21 : Dom (un hx (un aA (un aB aC))) aC := (Ot (Dom.r _ _) (Ot (Dom.r _ _) (Ot (Dom.r _ _) (Or _))))
 have X := Br emp w
 refine Wq (Wg (Ly 0 (cs := [sl a t.Rows c, sl aE t.Cols aF, sl aG t.Lo aH, sl aI t.Hi aJ]) rfl rfl rfl rfl rfl fun b wx x aW f => (Lv ok 1 [(2, .slice none 0 0)] 2 rfl rfl (Ln _ rfl (Wq (Wg (Lb 0 (v := .agg #[sl a t.Rows c, sl aE t.Cols aF, sl aG t.Lo aH, sl aI t.Hi aJ]) rfl rfl rfl ti_29 ag_29 (fun h => by cases h) rfl aW rfl rfl ?_)))))))
 have aX := (ex.ext x)
 have aY := (a5.ext x)
 have aZ := (a6.ext x)
 have a0 := (a7.ext x)
 refine Lc 1 rfl rfl rfl cal_54 rfl (impl_anyFlow_w _ _ H wx r aX aL aY aM aZ aN a0) ?_
 rintro _ a8 ⟨aK, bG, bH, H, rfl, aD, o, a9, bA, cn⟩
 obtain ⟨aR, aS, rfl⟩ := o.shape
 refine Lv ok 2 [(3, sl aR aK aS)] 3 rfl rfl (Ln _ rfl (Wq (Wq (Wg (Lv ok 0 [(6, sl aR aK aS)] 1 rfl rfl (LP_val 1 _ rfl rfl (ex_eqnilc rfl Try.underlying23 rfl rfl (cn _ _ _ rfl) _) (Ln _ rfl ?_)))))))
 refine Wc (ln aK == 0) rfl (fun hc => ?_) (fun hc => ?_)
 ·have H := H.1 hc
  refine Wq (Wg (Lv ok 0 [(2, .slice none 0 0)] 1 rfl rfl (Ln _ rfl (W_ret ?_))))
  exact ⟨_, Ret_of [.slice none 0 0] ⟨⟨rfl, rfl⟩, trivial⟩, _, _, emp, H, rfl, (X.stepx (x.trans aD)).ext, (.inl ⟨rfl, rfl⟩), (emp_sub _), (fun _ _ _ => rfl), CanV.nil⟩
 have H := H.2 hc
 refine Wk (Wq (Wg (Lb 0 (v := .agg #[sl a t.Rows c, sl aE t.Cols aF, sl aG t.Lo aH, sl aI t.Hi aJ]) rfl rfl rfl ti_29 ag_29 (fun h => by cases h) rfl (aW.ext aD) rfl rfl (Lv ok 1 [(9, sl aR aK aS)] 2 rfl rfl (Lc 2 rfl rfl rfl cal_87 rfl (impl_firstFrom_w _ _ _ _ H a8 r (aX.ext aD) aL (aY.ext aD) aM (aZ.ext aD) aN (a0.ext aD) o.readf a9) ?_)))))
 rintro _ bI ⟨a1, bJ, bK, H, rfl, bB, a2, bC, bD, bE⟩
 obtain ⟨a3, a4, rfl⟩ := a2.shape
 refine Lv ok 3 [(2, sl a3 a1 a4)] 4 rfl rfl (Ln _ rfl (W_ret ?_))
 have X54 := (X.stepx x)
 have bF := bA.mono X54.size
 have X55 := (X54.stepx aD)
 exact ⟨_, Ret_of [sl a3 a1 a4] ⟨⟨rfl, rfl⟩, trivial⟩, _, _, _, H, rfl, (X55.stepx bB).ext, a2, bC, (Mt (Mu (Oe D _) (Mu (Oe D19 _) (Mu (Oe D20 _) (Mu (Oe D21 _) (bF.dom _))))) bD X55.size), bE⟩

theorem impl_nextFlow_w (t : Transport) (x : List (List Int)) (Q : (List (List Int)) → Prop) (H : impl_nextFlow t x Q) (w : World) {vx : Value} {hx : PH} (r : RS hx vx t.Rows) (ex : Sub hx w) {bT : Value} {aA : PH} (aZ : RS aA bT t.Cols) (cD : Sub aA w) {bU : Value} {aB : PH} (a0 : RS aB bU t.Lo) (cE : Sub aB w) {bV : Value} {aC : PH} (aT : RS aC bV t.Hi) (cF : Sub aC w) {bW : Value} {aI : PH} (a1 : RS aI bW x) (cG : Sub aI w) :
  CallsTo Try.prog 51 #[.agg #[vx, bT, bU, bV], bW] w fun v w' => ∃ a2 a3 a4, Q a2 ∧ v = a3 ∧ Ext w w' ∧ RS a4 a3 a2 ∧ Sub a4 w' ∧ DomLe (un hx (un aA (un aB (un aC aI)))) w.heap.size a4 ∧ CanV a3 a2 := by
 obtain ⟨a, c, rfl⟩ := r.shape
 obtain ⟨aJ, aK, rfl⟩ := aZ.shape
 obtain ⟨aO, aP, rfl⟩ := a0.shape
 obtain ⟨aL, aM, rfl⟩ := aT.shape
 obtain ⟨aD, aE, rfl⟩ := a1.shape
 refine enter (args := [.agg #[sl a t.Rows c, sl aJ t.Cols aK, sl aO t.Lo aP, sl aL t.Hi aM], sl aD x aE]) 77 Try.func51 rfl rfl rfl ?_
 refine Wo [(0, .agg #[sl a t.Rows c, sl aJ t.Cols aK, sl aO t.Lo aP, sl aL t.Hi aM]), (1, sl aD x aE)] ⟨rfl, rfl, trivial⟩ fun ρ => ?_
 have D : Dom (un hx (un aA (un aB (un aC aI)))) hx := (Dom.l _ _)
 have D25 : Dom (un hx (un aA (un aB (un aC aI)))) aA := (Ot (Dom.r _ _) (Dom.l _ _))
 have D26 : Dom (un hx (un aA (un aB (un aC aI)))) aB := (Ot (Dom.r _ _) (Ot (Dom.r _ _) (Dom.l _ _)))
 have D27 : Dom (un hx (un aA (un aB (un aC aI)))) aC := (Ot (Dom.r _ _) (Ot (Dom.r _ _) (Ot (Dom.r _ _) (Dom.l _ _))))
 have X := Br emp w
 refine Wq (Wg (Ly 0 (cs := [sl a t.Rows c, sl aJ t.Cols aK, sl aO t.Lo aP, sl aL t.Hi aM]) rfl rfl rfl rfl rfl fun b wx bX a5 f => (Lv ok 1 [(4, .slice none 0 0)] 2 rfl rfl (Ln _ rfl (Wq ?_)))))
 refine W_quiet mix (by kernel_rfl) ?_
 refine QP_ev ok 0 [(12, pb b)] 1 rfl rfl ?_
 refine QP_ldbox 1 (v := sl a t.Rows c) rfl rfl rfl ti_22 ag_22 (fun _ => rfl) rfl a5 rfl rfl ?_
 refine QP_ev ok 2 [(14, I (ln t.Rows)), (15, .pointer (some ⟨b, 1, none⟩))] 4 rfl rfl ?_
 refine QP_ldbox 4 (v := sl aJ t.Cols aK) rfl rfl rfl ti_22 ag_22 (fun _ => rfl) rfl a5 rfl rfl ?_
 refine QP_ev ok 5 [(17, I (ln t.Cols)), (5, I (ln t.Rows)), (6, I (ln t.Cols))] 8 rfl rfl ?_
 refine QP_end _ rfl fun cH a6 => ?_
 refine Wq (Wq (Wg (Lv ok 0 [(18, I (ln t.Rows)), (19, I (ln t.Cols)), (20, I (wr ((ln t.Rows) * (ln t.Cols)))), (21, I (wr ((wr ((ln t.Rows) * (ln t.Cols))) - 1))), (7, I (wr ((wr ((ln t.Rows) * (ln t.Cols))) - 1)))] 5 rfl rfl (Ln _ rfl (W_block ?_)))))
 obtain ⟨J, m, Hx, H⟩ := H
 refine W_loop (S := Int) (fun s ρ' w' => J s ∧ ∃ (ρ : Env), ρ' = setAll [(1, sl aD x aE), (2, pb b), (5, I (ln t.Rows)), (6, I (ln t.Cols)), (7, I s)] ρ ∧ Ext cH w') (fun s => m s) (wr ((wr ((ln t.Rows) * (ln t.Cols))) - 1)) ⟨Hx, _, Ee ⟨rfl, rfl, rfl, rfl, rfl, trivial⟩, (Ext.refl _)⟩ ?_
 rintro p _ cI ⟨Hi, ρ, rfl, X34⟩
 have H := H p Hi
 refine Wq (Wq (Wg (Lv ok 0 [(22, I p), (23, .bool (decide (p ≥ 0)))] 2 rfl rfl (Ln _ rfl ?_))))
 refine Wc (decide (p ≥ 0)) rfl (fun hc => ?_) (fun hc => ?_)
 ·have H := H.1 hc
  refine Wk ?_
  have xc := ((bX.trans a6).trans X34)
  have X35 := (X.stepx xc)
  obtain ⟨k, hk, H⟩ := jn_elim H
  refine W_join2 (S := Unit) (fun s ρ' w' => k ∧ ∃ (ρ : Env), ρ' = setAll [(1, sl aD x aE), (2, pb b), (5, I (ln t.Rows)), (6, I (ln t.Cols)), (7, I p)] ρ ∧ Ext cI w') ?_ ?_
  ·refine W_block (Wq ?_)
   refine W_quiet mix (by kernel_rfl) ?_
   refine QP_ev ok 0 [(26, I p), (27, I (ln t.Cols))] 2 rfl rfl ?_
   obtain ⟨hz, H⟩ := H
   refine QP_val 2 _ rfl rfl (fun _ _ => ex_quo rfl rfl rfl hz _) ?_
   refine QP_ev ok 3 [(29, I p), (30, I (ln t.Cols))] 5 rfl rfl ?_
   obtain ⟨cJ, H⟩ := H
   refine QP_val 5 _ rfl rfl (fun _ _ => ex_rem rfl rfl rfl cJ _) ?_
   refine QP_ev ok 6 [(8, I (wr (Int.tdiv p (ln t.Cols)))), (9, I (Int.tmod p (ln t.Cols)))] 8 rfl rfl ?_
   refine QP_end _ rfl fun d5 aU => ?_
   refine Wq (Wq ?_)
   refine W_quiet mix (by kernel_rfl) ?_
   refine QP_ev ok 0 [(32, sl aD x aE), (33, I (wr (Int.tdiv p (ln t.Cols))))] 2 rfl rfl ?_
   obtain ⟨d6, hi, cK, H⟩ := H
   refine QP_index 2 rfl rfl rfl Try.underlying23 ti_22 rfl rfl a1 hi cK fun d7 cs cL d => ?_
   have a7 := ((cG.ext xc).ext aU)
   refine QP_load 3 rfl rfl rfl ti_22 ag_22 rfl cL d a7 fun d8 cM => ?_
   have bY := cM.slice
   obtain ⟨d9, eA, rfl⟩ := bY.shape
   refine QP_ev ok 4 [(36, I (Int.tmod p (ln t.Cols)))] 5 rfl rfl ?_
   obtain ⟨a8, cN, cO, H⟩ := H
   refine QP_index 5 rfl rfl rfl Try.underlying22 ti_3 rfl rfl bY cN cO fun eB eC cP cQ => ?_
   refine QP_load 6 rfl rfl rfl ti_3 ag_3 rfl cP cQ a7 fun eD cR => ?_
   obtain rfl := cR.int
   refine QP_ev ok 7 [(39, .pointer (some ⟨b, 3, none⟩))] 8 rfl rfl ?_
   have bZ := ((a5.ext (a6.trans X34)).ext aU)
   refine QP_ldbox 8 (v := sl aL t.Hi aM) rfl rfl rfl ti_23 ag_23 (fun _ => rfl) rfl bZ rfl rfl ?_
   refine QP_ev ok 9 [(41, I (wr (Int.tdiv p (ln t.Cols))))] 10 rfl rfl ?_
   obtain ⟨eE, cS, cT, H⟩ := H
   refine QP_index 10 rfl rfl rfl Try.underlying23 ti_22 rfl rfl aT cS cT fun eF eG cU cV => ?_
   have a9 := ((cF.ext xc).ext aU)
   refine QP_load 11 rfl rfl rfl ti_22 ag_22 rfl cU cV a9 fun eH cW => ?_
   have b0 := cW.slice
   obtain ⟨eI, eJ, rfl⟩ := b0.shape
   refine QP_ev ok 12 [(44, I (Int.tmod p (ln t.Cols)))] 13 rfl rfl ?_
   obtain ⟨bA, cX, cY, H⟩ := H
   refine QP_index 13 rfl rfl rfl Try.underlying22 ti_3 rfl rfl b0 cX cY fun eK eL cZ c0 => ?_
   refine QP_load 14 rfl rfl rfl ti_3 ag_3 rfl cZ c0 a9 fun eM c1 => ?_
   obtain rfl := c1.int
   refine QP_ev ok 15 [(47, .bool (a8 == bA))] 16 rfl rfl ?_
   refine QP_end _ rfl fun c2 aV => ?_
   try refine Wo [(1, sl aD x aE), (2, pb b), (5, I (ln t.Rows)), (6, I (ln t.Cols)), (7, I p), (8, I (wr (Int.tdiv p (ln t.Cols)))), (9, I (Int.tmod p (ln t.Cols))), (47, .bool (a8 == bA))] ⟨rfl, rfl, rfl, rfl, rfl, rfl, rfl, rfl, trivial⟩ fun ρ => ?_
   refine Wc (a8 == bA) rfl (fun bB => ?_) (fun bB => ?_)
   ·have H := H.1 bB
    refine W_exit ?_
    refine (if_pos rfl).mpr ?_
    exact ⟨(), H, _, Ee ⟨rfl, rfl, rfl, rfl, rfl, trivial⟩, (aU.trans aV)⟩
   have H := H.2 bB
   refine Wk (Wq (Wg ?_))
   have bC := (bZ.ext aV)
   refine Lb 0 (v := .agg #[sl a t.Rows c, sl aJ t.Cols aK, sl aO t.Lo aP, sl aL t.Hi aM]) rfl rfl rfl ti_29 ag_29 (fun h => by cases h) rfl bC rfl rfl (Lv ok 1 [(49, sl aD x aE), (50, I p)] 3 rfl rfl ?_)
   have aN := (aU.trans aV)
   have bD := ((ex.ext xc).ext aN)
   have bE := ((cD.ext xc).ext aN)
   have bF := ((cE.ext xc).ext aN)
   have bG := (a9.ext aV)
   have bH := (a7.ext aV)
   refine Lc 3 rfl rfl rfl cal_89 rfl (impl_residual_w _ _ _ _ H c2 r bD aZ bE a0 bF aT bG a1 bH) ?_
   rintro _ c3 ⟨bI, eN, eO, H, rfl, aF, o, c4, aG⟩
   obtain ⟨bJ, bK, rfl⟩ := o.shape
   refine Lv ok 4 [(10, sl bJ bI bK)] 5 rfl rfl (Ln _ rfl (Wq (Wq (Wg (Lv ok 0 [(52, sl bJ bI bK), (53, I (ln t.Rows)), (54, I (Int.tmod p (ln t.Cols))), (55, I (wr ((ln t.Rows) + (Int.tmod p (ln t.Cols))))), (56, I (wr (Int.tdiv p (ln t.Cols))))] 5 rfl rfl (Lc 5 rfl rfl rfl cal_90 rfl (impl_push_w _ _ _ _ _ H c3 o c4) ?_))))))
   rintro _ c5 ⟨b1, eP, eQ, H, rfl, aH, c6, c7, dm⟩
   refine Lv ok 6 [(58, .bool (b1 == 0))] 7 rfl rfl (Ln _ rfl ?_)
   refine Wc (b1 == 0) rfl (fun bL => ?_) (fun bL => ?_)
   ·have H := H.1 bL
    refine W_exit ?_
    refine (if_pos rfl).mpr ?_
    exact ⟨(), H, _, Ee ⟨rfl, rfl, rfl, rfl, rfl, trivial⟩, But.ext (((Br emp _).stepx (aN.trans aF)).step aH ((aG.mono aN.size).dom _))⟩
   have H := H.2 bL
   refine Wk (Wq (Wg ?_))
   have dj := (Df bC aG).symm
   have bM := ((bC.ext aF).but aH dj)
   refine Lb 0 (v := .agg #[sl a t.Rows c, sl aJ t.Cols aK, sl aO t.Lo aP, sl aL t.Hi aM]) rfl rfl rfl ti_29 ag_29 (fun h => by cases h) rfl bM rfl rfl (Lv ok 1 [(60, sl aD x aE), (61, sl bJ bI bK), (62, I p)] 4 rfl rfl ?_)
   have c8 := (Df bD aG).symm
   have bN := ((bD.ext aF).but aH c8)
   have c9 := (Df bE aG).symm
   have bO := ((bE.ext aF).but aH c9)
   have dA := (Df bF aG).symm
   have bP := ((bF.ext aF).but aH dA)
   have dB := (Df bG aG).symm
   have bQ := ((bG.ext aF).but aH dB)
   have dC := (Df bH aG).symm
   refine Lc 4 rfl rfl rfl cal_91 rfl (impl_restore_w _ _ _ _ _ H c5 r bN aZ bO a0 bP aT bQ a1 ((bH.ext aF).but aH dC) c6.readf c7) ?_
   rintro _ eR ⟨aW, eS, eT, H, rfl, aQ, b2, bR, aR, cn⟩
   obtain ⟨aX, aY, rfl⟩ := b2.shape
   refine Lv ok 5 [(11, sl aX aW aY)] 6 rfl rfl (Ln _ rfl (Wq (Wg (Lv ok 0 [(64, sl aX aW aY), (65, I (wr (Int.tdiv p (ln t.Cols))))] 2 rfl rfl ?_))))
   obtain ⟨bS, dD, dE, H⟩ := H
   refine LP_indexb (v := sl aX aW aY) 2 rfl rfl rfl Try.underlying23 ti_22 rfl rfl b2 dD dE fun eU u dF rest dG bw => (LP_ldcell 3 rfl rfl rfl ti_22 ag_22 rfl dG bR ?_)
   have b3 := bw.od
   obtain ⟨b4, b5, rfl⟩ := b3.shape
   have b6 := Sub.le bR bw.le
   have b7 : OS 3 dF emp (sl b4 bS b5) bS := OD.flat b3
   refine Lv ok 4 [(68, I (Int.tmod p (ln t.Cols)))] 5 rfl rfl ?_
   obtain ⟨dH, dI, dJ, H⟩ := H
   refine Li 5 rfl rfl rfl Try.underlying22 ti_3 rfl rfl b7.readf dI dJ fun eV eW dK dL => (Lo 6 rfl rfl rfl ti_3 ag_3 rfl dK dL b6 fun eX dM => ?_)
   obtain rfl := dM.int
   refine Lv ok 7 [(71, I (wr (dH + 1)))] 8 rfl rfl ?_
   obtain ⟨dN, hl, H⟩ := H
   refine LP_indexw (v := sl b4 bS b5) 8 rfl rfl rfl Try.underlying22 ti_3 rfl rfl b7 dN hl fun eY wa => (LP_set 9 rfl rfl rfl rfl rfl wa (Le.refl emp) ⟨_, rfl, rfl⟩ b6 fun eZ dO dP dQ y dR => ?_)
   obtain ⟨e0, dS, dd⟩ := BwL.turn bw (OS.od dP) (Dom.of dR)
   have dT := BwL.sub bw bR dQ y
   have aS := BwL.but bw y
   refine Ln _ rfl ?_
   try refine Wo [(2, pb b), (7, I p), (11, sl aX aW aY)] ⟨rfl, rfl, rfl, trivial⟩ fun ρ => ?_
   refine Wq (Wg ?_)
   have dU := (Df bM aR).symm
   refine Lb 0 (v := .agg #[sl a t.Rows c, sl aJ t.Cols aK, sl aO t.Lo aP, sl aL t.Hi aM]) rfl rfl rfl ti_29 ag_29 (fun h => by cases h) rfl ((bM.ext aQ).but aS dU) rfl rfl (Lv ok 1 [(74, sl aX aW aY), (75, I p)] 3 rfl rfl ?_)
   have dV := (Df bN aR).symm
   have dW := (Df bO aR).symm
   have dX := (Df bP aR).symm
   have dY := (Df bQ aR).symm
   refine Lc 3 rfl rfl rfl cal_87 rfl (impl_firstFrom_w _ _ _ _ H dO r ((bN.ext aQ).but aS dV) aZ ((bO.ext aQ).but aS dW) a0 ((bP.ext aQ).but aS dX) aT ((bQ.ext aQ).but aS dY) dS.readf dT) ?_
   rintro _ e1 ⟨b8, e2, e3, H, rfl, dZ, b9, d0, d1, d2⟩
   obtain ⟨cA, cB, rfl⟩ := b9.shape
   refine Lv ok 4 [(4, sl cA b8 cB)] 5 rfl rfl (Ln _ rfl (W_ret ?_))
   have d3 := aG.mono (X35.stepx aN).size
   have X199 := ((X35.stepx (aN.trans aF)).step aH (d3.dom _))
   have cC := aR.mono X199.size
   have X200 := (X199.stepx aQ)
   have d4 := ((fun n => Oe dd n) _).fresh cC X200.size
   have X201 := (X200.step aS (cC.dom _))
   exact ⟨_, Ret_of [sl cA b8 cB] ⟨⟨rfl, rfl⟩, trivial⟩, _, _, _, H, rfl, (X201.stepx dZ).ext, b9, d0, (Mt (Mu (Oe D _) (Mu (Oe D25 _) (Mu (Oe D26 _) (Mu (Oe D27 _) (d4.dom _))))) d1 X201.size), d2⟩
  rintro ⟨⟩ _ e4 ⟨H, ρ, rfl, X45⟩
  subst hk
  refine Wg (Lv ok 0 [(24, I p), (25, I (wr (p - 1))), (7, I (wr (p - 1)))] 3 rfl rfl ?_)
  exact Ln _ rfl ⟨wr (p - 1), ⟨H.1, _, Ee ⟨rfl, rfl, rfl, rfl, rfl, trivial⟩, (X34.trans X45)⟩, H.2⟩
 have H := H.2 hc
 refine W_exit ?_
 refine (if_pos rfl).mpr ?_
 refine Wq (Wg (Lv ok 0 [(4, .slice none 0 0)] 1 rfl rfl (Ln _ rfl (W_ret ?_))))
 exact ⟨_, Ret_of [.slice none 0 0] ⟨⟨rfl, rfl⟩, trivial⟩, _, _, emp, H, rfl, (X.stepx ((bX.trans a6).trans X34)).ext, (.inl ⟨rfl, rfl⟩), (emp_sub _), (fun _ _ _ => rfl), CanV.nil⟩

theorem impl_countFlows_w (t : Transport) (Q : Int → Bool → Prop) (H : impl_countFlows t Q) (w : World) {vx : Value} {hx : PH} (r : RS hx vx t.Rows) (ex : Sub hx w) {aW : Value} {aX : PH} (aL : RS aX aW t.Cols) (aM : Sub aX w) {aY : Value} {aZ : PH} (aN : RS aZ aY t.Lo) (aO : Sub aZ w) {a0 : Value} {a1 : PH} (aP : RS a1 a0 t.Hi) (aQ : Sub a1 w) :
  CallsTo Try.prog 37 #[.agg #[vx, aW, aY, a0]] w fun v w' => ∃ a2 a3, Q a2 a3 ∧ v = .tuple #[I a2, .bool a3] ∧ Ext w w' := by
 obtain ⟨a, c, rfl⟩ := r.shape
 obtain ⟨aA, aB, rfl⟩ := aL.shape
 obtain ⟨aC, aD, rfl⟩ := aN.shape
 obtain ⟨aE, aF, rfl⟩ := aP.shape
 refine enter (args := [.agg #[sl a t.Rows c, sl aA t.Cols aB, sl aC t.Lo aD, sl aE t.Hi aF]]) 26 Try.func37 rfl rfl rfl ?_
 refine Wo [(0, .agg #[sl a t.Rows c, sl aA t.Cols aB, sl aC t.Lo aD, sl aE t.Hi aF])] ⟨rfl, trivial⟩ fun ρ => ?_
 have X := Br emp w
 refine Wq (Wg (Ly 0 (cs := [sl a t.Rows c, sl aA t.Cols aB, sl aC t.Lo aD, sl aE t.Hi aF]) rfl rfl rfl rfl rfl fun b wx x aG f => (Lv ok 1 [(2, I 0), (3, .bool false)] 3 rfl rfl (Ln _ rfl (Wq (Wq (Wg (Lv ok 0 [(6, pb b)] 1 rfl rfl (Lb 1 (v := sl a t.Rows c) rfl rfl rfl ti_22 ag_22 (fun _ => rfl) rfl aG rfl rfl ?_)))))))))
 refine Lv ok 2 [(8, I (ln t.Rows)), (9, .pointer (some ⟨b, 1, none⟩))] 4 rfl rfl (Lb 4 (v := sl aA t.Cols aB) rfl rfl rfl ti_22 ag_22 (fun _ => rfl) rfl aG rfl rfl (Lv ok 5 [(11, I (ln t.Cols)), (12, I (wr ((ln t.Rows) * (ln t.Cols)))), (13, .bool (decide ((wr ((ln t.Rows) * (ln t.Cols))) > 16)))] 8 rfl rfl (Ln _ rfl ?_)))
 refine Wc (decide ((wr ((ln t.Rows) * (ln t.Cols))) > 16)) rfl (fun hc => ?_) (fun hc => ?_)
 ·have H := H.1 hc
  refine Wq (Wg (Lv ok 0 [(2, I 0), (3, .bool false)] 2 rfl rfl (Ln _ rfl (W_ret ?_))))
  exact ⟨_, Ret_of [I 0, .bool false] ⟨⟨rfl, rfl⟩, ⟨rfl, rfl⟩, trivial⟩, _, _, H, rfl, (X.stepx x).ext⟩
 have H := H.2 hc
 refine Wk (Wq (Wg (Lv ok 0 [(4, I 0)] 1 rfl rfl (Ln _ rfl (Wq (Wq (Wg (Lb 0 (v := .agg #[sl a t.Rows c, sl aA t.Cols aB, sl aC t.Lo aD, sl aE t.Hi aF]) rfl rfl rfl ti_29 ag_29 (fun h => by cases h) rfl aG rfl rfl ?_))))))))
 have a4 := (ex.ext x)
 have a5 := (aM.ext x)
 have a6 := (aO.ext x)
 have a7 := (aQ.ext x)
 refine Lc 1 rfl rfl rfl cal_49 rfl (impl_firstFlow_w _ _ H wx r a4 aL a5 aN a6 aP a7) ?_
 rintro _ bH ⟨aR, bT, bI, H, rfl, aS, o, bJ, bK, cn⟩
 obtain ⟨a8, a9, rfl⟩ := o.shape
 refine Lv ok 2 [(5, sl a8 aR a9)] 3 rfl rfl (Ln _ rfl (W_block ?_))
 have dj := (Dl (Df aO f) (Df aQ f))
 obtain ⟨J, m, Hx, H⟩ := H
 refine W_loop (S := Int × (List (List Int))) (fun s ρ' w' => J s.1 s.2 ∧ ∃ (ρ : Env) (aI : Value) (aJ : PH), ρ' = setAll [(1, pb b), (4, I s.1), (5, aI)] ρ ∧ Ext bH w' ∧ RS aJ aI s.2 ∧ Sub aJ w' ∧ Dj aJ (bx b 29 [sl a t.Rows c, sl aA t.Cols aB, sl aC t.Lo aD, sl aE t.Hi aF]) ∧ CanV aI s.2) (fun s => m s.1 s.2) (0, aR) ⟨Hx, _, sl a8 aR a9, bI, Ee ⟨rfl, rfl, rfl, trivial⟩, (Ext.refl _), o, bJ, (Mj bK (Dl (Df ex f) (Dl (Df aM f) dj)) aG), cn⟩ ?_
 rintro ⟨n, aK⟩ _ bL ⟨Hi, ρ, aI, aJ, rfl, HF⟩
 revert HF
 refine bb5 fun X44 bA bM d bN => ?_
 have H := H n aK Hi
 obtain ⟨bB, bC, rfl⟩ := bA.shape
 refine Wq (Wq (Wg (Lv ok 0 [(16, sl bB aK bC)] 1 rfl rfl (LP_val 1 _ rfl rfl (ex_nenilc rfl Try.underlying23 rfl rfl (bN _ _ _ rfl) _) (Ln _ rfl ?_)))))
 refine Wc (!(ln aK == 0)) rfl (fun aT => ?_) (fun aT => ?_)
 ·have H := H.1 aT
  refine Wk (Wq (W_block (Wq (Wg (Lv ok 0 [(21, I n), (22, I (wr (n + 1))), (4, I (wr (n + 1)))] 3 rfl rfl (Ln _ rfl (Wq (Wg (Lv ok 0 [(23, I (wr (n + 1))), (24, .bool (decide ((wr (n + 1)) > 2000)))] 2 rfl rfl ?_)))))))))
  refine Ln _ rfl ?_
  refine Wc (decide ((wr (n + 1)) > 2000)) rfl (fun aU => ?_) (fun aU => ?_)
  ·have H := H.1 aU
   refine Wq (Wg (Lv ok 0 [(2, I 0), (3, .bool false)] 2 rfl rfl (Ln _ rfl (W_ret ?_))))
   exact ⟨_, Ret_of [I 0, .bool false] ⟨⟨rfl, rfl⟩, ⟨rfl, rfl⟩, trivial⟩, _, _, H, rfl, (X.stepx ((x.trans aS).trans X44)).ext⟩
  have H := H.2 aU
  refine Wk (Wg ?_)
  have aH := (aS.trans X44)
  have bD := (aG.ext aH)
  refine Lb 0 (v := .agg #[sl a t.Rows c, sl aA t.Cols aB, sl aC t.Lo aD, sl aE t.Hi aF]) rfl rfl rfl ti_29 ag_29 (fun h => by cases h) rfl bD rfl rfl (Lv ok 1 [(19, sl bB aK bC)] 2 rfl rfl (Lc 2 rfl rfl rfl cal_51 rfl (impl_nextFlow_w _ _ _ H bL r (a4.ext aH) aL (a5.ext aH) aN (a6.ext aH) aP (a7.ext aH) bA bM) ?_))
  rintro _ bU ⟨aV, bV, bO, H, rfl, bP, bE, bQ, bR, bS⟩
  obtain ⟨bF, bG, rfl⟩ := bE.shape
  refine Lv ok 3 [(5, sl bF aV bG)] 4 rfl rfl ?_
  exact Ln _ rfl ⟨(wr (n + 1), aV), ⟨H.1, _, sl bF aV bG, bO, Ee ⟨rfl, rfl, rfl, trivial⟩, (X44.trans bP), bE, bQ, (Mj bR (Dl (Df ex f) (Dl (Df aM f) (Dl (Df aO f) (Dl (Df aQ f) d)))) bD), bS⟩, H.2⟩
 have H := H.2 aT
 refine W_exit ?_
 refine (if_pos rfl).mpr ?_
 refine Wq (Wg (Lv ok 0 [(25, I n), (2, I n), (3, .bool true)] 3 rfl rfl (Ln _ rfl (W_ret ?_))))
 exact ⟨_, Ret_of [I n, .bool true] ⟨⟨rfl, rfl⟩, ⟨rfl, rfl⟩, trivial⟩, _, _, H, rfl, (X.stepx ((x.trans aS).trans X44)).ext⟩

theorem impl_CountFlows_w (t : Transport) (Q : Int → Bool → Prop) (H : impl_CountFlows t Q) (w : World) {vx : Value} {hx : PH} (r : RS hx vx t.Rows) (ex : Sub hx w) {aM : Value} {aN : PH} (aH : RS aN aM t.Cols) (a0 : Sub aN w) {aO : Value} {aP : PH} (aI : RS aP aO t.Lo) (a1 : Sub aP w) {aQ : Value} {aR : PH} (aJ : RS aR aQ t.Hi) (a2 : Sub aR w) :
  CallsTo Try.prog 10 #[.agg #[vx, aM, aO, aQ]] w fun v w' => ∃ aS aT, Q aS aT ∧ v = .tuple #[I aS, .bool aT] ∧ Ext w w' := by
 obtain ⟨a, c, rfl⟩ := r.shape
 obtain ⟨aB, aC, rfl⟩ := aH.shape
 obtain ⟨aD, aE, rfl⟩ := aI.shape
 obtain ⟨aF, aG, rfl⟩ := aJ.shape
 refine enter (args := [.agg #[sl a t.Rows c, sl aB t.Cols aC, sl aD t.Lo aE, sl aF t.Hi aG]]) 11 Try.func10 rfl rfl rfl ?_
 refine Wo [(0, .agg #[sl a t.Rows c, sl aB t.Cols aC, sl aD t.Lo aE, sl aF t.Hi aG])] ⟨rfl, trivial⟩ fun ρ => ?_
 have X := Br emp w
 refine Wq (Wg (Ly 0 (cs := [sl a t.Rows c, sl aB t.Cols aC, sl aD t.Lo aE, sl aF t.Hi aG]) rfl rfl rfl rfl rfl fun b wx x aU f => (Lv ok 1 [(2, I 0), (3, .bool false)] 3 rfl rfl (Ln _ rfl (Wq (Wq (Wg (Lb 0 (v := .agg #[sl a t.Rows c, sl aB t.Cols aC, sl aD t.Lo aE, sl aF t.Hi aG]) rfl rfl rfl ti_29 ag_29 (fun h => by cases h) rfl aU rfl rfl ?_))))))))
 have aV := (ex.ext x)
 have aW := (a0.ext x)
 have aX := (a1.ext x)
 have aY := (a2.ext x)
 refine Lc 1 rfl rfl rfl cal_36 rfl (impl_IsTransport_w _ _ H wx r aV aH aW aI aX aJ aY) ?_
 rintro _ a3 ⟨aZ, H, rfl, aA⟩
 refine Lv ok 2 [(6, .bool (!aZ))] 3 rfl rfl (Ln _ rfl ?_)
 refine Wc (!aZ) rfl (fun hc => ?_) (fun hc => ?_)
 ·have H := H.1 hc
  refine Wq (Wg (Lv ok 0 [(2, I 0), (3, .bool false)] 2 rfl rfl (Ln _ rfl (W_ret ?_))))
  exact ⟨_, Ret_of [I 0, .bool false] ⟨⟨rfl, rfl⟩, ⟨rfl, rfl⟩, trivial⟩, _, _, H, rfl, (X.stepx (x.trans aA)).ext⟩
 have H := H.2 hc
 refine Wk (Wq (Wg (Lb 0 (v := .agg #[sl a t.Rows c, sl aB t.Cols aC, sl aD t.Lo aE, sl aF t.Hi aG]) rfl rfl rfl ti_29 ag_29 (fun h => by cases h) rfl (aU.ext aA) rfl rfl (Lc 1 rfl rfl rfl cal_37 rfl (impl_countFlows_w _ _ H a3 r (aV.ext aA) aH (aW.ext aA) aI (aX.ext aA) aJ (aY.ext aA)) ?_))))
 rintro _ a5 ⟨aK, aL, H, rfl, a4⟩
 refine Lv ok 2 [(9, I aK), (10, .bool aL), (2, I aK), (3, .bool aL)] 6 rfl rfl (Ln _ rfl (W_ret ?_))
 exact ⟨_, Ret_of [I aK, .bool aL] ⟨⟨rfl, rfl⟩, ⟨rfl, rfl⟩, trivial⟩, _, _, H, rfl, (X.stepx ((x.trans aA).trans a4)).ext⟩

theorem spec_l1In_w (n : Int) (lo : Int) (hi : Int) (Q : Bool → Prop) (H : spec_l1In n lo hi Q) (w : World)  :
  CallsTo Try.prog 56 #[I n, I lo, I hi] w fun v w' => ∃ aA, Q aA ∧ v = .bool aA ∧ Ext w w' := by
 refine enter (args := [I n, I lo, I hi]) 15 Try.func56 rfl rfl rfl ?_
 refine Wo [(0, I n), (1, I lo), (2, I hi)] ⟨rfl, rfl, rfl, trivial⟩ fun ρ => ?_
 have X := Br emp w
 refine Wq (Wg (Lv ok 0 [(6, .bool false)] 1 rfl rfl (Ln _ rfl ?_)))
 obtain ⟨k, hk, H⟩ := jn_elim H
 refine W_join2 (S := Bool) (fun s ρ' w' => k s ∧ ∃ (ρ : Env), ρ' = setAll [(6, .bool s)] ρ ∧ w = w') ?_ ?_
 ·refine Wg (Lv ok 0 [(7, I n), (8, I lo), (9, .bool (decide (n ≥ lo))), (10, .bool (decide (n ≥ lo)))] 4 rfl rfl ?_)
  refine LP_split 10 (decide (n ≥ lo)) rfl (fun hc => ?_) (fun hc => ?_)
  ·have H := H.1 hc
   refine Lv ok 4 [(11, I n), (12, I hi), (13, .bool (decide (n ≤ hi))), (14, .bool (decide (n ≤ hi))), (6, .bool (decide (n ≤ hi)))] 9 rfl rfl ?_
   exact Ln _ rfl ⟨decide (n ≤ hi), H, _, Ee ⟨rfl, trivial⟩, rfl⟩
  have H := H.2 hc
  refine Lv ok 4 [(11, undef), (12, undef), (13, undef), (14, .bool false), (6, .bool false)] 9 rfl rfl ?_
  exact Ln _ rfl ⟨false, H, _, Ee ⟨rfl, trivial⟩, rfl⟩
 rintro x _ _ ⟨H, ρ, rfl, rfl⟩
 subst hk
 refine W_ret ?_
 exact ⟨_, Ret_of [.bool x] ⟨⟨rfl, rfl⟩, trivial⟩, _, H, rfl, X.ext⟩

theorem spec_l1All_w (l : List Int) (lo : Int) (hi : Int) (Q : Bool → Prop) (H : spec_l1All l lo hi Q) (w : World) {vx : Value} {hx : PH} (r : RS hx vx l) (ex : Sub hx w) :
  CallsTo Try.prog 68 #[vx, I lo, I hi] w fun v w' => ∃ aB, Q aB ∧ v = .bool aB ∧ Ext w w' := by
 obtain ⟨a, c, rfl⟩ := r.shape
 refine enter (args := [sl a l c, I lo, I hi]) 21 Try.func68 rfl rfl rfl ?_
 refine Wo [(0, sl a l c), (1, I lo), (2, I hi)] ⟨rfl, rfl, rfl, trivial⟩ fun ρ => ?_
 have X := Br emp w
 refine Wq (Wg (Lv ok 0 [(6, .bool false)] 1 rfl rfl (Ln _ rfl (Wq (Wq (Wg (Lv ok 0 [(9, sl a l c), (10, I (ln l)), (11, I 0)] 3 rfl rfl (Ln _ rfl (W_block ?_)))))))))
 obtain ⟨J, m, Hx, H⟩ := H
 refine W_loop (S := Int) (fun s ρ' w' => J s ∧ ∃ (ρ : Env), ρ' = setAll [(1, I lo), (2, I hi), (9, sl a l c), (10, I (ln l)), (11, I s)] ρ ∧ Ext w w') (fun s => m s) 0 ⟨Hx, _, Ee ⟨rfl, rfl, rfl, rfl, rfl, trivial⟩, (Ext.refl _)⟩ ?_
 rintro x _ wx ⟨Hi, ρ, rfl, X1⟩
 have H := H x Hi
 refine Wq (Wg (Lv ok 0 [(12, .bool (decide (x < (ln l))))] 1 rfl rfl (Ln _ rfl (Wq ?_))))
 refine Wc (decide (x < (ln l))) rfl (fun hc => ?_) (fun hc => ?_)
 ·have H := H.1 hc
  refine Wk (Wq (W_block (Wq (Wg ?_))))
  obtain ⟨aC, aF, aG, H⟩ := H
  refine Li 0 rfl rfl rfl Try.underlying22 ti_3 rfl rfl r aF aG fun aJ cs aH d => (Lo 1 rfl rfl rfl ti_3 ag_3 rfl aH d (ex.ext X1) fun aK aI => ?_)
  obtain rfl := aI.int
  refine Lv ok 2 [(8, I aC)] 3 rfl rfl (Ln _ rfl (Wq (Wg (Lv ok 0 [(15, I aC), (16, I lo), (17, I hi)] 3 rfl rfl (Lc 3 rfl rfl rfl cal_56 rfl (spec_l1In_w _ _ _ _ H wx ) ?_)))))
  rintro _ aL ⟨aD, H, rfl, aE⟩
  refine Lv ok 4 [(19, .bool (!aD))] 5 rfl rfl (Ln _ rfl ?_)
  refine Wc (!aD) rfl (fun aA => ?_) (fun aA => ?_)
  ·have H := H.1 aA
   refine Wq (Wg (Lv ok 0 [(6, .bool false)] 1 rfl rfl (Ln _ rfl (W_ret ?_))))
   exact ⟨_, Ret_of [.bool false] ⟨⟨rfl, rfl⟩, trivial⟩, _, H, rfl, (X.stepx (X1.trans aE)).ext⟩
  have H := H.2 aA
  refine Wk (Wg (Lv ok 0 [(20, I (wr (x + 1))), (11, I (wr (x + 1)))] 2 rfl rfl ?_))
  exact Ln _ rfl ⟨wr (x + 1), ⟨H.1, _, Ee ⟨rfl, rfl, rfl, rfl, rfl, trivial⟩, (X1.trans aE)⟩, H.2⟩
 have H := H.2 hc
 refine W_exit ?_
 refine (if_pos rfl).mpr ?_
 refine Wq (Wg (Lv ok 0 [(6, .bool true)] 1 rfl rfl (Ln _ rfl (W_ret ?_))))
 exact ⟨_, Ret_of [.bool true] ⟨⟨rfl, rfl⟩, trivial⟩, _, H, rfl, (X.stepx X1).ext⟩

theorem spec_tSize_w (t : Transport) (x : List (List Int)) (Q : Bool → Prop) (H : spec_tSize t x Q) (w : World) {vx : Value} {hx : PH} (r : RS hx vx t.Rows) (ex : Sub hx w) {aN : Value} {aO : PH} (a0 : RS aO aN t.Cols) (a8 : Sub aO w) {aP : Value} {aQ : PH} (a1 : RS aQ aP t.Lo) (a9 : Sub aQ w) {aR : Value} {aS : PH} (a2 : RS aS aR t.Hi) (bA : Sub aS w) {aT : Value} {aU : PH} (aV : RS aU aT x) (a3 : Sub aU w) :
  CallsTo Try.prog 69 #[.agg #[vx, aN, aP, aR], aT] w fun v w' => ∃ aW, Q aW ∧ v = .bool aW ∧ Ext w w' := by
 obtain ⟨a, c, rfl⟩ := r.shape
 obtain ⟨aE, aF, rfl⟩ := a0.shape
 obtain ⟨aH, aI, rfl⟩ := a1.shape
 obtain ⟨aJ, aK, rfl⟩ := a2.shape
 obtain ⟨aB, aC, rfl⟩ := aV.shape
 refine enter (args := [.agg #[sl a t.Rows c, sl aE t.Cols aF, sl aH t.Lo aI, sl aJ t.Hi aK], sl aB x aC]) 26 Try.func69 rfl rfl rfl ?_
 refine Wo [(0, .agg #[sl a t.Rows c, sl aE t.Cols aF, sl aH t.Lo aI, sl aJ t.Hi aK]), (1, sl aB x aC)] ⟨rfl, rfl, trivial⟩ fun ρ => ?_
 have X := Br emp w
 refine Wq (Wg (Ly 0 (cs := [sl a t.Rows c, sl aE t.Cols aF, sl aH t.Lo aI, sl aJ t.Hi aK]) rfl rfl rfl rfl rfl fun b wx aG aX f => (Lv ok 1 [(4, .bool false)] 2 rfl rfl (Ln _ rfl (Wq (Wq (Wg (Lv ok 0 [(7, sl aB x aC), (8, I (ln x)), (9, pb b)] 3 rfl rfl (Lb 3 (v := sl a t.Rows c) rfl rfl rfl ti_22 ag_22 (fun _ => rfl) rfl aX rfl rfl ?_)))))))))
 refine Lv ok 4 [(11, I (ln t.Rows)), (12, .bool ((ln x) != (ln t.Rows)))] 6 rfl rfl (Ln _ rfl ?_)
 refine Wc ((ln x) != (ln t.Rows)) rfl (fun hc => ?_) (fun hc => ?_)
 ·have H := H.1 hc
  refine Wq (Wg (Lv ok 0 [(4, .bool false)] 1 rfl rfl (Ln _ rfl (W_ret ?_))))
  exact ⟨_, Ret_of [.bool false] ⟨⟨rfl, rfl⟩, trivial⟩, _, H, rfl, (X.stepx aG).ext⟩
 have H := H.2 hc
 refine Wk (Wq (Wq (Wg (Lv ok 0 [(13, sl aB x aC), (14, I (ln x)), (15, I 0)] 3 rfl rfl (Ln _ rfl (W_block ?_))))))
 obtain ⟨J, m, Hx, H⟩ := H
 refine W_loop (S := Int) (fun s ρ' w' => J s ∧ ∃ (ρ : Env), ρ' = setAll [(2, pb b), (13, sl aB x aC), (14, I (ln x)), (15, I s)] ρ ∧ wx = w') (fun s => m s) 0 ⟨Hx, _, Ee ⟨rfl, rfl, rfl, rfl, trivial⟩, rfl⟩ ?_
 rintro aA _ _ ⟨Hi, ρ, rfl, rfl⟩
 have H := H aA Hi
 refine Wq (Wg (Lv ok 0 [(16, .bool (decide (aA < (ln x))))] 1 rfl rfl (Ln _ rfl (Wq ?_))))
 refine Wc (decide (aA < (ln x))) rfl (fun aL => ?_) (fun aL => ?_)
 ·have H := H.1 aL
  refine Wk (Wq (W_block (Wq (Wg ?_))))
  obtain ⟨aD, hi, a4, H⟩ := H
  refine Li 0 rfl rfl rfl Try.underlying23 ti_22 rfl rfl aV hi a4 fun bB cs a5 d => (Lo 1 rfl rfl rfl ti_22 ag_22 rfl a5 d (a3.ext aG) fun bC a6 => ?_)
  have a7 := a6.slice
  obtain ⟨aY, aZ, rfl⟩ := a7.shape
  refine Lv ok 2 [(6, sl aY aD aZ)] 3 rfl rfl (Ln _ rfl (Wq (Wg (Lv ok 0 [(19, sl aY aD aZ), (20, I (ln aD)), (21, .pointer (some ⟨b, 1, none⟩))] 3 rfl rfl (Lb 3 (v := sl aE t.Cols aF) rfl rfl rfl ti_22 ag_22 (fun _ => rfl) rfl aX rfl rfl (Lv ok 4 [(23, I (ln t.Cols)), (24, .bool ((ln aD) != (ln t.Cols)))] 6 rfl rfl (Ln _ rfl ?_)))))))
  refine Wc ((ln aD) != (ln t.Cols)) rfl (fun aM => ?_) (fun aM => ?_)
  ·have H := H.1 aM
   refine Wq (Wg (Lv ok 0 [(4, .bool false)] 1 rfl rfl (Ln _ rfl (W_ret ?_))))
   exact ⟨_, Ret_of [.bool false] ⟨⟨rfl, rfl⟩, trivial⟩, _, H, rfl, (X.stepx aG).ext⟩
  have H := H.2 aM
  refine Wk (Wg (Lv ok 0 [(25, I (wr (aA + 1))), (15, I (wr (aA + 1)))] 2 rfl rfl ?_))
  exact Ln _ rfl ⟨wr (aA + 1), ⟨H.1, _, Ee ⟨rfl, rfl, rfl, rfl, trivial⟩, rfl⟩, H.2⟩
 have H := H.2 aL
 refine W_exit ?_
 refine (if_pos rfl).mpr ?_
 refine Wq (Wg (Lv ok 0 [(4, .bool true)] 1 rfl rfl (Ln _ rfl (W_ret ?_))))
 exact ⟨_, Ret_of [.bool true] ⟨⟨rfl, rfl⟩, trivial⟩, _, H, rfl, (X.stepx aG).ext⟩

theorem spec_tGood_w (t : Transport) (Q : Bool → Prop) (H : spec_tGood t Q) (w : World) {vx : Value} {hx : PH} (r : RS hx vx t.Rows) (ex : Sub hx w) {bG : Value} {bH : PH} (aQ : RS bH bG t.Cols) (b8 : Sub bH w) {bI : Value} {bJ : PH} (aL : RS bJ bI t.Lo) (b9 : Sub bJ w) {bK : Value} {bL : PH} (aM : RS bL bK t.Hi) (cA : Sub bL w) :
  CallsTo Try.prog 32 #[.agg #[vx, bG, bI, bK]] w fun v w' => ∃ bM, Q bM ∧ v = .bool bM ∧ Ext w w' := by
 obtain ⟨a, c, rfl⟩ := r.shape
 obtain ⟨aG, aH, rfl⟩ := aQ.shape
 obtain ⟨aC, aD, rfl⟩ := aL.shape
 obtain ⟨aE, aF, rfl⟩ := aM.shape
 refine enter (args := [.agg #[sl a t.Rows c, sl aG t.Cols aH, sl aC t.Lo aD, sl aE t.Hi aF]]) 90 Try.func32 rfl rfl rfl ?_
 refine Wo [(0, .agg #[sl a t.Rows c, sl aG t.Cols aH, sl aC t.Lo aD, sl aE t.Hi aF])] ⟨rfl, trivial⟩ fun ρ => ?_
 have X := Br emp w
 refine Wq (Wg (Ly 0 (cs := [sl a t.Rows c, sl aG t.Cols aH, sl aC t.Lo aD, sl aE t.Hi aF]) rfl rfl rfl rfl rfl fun b wx x aZ f => (Lv ok 1 [(2, .bool false)] 2 rfl rfl (Ln _ rfl (Wq ?_)))))
 have X20 := (X.stepx x)
 have bN := (b9.ext x)
 have bO := (cA.ext x)
 obtain ⟨k, hk, H⟩ := jn_elim H
 refine W_join2 (S := Bool) (fun s ρ' w' => k s ∧ ∃ (ρ : Env), ρ' = setAll [(1, pb b), (42, .bool s)] ρ ∧ Ext wx w') ?_ ?_
 ·refine Wg (Lv ok 0 [(5, pb b)] 1 rfl rfl (Lb 1 (v := sl a t.Rows c) rfl rfl rfl ti_22 ag_22 (fun _ => rfl) rfl aZ rfl rfl (Lv ok 2 [(7, I (ln t.Rows))] 3 rfl rfl (Lc 3 rfl rfl rfl cal_56 rfl (spec_l1In_w _ _ _ _ H wx ) ?_))))
  rintro _ cB ⟨a0, H, rfl, aO⟩
  refine Lv ok 4 [(9, .bool (!a0)), (10, .bool (!a0))] 6 rfl rfl ?_
  refine LP_split 10 (!a0) rfl (fun hc => ?_) (fun hc => ?_)
  ·have H := H.1 hc
   refine Lv ok 6 [(11, undef), (12, undef), (13, undef), (14, undef), (15, undef), (16, .bool true), (17, .bool true), (18, undef), (19, undef), (20, undef), (21, undef), (22, .bool true), (23, .bool true), (24, undef), (25, undef), (26, undef), (27, undef), (28, .bool true), (29, .bool true), (30, undef), (31, undef), (32, undef), (33, undef), (34, undef), (35, .bool true), (36, .bool true), (37, undef), (38, undef), (39, undef), (40, undef), (41, undef), (42, .bool true)] 38 rfl rfl ?_
   refine Ln _ rfl ?_
   try refine Wo [(1, pb b), (42, .bool true)] ⟨rfl, rfl, trivial⟩ fun ρ => ?_
   exact ⟨true, H, _, Ee ⟨rfl, rfl, trivial⟩, aO⟩
  have H := H.2 hc
  refine Lv ok 6 [(11, .pointer (some ⟨b, 1, none⟩))] 7 rfl rfl ?_
  have bP := (aZ.ext aO)
  refine Lb 7 (v := sl aG t.Cols aH) rfl rfl rfl ti_22 ag_22 (fun _ => rfl) rfl bP rfl rfl (Lv ok 8 [(13, I (ln t.Cols))] 9 rfl rfl (Lc 9 rfl rfl rfl cal_56 rfl (spec_l1In_w _ _ _ _ H cB ) ?_))
  rintro _ cC ⟨aR, H, rfl, aS⟩
  refine Lv ok 10 [(15, .bool (!aR)), (16, .bool (!aR)), (17, .bool (!aR))] 13 rfl rfl ?_
  refine LP_split 17 (!aR) rfl (fun a1 => ?_) (fun a1 => ?_)
  ·have H := H.1 a1
   refine Lv ok 13 [(18, undef), (19, undef), (20, undef), (21, undef), (22, .bool true), (23, .bool true), (24, undef), (25, undef), (26, undef), (27, undef), (28, .bool true), (29, .bool true), (30, undef), (31, undef), (32, undef), (33, undef), (34, undef), (35, .bool true), (36, .bool true), (37, undef), (38, undef), (39, undef), (40, undef), (41, undef), (42, .bool true)] 38 rfl rfl (Ln _ rfl ?_)
   try refine Wo [(1, pb b), (42, .bool true)] ⟨rfl, rfl, trivial⟩ fun ρ => ?_
   exact ⟨true, H, _, Ee ⟨rfl, rfl, trivial⟩, (aO.trans aS)⟩
  have H := H.2 a1
  refine Lv ok 13 [(18, pb b)] 14 rfl rfl ?_
  have bQ := (bP.ext aS)
  refine Lb 14 (v := sl a t.Rows c) rfl rfl rfl ti_22 ag_22 (fun _ => rfl) rfl bQ rfl rfl ?_
  have a2 := (aO.trans aS)
  have bR := ((ex.ext x).ext a2)
  refine Lc 15 rfl rfl rfl cal_68 rfl (spec_l1All_w _ _ _ _ H cC r bR) ?_
  rintro _ cD ⟨aT, H, rfl, aP⟩
  refine Lv ok 16 [(21, .bool (!aT)), (22, .bool (!aT)), (23, .bool (!aT))] 19 rfl rfl ?_
  refine LP_split 23 (!aT) rfl (fun a3 => ?_) (fun a3 => ?_)
  ·have H := H.1 a3
   refine Lv ok 19 [(24, undef), (25, undef), (26, undef), (27, undef), (28, .bool true), (29, .bool true), (30, undef), (31, undef), (32, undef), (33, undef), (34, undef), (35, .bool true), (36, .bool true), (37, undef), (38, undef), (39, undef), (40, undef), (41, undef), (42, .bool true)] 38 rfl rfl (Ln _ rfl ?_)
   try refine Wo [(1, pb b), (42, .bool true)] ⟨rfl, rfl, trivial⟩ fun ρ => ?_
   exact ⟨true, H, _, Ee ⟨rfl, rfl, trivial⟩, (a2.trans aP)⟩
  have H := H.2 a3
  refine Lv ok 19 [(24, .pointer (some ⟨b, 1, none⟩))] 20 rfl rfl ?_
  have bS := (bQ.ext aP)
  refine Lb 20 (v := sl aG t.Cols aH) rfl rfl rfl ti_22 ag_22 (fun _ => rfl) rfl bS rfl rfl ?_
  have a4 := (a2.trans aP)
  have bT := ((b8.ext x).ext a4)
  refine Lc 21 rfl rfl rfl cal_68 rfl (spec_l1All_w _ _ _ _ H cD aQ bT) ?_
  rintro _ cE ⟨aU, H, rfl, aN⟩
  refine Lv ok 22 [(27, .bool (!aU)), (28, .bool (!aU)), (29, .bool (!aU))] 25 rfl rfl ?_
  refine LP_split 29 (!aU) rfl (fun a5 => ?_) (fun a5 => ?_)
  ·have H := H.1 a5
   refine Lv ok 25 [(30, undef), (31, undef), (32, undef), (33, undef), (34, undef), (35, .bool true), (36, .bool true), (37, undef), (38, undef), (39, undef), (40, undef), (41, undef), (42, .bool true)] 38 rfl rfl (Ln _ rfl ?_)
   try refine Wo [(1, pb b), (42, .bool true)] ⟨rfl, rfl, trivial⟩ fun ρ => ?_
   exact ⟨true, H, _, Ee ⟨rfl, rfl, trivial⟩, (a4.trans aN)⟩
  have H := H.2 a5
  have a6 := (bS.ext aN)
  refine Lb 25 (v := .agg #[sl a t.Rows c, sl aG t.Cols aH, sl aC t.Lo aD, sl aE t.Hi aF]) rfl rfl rfl ti_29 ag_29 (fun h => by cases h) rfl a6 rfl rfl (Lv ok 26 [(31, .pointer (some ⟨b, 2, none⟩))] 27 rfl rfl (Lb 27 (v := sl aC t.Lo aD) rfl rfl rfl ti_23 ag_23 (fun _ => rfl) rfl a6 rfl rfl ?_))
  have bU := (bR.ext (aP.trans aN))
  have bV := (bT.ext aN)
  have a7 := (a4.trans aN)
  have a8 := (bN.ext a7)
  have bW := (bO.ext a7)
  refine Lc 28 rfl rfl rfl cal_69 rfl (spec_tSize_w _ _ _ H cE r bU aQ bV aL a8 aM bW aL a8) ?_
  rintro _ cF ⟨aV, H, rfl, aI⟩
  refine Lv ok 29 [(34, .bool (!aV)), (35, .bool (!aV)), (36, .bool (!aV))] 32 rfl rfl ?_
  refine LP_split 36 (!aV) rfl (fun a9 => ?_) (fun a9 => ?_)
  ·have H := H.1 a9
   refine Lv ok 32 [(37, undef), (38, undef), (39, undef), (40, undef), (41, undef), (42, .bool true)] 38 rfl rfl (Ln _ rfl ?_)
   try refine Wo [(1, pb b), (42, .bool true)] ⟨rfl, rfl, trivial⟩ fun ρ => ?_
   exact ⟨true, H, _, Ee ⟨rfl, rfl, trivial⟩, (a7.trans aI)⟩
  have H := H.2 a9
  have bX := (a6.ext aI)
  refine Lb 32 (v := .agg #[sl a t.Rows c, sl aG t.Cols aH, sl aC t.Lo aD, sl aE t.Hi aF]) rfl rfl rfl ti_29 ag_29 (fun h => by cases h) rfl bX rfl rfl (Lv ok 33 [(38, .pointer (some ⟨b, 3, none⟩))] 34 rfl rfl (Lb 34 (v := sl aE t.Hi aF) rfl rfl rfl ti_23 ag_23 (fun _ => rfl) rfl bX rfl rfl ?_))
  have bY := (bW.ext aI)
  refine Lc 35 rfl rfl rfl cal_69 rfl (spec_tSize_w _ _ _ H cF r (bU.ext aI) aQ (bV.ext aI) aL (a8.ext aI) aM bY aM bY) ?_
  rintro _ d3 ⟨aW, H, rfl, cG⟩
  refine Lv ok 36 [(41, .bool (!aW)), (42, .bool (!aW))] 38 rfl rfl (Ln _ rfl ?_)
  try refine Wo [(1, pb b), (42, .bool (!aW))] ⟨rfl, rfl, trivial⟩ fun ρ => ?_
  exact ⟨!aW, H, _, Ee ⟨rfl, rfl, trivial⟩, (((((aO.trans aS).trans aP).trans aN).trans aI).trans cG)⟩
 rintro cH _ cI ⟨H, ρ, rfl, X28⟩
 subst hk
 refine Wc (cH) rfl (fun bA => ?_) (fun bA => ?_)
 ·have H := H.1 bA
  refine Wq (Wg (Lv ok 0 [(2, .bool false)] 1 rfl rfl (Ln _ rfl (W_ret ?_))))
  exact ⟨_, Ret_of [.bool false] ⟨⟨rfl, rfl⟩, trivial⟩, _, H, rfl, (X20.stepx X28).ext⟩
 have H := H.2 bA
 refine Wk (Wq (Wq (Wg (Lv ok 0 [(43, .pointer (some ⟨b, 2, none⟩))] 1 rfl rfl ?_))))
 have bZ := (aZ.ext X28)
 refine Lb 1 (v := sl aC t.Lo aD) rfl rfl rfl ti_23 ag_23 (fun _ => rfl) rfl bZ rfl rfl (Lv ok 2 [(45, I (ln t.Lo)), (46, I 0)] 4 rfl rfl (Ln _ rfl (W_block ?_)))
 obtain ⟨J, m, Hx, H⟩ := H
 refine W_loop (S := Int) (fun s ρ' w' => J s ∧ ∃ (ρ : Env), ρ' = setAll [(1, pb b), (45, I (ln t.Lo)), (46, I s)] ρ ∧ Ext cI w') (fun s => m s) 0 ⟨Hx, _, Ee ⟨rfl, rfl, rfl, trivial⟩, (Ext.refl _)⟩ ?_
 rintro aA _ cJ ⟨Hi, ρ, rfl, X79⟩
 have H := H aA Hi
 refine Wq (Wg (Lv ok 0 [(47, .bool (decide (aA < (ln t.Lo))))] 1 rfl rfl (Ln _ rfl (Wq ?_))))
 refine Wc (decide (aA < (ln t.Lo))) rfl (fun bB => ?_) (fun bB => ?_)
 ·have H := H.1 bB
  refine Wk (Wq (W_block (Wq (Wg (Lv ok 0 [(48, I aA), (3, I aA)] 2 rfl rfl (Ln _ rfl (Wq (Wg (Lv ok 0 [(49, .pointer (some ⟨b, 2, none⟩))] 1 rfl rfl ?_)))))))))
  have b0 := (bZ.ext X79)
  refine Lb 1 (v := sl aC t.Lo aD) rfl rfl rfl ti_23 ag_23 (fun _ => rfl) rfl b0 rfl rfl (Lv ok 2 [(51, I aA)] 3 rfl rfl ?_)
  obtain ⟨aJ, hi, cK, H⟩ := H
  refine Li 3 rfl rfl rfl Try.underlying23 ti_22 rfl rfl aL hi cK fun d4 cs cL d => ?_
  have b1 := (X28.trans X79)
  have b2 := (bN.ext b1)
  refine Lo 4 rfl rfl rfl ti_22 ag_22 rfl cL d b2 fun d5 cM => ?_
  have cN := cM.slice
  obtain ⟨d6, d7, rfl⟩ := cN.shape
  refine Lv ok 5 [(54, I (ln aJ)), (55, I 0)] 7 rfl rfl (Ln _ rfl (W_block ?_))
  obtain ⟨J96, cO, Hx98, H⟩ := H
  refine W_loop (S := Int) (fun s ρ' w' => J96 s ∧ ∃ (ρ : Env), ρ' = setAll [(1, pb b), (3, I aA), (45, I (ln t.Lo)), (46, I aA), (54, I (ln aJ)), (55, I s)] ρ ∧ Ext cJ w') (fun s => cO s) 0 ⟨Hx98, _, Ee ⟨rfl, rfl, rfl, rfl, rfl, rfl, trivial⟩, (Ext.refl _)⟩ ?_
  rintro aB _ cP ⟨Hi, ρ, rfl, X95⟩
  have H := H aB Hi
  refine Wq (Wg (Lv ok 0 [(56, .bool (decide (aB < (ln aJ))))] 1 rfl rfl (Ln _ rfl (Wq ?_))))
  refine Wc (decide (aB < (ln aJ))) rfl (fun bC => ?_) (fun bC => ?_)
  ·have H := H.1 bC
   refine Wk (Wq (W_block (Wq (Wg (Lv ok 0 [(57, I aB), (4, I aB)] 2 rfl rfl (Ln _ rfl ?_))))))
   have b3 := (b1.trans X95)
   have b4 := (b2.ext X95)
   have aX := (bO.ext b3)
   have bD := (b0.ext X95)
   obtain ⟨cQ, cR, H⟩ := jn_elim H
   refine W_join2 (S := Bool) (fun s ρ' w' => cQ s ∧ ∃ (ρ : Env), ρ' = setAll [(1, pb b), (3, I aA), (45, I (ln t.Lo)), (46, I aA), (54, I (ln aJ)), (55, I aB), (87, .bool s)] ρ ∧ Ext cP w') ?_ ?_
   ·refine W_quiet mix (by kernel_rfl) ?_
    refine QP_ev ok 0 [(58, .pointer (some ⟨b, 3, none⟩))] 1 rfl rfl ?_
    refine QP_ldbox 1 (v := sl aE t.Hi aF) rfl rfl rfl ti_23 ag_23 (fun _ => rfl) rfl bD rfl rfl ?_
    refine QP_ev ok 2 [(60, I aA)] 3 rfl rfl ?_
    obtain ⟨d8, cS, cT, H⟩ := H
    refine QP_index 3 rfl rfl rfl Try.underlying23 ti_22 rfl rfl aM cS cT fun d9 eA cU cV => ?_
    refine QP_load 4 rfl rfl rfl ti_22 ag_22 rfl cU cV aX fun eB cW => ?_
    have b5 := cW.slice
    obtain ⟨eC, eD, rfl⟩ := b5.shape
    refine QP_ev ok 5 [(63, I aB)] 6 rfl rfl ?_
    obtain ⟨eE, cX, cY, H⟩ := H
    refine QP_index 6 rfl rfl rfl Try.underlying22 ti_3 rfl rfl b5 cX cY fun eF eG cZ c0 => ?_
    refine QP_load 7 rfl rfl rfl ti_3 ag_3 rfl cZ c0 aX fun eH c1 => ?_
    obtain rfl := c1.int
    obtain ⟨aY, Hd, H⟩ := H
    refine QP_call (.bool aY) 8 rfl rfl rfl cal_56 rfl (fun c2 eI => (spec_l1In_w _ _ _ _ Hd c2 ).mono ?_) ?_
    ·rintro _ _ ⟨_, rfl, rfl, x⟩; exact ⟨rfl, x⟩
    refine QP_ev ok 9 [(67, .bool (!aY)), (68, .bool (!aY))] 11 rfl rfl ?_
    refine QP_split 68 (!aY) rfl (fun bE => ?_) (fun bE => ?_)
    ·have H := H.1 bE
     refine QP_ev ok 11 [(69, undef), (70, undef), (71, undef), (72, undef), (73, undef), (74, undef), (75, undef), (76, undef), (77, undef), (78, undef), (79, undef), (80, undef), (81, undef), (82, undef), (83, undef), (84, undef), (85, undef), (86, undef), (87, .bool true)] 30 rfl rfl ?_
     refine QP_end _ rfl fun eJ c3 => ?_
     try refine Wo [(1, pb b), (3, I aA), (45, I (ln t.Lo)), (46, I aA), (54, I (ln aJ)), (55, I aB), (87, .bool true)] ⟨rfl, rfl, rfl, rfl, rfl, rfl, rfl, trivial⟩ fun ρ => ?_
     exact ⟨true, H, _, Ee ⟨rfl, rfl, rfl, rfl, rfl, rfl, rfl, trivial⟩, c3⟩
    have H := H.2 bE
    refine QP_ev ok 11 [(69, .pointer (some ⟨b, 2, none⟩))] 12 rfl rfl ?_
    refine QP_ldbox 12 (v := sl aC t.Lo aD) rfl rfl rfl ti_23 ag_23 (fun _ => rfl) rfl bD rfl rfl ?_
    refine QP_ev ok 13 [(71, I aA)] 14 rfl rfl ?_
    obtain ⟨c4, c5, c6, H⟩ := H
    refine QP_index 14 rfl rfl rfl Try.underlying23 ti_22 rfl rfl aL c5 c6 fun c7 eK c8 c9 => ?_
    refine QP_load 15 rfl rfl rfl ti_22 ag_22 rfl c8 c9 b4 fun eL dA => ?_
    have b6 := dA.slice
    obtain ⟨dB, dC, rfl⟩ := b6.shape
    refine QP_ev ok 16 [(74, I aB)] 17 rfl rfl ?_
    obtain ⟨dD, dE, dF, H⟩ := H
    refine QP_index 17 rfl rfl rfl Try.underlying22 ti_3 rfl rfl b6 dE dF fun dG eM dH dI => ?_
    refine QP_load 18 rfl rfl rfl ti_3 ag_3 rfl dH dI b4 fun eN dJ => ?_
    obtain rfl := dJ.int
    refine QP_ev ok 19 [(77, .pointer (some ⟨b, 3, none⟩))] 20 rfl rfl ?_
    refine QP_ldbox 20 (v := sl aE t.Hi aF) rfl rfl rfl ti_23 ag_23 (fun _ => rfl) rfl bD rfl rfl ?_
    refine QP_ev ok 21 [(79, I aA)] 22 rfl rfl ?_
    obtain ⟨dK, dL, dM, H⟩ := H
    refine QP_index 22 rfl rfl rfl Try.underlying23 ti_22 rfl rfl aM dL dM fun dN eO dO dP => ?_
    refine QP_load 23 rfl rfl rfl ti_22 ag_22 rfl dO dP aX fun eP dQ => ?_
    have b7 := dQ.slice
    obtain ⟨dR, dS, rfl⟩ := b7.shape
    refine QP_ev ok 24 [(82, I aB)] 25 rfl rfl ?_
    obtain ⟨dT, dU, dV, H⟩ := H
    refine QP_index 25 rfl rfl rfl Try.underlying22 ti_3 rfl rfl b7 dU dV fun dW eQ dX dY => ?_
    refine QP_load 26 rfl rfl rfl ti_3 ag_3 rfl dX dY aX fun eR dZ => ?_
    obtain rfl := dZ.int
    obtain ⟨aK, Hd183, H⟩ := H
    refine QP_call (.bool aK) 27 rfl rfl rfl cal_56 rfl (fun d0 eS => (spec_l1In_w _ _ _ _ Hd183 d0 ).mono ?_) ?_
    ·rintro _ _ ⟨_, rfl, rfl, x⟩; exact ⟨rfl, x⟩
    refine QP_ev ok 28 [(86, .bool (!aK)), (87, .bool (!aK))] 30 rfl rfl ?_
    refine QP_end _ rfl fun eT d1 => ?_
    try refine Wo [(1, pb b), (3, I aA), (45, I (ln t.Lo)), (46, I aA), (54, I (ln aJ)), (55, I aB), (69, .pointer (some ⟨b, 2, none⟩)), (70, sl aC t.Lo aD), (71, I aA), (72, .pointer (some c7)), (73, sl dB c4 dC), (74, I aB), (75, .pointer (some dG)), (76, I dD), (77, .pointer (some ⟨b, 3, none⟩)), (78, sl aE t.Hi aF), (79, I aA), (80, .pointer (some dN)), (81, sl dR dK dS), (82, I aB), (83, .pointer (some dW)), (84, I dT), (85, .bool aK), (86, .bool (!aK)), (87, .bool (!aK))] ⟨rfl, rfl, rfl, rfl, rfl, rfl, rfl, rfl, rfl, rfl, rfl, rfl, rfl, rfl, rfl, rfl, rfl, rfl, rfl, rfl, rfl, rfl, rfl, rfl, rfl, trivial⟩ fun ρ => ?_
    exact ⟨!aK, H, _, Ee ⟨rfl, rfl, rfl, rfl, rfl, rfl, rfl, trivial⟩, d1⟩
   rintro d2 _ eU ⟨H, ρ, rfl, X110⟩
   subst cR
   refine Wc (d2) rfl (fun bF => ?_) (fun bF => ?_)
   ·have H := H.1 bF
    refine Wq (Wg (Lv ok 0 [(2, .bool false)] 1 rfl rfl (Ln _ rfl (W_ret ?_))))
    exact ⟨_, Ret_of [.bool false] ⟨⟨rfl, rfl⟩, trivial⟩, _, H, rfl, ((X20.stepx b3).stepx X110).ext⟩
   have H := H.2 bF
   refine Wk (Wg (Lv ok 0 [(88, I (wr (aB + 1))), (55, I (wr (aB + 1)))] 2 rfl rfl ?_))
   exact Ln _ rfl ⟨wr (aB + 1), ⟨H.1, _, Ee ⟨rfl, rfl, rfl, rfl, rfl, rfl, trivial⟩, (X95.trans X110)⟩, H.2⟩
  have H := H.2 bC
  refine W_exit ?_
  refine (if_pos rfl).mpr ?_
  refine Wg (Lv ok 0 [(89, I (wr (aA + 1))), (46, I (wr (aA + 1)))] 2 rfl rfl ?_)
  exact Ln _ rfl ⟨wr (aA + 1), ⟨H.1, _, Ee ⟨rfl, rfl, rfl, trivial⟩, (X79.trans X95)⟩, H.2⟩
 have H := H.2 bB
 refine W_exit ?_
 refine (if_pos rfl).mpr ?_
 refine Wq (Wg (Lv ok 0 [(2, .bool true)] 1 rfl rfl (Ln _ rfl (W_ret ?_))))
 exact ⟨_, Ret_of [.bool true] ⟨⟨rfl, rfl⟩, trivial⟩, _, H, rfl, (X20.stepx (X28.trans X79)).ext⟩

theorem spec_tSum_w (l : List Int) (Q : Int → Prop) (H : spec_tSum l Q) (w : World) {vx : Value} {hx : PH} (r : RS hx vx l) (ex : Sub hx w) :
  CallsTo Try.prog 67 #[vx] w fun v w' => ∃ aB, Q aB ∧ v = I aB ∧ Ext w w' := by
 obtain ⟨a, c, rfl⟩ := r.shape
 refine enter (args := [sl a l c]) 17 Try.func67 rfl rfl rfl ?_
 refine Wo [(0, sl a l c)] ⟨rfl, trivial⟩ fun ρ => ?_
 have X := Br emp w
 refine Wq (Wg (Lv ok 0 [(2, I 0)] 1 rfl rfl (Ln _ rfl (Wq (Wg (Lv ok 0 [(3, I 0)] 1 rfl rfl (Ln _ rfl (Wq (Wq (Wg (Lv ok 0 [(6, sl a l c), (7, I (ln l)), (8, I 0)] 3 rfl rfl ?_)))))))))))
 refine Ln _ rfl (W_block ?_)
 obtain ⟨J, m, Hx, H⟩ := H
 refine W_loop (S := Int × Int) (fun s ρ' w' => J s.1 s.2 ∧ ∃ (ρ : Env), ρ' = setAll [(3, I s.1), (6, sl a l c), (7, I (ln l)), (8, I s.2)] ρ ∧ w = w') (fun s => m s.1 s.2) (0, 0) ⟨Hx, _, Ee ⟨rfl, rfl, rfl, rfl, trivial⟩, rfl⟩ ?_
 rintro ⟨sum, x⟩ _ _ ⟨Hi, ρ, rfl, rfl⟩
 have H := H sum x Hi
 refine Wq (Wg (Lv ok 0 [(9, .bool (decide (x < (ln l))))] 1 rfl rfl (Ln _ rfl (Wq ?_))))
 refine Wc (decide (x < (ln l))) rfl (fun hc => ?_) (fun hc => ?_)
 ·have H := H.1 hc
  refine Wk (Wq (W_block (Wq (Wg ?_))))
  obtain ⟨aA, hi, aC, H⟩ := H
  refine Li 0 rfl rfl rfl Try.underlying22 ti_3 rfl rfl r hi aC fun aF cs aD d => (Lo 1 rfl rfl rfl ti_3 ag_3 rfl aD d ex fun aG aE => ?_)
  obtain rfl := aE.int
  refine Lv ok 2 [(5, I aA)] 3 rfl rfl (Ln _ rfl (Wg (Lv ok 0 [(12, I sum), (13, I aA), (14, I (wr (sum + aA))), (3, I (wr (sum + aA)))] 4 rfl rfl (Ln _ rfl (Wg (Lv ok 0 [(15, I (wr (x + 1))), (8, I (wr (x + 1)))] 2 rfl rfl ?_))))))
  exact Ln _ rfl ⟨(wr (sum + aA), wr (x + 1)), ⟨H.1, _, Ee ⟨rfl, rfl, rfl, rfl, trivial⟩, rfl⟩, H.2⟩
 have H := H.2 hc
 refine W_exit ?_
 refine (if_pos rfl).mpr ?_
 refine Wq (Wg (Lv ok 0 [(16, I sum), (2, I sum)] 2 rfl rfl (Ln _ rfl (W_ret ?_))))
 exact ⟨_, Ret_of [I sum] ⟨⟨rfl, rfl⟩, trivial⟩, _, H, rfl, X.ext⟩

theorem spec_l1Own_w (l : List Int) (Q : (List Int) → Prop) (H : spec_l1Own l Q) (w : World) {vx : Value} {hx : PH} (r : RS hx vx l) (ex : Sub hx w) :
  CallsTo Try.prog 97 #[vx] w fun v w' => ∃ aB aC aA, Q aB ∧ v = aC ∧ Ext w w' ∧ OS 3 aA emp aC aB ∧ Sub aA w' ∧ Fresh w.heap.size aA := by
 obtain ⟨a, c, rfl⟩ := r.shape
 refine enter (args := [sl a l c]) 6 Try.func97 rfl rfl rfl ?_
 refine Wo [(0, sl a l c)] ⟨rfl, trivial⟩ fun ρ => ?_
 have X := Br emp w
 refine Wq (Wg (Lv ok 0 [(2, .slice none 0 0)] 1 rfl rfl (Ln _ rfl (Wq (Wg (LP_lit (α := Int) (g := emp) 0 (vs := []) (xs := []) rfl rfl rfl Try.underlying22 ti_3 rfl rfl trivial rfl rfl fun aK aL wx x o aH f => ?_))))))
 obtain ⟨aM, aN, rfl⟩ := o.shape
 refine Lv ok 1 [(4, sl a l c)] 2 rfl rfl ?_
 obtain ⟨hb, H⟩ := H
 refine LP_appendf (α := Int) 2 rfl rfl rfl Try.underlying22 ti_3 rfl rfl rfl o aH r (ex.ext x) (by first | omega | (simp only [ln] at *; omega)) (by first | omega | (simp only [ln] at *; omega)) fun aO aP aQ aD aI y dm => ?_
 obtain ⟨aE, aF, rfl⟩ := aD.shape
 refine Lv ok 3 [(2, .slice aE (List.length ((([] : List Int)) ++ l)) aF)] 4 rfl rfl (Ln _ rfl (W_ret ?_))
 have aG := f.mono X.size
 have X16 := (X.stepx x)
 have aJ := dm.fresh aG X16.size
 exact ⟨_, Ret_of [.slice aE (List.length ((([] : List Int)) ++ l)) aF] ⟨⟨rfl, rfl⟩, trivial⟩, _, _, _, H, rfl, (X16.step y (aG.dom _)).ext, aD, aI, aJ⟩

theorem spec_tOwn_w (x : List (List Int)) (Q : (List (List Int)) → Prop) (H : spec_tOwn x Q) (w : World) {vx : Value} {hx : PH} (r : RS hx vx x) (ex : Sub hx w) :
  CallsTo Try.prog 59 #[vx] w fun v w' => ∃ aJ aK aH, Q aJ ∧ v = aK ∧ Ext w w' ∧ OD aH aK aJ ∧ Sub aH w' ∧ Fresh w.heap.size aH := by
 obtain ⟨a, c, rfl⟩ := r.shape
 refine enter (args := [sl a x c]) 19 Try.func59 rfl rfl rfl ?_
 refine Wo [(0, sl a x c)] ⟨rfl, trivial⟩ fun ρ => ?_
 have X := Br emp w
 refine Wq (Wg (Lv ok 0 [(2, .slice none 0 0)] 1 rfl rfl (Ln _ rfl (Wq (Wg (Lv ok 0 [(3, .slice none 0 0)] 1 rfl rfl (Ln _ rfl (Wq (Wq (Wg (Lv ok 0 [(6, sl a x c), (7, I (ln x)), (8, I 0)] 3 rfl rfl ?_)))))))))))
 refine Ln _ rfl (W_block ?_)
 obtain ⟨J, m, Hx, H⟩ := H
 refine W_loop (S := (List (List Int)) × Int) (fun s ρ' w' => J s.1 s.2 ∧ ∃ (ρ : Env) (aI : Value) (aB : PH), ρ' = setAll [(3, aI), (6, sl a x c), (7, I (ln x)), (8, I s.2)] ρ ∧ Ext w w' ∧ OD aB aI s.1 ∧ Sub aB w' ∧ DomLe emp w.heap.size aB) (fun s => m s.1 s.2) ([], 0) ⟨Hx, _, .slice none 0 0, emp, Ee ⟨rfl, rfl, rfl, rfl, trivial⟩, (Ext.refl _), OD.nil, (emp_sub _), (fun _ _ _ => rfl)⟩ ?_
 rintro ⟨out, aA⟩ _ wx ⟨Hi, ρ, aI, aB, rfl, X7, o, aD, f⟩
 have H := H out aA Hi
 obtain ⟨aE, aF, rfl⟩ := o.shape
 refine Wq (Wg (Lv ok 0 [(9, .bool (decide (aA < (ln x))))] 1 rfl rfl (Ln _ rfl (Wq ?_))))
 refine Wc (decide (aA < (ln x))) rfl (fun hc => ?_) (fun hc => ?_)
 ·have H := H.1 hc
  refine Wk (Wq (W_block (Wq (Wg ?_))))
  obtain ⟨aL, hi, aY, H⟩ := H
  refine Li 0 rfl rfl rfl Try.underlying23 ti_22 rfl rfl r hi aY fun bA cs aZ d => ?_
  have aM := (ex.ext X7)
  refine Lo 1 rfl rfl rfl ti_22 ag_22 rfl aZ d aM fun bB a0 => ?_
  have aN := a0.slice
  obtain ⟨aO, aP, rfl⟩ := aN.shape
  refine Lv ok 2 [(5, sl aO aL aP)] 3 rfl rfl (Ln _ rfl (Wg (Lv ok 0 [(12, sl aE out aF), (13, sl aO aL aP)] 2 rfl rfl (Lc 2 rfl rfl rfl cal_97 rfl (spec_l1Own_w _ _ H wx aN aM) ?_))))
  rintro _ bC ⟨aC, bD, bE, H, rfl, aG, aQ, a1, aR⟩
  obtain ⟨a2, a3, rfl⟩ := aQ.shape
  refine LP_litD (α := List Int) 3 (vs := [sl a2 aC a3]) (xs := [aC]) rfl rfl rfl Try.underlying23 ti_22 rfl rfl (allO.one (OD.rvo (OS.od aQ))) a1 rfl rfl fun bF bG bH aS aT a4 dm => ?_
  obtain ⟨bI, bJ, rfl⟩ := aT.shape
  have dj := (Df aD aR).symm
  have a5 := (Mj dm dj (aD.ext aG)).symm
  obtain ⟨hb, H⟩ := H
  refine LP_appendD (α := List Int) 4 rfl rfl rfl Try.underlying23 ti_22 rfl rfl rfl o (aD.ext (aG.trans aS)) aT a4 a5 (by first | omega | (simp only [ln] at *; omega)) (by first | omega | (simp only [ln] at *; omega)) fun a6 bK bL hw aU a7 y dh a8 => ?_
  obtain ⟨aV, aW, rfl⟩ := aU.shape
  refine Lv ok 5 [(3, .slice aV (List.length (out ++ ([aC]))) aW)] 6 rfl rfl (Ln _ rfl (Wg (Lv ok 0 [(17, I (wr (aA + 1))), (8, I (wr (aA + 1)))] 2 rfl rfl (Ln _ rfl ?_))))
  have aX := ((X7.trans aG).trans aS)
  have dl : Fresh w.heap.size aB := (DomLe.fresh f (emp_fresh _) (Nat.le_refl _))
  exact ⟨(out ++ ([aC]), wr (aA + 1)), ⟨H.1, _, .slice aV (List.length (out ++ ([aC]))) aW, a6, Ee ⟨rfl, rfl, rfl, rfl, trivial⟩, But.ext (((Br emp _).stepx aX).step (But.dom y dh) (dl.dom _)), aU, a7, ((DomLe.fresh a8 (Fresh.un dl (DomLe.fresh dm (aR.mono X7.size) (X7.trans aG).size)) aX.size).dom _)⟩, H.2⟩
 have H := H.2 hc
 refine W_exit ?_
 refine (if_pos rfl).mpr ?_
 refine Wq (Wg (Lv ok 0 [(18, sl aE out aF), (2, sl aE out aF)] 2 rfl rfl (Ln _ rfl (W_ret ?_))))
 have a9 := DomLe.fresh f (emp_fresh _) X.size
 exact ⟨_, Ret_of [sl aE out aF] ⟨⟨rfl, rfl⟩, trivial⟩, _, _, _, H, rfl, (X.stepx X7).ext, o, aD, a9⟩

theorem spec_tColumn_w (x : List (List Int)) (j : Int) (Q : (List Int) → Prop) (H : spec_tColumn x j Q) (w : World) {vx : Value} {hx : PH} (r : RS hx vx x) (ex : Sub hx w) :
  CallsTo Try.prog 75 #[vx, I j] w fun v w' => ∃ aH aI aF, Q aH ∧ v = aI ∧ Ext w w' ∧ OS 3 aF emp aI aH ∧ Sub aF w' ∧ Fresh w.heap.size aF := by
 obtain ⟨a, c, rfl⟩ := r.shape
 refine enter (args := [sl a x c, I j]) 23 Try.func75 rfl rfl rfl ?_
 refine Wo [(0, sl a x c), (1, I j)] ⟨rfl, rfl, trivial⟩ fun ρ => ?_
 have X := Br emp w
 refine Wq (Wg (Lv ok 0 [(4, .slice none 0 0)] 1 rfl rfl (Ln _ rfl (Wq (Wg (Lv ok 0 [(5, .slice none 0 0)] 1 rfl rfl (Ln _ rfl (Wq (Wq (Wg (Lv ok 0 [(8, sl a x c), (9, I (ln x)), (10, I 0)] 3 rfl rfl ?_)))))))))))
 refine Ln _ rfl (W_block ?_)
 obtain ⟨J, m, Hx, H⟩ := H
 refine W_loop (S := (List Int) × Int) (fun s ρ' w' => J s.1 s.2 ∧ ∃ (ρ : Env) (aG : Value) (aB : PH), ρ' = setAll [(1, I j), (5, aG), (8, sl a x c), (9, I (ln x)), (10, I s.2)] ρ ∧ Ext w w' ∧ OS 3 aB emp aG s.1 ∧ Sub aB w' ∧ DomLe emp w.heap.size aB) (fun s => m s.1 s.2) ([], 0) ⟨Hx, _, .slice none 0 0, emp, Ee ⟨rfl, rfl, rfl, rfl, rfl, trivial⟩, (Ext.refl _), OS.nil, (emp_sub _), (fun _ _ _ => rfl)⟩ ?_
 rintro ⟨out, aA⟩ _ wx ⟨Hi, ρ, aG, aB, rfl, X7, o, aJ, f⟩
 have H := H out aA Hi
 obtain ⟨aD, aE, rfl⟩ := o.shape
 refine Wq (Wg (Lv ok 0 [(11, .bool (decide (aA < (ln x))))] 1 rfl rfl (Ln _ rfl (Wq ?_))))
 refine Wc (decide (aA < (ln x))) rfl (fun hc => ?_) (fun hc => ?_)
 ·have H := H.1 hc
  refine Wk (Wq (W_block (Wq (Wg ?_))))
  obtain ⟨aK, hi, aU, H⟩ := H
  refine Li 0 rfl rfl rfl Try.underlying23 ti_22 rfl rfl r hi aU fun a6 cs aV d => ?_
  have aL := (ex.ext X7)
  refine Lo 1 rfl rfl rfl ti_22 ag_22 rfl aV d aL fun a7 aW => ?_
  have aM := aW.slice
  obtain ⟨aN, aO, rfl⟩ := aM.shape
  refine Lv ok 2 [(7, sl aN aK aO)] 3 rfl rfl (Ln _ rfl (Wg (Lv ok 0 [(14, sl aD out aE), (15, sl aN aK aO), (16, I j)] 3 rfl rfl ?_)))
  obtain ⟨aC, aX, aY, H⟩ := H
  refine Li 3 rfl rfl rfl Try.underlying22 ti_3 rfl rfl aM aX aY fun a8 a9 aZ a0 => (Lo 4 rfl rfl rfl ti_3 ag_3 rfl aZ a0 aL fun bA a1 => ?_)
  obtain rfl := a1.int
  refine LP_lit (α := Int) (g := emp) 5 (vs := [I aC]) (xs := [aC]) rfl rfl rfl Try.underlying22 ti_3 rfl rfl ⟨⟨_, rfl, rfl⟩, trivial⟩ rfl rfl fun bB bC bD aP aQ a2 bE => ?_
  obtain ⟨bF, bG, rfl⟩ := aQ.shape
  obtain ⟨hb, H⟩ := H
  refine LP_appendf (α := Int) 6 rfl rfl rfl Try.underlying22 ti_3 rfl rfl rfl o (aJ.ext aP) aQ.readf a2 (by first | omega | (simp only [ln] at *; omega)) (by first | omega | (simp only [ln] at *; omega)) fun a3 bH bI aR a4 y dm => ?_
  obtain ⟨aS, aT, rfl⟩ := aR.shape
  refine Lv ok 7 [(5, .slice aS (List.length (out ++ ([aC]))) aT)] 8 rfl rfl (Ln _ rfl (Wg (Lv ok 0 [(21, I (wr (aA + 1))), (10, I (wr (aA + 1)))] 2 rfl rfl (Ln _ rfl ?_))))
  have xc := (X7.trans aP)
  have dl : Fresh w.heap.size aB := (DomLe.fresh f (emp_fresh _) (Nat.le_refl _))
  exact ⟨(out ++ ([aC]), wr (aA + 1)), ⟨H.1, _, .slice aS (List.length (out ++ ([aC]))) aT, a3, Ee ⟨rfl, rfl, rfl, rfl, rfl, trivial⟩, But.ext (((Br emp _).stepx xc).step y (dl.dom _)), aR, a4, ((dm.fresh dl xc.size).dom _)⟩, H.2⟩
 have H := H.2 hc
 refine W_exit ?_
 refine (if_pos rfl).mpr ?_
 refine Wq (Wg (Lv ok 0 [(22, sl aD out aE), (4, sl aD out aE)] 2 rfl rfl (Ln _ rfl (W_ret ?_))))
 have a5 := DomLe.fresh f (emp_fresh _) X.size
 exact ⟨_, Ret_of [sl aD out aE] ⟨⟨rfl, rfl⟩, trivial⟩, _, _, _, H, rfl, (X.stepx X7).ext, o, aJ, a5⟩

theorem spec_tStart_w (t : Transport) (Q : TFill → Bool → Prop) (H : spec_tStart t Q) (w : World) {vx : Value} {hx : PH} (r : RS hx vx t.Rows) (ex : Sub hx w) {cV : Value} {aR : PH} (b1 : RS aR cV t.Cols) (bA : Sub aR w) {cW : Value} {aO : PH} (bB : RS aO cW t.Lo) (d9 : Sub aO w) {cX : Value} {aU : PH} (cY : RS aU cX t.Hi) (b2 : Sub aU w) :
  CallsTo Try.prog 98 #[.agg #[vx, cV, cW, cX]] w fun v w' => ∃ a0 cZ u0_0 g0_0 u0_1 g0_1 u0_2 g0_2 u0_3 g0_3 u0_4 g0_4 u0_5 g0_5 u0_6 g0_6 b0_, Q a0 cZ ∧ v = .tuple #[pb b0_, .bool cZ] ∧ Ext w w' ∧ RS g0_0 u0_0 a0.T.Rows ∧ Sub g0_0 w' ∧ DomLe (un hx (un aR (un aO aU))) w.heap.size g0_0 ∧ RS g0_1 u0_1 a0.T.Cols ∧ Sub g0_1 w' ∧ DomLe (un hx (un aR (un aO aU))) w.heap.size g0_1 ∧ RS g0_2 u0_2 a0.T.Lo ∧ Sub g0_2 w' ∧ DomLe (un hx (un aR (un aO aU))) w.heap.size g0_2 ∧ RS g0_3 u0_3 a0.T.Hi ∧ Sub g0_3 w' ∧ DomLe (un hx (un aR (un aO aU))) w.heap.size g0_3 ∧ OD g0_4 u0_4 a0.X ∧ Sub g0_4 w' ∧ Fresh w.heap.size g0_4 ∧ OS 3 g0_5 emp u0_5 a0.Rows ∧ Sub g0_5 w' ∧ Fresh w.heap.size g0_5 ∧ OS 3 g0_6 emp u0_6 a0.Cols ∧ Sub g0_6 w' ∧ Fresh w.heap.size g0_6 ∧ Sub (bx b0_ 85 [u0_0, u0_1, u0_2, u0_3, u0_4, u0_5, u0_6]) w' ∧ Fresh w.heap.size (bx b0_ 85 [u0_0, u0_1, u0_2, u0_3, u0_4, u0_5, u0_6]) ∧ Dj g0_0 g0_4 ∧ Dj g0_0 g0_5 ∧ Dj g0_0 g0_6 ∧ Dj g0_0 (bx b0_ 85 [u0_0, u0_1, u0_2, u0_3, u0_4, u0_5, u0_6]) ∧ Dj g0_1 g0_4 ∧ Dj g0_1 g0_5 ∧ Dj g0_1 g0_6 ∧ Dj g0_1 (bx b0_ 85 [u0_0, u0_1, u0_2, u0_3, u0_4, u0_5, u0_6]) ∧ Dj g0_2 g0_4 ∧ Dj g0_2 g0_5 ∧ Dj g0_2 g0_6 ∧ Dj g0_2 (bx b0_ 85 [u0_0, u0_1, u0_2, u0_3, u0_4, u0_5, u0_6]) ∧ Dj g0_3 g0_4 ∧ Dj g0_3 g0_5 ∧ Dj g0_3 g0_6 ∧ Dj g0_3 (bx b0_ 85 [u0_0, u0_1, u0_2, u0_3, u0_4, u0_5, u0_6]) ∧ Dj g0_4 g0_5 ∧ Dj g0_4 g0_6 ∧ Dj g0_4 (bx b0_ 85 [u0_0, u0_1, u0_2, u0_3, u0_4, u0_5, u0_6]) ∧ Dj g0_5 g0_6 ∧ Dj g0_5 (bx b0_ 85 [u0_0, u0_1, u0_2, u0_3, u0_4, u0_5, u0_6]) ∧ Dj g0_6 (bx b0_ 85 [u0_0, u0_1, u0_2, u0_3, u0_4, u0_5, u0_6]) := by
 obtain ⟨a, c, rfl⟩ := r.shape
 obtain ⟨aD, aE, rfl⟩ := b1.shape
 obtain ⟨aB, aC, rfl⟩ := bB.shape
 obtain ⟨aF, aG, rfl⟩ := cY.shape
 refine enter (args := [.agg #[sl a t.Rows c, sl aD t.Cols aE, sl aB t.Lo aC, sl aF t.Hi aG]]) 79 Try.func98 rfl rfl rfl ?_
 refine Wo [(0, .agg #[sl a t.Rows c, sl aD t.Cols aE, sl aB t.Lo aC, sl aF t.Hi aG])] ⟨rfl, trivial⟩ fun ρ => ?_
 have D : Dom (un hx (un aR (un aO aU))) hx := (Dom.l _ _)
 have D19 : Dom (un hx (un aR (un aO aU))) aR := (Ot (Dom.r _ _) (Dom.l _ _))
 have D20 : Dom (un hx (un aR (un aO aU))) aO := (Ot (Dom.r _ _) (Ot (Dom.r _ _) (Dom.l _ _)))
 have D21 : Dom (un hx (un aR (un aO aU))) aU := (Ot (Dom.r _ _) (Ot (Dom.r _ _) (Ot (Dom.r _ _) (Or _))))
 have X := Br emp w
 refine Wq (Wg (Ly 0 (cs := [sl a t.Rows c, sl aD t.Cols aE, sl aB t.Lo aC, sl aF t.Hi aG]) rfl rfl rfl rfl rfl fun b wx x eA f => (Lv ok 1 [(2, .pointer none), (3, .bool false)] 3 rfl rfl (Ln _ rfl (Wq ?_)))))
 refine W_open mix fun f7 a1 => ?_
 refine AP_game 4 [[], [], [1], [1, 2], [0, 1, 2, 3], [0, 1, 2, 3, 4], [0, 1, 2, 3, 4, 5]] [[(1, none)], [(1, none)], [(10, some 1)], [(11, some 2)]] [(1, none), (9, some 0), (12, some 3)] [(0, false), (1, false), (2, false), (3, true)] (by kernel_rfl) (by kernel_rfl) ?_
 have a7 := (eA.ext a1)
 refine GS_r1 [(1, pb b)] (.agg #[sl a t.Rows c, sl aD t.Cols aE, sl aB t.Lo aC, sl aF t.Hi aG]) rfl rfl (fun _ h => h) (fun _ w e => ex_ldbox rfl ti_29 ag_29 (fun h => by cases h) rfl e rfl rfl) a7 ?_
 refine GS_ev ok [(1, pb b)] (.pointer (some ⟨b, 2, none⟩)) rfl rfl (fun _ h => h) (fun _ => rfl) ?_
 refine GS_r1 [(10, .pointer (some ⟨b, 2, none⟩))] (sl aB t.Lo aC) rfl rfl (fun _ h => h) (fun _ w e => ex_ldbox rfl ti_23 ag_23 (fun _ => rfl) rfl e rfl rfl) a7 ?_
 refine GS_lp [(11, sl aB t.Lo aC)] rfl rfl (fun _ h => h) rfl fun ρ eB aZ => ?_
 have xc := ((x.trans a1).trans aZ)
 have a2 := (d9.ext xc)
 refine Lc 0 rfl rfl rfl cal_59 rfl (spec_tOwn_w _ _ H eB bB a2) ?_
 rintro _ f8 ⟨aH, f9, c0, H, rfl, aS, o, c1, bC⟩
 obtain ⟨aI, aJ, rfl⟩ := o.shape
 have b3 := (aZ.trans aS)
 refine LP_gs ⟨⟨.inl rfl, .inr (a7.ext b3), trivial⟩, ?_⟩
 intro gA aN ρ hn
 refine AP_forget [(1, pb b), (9, .agg #[sl a t.Rows c, sl aD t.Cols aE, sl aB t.Lo aC, sl aF t.Hi aG]), (12, sl aI aH aJ)] (by exact hn) fun ρ => ?_
 refine AP_tail 4 [[], [], [1], [1, 2], [0, 1, 2, 3], [0, 1, 2, 3, 4], [0, 1, 2, 3, 4, 5]] (by kernel_rfl) ?_
 refine Lv ok 4 [(13, .agg #[sl a t.Rows c, sl aD t.Cols aE, sl aB t.Lo aC, sl aF t.Hi aG, sl aI aH aJ, .slice none 0 0, .slice none 0 0])] 5 rfl rfl (Ly 5 (cs := [sl a t.Rows c, sl aD t.Cols aE, sl aB t.Lo aC, sl aF t.Hi aG, sl aI aH aJ, .slice none 0 0, .slice none 0 0]) rfl rfl rfl rfl rfl fun aA b4 aT eC aK => (Lv ok 6 [(4, pb aA)] 7 rfl rfl (Ln _ rfl (Wq ?_))))
 refine Wq (Wg (Lv ok 0 [(15, pb b)] 1 rfl rfl ?_))
 have b5 := (a7.ext (((aZ.trans aS).trans aN).trans aT))
 refine Lb 1 (v := sl a t.Rows c) rfl rfl rfl ti_22 ag_22 (fun _ => rfl) rfl b5 rfl rfl (Lv ok 2 [(17, I (ln t.Rows)), (18, I 0)] 4 rfl rfl (Ln _ rfl (W_block ?_)))
 obtain ⟨J, m, Hx, H⟩ := H
 refine W_loop (S := Int × (List Int)) (fun s ρ' w' => J s.1 s.2 ∧ ∃ (ρ : Env) (bH : Value) (a8 : PH), ρ' = setAll [(1, pb b), (4, pb aA), (16, sl a t.Rows c), (17, I (ln t.Rows)), (18, I s.1)] ρ ∧ But (bx aA 85 [sl a t.Rows c, sl aD t.Cols aE, sl aB t.Lo aC, sl aF t.Hi aG, sl aI aH aJ, .slice none 0 0, .slice none 0 0]) b4 w' ∧ OS 3 a8 emp bH s.2 ∧ Sub a8 w' ∧ DomLe (bx aA 85 [sl a t.Rows c, sl aD t.Cols aE, sl aB t.Lo aC, sl aF t.Hi aG, sl aI aH aJ, .slice none 0 0, .slice none 0 0]) b4.heap.size a8 ∧ Sub (bx aA 85 [sl a t.Rows c, sl aD t.Cols aE, sl aB t.Lo aC, sl aF t.Hi aG, sl aI aH aJ, bH, .slice none 0 0]) w' ∧ Dj a8 (bx aA 85 [sl a t.Rows c, sl aD t.Cols aE, sl aB t.Lo aC, sl aF t.Hi aG, sl aI aH aJ, bH, .slice none 0 0])) (fun s => m s.1 s.2) (0, []) ⟨Hx, _, .slice none 0 0, emp, Ee ⟨rfl, rfl, rfl, rfl, rfl, trivial⟩, (Br _ _), OS.nil, (emp_sub _), (fun _ _ _ => rfl), eC, (fun _ => .inl rfl)⟩ ?_
 rintro ⟨aX, rows⟩ _ b6 ⟨Hi, ρ, bH, a8, rfl, HF⟩
 revert HF
 refine bb6 fun X59 bI b7 a6 c2 d => ?_
 have H := H aX rows Hi
 obtain ⟨aL, aM, rfl⟩ := bI.shape
 refine Wq (Wg (Lv ok 0 [(19, .bool (decide (aX < (ln t.Rows))))] 1 rfl rfl (Ln _ rfl (Wq ?_))))
 refine Wc (decide (aX < (ln t.Rows))) rfl (fun hc => ?_) (fun hc => ?_)
 ·have H := H.1 hc
  refine Wk (Wq (W_block (Wq (Wg (Lv ok 0 [(20, I aX)] 1 rfl rfl ?_)))))
  obtain ⟨aP, hi, eD, H⟩ := H
  refine Li 1 rfl rfl rfl Try.underlying22 ti_3 rfl rfl r hi eD fun gB cs eE eF => ?_
  have dj := (Df (ex.ext ((((x.trans a1).trans aZ).trans aS).trans aN)) aK).symm
  refine Lo 2 rfl rfl rfl ti_3 ag_3 rfl eE eF ((ex.ext (((((x.trans a1).trans aZ).trans aS).trans aN).trans aT)).but X59 dj) fun gC eG => ?_
  obtain rfl := eG.int
  refine Lv ok 3 [(5, I aX), (6, I aP)] 5 rfl rfl (Ln _ rfl ?_)
  refine W_open mix fun gD bJ => ?_
  refine AP_game 15 [[], [], [1], [1, 2], [1, 2, 3], [], [], [6], [], [6, 7, 8], [6, 7, 8, 9], [6, 7, 8, 9, 10], [5, 6, 7, 8, 9, 10, 11], [5, 6, 7, 8, 9, 10, 11, 12], [1, 2, 3, 4, 5, 6, 7, 8, 9, 10, 11, 12, 13], [0, 1, 2, 3, 4, 5, 6, 7, 8, 9, 10, 11, 12, 13, 14], [0, 1, 2, 3, 4, 5, 6, 7, 8, 9, 10, 11, 12, 13, 14, 15], [0, 1, 2, 3, 4, 5, 6, 7, 8, 9, 10, 11, 12, 13, 14, 15, 16]] [[(4, none)], [(4, none)], [(24, some 1)], [(25, some 2)], [(26, some 3)], [(6, none)], [(1, none)], [(29, some 6)], [(5, none)], [(30, some 7), (31, some 8)], [(32, some 9)], [(33, some 10)], [(28, some 5), (34, some 11)], [(35, some 12)], [(27, some 4), (36, some 13)]] [(1, none), (4, none), (16, none), (17, none), (18, none), (23, some 0), (37, some 14)] [(0, false), (1, false), (2, false), (3, false), (4, false), (5, false), (6, false), (7, false), (8, false), (9, false), (10, false), (11, false), (12, false), (13, true), (14, true)] (by kernel_rfl) (by kernel_rfl) ?_
  refine GS_ev ok [(4, pb aA)] (pb aA) rfl rfl (fun _ h => h) (fun _ => rfl) ?_
  refine GS_ev ok [(4, pb aA)] (pb aA) rfl rfl (fun _ h => h) (fun _ => rfl) ?_
  refine GS_ev ok [(24, pb aA)] (pb aA) rfl rfl (fun _ h => h) (fun _ => rfl) ?_
  refine GS_ev ok [(25, pb aA)] (.pointer (some ⟨aA, 5, none⟩)) rfl rfl (fun _ h => h) (fun _ => rfl) ?_
  have bK := (c2.ext bJ)
  refine GS_r1 [(26, .pointer (some ⟨aA, 5, none⟩))] (sl aL rows aM) rfl rfl (fun _ h => h) (fun _ w e => ex_ldbox rfl ti_22 ag_22 (fun _ => rfl) rfl e rfl rfl) bK ?_
  refine GS_ev ok [(6, I aP)] (I aP) rfl rfl (fun _ h => h) (fun _ => rfl) ?_
  refine GS_ev ok [(1, pb b)] (.pointer (some ⟨b, 2, none⟩)) rfl rfl (fun _ h => h) (fun _ => rfl) ?_
  have eH := (Df (a7.ext (b3.trans aN)) aK).symm
  refine GS_r1 [(29, .pointer (some ⟨b, 2, none⟩))] (sl aB t.Lo aC) rfl rfl (fun _ h => h) (fun _ w e => ex_ldbox rfl ti_23 ag_23 (fun _ => rfl) rfl e rfl rfl) ((b5.but X59 eH).ext bJ) ?_
  refine GS_ev ok [(5, I aX)] (I aX) rfl rfl (fun _ h => h) (fun _ => rfl) ?_
  obtain ⟨bL, eI, eJ, H⟩ := H
  obtain ⟨c3, gE, eK, eL, eM⟩ := run_indexAt Try.underlying23 ti_22 bB .i64 _ bL eI eJ
  refine GS_r0 [(30, sl aB t.Lo aC), (31, I aX)] (.pointer (some c3)) rfl rfl (fun _ h => h) (fun _ _ => ex_index rfl rfl rfl (eK _)) ?_
  obtain ⟨gF, eN, eO⟩ := run_loadAt ti_22 ag_22 eL eM
  have c4 := eO.slice
  obtain ⟨b8, b9, rfl⟩ := c4.shape
  have eP := (Df (a2.ext (aS.trans aN)) aK).symm
  have c5 := (((a2.ext ((aS.trans aN).trans aT)).but X59 eP).ext bJ)
  refine GS_r1 [(32, .pointer (some c3))] (sl b8 bL b9) rfl rfl (fun _ h => h) (fun _ w e => ex_load rfl rfl (eN w e)) c5 ?_
  obtain ⟨aV, Hd, H⟩ := H
  refine GS_q [(33, sl b8 bL b9)] (I aV) [aO] [sl b8 bL b9] rfl rfl (fun _ h => h) rfl cal_67 (fun _ => rfl) (fun w e => (spec_tSum_w _ _ Hd w c4 e.1).mono (fun _ _ h => by obtain ⟨_, rfl, rfl, x⟩ := h; exact ⟨rfl, x⟩)) ⟨c5, trivial⟩ ?_
  refine GS_ev ok [(28, I aP), (34, I aV)] (I (wr (aP - aV))) rfl rfl (fun _ h => h) (fun _ => rfl) ?_
  refine GS_lp [(35, I (wr (aP - aV)))] rfl rfl (fun _ h => h) rfl fun ρ gG c6 => ?_
  refine LP_lit (α := Int) (g := emp) 0 (vs := [I (wr (aP - aV))]) (xs := [wr (aP - aV)]) rfl rfl rfl Try.underlying22 ti_3 rfl rfl ⟨⟨_, rfl, rfl⟩, trivial⟩ rfl rfl fun gH gI gJ c7 c8 eQ gK => ?_
  obtain ⟨eR, eS, rfl⟩ := c8.shape
  have c9 := (c6.trans c7)
  refine LP_gs ⟨⟨.inl rfl, .inl rfl, .inl rfl, .inr (bK.ext c9), trivial⟩, ?_⟩
  refine GS_lp [(27, sl aL rows aM), (36, .slice eR (List.length ([wr (aP - aV)])) eS)] rfl rfl (fun _ h => h) rfl fun ρ gL cA => ?_
  have cB := (((bJ.trans c6).trans c7).trans cA)
  obtain ⟨hb, H⟩ := H
  refine LP_appendf (α := Int) 0 rfl rfl rfl Try.underlying22 ti_3 rfl rfl rfl bI (b7.ext cB) c8.readf (eQ.ext cA) (by first | omega | (simp only [ln] at *; omega)) (by first | omega | (simp only [ln] at *; omega)) fun dA gM gN dB eT y dm => ?_
  obtain ⟨bD, bE, rfl⟩ := dB.shape
  refine LP_gs ⟨⟨.inl rfl, .inl rfl, .inl rfl, .inl rfl, trivial⟩, ?_⟩
  intro gO cC ρ eU
  refine AP_forget [(1, pb b), (4, pb aA), (16, sl a t.Rows c), (17, I (ln t.Rows)), (18, I aX), (23, pb aA), (37, .slice bD (List.length (rows ++ ([wr (aP - aV)]))) bE)] (by exact eU) fun ρ => ?_
  refine AP_tail 15 [[], [], [1], [1, 2], [1, 2, 3], [], [], [6], [], [6, 7, 8], [6, 7, 8, 9], [6, 7, 8, 9, 10], [5, 6, 7, 8, 9, 10, 11], [5, 6, 7, 8, 9, 10, 11, 12], [1, 2, 3, 4, 5, 6, 7, 8, 9, 10, 11, 12, 13], [0, 1, 2, 3, 4, 5, 6, 7, 8, 9, 10, 11, 12, 13, 14], [0, 1, 2, 3, 4, 5, 6, 7, 8, 9, 10, 11, 12, 13, 14, 15], [0, 1, 2, 3, 4, 5, 6, 7, 8, 9, 10, 11, 12, 13, 14, 15, 16]] (by kernel_rfl) ?_
  refine Lv ok 15 [(38, pb aA), (39, .pointer (some ⟨aA, 5, none⟩))] 17 rfl rfl ?_
  have dC := (c9.trans cA)
  refine Lx 17 (vs := [.slice bD (List.length (rows ++ ([wr (aP - aV)]))) bE]) (cs' := [sl a t.Rows c, sl aD t.Cols aE, sl aB t.Lo aC, sl aF t.Hi aG, sl aI aH aJ, .slice bD (List.length (rows ++ ([wr (aP - aV)]))) bE, .slice none 0 0]) rfl rfl rfl ti_22 rfl rfl rfl rfl rfl (((bK.ext dC).but y d).ext cC) rfl rfl fun gP eV dD => (Ln _ rfl (Wg (Lv ok 0 [(40, I (wr (aX + 1))), (18, I (wr (aX + 1)))] 2 rfl rfl ?_)))
  refine Ln _ rfl ?_
  have dl : DomLe (bx aA 85 [sl a t.Rows c, sl aD t.Cols aE, sl aB t.Lo aC, sl aF t.Hi aG, sl aI aH aJ, .slice none 0 0, .slice none 0 0]) b4.heap.size a8 := (Mt (Oe (Or _) _) a6 (Nat.le_refl _))
  have dE := (bK.ext dC)
  have eW := (Mj dm d dE).symm
  have eX : Dj dA (bx aA 85 [sl a t.Rows c, sl aD t.Cols aE, sl aB t.Lo aC, sl aF t.Hi aG, sl aI aH aJ, .slice bD (List.length (rows ++ ([wr (aP - aV)]))) bE, .slice none 0 0]) := (Db (Mj dm d dE).symm).symm
  exact ⟨(wr (aX + 1), rows ++ ([wr (aP - aV)])), ⟨H.1, _, .slice bD (List.length (rows ++ ([wr (aP - aV)]))) bE, dA, Ee ⟨rfl, rfl, rfl, rfl, rfl, trivial⟩, ((((((Br (bx aA 85 [sl a t.Rows c, sl aD t.Cols aE, sl aB t.Lo aC, sl aF t.Hi aG, sl aI aH aJ, .slice none 0 0, .slice none 0 0]) _).step X59 (Oe (Or _) _)).stepx cB).step y dl).stepx cC).step dD (Md (Or _) Sd)), dB, ((eT.ext cC).but dD eW), (Mt dl dm (Nat.le_trans X59.size cB.size)), eV, eX⟩, H.2⟩
 have H := H.2 hc
 refine W_exit ?_
 refine (if_pos rfl).mpr ?_
 refine Wq (Wq (Wg (Lv ok 0 [(41, .pointer (some ⟨b, 1, none⟩))] 1 rfl rfl ?_)))
 have dF := (a7.ext (b3.trans aN))
 have eY := (Df dF aK).symm
 have dG := (b5.but X59 eY)
 refine Lb 1 (v := sl aD t.Cols aE) rfl rfl rfl ti_22 ag_22 (fun _ => rfl) rfl dG rfl rfl (Lv ok 2 [(43, I (ln t.Cols)), (44, I 0)] 4 rfl rfl (Ln _ rfl (W_block ?_)))
 obtain ⟨J153, eZ, Hx155, H⟩ := H
 refine W_loop (S := Int × (List Int)) (fun s ρ' w' => J153 s.1 s.2 ∧ ∃ (ρ : Env) (bM : Value) (a9 : PH), ρ' = setAll [(1, pb b), (4, pb aA), (42, sl aD t.Cols aE), (43, I (ln t.Cols)), (44, I s.1)] ρ ∧ But (bx aA 85 [sl a t.Rows c, sl aD t.Cols aE, sl aB t.Lo aC, sl aF t.Hi aG, sl aI aH aJ, sl aL rows aM, .slice none 0 0]) b6 w' ∧ OS 3 a9 emp bM s.2 ∧ Sub a9 w' ∧ DomLe (bx aA 85 [sl a t.Rows c, sl aD t.Cols aE, sl aB t.Lo aC, sl aF t.Hi aG, sl aI aH aJ, sl aL rows aM, .slice none 0 0]) b6.heap.size a9 ∧ Sub (bx aA 85 [sl a t.Rows c, sl aD t.Cols aE, sl aB t.Lo aC, sl aF t.Hi aG, sl aI aH aJ, sl aL rows aM, bM]) w' ∧ Dj a9 (bx aA 85 [sl a t.Rows c, sl aD t.Cols aE, sl aB t.Lo aC, sl aF t.Hi aG, sl aI aH aJ, sl aL rows aM, bM])) (fun s => eZ s.1 s.2) (0, []) ⟨Hx155, _, .slice none 0 0, emp, Ee ⟨rfl, rfl, rfl, rfl, rfl, trivial⟩, (Br _ _), OS.nil, (emp_sub _), (fun _ _ _ => rfl), c2, (fun _ => .inl rfl)⟩ ?_
 rintro ⟨aY, cols⟩ _ dH ⟨Hi, ρ, bM, a9, rfl, HF⟩
 revert HF
 refine bb6 fun X152 bN cD a3 bO bP => ?_
 have H := H aY cols Hi
 obtain ⟨a4, a5, rfl⟩ := bN.shape
 refine Wq (Wg (Lv ok 0 [(45, .bool (decide (aY < (ln t.Cols))))] 1 rfl rfl (Ln _ rfl (Wq ?_))))
 refine Wc (decide (aY < (ln t.Cols))) rfl (fun cE => ?_) (fun cE => ?_)
 ·have H := H.1 cE
  refine Wk (Wq (W_block (Wq (Wg (Lv ok 0 [(46, I aY)] 1 rfl rfl ?_)))))
  obtain ⟨aQ, e0, e1, H⟩ := H
  refine Li 1 rfl rfl rfl Try.underlying22 ti_3 rfl rfl b1 e0 e1 fun gQ gR e2 e3 => ?_
  have dI := (bA.ext ((((x.trans a1).trans aZ).trans aS).trans aN))
  have e4 := (Df dI aK).symm
  have e5 : Dj (bx aA 85 [sl a t.Rows c, sl aD t.Cols aE, sl aB t.Lo aC, sl aF t.Hi aG, sl aI aH aJ, sl aL rows aM, .slice none 0 0]) aR := (Db (Df dI aK).symm)
  refine Lo 2 rfl rfl rfl ti_3 ag_3 rfl e2 e3 (((bA.ext (((((x.trans a1).trans aZ).trans aS).trans aN).trans aT)).but X59 e4).but X152 e5) fun gS e6 => ?_
  obtain rfl := e6.int
  refine Lv ok 3 [(7, I aY), (8, I aQ)] 5 rfl rfl (Ln _ rfl ?_)
  refine W_open mix fun gT bQ => ?_
  refine AP_game 14 [[], [], [1], [1, 2], [1, 2, 3], [], [], [6], [], [6, 7, 8], [6, 7, 8, 9], [5, 6, 7, 8, 9, 10], [5, 6, 7, 8, 9, 10, 11], [1, 2, 3, 4, 5, 6, 7, 8, 9, 10, 11, 12], [0, 1, 2, 3, 4, 5, 6, 7, 8, 9, 10, 11, 12, 13], [0, 1, 2, 3, 4, 5, 6, 7, 8, 9, 10, 11, 12, 13, 14], [0, 1, 2, 3, 4, 5, 6, 7, 8, 9, 10, 11, 12, 13, 14, 15]] [[(4, none)], [(4, none)], [(50, some 1)], [(51, some 2)], [(52, some 3)], [(8, none)], [(1, none)], [(55, some 6)], [(7, none)], [(56, some 7), (57, some 8)], [(58, some 9)], [(54, some 5), (59, some 10)], [(60, some 11)], [(53, some 4), (61, some 12)]] [(1, none), (4, none), (42, none), (43, none), (44, none), (49, some 0), (62, some 13)] [(0, false), (1, false), (2, false), (3, false), (4, false), (5, false), (6, false), (7, false), (8, false), (9, true), (10, false), (11, false), (12, true), (13, true)] (by kernel_rfl) (by kernel_rfl) ?_
  refine GS_ev ok [(4, pb aA)] (pb aA) rfl rfl (fun _ h => h) (fun _ => rfl) ?_
  refine GS_ev ok [(4, pb aA)] (pb aA) rfl rfl (fun _ h => h) (fun _ => rfl) ?_
  refine GS_ev ok [(50, pb aA)] (pb aA) rfl rfl (fun _ h => h) (fun _ => rfl) ?_
  refine GS_ev ok [(51, pb aA)] (.pointer (some ⟨aA, 6, none⟩)) rfl rfl (fun _ h => h) (fun _ => rfl) ?_
  have bR := (bO.ext bQ)
  refine GS_r1 [(52, .pointer (some ⟨aA, 6, none⟩))] (sl a4 cols a5) rfl rfl (fun _ h => h) (fun _ w e => ex_ldbox rfl ti_22 ag_22 (fun _ => rfl) rfl e rfl rfl) bR ?_
  refine GS_ev ok [(8, I aQ)] (I aQ) rfl rfl (fun _ h => h) (fun _ => rfl) ?_
  refine GS_ev ok [(1, pb b)] (.pointer (some ⟨b, 2, none⟩)) rfl rfl (fun _ h => h) (fun _ => rfl) ?_
  have e7 : Dj (bx aA 85 [sl a t.Rows c, sl aD t.Cols aE, sl aB t.Lo aC, sl aF t.Hi aG, sl aI aH aJ, sl aL rows aM, .slice none 0 0]) (bx b 29 [sl a t.Rows c, sl aD t.Cols aE, sl aB t.Lo aC, sl aF t.Hi aG]) := (Db (Df dF aK).symm)
  refine GS_r1 [(55, .pointer (some ⟨b, 2, none⟩))] (sl aB t.Lo aC) rfl rfl (fun _ h => h) (fun _ w e => ex_ldbox rfl ti_23 ag_23 (fun _ => rfl) rfl e rfl rfl) ((dG.but X152 e7).ext bQ) ?_
  refine GS_ev ok [(7, I aY)] (I aY) rfl rfl (fun _ h => h) (fun _ => rfl) ?_
  refine GS_lp [(56, sl aB t.Lo aC), (57, I aY)] rfl rfl (fun _ h => h) rfl fun ρ e8 bS => ?_
  have dJ := (a2.ext (aS.trans aN))
  have e9 := (Df dJ aK).symm
  have fA : Dj (bx aA 85 [sl a t.Rows c, sl aD t.Cols aE, sl aB t.Lo aC, sl aF t.Hi aG, sl aI aH aJ, sl aL rows aM, .slice none 0 0]) aO := (Db (Df dJ aK).symm)
  refine Lc 0 rfl rfl rfl cal_75 rfl (spec_tColumn_w _ _ _ H e8 bB ((((a2.ext ((aS.trans aN).trans aT)).but X59 e9).but X152 fA).ext (bQ.trans bS))) ?_
  rintro _ gU ⟨dK, gV, fB, H, rfl, cF, dL, fC, gW⟩
  obtain ⟨dM, dN, rfl⟩ := dL.shape
  have dO := (bR.ext (bS.trans cF))
  refine LP_gs ⟨⟨.inl rfl, .inr dO, trivial⟩, ?_⟩
  obtain ⟨aW, Hd200, H⟩ := H
  refine GS_q [(58, sl dM dK dN)] (I aW) [fB] [sl dM dK dN] rfl rfl (fun _ h => h) rfl cal_67 (fun _ => rfl) (fun w e => (spec_tSum_w _ _ Hd200 w dL.readf e.1).mono (fun _ _ h => by obtain ⟨_, rfl, rfl, x⟩ := h; exact ⟨rfl, x⟩)) ⟨fC, trivial⟩ ?_
  refine GS_ev ok [(54, I aQ), (59, I aW)] (I (wr (aQ - aW))) rfl rfl (fun _ h => h) (fun _ => rfl) ?_
  refine GS_lp [(60, I (wr (aQ - aW)))] rfl rfl (fun _ h => h) rfl fun ρ gX cG => ?_
  refine LP_lit (α := Int) (g := emp) 0 (vs := [I (wr (aQ - aW))]) (xs := [wr (aQ - aW)]) rfl rfl rfl Try.underlying22 ti_3 rfl rfl ⟨⟨_, rfl, rfl⟩, trivial⟩ rfl rfl fun gY gZ g0 cH dP fD g1 => ?_
  obtain ⟨fE, fF, rfl⟩ := dP.shape
  refine LP_gs ⟨⟨.inl rfl, .inl rfl, .inr (dO.ext (cG.trans cH)), trivial⟩, ?_⟩
  refine GS_lp [(53, sl a4 cols a5), (61, .slice fE (List.length ([wr (aQ - aW)])) fF)] rfl rfl (fun _ h => h) rfl fun ρ g2 cI => ?_
  have cJ := (((((bQ.trans bS).trans cF).trans cG).trans cH).trans cI)
  obtain ⟨g3, H⟩ := H
  refine LP_appendf (α := Int) 0 rfl rfl rfl Try.underlying22 ti_3 rfl rfl rfl bN (cD.ext cJ) dP.readf (fD.ext cI) (by first | omega | (simp only [ln] at *; omega)) (by first | omega | (simp only [ln] at *; omega)) fun dQ g4 g5 dR fG dS cK => ?_
  obtain ⟨bF, bG, rfl⟩ := dR.shape
  refine LP_gs ⟨⟨.inl rfl, .inl rfl, .inl rfl, trivial⟩, ?_⟩
  intro g6 cL ρ fH
  refine AP_forget [(1, pb b), (4, pb aA), (42, sl aD t.Cols aE), (43, I (ln t.Cols)), (44, I aY), (49, pb aA), (62, .slice bF (List.length (cols ++ ([wr (aQ - aW)]))) bG)] (by exact fH) fun ρ => ?_
  refine AP_tail 14 [[], [], [1], [1, 2], [1, 2, 3], [], [], [6], [], [6, 7, 8], [6, 7, 8, 9], [5, 6, 7, 8, 9, 10], [5, 6, 7, 8, 9, 10, 11], [1, 2, 3, 4, 5, 6, 7, 8, 9, 10, 11, 12], [0, 1, 2, 3, 4, 5, 6, 7, 8, 9, 10, 11, 12, 13], [0, 1, 2, 3, 4, 5, 6, 7, 8, 9, 10, 11, 12, 13, 14], [0, 1, 2, 3, 4, 5, 6, 7, 8, 9, 10, 11, 12, 13, 14, 15]] (by kernel_rfl) ?_
  refine Lv ok 14 [(63, pb aA), (64, .pointer (some ⟨aA, 6, none⟩))] 16 rfl rfl ?_
  have dT := ((((bS.trans cF).trans cG).trans cH).trans cI)
  refine Lx 16 (vs := [.slice bF (List.length (cols ++ ([wr (aQ - aW)]))) bG]) (cs' := [sl a t.Rows c, sl aD t.Cols aE, sl aB t.Lo aC, sl aF t.Hi aG, sl aI aH aJ, sl aL rows aM, .slice bF (List.length (cols ++ ([wr (aQ - aW)]))) bG]) rfl rfl rfl ti_22 rfl rfl rfl rfl rfl (((bR.ext dT).but dS bP).ext cL) rfl rfl fun g7 fI dU => (Ln _ rfl (Wg ?_))
  refine Lv ok 0 [(65, I (wr (aY + 1))), (44, I (wr (aY + 1)))] 2 rfl rfl (Ln _ rfl ?_)
  have dV : DomLe (bx aA 85 [sl a t.Rows c, sl aD t.Cols aE, sl aB t.Lo aC, sl aF t.Hi aG, sl aI aH aJ, sl aL rows aM, .slice none 0 0]) b6.heap.size a9 := (Mt (Oe (Or _) _) a3 (Nat.le_refl _))
  have dW := (bR.ext dT)
  have fJ := (Mj cK bP dW).symm
  have fK : Dj dQ (bx aA 85 [sl a t.Rows c, sl aD t.Cols aE, sl aB t.Lo aC, sl aF t.Hi aG, sl aI aH aJ, sl aL rows aM, .slice bF (List.length (cols ++ ([wr (aQ - aW)]))) bG]) := (Db (Mj cK bP dW).symm).symm
  exact ⟨(wr (aY + 1), cols ++ ([wr (aQ - aW)])), ⟨H.1, _, .slice bF (List.length (cols ++ ([wr (aQ - aW)]))) bG, dQ, Ee ⟨rfl, rfl, rfl, rfl, rfl, trivial⟩, ((((((Br (bx aA 85 [sl a t.Rows c, sl aD t.Cols aE, sl aB t.Lo aC, sl aF t.Hi aG, sl aI aH aJ, sl aL rows aM, .slice none 0 0]) _).step X152 (Oe (Or _) _)).stepx cJ).step dS dV).stepx cL).step dU (Md (Or _) Sd)), dR, ((fG.ext cL).but dU fJ), (Mt dV cK (Nat.le_trans X152.size cJ.size)), fI, fK⟩, H.2⟩
 have H := H.2 cE
 refine W_exit ?_
 refine (if_pos rfl).mpr ?_
 have bT := (((((x.trans a1).trans aZ).trans aS).trans aN).trans aT)
 have bU := ((((x.trans a1).trans aZ).trans aS).trans aN)
 have X248 := (X.stepx bU)
 have cM := aK.mono X248.size
 have cN := aK.mono X248.size
 have bV := (ex.ext bU)
 have cO := (Df bV aK).symm
 have dX : Dj (bx aA 85 [sl a t.Rows c, sl aD t.Cols aE, sl aB t.Lo aC, sl aF t.Hi aG, sl aI aH aJ, sl aL rows aM, .slice none 0 0]) hx := (Db (Df bV aK).symm)
 have bW := (bA.ext bU)
 have cP := (Df bW aK).symm
 have dY : Dj (bx aA 85 [sl a t.Rows c, sl aD t.Cols aE, sl aB t.Lo aC, sl aF t.Hi aG, sl aI aH aJ, sl aL rows aM, .slice none 0 0]) aR := (Db (Df bW aK).symm)
 have bX := (a2.ext (aS.trans aN))
 have cQ := (Df bX aK).symm
 have dZ : Dj (bx aA 85 [sl a t.Rows c, sl aD t.Cols aE, sl aB t.Lo aC, sl aF t.Hi aG, sl aI aH aJ, sl aL rows aM, .slice none 0 0]) aO := (Db (Df bX aK).symm)
 have bY := (b2.ext bU)
 have cR := (Df bY aK).symm
 have d0 : Dj (bx aA 85 [sl a t.Rows c, sl aD t.Cols aE, sl aB t.Lo aC, sl aF t.Hi aG, sl aI aH aJ, sl aL rows aM, .slice none 0 0]) aU := (Db (Df bY aK).symm)
 have bZ := (c1.ext aN)
 have cS := (Df bZ aK).symm
 have d1 : Dj (bx aA 85 [sl a t.Rows c, sl aD t.Cols aE, sl aB t.Lo aC, sl aF t.Hi aG, sl aI aH aJ, sl aL rows aM, .slice none 0 0]) c0 := (Db (Df bZ aK).symm)
 have fL := bC.mono (X.stepx xc).size
 have d2 := (b7.but X152 d.symm)
 have X278 := (X248.stepx aT)
 have fM := DomLe.fresh a6 cM X278.size
 have fN := DomLe.fresh a3 (Fresh.box cN) (X278.step X59 (cM.dom _)).size
 obtain ⟨k, hk, H⟩ := jn_elim H
 refine W_join2 (S := Bool) (fun s ρ' w' => k s ∧ ∃ (ρ : Env), ρ' = setAll [(2, pb aA), (3, .bool s)] ρ ∧ Ext dH w') ?_ ?_
 ·refine Wg (Lv ok 0 [(66, pb aA), (67, pb aA), (68, pb aA), (69, .pointer (some ⟨aA, 5, none⟩))] 4 rfl rfl (Lb 4 (v := sl aL rows aM) rfl rfl rfl ti_22 ag_22 (fun _ => rfl) rfl bO rfl rfl (Lc 5 rfl rfl rfl cal_68 rfl (spec_l1All_w _ _ _ _ H dH bI.readf d2) ?_)))
  rintro _ fO ⟨d3, H, rfl, b0⟩
  refine Lv ok 6 [(72, .bool d3)] 7 rfl rfl ?_
  refine LP_split 72 (d3) rfl (fun cT => ?_) (fun cT => ?_)
  ·have H := H.1 cT
   refine Lv ok 7 [(73, pb aA), (74, pb aA), (75, .pointer (some ⟨aA, 6, none⟩))] 10 rfl rfl (Lb 10 (v := sl a4 cols a5) rfl rfl rfl ti_22 ag_22 (fun _ => rfl) rfl (bO.ext b0) rfl rfl (Lc 11 rfl rfl rfl cal_68 rfl (spec_l1All_w _ _ _ _ H fO bN.readf (cD.ext b0)) ?_))
   rintro _ g8 ⟨cU, H, rfl, fP⟩
   refine Lv ok 12 [(78, .bool cU), (2, pb aA), (3, .bool cU)] 15 rfl rfl ?_
   exact Ln _ rfl ⟨cU, H, _, Ee ⟨rfl, rfl, trivial⟩, (b0.trans fP)⟩
  have H := H.2 cT
  refine Lv ok 7 [(73, undef), (74, undef), (75, undef), (76, undef), (77, undef), (78, .bool false), (2, pb aA), (3, .bool false)] 15 rfl rfl ?_
  exact Ln _ rfl ⟨false, H, _, Ee ⟨rfl, rfl, trivial⟩, b0⟩
 rintro fQ _ g9 ⟨H, ρ, rfl, X283⟩
 subst hk
 refine W_ret ?_
 have d4 := (bV.ext aT)
 have fR := (Mj a6 cO d4).symm
 have fS := (Mj a3 dX (d4.but X59 cO)).symm
 have fT : Dj hx (bx aA 85 [sl a t.Rows c, sl aD t.Cols aE, sl aB t.Lo aC, sl aF t.Hi aG, sl aI aH aJ, sl aL rows aM, sl a4 cols a5]) := (Db (Df bV aK).symm).symm
 have d5 := (bW.ext aT)
 have fU := (Mj a6 cP d5).symm
 have fV := (Mj a3 dY (d5.but X59 cP)).symm
 have fW : Dj aR (bx aA 85 [sl a t.Rows c, sl aD t.Cols aE, sl aB t.Lo aC, sl aF t.Hi aG, sl aI aH aJ, sl aL rows aM, sl a4 cols a5]) := (Db (Df bW aK).symm).symm
 have d6 := (bX.ext aT)
 have fX := (Mj a6 cQ d6).symm
 have fY := (Mj a3 dZ (d6.but X59 cQ)).symm
 have fZ : Dj aO (bx aA 85 [sl a t.Rows c, sl aD t.Cols aE, sl aB t.Lo aC, sl aF t.Hi aG, sl aI aH aJ, sl aL rows aM, sl a4 cols a5]) := (Db (Df bX aK).symm).symm
 have d7 := (bY.ext aT)
 have f0 := (Mj a6 cR d7).symm
 have f1 := (Mj a3 d0 (d7.but X59 cR)).symm
 have f2 : Dj aU (bx aA 85 [sl a t.Rows c, sl aD t.Cols aE, sl aB t.Lo aC, sl aF t.Hi aG, sl aI aH aJ, sl aL rows aM, sl a4 cols a5]) := (Db (Df bY aK).symm).symm
 have d8 := (bZ.ext aT)
 have f3 := (Mj a6 cS d8).symm
 have f4 := (Mj a3 d1 (d8.but X59 cS)).symm
 have f5 : Dj c0 (bx aA 85 [sl a t.Rows c, sl aD t.Cols aE, sl aB t.Lo aC, sl aF t.Hi aG, sl aI aH aJ, sl aL rows aM, sl a4 cols a5]) := (Db (Df bZ aK).symm).symm
 have f6 := (Mj a3 d.symm b7).symm
 exact ⟨_, Ret_of [pb aA, .bool fQ] ⟨⟨rfl, rfl⟩, ⟨rfl, rfl⟩, trivial⟩, _, _, _, _, _, _, _, _, _, _, _, _, _, _, _, _, _, H, rfl, ((((X.stepx bT).step X59 (cM.dom _)).step X152 ((Fresh.box cN).dom _)).stepx X283).ext, r, ((((ex.ext bT).but X59 cO).but X152 dX).ext X283), (Oe D _), b1, ((((bA.ext bT).but X59 cP).but X152 dY).ext X283), (Oe D19 _), bB, ((((a2.ext ((aS.trans aN).trans aT)).but X59 cQ).but X152 dZ).ext X283), (Oe D20 _), cY, ((((b2.ext bT).but X59 cR).but X152 d0).ext X283), (Oe D21 _), o, ((((c1.ext (aN.trans aT)).but X59 cS).but X152 d1).ext X283), fL, bI, (d2.ext X283), fM, bN, (cD.ext X283), fN, (bO.ext X283), (Fresh.box cN), (Df (ex.ext xc) bC), fR, fS, fT, (Df (bA.ext xc) bC), fU, fV, fW, (Df a2 bC), fX, fY, fZ, (Df (b2.ext xc) bC), f0, f1, f2, f3, f4, f5, f6, (Db d.symm).symm, bP⟩

theorem spec_tFill_room_w (f : TFill) (aA : Int) (k : Int) (Q : Int → Prop) (H : spec_tFill_room f aA k Q) (w : World) {vx : Value} {hx : PH} (r : RS hx vx f.T.Rows) (ex : Sub hx w) {aL : Value} {aM : PH} (a8 : RS aM aL f.T.Cols) (cP : Sub aM w) {aN : Value} {aO : PH} (aP : RS aO aN f.T.Lo) (aQ : Sub aO w) {aR : Value} {aS : PH} (aT : RS aS aR f.T.Hi) (aU : Sub aS w) {aV : Value} {aW : PH} (aH : RS aW aV f.X) (aC : Sub aW w) {aX : Value} {aY : PH} (a9 : RS aY aX f.Rows) (cQ : Sub aY w) {aZ : Value} {a0 : PH} (bA : RS a0 aZ f.Cols) (cR : Sub a0 w) {b : Nat} (aB : Sub (bx b 85 [vx, aL, aN, aR, aV, aX, aZ]) w) :
  CallsTo Try.prog 105 #[pb b, I aA, I k] w fun v w' => ∃ a1, Q a1 ∧ v = I a1 ∧ Ext w w' := by
 obtain ⟨a, c, rfl⟩ := r.shape
 obtain ⟨cS, cT, rfl⟩ := a8.shape
 obtain ⟨bB, bC, rfl⟩ := aP.shape
 obtain ⟨bD, bE, rfl⟩ := aT.shape
 obtain ⟨a2, a3, rfl⟩ := aH.shape
 obtain ⟨bF, bG, rfl⟩ := a9.shape
 obtain ⟨cU, cV, rfl⟩ := bA.shape
 refine enter (args := [pb b, I aA, I k]) 83 Try.func105 rfl rfl rfl ?_
 refine Wo [(0, pb b), (1, I aA), (2, I k)] ⟨rfl, rfl, rfl, trivial⟩ fun ρ => ?_
 have X := Br emp w
 refine Wq (Wg (Lv ok 0 [(6, I 0)] 1 rfl rfl (Ln _ rfl (Wq (Wg (Lv ok 0 [(8, pb b), (9, pb b), (10, .pointer (some ⟨b, 5, none⟩))] 3 rfl rfl (Lb 3 (v := sl bF f.Rows bG) rfl rfl rfl ti_22 ag_22 (fun _ => rfl) rfl aB rfl rfl (Lv ok 4 [(12, I (ln f.Rows)), (7, I (ln f.Rows))] 6 rfl rfl (Ln _ rfl (Wq ?_))))))))))
 refine W_block ?_
 obtain ⟨bH, hk, H⟩ := jn_elim H
 refine W_join2 (S := Bool) (fun s ρ' w' => bH s ∧ ∃ (ρ : Env), ρ' = setAll [(0, pb b), (1, I aA), (2, I k), (7, I (ln f.Rows)), (13, .bool s)] ρ ∧ w = w') ?_ ?_
 ·refine Wg (Lv ok 0 [(14, I aA), (15, I (ln f.Rows)), (16, .bool (decide (aA < (ln f.Rows)))), (17, .bool (decide (aA < (ln f.Rows))))] 4 rfl rfl ?_)
  refine LP_split 17 (decide (aA < (ln f.Rows))) rfl (fun hc => ?_) (fun hc => ?_)
  ·have H := H.1 hc
   refine Lv ok 4 [(18, I k), (19, I (ln f.Rows)), (20, .bool (decide (k ≥ (ln f.Rows)))), (21, .bool (decide (k ≥ (ln f.Rows)))), (13, .bool (decide (k ≥ (ln f.Rows))))] 9 rfl rfl ?_
   exact Ln _ rfl ⟨decide (k ≥ (ln f.Rows)), H, _, Ee ⟨rfl, rfl, rfl, rfl, rfl, trivial⟩, rfl⟩
  have H := H.2 hc
  refine Lv ok 4 [(18, undef), (19, undef), (20, undef), (21, .bool false), (13, .bool false)] 9 rfl rfl ?_
  exact Ln _ rfl ⟨false, H, _, Ee ⟨rfl, rfl, rfl, rfl, rfl, trivial⟩, rfl⟩
 rintro x _ _ ⟨H, ρ, rfl, rfl⟩
 subst hk
 refine Wc (x) rfl (fun aI => ?_) (fun aI => ?_)
 ·have H := H.1 aI
  refine Wq ?_
  refine W_quiet mix (by kernel_rfl) ?_
  refine QP_ev ok 0 [(22, pb b), (23, pb b), (24, pb b), (25, .pointer (some ⟨b, 3, none⟩))] 4 rfl rfl ?_
  refine QP_ldbox 4 (v := sl bD f.T.Hi bE) rfl rfl rfl ti_23 ag_23 (fun _ => rfl) rfl aB rfl rfl ?_
  refine QP_ev ok 5 [(27, I aA)] 6 rfl rfl ?_
  obtain ⟨cW, hi, bI, H⟩ := H
  refine QP_index 6 rfl rfl rfl Try.underlying23 ti_22 rfl rfl aT hi bI fun cX cs bJ d => ?_
  refine QP_load 7 rfl rfl rfl ti_22 ag_22 rfl bJ d aU fun cY bK => ?_
  have a4 := bK.slice
  obtain ⟨cZ, c0, rfl⟩ := a4.shape
  refine QP_ev ok 8 [(30, I k), (31, I (ln f.Rows)), (32, I (wr (k - (ln f.Rows))))] 11 rfl rfl ?_
  obtain ⟨aD, bL, bM, H⟩ := H
  refine QP_index 11 rfl rfl rfl Try.underlying22 ti_3 rfl rfl a4 bL bM fun c1 c2 bN bO => ?_
  refine QP_load 12 rfl rfl rfl ti_3 ag_3 rfl bN bO aU fun c3 bP => ?_
  obtain rfl := bP.int
  refine QP_ev ok 13 [(35, pb b), (36, pb b), (37, .pointer (some ⟨b, 4, none⟩))] 16 rfl rfl ?_
  refine QP_ldbox 16 (v := sl a2 f.X a3) rfl rfl rfl ti_23 ag_23 (fun _ => rfl) rfl aB rfl rfl ?_
  refine QP_ev ok 17 [(39, I aA)] 18 rfl rfl ?_
  obtain ⟨c4, bQ, bR, H⟩ := H
  refine QP_index 18 rfl rfl rfl Try.underlying23 ti_22 rfl rfl aH bQ bR fun c5 c6 bS bT => ?_
  refine QP_load 19 rfl rfl rfl ti_22 ag_22 rfl bS bT aC fun c7 bU => ?_
  have a5 := bU.slice
  obtain ⟨c8, c9, rfl⟩ := a5.shape
  refine QP_ev ok 20 [(42, I k), (43, I (ln f.Rows)), (44, I (wr (k - (ln f.Rows))))] 23 rfl rfl ?_
  obtain ⟨aE, bV, bW, H⟩ := H
  refine QP_index 23 rfl rfl rfl Try.underlying22 ti_3 rfl rfl a5 bV bW fun dA dB bX bY => ?_
  refine QP_load 24 rfl rfl rfl ti_3 ag_3 rfl bX bY aC fun dC bZ => ?_
  obtain rfl := bZ.int
  refine QP_ev ok 25 [(47, I (wr (aD - aE))), (6, I (wr (aD - aE)))] 27 rfl rfl ?_
  refine QP_end _ rfl fun dD b0 => ?_
  try refine Wo [(6, I (wr (aD - aE)))] ⟨rfl, trivial⟩ fun ρ => ?_
  refine W_ret ?_
  exact ⟨_, Ret_of [I (wr (aD - aE))] ⟨⟨rfl, rfl⟩, trivial⟩, _, H, rfl, (X.stepx b0).ext⟩
 have H := H.2 aI
 obtain ⟨b1, b2, H⟩ := jn_elim H
 refine W_join2 (S := Bool) (fun s ρ' w' => b1 s ∧ ∃ (ρ : Env), ρ' = setAll [(0, pb b), (1, I aA), (2, I k), (7, I (ln f.Rows)), (48, .bool s)] ρ ∧ w = w') ?_ ?_
 ·refine Wg (Lv ok 0 [(49, I aA), (50, I (ln f.Rows)), (51, .bool (decide (aA ≥ (ln f.Rows)))), (52, .bool (decide (aA ≥ (ln f.Rows))))] 4 rfl rfl ?_)
  refine LP_split 52 (decide (aA ≥ (ln f.Rows))) rfl (fun aJ => ?_) (fun aJ => ?_)
  ·have H := H.1 aJ
   refine Lv ok 4 [(53, I k), (54, I (ln f.Rows)), (55, .bool (decide (k < (ln f.Rows)))), (56, .bool (decide (k < (ln f.Rows)))), (48, .bool (decide (k < (ln f.Rows))))] 9 rfl rfl ?_
   exact Ln _ rfl ⟨decide (k < (ln f.Rows)), H, _, Ee ⟨rfl, rfl, rfl, rfl, rfl, trivial⟩, rfl⟩
  have H := H.2 aJ
  refine Lv ok 4 [(53, undef), (54, undef), (55, undef), (56, .bool false), (48, .bool false)] 9 rfl rfl ?_
  exact Ln _ rfl ⟨false, H, _, Ee ⟨rfl, rfl, rfl, rfl, rfl, trivial⟩, rfl⟩
 rintro b3 _ _ ⟨H, ρ, rfl, rfl⟩
 subst b2
 refine Wc (b3) rfl (fun aK => ?_) (fun aK => ?_)
 ·have H := H.1 aK
  refine Wq ?_
  refine W_quiet mix (by kernel_rfl) ?_
  refine QP_ev ok 0 [(57, pb b), (58, pb b), (59, .pointer (some ⟨b, 4, none⟩))] 3 rfl rfl ?_
  refine QP_ldbox 3 (v := sl a2 f.X a3) rfl rfl rfl ti_23 ag_23 (fun _ => rfl) rfl aB rfl rfl ?_
  refine QP_ev ok 4 [(61, I k)] 5 rfl rfl ?_
  obtain ⟨dE, b4, b5, H⟩ := H
  refine QP_index 5 rfl rfl rfl Try.underlying23 ti_22 rfl rfl aH b4 b5 fun dF dG b6 b7 => ?_
  refine QP_load 6 rfl rfl rfl ti_22 ag_22 rfl b6 b7 aC fun dH b8 => ?_
  have a6 := b8.slice
  obtain ⟨dI, dJ, rfl⟩ := a6.shape
  refine QP_ev ok 7 [(64, I aA), (65, I (ln f.Rows)), (66, I (wr (aA - (ln f.Rows))))] 10 rfl rfl ?_
  obtain ⟨aF, b9, cA, H⟩ := H
  refine QP_index 10 rfl rfl rfl Try.underlying22 ti_3 rfl rfl a6 b9 cA fun dK dL cB cC => ?_
  refine QP_load 11 rfl rfl rfl ti_3 ag_3 rfl cB cC aC fun dM cD => ?_
  obtain rfl := cD.int
  refine QP_ev ok 12 [(69, pb b), (70, pb b), (71, pb b), (72, .pointer (some ⟨b, 2, none⟩))] 16 rfl rfl ?_
  refine QP_ldbox 16 (v := sl bB f.T.Lo bC) rfl rfl rfl ti_23 ag_23 (fun _ => rfl) rfl aB rfl rfl ?_
  refine QP_ev ok 17 [(74, I k)] 18 rfl rfl ?_
  obtain ⟨dN, cE, cF, H⟩ := H
  refine QP_index 18 rfl rfl rfl Try.underlying23 ti_22 rfl rfl aP cE cF fun dO dP cG cH => ?_
  refine QP_load 19 rfl rfl rfl ti_22 ag_22 rfl cG cH aQ fun dQ cI => ?_
  have a7 := cI.slice
  obtain ⟨dR, dS, rfl⟩ := a7.shape
  refine QP_ev ok 20 [(77, I aA), (78, I (ln f.Rows)), (79, I (wr (aA - (ln f.Rows))))] 23 rfl rfl ?_
  obtain ⟨aG, cJ, cK, H⟩ := H
  refine QP_index 23 rfl rfl rfl Try.underlying22 ti_3 rfl rfl a7 cJ cK fun dT dU cL cM => ?_
  refine QP_load 24 rfl rfl rfl ti_3 ag_3 rfl cL cM aQ fun dV cN => ?_
  obtain rfl := cN.int
  refine QP_ev ok 25 [(82, I (wr (aF - aG))), (6, I (wr (aF - aG)))] 27 rfl rfl ?_
  refine QP_end _ rfl fun dW cO => ?_
  try refine Wo [(6, I (wr (aF - aG)))] ⟨rfl, trivial⟩ fun ρ => ?_
  refine W_ret ?_
  exact ⟨_, Ret_of [I (wr (aF - aG))] ⟨⟨rfl, rfl⟩, trivial⟩, _, H, rfl, (X.stepx cO).ext⟩
 have H := H.2 aK
 refine Wk (Wq (Wg (Lv ok 0 [(6, I 0)] 1 rfl rfl (Ln _ rfl (W_ret ?_)))))
 exact ⟨_, Ret_of [I 0] ⟨⟨rfl, rfl⟩, trivial⟩, _, H, rfl, X.ext⟩

theorem spec_l1Least_w (a : Int) (b : Int) (Q : Int → Prop) (H : spec_l1Least a b Q) (w : World)  :
  CallsTo Try.prog 106 #[I a, I b] w fun v w' => ∃ aA, Q aA ∧ v = I aA ∧ Ext w w' := by
 refine enter (args := [I a, I b]) 10 Try.func106 rfl rfl rfl ?_
 refine Wo [(0, I a), (1, I b)] ⟨rfl, rfl, trivial⟩ fun ρ => ?_
 have X := Br emp w
 refine Wq (Wg (Lv ok 0 [(4, I 0)] 1 rfl rfl (Ln _ rfl (Wq (Wq (Wg (Lv ok 0 [(5, I a), (6, I b), (7, .bool (decide (a < b)))] 3 rfl rfl (Ln _ rfl ?_))))))))
 refine Wc (decide (a < b)) rfl (fun hc => ?_) (fun hc => ?_)
 ·have H := H.1 hc
  refine Wq (Wg (Lv ok 0 [(8, I a), (4, I a)] 2 rfl rfl (Ln _ rfl (W_ret ?_))))
  exact ⟨_, Ret_of [I a] ⟨⟨rfl, rfl⟩, trivial⟩, _, H, rfl, X.ext⟩
 have H := H.2 hc
 refine Wk (Wq (Wg (Lv ok 0 [(9, I b), (4, I b)] 2 rfl rfl (Ln _ rfl (W_ret ?_)))))
 exact ⟨_, Ret_of [I b] ⟨⟨rfl, rfl⟩, trivial⟩, _, H, rfl, X.ext⟩

theorem spec_tFill_push_w (f : TFill) (fromx : List Int) (endx : Int) (Q : (List (List Int)) → (List Int) → (List Int) → Prop) (H : spec_tFill_push f fromx endx Q) (w : World) {vx : Value} {hx : PH} (r : RS hx vx f.T.Rows) (ex : Sub hx w) {aD : Value} {a6 : PH} (cJ : RS a6 aD f.T.Cols) (dU : Sub a6 w) {aE : Value} {a7 : PH} (cK : RS a7 aE f.T.Lo) (dV : Sub a7 w) {aF : Value} {a8 : PH} (cL : RS a8 aF f.T.Hi) (dW : Sub a8 w) {aO : Value} {aB : PH} (b3 : OD aB aO f.X) (cM : Sub aB w) {aP : Value} {aK : PH} (bD : OS 3 aK emp aP f.Rows) (cN : Sub aK w) {aQ : Value} {aL : PH} (bE : OS 3 aL emp aQ f.Cols) (bU : Sub aL w) {b : Nat} (bV : Sub (bx b 85 [vx, aD, aE, aF, aO, aP, aQ]) w) {cO : Value} {a0 : PH} (aZ : RS a0 cO fromx) (dX : Sub a0 w) (d : Dj aB aK) (dY : Dj aB aL) (dZ : Dj aB (bx b 85 [vx, aD, aE, aF, aO, aP, aQ])) (cP : Dj aK aL) (b4 : Dj aK (bx b 85 [vx, aD, aE, aF, aO, aP, aQ])) (b5 : Dj aL (bx b 85 [vx, aD, aE, aF, aO, aP, aQ])) (hJ : Dj aB hx) (hK : Dj aB a6) (hL : Dj aB a7) (hN : Dj aB a8) (d0 : Dj aB a0) (hO : Dj aK hx) (hP : Dj aK a6) (hQ : Dj aK a7) (hR : Dj aK a8) (hS : Dj aK a0) (hT : Dj aL hx) (hV : Dj aL a6) (hW : Dj aL a7) (hX : Dj aL a8) (hY : Dj aL a0) (hZ : Dj (bx b 85 [vx, aD, aE, aF, aO, aP, aQ]) hx) (h0 : Dj (bx b 85 [vx, aD, aE, aF, aO, aP, aQ]) a6) (h1 : Dj (bx b 85 [vx, aD, aE, aF, aO, aP, aQ]) a7) (h2 : Dj (bx b 85 [vx, aD, aE, aF, aO, aP, aQ]) a8) (cQ : Dj (bx b 85 [vx, aD, aE, aF, aO, aP, aQ]) a0) :
  CallsTo Try.prog 104 #[pb b, cO, I endx] w fun v w' => ∃ cR cS cT v1_ a9 v2_ bA v3_ bB, Q cR cS cT ∧ v = .tuple #[] ∧ But (un aB (un aK (un aL (bx b 85 [vx, aD, aE, aF, aO, aP, aQ])))) w w' ∧ OD a9 v1_ cR ∧ Sub a9 w' ∧ DomLe (un aB (un aK (un aL (bx b 85 [vx, aD, aE, aF, aO, aP, aQ])))) w.heap.size a9 ∧ OS 3 bA emp v2_ cS ∧ Sub bA w' ∧ DomLe (un aB (un aK (un aL (bx b 85 [vx, aD, aE, aF, aO, aP, aQ])))) w.heap.size bA ∧ OS 3 bB emp v3_ cT ∧ Sub bB w' ∧ DomLe (un aB (un aK (un aL (bx b 85 [vx, aD, aE, aF, aO, aP, aQ])))) w.heap.size bB ∧ Sub (bx b 85 [vx, aD, aE, aF, v1_, v2_, v3_]) w' ∧ Dj a9 bA ∧ Dj a9 bB ∧ Dj a9 (bx b 85 [vx, aD, aE, aF, v1_, v2_, v3_]) ∧ Dj bA bB ∧ Dj bA (bx b 85 [vx, aD, aE, aF, v1_, v2_, v3_]) ∧ Dj bB (bx b 85 [vx, aD, aE, aF, v1_, v2_, v3_]) := by
 obtain ⟨a, c, rfl⟩ := r.shape
 obtain ⟨aT, aU, rfl⟩ := cJ.shape
 obtain ⟨aV, aW, rfl⟩ := cK.shape
 obtain ⟨aX, aY, rfl⟩ := cL.shape
 obtain ⟨aI, aJ, rfl⟩ := b3.shape
 obtain ⟨aM, aN, rfl⟩ := bD.shape
 obtain ⟨aR, aS, rfl⟩ := bE.shape
 obtain ⟨aG, aH, rfl⟩ := aZ.shape
 refine enter (args := [pb b, sl aG fromx aH, I endx]) 123 Try.func104 rfl rfl rfl ?_
 refine Wo [(0, pb b), (1, sl aG fromx aH), (2, I endx)] ⟨rfl, rfl, rfl, trivial⟩ fun ρ => ?_
 obtain ⟨M, hM⟩ : ∃ M : PH, M = (un aB (un aK (un aL (bx b 85 [sl a f.T.Rows c, sl aT f.T.Cols aU, sl aV f.T.Lo aW, sl aX f.T.Hi aY, sl aI f.X aJ, sl aM f.Rows aN, sl aR f.Cols aS])))) := ⟨_, rfl⟩
 have D : Dom M aB := Dom.eqv hM (Dom.l _ _)
 have D69 : Dom M aK := Dom.eqv hM (Ot (Dom.r _ _) (Dom.l _ _))
 have D70 : Dom M aL := Dom.eqv hM (Ot (Dom.r _ _) (Ot (Dom.r _ _) (Dom.l _ _)))
 have D71 : Dom M (bx b 85 [sl a f.T.Rows c, sl aT f.T.Cols aU, sl aV f.T.Lo aW, sl aX f.T.Hi aY, sl aI f.X aJ, sl aM f.Rows aN, sl aR f.Cols aS]) := Dom.eqv hM (Ot (Dom.r _ _) (Ot (Dom.r _ _) (Ot (Dom.r _ _) (Or _))))
 have X := Br M w
 refine Wq (Wg (Lv ok 0 [(10, pb b), (11, pb b), (12, .pointer (some ⟨b, 5, none⟩))] 3 rfl rfl (Lb 3 (v := sl aM f.Rows aN) rfl rfl rfl ti_22 ag_22 (fun _ => rfl) rfl bV rfl rfl (Lv ok 4 [(14, I (ln f.Rows)), (6, I (ln f.Rows))] 6 rfl rfl (Ln _ rfl (Wq (Wg (Lv ok 0 [(15, pb b), (16, pb b), (17, .pointer (some ⟨b, 6, none⟩))] 3 rfl rfl (Lb 3 (v := sl aR f.Cols aS) rfl rfl rfl ti_22 ag_22 (fun _ => rfl) rfl bV rfl rfl ?_)))))))))
 refine Lv ok 4 [(19, I endx), (20, I (ln f.Rows)), (21, I (wr (endx - (ln f.Rows))))] 7 rfl rfl ?_
 obtain ⟨x, hi, d1, H⟩ := H
 refine Li 7 rfl rfl rfl Try.underlying22 ti_3 rfl rfl bE.readf hi d1 fun h3 cs d2 d3 => (Lo 8 rfl rfl rfl ti_3 ag_3 rfl d2 d3 bU fun h4 d4 => ?_)
 obtain rfl := d4.int
 refine Lv ok 9 [(7, I x)] 10 rfl rfl (Ln _ rfl (Wq (Wg (Lv ok 0 [(24, I endx), (8, I endx)] 2 rfl rfl (Ln _ rfl (Wq (W_block ?_)))))))
 obtain ⟨J, m, Hx, H⟩ := H
 refine W_loop (S := Int × Int) (fun s ρ' w' => J s.1 s.2 ∧ ∃ (ρ : Env), ρ' = setAll [(0, pb b), (1, sl aG fromx aH), (2, I endx), (6, I (ln f.Rows)), (7, I s.1), (8, I s.2)] ρ ∧ Ext w w') (fun s => m s.1 s.2) (x, endx) ⟨Hx, _, Ee ⟨rfl, rfl, rfl, rfl, rfl, rfl, trivial⟩, (Ext.refl _)⟩ ?_
 rintro ⟨most, start⟩ _ wx ⟨Hi, ρ, rfl, X78⟩
 have H := H most start Hi
 refine Wq (Wq (Wg (Lv ok 0 [(25, sl aG fromx aH), (26, I start)] 2 rfl rfl ?_)))
 obtain ⟨cU, d5, d6, H⟩ := H
 refine Li 2 rfl rfl rfl Try.underlying22 ti_3 rfl rfl aZ d5 d6 fun h5 h6 d7 d8 => ?_
 have bF := (dX.ext X78)
 refine Lo 3 rfl rfl rfl ti_3 ag_3 rfl d7 d8 bF fun h7 d9 => ?_
 obtain rfl := d9.int
 refine Lv ok 4 [(29, .bool (decide (cU ≥ 0)))] 5 rfl rfl (Ln _ rfl ?_)
 refine Wc (decide (cU ≥ 0)) rfl (fun hc => ?_) (fun hc => ?_)
 ·have H := H.1 hc
  refine Wk (W_block (Wq (Wg (Lv ok 0 [(30, I most), (31, pb b), (32, sl aG fromx aH), (33, I start)] 4 rfl rfl ?_))))
  obtain ⟨h8, eA, eB, H⟩ := H
  refine Li 4 rfl rfl rfl Try.underlying22 ti_3 rfl rfl aZ eA eB fun h9 iA eC eD => (Lo 5 rfl rfl rfl ti_3 ag_3 rfl eC eD bF fun iB eE => ?_)
  obtain rfl := eE.int
  refine Lv ok 6 [(36, I start)] 7 rfl rfl (Lc 7 rfl rfl rfl cal_105 rfl (spec_tFill_room_w _ _ _ _ H wx r (ex.ext X78) cJ (dU.ext X78) cK (dV.ext X78) cL (dW.ext X78) b3.readf (cM.ext X78) bD.readf (cN.ext X78) bE.readf (bU.ext X78) (bV.ext X78)) ?_)
  rintro _ eF ⟨iC, H, rfl, cV⟩
  refine Lc 8 rfl rfl rfl cal_106 rfl (spec_l1Least_w _ _ _ H eF ) ?_
  rintro _ iD ⟨cW, H, rfl, cX⟩
  refine Lv ok 9 [(7, I cW)] 10 rfl rfl (Ln _ rfl (Wg (Lv ok 0 [(39, sl aG fromx aH), (40, I start)] 2 rfl rfl ?_)))
  obtain ⟨cY, eG, eH, H⟩ := H
  refine Li 2 rfl rfl rfl Try.underlying22 ti_3 rfl rfl aZ eG eH fun iE iF eI eJ => (Lo 3 rfl rfl rfl ti_3 ag_3 rfl eI eJ (bF.ext (cV.trans cX)) fun iG eK => ?_)
  obtain rfl := eK.int
  refine Lv ok 4 [(8, I cY)] 5 rfl rfl ?_
  exact Ln _ rfl ⟨(cW, cY), ⟨H.1, _, Ee ⟨rfl, rfl, rfl, rfl, rfl, rfl, trivial⟩, ((X78.trans cV).trans cX)⟩, H.2⟩
 have H := H.2 hc
 refine W_exit ?_
 refine (if_pos rfl).mpr ?_
 refine Wq (Wg (Lv ok 0 [(43, I most), (44, pb b), (45, pb b), (46, .pointer (some ⟨b, 5, none⟩))] 4 rfl rfl ?_))
 have cZ := (bV.ext X78)
 refine Lb 4 (v := sl aM f.Rows aN) rfl rfl rfl ti_22 ag_22 (fun _ => rfl) rfl cZ rfl rfl (Lv ok 5 [(48, I start)] 6 rfl rfl ?_)
 obtain ⟨iH, eL, eM, H⟩ := H
 refine Li 6 rfl rfl rfl Try.underlying22 ti_3 rfl rfl bD.readf eL eM fun iI iJ eN eO => ?_
 have b6 := (cN.ext X78)
 refine Lo 7 rfl rfl rfl ti_3 ag_3 rfl eN eO b6 fun iK eP => ?_
 obtain rfl := eP.int
 refine Lc 8 rfl rfl rfl cal_106 rfl (spec_l1Least_w _ _ _ H wx ) ?_
 rintro _ b7 ⟨aC, H, rfl, a1⟩
 refine Lv ok 9 [(7, I aC)] 10 rfl rfl (Ln _ rfl (Wq (Wq (Wg (Lv ok 0 [(52, I endx), (9, I endx)] 2 rfl rfl (Ln _ rfl (W_block ?_)))))))
 obtain ⟨U, hU⟩ : ∃ U : PH, U = (un aB (bx b 85 [sl a f.T.Rows c, sl aT f.T.Cols aU, sl aV f.T.Lo aW, sl aX f.T.Hi aY, sl aI f.X aJ, sl aM f.Rows aN, sl aR f.Cols aS])) := ⟨_, rfl⟩
 have D144 : Dom U aB := Dom.eqv hU (Dom.l _ _)
 have D145 : Dom U (bx b 85 [sl a f.T.Rows c, sl aT f.T.Cols aU, sl aV f.T.Lo aW, sl aX f.T.Hi aY, sl aI f.X aJ, sl aM f.Rows aN, sl aR f.Cols aS]) := Dom.eqv hU (Ot (Dom.r _ _) (Or _))
 obtain ⟨J149, eQ, Hx151, H⟩ := H
 refine W_loop (S := Int × (List (List Int))) (fun s ρ' w' => J149 s.1 s.2 ∧ ∃ (ρ : Env) (a2 : PH), ρ' = setAll [(0, pb b), (1, sl aG fromx aH), (2, I endx), (6, I (ln f.Rows)), (7, I aC), (8, I start), (9, I s.1)] ρ ∧ But U b7 w' ∧ OD a2 (sl aI f.X aJ) s.2 ∧ Sub a2 w' ∧ DomLe U b7.heap.size a2 ∧ Sub (bx b 85 [sl a f.T.Rows c, sl aT f.T.Cols aU, sl aV f.T.Lo aW, sl aX f.T.Hi aY, sl aI f.X aJ, sl aM f.Rows aN, sl aR f.Cols aS]) w' ∧ Dj a2 (bx b 85 [sl a f.T.Rows c, sl aT f.T.Cols aU, sl aV f.T.Lo aW, sl aX f.T.Hi aY, sl aI f.X aJ, sl aM f.Rows aN, sl aR f.Cols aS])) (fun s => eQ s.1 s.2) (endx, f.X) ⟨Hx151, _, aB, Ee ⟨rfl, rfl, rfl, rfl, rfl, rfl, rfl, trivial⟩, (Br _ _), b3, (cM.ext (X78.trans a1)), (Oe D144 _), (cZ.ext a1), dZ⟩ ?_
 rintro ⟨aA, b8⟩ _ c0 ⟨Hi, ρ, a2, rfl, HF⟩
 revert HF
 refine bb6 fun X148 o bG bH bI bJ => ?_
 have H := H aA b8 Hi
 refine Wq (Wq (Wg (Lv ok 0 [(53, sl aG fromx aH), (54, I aA)] 2 rfl rfl ?_)))
 obtain ⟨c1, eR, eS, H⟩ := H
 refine Li 2 rfl rfl rfl Try.underlying22 ti_3 rfl rfl aZ eR eS fun iL iM eT eU => ?_
 have dj := (Dl d0 cQ)
 have bW := ((bF.ext a1).but X148 (Dj.eqv hU dj))
 refine Lo 3 rfl rfl rfl ti_3 ag_3 rfl eT eU bW fun iN eV => ?_
 obtain rfl := eV.int
 refine Lv ok 4 [(57, .bool (decide (c1 ≥ 0)))] 5 rfl rfl (Ln _ rfl ?_)
 refine Wc (decide (c1 ≥ 0)) rfl (fun b9 => ?_) (fun b9 => ?_)
 ·have H := H.1 b9
  refine Wk ?_
  obtain ⟨U188, hU189⟩ : ∃ U : PH, U = (un a2 (bx b 85 [sl a f.T.Rows c, sl aT f.T.Cols aU, sl aV f.T.Lo aW, sl aX f.T.Hi aY, sl aI f.X aJ, sl aM f.Rows aN, sl aR f.Cols aS])) := ⟨_, rfl⟩
  have D190 : Dom U188 a2 := Dom.eqv hU189 (Dom.l _ _)
  obtain ⟨k, hk, H⟩ := jn_elim H
  refine W_join2 (S := (List (List Int))) (fun s ρ' w' => k s ∧ ∃ (ρ : Env) (bC : PH), ρ' = setAll [(0, pb b), (1, sl aG fromx aH), (2, I endx), (6, I (ln f.Rows)), (7, I aC), (8, I start), (9, I aA)] ρ ∧ But U188 c0 w' ∧ OD bC (sl aI f.X aJ) s ∧ Sub bC w' ∧ DomLe U188 c0.heap.size bC ∧ Sub (bx b 85 [sl a f.T.Rows c, sl aT f.T.Cols aU, sl aV f.T.Lo aW, sl aX f.T.Hi aY, sl aI f.X aJ, sl aM f.Rows aN, sl aR f.Cols aS]) w' ∧ Dj bC (bx b 85 [sl a f.T.Rows c, sl aT f.T.Cols aU, sl aV f.T.Lo aW, sl aX f.T.Hi aY, sl aI f.X aJ, sl aM f.Rows aN, sl aR f.Cols aS])) ?_ ?_
  ·refine W_block (Wq (Wg (Lv ok 0 [(62, I aA), (63, I (ln f.Rows)), (64, .bool (decide (aA ≥ (ln f.Rows))))] 3 rfl rfl (Ln _ rfl ?_))))
   refine Wc (decide (aA ≥ (ln f.Rows))) rfl (fun cA => ?_) (fun cA => ?_)
   ·have H := H.1 cA
    refine W_open mix fun iO bX => ?_
    refine AP_game 16 [[], [0], [0, 1], [0, 1, 2], [], [], [4, 5], [4, 5, 6], [0, 1, 2, 3, 4, 5, 6, 7], [0, 1, 2, 3, 4, 5, 6, 7, 8], [], [], [10, 11], [0, 1, 2, 3, 4, 5, 6, 7, 8, 9, 10, 11, 12], [0, 1, 2, 3, 4, 5, 6, 7, 8, 9, 10, 11, 12, 13], [], [0, 1, 2, 3, 4, 5, 6, 7, 8, 9, 10, 11, 12, 13, 14, 15], [0, 1, 2, 3, 4, 5, 6, 7, 8, 9, 10, 11, 12, 13, 14, 15, 16], [0, 1, 2, 3, 4, 5, 6, 7, 8, 9, 10, 11, 12, 13, 14, 15, 16, 17]] [[(0, none)], [(65, some 0)], [(66, some 1)], [(67, some 2)], [(1, none)], [(9, none)], [(69, some 4), (70, some 5)], [(71, some 6)], [(68, some 3), (72, some 7)], [(73, some 8)], [(9, none)], [(6, none)], [(75, some 10), (76, some 11)], [(74, some 9), (77, some 12)], [(78, some 13)], [(7, none)]] [(0, none), (1, none), (2, none), (6, none), (7, none), (8, none), (9, none), (74, some 9), (77, some 12), (79, some 14), (80, some 15)] [(0, false), (1, false), (2, false), (3, false), (4, false), (5, false), (6, false), (7, false), (8, false), (9, false), (10, false), (11, false), (12, false), (13, false), (14, false), (15, false)] (by kernel_rfl) (by kernel_rfl) ?_
    refine GS_ev ok [(0, pb b)] (pb b) rfl rfl (fun _ h => h) (fun _ => rfl) ?_
    refine GS_ev ok [(65, pb b)] (pb b) rfl rfl (fun _ h => h) (fun _ => rfl) ?_
    refine GS_ev ok [(66, pb b)] (.pointer (some ⟨b, 4, none⟩)) rfl rfl (fun _ h => h) (fun _ => rfl) ?_
    have cB := (bI.ext bX)
    refine GS_r1 [(67, .pointer (some ⟨b, 4, none⟩))] (sl aI f.X aJ) rfl rfl (fun _ h => h) (fun _ w e => ex_ldbox rfl ti_23 ag_23 (fun _ => rfl) rfl e rfl rfl) cB ?_
    refine GS_ev ok [(1, sl aG fromx aH)] (sl aG fromx aH) rfl rfl (fun _ h => h) (fun _ => rfl) ?_
    refine GS_ev ok [(9, I aA)] (I aA) rfl rfl (fun _ h => h) (fun _ => rfl) ?_
    obtain ⟨bY, eW, eX, H⟩ := H
    obtain ⟨c2, iP, eY, eZ, e0⟩ := run_indexAt Try.underlying22 ti_3 aZ .i64 _ bY eW eX
    refine GS_r0 [(69, sl aG fromx aH), (70, I aA)] (.pointer (some c2)) rfl rfl (fun _ h => h) (fun _ _ => ex_index rfl rfl rfl (eY _)) ?_
    obtain ⟨iQ, e1, e2⟩ := run_loadAt ti_3 ag_3 eZ e0
    obtain rfl := e2.int
    refine GS_r1 [(71, .pointer (some c2))] (I bY) rfl rfl (fun _ h => h) (fun _ w e => ex_load rfl rfl (e1 w e)) (bW.ext bX) ?_
    obtain ⟨a3, e3, e4, H⟩ := H
    obtain ⟨c3, u, e5, rest, e6, e7, bw⟩ := run_indexb Try.underlying23 ti_22 o _ e3 e4
    refine GS_r0 [(68, sl aI f.X aJ), (72, I bY)] (.pointer (some c3)) rfl rfl (fun _ h => h) (fun _ _ => ex_index rfl rfl rfl (e6 _)) ?_
    have c4 := bw.od
    obtain ⟨bK, bL, rfl⟩ := c4.shape
    have cC := (bG.ext bX)
    have c5 := Sub.le cC bw.le
    have c6 : OS 3 e5 emp (sl bK a3 bL) a3 := OD.flat c4
    refine GS_r1 [(73, .pointer (some c3))] (sl bK a3 bL) rfl rfl (fun _ h => h) (fun _ w e => ex_ldcell rfl ti_22 ag_22 rfl e7 e) cC ?_
    refine GS_ev ok [(9, I aA)] (I aA) rfl rfl (fun _ h => h) (fun _ => rfl) ?_
    refine GS_ev ok [(6, I (ln f.Rows))] (I (ln f.Rows)) rfl rfl (fun _ h => h) (fun _ => rfl) ?_
    refine GS_ev ok [(75, I aA), (76, I (ln f.Rows))] (I (wr (aA - (ln f.Rows)))) rfl rfl (fun _ h => h) (fun _ => rfl) ?_
    obtain ⟨bM, e8, e9, H⟩ := H
    obtain ⟨c7, iR, fA, fB, fC⟩ := run_indexAt Try.underlying22 ti_3 c6.readf .i64 _ bM e8 e9
    refine GS_r0 [(74, sl bK a3 bL), (77, I (wr (aA - (ln f.Rows))))] (.pointer (some c7)) rfl rfl (fun _ h => h) (fun _ _ => ex_index rfl rfl rfl (fA _)) ?_
    obtain ⟨iS, fD, fE⟩ := run_loadAt ti_3 ag_3 fB fC
    obtain rfl := fE.int
    refine GS_r1 [(78, .pointer (some c7))] (I bM) rfl rfl (fun _ h => h) (fun _ w e => ex_load rfl rfl (fD w e)) c5 ?_
    refine GS_ev ok [(7, I aC)] (I aC) rfl rfl (fun _ h => h) (fun _ => rfl) ?_
    intro iT bN ρ hn
    refine AP_forget [(0, pb b), (1, sl aG fromx aH), (2, I endx), (6, I (ln f.Rows)), (7, I aC), (8, I start), (9, I aA), (74, sl bK a3 bL), (77, I (wr (aA - (ln f.Rows)))), (79, I bM), (80, I aC)] (by exact hn) fun ρ => ?_
    refine AP_tail 16 [[], [0], [0, 1], [0, 1, 2], [], [], [4, 5], [4, 5, 6], [0, 1, 2, 3, 4, 5, 6, 7], [0, 1, 2, 3, 4, 5, 6, 7, 8], [], [], [10, 11], [0, 1, 2, 3, 4, 5, 6, 7, 8, 9, 10, 11, 12], [0, 1, 2, 3, 4, 5, 6, 7, 8, 9, 10, 11, 12, 13], [], [0, 1, 2, 3, 4, 5, 6, 7, 8, 9, 10, 11, 12, 13, 14, 15], [0, 1, 2, 3, 4, 5, 6, 7, 8, 9, 10, 11, 12, 13, 14, 15, 16], [0, 1, 2, 3, 4, 5, 6, 7, 8, 9, 10, 11, 12, 13, 14, 15, 16, 17]] (by kernel_rfl) ?_
    refine Lv ok 16 [(81, I (wr (bM + aC)))] 17 rfl rfl ?_
    obtain ⟨fF, hl, H⟩ := H
    refine LP_indexw (v := sl bK a3 bL) 17 rfl rfl rfl Try.underlying22 ti_3 rfl rfl c6 fF hl fun iU wa => (LP_set 18 rfl rfl rfl rfl rfl wa (Le.refl emp) ⟨_, rfl, rfl⟩ (c5.ext bN) fun fG iV fH fI y dm => ?_)
    obtain ⟨iW, fJ, dd⟩ := BwL.turn bw (OS.od fH) (Dom.of dm)
    have fK := BwL.sub bw (cC.ext bN) fI y
    have c8 := BwL.but bw y
    refine Ln _ rfl ?_
    have c9 := (bX.trans bN)
    exact ⟨List.set b8 (Int.toNat bY) (List.set a3 (Int.toNat (wr (aA - (ln f.Rows)))) (wr (bM + aC))), H, _, (un fG rest), Ee ⟨rfl, rfl, rfl, rfl, rfl, rfl, rfl, trivial⟩, (((Br U188 _).stepx c9).step c8 (Oe D190 _)), fJ, fK, (Mt (Oe D190 _) ((fun n => Oe dd n) _) c9.size), ((cB.ext bN).but c8 bJ), (Mj ((fun n => Oe dd n) _) bJ (cB.ext bN))⟩
   have H := H.2 cA
   refine W_open mix fun iX bZ => ?_
   refine AP_game 16 [[], [0], [0, 1], [0, 1, 2], [], [0, 1, 2, 3, 4], [0, 1, 2, 3, 4, 5], [], [], [7, 8], [7, 8, 9], [], [7, 8, 9, 10, 11], [0, 1, 2, 3, 4, 5, 6, 7, 8, 9, 10, 11, 12], [0, 1, 2, 3, 4, 5, 6, 7, 8, 9, 10, 11, 12, 13], [], [0, 1, 2, 3, 4, 5, 6, 7, 8, 9, 10, 11, 12, 13, 14, 15], [0, 1, 2, 3, 4, 5, 6, 7, 8, 9, 10, 11, 12, 13, 14, 15, 16], [0, 1, 2, 3, 4, 5, 6, 7, 8, 9, 10, 11, 12, 13, 14, 15, 16, 17]] [[(0, none)], [(83, some 0)], [(84, some 1)], [(85, some 2)], [(9, none)], [(86, some 3), (87, some 4)], [(88, some 5)], [(1, none)], [(9, none)], [(90, some 7), (91, some 8)], [(92, some 9)], [(6, none)], [(93, some 10), (94, some 11)], [(89, some 6), (95, some 12)], [(96, some 13)], [(7, none)]] [(0, none), (1, none), (2, none), (6, none), (7, none), (8, none), (9, none), (89, some 6), (95, some 12), (97, some 14), (98, some 15)] [(0, false), (1, false), (2, false), (3, false), (4, false), (5, false), (6, false), (7, false), (8, false), (9, false), (10, false), (11, false), (12, false), (13, false), (14, false), (15, false)] (by kernel_rfl) (by kernel_rfl) ?_
   refine GS_ev ok [(0, pb b)] (pb b) rfl rfl (fun _ h => h) (fun _ => rfl) ?_
   refine GS_ev ok [(83, pb b)] (pb b) rfl rfl (fun _ h => h) (fun _ => rfl) ?_
   refine GS_ev ok [(84, pb b)] (.pointer (some ⟨b, 4, none⟩)) rfl rfl (fun _ h => h) (fun _ => rfl) ?_
   have cD := (bI.ext bZ)
   refine GS_r1 [(85, .pointer (some ⟨b, 4, none⟩))] (sl aI f.X aJ) rfl rfl (fun _ h => h) (fun _ w e => ex_ldbox rfl ti_23 ag_23 (fun _ => rfl) rfl e rfl rfl) cD ?_
   refine GS_ev ok [(9, I aA)] (I aA) rfl rfl (fun _ h => h) (fun _ => rfl) ?_
   obtain ⟨a4, fL, fM, H⟩ := H
   obtain ⟨dA, iY, fN, fO, fP, fQ, bO⟩ := run_indexb Try.underlying23 ti_22 o _ fL fM
   refine GS_r0 [(86, sl aI f.X aJ), (87, I aA)] (.pointer (some dA)) rfl rfl (fun _ h => h) (fun _ _ => ex_index rfl rfl rfl (fP _)) ?_
   have dB := bO.od
   obtain ⟨bP, bQ, rfl⟩ := dB.shape
   have cE := (bG.ext bZ)
   have dC := Sub.le cE bO.le
   have dD : OS 3 fN emp (sl bP a4 bQ) a4 := OD.flat dB
   refine GS_r1 [(88, .pointer (some dA))] (sl bP a4 bQ) rfl rfl (fun _ h => h) (fun _ w e => ex_ldcell rfl ti_22 ag_22 rfl fQ e) cE ?_
   refine GS_ev ok [(1, sl aG fromx aH)] (sl aG fromx aH) rfl rfl (fun _ h => h) (fun _ => rfl) ?_
   refine GS_ev ok [(9, I aA)] (I aA) rfl rfl (fun _ h => h) (fun _ => rfl) ?_
   obtain ⟨a5, fR, fS, H⟩ := H
   obtain ⟨dE, iZ, fT, fU, fV⟩ := run_indexAt Try.underlying22 ti_3 aZ .i64 _ a5 fR fS
   refine GS_r0 [(90, sl aG fromx aH), (91, I aA)] (.pointer (some dE)) rfl rfl (fun _ h => h) (fun _ _ => ex_index rfl rfl rfl (fT _)) ?_
   obtain ⟨i0, fW, fX⟩ := run_loadAt ti_3 ag_3 fU fV
   obtain rfl := fX.int
   refine GS_r1 [(92, .pointer (some dE))] (I a5) rfl rfl (fun _ h => h) (fun _ w e => ex_load rfl rfl (fW w e)) (bW.ext bZ) ?_
   refine GS_ev ok [(6, I (ln f.Rows))] (I (ln f.Rows)) rfl rfl (fun _ h => h) (fun _ => rfl) ?_
   refine GS_ev ok [(93, I a5), (94, I (ln f.Rows))] (I (wr (a5 - (ln f.Rows)))) rfl rfl (fun _ h => h) (fun _ => rfl) ?_
   obtain ⟨bR, fY, fZ, H⟩ := H
   obtain ⟨dF, i1, f0, f1, f2⟩ := run_indexAt Try.underlying22 ti_3 dD.readf .i64 _ bR fY fZ
   refine GS_r0 [(89, sl bP a4 bQ), (95, I (wr (a5 - (ln f.Rows))))] (.pointer (some dF)) rfl rfl (fun _ h => h) (fun _ _ => ex_index rfl rfl rfl (f0 _)) ?_
   obtain ⟨i2, f3, f4⟩ := run_loadAt ti_3 ag_3 f1 f2
   obtain rfl := f4.int
   refine GS_r1 [(96, .pointer (some dF))] (I bR) rfl rfl (fun _ h => h) (fun _ w e => ex_load rfl rfl (f3 w e)) dC ?_
   refine GS_ev ok [(7, I aC)] (I aC) rfl rfl (fun _ h => h) (fun _ => rfl) ?_
   intro i3 bS ρ f5
   refine AP_forget [(0, pb b), (1, sl aG fromx aH), (2, I endx), (6, I (ln f.Rows)), (7, I aC), (8, I start), (9, I aA), (89, sl bP a4 bQ), (95, I (wr (a5 - (ln f.Rows)))), (97, I bR), (98, I aC)] (by exact f5) fun ρ => ?_
   refine AP_tail 16 [[], [0], [0, 1], [0, 1, 2], [], [0, 1, 2, 3, 4], [0, 1, 2, 3, 4, 5], [], [], [7, 8], [7, 8, 9], [], [7, 8, 9, 10, 11], [0, 1, 2, 3, 4, 5, 6, 7, 8, 9, 10, 11, 12], [0, 1, 2, 3, 4, 5, 6, 7, 8, 9, 10, 11, 12, 13], [], [0, 1, 2, 3, 4, 5, 6, 7, 8, 9, 10, 11, 12, 13, 14, 15], [0, 1, 2, 3, 4, 5, 6, 7, 8, 9, 10, 11, 12, 13, 14, 15, 16], [0, 1, 2, 3, 4, 5, 6, 7, 8, 9, 10, 11, 12, 13, 14, 15, 16, 17]] (by kernel_rfl) ?_
   refine Lv ok 16 [(99, I (wr (bR - aC)))] 17 rfl rfl ?_
   obtain ⟨f6, f7, H⟩ := H
   refine LP_indexw (v := sl bP a4 bQ) 17 rfl rfl rfl Try.underlying22 ti_3 rfl rfl dD f6 f7 fun i4 f8 => (LP_set 18 rfl rfl rfl rfl rfl f8 (Le.refl emp) ⟨_, rfl, rfl⟩ (dC.ext bS) fun f9 i5 gA gB dG gC => ?_)
   obtain ⟨i6, gD, dH⟩ := BwL.turn bO (OS.od gA) (Dom.of gC)
   have gE := BwL.sub bO (cE.ext bS) gB dG
   have dI := BwL.but bO dG
   refine Ln _ rfl ?_
   have dJ := (bZ.trans bS)
   exact ⟨List.set b8 (Int.toNat aA) (List.set a4 (Int.toNat (wr (a5 - (ln f.Rows)))) (wr (bR - aC))), H, _, (un f9 fO), Ee ⟨rfl, rfl, rfl, rfl, rfl, rfl, rfl, trivial⟩, (((Br U188 _).stepx dJ).step dI (Oe D190 _)), gD, gE, (Mt (Oe D190 _) ((fun n => Oe dH n) _) dJ.size), ((cD.ext bS).but dI bJ), (Mj ((fun n => Oe dH n) _) bJ (cD.ext bS))⟩
  rintro gF _ i7 ⟨H, ρ, bC, rfl, HF⟩
  revert HF
  refine bb6 fun X194 gG gH gI gJ gK => ?_
  subst hk
  refine Wg (Lv ok 0 [(58, sl aG fromx aH), (59, I aA)] 2 rfl rfl ?_)
  obtain ⟨dK, gL, gM, H⟩ := H
  refine Li 2 rfl rfl rfl Try.underlying22 ti_3 rfl rfl aZ gL gM fun i9 jA gN gO => ?_
  have gP : Dj U188 a0 := (Dj.eqv hU189 (Dl (Mj bH (Dj.eqv hU dj) (bF.ext a1)) (Db cQ)))
  refine Lo 3 rfl rfl rfl ti_3 ag_3 rfl gN gO (bW.but X194 gP) fun jB gQ => ?_
  obtain rfl := gQ.int
  refine Lv ok 4 [(9, I dK)] 5 rfl rfl (Ln _ rfl ?_)
  have dL : DomLe U b7.heap.size U188 := (DomLe.eqv hU189 (Mu (Mt (Oe (Or _) _) bH (Nat.le_refl _)) (Md D145 Sd)))
  exact ⟨(dK, gF), ⟨H.1, _, bC, Ee ⟨rfl, rfl, rfl, rfl, rfl, rfl, rfl, trivial⟩, (((Br U _).step X148 (Oe (Or _) _)).step X194 dL), gG, gH, (Mt dL gI X148.size), gJ, gK⟩, H.2⟩
 have H := H.2 b9
 refine W_exit ?_
 refine (if_pos rfl).mpr ?_
 refine Wq (Wg (Lv ok 0 [(101, pb b), (102, pb b), (103, .pointer (some ⟨b, 5, none⟩))] 3 rfl rfl (Lb 3 (v := sl aM f.Rows aN) rfl rfl rfl ti_22 ag_22 (fun _ => rfl) rfl bI rfl rfl (Lv ok 4 [(105, I start)] 5 rfl rfl ?_))))
 obtain ⟨gR, gS, gT, H⟩ := H
 refine Li 5 rfl rfl rfl Try.underlying22 ti_3 rfl rfl bD.readf gS gT fun jC jD gU gV => ?_
 have dM := (Dl d b4.symm)
 have dN := ((b6.ext a1).but X148 (Dj.eqv hU dM))
 refine Lo 6 rfl rfl rfl ti_3 ag_3 rfl gU gV dN fun jE gW => ?_
 obtain rfl := gW.int
 refine Lv ok 7 [(108, I aC), (109, I (wr (gR - aC)))] 9 rfl rfl ?_
 obtain ⟨gX, gY, H⟩ := H
 refine LP_indexw (v := sl aM f.Rows aN) 9 rfl rfl rfl Try.underlying22 ti_3 rfl rfl bD gX gY fun jF gZ => (LP_set 10 rfl rfl rfl rfl rfl gZ (Le.refl emp) ⟨_, rfl, rfl⟩ dN fun g0 jG g1 dO bT b0 => (Ln _ rfl (Wg (Lv ok 0 [(111, pb b), (112, pb b), (113, .pointer (some ⟨b, 6, none⟩))] 3 rfl rfl ?_))))
 have cF := (bI.but bT (Db b4.symm).symm)
 refine Lb 3 (v := sl aR f.Cols aS) rfl rfl rfl ti_22 ag_22 (fun _ => rfl) rfl cF rfl rfl (Lv ok 4 [(115, I endx), (116, I (ln f.Rows)), (117, I (wr (endx - (ln f.Rows))))] 7 rfl rfl ?_)
 obtain ⟨g2, g3, g4, H⟩ := H
 refine Li 7 rfl rfl rfl Try.underlying22 ti_3 rfl rfl bE.readf g3 g4 fun jH jI g5 g6 => ?_
 have cG := (X78.trans a1)
 have cH := (Dl dY b5.symm)
 have dP := (((bU.ext cG).but X148 (Dj.eqv hU cH)).but bT cP)
 refine Lo 8 rfl rfl rfl ti_3 ag_3 rfl g5 g6 dP fun jJ g7 => ?_
 obtain rfl := g7.int
 refine Lv ok 9 [(120, I aC), (121, I (wr (g2 - aC)))] 11 rfl rfl ?_
 obtain ⟨g8, g9, H⟩ := H
 refine LP_indexw (v := sl aR f.Cols aS) 11 rfl rfl rfl Try.underlying22 ti_3 rfl rfl bE g8 g9 fun jK hA => (LP_set 12 rfl rfl rfl rfl rfl hA (Le.refl emp) ⟨_, rfl, rfl⟩ dP fun hB jL hC hD b1 b2 => (Ln _ rfl ?_))
 try refine Wo [] ⟨trivial⟩ fun ρ => ?_
 have cI := (Mj bH (Dj.eqv hU dM) (b6.ext a1)).symm
 have dQ := (bU.ext cG)
 have dR := (Mj bH (Dj.eqv hU cH) dQ).symm
 have dS : DomLe M w.heap.size U := (DomLe.eqv hU (Mu (Oe D _) (Oe D71 _)))
 have X386 := (X.stepx cG)
 have dT := (Mj (b0 _) cP (dQ.but X148 (Dj.eqv hU cH))).symm
 have X391 := (X386.step X148 dS)
 have X393 := (X391.step bT (Oe D69 _))
 have hE := (Mj (b0 _) cI bG).symm
 have hF := (Mj (b2 _) dR (bG.but bT cI)).symm
 have hG := (Mj (b2 _) dT dO).symm
 have hH : Dj g0 (bx b 85 [sl a f.T.Rows c, sl aT f.T.Cols aU, sl aV f.T.Lo aW, sl aX f.T.Hi aY, sl aI f.X aJ, sl aM f.Rows aN, sl aR f.Cols aS]) := (Mj (b0 _) (Db b4.symm).symm bI)
 have hI : Dj hB (bx b 85 [sl a f.T.Rows c, sl aT f.T.Cols aU, sl aV f.T.Lo aW, sl aX f.T.Hi aY, sl aI f.X aJ, sl aM f.Rows aN, sl aR f.Cols aS]) := (Mj (b2 _) (Db b5.symm).symm cF)
 subst hM
 exact ⟨_, Ret_of [] trivial, _, _, _, _, _, _, _, _, _, H, rfl, (X393.step b1 (Oe D70 _)), o, ((bG.but bT cI).but b1 dR), (Mt dS bH X386.size), g1, (dO.but b1 dT), (Mt (Oe D69 _) (b0 _) X391.size), hC, hD, (Mt (Oe D70 _) (b2 _) X393.size), (cF.but b1 (Db b5.symm).symm), hE, hF, bJ, hG, hH, hI⟩

theorem spec_tFill_augment_w (f : TFill) (Q : Bool → (List (List Int)) → (List Int) → (List Int) → Prop) (H : spec_tFill_augment f Q) (w : World) {vx : Value} {hx : PH} (r : RS hx vx f.T.Rows) (ex : Sub hx w) {aG : Value} {a5 : PH} (cR : RS a5 aG f.T.Cols) (dW : Sub a5 w) {aH : Value} {a6 : PH} (cS : RS a6 aH f.T.Lo) (dX : Sub a6 w) {aI : Value} {a7 : PH} (cT : RS a7 aI f.T.Hi) (dY : Sub a7 w) {aP : Value} {aK : PH} (bS : OD aK aP f.X) (bT : Sub aK w) {aQ : Value} {aL : PH} (bI : OS 3 aL emp aQ f.Rows) (a8 : Sub aL w) {aR : Value} {aM : PH} (bJ : OS 3 aM emp aR f.Cols) (bU : Sub aM w) {b : Nat} (a1 : Sub (bx b 85 [vx, aG, aH, aI, aP, aQ, aR]) w) (d : Dj aK aL) (dZ : Dj aK aM) (d0 : Dj aK (bx b 85 [vx, aG, aH, aI, aP, aQ, aR])) (d1 : Dj aL aM) (d2 : Dj aL (bx b 85 [vx, aG, aH, aI, aP, aQ, aR])) (d3 : Dj aM (bx b 85 [vx, aG, aH, aI, aP, aQ, aR])) (gH : Dj aK hx) (gI : Dj aK a5) (gJ : Dj aK a6) (gK : Dj aK a7) (gL : Dj aL hx) (gM : Dj aL a5) (gN : Dj aL a6) (gO : Dj aL a7) (gP : Dj aM hx) (gQ : Dj aM a5) (gR : Dj aM a6) (gS : Dj aM a7) (gT : Dj (bx b 85 [vx, aG, aH, aI, aP, aQ, aR]) hx) (gU : Dj (bx b 85 [vx, aG, aH, aI, aP, aQ, aR]) a5) (gV : Dj (bx b 85 [vx, aG, aH, aI, aP, aQ, aR]) a6) (gW : Dj (bx b 85 [vx, aG, aH, aI, aP, aQ, aR]) a7) :
  CallsTo Try.prog 99 #[pb b] w fun v w' => ∃ d4 d5 d6 d7 v1_ a9 v2_ bA v3_ bB, Q d4 d5 d6 d7 ∧ v = .bool d4 ∧ But (un aK (un aL (un aM (bx b 85 [vx, aG, aH, aI, aP, aQ, aR])))) w w' ∧ OD a9 v1_ d5 ∧ Sub a9 w' ∧ DomLe (un aK (un aL (un aM (bx b 85 [vx, aG, aH, aI, aP, aQ, aR])))) w.heap.size a9 ∧ OS 3 bA emp v2_ d6 ∧ Sub bA w' ∧ DomLe (un aK (un aL (un aM (bx b 85 [vx, aG, aH, aI, aP, aQ, aR])))) w.heap.size bA ∧ OS 3 bB emp v3_ d7 ∧ Sub bB w' ∧ DomLe (un aK (un aL (un aM (bx b 85 [vx, aG, aH, aI, aP, aQ, aR])))) w.heap.size bB ∧ Sub (bx b 85 [vx, aG, aH, aI, v1_, v2_, v3_]) w' ∧ Dj a9 bA ∧ Dj a9 bB ∧ Dj a9 (bx b 85 [vx, aG, aH, aI, v1_, v2_, v3_]) ∧ Dj bA bB ∧ Dj bA (bx b 85 [vx, aG, aH, aI, v1_, v2_, v3_]) ∧ Dj bB (bx b 85 [vx, aG, aH, aI, v1_, v2_, v3_]) := by
 obtain ⟨a, c, rfl⟩ := r.shape
 obtain ⟨d8, d9, rfl⟩ := cR.shape
 obtain ⟨eA, eB, rfl⟩ := cS.shape
 obtain ⟨eC, eD, rfl⟩ := cT.shape
 obtain ⟨eE, eF, rfl⟩ := bS.shape
 obtain ⟨bV, bW, rfl⟩ := bI.shape
 obtain ⟨bX, bY, rfl⟩ := bJ.shape
 refine enter (args := [pb b]) 110 Try.func99 rfl rfl rfl ?_
 refine Wo [(0, pb b)] ⟨rfl, trivial⟩ fun ρ => ?_
 obtain ⟨M, hM⟩ : ∃ M : PH, M = (un aK (un aL (un aM (bx b 85 [sl a f.T.Rows c, sl d8 f.T.Cols d9, sl eA f.T.Lo eB, sl eC f.T.Hi eD, sl eE f.X eF, sl bV f.Rows bW, sl bX f.Cols bY])))) := ⟨_, rfl⟩
 have D : Dom M aK := Dom.eqv hM (Dom.l _ _)
 have D59 : Dom M aL := Dom.eqv hM (Ot (Dom.r _ _) (Dom.l _ _))
 have D60 : Dom M aM := Dom.eqv hM (Ot (Dom.r _ _) (Ot (Dom.r _ _) (Dom.l _ _)))
 have D61 : Dom M (bx b 85 [sl a f.T.Rows c, sl d8 f.T.Cols d9, sl eA f.T.Lo eB, sl eC f.T.Hi eD, sl eE f.X eF, sl bV f.Rows bW, sl bX f.Cols bY]) := Dom.eqv hM (Ot (Dom.r _ _) (Ot (Dom.r _ _) (Ot (Dom.r _ _) (Or _))))
 have X := Br M w
 refine Wq (Wg (Lv ok 0 [(2, .bool false)] 1 rfl rfl (Ln _ rfl (Wq ?_))))
 refine W_quiet mix (by kernel_rfl) ?_
 refine QP_ev ok 0 [(11, pb b), (12, pb b), (13, .pointer (some ⟨b, 5, none⟩))] 3 rfl rfl ?_
 refine QP_ldbox 3 (v := sl bV f.Rows bW) rfl rfl rfl ti_22 ag_22 (fun _ => rfl) rfl a1 rfl rfl ?_
 refine QP_ev ok 4 [(15, I (ln f.Rows)), (16, pb b), (17, pb b), (18, .pointer (some ⟨b, 6, none⟩))] 8 rfl rfl ?_
 refine QP_ldbox 8 (v := sl bX f.Cols bY) rfl rfl rfl ti_22 ag_22 (fun _ => rfl) rfl a1 rfl rfl ?_
 refine QP_ev ok 9 [(20, I (ln f.Cols)), (3, I (ln f.Rows)), (4, I (ln f.Cols))] 12 rfl rfl ?_
 refine QP_end _ rfl fun wx x => ?_
 refine Wq (Wg (Lv ok 0 [(21, I (ln f.Rows)), (22, I (ln f.Cols)), (23, I (wr ((ln f.Rows) + (ln f.Cols))))] 3 rfl rfl ?_))
 obtain ⟨hn, hb, H⟩ := H
 refine LP_make (α := Int) 3 rfl rfl rfl Try.underlying22 ti_3 (x0 := (0 : Int)) rfl rfl hn (by first | omega | (simp only [ln] at *; omega)) (by first | omega | (simp only [ln] at *; omega)) fun bC jO bZ aE o gX aF => ?_
 obtain ⟨aB, aC, rfl⟩ := o.shape
 refine Lv ok 4 [(5, .slice aB (List.length (List.replicate (Int.toNat (wr ((ln f.Rows) + (ln f.Cols)))) ((0 : Int)))) aC)] 5 rfl rfl (Ln _ rfl (Wq (Wg (Lv ok 0 [(6, .slice none 0 0)] 1 rfl rfl (Ln _ rfl (Wq (Wq (Wg (Lv ok 0 [(25, .slice aB (List.length (List.replicate (Int.toNat (wr ((ln f.Rows) + (ln f.Cols)))) ((0 : Int)))) aC), (26, I (ln (List.replicate (Int.toNat (wr ((ln f.Rows) + (ln f.Cols)))) ((0 : Int))))), (27, I 0)] 3 rfl rfl ?_)))))))))
 refine Ln _ rfl (W_block ?_)
 obtain ⟨J, m, Hx, H⟩ := H
 refine W_loop (S := (List Int) × (List Int) × Int) (fun s ρ' w' => J s.1 s.2.1 s.2.2 ∧ ∃ (ρ : Env) (aU : PH) (cU : Value) (aT : PH), ρ' = setAll [(0, pb b), (3, I (ln f.Rows)), (4, I (ln f.Cols)), (5, .slice aB (List.length (List.replicate (Int.toNat (wr ((ln f.Rows) + (ln f.Cols)))) ((0 : Int)))) aC), (6, cU), (26, I (ln (List.replicate (Int.toNat (wr ((ln f.Rows) + (ln f.Cols)))) ((0 : Int))))), (27, I s.2.2)] ρ ∧ But bC bZ w' ∧ OS 3 aU emp (.slice aB (List.length (List.replicate (Int.toNat (wr ((ln f.Rows) + (ln f.Cols)))) ((0 : Int)))) aC) s.1 ∧ Sub aU w' ∧ DomLe bC bZ.heap.size aU ∧ OS 3 aT emp cU s.2.1 ∧ Sub aT w' ∧ DomLe bC bZ.heap.size aT ∧ Dj aT aU) (fun s => m s.1 s.2.1 s.2.2) (List.replicate (Int.toNat (wr ((ln f.Rows) + (ln f.Cols)))) ((0 : Int)), [], 0) ⟨Hx, _, bC, .slice none 0 0, emp, Ee ⟨rfl, rfl, rfl, rfl, rfl, rfl, rfl, trivial⟩, (Br _ _), o, gX, (Oe (Or _) _), OS.nil, (emp_sub _), (fun _ _ _ => rfl), (fun _ => .inl rfl)⟩ ?_
 rintro ⟨fromx, queue, aA⟩ _ a2 ⟨Hi, ρ, aU, cU, aT, rfl, HF⟩
 revert HF
 refine bb8 fun X85 eG eH aJ b0 b1 aN b2 => ?_
 have H := H fromx queue aA Hi
 obtain ⟨b3, b4, rfl⟩ := b0.shape
 refine Wq (Wg (Lv ok 0 [(28, .bool (decide (aA < (ln (List.replicate (Int.toNat (wr ((ln f.Rows) + (ln f.Cols)))) ((0 : Int)))))))] 1 rfl rfl (Ln _ rfl (Wq ?_))))
 refine Wc (decide (aA < (ln (List.replicate (Int.toNat (wr ((ln f.Rows) + (ln f.Cols)))) ((0 : Int)))))) rfl (fun hc => ?_) (fun hc => ?_)
 ·have H := H.1 hc
  refine Wk ?_
  have xc := (x.trans aE)
  have dj := (Df (ex.ext x) aF).symm
  have eI := (a8.ext x)
  have eJ := (Df eI aF).symm
  have eK := (a1.ext x)
  have eL := (Df eK aF).symm
  obtain ⟨U, hU⟩ : ∃ U : PH, U = (un aU aT) := ⟨_, rfl⟩
  have D128 : Dom U aU := Dom.eqv hU (Dom.l _ _)
  have D129 : Dom U aT := Dom.eqv hU (Ot (Dom.r _ _) (Or _))
  obtain ⟨k, hk, H⟩ := jn_elim H
  refine W_join2 (S := (List Int) × (List Int)) (fun s ρ' w' => k s.1 s.2 ∧ ∃ (ρ : Env) (bD : PH) (cV : Value) (bE : PH), ρ' = setAll [(0, pb b), (3, I (ln f.Rows)), (4, I (ln f.Cols)), (5, .slice aB (List.length (List.replicate (Int.toNat (wr ((ln f.Rows) + (ln f.Cols)))) ((0 : Int)))) aC), (6, cV), (26, I (ln (List.replicate (Int.toNat (wr ((ln f.Rows) + (ln f.Cols)))) ((0 : Int))))), (27, I aA)] ρ ∧ But U a2 w' ∧ OS 3 bD emp (.slice aB (List.length (List.replicate (Int.toNat (wr ((ln f.Rows) + (ln f.Cols)))) ((0 : Int)))) aC) s.1 ∧ Sub bD w' ∧ DomLe U a2.heap.size bD ∧ OS 3 bE emp cV s.2 ∧ Sub bE w' ∧ DomLe U a2.heap.size bE ∧ Dj bE bD) ?_ ?_
  ·refine W_block (Wq (Wg (Lv ok 0 [(29, I aA), (7, I aA)] 2 rfl rfl (Ln _ rfl (Wq (Wg (Lv ok 0 [(30, .slice aB (List.length (List.replicate (Int.toNat (wr ((ln f.Rows) + (ln f.Cols)))) ((0 : Int)))) aC), (31, I aA)] 2 rfl rfl ?_)))))))
   obtain ⟨hi, hl, H⟩ := H
   refine LP_indexw (v := .slice aB (List.length (List.replicate (Int.toNat (wr ((ln f.Rows) + (ln f.Cols)))) ((0 : Int)))) aC) 2 rfl rfl rfl Try.underlying22 ti_3 rfl rfl eG hi hl fun jP wa => (LP_set 3 rfl rfl rfl rfl rfl wa (Le.refl emp) ⟨_, rfl, rfl⟩ eH fun eM gY eN eO y dm => (Ln _ rfl ?_))
   have cW := (b1.but y b2.symm)
   obtain ⟨gZ, g0, H⟩ := jn_elim H
   refine W_join2 (S := Bool) (fun s ρ' w' => gZ s ∧ ∃ (ρ : Env), ρ' = setAll [(0, pb b), (3, I (ln f.Rows)), (4, I (ln f.Cols)), (5, .slice aB (List.length (List.replicate (Int.toNat (wr ((ln f.Rows) + (ln f.Cols)))) ((0 : Int)))) aC), (6, sl b3 queue b4), (7, I aA), (26, I (ln (List.replicate (Int.toNat (wr ((ln f.Rows) + (ln f.Cols)))) ((0 : Int))))), (27, I aA), (45, .bool s)] ρ ∧ gY = w') ?_ ?_
   ·refine Wg (Lv ok 0 [(33, I aA), (34, I (ln f.Rows)), (35, .bool (decide (aA < (ln f.Rows)))), (36, .bool (decide (aA < (ln f.Rows))))] 4 rfl rfl ?_)
    refine LP_split 36 (decide (aA < (ln f.Rows))) rfl (fun cX => ?_) (fun cX => ?_)
    ·have H := H.1 cX
     refine Lv ok 4 [(37, pb b), (38, pb b), (39, .pointer (some ⟨b, 5, none⟩))] 7 rfl rfl (Lb 7 (v := sl bV f.Rows bW) rfl rfl rfl ti_22 ag_22 (fun _ => rfl) rfl (((a1.ext xc).but X85 eL).but y (Mj aJ eL (eK.ext aE))) rfl rfl (Lv ok 8 [(41, I aA)] 9 rfl rfl ?_))
     obtain ⟨cY, g1, g2, H⟩ := H
     refine Li 9 rfl rfl rfl Try.underlying22 ti_3 rfl rfl bI.readf g1 g2 fun jQ cs g3 g4 => (Lo 10 rfl rfl rfl ti_3 ag_3 rfl g3 g4 (((a8.ext xc).but X85 eJ).but y (Mj aJ eJ (eI.ext aE))) fun jR g5 => ?_)
     obtain rfl := g5.int
     refine Lv ok 11 [(44, .bool (decide (cY > 0))), (45, .bool (decide (cY > 0)))] 13 rfl rfl ?_
     exact Ln _ rfl ⟨decide (cY > 0), H, _, Ee ⟨rfl, rfl, rfl, rfl, rfl, rfl, rfl, rfl, rfl, trivial⟩, rfl⟩
    have H := H.2 cX
    refine Lv ok 4 [(37, undef), (38, undef), (39, undef), (40, undef), (41, undef), (42, undef), (43, undef), (44, undef), (45, .bool false)] 13 rfl rfl ?_
    exact Ln _ rfl ⟨false, H, _, Ee ⟨rfl, rfl, rfl, rfl, rfl, rfl, rfl, rfl, rfl, trivial⟩, rfl⟩
   rintro g6 _ _ ⟨H, ρ, rfl, rfl⟩
   subst g0
   refine Wc (g6) rfl (fun cZ => ?_) (fun cZ => ?_)
   ·have H := H.1 cZ
    refine Wq (Wg (Lv ok 0 [(46, .slice aB (List.length (List.replicate (Int.toNat (wr ((ln f.Rows) + (ln f.Cols)))) ((0 : Int)))) aC), (47, I aA)] 2 rfl rfl ?_))
    obtain ⟨g7, g8, H⟩ := H
    refine LP_indexw (v := .slice aB (List.length (List.replicate (Int.toNat (wr ((ln f.Rows) + (ln f.Cols)))) ((0 : Int)))) aC) 2 rfl rfl rfl Try.underlying22 ti_3 rfl rfl eN g7 g8 fun jS g9 => (LP_set 3 rfl rfl rfl rfl rfl g9 (Le.refl emp) ⟨_, rfl, rfl⟩ eO fun hA jT hB eP c0 eQ => (Ln _ rfl (Wg (Lv ok 0 [(49, sl b3 queue b4), (50, I aA)] 2 rfl rfl ?_))))
    refine LP_lit (α := Int) (g := emp) 2 (vs := [I aA]) (xs := [aA]) rfl rfl rfl Try.underlying22 ti_3 rfl rfl ⟨⟨_, rfl, rfl⟩, trivial⟩ rfl rfl fun jU jV jW bK eR hC jX => ?_
    obtain ⟨jY, jZ, rfl⟩ := eR.shape
    have eS := (Mj (dm _) b2.symm b1)
    obtain ⟨j0, H⟩ := H
    refine LP_appendf (α := Int) 3 rfl rfl rfl Try.underlying22 ti_3 rfl rfl rfl b0 ((cW.but c0 eS).ext bK) eR.readf hC (by first | omega | (simp only [ln] at *; omega)) (by first | omega | (simp only [ln] at *; omega)) fun hD j1 j2 eT hE eU eV => ?_
    obtain ⟨eW, eX, rfl⟩ := eT.shape
    refine Lv ok 4 [(6, .slice eW (List.length (queue ++ ([aA]))) eX)] 5 rfl rfl (Ln _ rfl ?_)
    have dl : DomLe U a2.heap.size eM := (Mt (Oe D128 _) (dm _) (Nat.le_refl _))
    have eY := (Mj (eQ _) eS cW).symm
    exact ⟨(List.set (List.set fromx (Int.toNat aA) ((-2))) (Int.toNat aA) ((-1)), queue ++ ([aA])), H, _, hA, .slice eW (List.length (queue ++ ([aA]))) eX, hD, Ee ⟨rfl, rfl, rfl, rfl, rfl, rfl, rfl, trivial⟩, (((((Br U _).step y (Oe D128 _)).step c0 dl).stepx bK).step eU (Oe D129 _)), hB, ((eP.ext bK).but eU eY), (Mt dl (eQ _) y.size), eT, hE, (Mt (Oe D129 _) eV (Nat.le_trans (Nat.le_trans y.size c0.size) bK.size)), (Mj eV eY (eP.ext bK))⟩
   have H := H.2 cZ
   refine Wk ?_
   have hF := (Mj (dm _) b2.symm b1).symm
   exact ⟨(List.set fromx (Int.toNat aA) ((-2)), queue), H, _, eM, sl b3 queue b4, aT, Ee ⟨rfl, rfl, rfl, rfl, rfl, rfl, rfl, trivial⟩, ((Br U _).step y (Oe D128 _)), eN, eO, (Mt (Oe D128 _) (dm _) (Nat.le_refl _)), b0, cW, (Oe D129 _), hF⟩
  rintro ⟨hG, eZ⟩ _ j3 ⟨H, ρ, bD, cV, bE, rfl, HF⟩
  revert HF
  refine bb8 fun X133 hH hI hJ e0 hK hL hN => ?_
  subst hk
  obtain ⟨hO, hP, rfl⟩ := e0.shape
  refine Wg (Lv ok 0 [(53, I (wr (aA + 1))), (27, I (wr (aA + 1)))] 2 rfl rfl (Ln _ rfl ?_))
  have c1 : DomLe bC bZ.heap.size U := (DomLe.eqv hU (Mu (Mt (Oe (Or _) _) aJ (Nat.le_refl _)) (Mt (Oe (Or _) _) aN (Nat.le_refl _))))
  exact ⟨(hG, eZ, wr (aA + 1)), ⟨H.1, _, bD, sl hO eZ hP, bE, Ee ⟨rfl, rfl, rfl, rfl, rfl, rfl, rfl, trivial⟩, (((Br bC _).step X85 (Oe (Or _) _)).step X133 c1), hH, hI, (Mt c1 hJ X85.size), e0, hK, (Mt c1 hL X85.size), hN⟩, H.2⟩
 have H := H.2 hc
 refine W_exit ?_
 refine (if_pos rfl).mpr ?_
 refine Wq (Wq (Wg (Lv ok 0 [(8, I 0)] 1 rfl rfl (Ln _ rfl (W_block ?_)))))
 obtain ⟨U236, hU237⟩ : ∃ U : PH, U = (un aU aT) := ⟨_, rfl⟩
 have D238 : Dom U236 aU := Dom.eqv hU237 (Dom.l _ _)
 have D239 : Dom U236 aT := Dom.eqv hU237 (Ot (Dom.r _ _) (Or _))
 obtain ⟨J244, hQ, Hx246, H⟩ := H
 refine W_loop (S := (List Int) × (List Int) × Int) (fun s ρ' w' => J244 s.1 s.2.1 s.2.2 ∧ ∃ (ρ : Env) (a3 : PH) (c2 : Value) (a4 : PH), ρ' = setAll [(0, pb b), (3, I (ln f.Rows)), (4, I (ln f.Cols)), (5, .slice aB (List.length (List.replicate (Int.toNat (wr ((ln f.Rows) + (ln f.Cols)))) ((0 : Int)))) aC), (6, c2), (8, I s.2.2)] ρ ∧ But U236 a2 w' ∧ OS 3 a3 emp (.slice aB (List.length (List.replicate (Int.toNat (wr ((ln f.Rows) + (ln f.Cols)))) ((0 : Int)))) aC) s.1 ∧ Sub a3 w' ∧ DomLe U236 a2.heap.size a3 ∧ OS 3 a4 emp c2 s.2.1 ∧ Sub a4 w' ∧ DomLe U236 a2.heap.size a4 ∧ Dj a4 a3) (fun s => hQ s.1 s.2.1 s.2.2) (fromx, queue, 0) ⟨Hx246, _, aU, sl b3 queue b4, aT, Ee ⟨rfl, rfl, rfl, rfl, rfl, rfl, trivial⟩, (Br _ _), eG, eH, (Oe D238 _), b0, b1, (Oe D239 _), b2⟩ ?_
 rintro ⟨e1, aW, atx⟩ _ bF ⟨Hi, ρ, a3, c2, a4, rfl, HF⟩
 revert HF
 refine bb8 fun X243 e2 e3 aS c3 e4 aX hR => ?_
 have H := H e1 aW atx Hi
 obtain ⟨b5, b6, rfl⟩ := c3.shape
 refine Wq (Wq (Wg (Lv ok 0 [(54, I atx), (55, sl b5 aW b6), (56, I (ln aW)), (57, .bool (decide (atx < (ln aW))))] 4 rfl rfl (Ln _ rfl ?_))))
 refine Wc (decide (atx < (ln aW))) rfl (fun c4 => ?_) (fun c4 => ?_)
 ·have H := H.1 c4
  refine Wk (Wq (W_block (Wq (Wg (Lv ok 0 [(60, sl b5 aW b6), (61, I atx)] 2 rfl rfl ?_)))))
  obtain ⟨aO, hS, hT, H⟩ := H
  refine Li 2 rfl rfl rfl Try.underlying22 ti_3 rfl rfl c3.readf hS hT fun j4 j5 hV hW => (Lo 3 rfl rfl rfl ti_3 ag_3 rfl hV hW e4 fun j6 hX => ?_)
  obtain rfl := hX.int
  refine Lv ok 4 [(9, I aO)] 5 rfl rfl (Ln _ rfl (Wq ?_))
  have aY := (x.trans aE)
  have X260 := (X.stepx x)
  have hY := aF.mono X260.size
  have e5 := aF.mono X260.size
  have X263 := (X260.stepx aE)
  have hZ := DomLe.fresh aJ e5 X263.size
  have h0 := DomLe.fresh aN e5 X263.size
  have X266 := (((X.stepx aY).step X85 (hY.dom _)).step X243 (DomLe.eqv hU237 (Mu (hZ.dom _) (h0.dom _))))
  have e6 := (ex.ext x)
  have b7 := (Df e6 aF).symm
  have c5 := (e6.ext aE)
  have c6 := (Dl (Mj aJ b7 c5) (Mj aN b7 c5))
  have e7 := (((ex.ext aY).but X85 b7).but X243 (Dj.eqv hU237 c6))
  have e8 := (dW.ext x)
  have b8 := (Df e8 aF).symm
  have c7 := (e8.ext aE)
  have c8 := (Dl (Mj aJ b8 c7) (Mj aN b8 c7))
  have e9 := (((dW.ext aY).but X85 b8).but X243 (Dj.eqv hU237 c8))
  have fA := (dX.ext x)
  have b9 := (Df fA aF).symm
  have c9 := (fA.ext aE)
  have dA := (Dl (Mj aJ b9 c9) (Mj aN b9 c9))
  have fB := (((dX.ext aY).but X85 b9).but X243 (Dj.eqv hU237 dA))
  have fC := (dY.ext x)
  have cA := (Df fC aF).symm
  have dB := (fC.ext aE)
  have dC := (Dl (Mj aJ cA dB) (Mj aN cA dB))
  have fD := (((dY.ext aY).but X85 cA).but X243 (Dj.eqv hU237 dC))
  have fE := (bT.ext x)
  have bL := (Df fE aF).symm
  have cB := (fE.ext aE)
  have cC := (Dl (Mj aJ bL cB) (Mj aN bL cB))
  have fF := (((bT.ext aY).but X85 bL).but X243 (Dj.eqv hU237 cC))
  have fG := (a8.ext x)
  have bM := (Df fG aF).symm
  have cD := (fG.ext aE)
  have cE := (Dl (Mj aJ bM cD) (Mj aN bM cD))
  have fH := (((a8.ext aY).but X85 bM).but X243 (Dj.eqv hU237 cE))
  have fI := (bU.ext x)
  have bN := (Df fI aF).symm
  have cF := (fI.ext aE)
  have cG := (Dl (Mj aJ bN cF) (Mj aN bN cF))
  have dD := (((bU.ext aY).but X85 bN).but X243 (Dj.eqv hU237 cG))
  have fJ := (a1.ext x)
  have bO := (Df fJ aF).symm
  have cH := (fJ.ext aE)
  have cI := (Dl (Mj aJ bO cH) (Mj aN bO cH))
  have dE := (((a1.ext aY).but X85 bO).but X243 (Dj.eqv hU237 cI))
  obtain ⟨h1, h2, H⟩ := jn_elim H
  refine W_join2 (S := Bool) (fun s ρ' w' => h1 s ∧ ∃ (ρ : Env), ρ' = setAll [(0, pb b), (3, I (ln f.Rows)), (4, I (ln f.Cols)), (5, .slice aB (List.length (List.replicate (Int.toNat (wr ((ln f.Rows) + (ln f.Cols)))) ((0 : Int)))) aC), (6, sl b5 aW b6), (8, I atx), (9, I aO), (78, .bool s)] ρ ∧ bF = w') ?_ ?_
  ·refine Wg (Lv ok 0 [(64, I aO), (65, I (ln f.Rows)), (66, .bool (decide (aO ≥ (ln f.Rows)))), (67, .bool (decide (aO ≥ (ln f.Rows))))] 4 rfl rfl ?_)
   refine LP_split 67 (decide (aO ≥ (ln f.Rows))) rfl (fun dF => ?_) (fun dF => ?_)
   ·have H := H.1 dF
    refine Lv ok 4 [(68, pb b), (69, pb b), (70, .pointer (some ⟨b, 6, none⟩))] 7 rfl rfl (Lb 7 (v := sl bX f.Cols bY) rfl rfl rfl ti_22 ag_22 (fun _ => rfl) rfl dE rfl rfl (Lv ok 8 [(72, I aO), (73, I (ln f.Rows)), (74, I (wr (aO - (ln f.Rows))))] 11 rfl rfl ?_))
    obtain ⟨dG, h3, h4, H⟩ := H
    refine Li 11 rfl rfl rfl Try.underlying22 ti_3 rfl rfl bJ.readf h3 h4 fun j7 j8 h5 h6 => (Lo 12 rfl rfl rfl ti_3 ag_3 rfl h5 h6 dD fun j9 h7 => ?_)
    obtain rfl := h7.int
    refine Lv ok 13 [(77, .bool (decide (dG > 0))), (78, .bool (decide (dG > 0)))] 15 rfl rfl ?_
    exact Ln _ rfl ⟨decide (dG > 0), H, _, Ee ⟨rfl, rfl, rfl, rfl, rfl, rfl, rfl, rfl, trivial⟩, rfl⟩
   have H := H.2 dF
   refine Lv ok 4 [(68, undef), (69, undef), (70, undef), (71, undef), (72, undef), (73, undef), (74, undef), (75, undef), (76, undef), (77, undef), (78, .bool false)] 15 rfl rfl ?_
   exact Ln _ rfl ⟨false, H, _, Ee ⟨rfl, rfl, rfl, rfl, rfl, rfl, rfl, rfl, trivial⟩, rfl⟩
  rintro h8 _ _ ⟨H, ρ, rfl, rfl⟩
  subst h2
  refine Wc (h8) rfl (fun dH => ?_) (fun dH => ?_)
  ·have H := H.1 dH
   refine Wq (Wg (Lv ok 0 [(79, pb b), (80, .slice aB (List.length (List.replicate (Int.toNat (wr ((ln f.Rows) + (ln f.Cols)))) ((0 : Int)))) aC), (81, I aO)] 3 rfl rfl ?_))
   have h9 := (Mj aS (Dj.eqv hU237 cC) (cB.but X85 bL)).symm
   have iA := (Mj aS (Dj.eqv hU237 cE) (cD.but X85 bM)).symm
   have iB := (Mj aS (Dj.eqv hU237 cG) (cF.but X85 bN)).symm
   have iC := (Mj aS (Dj.eqv hU237 cI) (cH.but X85 bO)).symm
   refine Lc 3 rfl rfl rfl cal_104 rfl (spec_tFill_push_w _ _ _ _ H bF r e7 cR e9 cS fB cT fD bS fF bI fH bJ dD dE e2.readf e3 d dZ d0 d1 d2 d3 gH gI gJ gK h9 gL gM gN gO iA gP gQ gR gS iB gT gU gV gW iC) ?_
   rintro _ kA ⟨kB, kC, kD, kE, kF, kG, kH, kI, kJ, H, rfl, iD, HF⟩
   revert HF
   refine bb9 fun fK iE iF fL iG iH fM iI => ?_
   refine bb8 fun iJ iK iL iM iN iO iP iQ => ?_
   obtain ⟨kK, kL, rfl⟩ := fK.shape
   obtain ⟨kM, kN, rfl⟩ := fL.shape
   obtain ⟨kO, kP, rfl⟩ := fM.shape
   refine Ln _ rfl (Wq (Wg (Lv ok 0 [(2, .bool true)] 1 rfl rfl (Ln _ rfl (W_ret ?_)))))
   subst hM
   exact ⟨_, Ret_of [.bool true] ⟨⟨rfl, rfl⟩, trivial⟩, _, _, _, _, _, _, _, _, _, _, H, rfl, (X266.step iD (Mu (Oe D _) (Mu (Oe D59 _) (Mu (Oe D60 _) (Oe D61 _))))), fK, iE, (Mt (Mu (Oe D _) (Mu (Oe D59 _) (Mu (Oe D60 _) (Oe D61 _)))) iF X266.size), fL, iG, (Mt (Mu (Oe D _) (Mu (Oe D59 _) (Mu (Oe D60 _) (Oe D61 _)))) iH X266.size), fM, iI, (Mt (Mu (Oe D _) (Mu (Oe D59 _) (Mu (Oe D60 _) (Oe D61 _)))) iJ X266.size), iK, iL, iM, iN, iO, iP, iQ⟩
  have H := H.2 dH
  refine Wk (Wq (Wg (Lv ok 0 [(10, I 0)] 1 rfl rfl (Ln _ rfl (W_block ?_)))))
  obtain ⟨U400, hU401⟩ : ∃ U : PH, U = (un a3 a4) := ⟨_, rfl⟩
  have D402 : Dom U400 a3 := Dom.eqv hU401 (Dom.l _ _)
  have D403 : Dom U400 a4 := Dom.eqv hU401 (Ot (Dom.r _ _) (Or _))
  obtain ⟨J408, iR, Hx410, H⟩ := H
  refine W_loop (S := (List Int) × (List Int) × Int) (fun s ρ' w' => J408 s.1 s.2.1 s.2.2 ∧ ∃ (ρ : Env) (aZ : PH) (dI : Value) (a0 : PH), ρ' = setAll [(0, pb b), (3, I (ln f.Rows)), (4, I (ln f.Cols)), (5, .slice aB (List.length (List.replicate (Int.toNat (wr ((ln f.Rows) + (ln f.Cols)))) ((0 : Int)))) aC), (6, dI), (8, I atx), (9, I aO), (10, I s.2.2)] ρ ∧ But U400 bF w' ∧ OS 3 aZ emp (.slice aB (List.length (List.replicate (Int.toNat (wr ((ln f.Rows) + (ln f.Cols)))) ((0 : Int)))) aC) s.1 ∧ Sub aZ w' ∧ DomLe U400 bF.heap.size aZ ∧ OS 3 a0 emp dI s.2.1 ∧ Sub a0 w' ∧ DomLe U400 bF.heap.size a0 ∧ Dj a0 aZ) (fun s => iR s.1 s.2.1 s.2.2) (e1, aW, 0) ⟨Hx410, _, a3, sl b5 aW b6, a4, Ee ⟨rfl, rfl, rfl, rfl, rfl, rfl, rfl, rfl, trivial⟩, (Br _ _), e2, e3, (Oe D402 _), c3, e4, (Oe D403 _), hR⟩ ?_
  rintro ⟨cJ, aV, aD⟩ _ bP ⟨Hi, ρ, aZ, dI, a0, rfl, HF⟩
  revert HF
  refine bb8 fun X407 cK cL fN cM cN fO cO => ?_
  have H := H cJ aV aD Hi
  obtain ⟨cP, cQ, rfl⟩ := cM.shape
  refine Wq (Wq (Wg (Lv ok 0 [(83, I aD), (84, I (ln f.Rows)), (85, I (ln f.Cols)), (86, I (wr ((ln f.Rows) + (ln f.Cols)))), (87, .bool (decide (aD < (wr ((ln f.Rows) + (ln f.Cols))))))] 5 rfl rfl (Ln _ rfl ?_))))
  refine Wc (decide (aD < (wr ((ln f.Rows) + (ln f.Cols))))) rfl (fun dJ => ?_) (fun dJ => ?_)
  ·have H := H.1 dJ
   refine Wk ?_
   have fP := (c5.but X85 b7)
   have fQ := (c7.but X85 b8)
   have fR := (c9.but X85 b9)
   have fS := (dB.but X85 cA)
   have fT := (cB.but X85 bL)
   have fU := (cD.but X85 bM)
   have fV := (cF.but X85 bN)
   have fW := (cH.but X85 bO)
   obtain ⟨U470, hU471⟩ : ∃ U : PH, U = (un aZ a0) := ⟨_, rfl⟩
   have D472 : Dom U470 aZ := Dom.eqv hU471 (Dom.l _ _)
   have D473 : Dom U470 a0 := Dom.eqv hU471 (Ot (Dom.r _ _) (Or _))
   obtain ⟨iS, iT, H⟩ := jn_elim H
   refine W_join2 (S := (List Int) × (List Int)) (fun s ρ' w' => iS s.1 s.2 ∧ ∃ (ρ : Env) (bG : PH) (dK : Value) (bH : PH), ρ' = setAll [(0, pb b), (3, I (ln f.Rows)), (4, I (ln f.Cols)), (5, .slice aB (List.length (List.replicate (Int.toNat (wr ((ln f.Rows) + (ln f.Cols)))) ((0 : Int)))) aC), (6, dK), (8, I atx), (9, I aO), (10, I aD)] ρ ∧ But U470 bP w' ∧ OS 3 bG emp (.slice aB (List.length (List.replicate (Int.toNat (wr ((ln f.Rows) + (ln f.Cols)))) ((0 : Int)))) aC) s.1 ∧ Sub bG w' ∧ DomLe U470 bP.heap.size bG ∧ OS 3 bH emp dK s.2 ∧ Sub bH w' ∧ DomLe U470 bP.heap.size bH ∧ Dj bH bG) ?_ ?_
   ·refine W_block ?_
    obtain ⟨iU, iV, H⟩ := jn_elim H
    refine W_join2 (S := Bool) (fun s ρ' w' => iU s ∧ ∃ (ρ : Env), ρ' = setAll [(0, pb b), (3, I (ln f.Rows)), (4, I (ln f.Cols)), (5, .slice aB (List.length (List.replicate (Int.toNat (wr ((ln f.Rows) + (ln f.Cols)))) ((0 : Int)))) aC), (6, sl cP aV cQ), (8, I atx), (9, I aO), (10, I aD), (101, .bool s)] ρ ∧ Ext bP w') ?_ ?_
    ·refine Wg (Lv ok 0 [(90, .slice aB (List.length (List.replicate (Int.toNat (wr ((ln f.Rows) + (ln f.Cols)))) ((0 : Int)))) aC), (91, I aD)] 2 rfl rfl ?_)
     obtain ⟨dL, iW, iX, H⟩ := H
     refine Li 2 rfl rfl rfl Try.underlying22 ti_3 rfl rfl cK.readf iW iX fun kQ kR iY iZ => (Lo 3 rfl rfl rfl ti_3 ag_3 rfl iY iZ cL fun kS i0 => ?_)
     obtain rfl := i0.int
     refine Lv ok 4 [(94, .bool (dL == ((-2)))), (95, .bool (dL == ((-2))))] 6 rfl rfl ?_
     refine LP_split 95 (dL == ((-2))) rfl (fun dM => ?_) (fun dM => ?_)
     ·have H := H.1 dM
      refine Lv ok 6 [(96, pb b), (97, I aO), (98, I aD)] 9 rfl rfl (Lc 9 rfl rfl rfl cal_105 rfl (spec_tFill_room_w _ _ _ _ H bP r (e7.but X407 (Dj.eqv hU401 (Dl (Mj aS (Dj.eqv hU237 c6) fP) (Mj aX (Dj.eqv hU237 c6) fP)))) cR (e9.but X407 (Dj.eqv hU401 (Dl (Mj aS (Dj.eqv hU237 c8) fQ) (Mj aX (Dj.eqv hU237 c8) fQ)))) cS (fB.but X407 (Dj.eqv hU401 (Dl (Mj aS (Dj.eqv hU237 dA) fR) (Mj aX (Dj.eqv hU237 dA) fR)))) cT (fD.but X407 (Dj.eqv hU401 (Dl (Mj aS (Dj.eqv hU237 dC) fS) (Mj aX (Dj.eqv hU237 dC) fS)))) bS.readf (fF.but X407 (Dj.eqv hU401 (Dl (Mj aS (Dj.eqv hU237 cC) fT) (Mj aX (Dj.eqv hU237 cC) fT)))) bI.readf (fH.but X407 (Dj.eqv hU401 (Dl (Mj aS (Dj.eqv hU237 cE) fU) (Mj aX (Dj.eqv hU237 cE) fU)))) bJ.readf (dD.but X407 (Dj.eqv hU401 (Dl (Mj aS (Dj.eqv hU237 cG) fV) (Mj aX (Dj.eqv hU237 cG) fV)))) (dE.but X407 (Dj.eqv hU401 (Dl (Mj aS (Dj.eqv hU237 cI) fW) (Mj aX (Dj.eqv hU237 cI) fW))))) ?_)
      rintro _ kT ⟨dN, H, rfl, i1⟩
      refine Lv ok 10 [(100, .bool (decide (dN > 0))), (101, .bool (decide (dN > 0)))] 12 rfl rfl ?_
      exact Ln _ rfl ⟨decide (dN > 0), H, _, Ee ⟨rfl, rfl, rfl, rfl, rfl, rfl, rfl, rfl, rfl, trivial⟩, i1⟩
     have H := H.2 dM
     refine Lv ok 6 [(96, undef), (97, undef), (98, undef), (99, undef), (100, undef), (101, .bool false)] 12 rfl rfl ?_
     exact Ln _ rfl ⟨false, H, _, Ee ⟨rfl, rfl, rfl, rfl, rfl, rfl, rfl, rfl, rfl, trivial⟩, (Ext.refl _)⟩
    rintro i2 _ kU ⟨H, ρ, rfl, X482⟩
    subst iV
    refine Wc (i2) rfl (fun dO => ?_) (fun dO => ?_)
    ·have H := H.1 dO
     refine Wq (Wg (Lv ok 0 [(102, .slice aB (List.length (List.replicate (Int.toNat (wr ((ln f.Rows) + (ln f.Cols)))) ((0 : Int)))) aC), (103, I aD), (104, I aO)] 3 rfl rfl ?_))
     obtain ⟨i3, i4, H⟩ := H
     refine LP_indexw (v := .slice aB (List.length (List.replicate (Int.toNat (wr ((ln f.Rows) + (ln f.Cols)))) ((0 : Int)))) aC) 3 rfl rfl rfl Try.underlying22 ti_3 rfl rfl cK i3 i4 fun kV i5 => (LP_set 4 rfl rfl rfl rfl rfl i5 (Le.refl emp) ⟨_, rfl, rfl⟩ (cL.ext X482) fun i6 kW i7 fX dP fY => (Ln _ rfl (Wg (Lv ok 0 [(106, sl cP aV cQ), (107, I aD)] 2 rfl rfl ?_))))
     refine LP_lit (α := Int) (g := emp) 2 (vs := [I aD]) (xs := [aD]) rfl rfl rfl Try.underlying22 ti_3 rfl rfl ⟨⟨_, rfl, rfl⟩, trivial⟩ rfl rfl fun kX kY kZ bQ fZ i9 k0 => ?_
     obtain ⟨k1, k2, rfl⟩ := fZ.shape
     obtain ⟨k3, H⟩ := H
     refine LP_appendf (α := Int) 3 rfl rfl rfl Try.underlying22 ti_3 rfl rfl rfl cM (((cN.ext X482).but dP cO.symm).ext bQ) fZ.readf i9 (by first | omega | (simp only [ln] at *; omega)) (by first | omega | (simp only [ln] at *; omega)) fun jA k4 k5 f0 jB f1 f2 => ?_
     obtain ⟨f3, f4, rfl⟩ := f0.shape
     refine Lv ok 4 [(6, .slice f3 (List.length (aV ++ ([aD]))) f4)] 5 rfl rfl (Ln _ rfl ?_)
     have f5 := (Mj (fY _) cO.symm (cN.ext X482)).symm
     exact ⟨(List.set cJ (Int.toNat aD) aO, aV ++ ([aD])), H, _, i6, .slice f3 (List.length (aV ++ ([aD]))) f4, jA, Ee ⟨rfl, rfl, rfl, rfl, rfl, rfl, rfl, rfl, trivial⟩, (((((Br U470 _).stepx X482).step dP (Oe D472 _)).stepx bQ).step f1 (Oe D473 _)), i7, ((fX.ext bQ).but f1 f5), (Mt (Oe D472 _) (fY _) X482.size), f0, jB, (Mt (Oe D473 _) f2 (Nat.le_trans (Nat.le_trans X482.size dP.size) bQ.size)), (Mj f2 f5 (fX.ext bQ))⟩
    have H := H.2 dO
    exact Wk ⟨(cJ, aV), H, _, aZ, sl cP aV cQ, a0, Ee ⟨rfl, rfl, rfl, rfl, rfl, rfl, rfl, rfl, trivial⟩, ((Br U470 _).stepx X482), cK, (cL.ext X482), (Oe D472 _), cM, (cN.ext X482), (Oe D473 _), cO⟩
   rintro ⟨jC, f6⟩ _ k6 ⟨H, ρ, bG, dK, bH, rfl, HF⟩
   revert HF
   refine bb8 fun X477 jD jE jF f7 jG jH jI => ?_
   subst iT
   obtain ⟨jJ, jK, rfl⟩ := f7.shape
   refine Wg (Lv ok 0 [(88, I aD), (89, I (wr (aD + 1))), (10, I (wr (aD + 1)))] 3 rfl rfl (Ln _ rfl ?_))
   have dQ : DomLe U400 bF.heap.size U470 := (DomLe.eqv hU471 (Mu (Mt (Oe (Or _) _) fN (Nat.le_refl _)) (Mt (Oe (Or _) _) fO (Nat.le_refl _))))
   exact ⟨(jC, f6, wr (aD + 1)), ⟨H.1, _, bG, sl jJ f6 jK, bH, Ee ⟨rfl, rfl, rfl, rfl, rfl, rfl, rfl, rfl, trivial⟩, (((Br U400 _).step X407 (Oe (Or _) _)).step X477 dQ), jD, jE, (Mt dQ jF X407.size), f7, jG, (Mt dQ jH X407.size), jI⟩, H.2⟩
  have H := H.2 dJ
  refine W_exit ?_
  refine (if_pos rfl).mpr ?_
  refine Wg (Lv ok 0 [(58, I atx), (59, I (wr (atx + 1))), (8, I (wr (atx + 1)))] 3 rfl rfl (Ln _ rfl ?_))
  have dR : DomLe U236 a2.heap.size U400 := (DomLe.eqv hU401 (Mu (Mt (Oe (Or _) _) aS (Nat.le_refl _)) (Mt (Oe (Or _) _) aX (Nat.le_refl _))))
  exact ⟨(cJ, aV, wr (atx + 1)), ⟨H.1, _, aZ, sl cP aV cQ, a0, Ee ⟨rfl, rfl, rfl, rfl, rfl, rfl, trivial⟩, (((Br U236 _).step X243 (Oe (Or _) _)).step X407 dR), cK, cL, (Mt dR fN X243.size), cM, cN, (Mt dR fO X243.size), cO⟩, H.2⟩
 have H := H.2 c4
 refine W_exit ?_
 refine (if_pos rfl).mpr ?_
 refine Wq (Wg (Lv ok 0 [(2, .bool false)] 1 rfl rfl (Ln _ rfl (W_ret ?_))))
 have bR := (x.trans aE)
 have f8 := (bT.ext x)
 have dS := (Df f8 aF).symm
 have f9 := (f8.ext aE)
 have gA := (a8.ext x)
 have dT := (Df gA aF).symm
 have gB := (gA.ext aE)
 have gC := (bU.ext x)
 have dU := (Df gC aF).symm
 have gD := (gC.ext aE)
 have gE := (a1.ext x)
 have dV := (Df gE aF).symm
 have gF := (gE.ext aE)
 have X584 := (X.stepx x)
 have jL := aF.mono X584.size
 have gG := aF.mono X584.size
 have X587 := (X584.stepx aE)
 have jM := DomLe.fresh aJ gG X587.size
 have jN := DomLe.fresh aN gG X587.size
 subst hM
 exact ⟨_, Ret_of [.bool false] ⟨⟨rfl, rfl⟩, trivial⟩, _, _, _, _, _, _, _, _, _, _, H, rfl, (((X.stepx bR).step X85 (jL.dom _)).step X243 (DomLe.eqv hU237 (Mu (jM.dom _) (jN.dom _)))), bS, (((bT.ext bR).but X85 dS).but X243 (Dj.eqv hU237 (Dl (Mj aJ dS f9) (Mj aN dS f9)))), (Oe D _), bI, (((a8.ext bR).but X85 dT).but X243 (Dj.eqv hU237 (Dl (Mj aJ dT gB) (Mj aN dT gB)))), (Oe D59 _), bJ, (((bU.ext bR).but X85 dU).but X243 (Dj.eqv hU237 (Dl (Mj aJ dU gD) (Mj aN dU gD)))), (Oe D60 _), (((a1.ext bR).but X85 dV).but X243 (Dj.eqv hU237 (Dl (Mj aJ dV gF) (Mj aN dV gF)))), d, dZ, d0, d1, d2, d3⟩

theorem spec_tFilled_w (t : Transport) (Q : TFill → Bool → Prop) (H : spec_tFilled t Q) (w : World) {vx : Value} {hx : PH} (r : RS hx vx t.Rows) (ex : Sub hx w) {c1 : Value} {aC : PH} (c2 : RS aC c1 t.Cols) (eH : Sub aC w) {c3 : Value} {aD : PH} (c4 : RS aD c3 t.Lo) (eI : Sub aD w) {c5 : Value} {aE : PH} (c6 : RS aE c5 t.Hi) (eJ : Sub aE w) :
  CallsTo Try.prog 66 #[.agg #[vx, c1, c3, c5]] w fun v w' => ∃ aF c7 u0_0 g0_0 u0_1 g0_1 u0_2 g0_2 u0_3 g0_3 u0_4 g0_4 u0_5 g0_5 u0_6 g0_6 b0_, Q aF c7 ∧ v = .tuple #[pb b0_, .bool c7] ∧ Ext w w' ∧ RS g0_0 u0_0 aF.T.Rows ∧ Sub g0_0 w' ∧ DomLe (un hx (un aC (un aD aE))) w.heap.size g0_0 ∧ RS g0_1 u0_1 aF.T.Cols ∧ Sub g0_1 w' ∧ DomLe (un hx (un aC (un aD aE))) w.heap.size g0_1 ∧ RS g0_2 u0_2 aF.T.Lo ∧ Sub g0_2 w' ∧ DomLe (un hx (un aC (un aD aE))) w.heap.size g0_2 ∧ RS g0_3 u0_3 aF.T.Hi ∧ Sub g0_3 w' ∧ DomLe (un hx (un aC (un aD aE))) w.heap.size g0_3 ∧ OD g0_4 u0_4 aF.X ∧ Sub g0_4 w' ∧ Fresh w.heap.size g0_4 ∧ OS 3 g0_5 emp u0_5 aF.Rows ∧ Sub g0_5 w' ∧ Fresh w.heap.size g0_5 ∧ OS 3 g0_6 emp u0_6 aF.Cols ∧ Sub g0_6 w' ∧ Fresh w.heap.size g0_6 ∧ Sub (bx b0_ 85 [u0_0, u0_1, u0_2, u0_3, u0_4, u0_5, u0_6]) w' ∧ Fresh w.heap.size (bx b0_ 85 [u0_0, u0_1, u0_2, u0_3, u0_4, u0_5, u0_6]) ∧ Dj g0_0 g0_4 ∧ Dj g0_0 g0_5 ∧ Dj g0_0 g0_6 ∧ Dj g0_0 (bx b0_ 85 [u0_0, u0_1, u0_2, u0_3, u0_4, u0_5, u0_6]) ∧ Dj g0_1 g0_4 ∧ Dj g0_1 g0_5 ∧ Dj g0_1 g0_6 ∧ Dj g0_1 (bx b0_ 85 [u0_0, u0_1, u0_2, u0_3, u0_4, u0_5, u0_6]) ∧ Dj g0_2 g0_4 ∧ Dj g0_2 g0_5 ∧ Dj g0_2 g0_6 ∧ Dj g0_2 (bx b0_ 85 [u0_0, u0_1, u0_2, u0_3, u0_4, u0_5, u0_6]) ∧ Dj g0_3 g0_4 ∧ Dj g0_3 g0_5 ∧ Dj g0_3 g0_6 ∧ Dj g0_3 (bx b0_ 85 [u0_0, u0_1, u0_2, u0_3, u0_4, u0_5, u0_6]) ∧ Dj g0_4 g0_5 ∧ Dj g0_4 g0_6 ∧ Dj g0_4 (bx b0_ 85 [u0_0, u0_1, u0_2, u0_3, u0_4, u0_5, u0_6]) ∧ Dj g0_5 g0_6 ∧ Dj g0_5 (bx b0_ 85 [u0_0, u0_1, u0_2, u0_3, u0_4, u0_5, u0_6]) ∧ Dj g0_6 (bx b0_ 85 [u0_0, u0_1, u0_2, u0_3, u0_4, u0_5, u0_6]) := by
 obtain ⟨a, c, rfl⟩ := r.shape
 obtain ⟨bU, bV, rfl⟩ := c2.shape
 obtain ⟨bW, bX, rfl⟩ := c4.shape
 obtain ⟨bY, bZ, rfl⟩ := c6.shape
 refine enter (args := [.agg #[sl a t.Rows c, sl bU t.Cols bV, sl bW t.Lo bX, sl bY t.Hi bZ]]) 17 Try.func66 rfl rfl rfl ?_
 refine Wo [(0, .agg #[sl a t.Rows c, sl bU t.Cols bV, sl bW t.Lo bX, sl bY t.Hi bZ])] ⟨rfl, trivial⟩ fun ρ => ?_
 have D : Dom (un hx (un aC (un aD aE))) hx := (Dom.l _ _)
 have D19 : Dom (un hx (un aC (un aD aE))) aC := (Ot (Dom.r _ _) (Dom.l _ _))
 have D20 : Dom (un hx (un aC (un aD aE))) aD := (Ot (Dom.r _ _) (Ot (Dom.r _ _) (Dom.l _ _)))
 have D21 : Dom (un hx (un aC (un aD aE))) aE := (Ot (Dom.r _ _) (Ot (Dom.r _ _) (Ot (Dom.r _ _) (Or _))))
 have X := Br emp w
 refine Wq (Wg (Ly 0 (cs := [sl a t.Rows c, sl bU t.Cols bV, sl bW t.Lo bX, sl bY t.Hi bZ]) rfl rfl rfl rfl rfl fun b wx x eK f => (Lv ok 1 [(2, .pointer none), (3, .bool false)] 3 rfl rfl (Ln _ rfl (Wq (Wg (Lb 0 (v := .agg #[sl a t.Rows c, sl bU t.Cols bV, sl bW t.Lo bX, sl bY t.Hi bZ]) rfl rfl rfl ti_29 ag_29 (fun h => by cases h) rfl eK rfl rfl ?_)))))))
 refine Lc 1 rfl rfl rfl cal_98 rfl (spec_tStart_w _ _ H wx r (ex.ext x) c2 (eH.ext x) c4 (eI.ext x) c6 (eJ.ext x)) ?_
 rintro _ aN ⟨aA, aO, fN, cG, fO, cH, fP, cI, fQ, cJ, fR, cK, fS, cL, fT, cM, aB, H, rfl, c8, HF⟩
 revert HF
 refine bb9 fun o a6 c9 b0 a7 dA b1 a8 => ?_
 refine bb9 fun dB b2 a9 dC cN dD dE cO => ?_
 refine bb9 fun dF dG cP dH dI dJ cQ d => ?_
 refine bb9 fun dK dL aG dM dN dO aH dP => ?_
 refine bb9 fun dQ dR aI dS dT dU aJ dV => ?_
 refine bb5 fun dW dX dY dZ d0 => ?_
 obtain ⟨aP, aQ, rfl⟩ := o.shape
 obtain ⟨aR, aS, rfl⟩ := b0.shape
 obtain ⟨aT, aU, rfl⟩ := b1.shape
 obtain ⟨aV, aW, rfl⟩ := b2.shape
 obtain ⟨cR, cS, rfl⟩ := cN.shape
 obtain ⟨cT, cU, rfl⟩ := cO.shape
 obtain ⟨cV, cW, rfl⟩ := cP.shape
 refine Lv ok 2 [(6, .tuple #[pb aB, .bool aO]), (9, pb aB), (10, .bool aO), (4, pb aB), (5, .bool aO)] 7 rfl rfl (Ln _ rfl (Wq (Wq (Wg (Lv ok 0 [(11, .bool aO), (12, .bool (!aO))] 2 rfl rfl (Ln _ rfl ?_))))))
 refine Wc (!aO) rfl (fun hc => ?_) (fun hc => ?_)
 ·have H := H.1 hc
  refine Wq (Wg (Lv ok 0 [(13, pb aB), (2, pb aB), (3, .bool false)] 3 rfl rfl (Ln _ rfl (W_ret ?_))))
  have X103 := (X.stepx x)
  have eL := dE.mono X103.size
  have eM := dG.mono X103.size
  have eN := dI.mono X103.size
  have eO := cQ.mono X103.size
  exact ⟨_, Ret_of [pb aB, .bool false] ⟨⟨rfl, rfl⟩, ⟨rfl, rfl⟩, trivial⟩, _, _, _, _, _, _, _, _, _, _, _, _, _, _, _, _, _, H, rfl, (X103.stepx c8).ext, o, a6, (Mt (Mu (Oe D _) (Mu (Oe D19 _) (Mu (Oe D20 _) (Oe D21 _)))) c9 X103.size), b0, a7, (Mt (Mu (Oe D _) (Mu (Oe D19 _) (Mu (Oe D20 _) (Oe D21 _)))) dA X103.size), b1, a8, (Mt (Mu (Oe D _) (Mu (Oe D19 _) (Mu (Oe D20 _) (Oe D21 _)))) dB X103.size), b2, a9, (Mt (Mu (Oe D _) (Mu (Oe D19 _) (Mu (Oe D20 _) (Oe D21 _)))) dC X103.size), cN, dD, eL, cO, dF, eM, cP, dH, eN, dJ, eO, d, dK, dL, aG, dM, dN, dO, aH, dP, dQ, dR, aI, dS, dT, dU, aJ, dV, dW, dX, dY, dZ, d0⟩
 have H := H.2 hc
 refine Wk (Wq (W_block ?_))
 obtain ⟨U, hU⟩ : ∃ U : PH, U = (un cK (un cL (un cM (bx aB 85 [sl aP aA.T.Rows aQ, sl aR aA.T.Cols aS, sl aT aA.T.Lo aU, sl aV aA.T.Hi aW, sl cR aA.X cS, sl cT aA.Rows cU, sl cV aA.Cols cW])))) := ⟨_, rfl⟩
 have D126 : Dom U cK := Dom.eqv hU (Dom.l _ _)
 have D127 : Dom U cL := Dom.eqv hU (Ot (Dom.r _ _) (Dom.l _ _))
 have D128 : Dom U cM := Dom.eqv hU (Ot (Dom.r _ _) (Ot (Dom.r _ _) (Dom.l _ _)))
 have D129 : Dom U (bx aB 85 [sl aP aA.T.Rows aQ, sl aR aA.T.Cols aS, sl aT aA.T.Lo aU, sl aV aA.T.Hi aW, sl cR aA.X cS, sl cT aA.Rows cU, sl cV aA.Cols cW]) := Dom.eqv hU (Ot (Dom.r _ _) (Ot (Dom.r _ _) (Ot (Dom.r _ _) (Or _))))
 obtain ⟨J, m, Hx, H⟩ := H
 refine W_loop (S := (List (List Int)) × (List Int) × (List Int)) (fun s ρ' w' => J s.1 s.2.1 s.2.2 ∧ ∃ (ρ : Env) (aX : Value) (aK : PH) (aY : Value) (aL : PH) (aZ : Value) (aM : PH), ρ' = setAll [(4, pb aB)] ρ ∧ But U aN w' ∧ OD aK aX s.1 ∧ Sub aK w' ∧ DomLe U aN.heap.size aK ∧ OS 3 aL emp aY s.2.1 ∧ Sub aL w' ∧ DomLe U aN.heap.size aL ∧ OS 3 aM emp aZ s.2.2 ∧ Sub aM w' ∧ DomLe U aN.heap.size aM ∧ Sub (bx aB 85 [sl aP aA.T.Rows aQ, sl aR aA.T.Cols aS, sl aT aA.T.Lo aU, sl aV aA.T.Hi aW, aX, aY, aZ]) w' ∧ Dj aK (bx aB 85 [sl aP aA.T.Rows aQ, sl aR aA.T.Cols aS, sl aT aA.T.Lo aU, sl aV aA.T.Hi aW, aX, aY, aZ]) ∧ Dj aL (bx aB 85 [sl aP aA.T.Rows aQ, sl aR aA.T.Cols aS, sl aT aA.T.Lo aU, sl aV aA.T.Hi aW, aX, aY, aZ]) ∧ Dj aL aK ∧ Dj aM (bx aB 85 [sl aP aA.T.Rows aQ, sl aR aA.T.Cols aS, sl aT aA.T.Lo aU, sl aV aA.T.Hi aW, aX, aY, aZ]) ∧ Dj aM aK ∧ Dj aM aL) (fun s => m s.1 s.2.1 s.2.2) (aA.X, aA.Rows, aA.Cols) ⟨Hx, _, sl cR aA.X cS, cK, sl cT aA.Rows cU, cL, sl cV aA.Cols cW, cM, Ee ⟨rfl, trivial⟩, (Br _ _), cN, dD, (Oe D126 _), cO, dF, (Oe D127 _), cP, dH, (Oe D128 _), dJ, dX, dZ, dV.symm, d0, dW.symm, dY.symm⟩ ?_
 rintro ⟨eP, rows, cols⟩ _ eQ ⟨Hi, ρ, aX, aK, aY, aL, aZ, aM, rfl, HF⟩
 revert HF
 refine bb9 fun X143 d1 eR a0 d2 eS a1 d3 => ?_
 refine bb9 fun eT a2 eU eV eW eX eY eZ e0 => ?_
 have H := H eP rows cols Hi
 obtain ⟨fU, fV, rfl⟩ := d1.shape
 obtain ⟨fW, fX, rfl⟩ := d2.shape
 obtain ⟨fY, fZ, rfl⟩ := d3.shape
 refine Wq (Wq (Wg (Lv ok 0 [(14, pb aB)] 1 rfl rfl ?_)))
 have dj := (Dl dL.symm aG.symm)
 have b3 := (Dl d.symm (Dl dK.symm dj))
 have bA := (Mj a0 (Dj.eqv hU b3) a6)
 have b4 := (Dl dM.symm (Dl dN.symm (Dl dO.symm aH.symm)))
 have bB := (Mj a0 (Dj.eqv hU b4) a7)
 have b5 := (Dl dP.symm (Dl dQ.symm (Dl dR.symm aI.symm)))
 have bC := (Mj a0 (Dj.eqv hU b5) a8)
 have b6 := (Dl dS.symm (Dl dT.symm (Dl dU.symm aJ.symm)))
 have bD := (Mj a0 (Dj.eqv hU b6) a9)
 have bE := (Mj a1 (Dj.eqv hU b3) a6)
 have bF := (Mj a1 (Dj.eqv hU b4) a7)
 have bG := (Mj a1 (Dj.eqv hU b5) a8)
 have bH := (Mj a1 (Dj.eqv hU b6) a9)
 have bI := (Mj a2 (Dj.eqv hU b3) a6)
 have bJ := (Mj a2 (Dj.eqv hU b4) a7)
 have bK := (Mj a2 (Dj.eqv hU b5) a8)
 have bL := (Mj a2 (Dj.eqv hU b6) a9)
 have bM := (a6.but X143 (Dj.eqv hU b3))
 have bN := (a7.but X143 (Dj.eqv hU b4))
 have bO := (a8.but X143 (Dj.eqv hU b5))
 have bP := (a9.but X143 (Dj.eqv hU b6))
 refine Lc 1 rfl rfl rfl cal_99 rfl (spec_tFill_augment_w _ _ H eQ o bM b0 bN b1 bO b2 bP d1 eR d2 eS d3 eT eU eX.symm eZ.symm eV e0.symm eW eY bA bB bC bD bE bF bG bH bI bJ bK bL (Db aG.symm) (Db aH.symm) (Db aI.symm) (Db aJ.symm)) ?_
 rintro _ f0 ⟨e1, d4, d5, d6, f1, bQ, f2, bR, f3, bS, H, rfl, a3, HF⟩
 revert HF
 refine bb9 fun cX d7 dm cY d8 a4 cZ d9 => ?_
 refine bb8 fun a5 eA eB eC eD eE eF eG => ?_
 obtain ⟨e2, e3, rfl⟩ := cX.shape
 obtain ⟨e4, e5, rfl⟩ := cY.shape
 obtain ⟨e6, e7, rfl⟩ := cZ.shape
 refine Ln _ rfl ?_
 refine Wc (e1) rfl (fun c0 => ?_) (fun c0 => ?_)
 ·have H := H.1 c0
  refine Wk (W_block (Wk ?_))
  have dl : DomLe U aN.heap.size aK := (Mt (Oe (Or _) _) a0 (Nat.le_refl _))
  have b7 : DomLe U aN.heap.size aL := (Mt (Oe (Or _) _) a1 (Nat.le_refl _))
  have b8 : DomLe U aN.heap.size aM := (Mt (Oe (Or _) _) a2 (Nat.le_refl _))
  exact ⟨(d4, d5, d6), ⟨H.1, _, sl e2 d4 e3, bQ, sl e4 d5 e5, bR, sl e6 d6 e7, bS, Ee ⟨rfl, trivial⟩, (((Br U _).step X143 (Oe (Or _) _)).step a3 (Mu dl (Mu b7 (Mu b8 (Md D129 Sd))))), cX, d7, (Mt (Mu dl (Mu b7 (Mu b8 (Md D129 Sd)))) dm X143.size), cY, d8, (Mt (Mu dl (Mu b7 (Mu b8 (Md D129 Sd)))) a4 X143.size), cZ, d9, (Mt (Mu dl (Mu b7 (Mu b8 (Md D129 Sd)))) a5 X143.size), eA, eD, eF, eB.symm, eG, eC.symm, eE.symm⟩, H.2⟩
 have H := H.2 c0
 refine W_exit ?_
 refine (if_pos rfl).mpr ?_
 refine Wq (Wg (Lv ok 0 [(16, pb aB), (2, pb aB), (3, .bool true)] 3 rfl rfl (Ln _ rfl (W_ret ?_))))
 have X212 := (X.stepx x)
 have b9 := dE.mono X212.size
 have cA := dG.mono X212.size
 have cB := dI.mono X212.size
 have cC := cQ.mono X212.size
 have X221 := (X212.stepx c8)
 have cD := DomLe.fresh a0 (Fresh.eqv hU (Fresh.un b9 (Fresh.un cA (Fresh.un cB cC)))) X221.size
 have cE := DomLe.fresh a1 (Fresh.eqv hU (Fresh.un b9 (Fresh.un cA (Fresh.un cB cC)))) X221.size
 have cF := DomLe.fresh a2 (Fresh.eqv hU (Fresh.un b9 (Fresh.un cA (Fresh.un cB cC)))) X221.size
 have bT := cQ.mono X212.size
 have X227 := (X221.step X143 (DomLe.eqv hU (Mu (b9.dom _) (Mu (cA.dom _) (Mu (cB.dom _) (cC.dom _))))))
 have e8 := DomLe.fresh dm (Fresh.un cD (Fresh.un cE (Fresh.un cF (Fresh.box bT)))) X227.size
 have e9 := DomLe.fresh a4 (Fresh.un cD (Fresh.un cE (Fresh.un cF (Fresh.box bT)))) X227.size
 have fA := DomLe.fresh a5 (Fresh.un cD (Fresh.un cE (Fresh.un cF (Fresh.box bT)))) X227.size
 have fB : Dj cG bQ := (Mj dm (Dl bA (Dl bE (Dl bI (Db aG.symm)))) bM).symm
 have fC : Dj cG bR := (Mj a4 (Dl bA (Dl bE (Dl bI (Db aG.symm)))) bM).symm
 have fD : Dj cG bS := (Mj a5 (Dl bA (Dl bE (Dl bI (Db aG.symm)))) bM).symm
 have fE : Dj cH bQ := (Mj dm (Dl bB (Dl bF (Dl bJ (Db aH.symm)))) bN).symm
 have fF : Dj cH bR := (Mj a4 (Dl bB (Dl bF (Dl bJ (Db aH.symm)))) bN).symm
 have fG : Dj cH bS := (Mj a5 (Dl bB (Dl bF (Dl bJ (Db aH.symm)))) bN).symm
 have fH : Dj cI bQ := (Mj dm (Dl bC (Dl bG (Dl bK (Db aI.symm)))) bO).symm
 have fI : Dj cI bR := (Mj a4 (Dl bC (Dl bG (Dl bK (Db aI.symm)))) bO).symm
 have fJ : Dj cI bS := (Mj a5 (Dl bC (Dl bG (Dl bK (Db aI.symm)))) bO).symm
 have fK : Dj cJ bQ := (Mj dm (Dl bD (Dl bH (Dl bL (Db aJ.symm)))) bP).symm
 have fL : Dj cJ bR := (Mj a4 (Dl bD (Dl bH (Dl bL (Db aJ.symm)))) bP).symm
 have fM : Dj cJ bS := (Mj a5 (Dl bD (Dl bH (Dl bL (Db aJ.symm)))) bP).symm
 exact ⟨_, Ret_of [pb aB, .bool true] ⟨⟨rfl, rfl⟩, ⟨rfl, rfl⟩, trivial⟩, _, _, _, _, _, _, _, _, _, _, _, _, _, _, _, _, _, H, rfl, (X227.step a3 (Mu (cD.dom _) (Mu (cE.dom _) (Mu (cF.dom _) ((Fresh.box bT).dom _))))).ext, o, (bM.but a3 (Dl bA (Dl bE (Dl bI (Db aG.symm))))), (Mt (Mu (Oe D _) (Mu (Oe D19 _) (Mu (Oe D20 _) (Oe D21 _)))) c9 X212.size), b0, (bN.but a3 (Dl bB (Dl bF (Dl bJ (Db aH.symm))))), (Mt (Mu (Oe D _) (Mu (Oe D19 _) (Mu (Oe D20 _) (Oe D21 _)))) dA X212.size), b1, (bO.but a3 (Dl bC (Dl bG (Dl bK (Db aI.symm))))), (Mt (Mu (Oe D _) (Mu (Oe D19 _) (Mu (Oe D20 _) (Oe D21 _)))) dB X212.size), b2, (bP.but a3 (Dl bD (Dl bH (Dl bL (Db aJ.symm))))), (Mt (Mu (Oe D _) (Mu (Oe D19 _) (Mu (Oe D20 _) (Oe D21 _)))) dC X212.size), cX, d7, e8, cY, d8, e9, cZ, d9, fA, eA, (Fresh.box bT), fB, fC, fD, (Db aG.symm).symm, fE, fF, fG, (Db aH.symm).symm, fH, fI, fJ, (Db aI.symm).symm, fK, fL, fM, (Db aJ.symm).symm, eB, eC, eD, eE, eF, eG⟩

theorem spec_tFeasible_w (t : Transport) (Q : (List (List Int)) → Bool → Prop) (H : spec_tFeasible t Q) (w : World) {vx : Value} {hx : PH} (r : RS hx vx t.Rows) (ex : Sub hx w) {aV : Value} {aW : PH} (aM : RS aW aV t.Cols) (bC : Sub aW w) {aX : Value} {aY : PH} (aZ : RS aY aX t.Lo) (bD : Sub aY w) {a0 : Value} {a1 : PH} (a2 : RS a1 a0 t.Hi) (bE : Sub a1 w) :
  CallsTo Try.prog 33 #[.agg #[vx, aV, aX, a0]] w fun v w' => ∃ a3 a4 a5 aN, Q a3 a4 ∧ v = .tuple #[a5, .bool a4] ∧ Ext w w' ∧ OD aN a5 a3 ∧ Sub aN w' ∧ Fresh w.heap.size aN := by
 obtain ⟨a, c, rfl⟩ := r.shape
 obtain ⟨aC, aD, rfl⟩ := aM.shape
 obtain ⟨aF, aG, rfl⟩ := aZ.shape
 obtain ⟨aH, aI, rfl⟩ := a2.shape
 refine enter (args := [.agg #[sl a t.Rows c, sl aC t.Cols aD, sl aF t.Lo aG, sl aH t.Hi aI]]) 32 Try.func33 rfl rfl rfl ?_
 refine Wo [(0, .agg #[sl a t.Rows c, sl aC t.Cols aD, sl aF t.Lo aG, sl aH t.Hi aI])] ⟨rfl, trivial⟩ fun ρ => ?_
 have X := Br emp w
 refine Wq (Wg (Ly 0 (cs := [sl a t.Rows c, sl aC t.Cols aD, sl aF t.Lo aG, sl aH t.Hi aI]) rfl rfl rfl rfl rfl fun b wx x aO f => (Lv ok 1 [(2, .slice none 0 0), (3, .bool false)] 3 rfl rfl (Ln _ rfl (Wq (Wq ?_))))))
 refine W_quiet mix (by kernel_rfl) ?_
 refine QP_ev ok 0 [(6, pb b)] 1 rfl rfl ?_
 refine QP_ldbox 1 (v := sl a t.Rows c) rfl rfl rfl ti_22 ag_22 (fun _ => rfl) rfl aO rfl rfl ?_
 obtain ⟨aP, Hd, H⟩ := H
 have a6 := (ex.ext x)
 refine QP_call (I aP) 2 rfl rfl rfl cal_67 rfl (fun bF bG => (spec_tSum_w _ _ Hd bF r (a6.ext bG)).mono ?_) ?_
 ·rintro _ _ ⟨_, rfl, rfl, x⟩; exact ⟨rfl, x⟩
 refine QP_ev ok 3 [(9, .pointer (some ⟨b, 1, none⟩))] 4 rfl rfl ?_
 refine QP_ldbox 4 (v := sl aC t.Cols aD) rfl rfl rfl ti_22 ag_22 (fun _ => rfl) rfl aO rfl rfl ?_
 obtain ⟨aQ, Hd25, H⟩ := H
 have a7 := (bC.ext x)
 refine QP_call (I aQ) 5 rfl rfl rfl cal_67 rfl (fun bH bI => (spec_tSum_w _ _ Hd25 bH aM (a7.ext bI)).mono ?_) ?_
 ·rintro _ _ ⟨_, rfl, rfl, x⟩; exact ⟨rfl, x⟩
 refine QP_ev ok 6 [(12, .bool (aP != aQ))] 7 rfl rfl ?_
 refine QP_end _ rfl fun bJ aE => ?_
 refine Wc (aP != aQ) rfl (fun hc => ?_) (fun hc => ?_)
 ·have H := H.1 hc
  refine Wq (Wg (Lv ok 0 [(2, .slice none 0 0), (3, .bool false)] 2 rfl rfl (Ln _ rfl (W_ret ?_))))
  exact ⟨_, Ret_of [.slice none 0 0, .bool false] ⟨⟨rfl, rfl⟩, ⟨rfl, rfl⟩, trivial⟩, _, _, _, emp, H, rfl, (X.stepx (x.trans aE)).ext, OD.nil, (emp_sub _), (emp_fresh _)⟩
 have H := H.2 hc
 refine Wk (Wq (Wg (Lb 0 (v := .agg #[sl a t.Rows c, sl aC t.Cols aD, sl aF t.Lo aG, sl aH t.Hi aI]) rfl rfl rfl ti_29 ag_29 (fun h => by cases h) rfl (aO.ext aE) rfl rfl ?_)))
 have aJ := (x.trans aE)
 refine Lc 1 rfl rfl rfl cal_66 rfl (spec_tFilled_w _ _ H bJ r (a6.ext aE) aM (a7.ext aE) aZ (bD.ext aJ) a2 (bE.ext aJ)) ?_
 rintro _ a8 ⟨aK, aB, bX, bY, bZ, b0, b1, b2, b3, b4, b5, b6, b7, b8, b9, cA, aA, H, rfl, bK, HF⟩
 revert HF
 refine bb9 fun o cB cC bL cD cE bM cF => ?_
 refine bb9 fun cG bN cH cI a9 bO bP bA => ?_
 refine bb9 fun bQ cJ bR cK cL bB cM d => ?_
 refine bb9 fun cN cO cP cQ cR cS cT cU => ?_
 refine bb9 fun cV cW cX cY cZ c0 c1 c2 => ?_
 refine bb5 fun c3 c4 c5 c6 c7 => ?_
 obtain ⟨c8, c9, rfl⟩ := o.shape
 obtain ⟨dA, dB, rfl⟩ := bL.shape
 obtain ⟨dC, dD, rfl⟩ := bM.shape
 obtain ⟨dE, dF, rfl⟩ := bN.shape
 obtain ⟨aR, aS, rfl⟩ := a9.shape
 obtain ⟨bS, bT, rfl⟩ := bA.shape
 obtain ⟨dG, dH, rfl⟩ := bR.shape
 refine Lv ok 2 [(13, .tuple #[pb aA, .bool aB]), (16, pb aA), (17, .bool aB), (4, pb aA), (5, .bool aB)] 7 rfl rfl (Ln _ rfl (Wq ?_))
 have X115 := (X.stepx (aJ.trans bK))
 have bU := bP.mono (X.stepx aJ).size
 obtain ⟨k, hk, H⟩ := jn_elim H
 refine W_join2 (S := Bool) (fun s ρ' w' => k s ∧ ∃ (ρ : Env), ρ' = setAll [(4, pb aA), (27, .bool s)] ρ ∧ Ext a8 w') ?_ ?_
 ·refine Wg (Lv ok 0 [(18, .bool aB), (19, .bool (!aB)), (20, .bool (!aB))] 3 rfl rfl ?_)
  refine LP_split 20 (!aB) rfl (fun aT => ?_) (fun aT => ?_)
  ·have H := H.1 aT
   refine Lv ok 3 [(21, undef), (22, undef), (23, undef), (24, undef), (25, undef), (26, undef), (27, .bool true)] 10 rfl rfl (Ln _ rfl ?_)
   try refine Wo [(4, pb aA), (27, .bool true)] ⟨rfl, rfl, trivial⟩ fun ρ => ?_
   exact ⟨true, H, _, Ee ⟨rfl, rfl, trivial⟩, (Ext.refl _)⟩
  have H := H.2 aT
  refine Lv ok 3 [(21, pb aA), (22, pb aA), (23, .pointer (some ⟨aA, 5, none⟩))] 6 rfl rfl (Lb 6 (v := sl bS aK.Rows bT) rfl rfl rfl ti_22 ag_22 (fun _ => rfl) rfl bB rfl rfl (Lc 7 rfl rfl rfl cal_67 rfl (spec_tSum_w _ _ H a8 bA.readf bQ) ?_))
  rintro _ dI ⟨aL, H, rfl, bV⟩
  refine Lv ok 8 [(26, .bool (decide (aL > 0))), (27, .bool (decide (aL > 0)))] 10 rfl rfl (Ln _ rfl ?_)
  try refine Wo [(4, pb aA), (27, .bool (decide (aL > 0)))] ⟨rfl, rfl, trivial⟩ fun ρ => ?_
  exact ⟨decide (aL > 0), H, _, Ee ⟨rfl, rfl, trivial⟩, bV⟩
 rintro bW _ dJ ⟨H, ρ, rfl, X123⟩
 subst hk
 refine Wc (bW) rfl (fun aU => ?_) (fun aU => ?_)
 ·have H := H.1 aU
  refine Wq (Wg (Lv ok 0 [(2, .slice none 0 0), (3, .bool false)] 2 rfl rfl (Ln _ rfl (W_ret ?_))))
  exact ⟨_, Ret_of [.slice none 0 0, .bool false] ⟨⟨rfl, rfl⟩, ⟨rfl, rfl⟩, trivial⟩, _, _, _, emp, H, rfl, (X115.stepx X123).ext, OD.nil, (emp_sub _), (emp_fresh _)⟩
 have H := H.2 aU
 refine Wk (Wq (Wg (Lv ok 0 [(28, pb aA), (29, pb aA), (30, .pointer (some ⟨aA, 4, none⟩))] 3 rfl rfl (Lb 3 (v := sl aR aK.X aS) rfl rfl rfl ti_23 ag_23 (fun _ => rfl) rfl (bB.ext X123) rfl rfl (Lv ok 4 [(2, sl aR aK.X aS), (3, .bool true)] 6 rfl rfl (Ln _ rfl (W_ret ?_)))))))
 exact ⟨_, Ret_of [sl aR aK.X aS, .bool true] ⟨⟨rfl, rfl⟩, ⟨rfl, rfl⟩, trivial⟩, _, _, _, _, H, rfl, (X115.stepx X123).ext, a9, (bO.ext X123), bU⟩

theorem spec_tWith_w (t : Transport) (i : Int) (j : Int) (lo : Int) (hi : Int) (Q : Transport → Prop) (H : spec_tWith t i j lo hi Q) (w : World) {vx : Value} {hx : PH} (r : RS hx vx t.Rows) (ex : Sub hx w) {dZ : Value} {aF : PH} (cG : RS aF dZ t.Cols) (cH : Sub aF w) {d0 : Value} {aZ : PH} (cZ : RS aZ d0 t.Lo) (fS : Sub aZ w) {d1 : Value} {a0 : PH} (cI : RS a0 d1 t.Hi) (fT : Sub a0 w) :
  CallsTo Try.prog 70 #[.agg #[vx, dZ, d0, d1], I i, I j, I lo, I hi] w fun v w' => ∃ b4 u0_0 g0_0 u0_1 g0_1 u0_2 g0_2 u0_3 g0_3, Q b4 ∧ v = .agg #[u0_0, u0_1, u0_2, u0_3] ∧ Ext w w' ∧ RS g0_0 u0_0 b4.Rows ∧ Sub g0_0 w' ∧ DomLe (un hx (un aF (un aZ a0))) w.heap.size g0_0 ∧ RS g0_1 u0_1 b4.Cols ∧ Sub g0_1 w' ∧ DomLe (un hx (un aF (un aZ a0))) w.heap.size g0_1 ∧ OD g0_2 u0_2 b4.Lo ∧ Sub g0_2 w' ∧ Fresh w.heap.size g0_2 ∧ OD g0_3 u0_3 b4.Hi ∧ Sub g0_3 w' ∧ Fresh w.heap.size g0_3 ∧ Dj g0_0 g0_2 ∧ Dj g0_0 g0_3 ∧ Dj g0_1 g0_2 ∧ Dj g0_1 g0_3 ∧ Dj g0_2 g0_3 := by
 obtain ⟨a, c, rfl⟩ := r.shape
 obtain ⟨aA, aB, rfl⟩ := cG.shape
 obtain ⟨bK, bL, rfl⟩ := cZ.shape
 obtain ⟨bD, bE, rfl⟩ := cI.shape
 refine enter (args := [.agg #[sl a t.Rows c, sl aA t.Cols aB, sl bK t.Lo bL, sl bD t.Hi bE], I i, I j, I lo, I hi]) 40 Try.func70 rfl rfl rfl ?_
 refine Wo [(0, .agg #[sl a t.Rows c, sl aA t.Cols aB, sl bK t.Lo bL, sl bD t.Hi bE]), (1, I i), (2, I j), (3, I lo), (4, I hi)] ⟨rfl, rfl, rfl, rfl, rfl, trivial⟩ fun ρ => ?_
 have D : Dom (un hx (un aF (un aZ a0))) hx := (Dom.l _ _)
 have D19 : Dom (un hx (un aF (un aZ a0))) aF := (Ot (Dom.r _ _) (Dom.l _ _))
 have X := Br emp w
 refine Wq (Wg (Ly 0 (cs := [sl a t.Rows c, sl aA t.Cols aB, sl bK t.Lo bL, sl bD t.Hi bE]) rfl rfl rfl rfl rfl fun b wx x fU f => (La 1 rfl rfl rfl ti_29 rfl fun bM cJ d2 cK bF => (Ln _ rfl ?_))))
 have xc := (x.trans d2)
 have X28 := (X.stepx xc)
 have a1 := (ex.ext xc)
 have a2 := (cH.ext xc)
 have d3 := (fS.ext xc)
 have c0 := (fT.ext xc)
 have fV := bF.mono (X.stepx x).size
 obtain ⟨k, hk, H⟩ := jn_elim H
 refine W_join2 (S := (List Int) × (List Int) × (List (List Int)) × (List (List Int))) (fun s ρ' w' => k s.1 s.2.1 s.2.2.1 s.2.2.2 ∧ ∃ (ρ : Env) (a3 : Value) (a4 : PH) (a5 : Value) (a6 : PH) (a7 : Value) (a8 : PH) (a9 : Value) (bA : PH) (aM : Nat), ρ' = setAll [(1, I i), (2, I j), (3, I lo), (4, I hi), (10, pb bM), (11, pb aM)] ρ ∧ Ext cJ w' ∧ OD a4 a3 s.2.2.1 ∧ Sub a4 w' ∧ DomLe emp cJ.heap.size a4 ∧ OD a6 a5 s.2.2.2 ∧ Sub a6 w' ∧ DomLe emp cJ.heap.size a6 ∧ RS a8 a7 s.1 ∧ Sub a8 w' ∧ DomLe (un hx (un aF (un aZ a0))) w.heap.size a8 ∧ RS bA a9 s.2.1 ∧ Sub bA w' ∧ DomLe (un hx (un aF (un aZ a0))) w.heap.size bA ∧ Sub (bx aM 29 [a7, a9, a3, a5]) w' ∧ Fresh cJ.heap.size (bx aM 29 [a7, a9, a3, a5]) ∧ Dj a4 a8 ∧ Dj a4 bA ∧ Dj a4 (bx aM 29 [a7, a9, a3, a5]) ∧ Dj a6 a8 ∧ Dj a6 bA ∧ Dj a6 (bx aM 29 [a7, a9, a3, a5]) ∧ Dj a6 a4 ∧ Dj a8 (bx bM 29 [.slice none 0 0, .slice none 0 0, .slice none 0 0, .slice none 0 0]) ∧ Dj a8 (bx aM 29 [a7, a9, a3, a5]) ∧ Dj bA (bx bM 29 [.slice none 0 0, .slice none 0 0, .slice none 0 0, .slice none 0 0]) ∧ Dj bA (bx aM 29 [a7, a9, a3, a5])) ?_ ?_
 ·refine W_open mix fun h5 aH => ?_
  refine AP_gameT 12 [[], [0], [], [2], [], [4], [4, 5], [], [7], [4, 5, 6, 7, 8], [0, 1, 2, 3, 4, 5, 6, 7, 8, 9], [], [0, 1, 2, 3, 4, 5, 6, 7, 8, 9, 10, 11]] [[(5, none)], [(12, some 0)], [(5, none)], [(14, some 2)], [(5, none)], [(16, some 4)], [(17, some 5)], [(5, none)], [(19, some 7)], [(20, some 8)], [(13, some 1), (15, some 3), (18, some 6), (21, some 9)], []] [(1, none), (2, none), (3, none), (4, none), (10, none), (11, some 11), (22, some 10)] [0, 1, 2, 3, 4, 5, 6, 7, 8, 9, 10, 11] (by kernel_rfl) (by kernel_rfl) 12 ?_
  refine GT_ev 0 ok [(5, pb b)] (pb b) rfl (by kernel_rfl) rfl (fun _ h => h) (fun _ => rfl) ?_
  have aG := ((fU.ext d2).ext aH)
  refine GT_r1 1 [(12, pb b)] (sl a t.Rows c) rfl (by kernel_rfl) rfl (fun _ h => h) (fun _ w e => ex_ldbox rfl ti_22 ag_22 (fun _ => rfl) rfl e rfl rfl) aG ?_
  refine GT_ev 2 ok [(5, pb b)] (.pointer (some ⟨b, 1, none⟩)) rfl (by kernel_rfl) rfl (fun _ h => h) (fun _ => rfl) ?_
  refine GT_r1 3 [(14, .pointer (some ⟨b, 1, none⟩))] (sl aA t.Cols aB) rfl (by kernel_rfl) rfl (fun _ h => h) (fun _ w e => ex_ldbox rfl ti_22 ag_22 (fun _ => rfl) rfl e rfl rfl) aG ?_
  refine GT_ev 4 ok [(5, pb b)] (.pointer (some ⟨b, 2, none⟩)) rfl (by kernel_rfl) rfl (fun _ h => h) (fun _ => rfl) ?_
  refine GT_r1 5 [(16, .pointer (some ⟨b, 2, none⟩))] (sl bK t.Lo bL) rfl (by kernel_rfl) rfl (fun _ h => h) (fun _ w e => ex_ldbox rfl ti_23 ag_23 (fun _ => rfl) rfl e rfl rfl) aG ?_
  refine GT_ev 7 ok [(5, pb b)] (.pointer (some ⟨b, 3, none⟩)) rfl (by kernel_rfl) rfl (fun _ h => h) (fun _ => rfl) ?_
  refine GT_r1 8 [(19, .pointer (some ⟨b, 3, none⟩))] (sl bD t.Hi bE) rfl (by kernel_rfl) rfl (fun _ h => h) (fun _ w e => ex_ldbox rfl ti_23 ag_23 (fun _ => rfl) rfl e rfl rfl) aG ?_
  refine GT_hd [6, 11] (by kernel_rfl) ⟨?_, ?_, trivial⟩
  ·have H := H.1
   refine GT_lp [(17, sl bK t.Lo bL)] rfl (by kernel_rfl) rfl (fun _ h => h) rfl fun ρ fW aN => ?_
   have bG := (aH.trans aN)
   refine Lc 0 rfl rfl rfl cal_59 rfl (spec_tOwn_w _ _ H fW cZ (d3.ext bG)) ?_
   rintro _ h6 ⟨aC, h7, cL, H, rfl, aO, c1, b5, bN⟩
   obtain ⟨aD, aE, rfl⟩ := c1.shape
   have c2 := (aN.trans aO)
   have c3 := (aG.ext c2)
   have c4 := (aG.ext c2)
   have c5 := (aG.ext c2)
   refine LP_gs ⟨⟨.inr c3, .inl rfl, .inr c4, .inr c5, trivial⟩, ?_⟩
   refine GT_hd [9, 11] (by kernel_rfl) ⟨?_, ?_, trivial⟩
   ·have H := H.1
    refine GT_lp [(20, sl bD t.Hi bE)] rfl (by kernel_rfl) rfl (fun _ h => h) rfl fun ρ fX bB => ?_
    have d4 := (((aH.trans aN).trans aO).trans bB)
    refine Lc 0 rfl rfl rfl cal_59 rfl (spec_tOwn_w _ _ H fX cI (c0.ext d4)) ?_
    rintro _ h8 ⟨aI, h9, d5, H, rfl, b6, d6, d7, cM⟩
    obtain ⟨aP, aQ, rfl⟩ := d6.shape
    have c6 := (bB.trans b6)
    have d8 := (c4.ext c6)
    have d9 := (c5.ext c6)
    refine LP_gs ⟨⟨.inl rfl, .inl rfl, .inr d8, .inr d9, trivial⟩, ?_⟩
    refine GT_ev 10 ok [(13, sl a t.Rows c), (15, sl aA t.Cols aB), (18, sl aD aC aE), (21, sl aP aI aQ)] (.agg #[sl a t.Rows c, sl aA t.Cols aB, sl aD aC aE, sl aP aI aQ]) rfl (by kernel_rfl) rfl (fun _ h => h) (fun _ => rfl) ?_
    refine GT_hd [11] (by kernel_rfl) ⟨GT_lp [] rfl (by kernel_rfl) rfl (fun _ h => h) rfl fun ρ iA bH => ?_, trivial⟩
    refine La 0 rfl rfl rfl ti_29 rfl fun bO iB cN fY aR => ?_
    have eA := (((bB.trans b6).trans bH).trans cN)
    have c7 := (bH.trans cN)
    refine LP_gs ⟨⟨.inr (c3.ext eA), .inr (aG.ext (((((aN.trans aO).trans bB).trans b6).trans bH).trans cN)), .inr (d8.ext c7), .inr (d9.ext c7), trivial⟩, ?_⟩
    refine GT_end (by kernel_rfl) ?_
    intro iC cO ρ hn
    refine AP_forget [(1, I i), (2, I j), (3, I lo), (4, I hi), (10, pb bM), (11, pb bO), (22, .agg #[sl a t.Rows c, sl aA t.Cols aB, sl aD aC aE, sl aP aI aQ])] (by exact hn) fun ρ => ?_
    refine AP_tail 12 [[], [0], [], [2], [], [4], [4, 5], [], [7], [4, 5, 6, 7, 8], [0, 1, 2, 3, 4, 5, 6, 7, 8, 9], [], [0, 1, 2, 3, 4, 5, 6, 7, 8, 9, 10, 11]] (by kernel_rfl) ?_
    refine Lx 12 (vs := [sl a t.Rows c, sl aA t.Cols aB, sl aD aC aE, sl aP aI aQ]) (cs' := [sl a t.Rows c, sl aA t.Cols aB, sl aD aC aE, sl aP aI aQ]) rfl rfl rfl ti_29 rfl rfl rfl rfl rfl (fY.ext cO) rfl rfl fun iD fZ y => (Ln _ rfl ?_)
    have c8 := (((((((aH.trans aN).trans aO).trans bB).trans b6).trans bH).trans cN).trans cO)
    have cP := (((((aH.trans aN).trans aO).trans bB).trans b6).trans bH)
    have eB := (b5.ext (c6.trans bH))
    have dj := (Df eB aR).symm
    have eC := (d7.ext bH)
    have f0 := (Df eC aR).symm
    have eD := (a1.ext cP)
    have f1 := (Df eD aR).symm
    have eE := (a2.ext cP)
    have f2 := (Df eE aR).symm
    have eF := (a1.ext bG)
    have f3 := (Df eF bN).symm
    have eG := (a2.ext bG)
    have f4 := (Df eG bN).symm
    have f5 : Dj cL (bx bO 29 [sl a t.Rows c, sl aA t.Cols aB, sl aD aC aE, sl aP aI aQ]) := (Db (Df eB aR).symm).symm
    have eH := (aO.trans bB)
    have f6 := (Df (eF.ext eH) cM).symm
    have f7 := (Df (eG.ext eH) cM).symm
    have f8 : Dj d5 (bx bO 29 [sl a t.Rows c, sl aA t.Cols aB, sl aD aC aE, sl aP aI aQ]) := (Db (Df eC aR).symm).symm
    have f9 := (Df (b5.ext bB) cM).symm
    have gA : Dj hx (bx bO 29 [sl a t.Rows c, sl aA t.Cols aB, sl aD aC aE, sl aP aI aQ]) := (Db (Df eD aR).symm).symm
    have gB : Dj aF (bx bO 29 [sl a t.Rows c, sl aA t.Cols aB, sl aD aC aE, sl aP aI aQ]) := (Db (Df eE aR).symm).symm
    exact ⟨(t.Rows, t.Cols, aC, aI), H, _, sl aD aC aE, cL, sl aP aI aQ, d5, sl a t.Rows c, hx, sl aA t.Cols aB, aF, bO, Ee ⟨rfl, rfl, rfl, rfl, rfl, rfl, trivial⟩, But.ext (((Br emp _).stepx c8).step y ((aR.mono cP.size).dom _)), c1, ((b5.ext (eA.trans cO)).but y dj), ((bN.mono bG.size).dom _), d6, ((d7.ext (c7.trans cO)).but y f0), ((cM.mono d4.size).dom _), r, ((a1.ext c8).but y f1), (Oe D _), cG, ((a2.ext c8).but y f2), (Oe D19 _), fZ, (Fresh.box (aR.mono cP.size)), f3, f4, f5, f6, f7, f8, f9, (Df (ex.ext x) bF), gA, (Df (cH.ext x) bF), gB⟩
   ·have H := H.2
    refine GT_lp [] rfl (by kernel_rfl) rfl (fun _ h => h) rfl fun ρ iE bI => ?_
    refine La 0 rfl rfl rfl ti_29 rfl fun bP iF bQ eI bC => ?_
    have c9 := (bI.trans bQ)
    have eJ := (c4.ext c9)
    have eK := (c5.ext c9)
    refine LP_gs ⟨⟨.inr (c3.ext c9), .inr (aG.ext (((aN.trans aO).trans bI).trans bQ)), .inr eJ, .inr eK, trivial⟩, ?_⟩
    refine GT_hd [9] (by kernel_rfl) ⟨GT_lp [(20, sl bD t.Hi bE)] rfl (by kernel_rfl) rfl (fun _ h => h) rfl fun ρ gC bR => ?_, trivial⟩
    have eL := (((((aH.trans aN).trans aO).trans bI).trans bQ).trans bR)
    refine Lc 0 rfl rfl rfl cal_59 rfl (spec_tOwn_w _ _ H gC cI (c0.ext eL)) ?_
    rintro _ iG ⟨aJ, iH, eM, H, rfl, dA, eN, gD, bS⟩
    obtain ⟨aS, aT, rfl⟩ := eN.shape
    have dB := (bR.trans dA)
    refine LP_gs ⟨⟨.inl rfl, .inl rfl, .inr (eJ.ext dB), .inr (eK.ext dB), trivial⟩, ?_⟩
    refine GT_ev 10 ok [(13, sl a t.Rows c), (15, sl aA t.Cols aB), (18, sl aD aC aE), (21, sl aS aJ aT)] (.agg #[sl a t.Rows c, sl aA t.Cols aB, sl aD aC aE, sl aS aJ aT]) rfl (by kernel_rfl) rfl (fun _ h => h) (fun _ => rfl) ?_
    refine GT_end (by kernel_rfl) ?_
    intro iI cQ ρ gE
    refine AP_forget [(1, I i), (2, I j), (3, I lo), (4, I hi), (10, pb bM), (11, pb bP), (22, .agg #[sl a t.Rows c, sl aA t.Cols aB, sl aD aC aE, sl aS aJ aT])] (by exact gE) fun ρ => ?_
    refine AP_tail 12 [[], [0], [], [2], [], [4], [4, 5], [], [7], [4, 5, 6, 7, 8], [0, 1, 2, 3, 4, 5, 6, 7, 8, 9], [], [0, 1, 2, 3, 4, 5, 6, 7, 8, 9, 10, 11]] (by kernel_rfl) ?_
    refine Lx 12 (vs := [sl a t.Rows c, sl aA t.Cols aB, sl aD aC aE, sl aS aJ aT]) (cs' := [sl a t.Rows c, sl aA t.Cols aB, sl aD aC aE, sl aS aJ aT]) rfl rfl rfl ti_29 rfl rfl rfl rfl rfl (eI.ext (dB.trans cQ)) rfl rfl fun iJ gF b7 => (Ln _ rfl ?_)
    have dC := (((((((aH.trans aN).trans aO).trans bI).trans bQ).trans bR).trans dA).trans cQ)
    have cR := (((aH.trans aN).trans aO).trans bI)
    have dD := (b5.ext bI)
    have gG := (Df dD bC).symm
    have eO := (eI.ext bR)
    have dE := (a1.ext cR)
    have gH := (Df dE bC).symm
    have dF := (a2.ext cR)
    have gI := (Df dF bC).symm
    have gJ := (Df (a1.ext bG) bN).symm
    have gK := (Df (a2.ext bG) bN).symm
    have gL : Dj cL (bx bP 29 [sl a t.Rows c, sl aA t.Cols aB, sl aD aC aE, sl aS aJ aT]) := (Db (Df dD bC).symm).symm
    have dG := (bQ.trans bR)
    have gM := (Df (dE.ext dG) bS).symm
    have gN := (Df (dF.ext dG) bS).symm
    have gO : Dj eM (bx bP 29 [sl a t.Rows c, sl aA t.Cols aB, sl aD aC aE, sl aS aJ aT]) := (Db (Df eO bS).symm.symm).symm
    have gP := (Df (dD.ext dG) bS).symm
    have gQ : Dj hx (bx bP 29 [sl a t.Rows c, sl aA t.Cols aB, sl aD aC aE, sl aS aJ aT]) := (Db (Df dE bC).symm).symm
    have gR : Dj aF (bx bP 29 [sl a t.Rows c, sl aA t.Cols aB, sl aD aC aE, sl aS aJ aT]) := (Db (Df dF bC).symm).symm
    exact ⟨(t.Rows, t.Cols, aC, aJ), H, _, sl aD aC aE, cL, sl aS aJ aT, eM, sl a t.Rows c, hx, sl aA t.Cols aB, aF, bP, Ee ⟨rfl, rfl, rfl, rfl, rfl, rfl, trivial⟩, But.ext (((Br emp _).stepx dC).step b7 ((bC.mono cR.size).dom _)), c1, ((b5.ext ((((bI.trans bQ).trans bR).trans dA).trans cQ)).but b7 gG), ((bN.mono bG.size).dom _), eN, ((gD.ext cQ).but b7 (Df eO bS)), ((bS.mono eL.size).dom _), r, ((a1.ext dC).but b7 gH), (Oe D _), cG, ((a2.ext dC).but b7 gI), (Oe D19 _), gF, (Fresh.box (bC.mono cR.size)), gJ, gK, gL, gM, gN, gO, gP, (Df (ex.ext x) bF), gQ, (Df (cH.ext x) bF), gR⟩
  ·have H := H.2
   refine GT_lp [] rfl (by kernel_rfl) rfl (fun _ h => h) rfl fun ρ iK b8 => ?_
   refine La 0 rfl rfl rfl ti_29 rfl fun bT iL b9 eP bU => ?_
   have cS := (b8.trans b9)
   have eQ := (aG.ext cS)
   have eR := (aG.ext cS)
   have eS := (aG.ext cS)
   refine LP_gs ⟨⟨.inr eQ, .inr (aG.ext cS), .inr eR, .inr eS, trivial⟩, ?_⟩
   refine GT_hd [6] (by kernel_rfl) ⟨GT_lp [(17, sl bK t.Lo bL)] rfl (by kernel_rfl) rfl (fun _ h => h) rfl fun ρ gS bJ => ?_, trivial⟩
   have eT := (((aH.trans b8).trans b9).trans bJ)
   refine Lc 0 rfl rfl rfl cal_59 rfl (spec_tOwn_w _ _ H gS cZ (d3.ext eT)) ?_
   rintro _ iM ⟨aK, iN, eU, H, rfl, cA, eV, eW, cB⟩
   obtain ⟨aU, aV, rfl⟩ := eV.shape
   have dH := (bJ.trans cA)
   have eX := (eR.ext dH)
   have eY := (eS.ext dH)
   refine LP_gs ⟨⟨.inr (eQ.ext dH), .inl rfl, .inr eX, .inr eY, trivial⟩, ?_⟩
   refine GT_hd [9] (by kernel_rfl) ⟨GT_lp [(20, sl bD t.Hi bE)] rfl (by kernel_rfl) rfl (fun _ h => h) rfl fun ρ gT bV => ?_, trivial⟩
   have eZ := (((((aH.trans b8).trans b9).trans bJ).trans cA).trans bV)
   refine Lc 0 rfl rfl rfl cal_59 rfl (spec_tOwn_w _ _ H gT cI (c0.ext eZ)) ?_
   rintro _ iO ⟨aL, iP, e0, H, rfl, dI, e1, gU, bW⟩
   obtain ⟨aW, aX, rfl⟩ := e1.shape
   have dJ := (bV.trans dI)
   refine LP_gs ⟨⟨.inl rfl, .inl rfl, .inr (eX.ext dJ), .inr (eY.ext dJ), trivial⟩, ?_⟩
   refine GT_ev 10 ok [(13, sl a t.Rows c), (15, sl aA t.Cols aB), (18, sl aU aK aV), (21, sl aW aL aX)] (.agg #[sl a t.Rows c, sl aA t.Cols aB, sl aU aK aV, sl aW aL aX]) rfl (by kernel_rfl) rfl (fun _ h => h) (fun _ => rfl) ?_
   refine GT_end (by kernel_rfl) ?_
   intro iQ cT ρ gV
   refine AP_forget [(1, I i), (2, I j), (3, I lo), (4, I hi), (10, pb bM), (11, pb bT), (22, .agg #[sl a t.Rows c, sl aA t.Cols aB, sl aU aK aV, sl aW aL aX])] (by exact gV) fun ρ => ?_
   refine AP_tail 12 [[], [0], [], [2], [], [4], [4, 5], [], [7], [4, 5, 6, 7, 8], [0, 1, 2, 3, 4, 5, 6, 7, 8, 9], [], [0, 1, 2, 3, 4, 5, 6, 7, 8, 9, 10, 11]] (by kernel_rfl) ?_
   refine Lx 12 (vs := [sl a t.Rows c, sl aA t.Cols aB, sl aU aK aV, sl aW aL aX]) (cs' := [sl a t.Rows c, sl aA t.Cols aB, sl aU aK aV, sl aW aL aX]) rfl rfl rfl ti_29 rfl rfl rfl rfl rfl (eP.ext ((((bJ.trans cA).trans bV).trans dI).trans cT)) rfl rfl fun iR gW cC => (Ln _ rfl ?_)
   have dK := (((((((aH.trans b8).trans b9).trans bJ).trans cA).trans bV).trans dI).trans cT)
   have cU := (aH.trans b8)
   have dL := (eP.ext bJ)
   have dM := (cA.trans bV)
   have e2 := (dL.ext dM)
   have dN := (a1.ext cU)
   have gX := (Df dN bU).symm
   have dO := (a2.ext cU)
   have gY := (Df dO bU).symm
   have e3 := (b9.trans bJ)
   have e4 := (dN.ext e3)
   have gZ := (Df e4 cB).symm
   have e5 := (dO.ext e3)
   have g0 := (Df e5 cB).symm
   have g1 : Dj eU (bx bT 29 [sl a t.Rows c, sl aA t.Cols aB, sl aU aK aV, sl aW aL aX]) := (Db (Df dL cB).symm.symm).symm
   have g2 := (Df (e4.ext dM) bW).symm
   have g3 := (Df (e5.ext dM) bW).symm
   have g4 : Dj e0 (bx bT 29 [sl a t.Rows c, sl aA t.Cols aB, sl aU aK aV, sl aW aL aX]) := (Db (Df e2 bW).symm.symm).symm
   have g5 := (Df (eW.ext bV) bW).symm
   have g6 : Dj hx (bx bT 29 [sl a t.Rows c, sl aA t.Cols aB, sl aU aK aV, sl aW aL aX]) := (Db (Df dN bU).symm).symm
   have g7 : Dj aF (bx bT 29 [sl a t.Rows c, sl aA t.Cols aB, sl aU aK aV, sl aW aL aX]) := (Db (Df dO bU).symm).symm
   exact ⟨(t.Rows, t.Cols, aK, aL), H, _, sl aU aK aV, eU, sl aW aL aX, e0, sl a t.Rows c, hx, sl aA t.Cols aB, aF, bT, Ee ⟨rfl, rfl, rfl, rfl, rfl, rfl, trivial⟩, But.ext (((Br emp _).stepx dK).step cC ((bU.mono cU.size).dom _)), eV, ((eW.ext (dJ.trans cT)).but cC (Df dL cB)), ((cB.mono eT.size).dom _), e1, ((gU.ext cT).but cC (Df e2 bW)), ((bW.mono eZ.size).dom _), r, ((a1.ext dK).but cC gX), (Oe D _), cG, ((a2.ext dK).but cC gY), (Oe D19 _), gW, (Fresh.box (bU.mono cU.size)), gZ, g0, g1, g2, g3, g4, g5, (Df (ex.ext x) bF), g6, (Df (cH.ext x) bF), g7⟩
 rintro ⟨rows, cols, bX, bY⟩ _ iS ⟨H, ρ, a3, a4, a5, a6, a7, a8, a9, bA, aM, rfl, HF⟩
 revert HF
 refine bb9 fun X80 o dP e6 e7 dQ e8 e9 => ?_
 refine bb9 fun dR g8 fA dS g9 fB iT d => ?_
 refine bb9 fun dT hA fC fD hB dU hC iU => ?_
 refine bb2 fun hD iV => ?_
 subst hk
 obtain ⟨bZ, b0, rfl⟩ := o.shape
 obtain ⟨b1, b2, rfl⟩ := e7.shape
 obtain ⟨cV, cW, rfl⟩ := e9.shape
 obtain ⟨cX, cY, rfl⟩ := fA.shape
 refine Wq (Wg (Lv ok 0 [(23, .pointer (some ⟨aM, 2, none⟩))] 1 rfl rfl (Lb 1 (v := sl bZ bX b0) rfl rfl rfl ti_23 ag_23 (fun _ => rfl) rfl fB rfl rfl (Lv ok 2 [(25, I i)] 3 rfl rfl ?_))))
 obtain ⟨dV, hE, hF, H⟩ := H
 refine LP_indexb (v := sl bZ bX b0) 3 rfl rfl rfl Try.underlying23 ti_22 rfl rfl o hE hF fun iW u hG rest hH bw => (LP_ldcell 4 rfl rfl rfl ti_22 ag_22 rfl hH dP ?_)
 have fE := bw.od
 obtain ⟨fF, fG, rfl⟩ := fE.shape
 have hI := Sub.le dP bw.le
 have hJ : OS 3 hG emp (sl fF dV fG) dV := OD.flat fE
 refine Lv ok 5 [(28, I j), (29, I lo)] 7 rfl rfl ?_
 obtain ⟨hK, hl, H⟩ := H
 refine LP_indexw (v := sl fF dV fG) 7 rfl rfl rfl Try.underlying22 ti_3 rfl rfl hJ hK hl fun iX wa => (LP_set 8 rfl rfl rfl rfl rfl wa (Le.refl emp) ⟨_, rfl, rfl⟩ hI fun iY iZ hL hM fH dm => ?_)
 obtain ⟨i0, hN, dd⟩ := BwL.turn bw (OS.od hL) (Dom.of dm)
 have fI := BwL.sub bw dP hM fH
 have aY := BwL.but bw fH
 refine Ln _ rfl (Wq (Wg (Lv ok 0 [(31, .pointer (some ⟨aM, 3, none⟩))] 1 rfl rfl ?_)))
 have fJ := (fB.but aY hA)
 refine Lb 1 (v := sl b1 bY b2) rfl rfl rfl ti_23 ag_23 (fun _ => rfl) rfl fJ rfl rfl (Lv ok 2 [(33, I i)] 3 rfl rfl ?_)
 obtain ⟨dW, hO, hP, H⟩ := H
 refine LP_indexb (v := sl b1 bY b2) 3 rfl rfl rfl Try.underlying23 ti_22 rfl rfl e7 hO hP fun i1 i2 hQ i3 hR cD => ?_
 have dX := (dQ.but aY dU.symm)
 refine LP_ldcell 4 rfl rfl rfl ti_22 ag_22 rfl hR dX ?_
 have fK := cD.od
 obtain ⟨fL, fM, rfl⟩ := fK.shape
 have hS := Sub.le dX cD.le
 have hT : OS 3 hQ emp (sl fL dW fM) dW := OD.flat fK
 refine Lv ok 5 [(36, I j), (37, I hi)] 7 rfl rfl ?_
 obtain ⟨hU, hV, H⟩ := H
 refine LP_indexw (v := sl fL dW fM) 7 rfl rfl rfl Try.underlying22 ti_3 rfl rfl hT hU hV fun i4 hW => (LP_set 8 rfl rfl rfl rfl rfl hW (Le.refl emp) ⟨_, rfl, rfl⟩ hS fun i5 i6 hX hY fN hZ => ?_)
 obtain ⟨i7, h0, cE⟩ := BwL.turn cD (OS.od hX) (Dom.of hZ)
 have h1 := BwL.sub cD dX hY fN
 have b3 := BwL.but cD fN
 refine Ln _ rfl (Wq (Wg (Lb 0 (v := .agg #[sl cV rows cW, sl cX cols cY, sl bZ bX b0, sl b1 bY b2]) rfl rfl rfl ti_29 ag_29 (fun h => by cases h) rfl (fJ.but b3 hB) rfl rfl ?_)))
 have dY := (Mj e6 (Dj.emp_l _) cK)
 have fO := (Mj e8 (Dj.emp_l _) cK)
 refine Lx 1 (vs := [sl cV rows cW, sl cX cols cY, sl bZ bX b0, sl b1 bY b2]) (cs' := [sl cV rows cW, sl cX cols cY, sl bZ bX b0, sl b1 bY b2]) rfl rfl rfl ti_29 rfl rfl rfl rfl rfl (((cK.ext X80).but aY dY).but b3 fO) rfl rfl fun i9 h2 cF => (Ln _ rfl (W_ret ?_))
 have fP := (cK.ext X80)
 have fQ := DomLe.fresh e6 (emp_fresh _) X28.size
 have X402 := (X28.stepx X80)
 have h3 := ((fun n => Oe dd n) _).fresh fQ X402.size
 have fR := DomLe.fresh e8 (emp_fresh _) X28.size
 have X407 := (X402.step aY (fQ.dom _))
 have h4 := ((fun n => Oe cE n) _).fresh fR X407.size
 exact ⟨_, Ret_of [.agg #[sl cV rows cW, sl cX cols cY, sl bZ bX b0, sl b1 bY b2]] ⟨⟨_, rfl, rfl, ld_res ti_29 ag_29 (fun h => by cases h) h2 rfl rfl⟩, trivial⟩, _, _, _, _, _, _, _, _, _, H, rfl, ((X407.step b3 (fR.dom _)).step cF (fV.dom _)).ext, e9, (((dR.but aY d).but b3 fC).but cF hC.symm), g8, fA, (((dS.but aY dT).but b3 fD).but cF hD.symm), g9, hN, ((fI.but b3 (Mj ((fun n => Oe dd n) _) dU.symm dQ).symm).but cF (Mj ((fun n => Oe dd n) _) dY fP).symm), h3, h0, (h1.but cF (Mj ((fun n => Oe cE n) _) fO (fP.but aY dY)).symm), h4, (Mj ((fun n => Oe dd n) _) d dR).symm, (Mj ((fun n => Oe cE n) _) fC (dR.but aY d)).symm, (Mj ((fun n => Oe dd n) _) dT dS).symm, (Mj ((fun n => Oe cE n) _) fD (dS.but aY dT)).symm, (Mj ((fun n => Oe cE n) _) (Mj ((fun n => Oe dd n) _) dU.symm dQ).symm fI).symm⟩

theorem spec_tLow_w (t : Transport) (i : Int) (j : Int) (Q : Int → Prop) (H : spec_tLow t i j Q) (w : World) {vx : Value} {hx : PH} (r : RS hx vx t.Rows) (ex : Sub hx w) {aZ : Value} {a0 : PH} (a1 : RS a0 aZ t.Cols) (bO : Sub a0 w) {a2 : Value} {a3 : PH} (aN : RS a3 a2 t.Lo) (bP : Sub a3 w) {a4 : Value} {a5 : PH} (aQ : RS a5 a4 t.Hi) (bQ : Sub a5 w) :
  CallsTo Try.prog 60 #[.agg #[vx, aZ, a2, a4], I i, I j] w fun v w' => ∃ a6, Q a6 ∧ v = I a6 ∧ Ext w w' := by
 obtain ⟨a, c, rfl⟩ := r.shape
 obtain ⟨aK, aL, rfl⟩ := a1.shape
 obtain ⟨aC, aD, rfl⟩ := aN.shape
 obtain ⟨aH, aI, rfl⟩ := aQ.shape
 refine enter (args := [.agg #[sl a t.Rows c, sl aK t.Cols aL, sl aC t.Lo aD, sl aH t.Hi aI], I i, I j]) 57 Try.func60 rfl rfl rfl ?_
 refine Wo [(0, .agg #[sl a t.Rows c, sl aK t.Cols aL, sl aC t.Lo aD, sl aH t.Hi aI]), (1, I i), (2, I j)] ⟨rfl, rfl, rfl, trivial⟩ fun ρ => ?_
 have X := Br emp w
 refine Wq (Wg (Ly 0 (cs := [sl a t.Rows c, sl aK t.Cols aL, sl aC t.Lo aD, sl aH t.Hi aI]) rfl rfl rfl rfl rfl fun b wx x aR f => (Lv ok 1 [(6, I 0)] 2 rfl rfl (Ln _ rfl (Wq ?_)))))
 refine W_quiet mix (by kernel_rfl) ?_
 refine QP_ev ok 0 [(12, .pointer (some ⟨b, 2, none⟩))] 1 rfl rfl ?_
 refine QP_ldbox 1 (v := sl aC t.Lo aD) rfl rfl rfl ti_23 ag_23 (fun _ => rfl) rfl aR rfl rfl ?_
 refine QP_ev ok 2 [(14, I i)] 3 rfl rfl ?_
 obtain ⟨c3, hi, bR, H⟩ := H
 refine QP_index 3 rfl rfl rfl Try.underlying23 ti_22 rfl rfl aN hi bR fun c4 cs bS d => ?_
 have aS := (bP.ext x)
 refine QP_load 4 rfl rfl rfl ti_22 ag_22 rfl bS d aS fun c5 bT => ?_
 have a7 := bT.slice
 obtain ⟨c6, c7, rfl⟩ := a7.shape
 refine QP_ev ok 5 [(17, I j)] 6 rfl rfl ?_
 obtain ⟨a8, bU, bV, H⟩ := H
 refine QP_index 6 rfl rfl rfl Try.underlying22 ti_3 rfl rfl a7 bU bV fun c8 c9 bW bX => ?_
 refine QP_load 7 rfl rfl rfl ti_3 ag_3 rfl bW bX aS fun dA bY => ?_
 obtain rfl := bY.int
 refine QP_ev ok 8 [(20, .pointer (some ⟨b, 3, none⟩))] 9 rfl rfl ?_
 refine QP_ldbox 9 (v := sl aH t.Hi aI) rfl rfl rfl ti_23 ag_23 (fun _ => rfl) rfl aR rfl rfl ?_
 refine QP_ev ok 10 [(22, I i)] 11 rfl rfl ?_
 obtain ⟨dB, bZ, b0, H⟩ := H
 refine QP_index 11 rfl rfl rfl Try.underlying23 ti_22 rfl rfl aQ bZ b0 fun dC dD b1 b2 => ?_
 have aT := (bQ.ext x)
 refine QP_load 12 rfl rfl rfl ti_22 ag_22 rfl b1 b2 aT fun dE b3 => ?_
 have a9 := b3.slice
 obtain ⟨dF, dG, rfl⟩ := a9.shape
 refine QP_ev ok 13 [(25, I j)] 14 rfl rfl ?_
 obtain ⟨bA, b4, b5, H⟩ := H
 refine QP_index 14 rfl rfl rfl Try.underlying22 ti_3 rfl rfl a9 b4 b5 fun dH dI b6 b7 => ?_
 refine QP_load 15 rfl rfl rfl ti_3 ag_3 rfl b6 b7 aT fun dJ b8 => ?_
 obtain rfl := b8.int
 refine QP_ev ok 16 [(7, I a8), (8, I bA)] 18 rfl rfl ?_
 refine QP_end _ rfl fun b9 aU => ?_
 refine Wq (W_block ?_)
 obtain ⟨J, m, Hx, H⟩ := H
 refine W_loop (S := Int × Int) (fun s ρ' w' => J s.1 s.2 ∧ ∃ (ρ : Env), ρ' = setAll [(1, I i), (2, I j), (3, pb b), (7, I s.1), (8, I s.2)] ρ ∧ Ext b9 w') (fun s => m s.1 s.2) (a8, bA) ⟨Hx, _, Ee ⟨rfl, rfl, rfl, rfl, rfl, trivial⟩, (Ext.refl _)⟩ ?_
 rintro ⟨lo, aA⟩ _ dK ⟨Hi, ρ, rfl, X65⟩
 have H := H lo aA Hi
 refine Wq (Wq (Wg (Lv ok 0 [(28, I lo), (29, I aA), (30, .bool (decide (lo < aA)))] 3 rfl rfl (Ln _ rfl ?_))))
 refine Wc (decide (lo < aA)) rfl (fun hc => ?_) (fun hc => ?_)
 ·have H := H.1 hc
  refine Wk (W_block (Wq (Wg (Lv ok 0 [(31, I lo), (32, I aA), (33, I (wr (lo + aA)))] 3 rfl rfl (LP_val 3 _ rfl rfl (ex_quo rfl rfl rfl (by decide) _) (Lv ok 4 [(9, I (wr (Int.tdiv (wr (lo + aA)) 2)))] 5 rfl rfl (Ln _ rfl (Wq ?_))))))))
  refine W_open mix fun dL aO => ?_
  refine AP_game 18 [[], [], [], [], [3], [], [3, 4, 5], [3, 4, 5, 6], [], [3, 4, 5, 6, 7, 8], [3, 4, 5, 6, 7, 8, 9], [], [0, 1, 2, 3, 4, 5, 6, 7, 8, 9, 10, 11], [0, 1, 2, 3, 4, 5, 6, 7, 8, 9, 10, 11, 12], [0, 1, 2, 3, 4, 5, 6, 7, 8, 9, 10, 11, 12, 13], [0, 1, 2, 3, 4, 5, 6, 7, 8, 9, 10, 11, 12, 13, 14], [0, 1, 2, 3, 4, 5, 6, 7, 8, 9, 10, 11, 12, 13, 14], [0, 1, 2, 3, 4, 5, 6, 7, 8, 9, 10, 11, 12, 13, 14, 15], [0, 1, 2, 3, 4, 5, 6, 7, 8, 9, 10, 11, 12, 13, 14, 15, 16, 17]] [[(3, none)], [(1, none)], [(2, none)], [(3, none)], [(39, some 3)], [(1, none)], [(40, some 4), (41, some 5)], [(42, some 6)], [(2, none)], [(43, some 7), (44, some 8)], [(45, some 9)], [(9, none)], [(36, some 0), (37, some 1), (38, some 2), (46, some 10), (47, some 11)], [(48, some 12)], [(49, some 13)], [(35, some 14)], [(35, some 14)], [(50, some 15)]] [(1, none), (2, none), (3, none), (7, none), (8, none), (9, none), (51, some 16)] [(0, false), (1, false), (2, false), (3, false), (4, false), (5, false), (6, false), (7, false), (8, false), (9, false), (10, false), (11, false), (12, true), (13, true), (14, false), (15, false), (16, false), (17, false)] (by kernel_rfl) (by kernel_rfl) ?_
  have xc := ((aU.trans X65).trans aO)
  have bB := (aR.ext xc)
  refine GS_r1 [(3, pb b)] (.agg #[sl a t.Rows c, sl aK t.Cols aL, sl aC t.Lo aD, sl aH t.Hi aI]) rfl rfl (fun _ h => h) (fun _ w e => ex_ldbox rfl ti_29 ag_29 (fun h => by cases h) rfl e rfl rfl) bB ?_
  refine GS_ev ok [(1, I i)] (I i) rfl rfl (fun _ h => h) (fun _ => rfl) ?_
  refine GS_ev ok [(2, I j)] (I j) rfl rfl (fun _ h => h) (fun _ => rfl) ?_
  refine GS_ev ok [(3, pb b)] (.pointer (some ⟨b, 2, none⟩)) rfl rfl (fun _ h => h) (fun _ => rfl) ?_
  refine GS_r1 [(39, .pointer (some ⟨b, 2, none⟩))] (sl aC t.Lo aD) rfl rfl (fun _ h => h) (fun _ w e => ex_ldbox rfl ti_23 ag_23 (fun _ => rfl) rfl e rfl rfl) bB ?_
  refine GS_ev ok [(1, I i)] (I i) rfl rfl (fun _ h => h) (fun _ => rfl) ?_
  obtain ⟨aV, cA, cB, H⟩ := H
  obtain ⟨bC, dM, cC, cD, cE⟩ := run_indexAt Try.underlying23 ti_22 aN .i64 _ aV cA cB
  refine GS_r0 [(40, sl aC t.Lo aD), (41, I i)] (.pointer (some bC)) rfl rfl (fun _ h => h) (fun _ _ => ex_index rfl rfl rfl (cC _)) ?_
  obtain ⟨dN, cF, cG⟩ := run_loadAt ti_22 ag_22 cD cE
  have bD := cG.slice
  obtain ⟨bE, bF, rfl⟩ := bD.shape
  have aW := (aS.ext xc)
  refine GS_r1 [(42, .pointer (some bC))] (sl bE aV bF) rfl rfl (fun _ h => h) (fun _ w e => ex_load rfl rfl (cF w e)) aW ?_
  refine GS_ev ok [(2, I j)] (I j) rfl rfl (fun _ h => h) (fun _ => rfl) ?_
  obtain ⟨aX, cH, cI, H⟩ := H
  obtain ⟨bG, dO, cJ, cK, cL⟩ := run_indexAt Try.underlying22 ti_3 bD .i64 _ aX cH cI
  refine GS_r0 [(43, sl bE aV bF), (44, I j)] (.pointer (some bG)) rfl rfl (fun _ h => h) (fun _ _ => ex_index rfl rfl rfl (cJ _)) ?_
  obtain ⟨dP, cM, cN⟩ := run_loadAt ti_3 ag_3 cK cL
  obtain rfl := cN.int
  refine GS_r1 [(45, .pointer (some bG))] (I aX) rfl rfl (fun _ h => h) (fun _ w e => ex_load rfl rfl (cM w e)) aW ?_
  refine GS_ev ok [(9, I (wr (Int.tdiv (wr (lo + aA)) 2)))] (I (wr (Int.tdiv (wr (lo + aA)) 2))) rfl rfl (fun _ h => h) (fun _ => rfl) ?_
  refine GS_lp [(36, .agg #[sl a t.Rows c, sl aK t.Cols aL, sl aC t.Lo aD, sl aH t.Hi aI]), (37, I i), (38, I j), (46, I aX), (47, I (wr (Int.tdiv (wr (lo + aA)) 2)))] rfl rfl (fun _ h => h) rfl fun ρ cO aM => ?_
  have bH := ((((x.trans aU).trans X65).trans aO).trans aM)
  refine Lc 0 rfl rfl rfl cal_70 rfl (spec_tWith_w _ _ _ _ _ _ H cO r (ex.ext bH) a1 (bO.ext bH) aN (aW.ext aM) aQ (aT.ext (xc.trans aM))) ?_
  rintro _ dQ ⟨aP, dR, dS, dT, dU, dV, dW, dX, dY, H, rfl, bI, HF⟩
  revert HF
  refine bb9 fun o cP dZ bJ cQ d0 bK cR => ?_
  refine bb9 fun d1 bL cS d2 d3 d4 d5 d6 d7 => ?_
  obtain ⟨cT, cU, rfl⟩ := o.shape
  obtain ⟨cV, cW, rfl⟩ := bJ.shape
  obtain ⟨cX, cY, rfl⟩ := bK.shape
  obtain ⟨cZ, c0, rfl⟩ := bL.shape
  refine LP_gs ⟨⟨.inl rfl, .inl rfl, .inl rfl, .inl rfl, trivial⟩, ?_⟩
  refine GS_lp [(48, .agg #[sl cT aP.Rows cU, sl cV aP.Cols cW, sl cX aP.Lo cY, sl cZ aP.Hi c0])] rfl rfl (fun _ h => h) rfl fun ρ c1 aJ => ?_
  refine Lc 0 rfl rfl rfl cal_33 rfl (spec_tFeasible_w _ _ H c1 o (cP.ext aJ) bJ (cQ.ext aJ) bK.readf (cR.ext aJ) bL.readf (cS.ext aJ)) ?_
  rintro _ d8 ⟨aE, aB, d9, eA, H, rfl, bM, c2, eB, eC⟩
  obtain ⟨aF, aG, rfl⟩ := c2.shape
  refine LP_gs ⟨⟨.inl rfl, .inl rfl, .inl rfl, .inl rfl, trivial⟩, ?_⟩
  refine GS_ev ok [(49, .tuple #[sl aF aE aG, .bool aB])] (.tuple #[sl aF aE aG, .bool aB]) rfl rfl (fun _ h => h) (fun _ => rfl) ?_
  refine GS_ev ok [(35, .tuple #[sl aF aE aG, .bool aB])] (sl aF aE aG) rfl rfl (fun _ h => h) (fun _ => rfl) ?_
  refine GS_ev ok [(35, .tuple #[sl aF aE aG, .bool aB])] (.bool aB) rfl rfl (fun _ h => h) (fun _ => rfl) ?_
  refine GS_ev ok [(50, sl aF aE aG)] (sl aF aE aG) rfl rfl (fun _ h => h) (fun _ => rfl) ?_
  intro eD bN ρ hn
  refine AP_forget [(1, I i), (2, I j), (3, pb b), (7, I lo), (8, I aA), (9, I (wr (Int.tdiv (wr (lo + aA)) 2))), (51, .bool aB)] (by exact hn) fun ρ => ?_
  refine AP_tail 18 [[], [], [], [], [3], [], [3, 4, 5], [3, 4, 5, 6], [], [3, 4, 5, 6, 7, 8], [3, 4, 5, 6, 7, 8, 9], [], [0, 1, 2, 3, 4, 5, 6, 7, 8, 9, 10, 11], [0, 1, 2, 3, 4, 5, 6, 7, 8, 9, 10, 11, 12], [0, 1, 2, 3, 4, 5, 6, 7, 8, 9, 10, 11, 12, 13], [0, 1, 2, 3, 4, 5, 6, 7, 8, 9, 10, 11, 12, 13, 14], [0, 1, 2, 3, 4, 5, 6, 7, 8, 9, 10, 11, 12, 13, 14], [0, 1, 2, 3, 4, 5, 6, 7, 8, 9, 10, 11, 12, 13, 14, 15], [0, 1, 2, 3, 4, 5, 6, 7, 8, 9, 10, 11, 12, 13, 14, 15, 16, 17]] (by kernel_rfl) ?_
  refine Lv ok 18 [(11, .bool aB)] 19 rfl rfl (Ln _ rfl (Wq (Wg (Lv ok 0 [(52, .bool aB)] 1 rfl rfl (Ln _ rfl ?_)))))
  refine Wc (aB) rfl (fun aY => ?_) (fun aY => ?_)
  ·have H := H.1 aY
   refine Wg (Lv ok 0 [(53, I (wr (Int.tdiv (wr (lo + aA)) 2))), (8, I (wr (Int.tdiv (wr (lo + aA)) 2)))] 2 rfl rfl ?_)
   exact Ln _ rfl ⟨(lo, wr (Int.tdiv (wr (lo + aA)) 2)), ⟨H.1, _, Ee ⟨rfl, rfl, rfl, rfl, rfl, trivial⟩, ((((((X65.trans aO).trans aM).trans bI).trans aJ).trans bM).trans bN)⟩, H.2⟩
  have H := H.2 aY
  refine Wg (Lv ok 0 [(54, I (wr (Int.tdiv (wr (lo + aA)) 2))), (55, I (wr ((wr (Int.tdiv (wr (lo + aA)) 2)) + 1))), (7, I (wr ((wr (Int.tdiv (wr (lo + aA)) 2)) + 1)))] 3 rfl rfl ?_)
  exact Ln _ rfl ⟨(wr ((wr (Int.tdiv (wr (lo + aA)) 2)) + 1), aA), ⟨H.1, _, Ee ⟨rfl, rfl, rfl, rfl, rfl, trivial⟩, ((((((X65.trans aO).trans aM).trans bI).trans aJ).trans bM).trans bN)⟩, H.2⟩
 have H := H.2 hc
 refine W_exit ?_
 refine (if_pos rfl).mpr ?_
 refine Wq (Wg (Lv ok 0 [(56, I lo), (6, I lo)] 2 rfl rfl (Ln _ rfl (W_ret ?_))))
 exact ⟨_, Ret_of [I lo] ⟨⟨rfl, rfl⟩, trivial⟩, _, H, rfl, (X.stepx ((x.trans aU).trans X65)).ext⟩

theorem spec_tCounter_run_w (c : TCounter) (t : Transport) (k : Int) (Q : Int → Int → Prop) (H : spec_tCounter_run c t k Q) (w : World) {b : Nat} (ex : Sub (bx b 55 [I c.N, I c.Most]) w) {vx : Value} {hx : PH} (r : RS hx vx t.Rows) (a5 : Sub hx w) {aM : Value} {aC : PH} (aN : RS aC aM t.Cols) (a6 : Sub aC w) {aO : Value} {aD : PH} (aP : RS aD aO t.Lo) (a7 : Sub aD w) {aQ : Value} {aE : PH} (aI : RS aE aQ t.Hi) (a8 : Sub aE w) (d : Dj (bx b 55 [I c.N, I c.Most]) hx) (a0 : Dj (bx b 55 [I c.N, I c.Most]) aC) (a1 : Dj (bx b 55 [I c.N, I c.Most]) aD) (a2 : Dj (bx b 55 [I c.N, I c.Most]) aE) :
  CallsTo Try.prog 34 #[pb b, .agg #[vx, aM, aO, aQ], I k] w fun v w' => ∃ m1_0 m1_1, Q m1_0 m1_1 ∧ v = .tuple #[] ∧ But (bx b 55 [I c.N, I c.Most]) w w' ∧ Sub (bx b 55 [I m1_0, I m1_1]) w' := by
 obtain ⟨S, mu, H0, HS⟩ := H
 have key : ∀ (m : Nat) (c : TCounter) (t : Transport) (k : Int) (Q : Int → Int → Prop), S c t k Q → mu c t k < m → ∀ (w : World) {b : Nat} (ex : Sub (bx b 55 [I c.N, I c.Most]) w) {vx : Value} {hx : PH} (r : RS hx vx t.Rows) (a5 : Sub hx w) {aM : Value} {aC : PH} (aN : RS aC aM t.Cols) (a6 : Sub aC w) {aO : Value} {aD : PH} (aP : RS aD aO t.Lo) (a7 : Sub aD w) {aQ : Value} {aE : PH} (aI : RS aE aQ t.Hi) (a8 : Sub aE w) (d : Dj (bx b 55 [I c.N, I c.Most]) hx) (a0 : Dj (bx b 55 [I c.N, I c.Most]) aC) (a1 : Dj (bx b 55 [I c.N, I c.Most]) aD) (a2 : Dj (bx b 55 [I c.N, I c.Most]) aE), CallsTo Try.prog 34 #[pb b, .agg #[vx, aM, aO, aQ], I k] w fun v w' => ∃ m1_0 m1_1, Q m1_0 m1_1 ∧ v = .tuple #[] ∧ But (bx b 55 [I c.N, I c.Most]) w w' ∧ Sub (bx b 55 [I m1_0, I m1_1]) w' := by
  intro m
  induction m with
  | zero => intro c t k Q _ hm; exact absurd hm (Nat.not_lt_zero _)
  | succ m ih =>
   intro c t k Q H0 hm w b ex vx hx r a5 aM aC aN a6 aO aD aP a7 aQ aE aI a8 d a0 a1 a2
   have H := HS c t k Q H0
   obtain ⟨a, aR, rfl⟩ := r.shape
   obtain ⟨aS, aT, rfl⟩ := aN.shape
   obtain ⟨a3, a4, rfl⟩ := aP.shape
   obtain ⟨aU, aV, rfl⟩ := aI.shape
   refine enter (args := [pb b, .agg #[sl a t.Rows aR, sl aS t.Cols aT, sl a3 t.Lo a4, sl aU t.Hi aV], I k]) 81 Try.func34 rfl rfl rfl ?_
   refine Wo [(0, pb b), (1, .agg #[sl a t.Rows aR, sl aS t.Cols aT, sl a3 t.Lo a4, sl aU t.Hi aV]), (2, I k)] ⟨rfl, rfl, rfl, trivial⟩ fun ρ => ?_
   have D : Dom (bx b 55 [I c.N, I c.Most]) (bx b 55 [I c.N, I c.Most]) := (Or _)
   have X := Br (bx b 55 [I c.N, I c.Most]) w
   refine Wq (Wg (Ly 0 (cs := [sl a t.Rows aR, sl aS t.Cols aT, sl a3 t.Lo a4, sl aU t.Hi aV]) rfl rfl rfl rfl rfl fun aJ wx x bH f => (Ln _ rfl (Wq (Wg (Lv ok 0 [(13, .pointer (some ⟨aJ, 1, none⟩))] 1 rfl rfl (Lb 1 (v := sl aS t.Cols aT) rfl rfl rfl ti_22 ag_22 (fun _ => rfl) rfl bH rfl rfl (Lv ok 2 [(15, I (ln t.Cols)), (6, I (ln t.Cols))] 4 rfl rfl ?_))))))))
   refine Ln _ rfl (Wq (Wq (Wg (Lv ok 0 [(16, I k), (17, pb aJ)] 2 rfl rfl (Lb 2 (v := sl a t.Rows aR) rfl rfl rfl ti_22 ag_22 (fun _ => rfl) rfl bH rfl rfl (Lv ok 3 [(19, I (ln t.Rows)), (20, I (ln t.Cols)), (21, I (wr ((ln t.Rows) * (ln t.Cols)))), (22, .bool (k == (wr ((ln t.Rows) * (ln t.Cols)))))] 7 rfl rfl (Ln _ rfl ?_)))))))
   refine Wc (k == (wr ((ln t.Rows) * (ln t.Cols)))) rfl (fun hc => ?_) (fun hc => ?_)
   ·have H := H.1 hc
    refine Wq (Wg (Lv ok 0 [(23, pb b), (24, pb b), (25, pb b)] 3 rfl rfl ?_))
    have bU := (ex.ext x)
    refine Lb 3 (v := I c.N) rfl rfl rfl ti_3 ag_3 (fun _ => rfl) rfl bU rfl rfl (Lv ok 4 [(27, I (wr (c.N + 1))), (28, pb b), (29, pb b)] 7 rfl rfl (Lx 7 (vs := [I (wr (c.N + 1))]) (cs' := [I (wr (c.N + 1)), I c.Most]) rfl rfl rfl ti_3 rfl rfl rfl rfl rfl bU rfl rfl fun dN cF y => (Ln _ rfl (W_ret ?_))))
    exact ⟨_, Ret_of [] trivial, _, _, H, rfl, ((X.stepx x).step y (Oe D _)), cF⟩
   have H := H.2 hc
   refine Wk (Wq ?_)
   refine W_quiet mix (by kernel_rfl) ?_
   refine QP_ev ok 0 [(30, I k), (31, I (ln t.Cols))] 2 rfl rfl ?_
   obtain ⟨hz, H⟩ := H
   refine QP_val 2 _ rfl rfl (fun _ _ => ex_quo rfl rfl rfl hz _) ?_
   refine QP_ev ok 3 [(33, I k), (34, I (ln t.Cols))] 5 rfl rfl ?_
   obtain ⟨cG, H⟩ := H
   refine QP_val 5 _ rfl rfl (fun _ _ => ex_rem rfl rfl rfl cG _) ?_
   refine QP_ev ok 6 [(7, I (wr (Int.tdiv k (ln t.Cols)))), (8, I (Int.tmod k (ln t.Cols)))] 8 rfl rfl ?_
   refine QP_end _ rfl fun cH bV => ?_
   refine Wq (Wg ?_)
   have bW := (bH.ext bV)
   refine Lb 0 (v := .agg #[sl a t.Rows aR, sl aS t.Cols aT, sl a3 t.Lo a4, sl aU t.Hi aV]) rfl rfl rfl ti_29 ag_29 (fun h => by cases h) rfl bW rfl rfl (Lv ok 1 [(37, I (wr (Int.tdiv k (ln t.Cols)))), (38, I (Int.tmod k (ln t.Cols)))] 3 rfl rfl ?_)
   have xc := (x.trans bV)
   have bX := (a5.ext xc)
   have bY := (a6.ext xc)
   have bZ := (a7.ext xc)
   have b0 := (a8.ext xc)
   refine Lc 3 rfl rfl rfl cal_60 rfl (spec_tLow_w _ _ _ _ H cH r bX aN bY aP bZ aI b0) ?_
   rintro _ cI ⟨bI, H, rfl, aK⟩
   refine Lv ok 4 [(9, I bI)] 5 rfl rfl (Ln _ rfl ?_)
   try refine Wo [(0, pb b), (2, I k), (4, pb aJ), (7, I (wr (Int.tdiv k (ln t.Cols)))), (8, I (Int.tmod k (ln t.Cols))), (9, I bI)] ⟨rfl, rfl, rfl, rfl, rfl, rfl, trivial⟩ fun ρ => ?_
   refine W_block ?_
   obtain ⟨J, cJ, Hx, H⟩ := H
   refine W_loop (S := Int × Int × Int) (fun s ρ' w' => J s.1 s.2.1 s.2.2 ∧ ∃ (ρ : Env), ρ' = setAll [(0, pb b), (2, I k), (4, pb aJ), (7, I (wr (Int.tdiv k (ln t.Cols)))), (8, I (Int.tmod k (ln t.Cols))), (9, I s.1)] ρ ∧ But (bx b 55 [I c.N, I c.Most]) cI w' ∧ Sub (bx b 55 [I s.2.1, I s.2.2]) w') (fun s => cJ s.1 s.2.1 s.2.2) (bI, c.N, c.Most) ⟨Hx, _, Ee ⟨rfl, rfl, rfl, rfl, rfl, rfl, trivial⟩, (Br _ _), (ex.ext (xc.trans aK))⟩ ?_
   rintro ⟨aB, n, most⟩ _ cK ⟨Hi, ρ, rfl, X44, aW⟩
   have H := H aB n most Hi
   refine Wq ?_
   have X49 := ((X.stepx (xc.trans aK)).step X44 (Oe D _))
   have bJ := ((b0.ext aK).but X44 a2)
   have b1 := ((bW.ext aK).but X44 (Df ex f))
   obtain ⟨cL, hk, H⟩ := jn_elim H
   refine W_join2 (S := Bool) (fun s ρ' w' => cL s ∧ ∃ (ρ : Env), ρ' = setAll [(0, pb b), (2, I k), (4, pb aJ), (7, I (wr (Int.tdiv k (ln t.Cols)))), (8, I (Int.tmod k (ln t.Cols))), (9, I aB), (60, .bool s)] ρ ∧ Ext cK w') ?_ ?_
   ·refine W_quiet mix (by kernel_rfl) ?_
    refine QP_ev ok 0 [(40, I aB), (41, .pointer (some ⟨aJ, 3, none⟩))] 2 rfl rfl ?_
    refine QP_ldbox 2 (v := sl aU t.Hi aV) rfl rfl rfl ti_23 ag_23 (fun _ => rfl) rfl b1 rfl rfl ?_
    refine QP_ev ok 3 [(43, I (wr (Int.tdiv k (ln t.Cols))))] 4 rfl rfl ?_
    obtain ⟨dO, hi, cM, H⟩ := H
    refine QP_index 4 rfl rfl rfl Try.underlying23 ti_22 rfl rfl aI hi cM fun dP cs cN cO => ?_
    refine QP_load 5 rfl rfl rfl ti_22 ag_22 rfl cN cO bJ fun dQ cP => ?_
    have b2 := cP.slice
    obtain ⟨dR, dS, rfl⟩ := b2.shape
    refine QP_ev ok 6 [(46, I (Int.tmod k (ln t.Cols)))] 7 rfl rfl ?_
    obtain ⟨bK, cQ, cR, H⟩ := H
    refine QP_index 7 rfl rfl rfl Try.underlying22 ti_3 rfl rfl b2 cQ cR fun dT dU cS cT => ?_
    refine QP_load 8 rfl rfl rfl ti_3 ag_3 rfl cS cT bJ fun dV cU => ?_
    obtain rfl := cU.int
    refine QP_ev ok 9 [(49, .bool (decide (aB ≤ bK))), (50, .bool (decide (aB ≤ bK)))] 11 rfl rfl ?_
    refine QP_split 50 (decide (aB ≤ bK)) rfl (fun bL => ?_) (fun bL => ?_)
    ·have H := H.1 bL
     refine QP_ev ok 11 [(51, pb b), (52, pb b), (53, pb b)] 14 rfl rfl ?_
     refine QP_ldbox 14 (v := I n) rfl rfl rfl ti_3 ag_3 (fun _ => rfl) rfl aW rfl rfl ?_
     refine QP_ev ok 15 [(55, pb b), (56, pb b), (57, .pointer (some ⟨b, 1, none⟩))] 18 rfl rfl ?_
     refine QP_ldbox 18 (v := I most) rfl rfl rfl ti_3 ag_3 (fun _ => rfl) rfl aW rfl rfl ?_
     refine QP_ev ok 19 [(59, .bool (decide (n ≤ most))), (60, .bool (decide (n ≤ most)))] 21 rfl rfl ?_
     refine QP_end _ rfl fun dW cV => ?_
     exact ⟨decide (n ≤ most), H, _, Ee ⟨rfl, rfl, rfl, rfl, rfl, rfl, rfl, trivial⟩, cV⟩
    have H := H.2 bL
    refine QP_ev ok 11 [(51, undef), (52, undef), (53, undef), (54, undef), (55, undef), (56, undef), (57, undef), (58, undef), (59, undef), (60, .bool false)] 21 rfl rfl ?_
    refine QP_end _ rfl fun dX cW => ?_
    exact ⟨false, H, _, Ee ⟨rfl, rfl, rfl, rfl, rfl, rfl, rfl, trivial⟩, cW⟩
   rintro cX _ cY ⟨H, ρ, rfl, X58⟩
   subst hk
   refine Wc (cX) rfl (fun bM => ?_) (fun bM => ?_)
   ·have H := H.1 bM
    refine Wk (Wq (W_block (Wq (Wg (Lb 0 (v := .agg #[sl a t.Rows aR, sl aS t.Cols aT, sl a3 t.Lo a4, sl aU t.Hi aV]) rfl rfl rfl ti_29 ag_29 (fun h => by cases h) rfl (b1.ext X58) rfl rfl (Lv ok 1 [(64, I (wr (Int.tdiv k (ln t.Cols)))), (65, I (Int.tmod k (ln t.Cols))), (66, I aB), (67, I aB)] 5 rfl rfl (Lc 5 rfl rfl rfl cal_70 rfl (spec_tWith_w _ _ _ _ _ _ H cY r (((bX.ext aK).but X44 d).ext X58) aN (((bY.ext aK).but X44 a0).ext X58) aP (((bZ.ext aK).but X44 a1).ext X58) aI (bJ.ext X58)) ?_)))))))
    rintro _ dY ⟨aA, dZ, d0, d1, d2, d3, d4, d5, d6, H, rfl, aX, HF⟩
    revert HF
    refine bb9 fun o b3 cZ bN b4 c0 bO b5 => ?_
    refine bb9 fun c1 bP b6 c2 d7 d8 d9 eA eB => ?_
    obtain ⟨a9, bA, rfl⟩ := o.shape
    obtain ⟨bB, bC, rfl⟩ := bN.shape
    obtain ⟨bD, bE, rfl⟩ := bO.shape
    obtain ⟨bF, bG, rfl⟩ := bP.shape
    refine La 6 rfl rfl rfl ti_29 rfl fun eC eD aL c3 aG => (Lx 7 (vs := [sl a9 aA.Rows bA, sl bB aA.Cols bC, sl bD aA.Lo bE, sl bF aA.Hi bG]) (cs' := [sl a9 aA.Rows bA, sl bB aA.Cols bC, sl bD aA.Lo bE, sl bF aA.Hi bG]) rfl rfl rfl ti_29 rfl rfl rfl rfl rfl c3 rfl rfl fun c4 b7 aH => (Ln _ rfl (Wq (Wq (Wg ?_)))))
    refine Lb 0 (v := .agg #[sl a9 aA.Rows bA, sl bB aA.Cols bC, sl bD aA.Lo bE, sl bF aA.Hi bG]) rfl rfl rfl ti_29 ag_29 (fun h => by cases h) rfl b7 rfl rfl ?_
    have dj := (Df b3 aG).symm
    have b8 := ((b3.ext aL).but aH dj)
    have c5 := (Df b4 aG).symm
    have b9 := ((b4.ext aL).but aH c5)
    have c6 := (Df b5 aG).symm
    have cA := ((b5.ext aL).but aH c6)
    have c7 := (Df b6 aG).symm
    have cB := ((b6.ext aL).but aH c7)
    refine Lc 1 rfl rfl rfl cal_33 rfl (spec_tFeasible_w _ _ H c4 o b8 bN b9 bO.readf cA bP.readf cB) ?_
    rintro _ c8 ⟨bQ, aY, eE, eF, H, rfl, aF, c9, eG, eH⟩
    obtain ⟨bR, bS, rfl⟩ := c9.shape
    refine Lv ok 2 [(69, .tuple #[sl bR bQ bS, .bool aY]), (72, sl bR bQ bS), (73, .bool aY), (11, sl bR bQ bS), (12, .bool aY)] 7 rfl rfl (Ln _ rfl (Wq (Wg (Lv ok 0 [(74, .bool aY), (75, .bool (!aY))] 2 rfl rfl (Ln _ rfl ?_)))))
    refine Wc (!aY) rfl (fun bT => ?_) (fun bT => ?_)
    ·have H := H.1 bT
     refine W_ret ?_
     have cC := ((X58.trans aX).trans aL)
     have cD := (X58.trans aX)
     have dA := (Df (aW.ext cD) aG).symm
     have dB := aG.mono (X49.stepx cD).size
     exact ⟨_, Ret_of [] trivial, _, _, H, rfl, (((X49.stepx cC).step aH (dB.dom _)).stepx aF), (((aW.ext cC).but aH dA).ext aF)⟩
    have H := H.2 bT
    refine Wk (Wg (Lv ok 0 [(76, pb b)] 1 rfl rfl (Lb 1 (v := .agg #[sl a9 aA.Rows bA, sl bB aA.Cols bC, sl bD aA.Lo bE, sl bF aA.Hi bG]) rfl rfl rfl ti_29 ag_29 (fun h => by cases h) rfl (b7.ext aF) rfl rfl (Lv ok 2 [(78, I k), (79, I (wr (k + 1)))] 4 rfl rfl ?_))))
    have dC : Dj hx (bx b 55 [I n, I most]) := (Db d.symm.symm).symm
    have dD : Dj aC (bx b 55 [I n, I most]) := (Db a0.symm.symm).symm
    have dE : Dj aD (bx b 55 [I n, I most]) := (Db a1.symm.symm).symm
    have dF : Dj aE (bx b 55 [I n, I most]) := (Db a2.symm.symm).symm
    have cE := (Dl dC (Dl dD (Dl dE dF)))
    have aZ := (aW.ext X58)
    have dG := (Mj cZ cE aZ).symm
    have dH := (Mj c0 cE aZ).symm
    have dI := (Df (aZ.ext aX) aG).symm
    refine Lc 4 rfl rfl rfl cal_34 rfl (ih _ _ _ _ H.1 (Nat.lt_of_lt_of_le H.2 (Nat.le_of_lt_succ hm)) c8 (((aZ.ext (aX.trans aL)).but aH dI).ext aF) o (b8.ext aF) bN (b9.ext aF) bO.readf (cA.ext aF) bP.readf (cB.ext aF) dG dH (Df aZ c1) (Df aZ c2)) ?_
    rintro _ eI ⟨dJ, dK, H, rfl, dL, dM⟩
    refine Ln _ rfl (Wg (Lv ok 0 [(61, I aB), (62, I (wr (aB + 1))), (9, I (wr (aB + 1)))] 3 rfl rfl (Ln _ rfl ?_)))
    try refine Wo [(0, pb b), (2, I k), (4, pb aJ), (7, I (wr (Int.tdiv k (ln t.Cols)))), (8, I (Int.tmod k (ln t.Cols))), (9, I (wr (aB + 1)))] ⟨rfl, rfl, rfl, rfl, rfl, rfl, trivial⟩ fun ρ => ?_
    exact ⟨(wr (aB + 1), dJ, dK), ⟨H.1, _, Ee ⟨rfl, rfl, rfl, rfl, rfl, rfl, trivial⟩, ((((((Br (bx b 55 [I c.N, I c.Most]) _).step X44 (Oe (Or _) _)).stepx ((X58.trans aX).trans aL)).step aH ((aG.mono (Nat.le_trans X44.size (X58.trans aX).size)).dom _)).stepx aF).step dL (Md (Or _) Sd)), dM⟩, H.2⟩
   have H := H.2 bM
   refine W_exit ?_
   refine (if_pos rfl).mpr ?_
   exact ⟨_, Ret_of [] trivial, _, _, H, rfl, (X49.stepx X58), (aW.ext X58)⟩
 exact key _ c t k Q H0 (Nat.lt_succ_self _) w ex r a5 aN a6 aP a7 aI a8 d a0 a1 a2

theorem spec_CountFlows_w (t : Transport) (Q : Int → Bool → Prop) (H : spec_CountFlows t Q) (w : World) {vx : Value} {hx : PH} (r : RS hx vx t.Rows) (ex : Sub hx w) {aY : Value} {aZ : PH} (aM : RS aZ aY t.Cols) (bM : Sub aZ w) {a0 : Value} {a1 : PH} (aN : RS a1 a0 t.Lo) (bN : Sub a1 w) {a2 : Value} {a3 : PH} (aO : RS a3 a2 t.Hi) (bO : Sub a3 w) :
  CallsTo Try.prog 8 #[.agg #[vx, aY, a0, a2]] w fun v w' => ∃ a4 a5, Q a4 a5 ∧ v = .tuple #[I a4, .bool a5] ∧ Ext w w' := by
 obtain ⟨a, c, rfl⟩ := r.shape
 obtain ⟨aC, aD, rfl⟩ := aM.shape
 obtain ⟨aG, aH, rfl⟩ := aN.shape
 obtain ⟨aI, aJ, rfl⟩ := aO.shape
 refine enter (args := [.agg #[sl a t.Rows c, sl aC t.Cols aD, sl aG t.Lo aH, sl aI t.Hi aJ]]) 41 Try.func8 rfl rfl rfl ?_
 refine Wo [(0, .agg #[sl a t.Rows c, sl aC t.Cols aD, sl aG t.Lo aH, sl aI t.Hi aJ])] ⟨rfl, trivial⟩ fun ρ => ?_
 have X := Br emp w
 refine Wq (Wg (Ly 0 (cs := [sl a t.Rows c, sl aC t.Cols aD, sl aG t.Lo aH, sl aI t.Hi aJ]) rfl rfl rfl rfl rfl fun b wx x aP f => (Lv ok 1 [(2, I 0), (3, .bool false)] 3 rfl rfl (Ln _ rfl (Wq ?_)))))
 have X20 := (X.stepx x)
 have a6 := (ex.ext x)
 have a7 := (bM.ext x)
 have a8 := (bN.ext x)
 have a9 := (bO.ext x)
 obtain ⟨k, hk, H⟩ := jn_elim H
 refine W_join2 (S := Bool) (fun s ρ' w' => k s ∧ ∃ (ρ : Env), ρ' = setAll [(1, pb b), (19, .bool s)] ρ ∧ Ext wx w') ?_ ?_
 ·refine Wg (Lb 0 (v := .agg #[sl a t.Rows c, sl aC t.Cols aD, sl aG t.Lo aH, sl aI t.Hi aJ]) rfl rfl rfl ti_29 ag_29 (fun h => by cases h) rfl aP rfl rfl (Lc 1 rfl rfl rfl cal_32 rfl (spec_tGood_w _ _ H wx r a6 aM a7 aN a8 aO a9) ?_))
  rintro _ bY ⟨aQ, H, rfl, aR⟩
  refine Lv ok 2 [(9, .bool (!aQ)), (10, .bool (!aQ))] 4 rfl rfl ?_
  refine LP_split 10 (!aQ) rfl (fun hc => ?_) (fun hc => ?_)
  ·have H := H.1 hc
   refine Lv ok 4 [(11, undef), (12, undef), (13, undef), (14, undef), (15, undef), (16, undef), (17, undef), (18, undef), (19, .bool true)] 13 rfl rfl ?_
   exact Ln _ rfl ⟨true, H, _, Ee ⟨rfl, rfl, trivial⟩, aR⟩
  have H := H.2 hc
  refine Lv ok 4 [(11, pb b)] 5 rfl rfl ?_
  have bA := (aP.ext aR)
  refine Lb 5 (v := sl a t.Rows c) rfl rfl rfl ti_22 ag_22 (fun _ => rfl) rfl bA rfl rfl (Lv ok 6 [(13, I (ln t.Rows)), (14, .pointer (some ⟨b, 1, none⟩))] 8 rfl rfl (Lb 8 (v := sl aC t.Cols aD) rfl rfl rfl ti_22 ag_22 (fun _ => rfl) rfl bA rfl rfl (Lv ok 9 [(16, I (ln t.Cols)), (17, I (wr ((ln t.Rows) * (ln t.Cols)))), (18, .bool (decide ((wr ((ln t.Rows) * (ln t.Cols))) > 16))), (19, .bool (decide ((wr ((ln t.Rows) * (ln t.Cols))) > 16)))] 13 rfl rfl ?_)))
  exact Ln _ rfl ⟨decide ((wr ((ln t.Rows) * (ln t.Cols))) > 16), H, _, Ee ⟨rfl, rfl, trivial⟩, aR⟩
 rintro bP _ bQ ⟨H, ρ, rfl, X28⟩
 subst hk
 refine Wc (bP) rfl (fun aS => ?_) (fun aS => ?_)
 ·have H := H.1 aS
  refine Wq (Wg (Lv ok 0 [(2, I 0), (3, .bool false)] 2 rfl rfl (Ln _ rfl (W_ret ?_))))
  exact ⟨_, Ret_of [I 0, .bool false] ⟨⟨rfl, rfl⟩, ⟨rfl, rfl⟩, trivial⟩, _, _, H, rfl, (X20.stepx X28).ext⟩
 have H := H.2 aS
 refine Wk (Wq (Wq (Wg ?_)))
 have bB := (aP.ext X28)
 refine Lb 0 (v := .agg #[sl a t.Rows c, sl aC t.Cols aD, sl aG t.Lo aH, sl aI t.Hi aJ]) rfl rfl rfl ti_29 ag_29 (fun h => by cases h) rfl bB rfl rfl ?_
 have bC := (a6.ext X28)
 have bD := (a7.ext X28)
 have bE := (a8.ext X28)
 have bF := (a9.ext X28)
 refine Lc 1 rfl rfl rfl cal_33 rfl (spec_tFeasible_w _ _ H bQ r bC aM bD aN bE aO bF) ?_
 rintro _ bZ ⟨aT, aK, b0, b1, H, rfl, aA, o, b2, b3⟩
 obtain ⟨aU, aV, rfl⟩ := o.shape
 refine Lv ok 2 [(20, .tuple #[sl aU aT aV, .bool aK]), (23, sl aU aT aV), (24, .bool aK), (4, sl aU aT aV), (5, .bool aK)] 7 rfl rfl (Ln _ rfl (Wq (Wg (Lv ok 0 [(25, .bool aK), (26, .bool (!aK))] 2 rfl rfl (Ln _ rfl ?_)))))
 refine Wc (!aK) rfl (fun aW => ?_) (fun aW => ?_)
 ·have H := H.1 aW
  refine Wq (Wg (Lv ok 0 [(2, I 0), (3, .bool true)] 2 rfl rfl (Ln _ rfl (W_ret ?_))))
  exact ⟨_, Ret_of [I 0, .bool true] ⟨⟨rfl, rfl⟩, ⟨rfl, rfl⟩, trivial⟩, _, _, H, rfl, (X20.stepx (X28.trans aA)).ext⟩
 have H := H.2 aW
 refine Wk (Wq (Wg (Lv ok 0 [(27, .agg #[I 0, I 2000])] 1 rfl rfl (Ly 1 (cs := [I 0, I 2000]) rfl rfl rfl rfl rfl fun aB bR aE bS aL => (Lv ok 2 [(6, pb aB)] 3 rfl rfl (Ln _ rfl (Wq (Wg (Lv ok 0 [(29, pb aB)] 1 rfl rfl ?_)))))))))
 refine Lb 1 (v := .agg #[sl a t.Rows c, sl aC t.Cols aD, sl aG t.Lo aH, sl aI t.Hi aJ]) rfl rfl rfl ti_29 ag_29 (fun h => by cases h) rfl (bB.ext (aA.trans aE)) rfl rfl ?_
 have bG := (bC.ext aA)
 have dj := (Df bG aL).symm
 have bH := (bD.ext aA)
 have bT := (Df bH aL).symm
 have bI := (bE.ext aA)
 have bU := (Df bI aL).symm
 have bJ := (bF.ext aA)
 have bV := (Df bJ aL).symm
 refine Lc 2 rfl rfl rfl cal_34 rfl (spec_tCounter_run_w _ _ _ _ H bR bS r (bG.ext aE) aM (bH.ext aE) aN (bI.ext aE) aO (bJ.ext aE) dj bT bU bV) ?_
 rintro _ b4 ⟨aF, b5, H, rfl, bK, bL⟩
 refine Ln _ rfl (Wq (Wq (Wg (Lv ok 0 [(32, pb aB), (33, pb aB), (34, pb aB)] 3 rfl rfl (Lb 3 (v := I aF) rfl rfl rfl ti_3 ag_3 (fun _ => rfl) rfl bL rfl rfl (Lv ok 4 [(36, .bool (decide (aF > 2000)))] 5 rfl rfl (Ln _ rfl ?_)))))))
 refine Wc (decide (aF > 2000)) rfl (fun aX => ?_) (fun aX => ?_)
 ·have H := H.1 aX
  refine Wq (Wg (Lv ok 0 [(2, I 0), (3, .bool false)] 2 rfl rfl (Ln _ rfl (W_ret ?_))))
  have bW := aL.mono (X20.stepx (X28.trans aA)).size
  exact ⟨_, Ret_of [I 0, .bool false] ⟨⟨rfl, rfl⟩, ⟨rfl, rfl⟩, trivial⟩, _, _, H, rfl, ((X20.stepx ((X28.trans aA).trans aE)).step bK (bW.dom _)).ext⟩
 have H := H.2 aX
 refine Wk (Wq (Wg (Lv ok 0 [(37, pb aB), (38, pb aB), (39, pb aB)] 3 rfl rfl (Lb 3 (v := I aF) rfl rfl rfl ti_3 ag_3 (fun _ => rfl) rfl bL rfl rfl (Lv ok 4 [(2, I aF), (3, .bool true)] 6 rfl rfl (Ln _ rfl ?_))))))
 try refine Wo [(2, I aF), (3, .bool true)] ⟨rfl, rfl, trivial⟩ fun ρ => ?_
 refine W_ret ?_
 have bX := aL.mono (X20.stepx (X28.trans aA)).size
 exact ⟨_, Ret_of [I aF, .bool true] ⟨⟨rfl, rfl⟩, ⟨rfl, rfl⟩, trivial⟩, _, _, H, rfl, ((X20.stepx ((X28.trans aA).trans aE)).step bK (bX.dom _)).ext⟩

theorem impl_FirstFlow_w (t : Transport) (Q : (List (List Int)) → Bool → Prop) (H : impl_FirstFlow t Q) (w : World) {vx : Value} {hx : PH} (r : RS hx vx t.Rows) (ex : Sub hx w) {aR : Value} {aA : PH} (aN : RS aA aR t.Cols) (a3 : Sub aA w) {aS : Value} {aB : PH} (aO : RS aB aS t.Lo) (a4 : Sub aB w) {aT : Value} {aC : PH} (aP : RS aC aT t.Hi) (a5 : Sub aC w) :
  CallsTo Try.prog 21 #[.agg #[vx, aR, aS, aT]] w fun v w' => ∃ aU aV aW aQ, Q aU aV ∧ v = .tuple #[aW, .bool aV] ∧ Ext w w' ∧ RS aQ aW aU ∧ Sub aQ w' ∧ DomLe (un hx (un aA (un aB aC))) w.heap.size aQ := by
 obtain ⟨a, c, rfl⟩ := r.shape
 obtain ⟨aF, aG, rfl⟩ := aN.shape
 obtain ⟨aH, aI, rfl⟩ := aO.shape
 obtain ⟨aJ, aK, rfl⟩ := aP.shape
 refine enter (args := [.agg #[sl a t.Rows c, sl aF t.Cols aG, sl aH t.Lo aI, sl aJ t.Hi aK]]) 13 Try.func21 rfl rfl rfl ?_
 refine Wo [(0, .agg #[sl a t.Rows c, sl aF t.Cols aG, sl aH t.Lo aI, sl aJ t.Hi aK])] ⟨rfl, trivial⟩ fun ρ => ?_
 have D : Dom (un hx (un aA (un aB aC))) hx := (Dom.l _ _)
 have D19 : Dom (un hx (un aA (un aB aC))) aA := (Ot (Dom.r _ _) (Dom.l _ _))
 have D20 : Dom (un hx (un aA (un aB aC))) aB := (Ot (Dom.r _ _) (Ot (Dom.r _ _) (Dom.l _ _)))
 have D21 : Dom (un hx (un aA (un aB aC))) aC := (Ot (Dom.r _ _) (Ot (Dom.r _ _) (Ot (Dom.r _ _) (Or _))))
 have X := Br emp w
 refine Wq (Wg (Ly 0 (cs := [sl a t.Rows c, sl aF t.Cols aG, sl aH t.Lo aI, sl aJ t.Hi aK]) rfl rfl rfl rfl rfl fun b wx x aX f => (Lv ok 1 [(2, .slice none 0 0), (3, .bool false)] 3 rfl rfl (Ln _ rfl (Wq (Wq (Wg (Lb 0 (v := .agg #[sl a t.Rows c, sl aF t.Cols aG, sl aH t.Lo aI, sl aJ t.Hi aK]) rfl rfl rfl ti_29 ag_29 (fun h => by cases h) rfl aX rfl rfl ?_))))))))
 have aY := (ex.ext x)
 have aZ := (a3.ext x)
 have a0 := (a4.ext x)
 have a1 := (a5.ext x)
 refine Lc 1 rfl rfl rfl cal_36 rfl (impl_IsTransport_w _ _ H wx r aY aN aZ aO a0 aP a1) ?_
 rintro _ a6 ⟨a2, H, rfl, aD⟩
 refine Lv ok 2 [(7, .bool (!a2))] 3 rfl rfl (Ln _ rfl ?_)
 refine Wc (!a2) rfl (fun hc => ?_) (fun hc => ?_)
 ·have H := H.1 hc
  refine Wq (Wg (Lv ok 0 [(2, .slice none 0 0), (3, .bool false)] 2 rfl rfl (Ln _ rfl (W_ret ?_))))
  exact ⟨_, Ret_of [.slice none 0 0, .bool false] ⟨⟨rfl, rfl⟩, ⟨rfl, rfl⟩, trivial⟩, _, _, _, emp, H, rfl, (X.stepx (x.trans aD)).ext, (.inl ⟨rfl, rfl⟩), (emp_sub _), (fun _ _ _ => rfl)⟩
 have H := H.2 hc
 refine Wk (Wq (Wg (Lb 0 (v := .agg #[sl a t.Rows c, sl aF t.Cols aG, sl aH t.Lo aI, sl aJ t.Hi aK]) rfl rfl rfl ti_29 ag_29 (fun h => by cases h) rfl (aX.ext aD) rfl rfl (Lc 1 rfl rfl rfl cal_49 rfl (impl_firstFlow_w _ _ H a6 r (aY.ext aD) aN (aZ.ext aD) aO (a0.ext aD) aP (a1.ext aD)) ?_))))
 rintro _ bA ⟨aE, bB, bC, H, rfl, a7, o, a8, a9, cn⟩
 obtain ⟨aL, aM, rfl⟩ := o.shape
 refine Lv ok 2 [(4, sl aL aE aM)] 3 rfl rfl (Ln _ rfl (Wq (Wg (Lv ok 0 [(10, sl aL aE aM), (11, sl aL aE aM)] 2 rfl rfl (LP_val 2 _ rfl rfl (ex_nenilc rfl Try.underlying23 rfl rfl (cn _ _ _ rfl) _) (Lv ok 3 [(2, sl aL aE aM), (3, .bool (!(ln aE == 0)))] 5 rfl rfl (Ln _ rfl (W_ret ?_))))))))
 have X46 := (X.stepx (x.trans aD))
 exact ⟨_, Ret_of [sl aL aE aM, .bool (!(ln aE == 0))] ⟨⟨rfl, rfl⟩, ⟨rfl, rfl⟩, trivial⟩, _, _, _, _, H, rfl, (X46.stepx a7).ext, o, a8, (Mt (Mu (Oe D _) (Mu (Oe D19 _) (Mu (Oe D20 _) (Oe D21 _)))) a9 X46.size)⟩

end Go.Proofs.Ytommbnkecafodaa
