/- The walks, further. -/
import Derived.Test.YtommbnkecafodaaPWalk2
set_option linter.unusedVariables false
set_option autoImplicit false
namespace Go.Proofs.Ytommbnkecafodaa
open Go Go.RowKit Go.Gv

open Go.Proofs
set_option maxRecDepth 8000
set_option maxHeartbeats 4000000
theorem impl_IsFlow_w (t : Transport) (x : List (List Int)) (Q : Bool → Bool → Prop) (H : impl_IsFlow t x Q) (w : World) {vx : Value} {hx : PH} (r : RS hx vx t.Rows) (ex : Sub hx w) {bE : Value} {aZ : PH} (a0 : RS aZ bE t.Cols) (cI : Sub aZ w) {bF : Value} {bG : PH} (a1 : RS bG bF t.Lo) (cJ : Sub bG w) {bH : Value} {bI : PH} (a2 : RS bI bH t.Hi) (cK : Sub bI w) {bJ : Value} {bK : PH} (aQ : RS bK bJ x) (cL : Sub bK w) :
  CallsTo Try.prog 50 #[.agg #[vx, bE, bF, bH], bJ] w fun v w' => ∃ bL bM, Q bL bM ∧ v = .tuple #[.bool bL, .bool bM] ∧ Ext w w' := by
 obtain ⟨a, c, rfl⟩ := r.shape
 obtain ⟨aH, aI, rfl⟩ := a0.shape
 obtain ⟨aR, aS, rfl⟩ := a1.shape
 obtain ⟨aJ, aK, rfl⟩ := a2.shape
 obtain ⟨aA, aB, rfl⟩ := aQ.shape
 refine enter (args := [.agg #[sl a t.Rows c, sl aH t.Cols aI, sl aR t.Lo aS, sl aJ t.Hi aK], sl aA x aB]) 72 Try.func50 rfl rfl rfl ?_
 refine Wo [(0, .agg #[sl a t.Rows c, sl aH t.Cols aI, sl aR t.Lo aS, sl aJ t.Hi aK]), (1, sl aA x aB)] ⟨rfl, rfl, trivial⟩ fun ρ => ?_
 have X := Br emp w
 refine Wq (Wg (Ly 0 (cs := [sl a t.Rows c, sl aH t.Cols aI, sl aR t.Lo aS, sl aJ t.Hi aK]) rfl rfl rfl rfl rfl fun b wx aL bN f => (Lv ok 1 [(4, .bool false), (5, .bool false)] 3 rfl rfl (Ln _ rfl (Wq (Wq (Wg (Lb 0 (v := .agg #[sl a t.Rows c, sl aH t.Cols aI, sl aR t.Lo aS, sl aJ t.Hi aK]) rfl rfl rfl ti_29 ag_29 (fun h => by cases h) rfl bN rfl rfl ?_))))))))
 have bO := (ex.ext aL)
 have bP := (cI.ext aL)
 have bQ := (cJ.ext aL)
 have bR := (cK.ext aL)
 refine Lc 1 rfl rfl rfl cal_36 rfl (impl_IsTransport_w _ _ H wx r bO a0 bP a1 bQ a2 bR) ?_
 rintro _ cM ⟨bS, H, rfl, aT⟩
 refine Lv ok 2 [(12, .bool (!bS))] 3 rfl rfl (Ln _ rfl ?_)
 refine Wc (!bS) rfl (fun hc => ?_) (fun hc => ?_)
 ·have H := H.1 hc
  refine Wq (Wg (Lv ok 0 [(4, .bool false), (5, .bool false)] 2 rfl rfl (Ln _ rfl (W_ret ?_))))
  exact ⟨_, Ret_of [.bool false, .bool false] ⟨⟨rfl, rfl⟩, ⟨rfl, rfl⟩, trivial⟩, _, _, H, rfl, (X.stepx (aL.trans aT)).ext⟩
 have H := H.2 hc
 refine Wk (Wq (Wq (Wg (Lv ok 0 [(13, sl aA x aB), (14, pb b)] 2 rfl rfl ?_))))
 have aU := (bN.ext aT)
 refine Lb 2 (v := sl a t.Rows c) rfl rfl rfl ti_22 ag_22 (fun _ => rfl) rfl aU rfl rfl (Lv ok 3 [(16, I (ln t.Rows)), (17, .pointer (some ⟨b, 1, none⟩))] 5 rfl rfl (Lb 5 (v := sl aH t.Cols aI) rfl rfl rfl ti_22 ag_22 (fun _ => rfl) rfl aU rfl rfl (Lv ok 6 [(19, I (ln t.Cols))] 7 rfl rfl ?_)))
 have aV := (aL.trans aT)
 have a3 := (cL.ext aV)
 refine Lc 7 rfl rfl rfl cal_72 rfl (impl_hasShape_w _ _ _ _ H cM aQ a3) ?_
 rintro _ aW ⟨bT, H, rfl, aG⟩
 refine Lv ok 8 [(21, .bool (!bT))] 9 rfl rfl (Ln _ rfl ?_)
 refine Wc (!bT) rfl (fun a4 => ?_) (fun a4 => ?_)
 ·have H := H.1 a4
  refine Wq (Wg (Lv ok 0 [(4, .bool false), (5, .bool true)] 2 rfl rfl (Ln _ rfl (W_ret ?_))))
  exact ⟨_, Ret_of [.bool false, .bool true] ⟨⟨rfl, rfl⟩, ⟨rfl, rfl⟩, trivial⟩, _, _, H, rfl, (X.stepx (aV.trans aG)).ext⟩
 have H := H.2 a4
 refine Wk (Wq (Wq (Wg (Lv ok 0 [(22, sl aA x aB), (23, I (ln x)), (24, I 0)] 3 rfl rfl (Ln _ rfl (W_block ?_))))))
 obtain ⟨J, m, Hx, H⟩ := H
 refine W_loop (S := Int) (fun s ρ' w' => J s ∧ ∃ (ρ : Env), ρ' = setAll [(1, sl aA x aB), (2, pb b), (22, sl aA x aB), (23, I (ln x)), (24, I s)] ρ ∧ aW = w') (fun s => m s) 0 ⟨Hx, _, Ee ⟨rfl, rfl, rfl, rfl, rfl, trivial⟩, rfl⟩ ?_
 rintro aC _ _ ⟨Hi, ρ, rfl, rfl⟩
 have H := H aC Hi
 refine Wq (Wg (Lv ok 0 [(25, .bool (decide (aC < (ln x))))] 1 rfl rfl (Ln _ rfl (Wq ?_))))
 refine Wc (decide (aC < (ln x))) rfl (fun a5 => ?_) (fun a5 => ?_)
 ·have H := H.1 a5
  refine Wk (Wq (W_block (Wq (Wg (Lv ok 0 [(26, I aC)] 1 rfl rfl ?_)))))
  obtain ⟨aE, hi, cN, H⟩ := H
  refine Li 1 rfl rfl rfl Try.underlying23 ti_22 rfl rfl aQ hi cN fun dY cs cO d => ?_
  have bU := (a3.ext aG)
  refine Lo 2 rfl rfl rfl ti_22 ag_22 rfl cO d bU fun dZ cP => ?_
  have bV := cP.slice
  obtain ⟨aM, aN, rfl⟩ := bV.shape
  refine Lv ok 3 [(6, I aC), (7, sl aM aE aN)] 5 rfl rfl (Ln _ rfl (Wq (Wg (Lv ok 0 [(29, sl aM aE aN), (30, I (ln aE)), (31, I 0)] 3 rfl rfl (Ln _ rfl (W_block ?_))))))
  obtain ⟨J59, cQ, Hx61, H⟩ := H
  refine W_loop (S := Int) (fun s ρ' w' => J59 s ∧ ∃ (ρ : Env), ρ' = setAll [(1, sl aA x aB), (2, pb b), (6, I aC), (22, sl aA x aB), (23, I (ln x)), (24, I aC), (29, sl aM aE aN), (30, I (ln aE)), (31, I s)] ρ ∧ aW = w') (fun s => cQ s) 0 ⟨Hx61, _, Ee ⟨rfl, rfl, rfl, rfl, rfl, rfl, rfl, rfl, rfl, trivial⟩, rfl⟩ ?_
  rintro aD _ _ ⟨Hi, ρ, rfl, rfl⟩
  have H := H aD Hi
  refine Wq (Wg (Lv ok 0 [(32, .bool (decide (aD < (ln aE))))] 1 rfl rfl (Ln _ rfl (Wq ?_))))
  refine Wc (decide (aD < (ln aE))) rfl (fun a6 => ?_) (fun a6 => ?_)
  ·have H := H.1 a6
   refine Wk (Wq (W_block (Wq (Wg (Lv ok 0 [(33, I aD)] 1 rfl rfl ?_)))))
   obtain ⟨aF, cR, cS, H⟩ := H
   refine Li 1 rfl rfl rfl Try.underlying22 ti_3 rfl rfl bV cR cS fun d0 d1 cT cU => (Lo 2 rfl rfl rfl ti_3 ag_3 rfl cT cU bU fun d2 cV => ?_)
   obtain rfl := cV.int
   refine Lv ok 3 [(8, I aD), (9, I aF)] 5 rfl rfl (Ln _ rfl ?_)
   have bW := (aT.trans aG)
   have bX := (bQ.ext bW)
   have bY := (bR.ext bW)
   have bZ := (aU.ext aG)
   obtain ⟨k, hk, H⟩ := jn_elim H
   refine W_join2 (S := Bool) (fun s ρ' w' => k s ∧ ∃ (ρ : Env), ρ' = setAll [(1, sl aA x aB), (2, pb b), (6, I aC), (22, sl aA x aB), (23, I (ln x)), (24, I aC), (29, sl aM aE aN), (30, I (ln aE)), (31, I aD), (57, .bool s)] ρ ∧ aW = w') ?_ ?_
   ·refine Wg (Lv ok 0 [(36, I aF), (37, .pointer (some ⟨b, 2, none⟩))] 2 rfl rfl (Lb 2 (v := sl aR t.Lo aS) rfl rfl rfl ti_23 ag_23 (fun _ => rfl) rfl bZ rfl rfl (Lv ok 3 [(39, I aC)] 4 rfl rfl ?_)))
    obtain ⟨d3, cW, cX, H⟩ := H
    refine Li 4 rfl rfl rfl Try.underlying23 ti_22 rfl rfl a1 cW cX fun d4 d5 cY cZ => (Lo 5 rfl rfl rfl ti_22 ag_22 rfl cY cZ bX fun d6 c0 => ?_)
    have b0 := c0.slice
    obtain ⟨d7, d8, rfl⟩ := b0.shape
    refine Lv ok 6 [(42, I aD)] 7 rfl rfl ?_
    obtain ⟨a7, c1, c2, H⟩ := H
    refine Li 7 rfl rfl rfl Try.underlying22 ti_3 rfl rfl b0 c1 c2 fun d9 eA c3 c4 => (Lo 8 rfl rfl rfl ti_3 ag_3 rfl c3 c4 bX fun eB c5 => ?_)
    obtain rfl := c5.int
    refine Lv ok 9 [(45, .bool (decide (aF < a7))), (46, .bool (decide (aF < a7)))] 11 rfl rfl ?_
    refine LP_split 46 (decide (aF < a7)) rfl (fun a8 => ?_) (fun a8 => ?_)
    ·have H := H.1 a8
     refine Lv ok 11 [(47, undef), (48, undef), (49, undef), (50, undef), (51, undef), (52, undef), (53, undef), (54, undef), (55, undef), (56, undef), (57, .bool true)] 22 rfl rfl (Ln _ rfl ?_)
     try refine Wo [(1, sl aA x aB), (2, pb b), (6, I aC), (22, sl aA x aB), (23, I (ln x)), (24, I aC), (29, sl aM aE aN), (30, I (ln aE)), (31, I aD), (57, .bool true)] ⟨rfl, rfl, rfl, rfl, rfl, rfl, rfl, rfl, rfl, rfl, trivial⟩ fun ρ => ?_
     exact ⟨true, H, _, Ee ⟨rfl, rfl, rfl, rfl, rfl, rfl, rfl, rfl, rfl, rfl, trivial⟩, rfl⟩
    have H := H.2 a8
    refine Lv ok 11 [(47, I aF), (48, .pointer (some ⟨b, 3, none⟩))] 13 rfl rfl (Lb 13 (v := sl aJ t.Hi aK) rfl rfl rfl ti_23 ag_23 (fun _ => rfl) rfl bZ rfl rfl (Lv ok 14 [(50, I aC)] 15 rfl rfl ?_))
    obtain ⟨c6, c7, c8, H⟩ := H
    refine Li 15 rfl rfl rfl Try.underlying23 ti_22 rfl rfl a2 c7 c8 fun c9 eC dA dB => (Lo 16 rfl rfl rfl ti_22 ag_22 rfl dA dB bY fun eD dC => ?_)
    have b1 := dC.slice
    obtain ⟨dD, dE, rfl⟩ := b1.shape
    refine Lv ok 17 [(53, I aD)] 18 rfl rfl ?_
    obtain ⟨aO, dF, dG, H⟩ := H
    refine Li 18 rfl rfl rfl Try.underlying22 ti_3 rfl rfl b1 dF dG fun dH eE dI dJ => (Lo 19 rfl rfl rfl ti_3 ag_3 rfl dI dJ bY fun eF dK => ?_)
    obtain rfl := dK.int
    refine Lv ok 20 [(56, .bool (decide (aF > aO))), (57, .bool (decide (aF > aO)))] 22 rfl rfl (Ln _ rfl ?_)
    try refine Wo [(1, sl aA x aB), (2, pb b), (6, I aC), (22, sl aA x aB), (23, I (ln x)), (24, I aC), (29, sl aM aE aN), (30, I (ln aE)), (31, I aD), (47, I aF), (48, .pointer (some ⟨b, 3, none⟩)), (49, sl aJ t.Hi aK), (50, I aC), (51, .pointer (some c9)), (52, sl dD c6 dE), (53, I aD), (54, .pointer (some dH)), (55, I aO), (56, .bool (decide (aF > aO))), (57, .bool (decide (aF > aO)))] ⟨rfl, rfl, rfl, rfl, rfl, rfl, rfl, rfl, rfl, rfl, rfl, rfl, rfl, rfl, rfl, rfl, rfl, rfl, rfl, rfl, trivial⟩ fun ρ => ?_
    exact ⟨decide (aF > aO), H, _, Ee ⟨rfl, rfl, rfl, rfl, rfl, rfl, rfl, rfl, rfl, rfl, trivial⟩, rfl⟩
   rintro dL _ _ ⟨H, ρ, rfl, rfl⟩
   subst hk
   refine Wc (dL) rfl (fun a9 => ?_) (fun a9 => ?_)
   ·have H := H.1 a9
    refine Wq (Wg (Lv ok 0 [(4, .bool false), (5, .bool true)] 2 rfl rfl (Ln _ rfl (W_ret ?_))))
    exact ⟨_, Ret_of [.bool false, .bool true] ⟨⟨rfl, rfl⟩, ⟨rfl, rfl⟩, trivial⟩, _, _, H, rfl, (X.stepx (aV.trans aG)).ext⟩
   have H := H.2 a9
   refine Wk (Wg (Lv ok 0 [(58, I (wr (aD + 1))), (31, I (wr (aD + 1)))] 2 rfl rfl ?_))
   exact Ln _ rfl ⟨wr (aD + 1), ⟨H.1, _, Ee ⟨rfl, rfl, rfl, rfl, rfl, rfl, rfl, rfl, rfl, trivial⟩, rfl⟩, H.2⟩
  have H := H.2 a6
  refine W_exit ?_
  refine (if_pos rfl).mpr ?_
  refine Wg (Lv ok 0 [(59, I (wr (aC + 1))), (24, I (wr (aC + 1)))] 2 rfl rfl ?_)
  exact Ln _ rfl ⟨wr (aC + 1), ⟨H.1, _, Ee ⟨rfl, rfl, rfl, rfl, rfl, trivial⟩, rfl⟩, H.2⟩
 have H := H.2 a5
 refine W_exit ?_
 refine (if_pos rfl).mpr ?_
 have b2 := (aT.trans aG)
 obtain ⟨dM, dN, H⟩ := jn_elim H
 refine W_join2 (S := Bool) (fun s ρ' w' => dM s ∧ ∃ (ρ : Env), ρ' = setAll [(4, .bool s), (5, .bool true)] ρ ∧ Ext aW w') ?_ ?_
 ·refine W_open mix fun eG bA => ?_
  refine AP_game 12 [[], [0], [], [2], [0, 1, 2, 3], [0, 1, 2, 3, 4], [0, 1, 2, 3, 4, 5], [0, 1, 2, 3, 4, 5, 6], [0, 1, 2, 3, 4, 5], [0, 1, 2, 3, 4, 5, 8], [0, 1, 2, 3, 4, 5, 6, 7, 8, 9], [0, 1, 2, 3, 4, 5, 6, 7, 8, 9, 10], [0, 1, 2, 3, 4, 5, 6, 7, 8, 9, 10, 11], [0, 1, 2, 3, 4, 5, 6, 7, 8, 9, 10, 11, 12]] [[(1, none)], [(60, some 0)], [(2, none)], [(62, some 2)], [(61, some 1), (63, some 3)], [(64, some 4)], [(1, none)], [(66, some 6)], [(2, none)], [(68, some 8)], [(67, some 7), (69, some 9)], [(65, some 5), (70, some 10)]] [(71, some 11)] [(0, false), (2, false), (3, false), (1, true), (4, false), (5, false), (6, false), (8, false), (9, false), (7, true), (10, false), (11, false)] (by kernel_rfl) (by kernel_rfl) ?_
  refine GS_ev ok [(1, sl aA x aB)] (sl aA x aB) rfl rfl (fun _ h => h) (fun _ => rfl) ?_
  refine GS_ev ok [(2, pb b)] (pb b) rfl rfl (fun _ h => h) (fun _ => rfl) ?_
  have bB := ((aU.ext aG).ext bA)
  refine GS_r1 [(62, pb b)] (sl a t.Rows c) rfl rfl (fun _ h => h) (fun _ w e => ex_ldbox rfl ti_22 ag_22 (fun _ => rfl) rfl e rfl rfl) bB ?_
  refine GS_lp [(60, sl aA x aB)] rfl rfl (fun _ h => h) rfl fun ρ dO bC => ?_
  have b3 := (bA.trans bC)
  have b4 := ((a3.ext aG).ext b3)
  refine Lc 0 rfl rfl rfl cal_65 rfl (impl_rowSums_w _ _ H dO aQ b4) ?_
  rintro _ eH ⟨b5, eI, dP, H, rfl, aX, o, dQ, eJ⟩
  obtain ⟨b6, b7, rfl⟩ := o.shape
  have b8 := (bC.trans aX)
  refine LP_gs ⟨⟨.inr (bB.ext b8), trivial⟩, ?_⟩
  obtain ⟨aY, Hd, H⟩ := H
  have b9 := (b3.trans aX)
  refine GS_q [(61, sl b6 b5 b7), (63, sl a t.Rows c)] (.bool aY) [dP, hx] [sl b6 b5 b7, sl a t.Rows c] rfl rfl (fun _ h => h) rfl cal_88 (fun _ => rfl) (fun w e => (slices_Equal_int_int_w _ _ _ Hd w o.readf e.1 r e.2.1).mono (fun _ _ h => by obtain ⟨_, rfl, rfl, x⟩ := h; exact ⟨rfl, x⟩)) ⟨dQ, ((bO.ext b2).ext b9), trivial⟩ ?_
  refine GS_ev ok [(64, .bool aY)] (.bool aY) rfl rfl (fun _ h => h) (fun _ => rfl) ?_
  generalize cA : (aY) = gb
  cases gb
  ·have H := H.2 cA
   refine GS_off rfl rfl ?_
   refine GS_off rfl rfl ?_
   refine GS_off rfl rfl ?_
   refine GS_off rfl rfl ?_
   refine GS_off rfl rfl ?_
   refine GS_ev ok [(65, .bool false), (70, undef)] (.bool false) rfl rfl (fun _ h => h) (fun _ => rfl) ?_
   intro eK dR ρ hn
   refine AP_forget [(71, .bool false)] (by exact hn) fun ρ => ?_
   refine AP_tail 12 [[], [0], [], [2], [0, 1, 2, 3], [0, 1, 2, 3, 4], [0, 1, 2, 3, 4, 5], [0, 1, 2, 3, 4, 5, 6], [0, 1, 2, 3, 4, 5], [0, 1, 2, 3, 4, 5, 8], [0, 1, 2, 3, 4, 5, 6, 7, 8, 9], [0, 1, 2, 3, 4, 5, 6, 7, 8, 9, 10], [0, 1, 2, 3, 4, 5, 6, 7, 8, 9, 10, 11], [0, 1, 2, 3, 4, 5, 6, 7, 8, 9, 10, 11, 12]] (by kernel_rfl) ?_
   refine Lv ok 12 [(4, .bool false), (5, .bool true)] 14 rfl rfl ?_
   exact Ln _ rfl ⟨false, H, _, Ee ⟨rfl, rfl, trivial⟩, (b9.trans dR)⟩
  have H := H.1 cA
  refine GS_ev ok [(1, sl aA x aB)] (sl aA x aB) rfl rfl (fun _ h => h) (fun _ => rfl) ?_
  refine GS_ev ok [(2, pb b)] (.pointer (some ⟨b, 1, none⟩)) rfl rfl (fun _ h => h) (fun _ => rfl) ?_
  have cB := (bB.ext b8)
  refine GS_r1 [(68, .pointer (some ⟨b, 1, none⟩))] (sl aH t.Cols aI) rfl rfl (fun _ h => h) (fun _ w e => ex_ldbox rfl ti_22 ag_22 (fun _ => rfl) rfl e rfl rfl) cB ?_
  refine GS_lp [(66, sl aA x aB)] rfl rfl (fun _ h => h) rfl fun ρ dS bD => ?_
  refine Lc 0 rfl rfl rfl cal_78 rfl (impl_colSums_w _ _ H dS aQ (b4.ext (aX.trans bD))) ?_
  rintro _ eL ⟨cC, eM, dT, H, rfl, cD, cE, dU, eN⟩
  obtain ⟨cF, cG, rfl⟩ := cE.shape
  refine LP_gs ⟨⟨.inr (cB.ext (bD.trans cD)), .inl rfl, .inl rfl, .inl rfl, trivial⟩, ?_⟩
  obtain ⟨aP, Hd186, H⟩ := H
  have cH := ((((bA.trans bC).trans aX).trans bD).trans cD)
  refine GS_q [(67, sl cF cC cG), (69, sl aH t.Cols aI)] (.bool aP) [dT, aZ] [sl cF cC cG, sl aH t.Cols aI] rfl rfl (fun _ h => h) rfl cal_88 (fun _ => rfl) (fun w e => (slices_Equal_int_int_w _ _ _ Hd186 w cE.readf e.1 a0 e.2.1).mono (fun _ _ h => by obtain ⟨_, rfl, rfl, x⟩ := h; exact ⟨rfl, x⟩)) ⟨dU, ((bP.ext b2).ext cH), trivial⟩ ?_
  refine GS_ev ok [(65, .bool true), (70, .bool aP)] (.bool aP) rfl rfl (fun _ h => h) (fun _ => rfl) ?_
  intro eO dV ρ dW
  refine AP_forget [(71, .bool aP)] (by exact dW) fun ρ => ?_
  refine AP_tail 12 [[], [0], [], [2], [0, 1, 2, 3], [0, 1, 2, 3, 4], [0, 1, 2, 3, 4, 5], [0, 1, 2, 3, 4, 5, 6], [0, 1, 2, 3, 4, 5], [0, 1, 2, 3, 4, 5, 8], [0, 1, 2, 3, 4, 5, 6, 7, 8, 9], [0, 1, 2, 3, 4, 5, 6, 7, 8, 9, 10], [0, 1, 2, 3, 4, 5, 6, 7, 8, 9, 10, 11], [0, 1, 2, 3, 4, 5, 6, 7, 8, 9, 10, 11, 12]] (by kernel_rfl) ?_
  refine Lv ok 12 [(4, .bool aP), (5, .bool true)] 14 rfl rfl ?_
  exact Ln _ rfl ⟨aP, H, _, Ee ⟨rfl, rfl, trivial⟩, (cH.trans dV)⟩
 rintro dX _ eP ⟨H, ρ, rfl, X140⟩
 subst dN
 refine W_ret ?_
 exact ⟨_, Ret_of [.bool dX, .bool true] ⟨⟨rfl, rfl⟩, ⟨rfl, rfl⟩, trivial⟩, _, _, H, rfl, ((X.stepx (aV.trans aG)).stepx X140).ext⟩

theorem impl_NextFlow_w (t : Transport) (x : List (List Int)) (Q : (List (List Int)) → Bool → Prop) (H : impl_NextFlow t x Q) (w : World) {vx : Value} {hx : PH} (r : RS hx vx t.Rows) (ex : Sub hx w) {aZ : Value} {aA : PH} (aT : RS aA aZ t.Cols) (bD : Sub aA w) {a0 : Value} {aB : PH} (aU : RS aB a0 t.Lo) (bE : Sub aB w) {a1 : Value} {aC : PH} (aV : RS aC a1 t.Hi) (bF : Sub aC w) {a2 : Value} {aD : PH} (aW : RS aD a2 x) (bG : Sub aD w) :
  CallsTo Try.prog 22 #[.agg #[vx, aZ, a0, a1], a2] w fun v w' => ∃ a3 a4 a5 aX, Q a3 a4 ∧ v = .tuple #[a5, .bool a4] ∧ Ext w w' ∧ RS aX a5 a3 ∧ Sub aX w' ∧ DomLe (un hx (un aA (un aB (un aC aD)))) w.heap.size aX := by
 obtain ⟨a, c, rfl⟩ := r.shape
 obtain ⟨aJ, aK, rfl⟩ := aT.shape
 obtain ⟨aL, aM, rfl⟩ := aU.shape
 obtain ⟨aN, aO, rfl⟩ := aV.shape
 obtain ⟨aP, aQ, rfl⟩ := aW.shape
 refine enter (args := [.agg #[sl a t.Rows c, sl aJ t.Cols aK, sl aL t.Lo aM, sl aN t.Hi aO], sl aP x aQ]) 27 Try.func22 rfl rfl rfl ?_
 refine Wo [(0, .agg #[sl a t.Rows c, sl aJ t.Cols aK, sl aL t.Lo aM, sl aN t.Hi aO]), (1, sl aP x aQ)] ⟨rfl, rfl, trivial⟩ fun ρ => ?_
 have D : Dom (un hx (un aA (un aB (un aC aD)))) hx := (Dom.l _ _)
 have D25 : Dom (un hx (un aA (un aB (un aC aD)))) aA := (Ot (Dom.r _ _) (Dom.l _ _))
 have D26 : Dom (un hx (un aA (un aB (un aC aD)))) aB := (Ot (Dom.r _ _) (Ot (Dom.r _ _) (Dom.l _ _)))
 have D27 : Dom (un hx (un aA (un aB (un aC aD)))) aC := (Ot (Dom.r _ _) (Ot (Dom.r _ _) (Ot (Dom.r _ _) (Dom.l _ _))))
 have D28 : Dom (un hx (un aA (un aB (un aC aD)))) aD := (Ot (Dom.r _ _) (Ot (Dom.r _ _) (Ot (Dom.r _ _) (Ot (Dom.r _ _) (Or _)))))
 have X := Br emp w
 refine Wq (Wg (Ly 0 (cs := [sl a t.Rows c, sl aJ t.Cols aK, sl aL t.Lo aM, sl aN t.Hi aO]) rfl rfl rfl rfl rfl fun b wx aI a6 f => (Lv ok 1 [(4, .slice none 0 0), (5, .bool false)] 3 rfl rfl (Ln _ rfl (Wq (Wq (Wg (Lb 0 (v := .agg #[sl a t.Rows c, sl aJ t.Cols aK, sl aL t.Lo aM, sl aN t.Hi aO]) rfl rfl rfl ti_29 ag_29 (fun h => by cases h) rfl a6 rfl rfl ?_))))))))
 refine Lv ok 1 [(11, sl aP x aQ)] 2 rfl rfl ?_
 have a7 := (ex.ext aI)
 have a8 := (bD.ext aI)
 have a9 := (bE.ext aI)
 have bA := (bF.ext aI)
 have bB := (bG.ext aI)
 refine Lc 2 rfl rfl rfl cal_50 rfl (impl_IsFlow_w _ _ _ H wx r a7 aT a8 aU a9 aV bA aW bB) ?_
 rintro _ bC ⟨aE, aF, H, rfl, aG⟩
 refine Lv ok 3 [(9, .tuple #[.bool aE, .bool aF]), (13, .bool aE), (14, .bool aF), (6, .bool aE), (7, .bool aF)] 8 rfl rfl (Ln _ rfl ?_)
 have X40 := (X.stepx (aI.trans aG))
 obtain ⟨k, hk, H⟩ := jn_elim H
 refine W_join2 (S := Bool) (fun s ρ' w' => k s ∧ ∃ (ρ : Env), ρ' = setAll [(1, sl aP x aQ), (2, pb b), (20, .bool s)] ρ ∧ bC = w') ?_ ?_
 ·refine Wg (Lv ok 0 [(15, .bool aE), (16, .bool (!aE)), (17, .bool (!aE))] 3 rfl rfl ?_)
  refine LP_split 17 (!aE) rfl (fun hc => ?_) (fun hc => ?_)
  ·have H := H.1 hc
   refine Lv ok 3 [(18, undef), (19, undef), (20, .bool true)] 6 rfl rfl ?_
   exact Ln _ rfl ⟨true, H, _, Ee ⟨rfl, rfl, rfl, trivial⟩, rfl⟩
  have H := H.2 hc
  refine Lv ok 3 [(18, .bool aF), (19, .bool (!aF)), (20, .bool (!aF))] 6 rfl rfl ?_
  exact Ln _ rfl ⟨!aF, H, _, Ee ⟨rfl, rfl, rfl, trivial⟩, rfl⟩
 rintro bH _ _ ⟨H, ρ, rfl, rfl⟩
 subst hk
 refine Wc (bH) rfl (fun aY => ?_) (fun aY => ?_)
 ·have H := H.1 aY
  refine Wq (Wg (Lv ok 0 [(4, .slice none 0 0), (5, .bool false)] 2 rfl rfl (Ln _ rfl (W_ret ?_))))
  exact ⟨_, Ret_of [.slice none 0 0, .bool false] ⟨⟨rfl, rfl⟩, ⟨rfl, rfl⟩, trivial⟩, _, _, _, emp, H, rfl, X40.ext, (.inl ⟨rfl, rfl⟩), (emp_sub _), (fun _ _ _ => rfl)⟩
 have H := H.2 aY
 refine Wk (Wq (Wg (Lb 0 (v := .agg #[sl a t.Rows c, sl aJ t.Cols aK, sl aL t.Lo aM, sl aN t.Hi aO]) rfl rfl rfl ti_29 ag_29 (fun h => by cases h) rfl (a6.ext aG) rfl rfl (Lv ok 1 [(22, sl aP x aQ)] 2 rfl rfl (Lc 2 rfl rfl rfl cal_51 rfl (impl_nextFlow_w _ _ _ H bC r (a7.ext aG) aT (a8.ext aG) aU (a9.ext aG) aV (bA.ext aG) aW (bB.ext aG)) ?_)))))
 rintro _ bL ⟨aH, bM, bN, H, rfl, bI, o, bJ, bK, cn⟩
 obtain ⟨aR, aS, rfl⟩ := o.shape
 refine Lv ok 3 [(8, sl aR aH aS)] 4 rfl rfl (Ln _ rfl (Wq (Wg (Lv ok 0 [(24, sl aR aH aS), (25, sl aR aH aS)] 2 rfl rfl (LP_val 2 _ rfl rfl (ex_nenilc rfl Try.underlying23 rfl rfl (cn _ _ _ rfl) _) (Lv ok 3 [(4, sl aR aH aS), (5, .bool (!(ln aH == 0)))] 5 rfl rfl (Ln _ rfl (W_ret ?_))))))))
 exact ⟨_, Ret_of [sl aR aH aS, .bool (!(ln aH == 0))] ⟨⟨rfl, rfl⟩, ⟨rfl, rfl⟩, trivial⟩, _, _, _, _, H, rfl, (X40.stepx bI).ext, o, bJ, (Mt (Mu (Oe D _) (Mu (Oe D25 _) (Mu (Oe D26 _) (Mu (Oe D27 _) (Oe D28 _))))) bK X40.size)⟩

theorem spec_DrawCellRange_w (code : List B8) (Q : Transport → Int → Int → Prop) (H : spec_DrawCellRange code Q) (w : World) {vx : Value} {hx : PH} (r : RS hx vx code) (ex : Sub hx w) :
  CallsTo Try.prog 23 #[vx] w fun v w' => ∃ aH a1 a2 u0_0 g0_0 u0_1 g0_1 u0_2 g0_2 u0_3 g0_3, Q aH a1 a2 ∧ v = .tuple #[.agg #[u0_0, u0_1, u0_2, u0_3], I a1, I a2] ∧ Ext w w' ∧ OS 3 g0_0 emp u0_0 aH.Rows ∧ Sub g0_0 w' ∧ Fresh w.heap.size g0_0 ∧ OS 3 g0_1 emp u0_1 aH.Cols ∧ Sub g0_1 w' ∧ Fresh w.heap.size g0_1 ∧ RS g0_2 u0_2 aH.Lo ∧ Sub g0_2 w' ∧ Fresh w.heap.size g0_2 ∧ OD g0_3 u0_3 aH.Hi ∧ Sub g0_3 w' ∧ Fresh w.heap.size g0_3 ∧ Dj g0_0 g0_1 ∧ Dj g0_0 g0_2 ∧ Dj g0_0 g0_3 ∧ Dj g0_1 g0_2 ∧ Dj g0_1 g0_3 ∧ Dj g0_2 g0_3 := by
 obtain ⟨a, c, rfl⟩ := r.shape
 refine enter (args := [sl a code c]) 19 Try.func23 rfl rfl rfl ?_
 refine Wo [(0, sl a code c)] ⟨rfl, trivial⟩ fun ρ => ?_
 have X := Br emp w
 refine Wq (Wg (La 0 rfl rfl rfl ti_29 rfl fun b wx x aF f => (Lv ok 1 [(3, I 0), (4, I 0)] 3 rfl rfl (Ln _ rfl (Wq (Wg (Lv ok 0 [(6, sl a code c), (7, .agg #[sl a code c, I 0, .int .u64 0])] 2 rfl rfl (Ly 2 (cs := [sl a code c, I 0, .int .u64 0]) rfl rfl rfl rfl rfl fun aB bM aJ bN aC => (Lv ok 3 [(5, pb aB)] 4 rfl rfl ?_)))))))))
 refine Ln _ rfl (Wq (Wg (Lv ok 0 [(9, pb aB)] 1 rfl rfl ?_)))
 have aI := (ex.ext x)
 have dj := (Df aI aC).symm
 have a3 := (aI.ext aJ)
 refine Lc 1 rfl rfl rfl cal_52 rfl (spec_l1Cur_anyTransport_w _ _ H bM r a3 bN dj) ?_
 rintro _ bO ⟨aA, a4, a5, cE, cF, cG, cH, cI, cJ, cK, cL, H, rfl, aM, HF⟩
 revert HF
 refine bb9 fun o bP a6 a7 bQ a8 a9 bR => ?_
 refine bb9 fun bA bB bS bC bT d bU bV => ?_
 refine bb7 fun aN bW bX aO bY aP aQ => ?_
 obtain ⟨aR, aS, rfl⟩ := o.shape
 obtain ⟨aT, aU, rfl⟩ := a7.shape
 obtain ⟨aV, aW, rfl⟩ := a9.shape
 obtain ⟨aX, aY, rfl⟩ := bB.shape
 refine Lv ok 2 [(11, pb aB)] 3 rfl rfl ?_
 have bD : Dj (bx aB 70 [sl a code c, I a4, .int .u64 a5]) hx := (Db (Df aI aC).symm)
 have bE := (a3.but aM dj)
 refine Lc 3 rfl rfl rfl cal_53 rfl (spec_l1Cur_pick_w _ _ _ H bO r bE bT bD) ?_
 rintro _ bZ ⟨bF, bG, bH, H, rfl, aD, b0⟩
 refine Lv ok 4 [(13, pb aB)] 5 rfl rfl ?_
 have bI : Dj (bx aB 70 [sl a code c, I bG, .int .u64 bH]) hx := (Db (Df aI aC).symm)
 have bJ := (bE.but aD bD)
 refine Lc 5 rfl rfl rfl cal_53 rfl (spec_l1Cur_pick_w _ _ _ H bZ r bJ b0 bI) ?_
 rintro _ b1 ⟨aZ, bK, bL, H, rfl, aE, b2⟩
 refine Lv ok 6 [(15, pb aB)] 7 rfl rfl ?_
 have b3 : Dj (bx aB 70 [sl a code c, I bK, .int .u64 bL]) hx := (Db (Df aI aC).symm)
 refine Lc 7 rfl rfl rfl cal_53 rfl (spec_l1Cur_pick_w _ _ _ H b1 r (bJ.but aE bI) b2 b3) ?_
 rintro _ cM ⟨a0, cN, cO, H, rfl, aG, cP⟩
 refine LP_val 8 _ rfl rfl (ex_quo rfl rfl rfl (by decide) _) (Lv ok 9 [(18, I (wr (aZ - (wr (Int.tdiv a0 19)))))] 10 rfl rfl ?_)
 have b4 := (Df aF aC).symm
 have b5 : Dj (bx aB 70 [sl a code c, I a4, .int .u64 a5]) (bx b 29 [.slice none 0 0, .slice none 0 0, .slice none 0 0, .slice none 0 0]) := (Db (Df aF aC).symm)
 have b6 : Dj (bx aB 70 [sl a code c, I bG, .int .u64 bH]) (bx b 29 [.slice none 0 0, .slice none 0 0, .slice none 0 0, .slice none 0 0]) := (Db (Df aF aC).symm)
 have b7 : Dj (bx aB 70 [sl a code c, I bK, .int .u64 bL]) (bx b 29 [.slice none 0 0, .slice none 0 0, .slice none 0 0, .slice none 0 0]) := (Db (Df aF aC).symm)
 refine Lx 10 (vs := [sl aR aA.Rows aS, sl aT aA.Cols aU, sl aV aA.Lo aW, sl aX aA.Hi aY]) (cs' := [sl aR aA.Rows aS, sl aT aA.Cols aU, sl aV aA.Lo aW, sl aX aA.Hi aY]) rfl rfl rfl ti_29 rfl rfl rfl rfl rfl (((((aF.ext aJ).but aM b4).but aD b5).but aE b6).but aG b7) rfl rfl fun cQ b8 y => (Lv ok 11 [(3, I bF), (4, I (wr (aZ - (wr (Int.tdiv a0 19)))))] 13 rfl rfl ?_)
 refine Ln _ rfl (W_ret ?_)
 have aK := (aF.ext aJ)
 have X85 := (X.stepx (x.trans aJ))
 have b9 := a6.mono X85.size
 have cA := a8.mono X85.size
 have cB := bA.mono X85.size
 have cC := bC.mono X85.size
 have aL := aC.mono (X.stepx x).size
 have cD := f.mono X.size
 exact ⟨_, Ret_of [.agg #[sl aR aA.Rows aS, sl aT aA.Cols aU, sl aV aA.Lo aW, sl aX aA.Hi aY], I bF, I (wr (aZ - (wr (Int.tdiv a0 19))))] ⟨⟨_, rfl, rfl, ld_res ti_29 ag_29 (fun h => by cases h) b8 rfl rfl⟩, ⟨rfl, rfl⟩, ⟨rfl, rfl⟩, trivial⟩, _, _, _, _, _, _, _, _, _, _, _, H, rfl, (((((X85.step aM (aL.dom _)).step aD ((Fresh.box aL).dom _)).step aE ((Fresh.box aL).dom _)).step aG ((Fresh.box aL).dom _)).step y (cD.dom _)).ext, o, ((((bP.but aD aN.symm).but aE (Db aN.symm)).but aG (Db aN.symm)).but y (Df aK a6)), b9, a7, ((((bQ.but aD aO.symm).but aE (Db aO.symm)).but aG (Db aO.symm)).but y (Df aK a8)), cA, a9, ((((bR.but aD aP.symm).but aE (Db aP.symm)).but aG (Db aP.symm)).but y (Df aK bA)), cB, bB, ((((bS.but aD aQ.symm).but aE (Db aQ.symm)).but aG (Db aQ.symm)).but y (Df aK bC)), cC, d, bU, bV, bW, bX, bY⟩

theorem impl_rangeOf_1_w (c : Transport) (aS : List (List Int)) (aF : Int) (aD : Int) (aE : Int) (Q : (List (List Int)) → Prop) (H : impl_rangeOf_1 c aS aF aD aE Q) (w : World) {vx : Value} {hx : PH} (r : RS hx vx c.Rows) (ex : Sub hx w) {aY : Value} {aZ : PH} (a0 : RS aZ aY c.Cols) (bT : Sub aZ w) {a1 : Value} {a2 : PH} (a3 : RS a2 a1 c.Lo) (bU : Sub a2 w) {a4 : Value} {a5 : PH} (a6 : RS a5 a4 c.Hi) (bV : Sub a5 w) {b : Nat} (bW : Sub (bx b 29 [vx, aY, a1, a4]) w) {a7 : Value} {a8 : PH} (a9 : RS a8 a7 aS) (bX : Sub a8 w) {aO : Nat} (bY : Sub (bx aO 23 [a7]) w) {aG : Nat} (bA : Sub (bx aG 3 [I aF]) w) {aH : Nat} (bZ : Sub (bx aH 3 [I aD]) w) {aI : Nat} (b0 : Sub (bx aI 3 [I aE]) w) :
  CallsTo Try.prog 96 #[pb b, pb aO, pb aG, pb aH, pb aI] w fun v w' => ∃ bB bC aT, Q bB ∧ v = bC ∧ Ext w w' ∧ OD aT bC bB ∧ Sub aT w' ∧ Fresh w.heap.size aT := by
 obtain ⟨a, b1, rfl⟩ := r.shape
 obtain ⟨b2, b3, rfl⟩ := a0.shape
 obtain ⟨b4, b5, rfl⟩ := a3.shape
 obtain ⟨b6, b7, rfl⟩ := a6.shape
 obtain ⟨b8, b9, rfl⟩ := a9.shape
 refine enter (args := [pb b, pb aO, pb aG, pb aH, pb aI]) 27 Try.func96 rfl rfl rfl ?_
 refine Wo [(0, pb b), (1, pb aO), (2, pb aG), (3, pb aH), (4, pb aI)] ⟨rfl, rfl, rfl, rfl, rfl, trivial⟩ fun ρ => ?_
 have X := Br emp w
 refine Wq (Wg (Lv ok 0 [(5, .slice none 0 0)] 1 rfl rfl (Ln _ rfl (Wq (Wg (Lb 0 (v := .agg #[sl a c.Rows b1, sl b2 c.Cols b3, sl b4 c.Lo b5, sl b6 c.Hi b7]) rfl rfl rfl ti_29 ag_29 (fun h => by cases h) rfl bW rfl rfl (Lb 1 (v := sl b8 aS b9) rfl rfl rfl ti_23 ag_23 (fun _ => rfl) rfl bY rfl rfl (Lc 2 rfl rfl rfl cal_89 rfl (impl_residual_w _ _ _ _ H w r ex a0 bT a3 bU a6 bV a9 bX) ?_))))))))
 rintro _ wx ⟨aA, c7, c8, H, rfl, x, o, cA, f⟩
 obtain ⟨aB, aC, rfl⟩ := o.shape
 refine Lv ok 3 [(6, sl aB aA aC)] 4 rfl rfl (Ln _ rfl (Wq ?_))
 refine W_open mix fun c9 aU => ?_
 refine AP_game 16 [[], [], [0, 1], [0, 1, 2], [], [], [4, 5], [], [], [], [8, 9], [7, 8, 9, 10], [7, 8, 9, 10, 11], [], [0, 1, 2, 3, 4, 5, 6, 7, 8, 9, 10, 11, 12], [0, 1, 2, 3, 4, 5, 6, 7, 8, 9, 10, 11, 12, 14], [0, 1, 2, 3, 4, 5, 6, 7, 8, 9, 10, 11, 12, 13, 14, 15], [0, 1, 2, 3, 4, 5, 6, 7, 8, 9, 10, 11, 12, 13, 14, 15, 16]] [[(6, none)], [(2, none)], [(10, some 0), (11, some 1)], [(12, some 2)], [(3, none)], [(4, none)], [(14, some 4), (15, some 5)], [(6, none)], [(3, none)], [(4, none)], [(18, some 8), (19, some 9)], [(17, some 7), (20, some 10)], [(21, some 11)], [(2, none)], [(13, some 3), (16, some 6)], [(24, some 14)]] [(6, none), (22, some 12), (23, some 13)] [(0, false), (1, false), (2, false), (3, false), (4, false), (5, false), (6, false), (7, false), (8, false), (9, false), (10, false), (11, false), (12, false), (13, false), (14, true), (15, true)] (by kernel_rfl) (by kernel_rfl) ?_
 refine GS_ev ok [(6, sl aB aA aC)] (sl aB aA aC) rfl rfl (fun _ h => h) (fun _ => rfl) ?_
 have xc := (x.trans aU)
 have aV := (bA.ext xc)
 refine GS_r1 [(2, pb aG)] (I aF) rfl rfl (fun _ h => h) (fun _ w e => ex_ldbox rfl ti_3 ag_3 (fun _ => rfl) rfl e rfl rfl) aV ?_
 obtain ⟨aK, hi, cB, H⟩ := H
 obtain ⟨bD, u, cC, rest, cD, cE, bw⟩ := run_indexb Try.underlying23 ti_22 o _ hi cB
 refine GS_r0 [(10, sl aB aA aC), (11, I aF)] (.pointer (some bD)) rfl rfl (fun _ h => h) (fun _ _ => ex_index rfl rfl rfl (cD _)) ?_
 have bE := bw.od
 obtain ⟨aP, aQ, rfl⟩ := bE.shape
 have aR := (cA.ext aU)
 have cF := Sub.le aR bw.le
 have cG : OS 3 cC emp (sl aP aK aQ) aK := OD.flat bE
 refine GS_r1 [(12, .pointer (some bD))] (sl aP aK aQ) rfl rfl (fun _ h => h) (fun _ w e => ex_ldcell rfl ti_22 ag_22 rfl cE e) aR ?_
 have bF := (bZ.ext xc)
 refine GS_r1 [(3, pb aH)] (I aD) rfl rfl (fun _ h => h) (fun _ w e => ex_ldbox rfl ti_3 ag_3 (fun _ => rfl) rfl e rfl rfl) bF ?_
 have bG := (b0.ext xc)
 refine GS_r1 [(4, pb aI)] (I aE) rfl rfl (fun _ h => h) (fun _ w e => ex_ldbox rfl ti_3 ag_3 (fun _ => rfl) rfl e rfl rfl) bG ?_
 refine GS_ev ok [(14, I aD), (15, I aE)] (I (wr (aD + aE))) rfl rfl (fun _ h => h) (fun _ => rfl) ?_
 refine GS_ev ok [(6, sl aB aA aC)] (sl aB aA aC) rfl rfl (fun _ h => h) (fun _ => rfl) ?_
 refine GS_r1 [(3, pb aH)] (I aD) rfl rfl (fun _ h => h) (fun _ w e => ex_ldbox rfl ti_3 ag_3 (fun _ => rfl) rfl e rfl rfl) bF ?_
 refine GS_r1 [(4, pb aI)] (I aE) rfl rfl (fun _ h => h) (fun _ w e => ex_ldbox rfl ti_3 ag_3 (fun _ => rfl) rfl e rfl rfl) bG ?_
 refine GS_ev ok [(18, I aD), (19, I aE)] (I (wr (aD + aE))) rfl rfl (fun _ h => h) (fun _ => rfl) ?_
 obtain ⟨aJ, cH, cI, H⟩ := H
 obtain ⟨bH, dA, cJ, dB, cK, cL, bI⟩ := run_indexb Try.underlying23 ti_22 o _ cH cI
 refine GS_r0 [(17, sl aB aA aC), (20, I (wr (aD + aE)))] (.pointer (some bH)) rfl rfl (fun _ h => h) (fun _ _ => ex_index rfl rfl rfl (cK _)) ?_
 have bJ := bI.od
 obtain ⟨aL, aM, rfl⟩ := bJ.shape
 have dC : OS 3 cJ emp (sl aL aJ aM) aJ := OD.flat bJ
 refine GS_r1 [(21, .pointer (some bH))] (sl aL aJ aM) rfl rfl (fun _ h => h) (fun _ w e => ex_ldcell rfl ti_22 ag_22 rfl cL e) aR ?_
 refine GS_r1 [(2, pb aG)] (I aF) rfl rfl (fun _ h => h) (fun _ w e => ex_ldbox rfl ti_3 ag_3 (fun _ => rfl) rfl e rfl rfl) aV ?_
 refine GS_lp [(13, sl aP aK aQ), (16, I (wr (aD + aE)))] rfl rfl (fun _ h => h) rfl fun ρ dD aW => ?_
 obtain ⟨cM, hl, H⟩ := H
 refine LP_indexw (v := sl aP aK aQ) 0 rfl rfl rfl Try.underlying22 ti_3 rfl rfl cG cM hl fun cN wa => ?_
 have bK := (aV.ext aW)
 refine LP_gs ⟨⟨.inr bK, .inl rfl, .inl rfl, .inl rfl, .inl rfl, .inl rfl, .inl rfl, .inl rfl, trivial⟩, ?_⟩
 refine GS_lp [(24, .pointer (some cN))] rfl rfl (fun _ h => h) rfl fun ρ dE aX => ?_
 have bL := (aW.trans aX)
 refine LP_set 0 rfl rfl rfl rfl rfl wa (Le.refl emp) ⟨_, rfl, rfl⟩ (cF.ext bL) fun dF dG bM cO y dm => ?_
 obtain ⟨dH, dI, dd⟩ := BwL.turn bw (OS.od bM) (Dom.of dm)
 have cP := BwL.sub bw (aR.ext bL) cO y
 have bN := BwL.but bw y
 have dj := (Df bA f).symm
 refine LP_gs ⟨⟨.inr ((bK.ext aX).but bN dj), .inl rfl, .inl rfl, .inl rfl, .inl rfl, .inl rfl, .inl rfl, .inl rfl, trivial⟩, ?_⟩
 intro dJ bO ρ hn
 refine AP_forget [(6, sl aB aA aC), (22, sl aL aJ aM), (23, I aF)] (by exact hn) fun ρ => ?_
 refine AP_tail 16 [[], [], [0, 1], [0, 1, 2], [], [], [4, 5], [], [], [], [8, 9], [7, 8, 9, 10], [7, 8, 9, 10, 11], [], [0, 1, 2, 3, 4, 5, 6, 7, 8, 9, 10, 11, 12], [0, 1, 2, 3, 4, 5, 6, 7, 8, 9, 10, 11, 12, 14], [0, 1, 2, 3, 4, 5, 6, 7, 8, 9, 10, 11, 12, 13, 14, 15], [0, 1, 2, 3, 4, 5, 6, 7, 8, 9, 10, 11, 12, 13, 14, 15, 16]] (by kernel_rfl) ?_
 obtain ⟨cQ, dK, cR, H⟩ := H
 obtain ⟨cS, dL, aN⟩ := bw.other bI (OS.od bM) (Dom.of dm) cR
 have cT := aN.od
 have bP := (cP.ext bO)
 have cU := Sub.le bP aN.le
 have cV : OS 3 cS emp (sl aL aJ aM) cQ := OD.flat cT
 obtain ⟨cW, cX, H⟩ := H
 refine LP_indexw (v := sl aL aJ aM) 16 rfl rfl rfl Try.underlying22 ti_3 rfl rfl cV cW cX fun dM cY => (LP_set 17 rfl rfl rfl rfl rfl cY (Le.refl emp) ⟨_, rfl, rfl⟩ cU fun dN dO cZ c0 bQ c1 => ?_)
 obtain ⟨dP, c2, c3⟩ := BwL.turn aN (OS.od cZ) (Dom.of c1)
 have c4 := BwL.sub aN bP c0 bQ
 have c5 := BwL.but aN bQ
 refine Ln _ rfl (Wq (Wg (Lv ok 0 [(26, sl aB aA aC), (5, sl aB aA aC)] 2 rfl rfl (Ln _ rfl (W_ret ?_)))))
 have bR := f.mono X.size
 have X127 := (X.stepx (((x.trans aU).trans aW).trans aX))
 have bS := ((fun n => Oe dd n) _).fresh bR X127.size
 have X128 := ((X127.step bN (bR.dom _)).stepx bO)
 have c6 := ((fun n => Oe c3 n) _).fresh bS X128.size
 exact ⟨_, Ret_of [sl aB aA aC] ⟨⟨rfl, rfl⟩, trivial⟩, _, _, _, H, rfl, (X128.step c5 (bS.dom _)).ext, c2, c4, c6⟩

theorem impl_rangeOf_w (t : Transport) (x : List (List Int)) (i : Int) (j : Int) (Q : Int → Int → Prop) (H : impl_rangeOf t x i j Q) (w : World) {vx : Value} {hx : PH} (r : RS hx vx t.Rows) (ex : Sub hx w) {bV : Value} {bW : PH} (bE : RS bW bV t.Cols) (bX : Sub bW w) {bY : Value} {bZ : PH} (a9 : RS bZ bY t.Lo) (b0 : Sub bZ w) {b1 : Value} {b2 : PH} (bA : RS b2 b1 t.Hi) (b3 : Sub b2 w) {b4 : Value} {b5 : PH} (bB : RS b5 b4 x) (b6 : Sub b5 w) :
  CallsTo Try.prog 55 #[.agg #[vx, bV, bY, b1], b4, I i, I j] w fun v w' => ∃ b7 b8, Q b7 b8 ∧ v = .tuple #[I b7, I b8] ∧ Ext w w' := by
 obtain ⟨a, c, rfl⟩ := r.shape
 obtain ⟨bF, bG, rfl⟩ := bE.shape
 obtain ⟨aZ, a0, rfl⟩ := a9.shape
 obtain ⟨a1, a2, rfl⟩ := bA.shape
 obtain ⟨bC, bD, rfl⟩ := bB.shape
 refine enter (args := [.agg #[sl a t.Rows c, sl bF t.Cols bG, sl aZ t.Lo a0, sl a1 t.Hi a2], sl bC x bD, I i, I j]) 62 Try.func55 rfl rfl rfl ?_
 refine Wo [(0, .agg #[sl a t.Rows c, sl bF t.Cols bG, sl aZ t.Lo a0, sl a1 t.Hi a2]), (1, sl bC x bD), (2, I i), (3, I j)] ⟨rfl, rfl, rfl, rfl, trivial⟩ fun ρ => ?_
 have X := Br emp w
 refine Wq (Wg (Ly 0 (cs := [sl a t.Rows c, sl bF t.Cols bG, sl aZ t.Lo a0, sl a1 t.Hi a2]) rfl rfl rfl rfl rfl fun b wx b9 dK f => (Ly 1 (cs := [sl bC x bD]) rfl rfl rfl rfl rfl fun aP fH bH cA fI => (Ly 2 (cs := [I i]) rfl rfl rfl rfl rfl fun aE fJ a3 cB fK => (Ly 3 (cs := [I j]) rfl rfl rfl rfl rfl fun aF fL aQ cC fM => (Lv ok 4 [(8, I 0), (9, I 0)] 6 rfl rfl ?_))))))
 refine Ln _ rfl (Wq (Wg (Lv ok 0 [(13, pb b)] 1 rfl rfl ?_)))
 have bI := (dK.ext ((bH.trans a3).trans aQ))
 refine Lb 1 (v := sl a t.Rows c) rfl rfl rfl ti_22 ag_22 (fun _ => rfl) rfl bI rfl rfl (Lv ok 2 [(15, I (ln t.Rows))] 3 rfl rfl (La 3 rfl rfl rfl ti_3 rfl fun aK fN aS dL aL => (Lx 4 (vs := [I (ln t.Rows)]) (cs' := [I (ln t.Rows)]) rfl rfl rfl ti_3 rfl rfl rfl rfl rfl dL rfl rfl fun fO dM y => (Ln _ rfl (Wq (Wg (Lv ok 0 [(16, .func (.func 96) #[] #[pb b, pb aP, pb aE, pb aK, pb aF]), (11, .func (.func 96) #[] #[pb b, pb aP, pb aE, pb aK, pb aF])] 2 rfl rfl ?_)))))))
 refine Ln _ rfl (Wq ?_)
 refine W_quiet mix (by kernel_rfl) ?_
 have dj := (Df (cA.ext (a3.trans aQ)) aL).symm
 have cD := ((cA.ext ((a3.trans aQ).trans aS)).but y dj)
 refine QP_ldbox 0 (v := sl bC x bD) rfl rfl rfl ti_23 ag_23 (fun _ => rfl) rfl cD rfl rfl ?_
 have dN := (Df (cB.ext aQ) aL).symm
 have cE := ((cB.ext (aQ.trans aS)).but y dN)
 refine QP_ldbox 1 (v := I i) rfl rfl rfl ti_3 ag_3 (fun _ => rfl) rfl cE rfl rfl ?_
 obtain ⟨fP, hi, dO, H⟩ := H
 refine QP_index 2 rfl rfl rfl Try.underlying23 ti_22 rfl rfl bB hi dO fun fQ cs dP d => ?_
 have aT := ((((b9.trans bH).trans a3).trans aQ).trans aS)
 have aU := (((b9.trans bH).trans a3).trans aQ)
 have dQ := (Df (b6.ext aU) aL).symm
 have bJ := ((b6.ext aT).but y dQ)
 refine QP_load 3 rfl rfl rfl ti_22 ag_22 rfl dP d bJ fun fR dR => ?_
 have cF := dR.slice
 obtain ⟨fS, fT, rfl⟩ := cF.shape
 have dS := (Df cC aL).symm
 have cG := ((cC.ext aS).but y dS)
 refine QP_ldbox 4 (v := I j) rfl rfl rfl ti_3 ag_3 (fun _ => rfl) rfl cG rfl rfl ?_
 obtain ⟨aA, dT, dU, H⟩ := H
 refine QP_index 5 rfl rfl rfl Try.underlying22 ti_3 rfl rfl cF dT dU fun fU fV dV dW => ?_
 refine QP_load 6 rfl rfl rfl ti_3 ag_3 rfl dV dW bJ fun fW dX => ?_
 obtain rfl := dX.int
 refine QP_ev ok 7 [(12, I aA)] 8 rfl rfl ?_
 refine QP_end _ rfl fun fX cH => ?_
 refine Wq ?_
 refine W_open mix fun fY cI => ?_
 refine AP_game 39 [[], [], [1], [], [], [], [4, 5], [], [], [8], [], [8, 9, 10], [8, 9, 10, 11], [], [8, 9, 10, 11, 12, 13], [8, 9, 10, 11, 12, 13, 14], [7, 8, 9, 10, 11, 12, 13, 14, 15], [1, 2, 3, 4, 5, 6, 7, 8, 9, 10, 11, 12, 13, 14, 15, 16], [0, 1, 2, 3, 4, 5, 6, 7, 8, 9, 10, 11, 12, 13, 14, 15, 16, 17], [], [], [1, 2, 3, 4, 5, 6, 7, 8, 9, 10, 11, 12, 13, 14, 15, 16, 17, 20], [], [], [22, 23], [], [], [26], [], [26, 27, 28], [26, 27, 28, 29], [], [26, 27, 28, 29, 30, 31], [26, 27, 28, 29, 30, 31, 32], [], [26, 27, 28, 29, 30, 31, 32, 33, 34], [1, 2, 3, 4, 5, 6, 7, 8, 9, 10, 11, 12, 13, 14, 15, 16, 17, 20, 21, 22, 23, 24, 25, 26, 27, 28, 29, 30, 31, 32, 33, 34, 35], [1, 2, 3, 4, 5, 6, 7, 8, 9, 10, 11, 12, 13, 14, 15, 16, 17, 19, 20, 21, 22, 23, 24, 25, 26, 27, 28, 29, 30, 31, 32, 33, 34, 35, 36], [0, 1, 2, 3, 4, 5, 6, 7, 8, 9, 10, 11, 12, 13, 14, 15, 16, 17, 18, 20, 21, 22, 23, 24, 25, 26, 27, 28, 29, 30, 31, 32, 33, 34, 35, 36], [0, 1, 2, 3, 4, 5, 6, 7, 8, 9, 10, 11, 12, 13, 14, 15, 16, 17, 18, 19, 20, 21, 22, 23, 24, 25, 26, 27, 28, 29, 30, 31, 32, 33, 34, 35, 36, 37, 38]] [[(12, none)], [(11, none)], [(25, some 1)], [(6, none)], [(10, none)], [(7, none)], [(28, some 4), (29, some 5)], [(12, none)], [(4, none)], [(32, some 8)], [(6, none)], [(33, some 9), (34, some 10)], [(35, some 11)], [(7, none)], [(36, some 12), (37, some 13)], [(38, some 14)], [(31, some 7), (39, some 15)], [(26, some 2), (27, some 3), (30, some 6), (40, some 16)], [(24, some 0), (41, some 17)], [(12, none)], [(11, none)], [(44, some 20)], [(10, none)], [(7, none)], [(46, some 22), (47, some 23)], [(6, none)], [(4, none)], [(50, some 26)], [(6, none)], [(51, some 27), (52, some 28)], [(53, some 29)], [(7, none)], [(54, some 30), (55, some 31)], [(56, some 32)], [(12, none)], [(57, some 33), (58, some 34)], [(45, some 21), (48, some 24), (49, some 25), (59, some 35)], [(43, some 19), (60, some 36)], [(42, some 18)]] [(8, some 38), (9, none), (61, some 37)] [(0, false), (1, false), (3, false), (4, false), (5, false), (6, false), (7, false), (8, false), (9, false), (10, false), (11, false), (12, false), (13, false), (14, false), (15, false), (16, false), (19, false), (20, false), (22, false), (23, false), (24, false), (25, false), (26, false), (27, false), (28, false), (29, false), (30, false), (31, false), (32, false), (33, false), (34, false), (35, false), (2, true), (17, true), (18, false), (21, true), (36, true), (37, false), (38, false)] (by kernel_rfl) (by kernel_rfl) ?_
 refine GS_ev ok [(12, I aA)] (I aA) rfl rfl (fun _ h => h) (fun _ => rfl) ?_
 refine GS_ev ok [(11, .func (.func 96) #[] #[pb b, pb aP, pb aE, pb aK, pb aF])] (.func (.func 96) #[] #[pb b, pb aP, pb aE, pb aK, pb aF]) rfl rfl (fun _ h => h) (fun _ => rfl) ?_
 have aR := (cH.trans cI)
 have aM := (cE.ext aR)
 refine GS_r1 [(6, pb aE)] (I i) rfl rfl (fun _ h => h) (fun _ w e => ex_ldbox rfl ti_3 ag_3 (fun _ => rfl) rfl e rfl rfl) aM ?_
 have aV := (dM.ext aR)
 refine GS_r1 [(10, pb aK)] (I (ln t.Rows)) rfl rfl (fun _ h => h) (fun _ w e => ex_ldbox rfl ti_3 ag_3 (fun _ => rfl) rfl e rfl rfl) aV ?_
 have aN := (cG.ext aR)
 refine GS_r1 [(7, pb aF)] (I j) rfl rfl (fun _ h => h) (fun _ w e => ex_ldbox rfl ti_3 ag_3 (fun _ => rfl) rfl e rfl rfl) aN ?_
 refine GS_ev ok [(28, I (ln t.Rows)), (29, I j)] (I (wr ((ln t.Rows) + j))) rfl rfl (fun _ h => h) (fun _ => rfl) ?_
 refine GS_ev ok [(12, I aA)] (I aA) rfl rfl (fun _ h => h) (fun _ => rfl) ?_
 refine GS_ev ok [(4, pb b)] (.pointer (some ⟨b, 2, none⟩)) rfl rfl (fun _ h => h) (fun _ => rfl) ?_
 have dY := (Df bI aL).symm
 have aW := (((bI.ext aS).but y dY).ext aR)
 refine GS_r1 [(32, .pointer (some ⟨b, 2, none⟩))] (sl aZ t.Lo a0) rfl rfl (fun _ h => h) (fun _ w e => ex_ldbox rfl ti_23 ag_23 (fun _ => rfl) rfl e rfl rfl) aW ?_
 refine GS_r1 [(6, pb aE)] (I i) rfl rfl (fun _ h => h) (fun _ w e => ex_ldbox rfl ti_3 ag_3 (fun _ => rfl) rfl e rfl rfl) aM ?_
 obtain ⟨bK, dZ, d0, H⟩ := H
 obtain ⟨cJ, fZ, d1, d2, d3⟩ := run_indexAt Try.underlying23 ti_22 a9 .i64 _ bK dZ d0
 refine GS_r0 [(33, sl aZ t.Lo a0), (34, I i)] (.pointer (some cJ)) rfl rfl (fun _ h => h) (fun _ _ => ex_index rfl rfl rfl (d1 _)) ?_
 obtain ⟨f0, d4, d5⟩ := run_loadAt ti_22 ag_22 d2 d3
 have cK := d5.slice
 obtain ⟨cL, cM, rfl⟩ := cK.shape
 have d6 := (Df (b0.ext aU) aL).symm
 have a4 := (((b0.ext aT).but y d6).ext aR)
 refine GS_r1 [(35, .pointer (some cJ))] (sl cL bK cM) rfl rfl (fun _ h => h) (fun _ w e => ex_load rfl rfl (d4 w e)) a4 ?_
 refine GS_r1 [(7, pb aF)] (I j) rfl rfl (fun _ h => h) (fun _ w e => ex_ldbox rfl ti_3 ag_3 (fun _ => rfl) rfl e rfl rfl) aN ?_
 obtain ⟨a5, d7, d8, H⟩ := H
 obtain ⟨cN, f1, d9, eA, eB⟩ := run_indexAt Try.underlying22 ti_3 cK .i64 _ a5 d7 d8
 refine GS_r0 [(36, sl cL bK cM), (37, I j)] (.pointer (some cN)) rfl rfl (fun _ h => h) (fun _ _ => ex_index rfl rfl rfl (d9 _)) ?_
 obtain ⟨f2, eC, eD⟩ := run_loadAt ti_3 ag_3 eA eB
 obtain rfl := eD.int
 refine GS_r1 [(38, .pointer (some cN))] (I a5) rfl rfl (fun _ h => h) (fun _ w e => ex_load rfl rfl (eC w e)) a4 ?_
 refine GS_ev ok [(31, I aA), (39, I a5)] (I (wr (aA - a5))) rfl rfl (fun _ h => h) (fun _ => rfl) ?_
 refine GS_ev ok [(12, I aA)] (I aA) rfl rfl (fun _ h => h) (fun _ => rfl) ?_
 refine GS_ev ok [(11, .func (.func 96) #[] #[pb b, pb aP, pb aE, pb aK, pb aF])] (.func (.func 96) #[] #[pb b, pb aP, pb aE, pb aK, pb aF]) rfl rfl (fun _ h => h) (fun _ => rfl) ?_
 refine GS_r1 [(10, pb aK)] (I (ln t.Rows)) rfl rfl (fun _ h => h) (fun _ w e => ex_ldbox rfl ti_3 ag_3 (fun _ => rfl) rfl e rfl rfl) aV ?_
 refine GS_r1 [(7, pb aF)] (I j) rfl rfl (fun _ h => h) (fun _ w e => ex_ldbox rfl ti_3 ag_3 (fun _ => rfl) rfl e rfl rfl) aN ?_
 refine GS_ev ok [(46, I (ln t.Rows)), (47, I j)] (I (wr ((ln t.Rows) + j))) rfl rfl (fun _ h => h) (fun _ => rfl) ?_
 refine GS_r1 [(6, pb aE)] (I i) rfl rfl (fun _ h => h) (fun _ w e => ex_ldbox rfl ti_3 ag_3 (fun _ => rfl) rfl e rfl rfl) aM ?_
 refine GS_ev ok [(4, pb b)] (.pointer (some ⟨b, 3, none⟩)) rfl rfl (fun _ h => h) (fun _ => rfl) ?_
 refine GS_r1 [(50, .pointer (some ⟨b, 3, none⟩))] (sl a1 t.Hi a2) rfl rfl (fun _ h => h) (fun _ w e => ex_ldbox rfl ti_23 ag_23 (fun _ => rfl) rfl e rfl rfl) aW ?_
 refine GS_r1 [(6, pb aE)] (I i) rfl rfl (fun _ h => h) (fun _ w e => ex_ldbox rfl ti_3 ag_3 (fun _ => rfl) rfl e rfl rfl) aM ?_
 obtain ⟨bL, eE, eF, H⟩ := H
 obtain ⟨cO, f3, eG, eH, eI⟩ := run_indexAt Try.underlying23 ti_22 bA .i64 _ bL eE eF
 refine GS_r0 [(51, sl a1 t.Hi a2), (52, I i)] (.pointer (some cO)) rfl rfl (fun _ h => h) (fun _ _ => ex_index rfl rfl rfl (eG _)) ?_
 obtain ⟨f4, eJ, eK⟩ := run_loadAt ti_22 ag_22 eH eI
 have cP := eK.slice
 obtain ⟨cQ, cR, rfl⟩ := cP.shape
 have eL := (Df (b3.ext aU) aL).symm
 have aX := (((b3.ext aT).but y eL).ext aR)
 refine GS_r1 [(53, .pointer (some cO))] (sl cQ bL cR) rfl rfl (fun _ h => h) (fun _ w e => ex_load rfl rfl (eJ w e)) aX ?_
 refine GS_r1 [(7, pb aF)] (I j) rfl rfl (fun _ h => h) (fun _ w e => ex_ldbox rfl ti_3 ag_3 (fun _ => rfl) rfl e rfl rfl) aN ?_
 obtain ⟨a6, eM, eN, H⟩ := H
 obtain ⟨cS, f5, eO, eP, eQ⟩ := run_indexAt Try.underlying22 ti_3 cP .i64 _ a6 eM eN
 refine GS_r0 [(54, sl cQ bL cR), (55, I j)] (.pointer (some cS)) rfl rfl (fun _ h => h) (fun _ _ => ex_index rfl rfl rfl (eO _)) ?_
 obtain ⟨f6, eR, eS⟩ := run_loadAt ti_3 ag_3 eP eQ
 obtain rfl := eS.int
 refine GS_r1 [(56, .pointer (some cS))] (I a6) rfl rfl (fun _ h => h) (fun _ w e => ex_load rfl rfl (eR w e)) aX ?_
 refine GS_ev ok [(12, I aA)] (I aA) rfl rfl (fun _ h => h) (fun _ => rfl) ?_
 refine GS_ev ok [(57, I a6), (58, I aA)] (I (wr (a6 - aA))) rfl rfl (fun _ h => h) (fun _ => rfl) ?_
 refine GS_lp [(25, .func (.func 96) #[] #[pb b, pb aP, pb aE, pb aK, pb aF])] rfl rfl (fun _ h => h) rfl fun ρ eT aD => ?_
 have eU := (Df (ex.ext aU) aL).symm
 have a7 := (aR.trans aD)
 have bM := (((ex.ext aT).but y eU).ext a7)
 have eV := (Df (bX.ext aU) aL).symm
 have bN := (((bX.ext aT).but y eV).ext a7)
 have bO := (a4.ext aD)
 have cT := (aX.ext aD)
 have cU := (aW.ext aD)
 have bP := (bJ.ext a7)
 have bQ := (cD.ext a7)
 have cV := (aM.ext aD)
 have cW := (aV.ext aD)
 have cX := (aN.ext aD)
 refine LP_callc 0 rfl rfl rfl rfl cal_96 rfl rfl (impl_rangeOf_1_w _ _ _ _ _ _ H eT r bM bE bN a9 bO bA cT cU bB bP bQ cV cW cX) ?_
 rintro _ f7 ⟨eW, f8, f9, H, rfl, bR, o, eX, aH⟩
 obtain ⟨eY, eZ, rfl⟩ := o.shape
 have aC := (aD.trans bR)
 have cY := (aX.ext aC)
 have cZ := (aN.ext aC)
 have c0 := (aX.ext aC)
 have c1 := (aM.ext aC)
 have c2 := (aW.ext aC)
 have c3 := (aM.ext aC)
 have c4 := (aN.ext aC)
 have c5 := (aV.ext aC)
 refine LP_gs ⟨⟨.inr cY, .inr cZ, .inr c0, .inr c1, .inr c2, .inr c3, .inr c4, .inr c5, .inr (a4.ext aC), .inr (aN.ext aC), .inr (a4.ext aC), .inr (aM.ext aC), .inr (aW.ext aC), .inr (aN.ext aC), .inr (aV.ext aC), .inr (aM.ext aC), trivial⟩, ?_⟩
 refine GS_lp [(26, sl eY eW eZ), (27, I i), (30, I (wr ((ln t.Rows) + j))), (40, I (wr (aA - a5)))] rfl rfl (fun _ h => h) rfl fun ρ e0 aI => ?_
 refine Lc 0 rfl rfl rfl cal_90 rfl (impl_push_w _ _ _ _ _ H e0 o (eX.ext aI)) ?_
 rintro _ gA ⟨aY, gB, gC, H, rfl, aB, gD, gE, dm⟩
 have bS := (Df (aX.ext aD) aH).symm
 have c6 := ((cY.ext aI).but aB bS)
 have bT := (Df (aN.ext aD) aH).symm
 have c7 := ((cZ.ext aI).but aB bT)
 have c8 := ((c0.ext aI).but aB bS)
 have bU := (Df (aM.ext aD) aH).symm
 have c9 := ((c1.ext aI).but aB bU)
 have dA := (Df (aW.ext aD) aH).symm
 have dB := ((c2.ext aI).but aB dA)
 have dC := ((c3.ext aI).but aB bU)
 have dD := ((c4.ext aI).but aB bT)
 have dE := (Df (aV.ext aD) aH).symm
 have dF := ((c5.ext aI).but aB dE)
 refine LP_gs ⟨⟨.inr c6, .inr c7, .inr c8, .inr c9, .inr dB, .inr dC, .inr dD, .inr dF, .inl rfl, .inl rfl, .inl rfl, .inl rfl, .inl rfl, .inl rfl, .inl rfl, .inl rfl, trivial⟩, ?_⟩
 refine GS_ev ok [(24, I aA), (41, I aY)] (I (wr (aA - aY))) rfl rfl (fun _ h => h) (fun _ => rfl) ?_
 refine GS_lp [(44, .func (.func 96) #[] #[pb b, pb aP, pb aE, pb aK, pb aF])] rfl rfl (fun _ h => h) rfl fun ρ e1 aG => ?_
 have aJ := (bR.trans aI)
 have e2 := (Df bM aH).symm
 have e3 := (Df bN aH).symm
 have e4 := (Df bO aH).symm
 have e5 := (Df bP aH).symm
 have e6 := (Df bQ aH).symm
 refine LP_callc 0 rfl rfl rfl rfl cal_96 rfl rfl (impl_rangeOf_1_w _ _ _ _ _ _ H e1 r (((bM.ext aJ).but aB e2).ext aG) bE (((bN.ext aJ).but aB e3).ext aG) a9 (((bO.ext aJ).but aB e4).ext aG) bA (((cT.ext aJ).but aB bS).ext aG) (((cU.ext aJ).but aB dA).ext aG) bB (((bP.ext aJ).but aB e5).ext aG) (((bQ.ext aJ).but aB e6).ext aG) (((cV.ext aJ).but aB bU).ext aG) (((cW.ext aJ).but aB dE).ext aG) (((cX.ext aJ).but aB bT).ext aG)) ?_
 rintro _ gF ⟨e7, gG, gH, H, rfl, e8, dG, e9, fA⟩
 obtain ⟨fB, fC, rfl⟩ := dG.shape
 have aO := (aG.trans e8)
 refine LP_gs ⟨⟨.inr (c6.ext aO), .inr (c7.ext aO), .inr (c8.ext aO), .inr (c9.ext aO), .inr (dB.ext aO), .inr (dC.ext aO), .inr (dD.ext aO), .inr (dF.ext aO), .inl rfl, .inl rfl, .inl rfl, .inl rfl, .inl rfl, .inl rfl, .inl rfl, .inl rfl, trivial⟩, ?_⟩
 refine GS_lp [(45, sl fB e7 fC), (48, I (wr ((ln t.Rows) + j))), (49, I i), (59, I (wr (a6 - aA)))] rfl rfl (fun _ h => h) rfl fun ρ fD dH => ?_
 refine Lc 0 rfl rfl rfl cal_90 rfl (impl_push_w _ _ _ _ _ H fD dG (e9.ext dH)) ?_
 rintro _ gI ⟨a8, gJ, gK, H, rfl, fE, gL, gM, gN⟩
 refine LP_gs ⟨⟨.inl rfl, .inl rfl, .inl rfl, .inl rfl, .inl rfl, .inl rfl, .inl rfl, .inl rfl, .inl rfl, .inl rfl, .inl rfl, .inl rfl, .inl rfl, .inl rfl, .inl rfl, .inl rfl, trivial⟩, ?_⟩
 refine GS_ev ok [(43, I aA), (60, I a8)] (I (wr (aA + a8))) rfl rfl (fun _ h => h) (fun _ => rfl) ?_
 refine GS_ev ok [(42, I (wr (aA - aY)))] (I (wr (aA - aY))) rfl rfl (fun _ h => h) (fun _ => rfl) ?_
 intro gO fF ρ hn
 refine AP_forget [(8, I (wr (aA - aY))), (9, I 0), (61, I (wr (aA + a8)))] (by exact hn) fun ρ => ?_
 refine AP_tail 39 [[], [], [1], [], [], [], [4, 5], [], [], [8], [], [8, 9, 10], [8, 9, 10, 11], [], [8, 9, 10, 11, 12, 13], [8, 9, 10, 11, 12, 13, 14], [7, 8, 9, 10, 11, 12, 13, 14, 15], [1, 2, 3, 4, 5, 6, 7, 8, 9, 10, 11, 12, 13, 14, 15, 16], [0, 1, 2, 3, 4, 5, 6, 7, 8, 9, 10, 11, 12, 13, 14, 15, 16, 17], [], [], [1, 2, 3, 4, 5, 6, 7, 8, 9, 10, 11, 12, 13, 14, 15, 16, 17, 20], [], [], [22, 23], [], [], [26], [], [26, 27, 28], [26, 27, 28, 29], [], [26, 27, 28, 29, 30, 31], [26, 27, 28, 29, 30, 31, 32], [], [26, 27, 28, 29, 30, 31, 32, 33, 34], [1, 2, 3, 4, 5, 6, 7, 8, 9, 10, 11, 12, 13, 14, 15, 16, 17, 20, 21, 22, 23, 24, 25, 26, 27, 28, 29, 30, 31, 32, 33, 34, 35], [1, 2, 3, 4, 5, 6, 7, 8, 9, 10, 11, 12, 13, 14, 15, 16, 17, 19, 20, 21, 22, 23, 24, 25, 26, 27, 28, 29, 30, 31, 32, 33, 34, 35, 36], [0, 1, 2, 3, 4, 5, 6, 7, 8, 9, 10, 11, 12, 13, 14, 15, 16, 17, 18, 20, 21, 22, 23, 24, 25, 26, 27, 28, 29, 30, 31, 32, 33, 34, 35, 36], [0, 1, 2, 3, 4, 5, 6, 7, 8, 9, 10, 11, 12, 13, 14, 15, 16, 17, 18, 19, 20, 21, 22, 23, 24, 25, 26, 27, 28, 29, 30, 31, 32, 33, 34, 35, 36, 37, 38]] (by kernel_rfl) ?_
 refine Lv ok 39 [(9, I (wr (aA + a8)))] 40 rfl rfl (Ln _ rfl (W_ret ?_))
 have X271 := (X.stepx aU)
 have dI := aL.mono X271.size
 have X274 := (((X271.stepx aS).step y (dI.dom _)).stepx a7)
 have dJ := aH.mono X274.size
 have fG := fA.mono (((X274.stepx aJ).step aB (dJ.dom _)).stepx aG).size
 exact ⟨_, Ret_of [I (wr (aA - aY)), I (wr (aA + a8))] ⟨⟨rfl, rfl⟩, ⟨rfl, rfl⟩, trivial⟩, _, _, H, rfl, (((((((X.stepx aT).step y (dI.dom _)).stepx ((((cH.trans cI).trans aD).trans bR).trans aI)).step aB (dJ.dom _)).stepx (aO.trans dH)).step fE (fG.dom _)).stepx fF).ext⟩

theorem impl_CellRange_w (t : Transport) (i : Int) (j : Int) (Q : Int → Int → Bool → Prop) (H : impl_CellRange t i j Q) (w : World) {vx : Value} {hx : PH} (r : RS hx vx t.Rows) (ex : Sub hx w) {aX : Value} {aY : PH} (aK : RS aY aX t.Cols) (bG : Sub aY w) {aZ : Value} {a0 : PH} (aL : RS a0 aZ t.Lo) (bH : Sub a0 w) {a1 : Value} {a2 : PH} (aM : RS a2 a1 t.Hi) (bI : Sub a2 w) :
  CallsTo Try.prog 24 #[.agg #[vx, aX, aZ, a1], I i, I j] w fun v w' => ∃ a3 a4 a5, Q a3 a4 a5 ∧ v = .tuple #[I a3, I a4, .bool a5] ∧ Ext w w' := by
 obtain ⟨a, c, rfl⟩ := r.shape
 obtain ⟨aA, aB, rfl⟩ := aK.shape
 obtain ⟨aD, aE, rfl⟩ := aL.shape
 obtain ⟨aF, aG, rfl⟩ := aM.shape
 refine enter (args := [.agg #[sl a t.Rows c, sl aA t.Cols aB, sl aD t.Lo aE, sl aF t.Hi aG], I i, I j]) 51 Try.func24 rfl rfl rfl ?_
 refine Wo [(0, .agg #[sl a t.Rows c, sl aA t.Cols aB, sl aD t.Lo aE, sl aF t.Hi aG]), (1, I i), (2, I j)] ⟨rfl, rfl, rfl, trivial⟩ fun ρ => ?_
 have X := Br emp w
 refine Wq (Wg (Ly 0 (cs := [sl a t.Rows c, sl aA t.Cols aB, sl aD t.Lo aE, sl aF t.Hi aG]) rfl rfl rfl rfl rfl fun b wx x aO f => (Lv ok 1 [(6, I 0), (7, I 0), (8, .bool false)] 4 rfl rfl (Ln _ rfl (Wq ?_)))))
 have X20 := (X.stepx x)
 have a6 := (ex.ext x)
 have a7 := (bG.ext x)
 have a8 := (bH.ext x)
 have a9 := (bI.ext x)
 obtain ⟨k, hk, H⟩ := jn_elim H
 refine W_join2 (S := Bool) (fun s ρ' w' => k s ∧ ∃ (ρ : Env), ρ' = setAll [(1, I i), (2, I j), (3, pb b), (36, .bool s)] ρ ∧ Ext wx w') ?_ ?_
 ·refine Wg (Lb 0 (v := .agg #[sl a t.Rows c, sl aA t.Cols aB, sl aD t.Lo aE, sl aF t.Hi aG]) rfl rfl rfl ti_29 ag_29 (fun h => by cases h) rfl aO rfl rfl (Lc 1 rfl rfl rfl cal_36 rfl (impl_IsTransport_w _ _ H wx r a6 aK a7 aL a8 aM a9) ?_))
  rintro _ bO ⟨aP, H, rfl, aH⟩
  refine Lv ok 2 [(14, .bool (!aP)), (15, .bool (!aP))] 4 rfl rfl ?_
  refine LP_split 15 (!aP) rfl (fun hc => ?_) (fun hc => ?_)
  ·have H := H.1 hc
   refine Lv ok 4 [(16, undef), (17, undef), (18, .bool true), (19, .bool true), (20, undef), (21, undef), (22, undef), (23, undef), (24, undef), (25, .bool true), (26, .bool true), (27, undef), (28, undef), (29, .bool true), (30, .bool true), (31, undef), (32, undef), (33, undef), (34, undef), (35, undef), (36, .bool true)] 25 rfl rfl (Ln _ rfl ?_)
   try refine Wo [(1, I i), (2, I j), (3, pb b), (36, .bool true)] ⟨rfl, rfl, rfl, rfl, trivial⟩ fun ρ => ?_
   exact ⟨true, H, _, Ee ⟨rfl, rfl, rfl, rfl, trivial⟩, aH⟩
  have H := H.2 hc
  refine Lv ok 4 [(16, I i), (17, .bool (decide (i < 0))), (18, .bool (decide (i < 0))), (19, .bool (decide (i < 0)))] 8 rfl rfl ?_
  refine LP_split 19 (decide (i < 0)) rfl (fun aQ => ?_) (fun aQ => ?_)
  ·have H := H.1 aQ
   refine Lv ok 8 [(20, undef), (21, undef), (22, undef), (23, undef), (24, undef), (25, .bool true), (26, .bool true), (27, undef), (28, undef), (29, .bool true), (30, .bool true), (31, undef), (32, undef), (33, undef), (34, undef), (35, undef), (36, .bool true)] 25 rfl rfl (Ln _ rfl ?_)
   try refine Wo [(1, I i), (2, I j), (3, pb b), (36, .bool true)] ⟨rfl, rfl, rfl, rfl, trivial⟩ fun ρ => ?_
   exact ⟨true, H, _, Ee ⟨rfl, rfl, rfl, rfl, trivial⟩, aH⟩
  have H := H.2 aQ
  refine Lv ok 8 [(20, I i), (21, pb b)] 10 rfl rfl ?_
  have bA := (aO.ext aH)
  refine Lb 10 (v := sl a t.Rows c) rfl rfl rfl ti_22 ag_22 (fun _ => rfl) rfl bA rfl rfl (Lv ok 11 [(23, I (ln t.Rows)), (24, .bool (decide (i ≥ (ln t.Rows)))), (25, .bool (decide (i ≥ (ln t.Rows)))), (26, .bool (decide (i ≥ (ln t.Rows))))] 15 rfl rfl ?_)
  refine LP_split 26 (decide (i ≥ (ln t.Rows))) rfl (fun aR => ?_) (fun aR => ?_)
  ·have H := H.1 aR
   refine Lv ok 15 [(27, undef), (28, undef), (29, .bool true), (30, .bool true), (31, undef), (32, undef), (33, undef), (34, undef), (35, undef), (36, .bool true)] 25 rfl rfl (Ln _ rfl ?_)
   try refine Wo [(1, I i), (2, I j), (3, pb b), (36, .bool true)] ⟨rfl, rfl, rfl, rfl, trivial⟩ fun ρ => ?_
   exact ⟨true, H, _, Ee ⟨rfl, rfl, rfl, rfl, trivial⟩, aH⟩
  have H := H.2 aR
  refine Lv ok 15 [(27, I j), (28, .bool (decide (j < 0))), (29, .bool (decide (j < 0))), (30, .bool (decide (j < 0)))] 19 rfl rfl ?_
  refine LP_split 30 (decide (j < 0)) rfl (fun aS => ?_) (fun aS => ?_)
  ·have H := H.1 aS
   refine Lv ok 19 [(31, undef), (32, undef), (33, undef), (34, undef), (35, undef), (36, .bool true)] 25 rfl rfl (Ln _ rfl ?_)
   try refine Wo [(1, I i), (2, I j), (3, pb b), (36, .bool true)] ⟨rfl, rfl, rfl, rfl, trivial⟩ fun ρ => ?_
   exact ⟨true, H, _, Ee ⟨rfl, rfl, rfl, rfl, trivial⟩, aH⟩
  have H := H.2 aS
  refine Lv ok 19 [(31, I j), (32, .pointer (some ⟨b, 1, none⟩))] 21 rfl rfl (Lb 21 (v := sl aA t.Cols aB) rfl rfl rfl ti_22 ag_22 (fun _ => rfl) rfl bA rfl rfl (Lv ok 22 [(34, I (ln t.Cols)), (35, .bool (decide (j ≥ (ln t.Cols)))), (36, .bool (decide (j ≥ (ln t.Cols))))] 25 rfl rfl (Ln _ rfl ?_)))
  try refine Wo [(1, I i), (2, I j), (3, pb b), (36, .bool (decide (j ≥ (ln t.Cols))))] ⟨rfl, rfl, rfl, rfl, trivial⟩ fun ρ => ?_
  exact ⟨decide (j ≥ (ln t.Cols)), H, _, Ee ⟨rfl, rfl, rfl, rfl, trivial⟩, aH⟩
 rintro bJ _ bK ⟨H, ρ, rfl, X28⟩
 subst hk
 refine Wc (bJ) rfl (fun aT => ?_) (fun aT => ?_)
 ·have H := H.1 aT
  refine Wq (Wg (Lv ok 0 [(6, I 0), (7, I 0), (8, .bool false)] 3 rfl rfl (Ln _ rfl (W_ret ?_))))
  exact ⟨_, Ret_of [I 0, I 0, .bool false] ⟨⟨rfl, rfl⟩, ⟨rfl, rfl⟩, ⟨rfl, rfl⟩, trivial⟩, _, _, _, H, rfl, (X20.stepx X28).ext⟩
 have H := H.2 aT
 refine Wk (Wq (Wg ?_))
 have bB := (aO.ext X28)
 refine Lb 0 (v := .agg #[sl a t.Rows c, sl aA t.Cols aB, sl aD t.Lo aE, sl aF t.Hi aG]) rfl rfl rfl ti_29 ag_29 (fun h => by cases h) rfl bB rfl rfl ?_
 have bC := (a6.ext X28)
 have bD := (a7.ext X28)
 have bE := (a8.ext X28)
 have bF := (a9.ext X28)
 refine Lc 1 rfl rfl rfl cal_54 rfl (impl_anyFlow_w _ _ H bK r bC aK bD aL bE aM bF) ?_
 rintro _ bL ⟨aN, bP, bQ, H, rfl, aC, o, bM, bR, cn⟩
 obtain ⟨aU, aV, rfl⟩ := o.shape
 refine Lv ok 2 [(9, sl aU aN aV)] 3 rfl rfl (Ln _ rfl (Wq (Wq (Wg (Lv ok 0 [(39, sl aU aN aV)] 1 rfl rfl (LP_val 1 _ rfl rfl (ex_eqnilc rfl Try.underlying23 rfl rfl (cn _ _ _ rfl) _) (Ln _ rfl ?_)))))))
 refine Wc (ln aN == 0) rfl (fun aW => ?_) (fun aW => ?_)
 ·have H := H.1 aW
  refine Wq (Wg (Lv ok 0 [(6, I 0), (7, I 0), (8, .bool false)] 3 rfl rfl (Ln _ rfl (W_ret ?_))))
  exact ⟨_, Ret_of [I 0, I 0, .bool false] ⟨⟨rfl, rfl⟩, ⟨rfl, rfl⟩, ⟨rfl, rfl⟩, trivial⟩, _, _, _, H, rfl, (X20.stepx (X28.trans aC)).ext⟩
 have H := H.2 aW
 refine Wk (Wq (Wg (Lb 0 (v := .agg #[sl a t.Rows c, sl aA t.Cols aB, sl aD t.Lo aE, sl aF t.Hi aG]) rfl rfl rfl ti_29 ag_29 (fun h => by cases h) rfl (bB.ext aC) rfl rfl (Lv ok 1 [(43, sl aU aN aV), (44, I i), (45, I j)] 4 rfl rfl (Lc 4 rfl rfl rfl cal_55 rfl (impl_rangeOf_w _ _ _ _ _ H bL r (bC.ext aC) aK (bD.ext aC) aL (bE.ext aC) aM (bF.ext aC) o.readf bM) ?_)))))
 rintro _ bS ⟨aI, aJ, H, rfl, bN⟩
 refine Lv ok 5 [(41, .tuple #[I aI, I aJ]), (47, I aI), (48, I aJ), (10, I aI), (11, I aJ)] 10 rfl rfl (Ln _ rfl (Wq (Wg (Lv ok 0 [(49, I aI), (50, I aJ), (6, I aI), (7, I aJ), (8, .bool true)] 5 rfl rfl (Ln _ rfl (W_ret ?_))))))
 exact ⟨_, Ret_of [I aI, I aJ, .bool true] ⟨⟨rfl, rfl⟩, ⟨rfl, rfl⟩, ⟨rfl, rfl⟩, trivial⟩, _, _, _, H, rfl, (X20.stepx ((X28.trans aC).trans bN)).ext⟩

theorem spec_tHigh_w (t : Transport) (i : Int) (j : Int) (Q : Int → Prop) (H : spec_tHigh t i j Q) (w : World) {vx : Value} {hx : PH} (r : RS hx vx t.Rows) (ex : Sub hx w) {aZ : Value} {a0 : PH} (a1 : RS a0 aZ t.Cols) (bO : Sub a0 w) {a2 : Value} {a3 : PH} (aQ : RS a3 a2 t.Lo) (bP : Sub a3 w) {a4 : Value} {a5 : PH} (aN : RS a5 a4 t.Hi) (bQ : Sub a5 w) :
  CallsTo Try.prog 61 #[.agg #[vx, aZ, a2, a4], I i, I j] w fun v w' => ∃ a6, Q a6 ∧ v = I a6 ∧ Ext w w' := by
 obtain ⟨a, c, rfl⟩ := r.shape
 obtain ⟨aK, aL, rfl⟩ := a1.shape
 obtain ⟨aH, aI, rfl⟩ := aQ.shape
 obtain ⟨aC, aD, rfl⟩ := aN.shape
 refine enter (args := [.agg #[sl a t.Rows c, sl aK t.Cols aL, sl aH t.Lo aI, sl aC t.Hi aD], I i, I j]) 58 Try.func61 rfl rfl rfl ?_
 refine Wo [(0, .agg #[sl a t.Rows c, sl aK t.Cols aL, sl aH t.Lo aI, sl aC t.Hi aD]), (1, I i), (2, I j)] ⟨rfl, rfl, rfl, trivial⟩ fun ρ => ?_
 have X := Br emp w
 refine Wq (Wg (Ly 0 (cs := [sl a t.Rows c, sl aK t.Cols aL, sl aH t.Lo aI, sl aC t.Hi aD]) rfl rfl rfl rfl rfl fun b wx x aR f => (Lv ok 1 [(6, I 0)] 2 rfl rfl (Ln _ rfl (Wq ?_)))))
 refine W_quiet mix (by kernel_rfl) ?_
 refine QP_ev ok 0 [(12, .pointer (some ⟨b, 2, none⟩))] 1 rfl rfl ?_
 refine QP_ldbox 1 (v := sl aH t.Lo aI) rfl rfl rfl ti_23 ag_23 (fun _ => rfl) rfl aR rfl rfl ?_
 refine QP_ev ok 2 [(14, I i)] 3 rfl rfl ?_
 obtain ⟨c3, hi, bR, H⟩ := H
 refine QP_index 3 rfl rfl rfl Try.underlying23 ti_22 rfl rfl aQ hi bR fun c4 cs bS d => ?_
 have aS := (bP.ext x)
 refine QP_load 4 rfl rfl rfl ti_22 ag_22 rfl bS d aS fun c5 bT => ?_
 have a7 := bT.slice
 obtain ⟨c6, c7, rfl⟩ := a7.shape
 refine QP_ev ok 5 [(17, I j)] 6 rfl rfl ?_
 obtain ⟨a8, bU, bV, H⟩ := H
 refine QP_index 6 rfl rfl rfl Try.underlying22 ti_3 rfl rfl a7 bU bV fun c8 c9 bW bX => ?_
 refine QP_load 7 rfl rfl rfl ti_3 ag_3 rfl bW bX aS fun dA bY => ?_
 obtain rfl := bY.int
 refine QP_ev ok 8 [(20, .pointer (some ⟨b, 3, none⟩))] 9 rfl rfl ?_
 refine QP_ldbox 9 (v := sl aC t.Hi aD) rfl rfl rfl ti_23 ag_23 (fun _ => rfl) rfl aR rfl rfl ?_
 refine QP_ev ok 10 [(22, I i)] 11 rfl rfl ?_
 obtain ⟨dB, bZ, b0, H⟩ := H
 refine QP_index 11 rfl rfl rfl Try.underlying23 ti_22 rfl rfl aN bZ b0 fun dC dD b1 b2 => ?_
 have aT := (bQ.ext x)
 refine QP_load 12 rfl rfl rfl ti_22 ag_22 rfl b1 b2 aT fun dE b3 => ?_
 have a9 := b3.slice
 obtain ⟨dF, dG, rfl⟩ := a9.shape
 refine QP_ev ok 13 [(25, I j)] 14 rfl rfl ?_
 obtain ⟨bA, b4, b5, H⟩ := H
 refine QP_index 14 rfl rfl rfl Try.underlying22 ti_3 rfl rfl a9 b4 b5 fun dH dI b6 b7 => ?_
 refine QP_load 15 rfl rfl rfl ti_3 ag_3 rfl b6 b7 aT fun dJ b8 => ?_
 obtain rfl := b8.int
 refine QP_ev ok 16 [(7, I a8), (8, I bA)] 18 rfl rfl ?_
 refine QP_end _ rfl fun b9 aU => ?_
 refine Wq (W_block ?_)
 obtain ⟨J, m, Hx, H⟩ := H
 refine W_loop (S := Int × Int) (fun s ρ' w' => J s.1 s.2 ∧ ∃ (ρ : Env), ρ' = setAll [(1, I i), (2, I j), (3, pb b), (7, I s.1), (8, I s.2)] ρ ∧ Ext b9 w') (fun s => m s.1 s.2) (a8, bA) ⟨Hx, _, Ee ⟨rfl, rfl, rfl, rfl, rfl, trivial⟩, (Ext.refl _)⟩ ?_
 rintro ⟨lo, aA⟩ _ dK ⟨Hi, ρ, rfl, X65⟩
 have H := H lo aA Hi
 refine Wq (Wq (Wg (Lv ok 0 [(28, I lo), (29, I aA), (30, .bool (decide (lo < aA)))] 3 rfl rfl (Ln _ rfl ?_))))
 refine Wc (decide (lo < aA)) rfl (fun hc => ?_) (fun hc => ?_)
 ·have H := H.1 hc
  refine Wk (W_block (Wq (Wg (Lv ok 0 [(31, I lo), (32, I aA), (33, I (wr (lo + aA))), (34, I (wr ((wr (lo + aA)) + 1)))] 4 rfl rfl (LP_val 4 _ rfl rfl (ex_quo rfl rfl rfl (by decide) _) (Lv ok 5 [(9, I (wr (Int.tdiv (wr ((wr (lo + aA)) + 1)) 2)))] 6 rfl rfl (Ln _ rfl (Wq ?_))))))))
  refine W_open mix fun dL aO => ?_
  refine AP_game 18 [[], [], [], [], [], [4], [], [4, 5, 6], [4, 5, 6, 7], [], [4, 5, 6, 7, 8, 9], [4, 5, 6, 7, 8, 9, 10], [0, 1, 2, 3, 4, 5, 6, 7, 8, 9, 10, 11], [0, 1, 2, 3, 4, 5, 6, 7, 8, 9, 10, 11, 12], [0, 1, 2, 3, 4, 5, 6, 7, 8, 9, 10, 11, 12, 13], [0, 1, 2, 3, 4, 5, 6, 7, 8, 9, 10, 11, 12, 13, 14], [0, 1, 2, 3, 4, 5, 6, 7, 8, 9, 10, 11, 12, 13, 14], [0, 1, 2, 3, 4, 5, 6, 7, 8, 9, 10, 11, 12, 13, 14, 15], [0, 1, 2, 3, 4, 5, 6, 7, 8, 9, 10, 11, 12, 13, 14, 15, 16, 17]] [[(3, none)], [(1, none)], [(2, none)], [(9, none)], [(3, none)], [(41, some 4)], [(1, none)], [(42, some 5), (43, some 6)], [(44, some 7)], [(2, none)], [(45, some 8), (46, some 9)], [(47, some 10)], [(37, some 0), (38, some 1), (39, some 2), (40, some 3), (48, some 11)], [(49, some 12)], [(50, some 13)], [(36, some 14)], [(36, some 14)], [(51, some 15)]] [(1, none), (2, none), (3, none), (7, none), (8, none), (9, none), (52, some 16)] [(0, false), (1, false), (2, false), (3, false), (4, false), (5, false), (6, false), (7, false), (8, false), (9, false), (10, false), (11, false), (12, true), (13, true), (14, false), (15, false), (16, false), (17, false)] (by kernel_rfl) (by kernel_rfl) ?_
  have xc := ((aU.trans X65).trans aO)
  have bB := (aR.ext xc)
  refine GS_r1 [(3, pb b)] (.agg #[sl a t.Rows c, sl aK t.Cols aL, sl aH t.Lo aI, sl aC t.Hi aD]) rfl rfl (fun _ h => h) (fun _ w e => ex_ldbox rfl ti_29 ag_29 (fun h => by cases h) rfl e rfl rfl) bB ?_
  refine GS_ev ok [(1, I i)] (I i) rfl rfl (fun _ h => h) (fun _ => rfl) ?_
  refine GS_ev ok [(2, I j)] (I j) rfl rfl (fun _ h => h) (fun _ => rfl) ?_
  refine GS_ev ok [(9, I (wr (Int.tdiv (wr ((wr (lo + aA)) + 1)) 2)))] (I (wr (Int.tdiv (wr ((wr (lo + aA)) + 1)) 2))) rfl rfl (fun _ h => h) (fun _ => rfl) ?_
  refine GS_ev ok [(3, pb b)] (.pointer (some ⟨b, 3, none⟩)) rfl rfl (fun _ h => h) (fun _ => rfl) ?_
  refine GS_r1 [(41, .pointer (some ⟨b, 3, none⟩))] (sl aC t.Hi aD) rfl rfl (fun _ h => h) (fun _ w e => ex_ldbox rfl ti_23 ag_23 (fun _ => rfl) rfl e rfl rfl) bB ?_
  refine GS_ev ok [(1, I i)] (I i) rfl rfl (fun _ h => h) (fun _ => rfl) ?_
  obtain ⟨aV, cA, cB, H⟩ := H
  obtain ⟨bC, dM, cC, cD, cE⟩ := run_indexAt Try.underlying23 ti_22 aN .i64 _ aV cA cB
  refine GS_r0 [(42, sl aC t.Hi aD), (43, I i)] (.pointer (some bC)) rfl rfl (fun _ h => h) (fun _ _ => ex_index rfl rfl rfl (cC _)) ?_
  obtain ⟨dN, cF, cG⟩ := run_loadAt ti_22 ag_22 cD cE
  have bD := cG.slice
  obtain ⟨bE, bF, rfl⟩ := bD.shape
  have aW := (aT.ext xc)
  refine GS_r1 [(44, .pointer (some bC))] (sl bE aV bF) rfl rfl (fun _ h => h) (fun _ w e => ex_load rfl rfl (cF w e)) aW ?_
  refine GS_ev ok [(2, I j)] (I j) rfl rfl (fun _ h => h) (fun _ => rfl) ?_
  obtain ⟨aX, cH, cI, H⟩ := H
  obtain ⟨bG, dO, cJ, cK, cL⟩ := run_indexAt Try.underlying22 ti_3 bD .i64 _ aX cH cI
  refine GS_r0 [(45, sl bE aV bF), (46, I j)] (.pointer (some bG)) rfl rfl (fun _ h => h) (fun _ _ => ex_index rfl rfl rfl (cJ _)) ?_
  obtain ⟨dP, cM, cN⟩ := run_loadAt ti_3 ag_3 cK cL
  obtain rfl := cN.int
  refine GS_r1 [(47, .pointer (some bG))] (I aX) rfl rfl (fun _ h => h) (fun _ w e => ex_load rfl rfl (cM w e)) aW ?_
  refine GS_lp [(37, .agg #[sl a t.Rows c, sl aK t.Cols aL, sl aH t.Lo aI, sl aC t.Hi aD]), (38, I i), (39, I j), (40, I (wr (Int.tdiv (wr ((wr (lo + aA)) + 1)) 2))), (48, I aX)] rfl rfl (fun _ h => h) rfl fun ρ cO aM => ?_
  have bH := ((((x.trans aU).trans X65).trans aO).trans aM)
  refine Lc 0 rfl rfl rfl cal_70 rfl (spec_tWith_w _ _ _ _ _ _ H cO r (ex.ext bH) a1 (bO.ext bH) aQ (aS.ext (xc.trans aM)) aN (aW.ext aM)) ?_
  rintro _ dQ ⟨aP, dR, dS, dT, dU, dV, dW, dX, dY, H, rfl, bI, HF⟩
  revert HF
  refine bb9 fun o cP dZ bJ cQ d0 bK cR => ?_
  refine bb9 fun d1 bL cS d2 d3 d4 d5 d6 d7 => ?_
  obtain ⟨cT, cU, rfl⟩ := o.shape
  obtain ⟨cV, cW, rfl⟩ := bJ.shape
  obtain ⟨cX, cY, rfl⟩ := bK.shape
  obtain ⟨cZ, c0, rfl⟩ := bL.shape
  refine LP_gs ⟨⟨.inl rfl, .inl rfl, .inl rfl, .inl rfl, trivial⟩, ?_⟩
  refine GS_lp [(49, .agg #[sl cT aP.Rows cU, sl cV aP.Cols cW, sl cX aP.Lo cY, sl cZ aP.Hi c0])] rfl rfl (fun _ h => h) rfl fun ρ c1 aJ => ?_
  refine Lc 0 rfl rfl rfl cal_33 rfl (spec_tFeasible_w _ _ H c1 o (cP.ext aJ) bJ (cQ.ext aJ) bK.readf (cR.ext aJ) bL.readf (cS.ext aJ)) ?_
  rintro _ d8 ⟨aE, aB, d9, eA, H, rfl, bM, c2, eB, eC⟩
  obtain ⟨aF, aG, rfl⟩ := c2.shape
  refine LP_gs ⟨⟨.inl rfl, .inl rfl, .inl rfl, .inl rfl, trivial⟩, ?_⟩
  refine GS_ev ok [(50, .tuple #[sl aF aE aG, .bool aB])] (.tuple #[sl aF aE aG, .bool aB]) rfl rfl (fun _ h => h) (fun _ => rfl) ?_
  refine GS_ev ok [(36, .tuple #[sl aF aE aG, .bool aB])] (sl aF aE aG) rfl rfl (fun _ h => h) (fun _ => rfl) ?_
  refine GS_ev ok [(36, .tuple #[sl aF aE aG, .bool aB])] (.bool aB) rfl rfl (fun _ h => h) (fun _ => rfl) ?_
  refine GS_ev ok [(51, sl aF aE aG)] (sl aF aE aG) rfl rfl (fun _ h => h) (fun _ => rfl) ?_
  intro eD bN ρ hn
  refine AP_forget [(1, I i), (2, I j), (3, pb b), (7, I lo), (8, I aA), (9, I (wr (Int.tdiv (wr ((wr (lo + aA)) + 1)) 2))), (52, .bool aB)] (by exact hn) fun ρ => ?_
  refine AP_tail 18 [[], [], [], [], [], [4], [], [4, 5, 6], [4, 5, 6, 7], [], [4, 5, 6, 7, 8, 9], [4, 5, 6, 7, 8, 9, 10], [0, 1, 2, 3, 4, 5, 6, 7, 8, 9, 10, 11], [0, 1, 2, 3, 4, 5, 6, 7, 8, 9, 10, 11, 12], [0, 1, 2, 3, 4, 5, 6, 7, 8, 9, 10, 11, 12, 13], [0, 1, 2, 3, 4, 5, 6, 7, 8, 9, 10, 11, 12, 13, 14], [0, 1, 2, 3, 4, 5, 6, 7, 8, 9, 10, 11, 12, 13, 14], [0, 1, 2, 3, 4, 5, 6, 7, 8, 9, 10, 11, 12, 13, 14, 15], [0, 1, 2, 3, 4, 5, 6, 7, 8, 9, 10, 11, 12, 13, 14, 15, 16, 17]] (by kernel_rfl) ?_
  refine Lv ok 18 [(11, .bool aB)] 19 rfl rfl (Ln _ rfl (Wq (Wg (Lv ok 0 [(53, .bool aB)] 1 rfl rfl (Ln _ rfl ?_)))))
  refine Wc (aB) rfl (fun aY => ?_) (fun aY => ?_)
  ·have H := H.1 aY
   refine Wg (Lv ok 0 [(54, I (wr (Int.tdiv (wr ((wr (lo + aA)) + 1)) 2))), (7, I (wr (Int.tdiv (wr ((wr (lo + aA)) + 1)) 2)))] 2 rfl rfl ?_)
   exact Ln _ rfl ⟨(wr (Int.tdiv (wr ((wr (lo + aA)) + 1)) 2), aA), ⟨H.1, _, Ee ⟨rfl, rfl, rfl, rfl, rfl, trivial⟩, ((((((X65.trans aO).trans aM).trans bI).trans aJ).trans bM).trans bN)⟩, H.2⟩
  have H := H.2 aY
  refine Wg (Lv ok 0 [(55, I (wr (Int.tdiv (wr ((wr (lo + aA)) + 1)) 2))), (56, I (wr ((wr (Int.tdiv (wr ((wr (lo + aA)) + 1)) 2)) - 1))), (8, I (wr ((wr (Int.tdiv (wr ((wr (lo + aA)) + 1)) 2)) - 1)))] 3 rfl rfl ?_)
  exact Ln _ rfl ⟨(lo, wr ((wr (Int.tdiv (wr ((wr (lo + aA)) + 1)) 2)) - 1)), ⟨H.1, _, Ee ⟨rfl, rfl, rfl, rfl, rfl, trivial⟩, ((((((X65.trans aO).trans aM).trans bI).trans aJ).trans bM).trans bN)⟩, H.2⟩
 have H := H.2 hc
 refine W_exit ?_
 refine (if_pos rfl).mpr ?_
 refine Wq (Wg (Lv ok 0 [(57, I lo), (6, I lo)] 2 rfl rfl (Ln _ rfl (W_ret ?_))))
 exact ⟨_, Ret_of [I lo] ⟨⟨rfl, rfl⟩, trivial⟩, _, H, rfl, (X.stepx ((x.trans aU).trans X65)).ext⟩

theorem spec_tRange_w (t : Transport) (i : Int) (j : Int) (Q : Int → Int → Bool → Prop) (H : spec_tRange t i j Q) (w : World) {vx : Value} {hx : PH} (r : RS hx vx t.Rows) (ex : Sub hx w) {aS : Value} {aT : PH} (aI : RS aT aS t.Cols) (bB : Sub aT w) {aU : Value} {aV : PH} (aJ : RS aV aU t.Lo) (bC : Sub aV w) {aW : Value} {aX : PH} (aK : RS aX aW t.Hi) (bD : Sub aX w) :
  CallsTo Try.prog 57 #[.agg #[vx, aS, aU, aW], I i, I j] w fun v w' => ∃ aY aZ a0, Q aY aZ a0 ∧ v = .tuple #[I aY, I aZ, .bool a0] ∧ Ext w w' := by
 obtain ⟨a, c, rfl⟩ := r.shape
 obtain ⟨aB, aC, rfl⟩ := aI.shape
 obtain ⟨aD, aE, rfl⟩ := aJ.shape
 obtain ⟨aF, aG, rfl⟩ := aK.shape
 refine enter (args := [.agg #[sl a t.Rows c, sl aB t.Cols aC, sl aD t.Lo aE, sl aF t.Hi aG], I i, I j]) 26 Try.func57 rfl rfl rfl ?_
 refine Wo [(0, .agg #[sl a t.Rows c, sl aB t.Cols aC, sl aD t.Lo aE, sl aF t.Hi aG]), (1, I i), (2, I j)] ⟨rfl, rfl, rfl, trivial⟩ fun ρ => ?_
 have X := Br emp w
 refine Wq (Wg (Ly 0 (cs := [sl a t.Rows c, sl aB t.Cols aC, sl aD t.Lo aE, sl aF t.Hi aG]) rfl rfl rfl rfl rfl fun b wx x a1 f => (Lv ok 1 [(6, I 0), (7, I 0), (8, .bool false)] 4 rfl rfl (Ln _ rfl (Wq (Wq (Wg (Lb 0 (v := .agg #[sl a t.Rows c, sl aB t.Cols aC, sl aD t.Lo aE, sl aF t.Hi aG]) rfl rfl rfl ti_29 ag_29 (fun h => by cases h) rfl a1 rfl rfl ?_))))))))
 have a2 := (ex.ext x)
 have a3 := (bB.ext x)
 have a4 := (bC.ext x)
 have a5 := (bD.ext x)
 refine Lc 1 rfl rfl rfl cal_33 rfl (spec_tFeasible_w _ _ H wx r a2 aI a3 aJ a4 aK a5) ?_
 rintro _ bH ⟨aN, aH, bI, bJ, H, rfl, aA, o, bK, bL⟩
 obtain ⟨aO, aP, rfl⟩ := o.shape
 refine Lv ok 2 [(11, .tuple #[sl aO aN aP, .bool aH]), (14, sl aO aN aP), (15, .bool aH), (9, sl aO aN aP), (10, .bool aH)] 7 rfl rfl (Ln _ rfl (Wq (Wg (Lv ok 0 [(16, .bool aH), (17, .bool (!aH))] 2 rfl rfl (Ln _ rfl ?_)))))
 refine Wc (!aH) rfl (fun hc => ?_) (fun hc => ?_)
 ·have H := H.1 hc
  refine Wq (Wg (Lv ok 0 [(6, I 0), (7, I 0), (8, .bool false)] 3 rfl rfl (Ln _ rfl (W_ret ?_))))
  exact ⟨_, Ret_of [I 0, I 0, .bool false] ⟨⟨rfl, rfl⟩, ⟨rfl, rfl⟩, ⟨rfl, rfl⟩, trivial⟩, _, _, _, H, rfl, (X.stepx (x.trans aA)).ext⟩
 have H := H.2 hc
 refine Wk (Wq ?_)
 refine W_quiet mix (by kernel_rfl) ?_
 have a6 := (a1.ext aA)
 refine QP_ldbox 0 (v := .agg #[sl a t.Rows c, sl aB t.Cols aC, sl aD t.Lo aE, sl aF t.Hi aG]) rfl rfl rfl ti_29 ag_29 (fun h => by cases h) rfl a6 rfl rfl ?_
 refine QP_ev ok 1 [(19, I i), (20, I j)] 3 rfl rfl ?_
 obtain ⟨aQ, Hd, H⟩ := H
 have a7 := (a2.ext aA)
 have a8 := (a3.ext aA)
 have a9 := (a4.ext aA)
 have bA := (a5.ext aA)
 refine QP_call (I aQ) 3 rfl rfl rfl cal_60 rfl (fun bE aL => (spec_tLow_w _ _ _ _ Hd bE r (a7.ext aL) aI (a8.ext aL) aJ (a9.ext aL) aK (bA.ext aL)).mono ?_) ?_
 ·rintro _ _ ⟨_, rfl, rfl, x⟩; exact ⟨rfl, x⟩
 refine QP_ldbox 4 (v := .agg #[sl a t.Rows c, sl aB t.Cols aC, sl aD t.Lo aE, sl aF t.Hi aG]) rfl rfl rfl ti_29 ag_29 (fun h => by cases h) rfl a6 rfl rfl ?_
 refine QP_ev ok 5 [(23, I i), (24, I j)] 7 rfl rfl ?_
 obtain ⟨aR, Hd44, H⟩ := H
 refine QP_call (I aR) 7 rfl rfl rfl cal_61 rfl (fun bF aM => (spec_tHigh_w _ _ _ _ Hd44 bF r (a7.ext aM) aI (a8.ext aM) aJ (a9.ext aM) aK (bA.ext aM)).mono ?_) ?_
 ·rintro _ _ ⟨_, rfl, rfl, x⟩; exact ⟨rfl, x⟩
 refine QP_ev ok 8 [(6, I aQ), (7, I aR), (8, .bool true)] 11 rfl rfl ?_
 refine QP_end _ rfl fun bM bG => ?_
 refine W_ret ?_
 exact ⟨_, Ret_of [I aQ, I aR, .bool true] ⟨⟨rfl, rfl⟩, ⟨rfl, rfl⟩, ⟨rfl, rfl⟩, trivial⟩, _, _, _, H, rfl, (X.stepx ((x.trans aA).trans bG)).ext⟩

theorem spec_CellRange_w (t : Transport) (i : Int) (j : Int) (Q : Int → Int → Bool → Prop) (H : spec_CellRange t i j Q) (w : World) {vx : Value} {hx : PH} (r : RS hx vx t.Rows) (ex : Sub hx w) {aU : Value} {aV : PH} (aJ : RS aV aU t.Cols) (a8 : Sub aV w) {aW : Value} {aX : PH} (aK : RS aX aW t.Lo) (a9 : Sub aX w) {aY : Value} {aZ : PH} (aL : RS aZ aY t.Hi) (bA : Sub aZ w) :
  CallsTo Try.prog 25 #[.agg #[vx, aU, aW, aY], I i, I j] w fun v w' => ∃ a0 a1 a2, Q a0 a1 a2 ∧ v = .tuple #[I a0, I a1, .bool a2] ∧ Ext w w' := by
 obtain ⟨a, c, rfl⟩ := r.shape
 obtain ⟨aA, aB, rfl⟩ := aJ.shape
 obtain ⟨aC, aD, rfl⟩ := aK.shape
 obtain ⟨aE, aF, rfl⟩ := aL.shape
 refine enter (args := [.agg #[sl a t.Rows c, sl aA t.Cols aB, sl aC t.Lo aD, sl aE t.Hi aF], I i, I j]) 37 Try.func25 rfl rfl rfl ?_
 refine Wo [(0, .agg #[sl a t.Rows c, sl aA t.Cols aB, sl aC t.Lo aD, sl aE t.Hi aF]), (1, I i), (2, I j)] ⟨rfl, rfl, rfl, trivial⟩ fun ρ => ?_
 have X := Br emp w
 refine Wq (Wg (Ly 0 (cs := [sl a t.Rows c, sl aA t.Cols aB, sl aC t.Lo aD, sl aE t.Hi aF]) rfl rfl rfl rfl rfl fun b wx x aM f => (Lv ok 1 [(6, I 0), (7, I 0), (8, .bool false)] 4 rfl rfl (Ln _ rfl (Wq ?_)))))
 have X20 := (X.stepx x)
 have a3 := (ex.ext x)
 have a4 := (a8.ext x)
 have a5 := (a9.ext x)
 have a6 := (bA.ext x)
 obtain ⟨k, hk, H⟩ := jn_elim H
 refine W_join2 (S := Bool) (fun s ρ' w' => k s ∧ ∃ (ρ : Env), ρ' = setAll [(1, I i), (2, I j), (3, pb b), (29, .bool s)] ρ ∧ Ext wx w') ?_ ?_
 ·refine Wg (Lb 0 (v := .agg #[sl a t.Rows c, sl aA t.Cols aB, sl aC t.Lo aD, sl aE t.Hi aF]) rfl rfl rfl ti_29 ag_29 (fun h => by cases h) rfl aM rfl rfl (Lc 1 rfl rfl rfl cal_32 rfl (spec_tGood_w _ _ H wx r a3 aJ a4 aK a5 aL a6) ?_))
  rintro _ bB ⟨aN, H, rfl, aG⟩
  refine Lv ok 2 [(11, .bool (!aN)), (12, .bool (!aN))] 4 rfl rfl ?_
  refine LP_split 12 (!aN) rfl (fun hc => ?_) (fun hc => ?_)
  ·have H := H.1 hc
   refine Lv ok 4 [(13, undef), (14, undef), (15, undef), (16, undef), (17, undef), (18, undef), (19, undef), (20, .bool true), (21, .bool true), (22, undef), (23, undef), (24, undef), (25, undef), (26, undef), (27, undef), (28, undef), (29, .bool true)] 21 rfl rfl (Ln _ rfl ?_)
   try refine Wo [(1, I i), (2, I j), (3, pb b), (29, .bool true)] ⟨rfl, rfl, rfl, rfl, trivial⟩ fun ρ => ?_
   exact ⟨true, H, _, Ee ⟨rfl, rfl, rfl, rfl, trivial⟩, aG⟩
  have H := H.2 hc
  refine Lv ok 4 [(13, I i), (14, pb b)] 6 rfl rfl ?_
  have a7 := (aM.ext aG)
  refine Lb 6 (v := sl a t.Rows c) rfl rfl rfl ti_22 ag_22 (fun _ => rfl) rfl a7 rfl rfl (Lv ok 7 [(16, I (ln t.Rows)), (17, I (wr ((ln t.Rows) - 1)))] 9 rfl rfl (Lc 9 rfl rfl rfl cal_56 rfl (spec_l1In_w _ _ _ _ H bB ) ?_))
  rintro _ bC ⟨aH, H, rfl, aO⟩
  refine Lv ok 10 [(19, .bool (!aH)), (20, .bool (!aH)), (21, .bool (!aH))] 13 rfl rfl ?_
  refine LP_split 21 (!aH) rfl (fun aP => ?_) (fun aP => ?_)
  ·have H := H.1 aP
   refine Lv ok 13 [(22, undef), (23, undef), (24, undef), (25, undef), (26, undef), (27, undef), (28, undef), (29, .bool true)] 21 rfl rfl (Ln _ rfl ?_)
   try refine Wo [(1, I i), (2, I j), (3, pb b), (29, .bool true)] ⟨rfl, rfl, rfl, rfl, trivial⟩ fun ρ => ?_
   exact ⟨true, H, _, Ee ⟨rfl, rfl, rfl, rfl, trivial⟩, (aG.trans aO)⟩
  have H := H.2 aP
  refine Lv ok 13 [(22, I j), (23, .pointer (some ⟨b, 1, none⟩))] 15 rfl rfl (Lb 15 (v := sl aA t.Cols aB) rfl rfl rfl ti_22 ag_22 (fun _ => rfl) rfl (a7.ext aO) rfl rfl (Lv ok 16 [(25, I (ln t.Cols)), (26, I (wr ((ln t.Cols) - 1)))] 18 rfl rfl (Lc 18 rfl rfl rfl cal_56 rfl (spec_l1In_w _ _ _ _ H bC ) ?_)))
  rintro _ bH ⟨aI, H, rfl, bD⟩
  refine Lv ok 19 [(28, .bool (!aI)), (29, .bool (!aI))] 21 rfl rfl (Ln _ rfl ?_)
  try refine Wo [(1, I i), (2, I j), (3, pb b), (29, .bool (!aI))] ⟨rfl, rfl, rfl, rfl, trivial⟩ fun ρ => ?_
  exact ⟨!aI, H, _, Ee ⟨rfl, rfl, rfl, rfl, trivial⟩, ((aG.trans aO).trans bD)⟩
 rintro bE _ bF ⟨H, ρ, rfl, X28⟩
 subst hk
 refine Wc (bE) rfl (fun aQ => ?_) (fun aQ => ?_)
 ·have H := H.1 aQ
  refine Wq (Wg (Lv ok 0 [(6, I 0), (7, I 0), (8, .bool false)] 3 rfl rfl (Ln _ rfl (W_ret ?_))))
  exact ⟨_, Ret_of [I 0, I 0, .bool false] ⟨⟨rfl, rfl⟩, ⟨rfl, rfl⟩, ⟨rfl, rfl⟩, trivial⟩, _, _, _, H, rfl, (X20.stepx X28).ext⟩
 have H := H.2 aQ
 refine Wk (Wq (Wg (Lb 0 (v := .agg #[sl a t.Rows c, sl aA t.Cols aB, sl aC t.Lo aD, sl aE t.Hi aF]) rfl rfl rfl ti_29 ag_29 (fun h => by cases h) rfl (aM.ext X28) rfl rfl (Lv ok 1 [(31, I i), (32, I j)] 3 rfl rfl (Lc 3 rfl rfl rfl cal_57 rfl (spec_tRange_w _ _ _ _ H bF r (a3.ext X28) aJ (a4.ext X28) aK (a5.ext X28) aL (a6.ext X28)) ?_)))))
 rintro _ bI ⟨aR, aS, aT, H, rfl, bG⟩
 refine Lv ok 4 [(34, I aR), (35, I aS), (36, .bool aT), (6, I aR), (7, I aS), (8, .bool aT)] 10 rfl rfl (Ln _ rfl (W_ret ?_))
 exact ⟨_, Ret_of [I aR, I aS, .bool aT] ⟨⟨rfl, rfl⟩, ⟨rfl, rfl⟩, ⟨rfl, rfl⟩, trivial⟩, _, _, _, H, rfl, (X20.stepx (X28.trans bG)).ext⟩

theorem impl_allRanges_w (t : Transport) (x : List (List Int)) (Q : (List (List Int)) → (List (List Int)) → Prop) (H : impl_allRanges t x Q) (w : World) {vx : Value} {hx : PH} (r : RS hx vx t.Rows) (ex : Sub hx w) {cA : Value} {bO : PH} (cB : RS bO cA t.Cols) (cC : Sub bO w) {cD : Value} {bP : PH} (cE : RS bP cD t.Lo) (cF : Sub bP w) {cG : Value} {bQ : PH} (cH : RS bQ cG t.Hi) (cI : Sub bQ w) {cJ : Value} {bR : PH} (a9 : RS bR cJ x) (dW : Sub bR w) :
  CallsTo Try.prog 58 #[.agg #[vx, cA, cD, cG], cJ] w fun v w' => ∃ cK cL cM bD cN bE, Q cK cL ∧ v = .tuple #[cM, cN] ∧ Ext w w' ∧ OD bD cM cK ∧ Sub bD w' ∧ Fresh w.heap.size bD ∧ OD bE cN cL ∧ Sub bE w' ∧ Fresh w.heap.size bE ∧ Dj bD bE := by
 obtain ⟨a, c, rfl⟩ := r.shape
 obtain ⟨aZ, a0, rfl⟩ := cB.shape
 obtain ⟨a1, a2, rfl⟩ := cE.shape
 obtain ⟨a3, a4, rfl⟩ := cH.shape
 obtain ⟨aC, aD, rfl⟩ := a9.shape
 refine enter (args := [.agg #[sl a t.Rows c, sl aZ t.Cols a0, sl a1 t.Lo a2, sl a3 t.Hi a4], sl aC x aD]) 51 Try.func58 rfl rfl rfl ?_
 refine Wo [(0, .agg #[sl a t.Rows c, sl aZ t.Cols a0, sl a1 t.Lo a2, sl a3 t.Hi a4]), (1, sl aC x aD)] ⟨rfl, rfl, trivial⟩ fun ρ => ?_
 have X := Br emp w
 refine Wq (Wg (Ly 0 (cs := [sl a t.Rows c, sl aZ t.Cols a0, sl a1 t.Lo a2, sl a3 t.Hi a4]) rfl rfl rfl rfl rfl fun b wx aU bS f => (Lv ok 1 [(4, .slice none 0 0), (5, .slice none 0 0)] 3 rfl rfl (Ln _ rfl (Wq (Wg (Lv ok 0 [(11, sl aC x aD)] 1 rfl rfl ?_)))))))
 have bT := (dW.ext aU)
 refine Lc 1 rfl rfl rfl cal_79 rfl (impl_copyMatrix_w _ _ H wx a9 bT) ?_
 rintro _ dX ⟨aE, fI, bU, H, rfl, aL, o, cO, aV, cn⟩
 obtain ⟨aG, aH, rfl⟩ := o.shape
 refine Lv ok 2 [(13, sl aC x aD)] 3 rfl rfl ?_
 have bF := (bT.ext aL)
 refine Lc 3 rfl rfl rfl cal_79 rfl (impl_copyMatrix_w _ _ H dX a9 bF) ?_
 rintro _ bG ⟨aF, fJ, bV, H, rfl, aK, cP, dY, aN, dZ⟩
 obtain ⟨aI, aJ, rfl⟩ := cP.shape
 refine Lv ok 4 [(6, sl aG aE aH), (7, sl aI aF aJ)] 6 rfl rfl (Ln _ rfl (Wq (Wq (Wg (Lv ok 0 [(15, sl aC x aD), (16, I (ln x)), (17, I 0)] 3 rfl rfl (Ln _ rfl (W_block ?_)))))))
 obtain ⟨U, hU⟩ : ∃ U : PH, U = (un bU bV) := ⟨_, rfl⟩
 have D : Dom U bU := Dom.eqv hU (Dom.l _ _)
 have D61 : Dom U bV := Dom.eqv hU (Ot (Dom.r _ _) (Or _))
 have dj := (Df cO aN).symm
 obtain ⟨J, m, Hx, H⟩ := H
 refine W_loop (S := (List (List Int)) × (List (List Int)) × Int) (fun s ρ' w' => J s.1 s.2.1 s.2.2 ∧ ∃ (ρ : Env) (aO : PH) (aP : PH), ρ' = setAll [(1, sl aC x aD), (2, pb b), (6, sl aG aE aH), (7, sl aI aF aJ), (15, sl aC x aD), (16, I (ln x)), (17, I s.2.2)] ρ ∧ But U bG w' ∧ OD aO (sl aG aE aH) s.1 ∧ Sub aO w' ∧ DomLe U bG.heap.size aO ∧ OD aP (sl aI aF aJ) s.2.1 ∧ Sub aP w' ∧ DomLe U bG.heap.size aP ∧ Dj aP aO ∧ CanV (sl aG aE aH) s.1 ∧ CanV (sl aI aF aJ) s.2.1) (fun s => m s.1 s.2.1 s.2.2) (aE, aF, 0) ⟨Hx, _, bU, bV, Ee ⟨rfl, rfl, rfl, rfl, rfl, rfl, rfl, trivial⟩, (Br _ _), o, (cO.ext aK), (Oe D _), cP, dY, (Oe D61 _), dj, cn, dZ⟩ ?_
 rintro ⟨lo, hi, aA⟩ _ bA ⟨Hi, ρ, aO, aP, rfl, HF⟩
 revert HF
 refine bb9 fun X64 cQ cR aQ cS cT aR d => ?_
 refine bb2 fun d0 d1 => ?_
 have H := H lo hi aA Hi
 refine Wq (Wg (Lv ok 0 [(18, .bool (decide (aA < (ln x))))] 1 rfl rfl (Ln _ rfl (Wq ?_))))
 refine Wc (decide (aA < (ln x))) rfl (fun hc => ?_) (fun hc => ?_)
 ·have H := H.1 hc
  refine Wk (Wq (W_block (Wq (Wg (Lv ok 0 [(19, I aA)] 1 rfl rfl ?_)))))
  obtain ⟨aW, d2, d3, H⟩ := H
  refine Li 1 rfl rfl rfl Try.underlying23 ti_22 rfl rfl a9 d2 d3 fun fK cs d4 d5 => ?_
  have d6 := (Df bT aV).symm
  have d7 := (Df bF aN).symm
  have bW := (Dl d6 d7)
  have cU := ((bF.ext aK).but X64 (Dj.eqv hU bW))
  refine Lo 2 rfl rfl rfl ti_22 ag_22 rfl d4 d5 cU fun fL d8 => ?_
  have d9 := d8.slice
  obtain ⟨cV, cW, rfl⟩ := d9.shape
  refine Lv ok 3 [(8, I aA), (9, sl cV aW cW)] 5 rfl rfl (Ln _ rfl (Wq (Wg (Lv ok 0 [(22, sl cV aW cW), (23, I (ln aW)), (24, I 0)] 3 rfl rfl (Ln _ rfl (W_block ?_))))))
  obtain ⟨U95, hU96⟩ : ∃ U : PH, U = (un aO aP) := ⟨_, rfl⟩
  have D97 : Dom U95 aO := Dom.eqv hU96 (Dom.l _ _)
  have D98 : Dom U95 aP := Dom.eqv hU96 (Ot (Dom.r _ _) (Or _))
  obtain ⟨J103, eA, Hx105, H⟩ := H
  refine W_loop (S := (List (List Int)) × (List (List Int)) × Int) (fun s ρ' w' => J103 s.1 s.2.1 s.2.2 ∧ ∃ (ρ : Env) (aX : PH) (aY : PH), ρ' = setAll [(1, sl aC x aD), (2, pb b), (6, sl aG aE aH), (7, sl aI aF aJ), (8, I aA), (15, sl aC x aD), (16, I (ln x)), (17, I aA), (23, I (ln aW)), (24, I s.2.2)] ρ ∧ But U95 bA w' ∧ OD aX (sl aG aE aH) s.1 ∧ Sub aX w' ∧ DomLe U95 bA.heap.size aX ∧ OD aY (sl aI aF aJ) s.2.1 ∧ Sub aY w' ∧ DomLe U95 bA.heap.size aY ∧ Dj aY aX ∧ CanV (sl aG aE aH) s.1 ∧ CanV (sl aI aF aJ) s.2.1) (fun s => eA s.1 s.2.1 s.2.2) (lo, hi, 0) ⟨Hx105, _, aO, aP, Ee ⟨rfl, rfl, rfl, rfl, rfl, rfl, rfl, rfl, rfl, rfl, trivial⟩, (Br _ _), cQ, cR, (Oe D97 _), cS, cT, (Oe D98 _), d, d0, d1⟩ ?_
  rintro ⟨bX, bY, aB⟩ _ fM ⟨Hi, ρ, aX, aY, rfl, HF⟩
  revert HF
  refine bb9 fun X102 cX cY cZ c0 c1 c2 bB => ?_
  refine bb2 fun c3 c4 => ?_
  have H := H bX bY aB Hi
  refine Wq (Wg (Lv ok 0 [(25, .bool (decide (aB < (ln aW))))] 1 rfl rfl (Ln _ rfl (Wq ?_))))
  refine Wc (decide (aB < (ln aW))) rfl (fun bZ => ?_) (fun bZ => ?_)
  ·have H := H.1 bZ
   refine Wk (Wq (W_block (Wq (Wg (Lv ok 0 [(26, I aB), (10, I aB)] 2 rfl rfl (Ln _ rfl ?_))))))
   refine W_open mix fun fN aM => ?_
   refine AP_game 20 [[], [], [0, 1], [0, 1, 2], [], [], [], [5, 6], [5, 6, 7], [], [], [], [], [], [10, 11, 12, 13], [10, 11, 12, 13, 14], [10, 11, 12, 13, 14, 15], [10, 11, 12, 13, 14, 15], [0, 1, 2, 3, 4, 5, 6, 7, 8, 10, 11, 12, 13, 14, 15, 16], [0, 1, 2, 3, 4, 5, 6, 7, 8, 10, 11, 12, 13, 14, 15, 16, 18], [0, 1, 2, 3, 4, 5, 6, 7, 8, 9, 10, 11, 12, 13, 14, 15, 16, 17, 18, 19], [0, 1, 2, 3, 4, 5, 6, 7, 8, 9, 10, 11, 12, 13, 14, 15, 16, 17, 18, 19, 20]] [[(6, none)], [(8, none)], [(28, some 0), (29, some 1)], [(30, some 2)], [(10, none)], [(7, none)], [(8, none)], [(33, some 5), (34, some 6)], [(35, some 7)], [(10, none)], [(2, none)], [(1, none)], [(8, none)], [(10, none)], [(38, some 10), (39, some 11), (40, some 12), (41, some 13)], [(42, some 14)], [(27, some 15)], [(27, some 15)], [(31, some 3), (32, some 4)], [(43, some 16), (45, some 18)]] [(1, none), (2, none), (6, none), (7, none), (8, none), (15, none), (16, none), (17, none), (23, none), (24, none), (36, some 8), (37, some 9), (44, some 17)] [(0, false), (1, false), (2, false), (3, false), (4, false), (5, false), (6, false), (7, false), (8, false), (9, false), (10, false), (11, false), (12, false), (13, false), (14, false), (15, false), (16, false), (17, false), (18, true), (19, true)] (by kernel_rfl) (by kernel_rfl) ?_
   refine GS_ev ok [(6, sl aG aE aH)] (sl aG aE aH) rfl rfl (fun _ h => h) (fun _ => rfl) ?_
   refine GS_ev ok [(8, I aA)] (I aA) rfl rfl (fun _ h => h) (fun _ => rfl) ?_
   obtain ⟨a5, eB, eC, H⟩ := H
   obtain ⟨c5, u, eD, rest, eE, eF, bw⟩ := run_indexb Try.underlying23 ti_22 cX _ eB eC
   refine GS_r0 [(28, sl aG aE aH), (29, I aA)] (.pointer (some c5)) rfl rfl (fun _ h => h) (fun _ _ => ex_index rfl rfl rfl (eE _)) ?_
   have c6 := bw.od
   obtain ⟨bH, bI, rfl⟩ := c6.shape
   have b0 := (cY.ext aM)
   have eG := Sub.le b0 bw.le
   have eH : OS 3 eD emp (sl bH a5 bI) a5 := OD.flat c6
   refine GS_r1 [(30, .pointer (some c5))] (sl bH a5 bI) rfl rfl (fun _ h => h) (fun _ w e => ex_ldcell rfl ti_22 ag_22 rfl eF e) b0 ?_
   refine GS_ev ok [(10, I aB)] (I aB) rfl rfl (fun _ h => h) (fun _ => rfl) ?_
   refine GS_ev ok [(7, sl aI aF aJ)] (sl aI aF aJ) rfl rfl (fun _ h => h) (fun _ => rfl) ?_
   refine GS_ev ok [(8, I aA)] (I aA) rfl rfl (fun _ h => h) (fun _ => rfl) ?_
   obtain ⟨a6, eI, eJ, H⟩ := H
   obtain ⟨c7, fO, eK, eL, eM, eN, a7⟩ := run_indexb Try.underlying23 ti_22 c0 _ eI eJ
   refine GS_r0 [(33, sl aI aF aJ), (34, I aA)] (.pointer (some c7)) rfl rfl (fun _ h => h) (fun _ _ => ex_index rfl rfl rfl (eM _)) ?_
   have c8 := a7.od
   obtain ⟨bJ, bK, rfl⟩ := c8.shape
   have bL := (c1.ext aM)
   have eO := Sub.le bL a7.le
   have eP : OS 3 eK emp (sl bJ a6 bK) a6 := OD.flat c8
   refine GS_r1 [(35, .pointer (some c7))] (sl bJ a6 bK) rfl rfl (fun _ h => h) (fun _ w e => ex_ldcell rfl ti_22 ag_22 rfl eN e) bL ?_
   refine GS_ev ok [(10, I aB)] (I aB) rfl rfl (fun _ h => h) (fun _ => rfl) ?_
   have eQ := (Df bS aV).symm
   have c9 := (bS.ext aL)
   have eR := (Df c9 aN).symm
   have b1 := (Dl eQ eR)
   have dA := (c9.ext aK)
   refine GS_r1 [(2, pb b)] (.agg #[sl a t.Rows c, sl aZ t.Cols a0, sl a1 t.Lo a2, sl a3 t.Hi a4]) rfl rfl (fun _ h => h) (fun _ w e => ex_ldbox rfl ti_29 ag_29 (fun h => by cases h) rfl e rfl rfl) ((((bS.ext (aL.trans aK)).but X64 (Dj.eqv hU b1)).but X102 (Dj.eqv hU96 (Dl (Mj aQ (Dj.eqv hU b1) dA) (Mj aR (Dj.eqv hU b1) dA)))).ext aM) ?_
   refine GS_ev ok [(1, sl aC x aD)] (sl aC x aD) rfl rfl (fun _ h => h) (fun _ => rfl) ?_
   refine GS_ev ok [(8, I aA)] (I aA) rfl rfl (fun _ h => h) (fun _ => rfl) ?_
   refine GS_ev ok [(10, I aB)] (I aB) rfl rfl (fun _ h => h) (fun _ => rfl) ?_
   obtain ⟨aS, aT, Hd, H⟩ := H
   have bM := ((aU.trans aL).trans aK)
   have dB := (ex.ext aU)
   have eS := (Df dB aV).symm
   have dC := (dB.ext aL)
   have eT := (Df dC aN).symm
   have b2 := (Dl eS eT)
   have dD := (dC.ext aK)
   have dE := (cC.ext aU)
   have eU := (Df dE aV).symm
   have dF := (dE.ext aL)
   have eV := (Df dF aN).symm
   have b3 := (Dl eU eV)
   have dG := (dF.ext aK)
   have dH := (cF.ext aU)
   have eW := (Df dH aV).symm
   have dI := (dH.ext aL)
   have eX := (Df dI aN).symm
   have b4 := (Dl eW eX)
   have dJ := (dI.ext aK)
   have dK := (cI.ext aU)
   have eY := (Df dK aV).symm
   have dL := (dK.ext aL)
   have eZ := (Df dL aN).symm
   have b5 := (Dl eY eZ)
   have dM := (dL.ext aK)
   have dN := (bF.ext aK)
   refine GS_q [(38, .agg #[sl a t.Rows c, sl aZ t.Cols a0, sl a1 t.Lo a2, sl a3 t.Hi a4]), (39, sl aC x aD), (40, I aA), (41, I aB)] (.tuple #[I aS, I aT]) [hx, bO, bP, bQ, bR] [.agg #[sl a t.Rows c, sl aZ t.Cols a0, sl a1 t.Lo a2, sl a3 t.Hi a4], sl aC x aD, I aA, I aB] rfl rfl (fun _ h => h) rfl cal_55 (fun _ => rfl) (fun w e => (impl_rangeOf_w _ _ _ _ _ Hd w r e.1 cB e.2.1 cE e.2.2.1 cH e.2.2.2.1 a9 e.2.2.2.2.1).mono (fun _ _ h => by obtain ⟨_, _, ⟨rfl, rfl⟩, rfl, x⟩ := h; exact ⟨rfl, x⟩)) ⟨((((ex.ext bM).but X64 (Dj.eqv hU b2)).but X102 (Dj.eqv hU96 (Dl (Mj aQ (Dj.eqv hU b2) dD) (Mj aR (Dj.eqv hU b2) dD)))).ext aM), ((((cC.ext bM).but X64 (Dj.eqv hU b3)).but X102 (Dj.eqv hU96 (Dl (Mj aQ (Dj.eqv hU b3) dG) (Mj aR (Dj.eqv hU b3) dG)))).ext aM), ((((cF.ext bM).but X64 (Dj.eqv hU b4)).but X102 (Dj.eqv hU96 (Dl (Mj aQ (Dj.eqv hU b4) dJ) (Mj aR (Dj.eqv hU b4) dJ)))).ext aM), ((((cI.ext bM).but X64 (Dj.eqv hU b5)).but X102 (Dj.eqv hU96 (Dl (Mj aQ (Dj.eqv hU b5) dM) (Mj aR (Dj.eqv hU b5) dM)))).ext aM), ((cU.but X102 (Dj.eqv hU96 (Dl (Mj aQ (Dj.eqv hU bW) dN) (Mj aR (Dj.eqv hU bW) dN)))).ext aM), trivial⟩ ?_
   refine GS_ev ok [(42, .tuple #[I aS, I aT])] (.tuple #[I aS, I aT]) rfl rfl (fun _ h => h) (fun _ => rfl) ?_
   refine GS_ev ok [(27, .tuple #[I aS, I aT])] (I aS) rfl rfl (fun _ h => h) (fun _ => rfl) ?_
   refine GS_ev ok [(27, .tuple #[I aS, I aT])] (I aT) rfl rfl (fun _ h => h) (fun _ => rfl) ?_
   refine GS_lp [(31, sl bH a5 bI), (32, I aB)] rfl rfl (fun _ h => h) rfl fun ρ fP dO => ?_
   obtain ⟨e0, hl, H⟩ := H
   refine LP_indexw (v := sl bH a5 bI) 0 rfl rfl rfl Try.underlying22 ti_3 rfl rfl eH e0 hl fun e1 wa => ?_
   refine LP_gs ⟨⟨.inl rfl, .inl rfl, .inl rfl, .inl rfl, .inl rfl, .inl rfl, .inl rfl, .inl rfl, trivial⟩, ?_⟩
   refine GS_lp [(43, I aS), (45, .pointer (some e1))] rfl rfl (fun _ h => h) rfl fun ρ fQ dP => ?_
   have bC := (dO.trans dP)
   refine LP_set 0 rfl rfl rfl rfl rfl wa (Le.refl emp) ⟨_, rfl, rfl⟩ (eG.ext bC) fun e2 fR e3 e4 y dm => ?_
   obtain ⟨fS, e5, dd⟩ := BwL.turn bw (OS.od e3) (Dom.of dm)
   have dQ := BwL.sub bw (b0.ext bC) e4 y
   have bN := BwL.but bw y
   refine LP_gs ⟨⟨.inl rfl, .inl rfl, .inl rfl, .inl rfl, .inl rfl, .inl rfl, .inl rfl, .inl rfl, trivial⟩, ?_⟩
   intro fT a8 ρ hn
   refine AP_forget [(1, sl aC x aD), (2, pb b), (6, sl aG aE aH), (7, sl aI aF aJ), (8, I aA), (15, sl aC x aD), (16, I (ln x)), (17, I aA), (23, I (ln aW)), (24, I aB), (36, sl bJ a6 bK), (37, I aB), (44, I aT)] (by exact hn) fun ρ => ?_
   refine AP_tail 20 [[], [], [0, 1], [0, 1, 2], [], [], [], [5, 6], [5, 6, 7], [], [], [], [], [], [10, 11, 12, 13], [10, 11, 12, 13, 14], [10, 11, 12, 13, 14, 15], [10, 11, 12, 13, 14, 15], [0, 1, 2, 3, 4, 5, 6, 7, 8, 10, 11, 12, 13, 14, 15, 16], [0, 1, 2, 3, 4, 5, 6, 7, 8, 10, 11, 12, 13, 14, 15, 16, 18], [0, 1, 2, 3, 4, 5, 6, 7, 8, 9, 10, 11, 12, 13, 14, 15, 16, 17, 18, 19], [0, 1, 2, 3, 4, 5, 6, 7, 8, 9, 10, 11, 12, 13, 14, 15, 16, 17, 18, 19, 20]] (by kernel_rfl) ?_
   obtain ⟨e6, e7, H⟩ := H
   refine LP_indexw (v := sl bJ a6 bK) 20 rfl rfl rfl Try.underlying22 ti_3 rfl rfl eP e6 e7 fun fU e8 => ?_
   have e9 := (Dom.dj a7.dom bB).symm
   refine LP_set 21 rfl rfl rfl rfl rfl e8 (Le.refl emp) ⟨_, rfl, rfl⟩ (((eO.ext bC).but bN e9).ext a8) fun fA fV fB fC dR fD => ?_
   obtain ⟨fW, fE, dS⟩ := BwL.turn a7 (OS.od fB) (Dom.of fD)
   have fF := BwL.sub a7 (((bL.ext bC).but bN bB.symm).ext a8) fC dR
   have dT := BwL.but a7 dR
   refine Ln _ rfl (Wg (Lv ok 0 [(47, I (wr (aB + 1))), (24, I (wr (aB + 1)))] 2 rfl rfl (Ln _ rfl ?_)))
   have b6 := ((aM.trans dO).trans dP)
   have dl : DomLe U95 bA.heap.size aX := (Mt (Oe (Or _) _) cZ (Nat.le_refl _))
   have dU : DomLe U95 bA.heap.size aY := (Mt (Oe (Or _) _) c2 (Nat.le_refl _))
   have dV := (bL.ext bC)
   exact ⟨(List.set bX (Int.toNat aA) (List.set a5 (Int.toNat aB) aS), List.set bY (Int.toNat aA) (List.set a6 (Int.toNat aB) aT), wr (aB + 1)), ⟨H.1, _, (un e2 rest), (un fA eL), Ee ⟨rfl, rfl, rfl, rfl, rfl, rfl, rfl, rfl, rfl, rfl, trivial⟩, ((((((Br U95 _).step X102 (Oe (Or _) _)).stepx b6).step bN dl).stepx a8).step dT dU), e5, ((dQ.ext a8).but dT (Mj ((fun n => Oe dd n) _) bB.symm dV).symm), (Mt dl ((fun n => Oe dd n) _) (Nat.le_trans X102.size b6.size)), fE, fF, (Mt dU ((fun n => Oe dS n) _) (Nat.le_trans (Nat.le_trans (Nat.le_trans X102.size b6.size) bN.size) a8.size)), (Mj ((fun n => Oe dS n) _) (Mj ((fun n => Oe dd n) _) bB.symm dV).symm (dQ.ext a8)), (CanV.len (by simp) c3), (CanV.len (by simp) c4)⟩, H.2⟩
  have H := H.2 bZ
  refine W_exit ?_
  refine (if_pos rfl).mpr ?_
  refine Wg (Lv ok 0 [(48, I (wr (aA + 1))), (17, I (wr (aA + 1)))] 2 rfl rfl (Ln _ rfl ?_))
  have b7 : DomLe U bG.heap.size U95 := (DomLe.eqv hU96 (Mu (Mt (Oe (Or _) _) aQ (Nat.le_refl _)) (Mt (Oe (Or _) _) aR (Nat.le_refl _))))
  exact ⟨(bX, bY, wr (aA + 1)), ⟨H.1, _, aX, aY, Ee ⟨rfl, rfl, rfl, rfl, rfl, rfl, rfl, trivial⟩, (((Br U _).step X64 (Oe (Or _) _)).step X102 b7), cX, cY, (Mt b7 cZ X64.size), c0, c1, (Mt b7 c2 X64.size), bB, c3, c4⟩, H.2⟩
 have H := H.2 hc
 refine W_exit ?_
 refine (if_pos rfl).mpr ?_
 refine Wq (Wg (Lv ok 0 [(49, sl aG aE aH), (50, sl aI aF aJ), (4, sl aG aE aH), (5, sl aI aF aJ)] 4 rfl rfl (Ln _ rfl (W_ret ?_))))
 have X245 := (X.stepx aU)
 have b8 := aV.mono X245.size
 have X247 := (X245.stepx aL)
 have b9 := aN.mono X247.size
 have X249 := (X247.stepx aK)
 have fG := DomLe.fresh aQ (Fresh.eqv hU (Fresh.un b8 b9)) X249.size
 have fH := DomLe.fresh aR (Fresh.eqv hU (Fresh.un b8 b9)) X249.size
 exact ⟨_, Ret_of [sl aG aE aH, sl aI aF aJ] ⟨⟨rfl, rfl⟩, ⟨rfl, rfl⟩, trivial⟩, _, _, _, _, _, _, H, rfl, (X249.step X64 (DomLe.eqv hU (Mu (b8.dom _) (b9.dom _)))).ext, cQ, cR, fG, cS, cT, fH, d.symm⟩

theorem impl_AllRanges_w (t : Transport) (Q : (List (List Int)) → (List (List Int)) → Bool → Prop) (H : impl_AllRanges t Q) (w : World) {vx : Value} {hx : PH} (r : RS hx vx t.Rows) (ex : Sub hx w) {aX : Value} {aY : PH} (aO : RS aY aX t.Cols) (bL : Sub aY w) {aZ : Value} {a0 : PH} (aP : RS a0 aZ t.Lo) (bM : Sub a0 w) {a1 : Value} {a2 : PH} (aQ : RS a2 a1 t.Hi) (bN : Sub a2 w) :
  CallsTo Try.prog 26 #[.agg #[vx, aX, aZ, a1]] w fun v w' => ∃ a3 a4 a5 a6 aR a7 aS, Q a3 a4 a5 ∧ v = .tuple #[a6, a7, .bool a5] ∧ Ext w w' ∧ OD aR a6 a3 ∧ Sub aR w' ∧ Fresh w.heap.size aR ∧ OD aS a7 a4 ∧ Sub aS w' ∧ Fresh w.heap.size aS ∧ Dj aR aS := by
 obtain ⟨a, c, rfl⟩ := r.shape
 obtain ⟨aI, aJ, rfl⟩ := aO.shape
 obtain ⟨aK, aL, rfl⟩ := aP.shape
 obtain ⟨aM, aN, rfl⟩ := aQ.shape
 refine enter (args := [.agg #[sl a t.Rows c, sl aI t.Cols aJ, sl aK t.Lo aL, sl aM t.Hi aN]]) 23 Try.func26 rfl rfl rfl ?_
 refine Wo [(0, .agg #[sl a t.Rows c, sl aI t.Cols aJ, sl aK t.Lo aL, sl aM t.Hi aN])] ⟨rfl, trivial⟩ fun ρ => ?_
 have X := Br emp w
 refine Wq (Wg (Ly 0 (cs := [sl a t.Rows c, sl aI t.Cols aJ, sl aK t.Lo aL, sl aM t.Hi aN]) rfl rfl rfl rfl rfl fun b wx x a8 f => (Lv ok 1 [(2, .slice none 0 0), (3, .slice none 0 0), (4, .bool false)] 4 rfl rfl (Ln _ rfl (Wq (Wq (Wg (Lb 0 (v := .agg #[sl a t.Rows c, sl aI t.Cols aJ, sl aK t.Lo aL, sl aM t.Hi aN]) rfl rfl rfl ti_29 ag_29 (fun h => by cases h) rfl a8 rfl rfl ?_))))))))
 have a9 := (ex.ext x)
 have bA := (bL.ext x)
 have bB := (bM.ext x)
 have bC := (bN.ext x)
 refine Lc 1 rfl rfl rfl cal_36 rfl (impl_IsTransport_w _ _ H wx r a9 aO bA aP bB aQ bC) ?_
 rintro _ bO ⟨bD, H, rfl, aA⟩
 refine Lv ok 2 [(10, .bool (!bD))] 3 rfl rfl (Ln _ rfl ?_)
 refine Wc (!bD) rfl (fun hc => ?_) (fun hc => ?_)
 ·have H := H.1 hc
  refine Wq (Wg (Lv ok 0 [(2, .slice none 0 0), (3, .slice none 0 0), (4, .bool false)] 3 rfl rfl (Ln _ rfl (W_ret ?_))))
  exact ⟨_, Ret_of [.slice none 0 0, .slice none 0 0, .bool false] ⟨⟨rfl, rfl⟩, ⟨rfl, rfl⟩, ⟨rfl, rfl⟩, trivial⟩, _, _, _, _, emp, _, emp, H, rfl, (X.stepx (x.trans aA)).ext, OD.nil, (emp_sub _), (emp_fresh _), OD.nil, (emp_sub _), (emp_fresh _), (Dj.emp_l _)⟩
 have H := H.2 hc
 refine Wk (Wq (Wg ?_))
 have bE := (a8.ext aA)
 refine Lb 0 (v := .agg #[sl a t.Rows c, sl aI t.Cols aJ, sl aK t.Lo aL, sl aM t.Hi aN]) rfl rfl rfl ti_29 ag_29 (fun h => by cases h) rfl bE rfl rfl ?_
 have bF := (a9.ext aA)
 have bG := (bA.ext aA)
 have bH := (bB.ext aA)
 have bI := (bC.ext aA)
 refine Lc 1 rfl rfl rfl cal_54 rfl (impl_anyFlow_w _ _ H bO r bF aO bG aP bH aQ bI) ?_
 rintro _ bP ⟨aT, bY, bZ, H, rfl, aB, o, bQ, b0, cn⟩
 obtain ⟨aU, aV, rfl⟩ := o.shape
 refine Lv ok 2 [(5, sl aU aT aV)] 3 rfl rfl (Ln _ rfl (Wq (Wq (Wg (Lv ok 0 [(13, sl aU aT aV)] 1 rfl rfl (LP_val 1 _ rfl rfl (ex_eqnilc rfl Try.underlying23 rfl rfl (cn _ _ _ rfl) _) (Ln _ rfl ?_)))))))
 refine Wc (ln aT == 0) rfl (fun aW => ?_) (fun aW => ?_)
 ·have H := H.1 aW
  refine Wq (Wg (Lv ok 0 [(2, .slice none 0 0), (3, .slice none 0 0), (4, .bool false)] 3 rfl rfl (Ln _ rfl (W_ret ?_))))
  exact ⟨_, Ret_of [.slice none 0 0, .slice none 0 0, .bool false] ⟨⟨rfl, rfl⟩, ⟨rfl, rfl⟩, ⟨rfl, rfl⟩, trivial⟩, _, _, _, _, emp, _, emp, H, rfl, (X.stepx ((x.trans aA).trans aB)).ext, OD.nil, (emp_sub _), (emp_fresh _), OD.nil, (emp_sub _), (emp_fresh _), (Dj.emp_l _)⟩
 have H := H.2 aW
 refine Wk (Wq (Wg (Lb 0 (v := .agg #[sl a t.Rows c, sl aI t.Cols aJ, sl aK t.Lo aL, sl aM t.Hi aN]) rfl rfl rfl ti_29 ag_29 (fun h => by cases h) rfl (bE.ext aB) rfl rfl (Lv ok 1 [(17, sl aU aT aV)] 2 rfl rfl (Lc 2 rfl rfl rfl cal_58 rfl (impl_allRanges_w _ _ _ H bP r (bF.ext aB) aO (bG.ext aB) aP (bH.ext aB) aQ (bI.ext aB) o.readf bQ) ?_)))))
 rintro _ b1 ⟨aC, aD, b2, b3, b4, b5, H, rfl, bR, HF⟩
 revert HF
 refine bb7 fun bJ bS bT bK bU bV d => ?_
 obtain ⟨aE, aF, rfl⟩ := bJ.shape
 obtain ⟨aG, aH, rfl⟩ := bK.shape
 refine Lv ok 3 [(15, .tuple #[sl aE aC aF, sl aG aD aH]), (19, sl aE aC aF), (20, sl aG aD aH), (6, sl aE aC aF), (7, sl aG aD aH)] 8 rfl rfl (Ln _ rfl (Wq (Wg (Lv ok 0 [(21, sl aE aC aF), (22, sl aG aD aH), (2, sl aE aC aF), (3, sl aG aD aH), (4, .bool true)] 5 rfl rfl (Ln _ rfl ?_)))))
 try refine Wo [(2, sl aE aC aF), (3, sl aG aD aH), (4, .bool true)] ⟨rfl, rfl, rfl, trivial⟩ fun ρ => ?_
 refine W_ret ?_
 have X70 := (X.stepx ((x.trans aA).trans aB))
 have bW := bT.mono X70.size
 have bX := bV.mono X70.size
 exact ⟨_, Ret_of [sl aE aC aF, sl aG aD aH, .bool true] ⟨⟨rfl, rfl⟩, ⟨rfl, rfl⟩, ⟨rfl, rfl⟩, trivial⟩, _, _, _, _, _, _, _, H, rfl, (X70.stepx bR).ext, bJ, bS, bW, bK, bU, bX, d⟩

theorem spec_AllRanges_w (t : Transport) (Q : (List (List Int)) → (List (List Int)) → Bool → Prop) (H : spec_AllRanges t Q) (w : World) {vx : Value} {hx : PH} (r : RS hx vx t.Rows) (ex : Sub hx w) {cX : Value} {bI : PH} (bB : RS bI cX t.Cols) (eG : Sub bI w) {cY : Value} {bJ : PH} (a2 : RS bJ cY t.Lo) (eH : Sub bJ w) {cZ : Value} {bK : PH} (a3 : RS bK cZ t.Hi) (eI : Sub bK w) :
  CallsTo Try.prog 27 #[.agg #[vx, cX, cY, cZ]] w fun v w' => ∃ c0 c1 c2 c3 bL c4 bM, Q c0 c1 c2 ∧ v = .tuple #[c3, c4, .bool c2] ∧ Ext w w' ∧ OD bL c3 c0 ∧ Sub bL w' ∧ Fresh w.heap.size bL ∧ OD bM c4 c1 ∧ Sub bM w' ∧ Fresh w.heap.size bM ∧ Dj bL bM := by
 obtain ⟨a, c, rfl⟩ := r.shape
 obtain ⟨aM, aN, rfl⟩ := bB.shape
 obtain ⟨aG, aH, rfl⟩ := a2.shape
 obtain ⟨aI, aJ, rfl⟩ := a3.shape
 refine enter (args := [.agg #[sl a t.Rows c, sl aM t.Cols aN, sl aG t.Lo aH, sl aI t.Hi aJ]]) 64 Try.func27 rfl rfl rfl ?_
 refine Wo [(0, .agg #[sl a t.Rows c, sl aM t.Cols aN, sl aG t.Lo aH, sl aI t.Hi aJ])] ⟨rfl, trivial⟩ fun ρ => ?_
 have X := Br emp w
 refine Wq (Wg (Ly 0 (cs := [sl a t.Rows c, sl aM t.Cols aN, sl aG t.Lo aH, sl aI t.Hi aJ]) rfl rfl rfl rfl rfl fun b wx x c5 f => (Lv ok 1 [(2, .slice none 0 0), (3, .slice none 0 0), (4, .bool false)] 4 rfl rfl (Ln _ rfl (Wq (Wq (Wg (Lb 0 (v := .agg #[sl a t.Rows c, sl aM t.Cols aN, sl aG t.Lo aH, sl aI t.Hi aJ]) rfl rfl rfl ti_29 ag_29 (fun h => by cases h) rfl c5 rfl rfl ?_))))))))
 have c6 := (ex.ext x)
 have c7 := (eG.ext x)
 have c8 := (eH.ext x)
 have c9 := (eI.ext x)
 refine Lc 1 rfl rfl rfl cal_32 rfl (spec_tGood_w _ _ H wx r c6 bB c7 a2 c8 a3 c9) ?_
 rintro _ eJ ⟨dA, H, rfl, aP⟩
 refine Lv ok 2 [(13, .bool (!dA))] 3 rfl rfl (Ln _ rfl ?_)
 refine Wc (!dA) rfl (fun hc => ?_) (fun hc => ?_)
 ·have H := H.1 hc
  refine Wq (Wg (Lv ok 0 [(2, .slice none 0 0), (3, .slice none 0 0), (4, .bool false)] 3 rfl rfl (Ln _ rfl (W_ret ?_))))
  exact ⟨_, Ret_of [.slice none 0 0, .slice none 0 0, .bool false] ⟨⟨rfl, rfl⟩, ⟨rfl, rfl⟩, ⟨rfl, rfl⟩, trivial⟩, _, _, _, _, emp, _, emp, H, rfl, (X.stepx (x.trans aP)).ext, OD.nil, (emp_sub _), (emp_fresh _), OD.nil, (emp_sub _), (emp_fresh _), (Dj.emp_l _)⟩
 have H := H.2 hc
 refine Wk (Wq (Wq (Wg ?_)))
 have dB := (c5.ext aP)
 refine Lb 0 (v := .agg #[sl a t.Rows c, sl aM t.Cols aN, sl aG t.Lo aH, sl aI t.Hi aJ]) rfl rfl rfl ti_29 ag_29 (fun h => by cases h) rfl dB rfl rfl ?_
 have b3 := (c6.ext aP)
 have b4 := (c7.ext aP)
 have dC := (c8.ext aP)
 have b5 := (c9.ext aP)
 refine Lc 1 rfl rfl rfl cal_33 rfl (spec_tFeasible_w _ _ H eJ r b3 bB b4 a2 dC a3 b5) ?_
 rintro _ f1 ⟨b6, a4, f2, f3, H, rfl, bN, o, f4, f5⟩
 obtain ⟨b7, b8, rfl⟩ := o.shape
 refine Lv ok 2 [(14, .tuple #[sl b7 b6 b8, .bool a4]), (17, sl b7 b6 b8), (18, .bool a4), (5, sl b7 b6 b8), (6, .bool a4)] 7 rfl rfl (Ln _ rfl (Wq (Wg (Lv ok 0 [(19, .bool a4), (20, .bool (!a4))] 2 rfl rfl (Ln _ rfl ?_)))))
 refine Wc (!a4) rfl (fun b9 => ?_) (fun b9 => ?_)
 ·have H := H.1 b9
  refine Wq (Wg (Lv ok 0 [(2, .slice none 0 0), (3, .slice none 0 0), (4, .bool false)] 3 rfl rfl (Ln _ rfl (W_ret ?_))))
  exact ⟨_, Ret_of [.slice none 0 0, .slice none 0 0, .bool false] ⟨⟨rfl, rfl⟩, ⟨rfl, rfl⟩, ⟨rfl, rfl⟩, trivial⟩, _, _, _, _, emp, _, emp, H, rfl, (X.stepx ((x.trans aP).trans bN)).ext, OD.nil, (emp_sub _), (emp_fresh _), OD.nil, (emp_sub _), (emp_fresh _), (Dj.emp_l _)⟩
 have H := H.2 b9
 refine Wk (Wq ?_)
 refine W_open mix fun f6 cA => ?_
 refine AP_game 5 [[], [0], [0, 1], [], [3], [0, 1, 2, 3, 4], [0, 1, 2, 3, 4, 5], [0, 1, 2, 3, 4, 5, 6]] [[(1, none)], [(21, some 0)], [(22, some 1)], [(1, none)], [(24, some 3)]] [(1, none), (23, some 2), (25, some 4)] [(0, false), (1, false), (3, false), (4, false), (2, true)] (by kernel_rfl) (by kernel_rfl) ?_
 refine GS_ev ok [(1, pb b)] (.pointer (some ⟨b, 2, none⟩)) rfl rfl (fun _ h => h) (fun _ => rfl) ?_
 have dD := (bN.trans cA)
 have bC := (dB.ext dD)
 refine GS_r1 [(21, .pointer (some ⟨b, 2, none⟩))] (sl aG t.Lo aH) rfl rfl (fun _ h => h) (fun _ w e => ex_ldbox rfl ti_23 ag_23 (fun _ => rfl) rfl e rfl rfl) bC ?_
 refine GS_ev ok [(1, pb b)] (.pointer (some ⟨b, 3, none⟩)) rfl rfl (fun _ h => h) (fun _ => rfl) ?_
 refine GS_r1 [(24, .pointer (some ⟨b, 3, none⟩))] (sl aI t.Hi aJ) rfl rfl (fun _ h => h) (fun _ w e => ex_ldbox rfl ti_23 ag_23 (fun _ => rfl) rfl e rfl rfl) bC ?_
 refine GS_lp [(22, sl aG t.Lo aH)] rfl rfl (fun _ h => h) rfl fun ρ eK a5 => ?_
 have bO := (dD.trans a5)
 have bP := (dC.ext bO)
 refine Lc 0 rfl rfl rfl cal_59 rfl (spec_tOwn_w _ _ H eK a2 bP) ?_
 rintro _ f7 ⟨aC, f8, cB, H, rfl, bD, dE, dF, a6⟩
 obtain ⟨aD, aE, rfl⟩ := dE.shape
 refine LP_gs ⟨⟨.inr (bC.ext (a5.trans bD)), .inl rfl, trivial⟩, ?_⟩
 intro eL a7 ρ hn
 refine AP_forget [(1, pb b), (23, sl aD aC aE), (25, sl aI t.Hi aJ)] (by exact hn) fun ρ => ?_
 refine AP_tail 5 [[], [0], [0, 1], [], [3], [0, 1, 2, 3, 4], [0, 1, 2, 3, 4, 5], [0, 1, 2, 3, 4, 5, 6]] (by kernel_rfl) ?_
 have dG := ((((bN.trans cA).trans a5).trans bD).trans a7)
 have bQ := (b5.ext dG)
 refine Lc 5 rfl rfl rfl cal_59 rfl (spec_tOwn_w _ _ H eL a3 bQ) ?_
 rintro _ bR ⟨aF, f9, cC, H, rfl, aO, dH, eM, aU⟩
 obtain ⟨aK, aL, rfl⟩ := dH.shape
 refine Lv ok 6 [(7, sl aD aC aE), (8, sl aK aF aL)] 8 rfl rfl (Ln _ rfl (Wq (Wq (Wg (Lv ok 0 [(27, sl aD aC aE), (28, I (ln aC)), (29, I 0)] 3 rfl rfl (Ln _ rfl (W_block ?_)))))))
 obtain ⟨U, hU⟩ : ∃ U : PH, U = (un cB cC) := ⟨_, rfl⟩
 have D : Dom U cB := Dom.eqv hU (Dom.l _ _)
 have D92 : Dom U cC := Dom.eqv hU (Ot (Dom.r _ _) (Or _))
 have dj := (Df (dF.ext a7) aU).symm
 obtain ⟨J, m, Hx, H⟩ := H
 refine W_loop (S := (List (List Int)) × (List (List Int)) × Int) (fun s ρ' w' => J s.1 s.2.1 s.2.2 ∧ ∃ (ρ : Env) (aQ : PH) (aR : PH), ρ' = setAll [(1, pb b), (7, sl aD aC aE), (8, sl aK aF aL), (28, I (ln aC)), (29, I s.2.2)] ρ ∧ But U bR w' ∧ OD aQ (sl aD aC aE) s.1 ∧ Sub aQ w' ∧ DomLe U bR.heap.size aQ ∧ OD aR (sl aK aF aL) s.2.1 ∧ Sub aR w' ∧ DomLe U bR.heap.size aR ∧ Dj aR aQ) (fun s => m s.1 s.2.1 s.2.2) (aC, aF, 0) ⟨Hx, _, cB, cC, Ee ⟨rfl, rfl, rfl, rfl, rfl, trivial⟩, (Br _ _), dE, (dF.ext (a7.trans aO)), (Oe D _), dH, eM, (Oe D92 _), dj⟩ ?_
 rintro ⟨lo, hi, aA⟩ _ bE ⟨Hi, ρ, aQ, aR, rfl, HF⟩
 revert HF
 refine bb8 fun X93 cD cE aV dI dJ aW d => ?_
 have H := H lo hi aA Hi
 refine Wq (Wg (Lv ok 0 [(30, .bool (decide (aA < (ln aC))))] 1 rfl rfl (Ln _ rfl (Wq ?_))))
 refine Wc (decide (aA < (ln aC))) rfl (fun cF => ?_) (fun cF => ?_)
 ·have H := H.1 cF
  refine Wk (Wq (W_block (Wq (Wg (Lv ok 0 [(31, I aA), (9, I aA)] 2 rfl rfl (Ln _ rfl (Wq (Wg (Lv ok 0 [(32, sl aD aC aE), (33, I aA)] 2 rfl rfl ?_)))))))))
  obtain ⟨a8, eN, eO, H⟩ := H
  refine Li 2 rfl rfl rfl Try.underlying23 ti_22 rfl rfl cD.readf eN eO fun gA cs eP eQ => (Lo 3 rfl rfl rfl ti_22 ag_22 rfl eP eQ cE fun gB eR => ?_)
  have eS := eR.slice
  obtain ⟨gC, gD, rfl⟩ := eS.shape
  refine Lv ok 4 [(36, I (ln a8)), (37, I 0)] 6 rfl rfl (Ln _ rfl (W_block ?_))
  obtain ⟨U123, hU124⟩ : ∃ U : PH, U = (un aQ aR) := ⟨_, rfl⟩
  have D125 : Dom U123 aQ := Dom.eqv hU124 (Dom.l _ _)
  have D126 : Dom U123 aR := Dom.eqv hU124 (Ot (Dom.r _ _) (Or _))
  obtain ⟨J129, eT, Hx131, H⟩ := H
  refine W_loop (S := (List (List Int)) × (List (List Int)) × Int) (fun s ρ' w' => J129 s.1 s.2.1 s.2.2 ∧ ∃ (ρ : Env) (aX : PH) (aY : PH), ρ' = setAll [(1, pb b), (7, sl aD aC aE), (8, sl aK aF aL), (9, I aA), (28, I (ln aC)), (29, I aA), (36, I (ln a8)), (37, I s.2.2)] ρ ∧ But U123 bE w' ∧ OD aX (sl aD aC aE) s.1 ∧ Sub aX w' ∧ DomLe U123 bE.heap.size aX ∧ OD aY (sl aK aF aL) s.2.1 ∧ Sub aY w' ∧ DomLe U123 bE.heap.size aY ∧ Dj aY aX) (fun s => eT s.1 s.2.1 s.2.2) (lo, hi, 0) ⟨Hx131, _, aQ, aR, Ee ⟨rfl, rfl, rfl, rfl, rfl, rfl, rfl, rfl, trivial⟩, (Br _ _), cD, cE, (Oe D125 _), dI, dJ, (Oe D126 _), d⟩ ?_
  rintro ⟨cG, cH, aB⟩ _ gE ⟨Hi, ρ, aX, aY, rfl, HF⟩
  revert HF
  refine bb8 fun X128 dK dL aZ dM cI dN bS => ?_
  have H := H cG cH aB Hi
  refine Wq (Wg (Lv ok 0 [(38, .bool (decide (aB < (ln a8))))] 1 rfl rfl (Ln _ rfl (Wq ?_))))
  refine Wc (decide (aB < (ln a8))) rfl (fun cJ => ?_) (fun cJ => ?_)
  ·have H := H.1 cJ
   refine Wk (Wq (W_block (Wq (Wg (Lv ok 0 [(39, I aB), (10, I aB)] 2 rfl rfl (Ln _ rfl (Wq ?_)))))))
   refine W_open mix fun gF a0 => ?_
   refine AP_game 9 [[], [], [0, 1], [0, 1, 2], [], [], [], [], [5, 6, 7], [0, 1, 2, 3, 4, 5, 6, 7, 8], [0, 1, 2, 3, 4, 5, 6, 7, 8, 9]] [[(7, none)], [(9, none)], [(40, some 0), (41, some 1)], [(42, some 2)], [(10, none)], [(1, none)], [(9, none)], [(10, none)], [(45, some 5), (46, some 6), (47, some 7)]] [(1, none), (7, none), (8, none), (9, none), (10, none), (28, none), (29, none), (36, none), (37, none), (43, some 3), (44, some 4), (48, some 8)] [(0, false), (1, false), (2, false), (3, false), (4, false), (5, false), (6, false), (7, false), (8, false)] (by kernel_rfl) (by kernel_rfl) ?_
   refine GS_ev ok [(7, sl aD aC aE)] (sl aD aC aE) rfl rfl (fun _ h => h) (fun _ => rfl) ?_
   refine GS_ev ok [(9, I aA)] (I aA) rfl rfl (fun _ h => h) (fun _ => rfl) ?_
   obtain ⟨a9, eU, eV, H⟩ := H
   obtain ⟨dO, u, eW, rest, eX, eY, bw⟩ := run_indexb Try.underlying23 ti_22 dK _ eU eV
   refine GS_r0 [(40, sl aD aC aE), (41, I aA)] (.pointer (some dO)) rfl rfl (fun _ h => h) (fun _ _ => ex_index rfl rfl rfl (eX _)) ?_
   have dP := bw.od
   obtain ⟨bT, bU, rfl⟩ := dP.shape
   have cK := (dL.ext a0)
   have eZ := Sub.le cK bw.le
   have e0 : OS 3 eW emp (sl bT a9 bU) a9 := OD.flat dP
   refine GS_r1 [(42, .pointer (some dO))] (sl bT a9 bU) rfl rfl (fun _ h => h) (fun _ w e => ex_ldcell rfl ti_22 ag_22 rfl eY e) cK ?_
   refine GS_ev ok [(10, I aB)] (I aB) rfl rfl (fun _ h => h) (fun _ => rfl) ?_
   have dQ := (bC.ext a5)
   have e1 := (Df dQ a6).symm
   have bF := (bD.trans a7)
   have dR := (dQ.ext bF)
   have e2 := (Df dR aU).symm
   have bV := (Dl e1 e2)
   have cL := (dR.ext aO)
   have dS := (Dl (Mj aV (Dj.eqv hU bV) cL) (Mj aW (Dj.eqv hU bV) cL))
   have dT := ((((bC.ext (((a5.trans bD).trans a7).trans aO)).but X93 (Dj.eqv hU bV)).but X128 (Dj.eqv hU124 dS)).ext a0)
   refine GS_r1 [(1, pb b)] (.agg #[sl a t.Rows c, sl aM t.Cols aN, sl aG t.Lo aH, sl aI t.Hi aJ]) rfl rfl (fun _ h => h) (fun _ w e => ex_ldbox rfl ti_29 ag_29 (fun h => by cases h) rfl e rfl rfl) dT ?_
   refine GS_ev ok [(9, I aA)] (I aA) rfl rfl (fun _ h => h) (fun _ => rfl) ?_
   refine GS_ev ok [(10, I aB)] (I aB) rfl rfl (fun _ h => h) (fun _ => rfl) ?_
   obtain ⟨cM, Hd, H⟩ := H
   have dU := (dG.trans aO)
   have dV := (b3.ext bO)
   have e3 := (Df dV a6).symm
   have dW := (dV.ext bF)
   have e4 := (Df dW aU).symm
   have bW := (Dl e3 e4)
   have cN := (dW.ext aO)
   have dX := (Dl (Mj aV (Dj.eqv hU bW) cN) (Mj aW (Dj.eqv hU bW) cN))
   have dY := ((((b3.ext dU).but X93 (Dj.eqv hU bW)).but X128 (Dj.eqv hU124 dX)).ext a0)
   have dZ := (b4.ext bO)
   have e5 := (Df dZ a6).symm
   have d0 := (dZ.ext bF)
   have e6 := (Df d0 aU).symm
   have bX := (Dl e5 e6)
   have cO := (d0.ext aO)
   have d1 := (Dl (Mj aV (Dj.eqv hU bX) cO) (Mj aW (Dj.eqv hU bX) cO))
   have d2 := ((((b4.ext dU).but X93 (Dj.eqv hU bX)).but X128 (Dj.eqv hU124 d1)).ext a0)
   have e7 := (Df bP a6).symm
   have d3 := (bP.ext bF)
   have e8 := (Df d3 aU).symm
   have bY := (Dl e7 e8)
   have cP := (d3.ext aO)
   have d4 := (Dl (Mj aV (Dj.eqv hU bY) cP) (Mj aW (Dj.eqv hU bY) cP))
   have d5 := ((((bP.ext (bF.trans aO)).but X93 (Dj.eqv hU bY)).but X128 (Dj.eqv hU124 d4)).ext a0)
   have e9 := (Df (b5.ext bO) a6).symm
   have fA := (Df bQ aU).symm
   have bZ := (Dl e9 fA)
   have cQ := (bQ.ext aO)
   have d6 := (Dl (Mj aV (Dj.eqv hU bZ) cQ) (Mj aW (Dj.eqv hU bZ) cQ))
   have d7 := ((((bQ.ext aO).but X93 (Dj.eqv hU bZ)).but X128 (Dj.eqv hU124 d6)).ext a0)
   refine GS_q [(45, .agg #[sl a t.Rows c, sl aM t.Cols aN, sl aG t.Lo aH, sl aI t.Hi aJ]), (46, I aA), (47, I aB)] (I cM) [hx, bI, bJ, bK] [.agg #[sl a t.Rows c, sl aM t.Cols aN, sl aG t.Lo aH, sl aI t.Hi aJ], I aA, I aB] rfl rfl (fun _ h => h) rfl cal_60 (fun _ => rfl) (fun w e => (spec_tLow_w _ _ _ _ Hd w r e.1 bB e.2.1 a2 e.2.2.1 a3 e.2.2.2.1).mono (fun _ _ h => by obtain ⟨_, rfl, rfl, x⟩ := h; exact ⟨rfl, x⟩)) ⟨dY, d2, d5, d7, trivial⟩ ?_
   intro gG aS ρ fB
   refine AP_forget [(1, pb b), (7, sl aD aC aE), (8, sl aK aF aL), (9, I aA), (10, I aB), (28, I (ln aC)), (29, I aA), (36, I (ln a8)), (37, I aB), (43, sl bT a9 bU), (44, I aB), (48, I cM)] (by exact fB) fun ρ => ?_
   refine AP_tail 9 [[], [], [0, 1], [0, 1, 2], [], [], [], [], [5, 6, 7], [0, 1, 2, 3, 4, 5, 6, 7, 8], [0, 1, 2, 3, 4, 5, 6, 7, 8, 9]] (by kernel_rfl) ?_
   obtain ⟨fC, hl, H⟩ := H
   refine LP_indexw (v := sl bT a9 bU) 9 rfl rfl rfl Try.underlying22 ti_3 rfl rfl e0 fC hl fun gH wa => (LP_set 10 rfl rfl rfl rfl rfl wa (Le.refl emp) ⟨_, rfl, rfl⟩ (eZ.ext aS) fun fD gI fE fF y dm => ?_)
   obtain ⟨gJ, fG, dd⟩ := BwL.turn bw (OS.od fE) (Dom.of dm)
   have d8 := BwL.sub bw (cK.ext aS) fF y
   have aT := BwL.but bw y
   refine Ln _ rfl ?_
   refine W_open mix fun gK a1 => ?_
   refine AP_game 9 [[], [], [0, 1], [0, 1, 2], [], [], [], [], [5, 6, 7], [0, 1, 2, 3, 4, 5, 6, 7, 8], [0, 1, 2, 3, 4, 5, 6, 7, 8, 9]] [[(8, none)], [(9, none)], [(50, some 0), (51, some 1)], [(52, some 2)], [(10, none)], [(1, none)], [(9, none)], [(10, none)], [(55, some 5), (56, some 6), (57, some 7)]] [(1, none), (7, none), (8, none), (9, none), (28, none), (29, none), (36, none), (37, none), (53, some 3), (54, some 4), (58, some 8)] [(0, false), (1, false), (2, false), (3, false), (4, false), (5, false), (6, false), (7, false), (8, false)] (by kernel_rfl) (by kernel_rfl) ?_
   refine GS_ev ok [(8, sl aK aF aL)] (sl aK aF aL) rfl rfl (fun _ h => h) (fun _ => rfl) ?_
   refine GS_ev ok [(9, I aA)] (I aA) rfl rfl (fun _ h => h) (fun _ => rfl) ?_
   obtain ⟨bA, fH, fI, H⟩ := H
   obtain ⟨d9, gL, fJ, fK, fL, fM, bG⟩ := run_indexb Try.underlying23 ti_22 dM _ fH fI
   refine GS_r0 [(50, sl aK aF aL), (51, I aA)] (.pointer (some d9)) rfl rfl (fun _ h => h) (fun _ _ => ex_index rfl rfl rfl (fL _)) ?_
   have eA := bG.od
   obtain ⟨b0, b1, rfl⟩ := eA.shape
   have bH := (a0.trans aS)
   have cR := (((cI.ext bH).but aT bS.symm).ext a1)
   have fN := Sub.le cR bG.le
   have fO : OS 3 fJ emp (sl b0 bA b1) bA := OD.flat eA
   refine GS_r1 [(52, .pointer (some d9))] (sl b0 bA b1) rfl rfl (fun _ h => h) (fun _ w e => ex_ldcell rfl ti_22 ag_22 rfl fM e) cR ?_
   refine GS_ev ok [(10, I aB)] (I aB) rfl rfl (fun _ h => h) (fun _ => rfl) ?_
   refine GS_r1 [(1, pb b)] (.agg #[sl a t.Rows c, sl aM t.Cols aN, sl aG t.Lo aH, sl aI t.Hi aJ]) rfl rfl (fun _ h => h) (fun _ w e => ex_ldbox rfl ti_29 ag_29 (fun h => by cases h) rfl e rfl rfl) (((dT.ext aS).but aT (Mj aZ (Dj.eqv hU124 dS) (cL.but X93 (Dj.eqv hU bV)))).ext a1) ?_
   refine GS_ev ok [(9, I aA)] (I aA) rfl rfl (fun _ h => h) (fun _ => rfl) ?_
   refine GS_ev ok [(10, I aB)] (I aB) rfl rfl (fun _ h => h) (fun _ => rfl) ?_
   obtain ⟨cS, Hd240, H⟩ := H
   refine GS_q [(55, .agg #[sl a t.Rows c, sl aM t.Cols aN, sl aG t.Lo aH, sl aI t.Hi aJ]), (56, I aA), (57, I aB)] (I cS) [hx, bI, bJ, bK] [.agg #[sl a t.Rows c, sl aM t.Cols aN, sl aG t.Lo aH, sl aI t.Hi aJ], I aA, I aB] rfl rfl (fun _ h => h) rfl cal_61 (fun _ => rfl) (fun w e => (spec_tHigh_w _ _ _ _ Hd240 w r e.1 bB e.2.1 a2 e.2.2.1 a3 e.2.2.2.1).mono (fun _ _ h => by obtain ⟨_, rfl, rfl, x⟩ := h; exact ⟨rfl, x⟩)) ⟨(((dY.ext aS).but aT (Mj aZ (Dj.eqv hU124 dX) (cN.but X93 (Dj.eqv hU bW)))).ext a1), (((d2.ext aS).but aT (Mj aZ (Dj.eqv hU124 d1) (cO.but X93 (Dj.eqv hU bX)))).ext a1), (((d5.ext aS).but aT (Mj aZ (Dj.eqv hU124 d4) (cP.but X93 (Dj.eqv hU bY)))).ext a1), (((d7.ext aS).but aT (Mj aZ (Dj.eqv hU124 d6) (cQ.but X93 (Dj.eqv hU bZ)))).ext a1), trivial⟩ ?_
   intro gM cT ρ fP
   refine AP_forget [(1, pb b), (7, sl aD aC aE), (8, sl aK aF aL), (9, I aA), (28, I (ln aC)), (29, I aA), (36, I (ln a8)), (37, I aB), (53, sl b0 bA b1), (54, I aB), (58, I cS)] (by exact fP) fun ρ => ?_
   refine AP_tail 9 [[], [], [0, 1], [0, 1, 2], [], [], [], [], [5, 6, 7], [0, 1, 2, 3, 4, 5, 6, 7, 8], [0, 1, 2, 3, 4, 5, 6, 7, 8, 9]] (by kernel_rfl) ?_
   obtain ⟨fQ, fR, H⟩ := H
   refine LP_indexw (v := sl b0 bA b1) 9 rfl rfl rfl Try.underlying22 ti_3 rfl rfl fO fQ fR fun gN fS => (LP_set 10 rfl rfl rfl rfl rfl fS (Le.refl emp) ⟨_, rfl, rfl⟩ (fN.ext cT) fun fT gO fU fV eB fW => ?_)
   obtain ⟨gP, fX, eC⟩ := BwL.turn bG (OS.od fU) (Dom.of fW)
   have fY := BwL.sub bG (cR.ext cT) fV eB
   have eD := BwL.but bG eB
   refine Ln _ rfl (Wg (Lv ok 0 [(60, I (wr (aB + 1))), (37, I (wr (aB + 1)))] 2 rfl rfl (Ln _ rfl ?_)))
   have dl : DomLe U123 bE.heap.size aX := (Mt (Oe (Or _) _) aZ (Nat.le_refl _))
   have b2 := (a1.trans cT)
   have eE : DomLe U123 bE.heap.size aY := (Mt (Oe (Or _) _) dN (Nat.le_refl _))
   have eF := (cI.ext bH)
   exact ⟨(List.set cG (Int.toNat aA) (List.set a9 (Int.toNat aB) cM), List.set cH (Int.toNat aA) (List.set bA (Int.toNat aB) cS), wr (aB + 1)), ⟨H.1, _, (un fD rest), (un fT fK), Ee ⟨rfl, rfl, rfl, rfl, rfl, rfl, rfl, rfl, trivial⟩, ((((((Br U123 _).step X128 (Oe (Or _) _)).stepx bH).step aT dl).stepx b2).step eD eE), fG, ((d8.ext b2).but eD (Mj ((fun n => Oe dd n) _) bS.symm eF).symm), (Mt dl ((fun n => Oe dd n) _) (Nat.le_trans X128.size bH.size)), fX, fY, (Mt eE ((fun n => Oe eC n) _) (Nat.le_trans (Nat.le_trans (Nat.le_trans X128.size bH.size) aT.size) b2.size)), (Mj ((fun n => Oe eC n) _) (Mj ((fun n => Oe dd n) _) bS.symm eF).symm (d8.ext b2))⟩, H.2⟩
  have H := H.2 cJ
  refine W_exit ?_
  refine (if_pos rfl).mpr ?_
  refine Wg (Lv ok 0 [(61, I (wr (aA + 1))), (29, I (wr (aA + 1)))] 2 rfl rfl (Ln _ rfl ?_))
  have cU : DomLe U bR.heap.size U123 := (DomLe.eqv hU124 (Mu (Mt (Oe (Or _) _) aV (Nat.le_refl _)) (Mt (Oe (Or _) _) aW (Nat.le_refl _))))
  exact ⟨(cG, cH, wr (aA + 1)), ⟨H.1, _, aX, aY, Ee ⟨rfl, rfl, rfl, rfl, rfl, trivial⟩, (((Br U _).step X93 (Oe (Or _) _)).step X128 cU), dK, dL, (Mt cU aZ X93.size), dM, cI, (Mt cU dN X93.size), bS⟩, H.2⟩
 have H := H.2 cF
 refine W_exit ?_
 refine (if_pos rfl).mpr ?_
 refine Wq (Wg (Lv ok 0 [(62, sl aD aC aE), (63, sl aK aF aL), (2, sl aD aC aE), (3, sl aK aF aL), (4, .bool true)] 5 rfl rfl (Ln _ rfl (W_ret ?_))))
 have X286 := (X.stepx ((((x.trans aP).trans bN).trans cA).trans a5))
 have cV := a6.mono X286.size
 have X289 := (X286.stepx (bD.trans a7))
 have cW := aU.mono X289.size
 have X291 := (X289.stepx aO)
 have fZ := DomLe.fresh aV (Fresh.eqv hU (Fresh.un cV cW)) X291.size
 have f0 := DomLe.fresh aW (Fresh.eqv hU (Fresh.un cV cW)) X291.size
 exact ⟨_, Ret_of [sl aD aC aE, sl aK aF aL, .bool true] ⟨⟨rfl, rfl⟩, ⟨rfl, rfl⟩, ⟨rfl, rfl⟩, trivial⟩, _, _, _, _, _, _, _, H, rfl, (X291.step X93 (DomLe.eqv hU (Mu (cV.dom _) (cW.dom _)))).ext, cD, cE, fZ, dI, dJ, f0, d.symm⟩

theorem laws_sameInts_w (a : List Int) (b : List Int) (Q : Bool → Prop) (H : laws_sameInts a b Q) (w : World) {vx : Value} {hx : PH} (r : RS hx vx a) (ex : Sub hx w) {aF : Value} {aG : PH} (aH : RS aG aF b) (aM : Sub aG w) :
  CallsTo Try.prog 62 #[vx, aF] w fun v w' => ∃ aI, Q aI ∧ v = .bool aI ∧ Ext w w' := by
 obtain ⟨aA, c, rfl⟩ := r.shape
 obtain ⟨aB, aC, rfl⟩ := aH.shape
 refine enter (args := [sl aA a c, sl aB b aC]) 26 Try.func62 rfl rfl rfl ?_
 refine Wo [(0, sl aA a c), (1, sl aB b aC)] ⟨rfl, rfl, trivial⟩ fun ρ => ?_
 have X := Br emp w
 refine Wq (Wg (Lv ok 0 [(4, .bool false)] 1 rfl rfl (Ln _ rfl (Wq (Wq (Wg (Lv ok 0 [(6, sl aA a c), (7, I (ln a)), (8, sl aB b aC), (9, I (ln b)), (10, .bool ((ln a) != (ln b)))] 5 rfl rfl (Ln _ rfl ?_))))))))
 refine Wc ((ln a) != (ln b)) rfl (fun hc => ?_) (fun hc => ?_)
 ·have H := H.1 hc
  refine Wq (Wg (Lv ok 0 [(4, .bool false)] 1 rfl rfl (Ln _ rfl (W_ret ?_))))
  exact ⟨_, Ret_of [.bool false] ⟨⟨rfl, rfl⟩, trivial⟩, _, H, rfl, X.ext⟩
 have H := H.2 hc
 refine Wk (Wq (Wq (Wg (Lv ok 0 [(11, sl aA a c), (12, I (ln a)), (13, I 0)] 3 rfl rfl (Ln _ rfl (W_block ?_))))))
 obtain ⟨J, m, Hx, H⟩ := H
 refine W_loop (S := Int) (fun s ρ' w' => J s ∧ ∃ (ρ : Env), ρ' = setAll [(0, sl aA a c), (1, sl aB b aC), (12, I (ln a)), (13, I s)] ρ ∧ Ext w w') (fun s => m s) 0 ⟨Hx, _, Ee ⟨rfl, rfl, rfl, rfl, trivial⟩, (Ext.refl _)⟩ ?_
 rintro x _ wx ⟨Hi, ρ, rfl, X8⟩
 have H := H x Hi
 refine Wq (Wg (Lv ok 0 [(14, .bool (decide (x < (ln a))))] 1 rfl rfl (Ln _ rfl (Wq ?_))))
 refine Wc (decide (x < (ln a))) rfl (fun aD => ?_) (fun aD => ?_)
 ·have H := H.1 aD
  refine Wk (Wq (W_block (Wq (Wg (Lv ok 0 [(15, I x), (5, I x)] 2 rfl rfl (Ln _ rfl (Wq ?_)))))))
  refine W_quiet mix (by kernel_rfl) ?_
  refine QP_ev ok 0 [(16, sl aA a c), (17, I x)] 2 rfl rfl ?_
  obtain ⟨aJ, hi, aN, H⟩ := H
  refine QP_index 2 rfl rfl rfl Try.underlying22 ti_3 rfl rfl r hi aN fun aV cs aO d => ?_
  refine QP_load 3 rfl rfl rfl ti_3 ag_3 rfl aO d (ex.ext X8) fun aW aP => ?_
  obtain rfl := aP.int
  refine QP_ev ok 4 [(20, sl aB b aC), (21, I x)] 6 rfl rfl ?_
  obtain ⟨aK, aQ, aR, H⟩ := H
  refine QP_index 6 rfl rfl rfl Try.underlying22 ti_3 rfl rfl aH aQ aR fun aX aY aS aT => ?_
  refine QP_load 7 rfl rfl rfl ti_3 ag_3 rfl aS aT (aM.ext X8) fun aZ aU => ?_
  obtain rfl := aU.int
  refine QP_ev ok 8 [(24, .bool (aJ != aK))] 9 rfl rfl ?_
  refine QP_end _ rfl fun a0 aL => ?_
  refine Wc (aJ != aK) rfl (fun aE => ?_) (fun aE => ?_)
  ·have H := H.1 aE
   refine Wq (Wg (Lv ok 0 [(4, .bool false)] 1 rfl rfl (Ln _ rfl (W_ret ?_))))
   exact ⟨_, Ret_of [.bool false] ⟨⟨rfl, rfl⟩, trivial⟩, _, H, rfl, (X.stepx (X8.trans aL)).ext⟩
  have H := H.2 aE
  refine Wk (Wg (Lv ok 0 [(25, I (wr (x + 1))), (13, I (wr (x + 1)))] 2 rfl rfl ?_))
  exact Ln _ rfl ⟨wr (x + 1), ⟨H.1, _, Ee ⟨rfl, rfl, rfl, rfl, trivial⟩, (X8.trans aL)⟩, H.2⟩
 have H := H.2 aD
 refine W_exit ?_
 refine (if_pos rfl).mpr ?_
 refine Wq (Wg (Lv ok 0 [(4, .bool true)] 1 rfl rfl (Ln _ rfl (W_ret ?_))))
 exact ⟨_, Ret_of [.bool true] ⟨⟨rfl, rfl⟩, trivial⟩, _, H, rfl, (X.stepx X8).ext⟩

theorem laws_sameLists_w (a : List (List Int)) (b : List (List Int)) (Q : Bool → Prop) (H : laws_sameLists a b Q) (w : World) {vx : Value} {hx : PH} (r : RS hx vx a) (ex : Sub hx w) {aG : Value} {aH : PH} (aI : RS aH aG b) (aQ : Sub aH w) :
  CallsTo Try.prog 28 #[vx, aG] w fun v w' => ∃ aJ, Q aJ ∧ v = .bool aJ ∧ Ext w w' := by
 obtain ⟨aA, c, rfl⟩ := r.shape
 obtain ⟨aB, aC, rfl⟩ := aI.shape
 refine enter (args := [sl aA a c, sl aB b aC]) 27 Try.func28 rfl rfl rfl ?_
 refine Wo [(0, sl aA a c), (1, sl aB b aC)] ⟨rfl, rfl, trivial⟩ fun ρ => ?_
 have X := Br emp w
 refine Wq (Wg (Lv ok 0 [(4, .bool false)] 1 rfl rfl (Ln _ rfl (Wq (Wq (Wg (Lv ok 0 [(6, sl aA a c), (7, I (ln a)), (8, sl aB b aC), (9, I (ln b)), (10, .bool ((ln a) != (ln b)))] 5 rfl rfl (Ln _ rfl ?_))))))))
 refine Wc ((ln a) != (ln b)) rfl (fun hc => ?_) (fun hc => ?_)
 ·have H := H.1 hc
  refine Wq (Wg (Lv ok 0 [(4, .bool false)] 1 rfl rfl (Ln _ rfl (W_ret ?_))))
  exact ⟨_, Ret_of [.bool false] ⟨⟨rfl, rfl⟩, trivial⟩, _, H, rfl, X.ext⟩
 have H := H.2 hc
 refine Wk (Wq (Wq (Wg (Lv ok 0 [(11, sl aA a c), (12, I (ln a)), (13, I 0)] 3 rfl rfl (Ln _ rfl (W_block ?_))))))
 obtain ⟨J, m, Hx, H⟩ := H
 refine W_loop (S := Int) (fun s ρ' w' => J s ∧ ∃ (ρ : Env), ρ' = setAll [(0, sl aA a c), (1, sl aB b aC), (12, I (ln a)), (13, I s)] ρ ∧ Ext w w') (fun s => m s) 0 ⟨Hx, _, Ee ⟨rfl, rfl, rfl, rfl, trivial⟩, (Ext.refl _)⟩ ?_
 rintro x _ wx ⟨Hi, ρ, rfl, X8⟩
 have H := H x Hi
 refine Wq (Wg (Lv ok 0 [(14, .bool (decide (x < (ln a))))] 1 rfl rfl (Ln _ rfl (Wq ?_))))
 refine Wc (decide (x < (ln a))) rfl (fun aD => ?_) (fun aD => ?_)
 ·have H := H.1 aD
  refine Wk (Wq (W_block (Wq (Wg (Lv ok 0 [(15, I x), (5, I x)] 2 rfl rfl (Ln _ rfl (Wq ?_)))))))
  refine W_quiet mix (by kernel_rfl) ?_
  refine QP_ev ok 0 [(16, sl aA a c), (17, I x)] 2 rfl rfl ?_
  obtain ⟨a0, hi, aR, H⟩ := H
  refine QP_index 2 rfl rfl rfl Try.underlying23 ti_22 rfl rfl r hi aR fun a1 cs aS d => ?_
  have aK := (ex.ext X8)
  refine QP_load 3 rfl rfl rfl ti_22 ag_22 rfl aS d aK fun a2 aT => ?_
  have aL := aT.slice
  obtain ⟨a3, a4, rfl⟩ := aL.shape
  refine QP_ev ok 4 [(20, sl aB b aC), (21, I x)] 6 rfl rfl ?_
  obtain ⟨a5, aU, aV, H⟩ := H
  refine QP_index 6 rfl rfl rfl Try.underlying23 ti_22 rfl rfl aI aU aV fun a6 a7 aW aX => ?_
  have aM := (aQ.ext X8)
  refine QP_load 7 rfl rfl rfl ti_22 ag_22 rfl aW aX aM fun a8 aY => ?_
  have aN := aY.slice
  obtain ⟨a9, bA, rfl⟩ := aN.shape
  obtain ⟨aE, Hd, H⟩ := H
  refine QP_call (.bool aE) 8 rfl rfl rfl cal_62 rfl (fun aZ aO => (laws_sameInts_w _ _ _ Hd aZ aL (aK.ext aO) aN (aM.ext aO)).mono ?_) ?_
  ·rintro _ _ ⟨_, rfl, rfl, x⟩; exact ⟨rfl, x⟩
  refine QP_ev ok 9 [(25, .bool (!aE))] 10 rfl rfl ?_
  refine QP_end _ rfl fun bB aP => ?_
  refine Wc (!aE) rfl (fun aF => ?_) (fun aF => ?_)
  ·have H := H.1 aF
   refine Wq (Wg (Lv ok 0 [(4, .bool false)] 1 rfl rfl (Ln _ rfl (W_ret ?_))))
   exact ⟨_, Ret_of [.bool false] ⟨⟨rfl, rfl⟩, trivial⟩, _, H, rfl, (X.stepx (X8.trans aP)).ext⟩
  have H := H.2 aF
  refine Wk (Wg (Lv ok 0 [(26, I (wr (x + 1))), (13, I (wr (x + 1)))] 2 rfl rfl ?_))
  exact Ln _ rfl ⟨wr (x + 1), ⟨H.1, _, Ee ⟨rfl, rfl, rfl, rfl, trivial⟩, (X8.trans aP)⟩, H.2⟩
 have H := H.2 aD
 refine W_exit ?_
 refine (if_pos rfl).mpr ?_
 refine Wq (Wg (Lv ok 0 [(4, .bool true)] 1 rfl rfl (Ln _ rfl (W_ret ?_))))
 exact ⟨_, Ret_of [.bool true] ⟨⟨rfl, rfl⟩, trivial⟩, _, H, rfl, (X.stepx X8).ext⟩

theorem impl_BestFill_w (t : Transport) (Q : Int → Bool → Prop) (H : impl_BestFill t Q) (w : World) {vx : Value} {hx : PH} (r : RS hx vx t.Rows) (ex : Sub hx w) {aO : Value} {aP : PH} (aI : RS aP aO t.Cols) (a5 : Sub aP w) {aQ : Value} {aR : PH} (aJ : RS aR aQ t.Lo) (a6 : Sub aR w) {aS : Value} {aT : PH} (aK : RS aT aS t.Hi) (a7 : Sub aT w) :
  CallsTo Try.prog 29 #[.agg #[vx, aO, aQ, aS]] w fun v w' => ∃ aU aV, Q aU aV ∧ v = .tuple #[I aU, .bool aV] ∧ Ext w w' := by
 obtain ⟨a, c, rfl⟩ := r.shape
 obtain ⟨aB, aC, rfl⟩ := aI.shape
 obtain ⟨aD, aE, rfl⟩ := aJ.shape
 obtain ⟨aF, aG, rfl⟩ := aK.shape
 refine enter (args := [.agg #[sl a t.Rows c, sl aB t.Cols aC, sl aD t.Lo aE, sl aF t.Hi aG]]) 15 Try.func29 rfl rfl rfl ?_
 refine Wo [(0, .agg #[sl a t.Rows c, sl aB t.Cols aC, sl aD t.Lo aE, sl aF t.Hi aG])] ⟨rfl, trivial⟩ fun ρ => ?_
 have X := Br emp w
 refine Wq (Wg (Ly 0 (cs := [sl a t.Rows c, sl aB t.Cols aC, sl aD t.Lo aE, sl aF t.Hi aG]) rfl rfl rfl rfl rfl fun b wx x aW f => (Lv ok 1 [(2, I 0), (3, .bool false)] 3 rfl rfl (Ln _ rfl (Wq (Wq (Wg (Lb 0 (v := .agg #[sl a t.Rows c, sl aB t.Cols aC, sl aD t.Lo aE, sl aF t.Hi aG]) rfl rfl rfl ti_29 ag_29 (fun h => by cases h) rfl aW rfl rfl ?_))))))))
 have aX := (ex.ext x)
 have aY := (a5.ext x)
 have aZ := (a6.ext x)
 have a0 := (a7.ext x)
 refine Lc 1 rfl rfl rfl cal_36 rfl (impl_IsTransport_w _ _ H wx r aX aI aY aJ aZ aK a0) ?_
 rintro _ a8 ⟨a1, H, rfl, aA⟩
 refine Lv ok 2 [(7, .bool (!a1))] 3 rfl rfl (Ln _ rfl ?_)
 refine Wc (!a1) rfl (fun hc => ?_) (fun hc => ?_)
 ·have H := H.1 hc
  refine Wq (Wg (Lv ok 0 [(2, I 0), (3, .bool false)] 2 rfl rfl (Ln _ rfl (W_ret ?_))))
  exact ⟨_, Ret_of [I 0, .bool false] ⟨⟨rfl, rfl⟩, ⟨rfl, rfl⟩, trivial⟩, _, _, H, rfl, (X.stepx (x.trans aA)).ext⟩
 have H := H.2 hc
 refine Wk (Wq (Wg (Lb 0 (v := .agg #[sl a t.Rows c, sl aB t.Cols aC, sl aD t.Lo aE, sl aF t.Hi aG]) rfl rfl rfl ti_29 ag_29 (fun h => by cases h) rfl (aW.ext aA) rfl rfl (Lc 1 rfl rfl rfl cal_63 rfl (impl_fill_w _ _ H a8 r (aX.ext aA) aI (aY.ext aA) aJ (aZ.ext aA) aK (a0.ext aA)) ?_))))
 rintro _ a9 ⟨aH, bF, bG, H, rfl, a2, o, bA, bH, cn⟩
 obtain ⟨aL, aM, rfl⟩ := o.shape
 refine Lv ok 2 [(4, sl aL aH aM)] 3 rfl rfl (Ln _ rfl (Wq (Wq (Wg (Lv ok 0 [(10, sl aL aH aM)] 1 rfl rfl (LP_val 1 _ rfl rfl (ex_eqnilc rfl Try.underlying23 rfl rfl (cn _ _ _ rfl) _) (Ln _ rfl ?_)))))))
 refine Wc (ln aH == 0) rfl (fun aN => ?_) (fun aN => ?_)
 ·have H := H.1 aN
  refine Wq (Wg (Lv ok 0 [(2, I 0), (3, .bool false)] 2 rfl rfl (Ln _ rfl (W_ret ?_))))
  exact ⟨_, Ret_of [I 0, .bool false] ⟨⟨rfl, rfl⟩, ⟨rfl, rfl⟩, trivial⟩, _, _, H, rfl, (X.stepx ((x.trans aA).trans a2)).ext⟩
 have H := H.2 aN
 refine Wk (Wq (Wg (Lv ok 0 [(12, sl aL aH aM)] 1 rfl rfl (Lc 1 rfl rfl rfl cal_65 rfl (impl_rowSums_w _ _ H a9 o.readf bA) ?_))))
 rintro _ bB ⟨bI, bJ, bK, H, rfl, bC, a3, bD, bL⟩
 obtain ⟨bM, bN, rfl⟩ := a3.shape
 refine Lc 2 rfl rfl rfl cal_64 rfl (impl_total_w _ _ H bB a3.readf bD) ?_
 rintro _ bO ⟨a4, H, rfl, bE⟩
 refine Lv ok 3 [(2, I a4), (3, .bool true)] 5 rfl rfl (Ln _ rfl (W_ret ?_))
 exact ⟨_, Ret_of [I a4, .bool true] ⟨⟨rfl, rfl⟩, ⟨rfl, rfl⟩, trivial⟩, _, _, H, rfl, (X.stepx ((((x.trans aA).trans a2).trans bC).trans bE)).ext⟩

theorem spec_BestFill_w (t : Transport) (Q : Int → Bool → Prop) (H : spec_BestFill t Q) (w : World) {vx : Value} {hx : PH} (r : RS hx vx t.Rows) (ex : Sub hx w) {aR : Value} {aS : PH} (aL : RS aS aR t.Cols) (bE : Sub aS w) {aT : Value} {aU : PH} (aM : RS aU aT t.Lo) (bF : Sub aU w) {aV : Value} {aW : PH} (aN : RS aW aV t.Hi) (bG : Sub aW w) :
  CallsTo Try.prog 30 #[.agg #[vx, aR, aT, aV]] w fun v w' => ∃ aX aY, Q aX aY ∧ v = .tuple #[I aX, .bool aY] ∧ Ext w w' := by
 obtain ⟨a, c, rfl⟩ := r.shape
 obtain ⟨aF, aG, rfl⟩ := aL.shape
 obtain ⟨aH, aI, rfl⟩ := aM.shape
 obtain ⟨aJ, aK, rfl⟩ := aN.shape
 refine enter (args := [.agg #[sl a t.Rows c, sl aF t.Cols aG, sl aH t.Lo aI, sl aJ t.Hi aK]]) 34 Try.func30 rfl rfl rfl ?_
 refine Wo [(0, .agg #[sl a t.Rows c, sl aF t.Cols aG, sl aH t.Lo aI, sl aJ t.Hi aK])] ⟨rfl, trivial⟩ fun ρ => ?_
 have X := Br emp w
 refine Wq (Wg (Ly 0 (cs := [sl a t.Rows c, sl aF t.Cols aG, sl aH t.Lo aI, sl aJ t.Hi aK]) rfl rfl rfl rfl rfl fun b wx x aZ f => (Lv ok 1 [(2, I 0), (3, .bool false)] 3 rfl rfl (Ln _ rfl (Wq (Wq (Wg (Lb 0 (v := .agg #[sl a t.Rows c, sl aF t.Cols aG, sl aH t.Lo aI, sl aJ t.Hi aK]) rfl rfl rfl ti_29 ag_29 (fun h => by cases h) rfl aZ rfl rfl ?_))))))))
 have a0 := (ex.ext x)
 have a1 := (bE.ext x)
 have a2 := (bF.ext x)
 have a3 := (bG.ext x)
 refine Lc 1 rfl rfl rfl cal_32 rfl (spec_tGood_w _ _ H wx r a0 aL a1 aM a2 aN a3) ?_
 rintro _ bH ⟨a4, H, rfl, aA⟩
 refine Lv ok 2 [(11, .bool (!a4))] 3 rfl rfl (Ln _ rfl ?_)
 refine Wc (!a4) rfl (fun hc => ?_) (fun hc => ?_)
 ·have H := H.1 hc
  refine Wq (Wg (Lv ok 0 [(2, I 0), (3, .bool false)] 2 rfl rfl (Ln _ rfl (W_ret ?_))))
  exact ⟨_, Ret_of [I 0, .bool false] ⟨⟨rfl, rfl⟩, ⟨rfl, rfl⟩, trivial⟩, _, _, H, rfl, (X.stepx (x.trans aA)).ext⟩
 have H := H.2 hc
 refine Wk (Wq (Wg (Lb 0 (v := .agg #[sl a t.Rows c, sl aF t.Cols aG, sl aH t.Lo aI, sl aJ t.Hi aK]) rfl rfl rfl ti_29 ag_29 (fun h => by cases h) rfl (aZ.ext aA) rfl rfl (Lc 1 rfl rfl rfl cal_66 rfl (spec_tFilled_w _ _ H bH r (a0.ext aA) aL (a1.ext aA) aM (a2.ext aA) aN (a3.ext aA)) ?_))))
 rintro _ bI ⟨aB, aC, bW, bX, bY, bZ, b0, b1, b2, b3, b4, b5, b6, b7, b8, b9, aD, H, rfl, a5, HF⟩
 revert HF
 refine bb9 fun o cA cB bJ cC cD bK cE => ?_
 refine bb9 fun cF bL cG cH a6 bM cI bN => ?_
 refine bb9 fun cJ cK bO cL cM bP cN d => ?_
 refine bb9 fun cO cP cQ cR cS cT cU cV => ?_
 refine bb9 fun cW cX cY cZ c0 c1 c2 c3 => ?_
 refine bb5 fun c4 c5 c6 c7 c8 => ?_
 obtain ⟨c9, dA, rfl⟩ := o.shape
 obtain ⟨dB, dC, rfl⟩ := bJ.shape
 obtain ⟨dD, dE, rfl⟩ := bK.shape
 obtain ⟨dF, dG, rfl⟩ := bL.shape
 obtain ⟨a7, a8, rfl⟩ := a6.shape
 obtain ⟨dH, dI, rfl⟩ := bN.shape
 obtain ⟨dJ, dK, rfl⟩ := bO.shape
 refine Lv ok 2 [(12, .tuple #[pb aD, .bool aC]), (15, pb aD), (16, .bool aC), (4, pb aD), (5, .bool aC)] 7 rfl rfl (Ln _ rfl (Wq (Wq (Wg (Lv ok 0 [(17, .bool aC), (18, .bool (!aC))] 2 rfl rfl (Ln _ rfl ?_))))))
 refine Wc (!aC) rfl (fun aO => ?_) (fun aO => ?_)
 ·have H := H.1 aO
  refine Wq (Wg (Lv ok 0 [(2, I 0), (3, .bool false)] 2 rfl rfl (Ln _ rfl (W_ret ?_))))
  exact ⟨_, Ret_of [I 0, .bool false] ⟨⟨rfl, rfl⟩, ⟨rfl, rfl⟩, trivial⟩, _, _, H, rfl, (X.stepx ((x.trans aA).trans a5)).ext⟩
 have H := H.2 aO
 refine Wk (Wq (Wg (Lv ok 0 [(6, I 0)] 1 rfl rfl (Ln _ rfl (Wq (Wq (Wg (Lv ok 0 [(19, pb aD), (20, pb aD), (21, .pointer (some ⟨aD, 4, none⟩))] 3 rfl rfl (Lb 3 (v := sl a7 aB.X a8) rfl rfl rfl ti_23 ag_23 (fun _ => rfl) rfl bP rfl rfl ?_)))))))))
 refine Lv ok 4 [(23, I (ln aB.X)), (24, I 0)] 6 rfl rfl (Ln _ rfl (W_block ?_))
 obtain ⟨J, m, Hx, H⟩ := H
 refine W_loop (S := Int × Int) (fun s ρ' w' => J s.1 s.2 ∧ ∃ (ρ : Env), ρ' = setAll [(6, I s.1), (22, sl a7 aB.X a8), (23, I (ln aB.X)), (24, I s.2)] ρ ∧ Ext bI w') (fun s => m s.1 s.2) (0, 0) ⟨Hx, _, Ee ⟨rfl, rfl, rfl, rfl, trivial⟩, (Ext.refl _)⟩ ?_
 rintro ⟨sum, aE⟩ _ bQ ⟨Hi, ρ, rfl, X114⟩
 have H := H sum aE Hi
 refine Wq (Wg (Lv ok 0 [(25, .bool (decide (aE < (ln aB.X))))] 1 rfl rfl (Ln _ rfl (Wq ?_))))
 refine Wc (decide (aE < (ln aB.X))) rfl (fun aP => ?_) (fun aP => ?_)
 ·have H := H.1 aP
  refine Wk (Wq (W_block (Wq (Wg ?_))))
  obtain ⟨a9, hi, bR, H⟩ := H
  refine Li 0 rfl rfl rfl Try.underlying23 ti_22 rfl rfl a6.readf hi bR fun dL cs bS bT => ?_
  have bA := (bM.ext X114)
  refine Lo 1 rfl rfl rfl ti_22 ag_22 rfl bS bT bA fun dM bU => ?_
  have bB := bU.slice
  obtain ⟨bC, bD, rfl⟩ := bB.shape
  refine Lv ok 2 [(8, sl bC a9 bD)] 3 rfl rfl (Ln _ rfl (Wg (Lv ok 0 [(28, I sum), (29, sl bC a9 bD)] 2 rfl rfl (Lc 2 rfl rfl rfl cal_67 rfl (spec_tSum_w _ _ H bQ bB bA) ?_))))
  rintro _ dN ⟨aQ, H, rfl, bV⟩
  refine Lv ok 3 [(31, I (wr (sum + aQ))), (6, I (wr (sum + aQ)))] 5 rfl rfl (Ln _ rfl (Wg (Lv ok 0 [(32, I (wr (aE + 1))), (24, I (wr (aE + 1)))] 2 rfl rfl ?_)))
  exact Ln _ rfl ⟨(wr (sum + aQ), wr (aE + 1)), ⟨H.1, _, Ee ⟨rfl, rfl, rfl, rfl, trivial⟩, (X114.trans bV)⟩, H.2⟩
 have H := H.2 aP
 refine W_exit ?_
 refine (if_pos rfl).mpr ?_
 refine Wq (Wg (Lv ok 0 [(33, I sum), (2, I sum), (3, .bool true)] 3 rfl rfl (Ln _ rfl (W_ret ?_))))
 exact ⟨_, Ret_of [I sum, .bool true] ⟨⟨rfl, rfl⟩, ⟨rfl, rfl⟩, trivial⟩, _, _, H, rfl, (X.stepx (((x.trans aA).trans a5).trans X114)).ext⟩

theorem laws_FnFlowCounts_w (code : List B8) (more : List B8) (Q : Bool → Prop) (H : laws_FnFlowCounts code more Q) (w : World) {vx : Value} {hx : PH} (r : RS hx vx code) (ex : Sub hx w) {dA : Value} {dB : PH} (cR : RS dB dA more) (cS : Sub dB w) :
  CallsTo Try.prog 6 #[vx, dA] w fun v w' => ∃ dC, Q dC ∧ v = .bool dC ∧ Ext w w' := by
 obtain ⟨a, c, rfl⟩ := r.shape
 obtain ⟨aO, aP, rfl⟩ := cR.shape
 refine enter (args := [sl a code c, sl aO more aP]) 162 Try.func6 rfl rfl rfl ?_
 refine Wo [(0, sl a code c), (1, sl aO more aP)] ⟨rfl, rfl, trivial⟩ fun ρ => ?_
 have X := Br emp w
 refine Wq (Wg (Lv ok 0 [(4, .bool false)] 1 rfl rfl (Ln _ rfl (Wq (Wq (Wg (Lv ok 0 [(32, sl a code c), (33, sl aO more aP)] 2 rfl rfl (Lc 2 rfl rfl rfl cal_19 rfl (laws_big_w _ _ _ H w r ex cR cS) ?_))))))))
 rintro _ wx ⟨fB, H, rfl, x⟩
 refine Ln _ rfl ?_
 refine Wc (fB) rfl (fun hc => ?_) (fun hc => ?_)
 ·have H := H.1 hc
  refine Wq (Wg (Lv ok 0 [(4, .bool true)] 1 rfl rfl (Ln _ rfl (W_ret ?_))))
  exact ⟨_, Ret_of [.bool true] ⟨⟨rfl, rfl⟩, trivial⟩, _, H, rfl, (X.stepx x).ext⟩
 have H := H.2 hc
 refine Wk (Wq (Wg (Lv ok 0 [(35, sl a code c)] 1 rfl rfl (Lc 1 rfl rfl rfl cal_20 rfl (spec_DrawCountFlows_w _ _ H wx r (ex.ext x)) ?_))))
 rintro _ g9 ⟨aA, hA, dD, hB, dE, hC, dF, hD, dG, H, rfl, dH, HF⟩
 revert HF
 refine bb9 fun o b1 f bP b2 fC bQ b3 => ?_
 refine bb9 fun fD bR b4 fE d hE hF hG => ?_
 refine bb2 fun hH hI => ?_
 obtain ⟨aD, aE, rfl⟩ := o.shape
 obtain ⟨aF, aG, rfl⟩ := bP.shape
 obtain ⟨aH, aI, rfl⟩ := bQ.shape
 obtain ⟨aJ, aK, rfl⟩ := bR.shape
 refine La 2 rfl rfl rfl ti_29 rfl fun b hJ bS fF aL => (Lx 3 (vs := [sl aD aA.Rows aE, sl aF aA.Cols aG, sl aH aA.Lo aI, sl aJ aA.Hi aK]) (cs' := [sl aD aA.Rows aE, sl aF aA.Cols aG, sl aH aA.Lo aI, sl aJ aA.Hi aK]) rfl rfl rfl ti_29 rfl rfl rfl rfl rfl fF rfl rfl fun fG dI y => (Ln _ rfl (Wq (Wg (Lb 0 (v := .agg #[sl aD aA.Rows aE, sl aF aA.Cols aG, sl aH aA.Lo aI, sl aJ aA.Hi aK]) rfl rfl rfl ti_29 ag_29 (fun h => by cases h) rfl dI rfl rfl ?_)))))
 have dj := (Df b1 aL).symm
 have dJ := ((b1.ext bS).but y dj)
 have fH := (Df b2 aL).symm
 have dK := ((b2.ext bS).but y fH)
 have fI := (Df b3 aL).symm
 have dL := ((b3.ext bS).but y fI)
 have fJ := (Df b4 aL).symm
 have dM := ((b4.ext bS).but y fJ)
 refine Lc 1 rfl rfl rfl cal_10 rfl (impl_CountFlows_w _ _ H fG o.readf dJ bP.readf dK bQ dL bR.readf dM) ?_
 rintro _ fK ⟨a0, aM, H, rfl, bI⟩
 refine Lv ok 2 [(37, .tuple #[I a0, .bool aM]), (40, I a0), (41, .bool aM), (6, I a0), (7, .bool aM)] 7 rfl rfl (Ln _ rfl (Wq (Wg ?_)))
 have dN := (dI.ext bI)
 refine Lb 0 (v := .agg #[sl aD aA.Rows aE, sl aF aA.Cols aG, sl aH aA.Lo aI, sl aJ aA.Hi aK]) rfl rfl rfl ti_29 ag_29 (fun h => by cases h) rfl dN rfl rfl ?_
 have dO := (dJ.ext bI)
 have dP := (dK.ext bI)
 have dQ := (dL.ext bI)
 have dR := (dM.ext bI)
 refine Lc 1 rfl rfl rfl cal_8 rfl (spec_CountFlows_w _ _ H fK o.readf dO bP.readf dP bQ dQ bR.readf dR) ?_
 rintro _ b5 ⟨aC, a8, H, rfl, bJ⟩
 refine Lv ok 2 [(42, .tuple #[I aC, .bool a8]), (45, I aC), (46, .bool a8), (8, I aC), (9, .bool a8)] 7 rfl rfl (Ln _ rfl (Wq ?_))
 have xc := ((x.trans dH).trans bS)
 have dS := (x.trans dH)
 have fL := aL.mono (X.stepx dS).size
 have dT := (bI.trans bJ)
 have X74 := (((X.stepx xc).step y (fL.dom _)).stepx dT)
 have fM := (Df (cS.ext dS) aL).symm
 have dU := (dO.ext bJ)
 have X80 := (X.stepx x)
 have dV := f.mono X80.size
 have dW := (dP.ext bJ)
 have dX := fC.mono X80.size
 have dY := (dQ.ext bJ)
 have dZ := fD.mono X80.size
 have d0 := (dR.ext bJ)
 have d1 := fE.mono X80.size
 have cT := (dN.ext bJ)
 obtain ⟨k, hk, H⟩ := jn_elim H
 refine W_join2 (S := Bool) (fun s ρ' w' => k s ∧ ∃ (ρ : Env), ρ' = setAll [(1, sl aO more aP), (5, pb b), (7, .bool aM), (8, I aC), (54, .bool s)] ρ ∧ b5 = w') ?_ ?_
 ·refine Wg (Lv ok 0 [(47, .bool aM), (48, .bool a8), (49, .bool (aM != a8)), (50, .bool (aM != a8))] 4 rfl rfl ?_)
  refine LP_split 50 (aM != a8) rfl (fun cU => ?_) (fun cU => ?_)
  ·have H := H.1 cU
   refine Lv ok 4 [(51, undef), (52, undef), (53, undef), (54, .bool true)] 8 rfl rfl (Ln _ rfl ?_)
   try refine Wo [(1, sl aO more aP), (5, pb b), (7, .bool aM), (8, I aC), (54, .bool true)] ⟨rfl, rfl, rfl, rfl, rfl, trivial⟩ fun ρ => ?_
   exact ⟨true, H, _, Ee ⟨rfl, rfl, rfl, rfl, rfl, trivial⟩, rfl⟩
  have H := H.2 cU
  refine Lv ok 4 [(51, I a0), (52, I aC), (53, .bool (a0 != aC)), (54, .bool (a0 != aC))] 8 rfl rfl (Ln _ rfl ?_)
  try refine Wo [(1, sl aO more aP), (5, pb b), (7, .bool aM), (8, I aC), (54, .bool (a0 != aC))] ⟨rfl, rfl, rfl, rfl, rfl, trivial⟩ fun ρ => ?_
  exact ⟨a0 != aC, H, _, Ee ⟨rfl, rfl, rfl, rfl, rfl, trivial⟩, rfl⟩
 rintro fN _ _ ⟨H, ρ, rfl, rfl⟩
 subst hk
 refine Wc (fN) rfl (fun cV => ?_) (fun cV => ?_)
 ·have H := H.1 cV
  refine Wq (Wg (Lv ok 0 [(4, .bool false)] 1 rfl rfl (Ln _ rfl (W_ret ?_))))
  exact ⟨_, Ret_of [.bool false] ⟨⟨rfl, rfl⟩, trivial⟩, _, H, rfl, X74.ext⟩
 have H := H.2 cV
 refine Wk ?_
 obtain ⟨fO, fP, H⟩ := jn_elim H
 refine W_join2 (S := Unit) (fun s ρ' w' => fO ∧ ∃ (ρ : Env), ρ' = setAll [(1, sl aO more aP)] ρ ∧ Ext b5 w') ?_ ?_
 ·obtain ⟨fQ, fR, H⟩ := jn_elim H
  refine W_join2 (S := Bool) (fun s ρ' w' => fQ s ∧ ∃ (ρ : Env), ρ' = setAll [(1, sl aO more aP), (5, pb b), (8, I aC), (59, .bool s)] ρ ∧ b5 = w') ?_ ?_
  ·refine Wg (Lv ok 0 [(55, .bool aM), (56, .bool aM)] 2 rfl rfl ?_)
   refine LP_split 56 (aM) rfl (fun cW => ?_) (fun cW => ?_)
   ·have H := H.1 cW
    refine Lv ok 2 [(57, I aC), (58, .bool (decide (aC ≤ 30))), (59, .bool (decide (aC ≤ 30)))] 5 rfl rfl ?_
    exact Ln _ rfl ⟨decide (aC ≤ 30), H, _, Ee ⟨rfl, rfl, rfl, rfl, trivial⟩, rfl⟩
   have H := H.2 cW
   refine Lv ok 2 [(57, undef), (58, undef), (59, .bool false)] 5 rfl rfl ?_
   exact Ln _ rfl ⟨false, H, _, Ee ⟨rfl, rfl, rfl, rfl, trivial⟩, rfl⟩
  rintro fS _ _ ⟨H, ρ, rfl, rfl⟩
  subst fR
  refine Wc (fS) rfl (fun cX => ?_) (fun cX => ?_)
  ·have H := H.1 cX
   refine Wq (Wg (Lv ok 0 [(10, I 0)] 1 rfl rfl (Ln _ rfl (Wq (Wg (Lb 0 (v := .agg #[sl aD aA.Rows aE, sl aF aA.Cols aG, sl aH aA.Lo aI, sl aJ aA.Hi aK]) rfl rfl rfl ti_29 ag_29 (fun h => by cases h) rfl cT rfl rfl (Lc 1 rfl rfl rfl cal_21 rfl (impl_FirstFlow_w _ _ H b5 o.readf dU bP.readf dW bQ dY bR.readf d0) ?_)))))))
   rintro _ fT ⟨bT, b6, hK, fU, H, rfl, fV, d2, fW, d3⟩
   obtain ⟨b7, b8, rfl⟩ := d2.shape
   refine Lv ok 2 [(60, .tuple #[sl b7 bT b8, .bool b6]), (63, sl b7 bT b8), (64, .bool b6), (11, sl b7 bT b8), (12, .bool b6)] 7 rfl rfl (Ln _ rfl (Wq (W_block ?_)))
   have fX := DomLe.fresh d3 (Fresh.un dV (Fresh.un dX (Fresh.un dZ d1))) X74.size
   have fY : Dj dD (bx b 29 [sl aD aA.Rows aE, sl aF aA.Cols aG, sl aH aA.Lo aI, sl aJ aA.Hi aK]) := (Db (Df b1 aL).symm).symm
   have fZ : Dj dE (bx b 29 [sl aD aA.Rows aE, sl aF aA.Cols aG, sl aH aA.Lo aI, sl aJ aA.Hi aK]) := (Db (Df b2 aL).symm).symm
   have f0 : Dj dF (bx b 29 [sl aD aA.Rows aE, sl aF aA.Cols aG, sl aH aA.Lo aI, sl aJ aA.Hi aK]) := (Db (Df b3 aL).symm).symm
   have f1 : Dj dG (bx b 29 [sl aD aA.Rows aE, sl aF aA.Cols aG, sl aH aA.Lo aI, sl aJ aA.Hi aK]) := (Db (Df b4 aL).symm).symm
   obtain ⟨J, m, Hx, H⟩ := H
   refine W_loop (S := Int × (List (List Int)) × Bool) (fun s ρ' w' => J s.1 s.2.1 s.2.2 ∧ ∃ (ρ : Env) (cY : Value) (bU : PH), ρ' = setAll [(1, sl aO more aP), (5, pb b), (8, I aC), (10, I s.1), (11, cY), (12, .bool s.2.2)] ρ ∧ Ext fT w' ∧ RS bU cY s.2.1 ∧ Sub bU w' ∧ Fresh w.heap.size bU ∧ Dj bU (bx b 29 [sl aD aA.Rows aE, sl aF aA.Cols aG, sl aH aA.Lo aI, sl aJ aA.Hi aK])) (fun s => m s.1 s.2.1 s.2.2) (0, bT, b6) ⟨Hx, _, sl b7 bT b8, fU, Ee ⟨rfl, rfl, rfl, rfl, rfl, rfl, trivial⟩, (Ext.refl _), d2, fW, fX, (Mj d3 (Dl fY (Dl fZ (Dl f0 f1))) cT)⟩ ?_
   rintro ⟨aN, cZ, is⟩ _ d4 ⟨Hi, ρ, cY, bU, rfl, HF⟩
   revert HF
   refine bb5 fun X124 d5 f2 f3 f4 => ?_
   have H := H aN cZ is Hi
   obtain ⟨d6, d7, rfl⟩ := d5.shape
   refine Wq ?_
   have a9 := (fV.trans X124)
   have X135 := (X74.stepx a9)
   have d8 := (cT.ext a9)
   obtain ⟨f5, f6, H⟩ := jn_elim H
   refine W_join2 (S := Bool) (fun s ρ' w' => f5 s ∧ ∃ (ρ : Env), ρ' = setAll [(1, sl aO more aP), (5, pb b), (8, I aC), (10, I aN), (11, sl d6 cZ d7), (70, .bool s)] ρ ∧ d4 = w') ?_ ?_
   ·refine Wg (Lv ok 0 [(65, .bool is), (66, .bool is)] 2 rfl rfl ?_)
    refine LP_split 66 (is) rfl (fun c0 => ?_) (fun c0 => ?_)
    ·have H := H.1 c0
     refine Lv ok 2 [(67, I aN), (68, I aC), (69, .bool (decide (aN ≤ aC))), (70, .bool (decide (aN ≤ aC)))] 6 rfl rfl ?_
     exact Ln _ rfl ⟨decide (aN ≤ aC), H, _, Ee ⟨rfl, rfl, rfl, rfl, rfl, rfl, trivial⟩, rfl⟩
    have H := H.2 c0
    refine Lv ok 2 [(67, undef), (68, undef), (69, undef), (70, .bool false)] 6 rfl rfl ?_
    exact Ln _ rfl ⟨false, H, _, Ee ⟨rfl, rfl, rfl, rfl, rfl, rfl, trivial⟩, rfl⟩
   rintro f7 _ _ ⟨H, ρ, rfl, rfl⟩
   subst f6
   refine Wc (f7) rfl (fun c1 => ?_) (fun c1 => ?_)
   ·have H := H.1 c1
    refine Wk (W_block (Wq (Wg (Lv ok 0 [(71, I aN), (72, I (wr (aN + 1))), (10, I (wr (aN + 1)))] 3 rfl rfl (Ln _ rfl (Wg (Lb 0 (v := .agg #[sl aD aA.Rows aE, sl aF aA.Cols aG, sl aH aA.Lo aI, sl aJ aA.Hi aK]) rfl rfl rfl ti_29 ag_29 (fun h => by cases h) rfl d8 rfl rfl ?_)))))))
    refine Lv ok 1 [(75, sl d6 cZ d7)] 2 rfl rfl (Lc 2 rfl rfl rfl cal_22 rfl (impl_NextFlow_w _ _ _ H d4 o.readf (dU.ext a9) bP.readf (dW.ext a9) bQ (dY.ext a9) bR.readf (d0.ext a9) d5 f2) ?_)
    rintro _ hL ⟨bV, b9, hM, f8, H, rfl, f9, d9, gA, eA⟩
    obtain ⟨cA, cB, rfl⟩ := d9.shape
    refine Lv ok 3 [(73, .tuple #[sl cA bV cB, .bool b9]), (77, sl cA bV cB), (78, .bool b9), (11, sl cA bV cB), (12, .bool b9)] 8 rfl rfl (Ln _ rfl ?_)
    have gB := DomLe.fresh eA (Fresh.un dV (Fresh.un dX (Fresh.un dZ (Fresh.un d1 f3)))) X135.size
    have gC : Dj dD (bx b 29 [sl aD aA.Rows aE, sl aF aA.Cols aG, sl aH aA.Lo aI, sl aJ aA.Hi aK]) := (Db (Df b1 aL).symm).symm
    have gD : Dj dE (bx b 29 [sl aD aA.Rows aE, sl aF aA.Cols aG, sl aH aA.Lo aI, sl aJ aA.Hi aK]) := (Db (Df b2 aL).symm).symm
    have gE : Dj dF (bx b 29 [sl aD aA.Rows aE, sl aF aA.Cols aG, sl aH aA.Lo aI, sl aJ aA.Hi aK]) := (Db (Df b3 aL).symm).symm
    have gF : Dj dG (bx b 29 [sl aD aA.Rows aE, sl aF aA.Cols aG, sl aH aA.Lo aI, sl aJ aA.Hi aK]) := (Db (Df b4 aL).symm).symm
    exact ⟨(wr (aN + 1), bV, b9), ⟨H.1, _, sl cA bV cB, f8, Ee ⟨rfl, rfl, rfl, rfl, rfl, rfl, trivial⟩, (X124.trans f9), d9, gA, gB, (Mj eA (Dl gC (Dl gD (Dl gE (Dl gF f4)))) d8)⟩, H.2⟩
   have H := H.2 c1
   refine W_exit ?_
   refine (if_pos rfl).mpr ?_
   refine Wq (Wg (Lv ok 0 [(79, I aN), (80, I aC), (81, .bool (aN != aC))] 3 rfl rfl (Ln _ rfl ?_)))
   refine Wc (aN != aC) rfl (fun c2 => ?_) (fun c2 => ?_)
   ·have H := H.1 c2
    refine Wq (Wg (Lv ok 0 [(4, .bool false)] 1 rfl rfl (Ln _ rfl (W_ret ?_))))
    exact ⟨_, Ret_of [.bool false] ⟨⟨rfl, rfl⟩, trivial⟩, _, H, rfl, X135.ext⟩
   have H := H.2 c2
   exact Wk ⟨(), H, _, Ee ⟨rfl, trivial⟩, a9⟩
  have H := H.2 cX
  exact Wk ⟨(), H, _, Ee ⟨rfl, trivial⟩, (Ext.refl _)⟩
 rintro ⟨⟩ _ gG ⟨H, ρ, rfl, X93⟩
 subst fP
 refine Wq (Wg (Lv ok 0 [(83, sl aO more aP)] 1 rfl rfl (Lc 1 rfl rfl rfl cal_23 rfl (spec_DrawCellRange_w _ _ H gG cR ((((cS.ext xc).but y fM).ext dT).ext X93)) ?_)))
 rintro _ hN ⟨aB, bW, bX, hO, hP, hQ, hR, hS, hT, hU, hV, H, rfl, eB, HF⟩
 revert HF
 refine bb9 fun bA eC hW bB eD hX bC eE => ?_
 refine bb9 fun hY bD eF hZ h0 h1 h2 h3 => ?_
 refine bb2 fun h4 h5 => ?_
 obtain ⟨aQ, aR, rfl⟩ := bA.shape
 obtain ⟨aS, aT, rfl⟩ := bB.shape
 obtain ⟨aU, aV, rfl⟩ := bC.shape
 obtain ⟨aW, aX, rfl⟩ := bD.shape
 refine Lv ok 2 [(82, .tuple #[.agg #[sl aQ aB.Rows aR, sl aS aB.Cols aT, sl aU aB.Lo aV, sl aW aB.Hi aX], I bW, I bX]), (85, .agg #[sl aQ aB.Rows aR, sl aS aB.Cols aT, sl aU aB.Lo aV, sl aW aB.Hi aX]), (86, I bW), (87, I bX)] 6 rfl rfl (La 6 rfl rfl rfl ti_29 rfl fun bK h6 bY gH bZ => (Lx 7 (vs := [sl aQ aB.Rows aR, sl aS aB.Cols aT, sl aU aB.Lo aV, sl aW aB.Hi aX]) (cs' := [sl aQ aB.Rows aR, sl aS aB.Cols aT, sl aU aB.Lo aV, sl aW aB.Hi aX]) rfl rfl rfl ti_29 rfl rfl rfl rfl rfl gH rfl rfl fun gI eG b0 => ?_))
 refine Lv ok 8 [(14, I bW), (15, I bX)] 10 rfl rfl (Ln _ rfl (Wq (Wg (Lb 0 (v := .agg #[sl aQ aB.Rows aR, sl aS aB.Cols aT, sl aU aB.Lo aV, sl aW aB.Hi aX]) rfl rfl rfl ti_29 ag_29 (fun h => by cases h) rfl eG rfl rfl (Lv ok 1 [(90, I bW), (91, I bX)] 3 rfl rfl ?_)))))
 have gJ := (Df eC bZ).symm
 have eH := ((eC.ext bY).but b0 gJ)
 have gK := (Df eD bZ).symm
 have eI := ((eD.ext bY).but b0 gK)
 have gL := (Df eE bZ).symm
 have eJ := ((eE.ext bY).but b0 gL)
 have gM := (Df eF bZ).symm
 have eK := ((eF.ext bY).but b0 gM)
 refine Lc 3 rfl rfl rfl cal_24 rfl (impl_CellRange_w _ _ _ _ H gI bA.readf eH bB.readf eI bC eJ bD.readf eK) ?_
 rintro _ gN ⟨aY, a1, a2, H, rfl, bL⟩
 refine Lv ok 4 [(88, .tuple #[I aY, I a1, .bool a2]), (93, I aY), (94, I a1), (95, .bool a2), (16, I aY), (17, I a1), (18, .bool a2)] 11 rfl rfl (Ln _ rfl (Wq (Wg ?_)))
 have eL := (eG.ext bL)
 refine Lb 0 (v := .agg #[sl aQ aB.Rows aR, sl aS aB.Cols aT, sl aU aB.Lo aV, sl aW aB.Hi aX]) rfl rfl rfl ti_29 ag_29 (fun h => by cases h) rfl eL rfl rfl (Lv ok 1 [(98, I bW), (99, I bX)] 3 rfl rfl ?_)
 have eM := (eH.ext bL)
 have eN := (eI.ext bL)
 have eO := (eJ.ext bL)
 have eP := (eK.ext bL)
 refine Lc 3 rfl rfl rfl cal_25 rfl (spec_CellRange_w _ _ _ _ H gN bA.readf eM bB.readf eN bC eO bD.readf eP) ?_
 rintro _ eQ ⟨aZ, a3, a4, H, rfl, bM⟩
 refine Lv ok 4 [(96, .tuple #[I aZ, I a3, .bool a4]), (101, I aZ), (102, I a3), (103, .bool a4), (19, I aZ), (20, I a3), (21, .bool a4)] 11 rfl rfl (Ln _ rfl ?_)
 try refine Wo [(13, pb bK), (16, I aY), (17, I a1), (18, .bool a2), (19, I aZ), (20, I a3), (21, .bool a4)] ⟨rfl, rfl, rfl, rfl, rfl, rfl, rfl, trivial⟩ fun ρ => ?_
 refine Wq ?_
 have gO := bZ.mono (X74.stepx (X93.trans eB)).size
 have X247 := (((X74.stepx ((X93.trans eB).trans bY)).step b0 (gO.dom _)).stepx (bL.trans bM))
 have eR := (eM.ext bM)
 have eS := (eN.ext bM)
 have eT := (eO.ext bM)
 have eU := (eP.ext bM)
 have eV := (eL.ext bM)
 obtain ⟨gP, gQ, H⟩ := jn_elim H
 refine W_join2 (S := Bool) (fun s ρ' w' => gP s ∧ ∃ (ρ : Env), ρ' = setAll [(13, pb bK), (116, .bool s)] ρ ∧ eQ = w') ?_ ?_
 ·refine Wg (Lv ok 0 [(104, .bool a2), (105, .bool a4), (106, .bool (a2 != a4)), (107, .bool (a2 != a4))] 4 rfl rfl ?_)
  refine LP_split 107 (a2 != a4) rfl (fun c3 => ?_) (fun c3 => ?_)
  ·have H := H.1 c3
   refine Lv ok 4 [(108, undef), (109, undef), (110, undef), (111, .bool true), (112, .bool true), (113, undef), (114, undef), (115, undef), (116, .bool true)] 13 rfl rfl ?_
   exact Ln _ rfl ⟨true, H, _, Ee ⟨rfl, rfl, trivial⟩, rfl⟩
  have H := H.2 c3
  refine Lv ok 4 [(108, I aY), (109, I aZ), (110, .bool (aY != aZ)), (111, .bool (aY != aZ)), (112, .bool (aY != aZ))] 9 rfl rfl ?_
  refine LP_split 112 (aY != aZ) rfl (fun c4 => ?_) (fun c4 => ?_)
  ·have H := H.1 c4
   refine Lv ok 9 [(113, undef), (114, undef), (115, undef), (116, .bool true)] 13 rfl rfl ?_
   exact Ln _ rfl ⟨true, H, _, Ee ⟨rfl, rfl, trivial⟩, rfl⟩
  have H := H.2 c4
  refine Lv ok 9 [(113, I a1), (114, I a3), (115, .bool (a1 != a3)), (116, .bool (a1 != a3))] 13 rfl rfl ?_
  exact Ln _ rfl ⟨a1 != a3, H, _, Ee ⟨rfl, rfl, trivial⟩, rfl⟩
 rintro gR _ _ ⟨H, ρ, rfl, rfl⟩
 subst gQ
 refine Wc (gR) rfl (fun c5 => ?_) (fun c5 => ?_)
 ·have H := H.1 c5
  refine Wq (Wg (Lv ok 0 [(4, .bool false)] 1 rfl rfl (Ln _ rfl (W_ret ?_))))
  exact ⟨_, Ret_of [.bool false] ⟨⟨rfl, rfl⟩, trivial⟩, _, H, rfl, X247.ext⟩
 have H := H.2 c5
 refine Wk (Wq (Wg (Lb 0 (v := .agg #[sl aQ aB.Rows aR, sl aS aB.Cols aT, sl aU aB.Lo aV, sl aW aB.Hi aX]) rfl rfl rfl ti_29 ag_29 (fun h => by cases h) rfl eV rfl rfl (Lc 1 rfl rfl rfl cal_26 rfl (impl_AllRanges_w _ _ H eQ bA.readf eR bB.readf eS bC eT bD.readf eU) ?_))))
 rintro _ gS ⟨cC, cD, bE, h7, h8, h9, iA, H, rfl, bN, HF⟩
 revert HF
 refine bb7 fun eW gT iB eX gU iC iD => ?_
 obtain ⟨cE, cF, rfl⟩ := eW.shape
 obtain ⟨cG, cH, rfl⟩ := eX.shape
 refine Lv ok 2 [(117, .tuple #[sl cE cC cF, sl cG cD cH, .bool bE]), (120, sl cE cC cF), (121, sl cG cD cH), (122, .bool bE), (22, sl cE cC cF), (23, sl cG cD cH), (24, .bool bE)] 9 rfl rfl (Ln _ rfl (Wq (Wg ?_)))
 have eY := (eV.ext bN)
 refine Lb 0 (v := .agg #[sl aQ aB.Rows aR, sl aS aB.Cols aT, sl aU aB.Lo aV, sl aW aB.Hi aX]) rfl rfl rfl ti_29 ag_29 (fun h => by cases h) rfl eY rfl rfl ?_
 have eZ := (eR.ext bN)
 have e0 := (eS.ext bN)
 have e1 := (eT.ext bN)
 have e2 := (eU.ext bN)
 refine Lc 1 rfl rfl rfl cal_27 rfl (spec_AllRanges_w _ _ H gS bA.readf eZ bB.readf e0 bC e1 bD.readf e2) ?_
 rintro _ e3 ⟨cI, cJ, bF, iE, iF, iG, iH, H, rfl, a5, HF⟩
 revert HF
 refine bb7 fun e4 gV iI e5 gW iJ iK => ?_
 obtain ⟨cK, cL, rfl⟩ := e4.shape
 obtain ⟨cM, cN, rfl⟩ := e5.shape
 refine Lv ok 2 [(123, .tuple #[sl cK cI cL, sl cM cJ cN, .bool bF]), (126, sl cK cI cL), (127, sl cM cJ cN), (128, .bool bF), (25, sl cK cI cL), (26, sl cM cJ cN), (27, .bool bF)] 9 rfl rfl (Ln _ rfl (Wq ?_))
 have X311 := (X247.stepx (bN.trans a5))
 obtain ⟨gX, gY, H⟩ := jn_elim H
 refine W_join2 (S := Bool) (fun s ρ' w' => gX s ∧ ∃ (ρ : Env), ρ' = setAll [(13, pb bK), (143, .bool s)] ρ ∧ Ext e3 w') ?_ ?_
 ·refine Wg (Lv ok 0 [(129, .bool bE), (130, .bool bF), (131, .bool (bE != bF)), (132, .bool (bE != bF))] 4 rfl rfl ?_)
  refine LP_split 132 (bE != bF) rfl (fun c6 => ?_) (fun c6 => ?_)
  ·have H := H.1 c6
   refine Lv ok 4 [(133, undef), (134, undef), (135, undef), (136, undef), (137, .bool true), (138, .bool true), (139, undef), (140, undef), (141, undef), (142, undef), (143, .bool true)] 15 rfl rfl (Ln _ rfl ?_)
   try refine Wo [(13, pb bK), (143, .bool true)] ⟨rfl, rfl, trivial⟩ fun ρ => ?_
   exact ⟨true, H, _, Ee ⟨rfl, rfl, trivial⟩, (Ext.refl _)⟩
  have H := H.2 c6
  refine Lv ok 4 [(133, sl cE cC cF), (134, sl cK cI cL)] 6 rfl rfl (Lc 6 rfl rfl rfl cal_28 rfl (laws_sameLists_w _ _ _ H e3 eW.readf (gT.ext a5) e4.readf gV) ?_)
  rintro _ gZ ⟨cO, H, rfl, cP⟩
  refine Lv ok 7 [(136, .bool (!cO)), (137, .bool (!cO)), (138, .bool (!cO))] 10 rfl rfl ?_
  refine LP_split 138 (!cO) rfl (fun c7 => ?_) (fun c7 => ?_)
  ·have H := H.1 c7
   refine Lv ok 10 [(139, undef), (140, undef), (141, undef), (142, undef), (143, .bool true)] 15 rfl rfl (Ln _ rfl ?_)
   try refine Wo [(13, pb bK), (143, .bool true)] ⟨rfl, rfl, trivial⟩ fun ρ => ?_
   exact ⟨true, H, _, Ee ⟨rfl, rfl, trivial⟩, cP⟩
  have H := H.2 c7
  refine Lv ok 10 [(139, sl cG cD cH), (140, sl cM cJ cN)] 12 rfl rfl (Lc 12 rfl rfl rfl cal_28 rfl (laws_sameLists_w _ _ _ H gZ eX.readf ((gU.ext a5).ext cP) e5.readf (gW.ext cP)) ?_)
  rintro _ iL ⟨cQ, H, rfl, g0⟩
  refine Lv ok 13 [(142, .bool (!cQ)), (143, .bool (!cQ))] 15 rfl rfl (Ln _ rfl ?_)
  try refine Wo [(13, pb bK), (143, .bool (!cQ))] ⟨rfl, rfl, trivial⟩ fun ρ => ?_
  exact ⟨!cQ, H, _, Ee ⟨rfl, rfl, trivial⟩, (cP.trans g0)⟩
 rintro g1 _ g2 ⟨H, ρ, rfl, X326⟩
 subst gY
 refine Wc (g1) rfl (fun c8 => ?_) (fun c8 => ?_)
 ·have H := H.1 c8
  refine Wq (Wg (Lv ok 0 [(4, .bool false)] 1 rfl rfl (Ln _ rfl (W_ret ?_))))
  exact ⟨_, Ret_of [.bool false] ⟨⟨rfl, rfl⟩, trivial⟩, _, H, rfl, (X311.stepx X326).ext⟩
 have H := H.2 c8
 refine Wk (Wq (Wg ?_))
 have e6 := ((eY.ext a5).ext X326)
 refine Lb 0 (v := .agg #[sl aQ aB.Rows aR, sl aS aB.Cols aT, sl aU aB.Lo aV, sl aW aB.Hi aX]) rfl rfl rfl ti_29 ag_29 (fun h => by cases h) rfl e6 rfl rfl ?_
 have e7 := ((eZ.ext a5).ext X326)
 have e8 := ((e0.ext a5).ext X326)
 have e9 := ((e1.ext a5).ext X326)
 have fA := ((e2.ext a5).ext X326)
 refine Lc 1 rfl rfl rfl cal_29 rfl (impl_BestFill_w _ _ H g2 bA.readf e7 bB.readf e8 bC e9 bD.readf fA) ?_
 rintro _ g3 ⟨a6, bG, H, rfl, bO⟩
 refine Lv ok 2 [(144, .tuple #[I a6, .bool bG]), (147, I a6), (148, .bool bG), (28, I a6), (29, .bool bG)] 7 rfl rfl (Ln _ rfl (Wq (Wg (Lb 0 (v := .agg #[sl aQ aB.Rows aR, sl aS aB.Cols aT, sl aU aB.Lo aV, sl aW aB.Hi aX]) rfl rfl rfl ti_29 ag_29 (fun h => by cases h) rfl (e6.ext bO) rfl rfl (Lc 1 rfl rfl rfl cal_30 rfl (spec_BestFill_w _ _ H g3 bA.readf (e7.ext bO) bB.readf (e8.ext bO) bC (e9.ext bO) bD.readf (fA.ext bO)) ?_)))))
 rintro _ g4 ⟨a7, bH, H, rfl, g5⟩
 refine Lv ok 2 [(149, .tuple #[I a7, .bool bH]), (152, I a7), (153, .bool bH), (30, I a7), (31, .bool bH)] 7 rfl rfl (Ln _ rfl ?_)
 obtain ⟨g6, g7, H⟩ := jn_elim H
 refine W_join2 (S := Bool) (fun s ρ' w' => g6 s ∧ ∃ (ρ : Env), ρ' = setAll [(4, .bool s)] ρ ∧ g4 = w') ?_ ?_
 ·refine Wg (Lv ok 0 [(154, .bool bG), (155, .bool bH), (156, .bool (bG == bH)), (157, .bool (bG == bH))] 4 rfl rfl ?_)
  refine LP_split 157 (bG == bH) rfl (fun c9 => ?_) (fun c9 => ?_)
  ·have H := H.1 c9
   refine Lv ok 4 [(158, I a6), (159, I a7), (160, .bool (a6 == a7)), (161, .bool (a6 == a7)), (4, .bool (a6 == a7))] 9 rfl rfl ?_
   exact Ln _ rfl ⟨a6 == a7, H, _, Ee ⟨rfl, trivial⟩, rfl⟩
  have H := H.2 c9
  refine Lv ok 4 [(158, undef), (159, undef), (160, undef), (161, .bool false), (4, .bool false)] 9 rfl rfl ?_
  exact Ln _ rfl ⟨false, H, _, Ee ⟨rfl, trivial⟩, rfl⟩
 rintro g8 _ _ ⟨H, ρ, rfl, rfl⟩
 subst g7
 refine W_ret ?_
 exact ⟨_, Ret_of [.bool g8] ⟨⟨rfl, rfl⟩, trivial⟩, _, H, rfl, (X311.stepx ((X326.trans bO).trans g5)).ext⟩

end Go.Proofs.Ytommbnkecafodaa
