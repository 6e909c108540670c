/- The walks, further. -/
import Derived.Test.YtommbnkecafodaaRWalk
set_option linter.unusedVariables false
set_option autoImplicit false
namespace Go.Proofs.Ytommbnkecafodaa
open Go Go.RowKit Go.Gv

open Go.Proofs
set_option maxRecDepth 8000
set_option maxHeartbeats 4000000
theorem spec_tLow_w (t : Transport) (i : Int) (j : Int) (Q : Int → Prop) (H : spec_tLow t i j Q) (w : World) {vx : Value} {hx : PH} (r : RS hx vx t.Rows) (ex : Sub hx w) {aZ : Value} {a0 : PH} (a1 : RS a0 aZ t.Cols) (bO : Sub a0 w) {a2 : Value} {a3 : PH} (aN : RS a3 a2 t.Lo) (bP : Sub a3 w) {a4 : Value} {a5 : PH} (aQ : RS a5 a4 t.Hi) (bQ : Sub a5 w) :
  CallsTo Try.prog 60 #[.agg #[vx, aZ, a2, a4], I i, I j] w fun v w' => ∃ a6, Q a6 ∧ v = I a6 ∧ Ext w w' := by
 obtain ⟨a, c, rfl⟩ := r.shape
 obtain ⟨aK, aL, rfl⟩ := a1.shape
 obtain ⟨aC, aD, rfl⟩ := aN.shape
 obtain ⟨aH, aI, rfl⟩ := aQ.shape
 refine enter (args := [.agg #[sl a t.Rows c, sl aK t.Cols aL, sl aC t.Lo aD, sl aH t.Hi aI], I i, I j]) 57 Try.func60 rfl rfl rfl ?_
 refine Wo [(0, .agg #[sl a t.Rows c, sl aK t.Cols aL, sl aC t.Lo aD, sl aH t.Hi aI]), (1, I i), (2, I j)] ⟨rfl, rfl, rfl, trivial⟩ fun ρ => ?_
 have X := Br emp w
 refine Wq (Wg (Ly 0 (cs := [sl a t.Rows c, sl aK t.Cols aL, sl aC t.Lo aD, sl aH t.Hi aI]) rfl rfl rfl rfl rfl fun b wx x aR f => (Lv ok 1 [(6, I 0)] 2 rfl rfl (Ln _ rfl (Wq ?_)))))
 refine W_quiet mix (by kernel_rfl) ?_
 refine QP_ev ok 0 [(12, .pointer (some ⟨b, 2, none⟩))] 1 rfl rfl ?_
 refine QP_ldbox 1 (v := sl aC t.Lo aD) rfl rfl rfl ti_23 ag_23 (fun _ => rfl) rfl aR rfl rfl ?_
 refine QP_ev ok 2 [(14, I i)] 3 rfl rfl ?_
 obtain ⟨c3, hi, bR, H⟩ := H
 refine QP_index 3 rfl rfl rfl Try.underlying23 ti_22 rfl rfl aN hi bR fun c4 cs bS d => ?_
 have aS := (bP.ext x)
 refine QP_load 4 rfl rfl rfl ti_22 ag_22 rfl bS d aS fun c5 bT => ?_
 have a7 := bT.slice
 obtain ⟨c6, c7, rfl⟩ := a7.shape
 refine QP_ev ok 5 [(17, I j)] 6 rfl rfl ?_
 obtain ⟨a8, bU, bV, H⟩ := H
 refine QP_index 6 rfl rfl rfl Try.underlying22 ti_3 rfl rfl a7 bU bV fun c8 c9 bW bX => ?_
 refine QP_load 7 rfl rfl rfl ti_3 ag_3 rfl bW bX aS fun dA bY => ?_
 obtain rfl := bY.int
 refine QP_ev ok 8 [(20, .pointer (some ⟨b, 3, none⟩))] 9 rfl rfl ?_
 refine QP_ldbox 9 (v := sl aH t.Hi aI) rfl rfl rfl ti_23 ag_23 (fun _ => rfl) rfl aR rfl rfl ?_
 refine QP_ev ok 10 [(22, I i)] 11 rfl rfl ?_
 obtain ⟨dB, bZ, b0, H⟩ := H
 refine QP_index 11 rfl rfl rfl Try.underlying23 ti_22 rfl rfl aQ bZ b0 fun dC dD b1 b2 => ?_
 have aT := (bQ.ext x)
 refine QP_load 12 rfl rfl rfl ti_22 ag_22 rfl b1 b2 aT fun dE b3 => ?_
 have a9 := b3.slice
 obtain ⟨dF, dG, rfl⟩ := a9.shape
 refine QP_ev ok 13 [(25, I j)] 14 rfl rfl ?_
 obtain ⟨bA, b4, b5, H⟩ := H
 refine QP_index 14 rfl rfl rfl Try.underlying22 ti_3 rfl rfl a9 b4 b5 fun dH dI b6 b7 => ?_
 refine QP_load 15 rfl rfl rfl ti_3 ag_3 rfl b6 b7 aT fun dJ b8 => ?_
 obtain rfl := b8.int
 refine QP_ev ok 16 [(7, I a8), (8, I bA)] 18 rfl rfl ?_
 refine QP_end _ rfl fun b9 aU => ?_
 refine Wq (W_block ?_)
 obtain ⟨J, m, Hx, H⟩ := H
 refine W_loop (S := Int × Int) (fun s ρ' w' => J s.1 s.2 ∧ ∃ (ρ : Env), ρ' = setAll [(1, I i), (2, I j), (3, pb b), (7, I s.1), (8, I s.2)] ρ ∧ Ext b9 w') (fun s => m s.1 s.2) (a8, bA) ⟨Hx, _, Ee ⟨rfl, rfl, rfl, rfl, rfl, trivial⟩, (Ext.refl _)⟩ ?_
 rintro ⟨lo, aA⟩ _ dK ⟨Hi, ρ, rfl, X65⟩
 have H := H lo aA Hi
 refine Wq (Wq (Wg (Lv ok 0 [(28, I lo), (29, I aA), (30, .bool (decide (lo < aA)))] 3 rfl rfl (Ln _ rfl ?_))))
 refine Wc (decide (lo < aA)) rfl (fun hc => ?_) (fun hc => ?_)
 ·have H := H.1 hc
  refine Wk (W_block (Wq (Wg (Lv ok 0 [(31, I lo), (32, I aA), (33, I (wr (lo + aA)))] 3 rfl rfl (LP_val 3 _ rfl rfl (ex_quo rfl rfl rfl (by decide) _) (Lv ok 4 [(9, I (wr (Int.tdiv (wr (lo + aA)) 2)))] 5 rfl rfl (Ln _ rfl (Wq ?_))))))))
  refine W_open mix fun dL aO => ?_
  refine AP_game 18 [[], [], [], [], [3], [], [3, 4, 5], [3, 4, 5, 6], [], [3, 4, 5, 6, 7, 8], [3, 4, 5, 6, 7, 8, 9], [], [0, 1, 2, 3, 4, 5, 6, 7, 8, 9, 10, 11], [0, 1, 2, 3, 4, 5, 6, 7, 8, 9, 10, 11, 12], [0, 1, 2, 3, 4, 5, 6, 7, 8, 9, 10, 11, 12, 13], [0, 1, 2, 3, 4, 5, 6, 7, 8, 9, 10, 11, 12, 13, 14], [0, 1, 2, 3, 4, 5, 6, 7, 8, 9, 10, 11, 12, 13, 14], [0, 1, 2, 3, 4, 5, 6, 7, 8, 9, 10, 11, 12, 13, 14, 15], [0, 1, 2, 3, 4, 5, 6, 7, 8, 9, 10, 11, 12, 13, 14, 15, 16, 17]] [[(3, none)], [(1, none)], [(2, none)], [(3, none)], [(39, some 3)], [(1, none)], [(40, some 4), (41, some 5)], [(42, some 6)], [(2, none)], [(43, some 7), (44, some 8)], [(45, some 9)], [(9, none)], [(36, some 0), (37, some 1), (38, some 2), (46, some 10), (47, some 11)], [(48, some 12)], [(49, some 13)], [(35, some 14)], [(35, some 14)], [(50, some 15)]] [(1, none), (2, none), (3, none), (7, none), (8, none), (9, none), (51, some 16)] [(0, false), (1, false), (2, false), (3, false), (4, false), (5, false), (6, false), (7, false), (8, false), (9, false), (10, false), (11, false), (12, true), (13, true), (14, false), (15, false), (16, false), (17, false)] (by kernel_rfl) (by kernel_rfl) ?_
  have xc := ((aU.trans X65).trans aO)
  have bB := (aR.ext xc)
  refine GS_r1 [(3, pb b)] (.agg #[sl a t.Rows c, sl aK t.Cols aL, sl aC t.Lo aD, sl aH t.Hi aI]) rfl rfl (fun _ h => h) (fun _ w e => ex_ldbox rfl ti_29 ag_29 (fun h => by cases h) rfl e rfl rfl) bB ?_
  refine GS_ev ok [(1, I i)] (I i) rfl rfl (fun _ h => h) (fun _ => rfl) ?_
  refine GS_ev ok [(2, I j)] (I j) rfl rfl (fun _ h => h) (fun _ => rfl) ?_
  refine GS_ev ok [(3, pb b)] (.pointer (some ⟨b, 2, none⟩)) rfl rfl (fun _ h => h) (fun _ => rfl) ?_
  refine GS_r1 [(39, .pointer (some ⟨b, 2, none⟩))] (sl aC t.Lo aD) rfl rfl (fun _ h => h) (fun _ w e => ex_ldbox rfl ti_23 ag_23 (fun _ => rfl) rfl e rfl rfl) bB ?_
  refine GS_ev ok [(1, I i)] (I i) rfl rfl (fun _ h => h) (fun _ => rfl) ?_
  obtain ⟨aV, cA, cB, H⟩ := H
  obtain ⟨bC, dM, cC, cD, cE⟩ := run_indexAt Try.underlying23 ti_22 aN .i64 _ aV cA cB
  refine GS_r0 [(40, sl aC t.Lo aD), (41, I i)] (.pointer (some bC)) rfl rfl (fun _ h => h) (fun _ _ => ex_index rfl rfl rfl (cC _)) ?_
  obtain ⟨dN, cF, cG⟩ := run_loadAt ti_22 ag_22 cD cE
  have bD := cG.slice
  obtain ⟨bE, bF, rfl⟩ := bD.shape
  have aW := (aS.ext xc)
  refine GS_r1 [(42, .pointer (some bC))] (sl bE aV bF) rfl rfl (fun _ h => h) (fun _ w e => ex_load rfl rfl (cF w e)) aW ?_
  refine GS_ev ok [(2, I j)] (I j) rfl rfl (fun _ h => h) (fun _ => rfl) ?_
  obtain ⟨aX, cH, cI, H⟩ := H
  obtain ⟨bG, dO, cJ, cK, cL⟩ := run_indexAt Try.underlying22 ti_3 bD .i64 _ aX cH cI
  refine GS_r0 [(43, sl bE aV bF), (44, I j)] (.pointer (some bG)) rfl rfl (fun _ h => h) (fun _ _ => ex_index rfl rfl rfl (cJ _)) ?_
  obtain ⟨dP, cM, cN⟩ := run_loadAt ti_3 ag_3 cK cL
  obtain rfl := cN.int
  refine GS_r1 [(45, .pointer (some bG))] (I aX) rfl rfl (fun _ h => h) (fun _ w e => ex_load rfl rfl (cM w e)) aW ?_
  refine GS_ev ok [(9, I (wr (Int.tdiv (wr (lo + aA)) 2)))] (I (wr (Int.tdiv (wr (lo + aA)) 2))) rfl rfl (fun _ h => h) (fun _ => rfl) ?_
  refine GS_lp [(36, .agg #[sl a t.Rows c, sl aK t.Cols aL, sl aC t.Lo aD, sl aH t.Hi aI]), (37, I i), (38, I j), (46, I aX), (47, I (wr (Int.tdiv (wr (lo + aA)) 2)))] rfl rfl (fun _ h => h) rfl fun ρ cO aM => ?_
  have bH := ((((x.trans aU).trans X65).trans aO).trans aM)
  refine Lc 0 rfl rfl rfl cal_70 rfl (spec_tWith_w _ _ _ _ _ _ H cO r (ex.ext bH) a1 (bO.ext bH) aN (aW.ext aM) aQ (aT.ext (xc.trans aM))) ?_
  rintro _ dQ ⟨aP, dR, dS, dT, dU, dV, dW, dX, dY, H, rfl, bI, HF⟩
  revert HF
  refine bb9 fun o cP dZ bJ cQ d0 bK cR => ?_
  refine bb9 fun d1 bL cS d2 d3 d4 d5 d6 d7 => ?_
  obtain ⟨cT, cU, rfl⟩ := o.shape
  obtain ⟨cV, cW, rfl⟩ := bJ.shape
  obtain ⟨cX, cY, rfl⟩ := bK.shape
  obtain ⟨cZ, c0, rfl⟩ := bL.shape
  refine LP_gs ⟨⟨.inl rfl, .inl rfl, .inl rfl, .inl rfl, trivial⟩, ?_⟩
  refine GS_lp [(48, .agg #[sl cT aP.Rows cU, sl cV aP.Cols cW, sl cX aP.Lo cY, sl cZ aP.Hi c0])] rfl rfl (fun _ h => h) rfl fun ρ c1 aJ => ?_
  refine Lc 0 rfl rfl rfl cal_33 rfl (spec_tFeasible_w _ _ H c1 o (cP.ext aJ) bJ (cQ.ext aJ) bK.readf (cR.ext aJ) bL.readf (cS.ext aJ)) ?_
  rintro _ d8 ⟨aE, aB, d9, eA, H, rfl, bM, c2, eB, eC⟩
  obtain ⟨aF, aG, rfl⟩ := c2.shape
  refine LP_gs ⟨⟨.inl rfl, .inl rfl, .inl rfl, .inl rfl, trivial⟩, ?_⟩
  refine GS_ev ok [(49, .tuple #[sl aF aE aG, .bool aB])] (.tuple #[sl aF aE aG, .bool aB]) rfl rfl (fun _ h => h) (fun _ => rfl) ?_
  refine GS_ev ok [(35, .tuple #[sl aF aE aG, .bool aB])] (sl aF aE aG) rfl rfl (fun _ h => h) (fun _ => rfl) ?_
  refine GS_ev ok [(35, .tuple #[sl aF aE aG, .bool aB])] (.bool aB) rfl rfl (fun _ h => h) (fun _ => rfl) ?_
  refine GS_ev ok [(50, sl aF aE aG)] (sl aF aE aG) rfl rfl (fun _ h => h) (fun _ => rfl) ?_
  intro eD bN ρ hn
  refine AP_forget [(1, I i), (2, I j), (3, pb b), (7, I lo), (8, I aA), (9, I (wr (Int.tdiv (wr (lo + aA)) 2))), (51, .bool aB)] (by exact hn) fun ρ => ?_
  refine AP_tail 18 [[], [], [], [], [3], [], [3, 4, 5], [3, 4, 5, 6], [], [3, 4, 5, 6, 7, 8], [3, 4, 5, 6, 7, 8, 9], [], [0, 1, 2, 3, 4, 5, 6, 7, 8, 9, 10, 11], [0, 1, 2, 3, 4, 5, 6, 7, 8, 9, 10, 11, 12], [0, 1, 2, 3, 4, 5, 6, 7, 8, 9, 10, 11, 12, 13], [0, 1, 2, 3, 4, 5, 6, 7, 8, 9, 10, 11, 12, 13, 14], [0, 1, 2, 3, 4, 5, 6, 7, 8, 9, 10, 11, 12, 13, 14], [0, 1, 2, 3, 4, 5, 6, 7, 8, 9, 10, 11, 12, 13, 14, 15], [0, 1, 2, 3, 4, 5, 6, 7, 8, 9, 10, 11, 12, 13, 14, 15, 16, 17]] (by kernel_rfl) ?_
  refine Lv ok 18 [(11, .bool aB)] 19 rfl rfl (Ln _ rfl (Wq (Wg (Lv ok 0 [(52, .bool aB)] 1 rfl rfl (Ln _ rfl ?_)))))
  refine Wc (aB) rfl (fun aY => ?_) (fun aY => ?_)
  ·have H := H.1 aY
   refine Wg (Lv ok 0 [(53, I (wr (Int.tdiv (wr (lo + aA)) 2))), (8, I (wr (Int.tdiv (wr (lo + aA)) 2)))] 2 rfl rfl ?_)
   exact Ln _ rfl ⟨(lo, wr (Int.tdiv (wr (lo + aA)) 2)), ⟨H.1, _, Ee ⟨rfl, rfl, rfl, rfl, rfl, trivial⟩, ((((((X65.trans aO).trans aM).trans bI).trans aJ).trans bM).trans bN)⟩, H.2⟩
  have H := H.2 aY
  refine Wg (Lv ok 0 [(54, I (wr (Int.tdiv (wr (lo + aA)) 2))), (55, I (wr ((wr (Int.tdiv (wr (lo + aA)) 2)) + 1))), (7, I (wr ((wr (Int.tdiv (wr (lo + aA)) 2)) + 1)))] 3 rfl rfl ?_)
  exact Ln _ rfl ⟨(wr ((wr (Int.tdiv (wr (lo + aA)) 2)) + 1), aA), ⟨H.1, _, Ee ⟨rfl, rfl, rfl, rfl, rfl, trivial⟩, ((((((X65.trans aO).trans aM).trans bI).trans aJ).trans bM).trans bN)⟩, H.2⟩
 have H := H.2 hc
 refine W_exit ?_
 refine (if_pos rfl).mpr ?_
 refine Wq (Wg (Lv ok 0 [(56, I lo), (6, I lo)] 2 rfl rfl (Ln _ rfl (W_ret ?_))))
 exact ⟨_, Ret_of [I lo] ⟨⟨rfl, rfl⟩, trivial⟩, _, H, rfl, (X.stepx ((x.trans aU).trans X65)).ext⟩

theorem spec_tCounter_run_w (c : TCounter) (t : Transport) (k : Int) (Q : Int → Int → Prop) (H : spec_tCounter_run c t k Q) (w : World) {b : Nat} (ex : Sub (bx b 55 [I c.N, I c.Most]) w) {vx : Value} {hx : PH} (r : RS hx vx t.Rows) (a5 : Sub hx w) {aM : Value} {aC : PH} (aN : RS aC aM t.Cols) (a6 : Sub aC w) {aO : Value} {aD : PH} (aP : RS aD aO t.Lo) (a7 : Sub aD w) {aQ : Value} {aE : PH} (aI : RS aE aQ t.Hi) (a8 : Sub aE w) (d : Dj (bx b 55 [I c.N, I c.Most]) hx) (a0 : Dj (bx b 55 [I c.N, I c.Most]) aC) (a1 : Dj (bx b 55 [I c.N, I c.Most]) aD) (a2 : Dj (bx b 55 [I c.N, I c.Most]) aE) :
  CallsTo Try.prog 34 #[pb b, .agg #[vx, aM, aO, aQ], I k] w fun v w' => ∃ m1_0 m1_1, Q m1_0 m1_1 ∧ v = .tuple #[] ∧ But (bx b 55 [I c.N, I c.Most]) w w' ∧ Sub (bx b 55 [I m1_0, I m1_1]) w' := by
 obtain ⟨S, mu, H0, HS⟩ := H
 have key : ∀ (m : Nat) (c : TCounter) (t : Transport) (k : Int) (Q : Int → Int → Prop), S c t k Q → mu c t k < m → ∀ (w : World) {b : Nat} (ex : Sub (bx b 55 [I c.N, I c.Most]) w) {vx : Value} {hx : PH} (r : RS hx vx t.Rows) (a5 : Sub hx w) {aM : Value} {aC : PH} (aN : RS aC aM t.Cols) (a6 : Sub aC w) {aO : Value} {aD : PH} (aP : RS aD aO t.Lo) (a7 : Sub aD w) {aQ : Value} {aE : PH} (aI : RS aE aQ t.Hi) (a8 : Sub aE w) (d : Dj (bx b 55 [I c.N, I c.Most]) hx) (a0 : Dj (bx b 55 [I c.N, I c.Most]) aC) (a1 : Dj (bx b 55 [I c.N, I c.Most]) aD) (a2 : Dj (bx b 55 [I c.N, I c.Most]) aE), CallsTo Try.prog 34 #[pb b, .agg #[vx, aM, aO, aQ], I k] w fun v w' => ∃ m1_0 m1_1, Q m1_0 m1_1 ∧ v = .tuple #[] ∧ But (bx b 55 [I c.N, I c.Most]) w w' ∧ Sub (bx b 55 [I m1_0, I m1_1]) w' := by
  intro m
  induction m with
  | zero => intro c t k Q _ hm; exact absurd hm (Nat.not_lt_zero _)
  | succ m ih =>
   intro c t k Q H0 hm w b ex vx hx r a5 aM aC aN a6 aO aD aP a7 aQ aE aI a8 d a0 a1 a2
   have H := HS c t k Q H0
   obtain ⟨a, aR, rfl⟩ := r.shape
   obtain ⟨aS, aT, rfl⟩ := aN.shape
   obtain ⟨a3, a4, rfl⟩ := aP.shape
   obtain ⟨aU, aV, rfl⟩ := aI.shape
   refine enter (args := [pb b, .agg #[sl a t.Rows aR, sl aS t.Cols aT, sl a3 t.Lo a4, sl aU t.Hi aV], I k]) 81 Try.func34 rfl rfl rfl ?_
   refine Wo [(0, pb b), (1, .agg #[sl a t.Rows aR, sl aS t.Cols aT, sl a3 t.Lo a4, sl aU t.Hi aV]), (2, I k)] ⟨rfl, rfl, rfl, trivial⟩ fun ρ => ?_
   have D : Dom (bx b 55 [I c.N, I c.Most]) (bx b 55 [I c.N, I c.Most]) := (Or _)
   have X := Br (bx b 55 [I c.N, I c.Most]) w
   refine Wq (Wg (Ly 0 (cs := [sl a t.Rows aR, sl aS t.Cols aT, sl a3 t.Lo a4, sl aU t.Hi aV]) rfl rfl rfl rfl rfl fun aJ wx x bH f => (Ln _ rfl (Wq (Wg (Lv ok 0 [(13, .pointer (some ⟨aJ, 1, none⟩))] 1 rfl rfl (Lb 1 (v := sl aS t.Cols aT) rfl rfl rfl ti_22 ag_22 (fun _ => rfl) rfl bH rfl rfl (Lv ok 2 [(15, I (ln t.Cols)), (6, I (ln t.Cols))] 4 rfl rfl ?_))))))))
   refine Ln _ rfl (Wq (Wq (Wg (Lv ok 0 [(16, I k), (17, pb aJ)] 2 rfl rfl (Lb 2 (v := sl a t.Rows aR) rfl rfl rfl ti_22 ag_22 (fun _ => rfl) rfl bH rfl rfl (Lv ok 3 [(19, I (ln t.Rows)), (20, I (ln t.Cols)), (21, I (wr ((ln t.Rows) * (ln t.Cols)))), (22, .bool (k == (wr ((ln t.Rows) * (ln t.Cols)))))] 7 rfl rfl (Ln _ rfl ?_)))))))
   refine Wc (k == (wr ((ln t.Rows) * (ln t.Cols)))) rfl (fun hc => ?_) (fun hc => ?_)
   ·have H := H.1 hc
    refine Wq (Wg (Lv ok 0 [(23, pb b), (24, pb b), (25, pb b)] 3 rfl rfl ?_))
    have bU := (ex.ext x)
    refine Lb 3 (v := I c.N) rfl rfl rfl ti_3 ag_3 (fun _ => rfl) rfl bU rfl rfl (Lv ok 4 [(27, I (wr (c.N + 1))), (28, pb b), (29, pb b)] 7 rfl rfl (Lx 7 (vs := [I (wr (c.N + 1))]) (cs' := [I (wr (c.N + 1)), I c.Most]) rfl rfl rfl ti_3 rfl rfl rfl rfl rfl bU rfl rfl fun dN cF y => (Ln _ rfl (W_ret ?_))))
    exact ⟨_, Ret_of [] trivial, _, _, H, rfl, ((X.stepx x).step y (Oe D _)), cF⟩
   have H := H.2 hc
   refine Wk (Wq ?_)
   refine W_quiet mix (by kernel_rfl) ?_
   refine QP_ev ok 0 [(30, I k), (31, I (ln t.Cols))] 2 rfl rfl ?_
   obtain ⟨hz, H⟩ := H
   refine QP_val 2 _ rfl rfl (fun _ _ => ex_quo rfl rfl rfl hz _) ?_
   refine QP_ev ok 3 [(33, I k), (34, I (ln t.Cols))] 5 rfl rfl ?_
   obtain ⟨cG, H⟩ := H
   refine QP_val 5 _ rfl rfl (fun _ _ => ex_rem rfl rfl rfl cG _) ?_
   refine QP_ev ok 6 [(7, I (wr (Int.tdiv k (ln t.Cols)))), (8, I (Int.tmod k (ln t.Cols)))] 8 rfl rfl ?_
   refine QP_end _ rfl fun cH bV => ?_
   refine Wq (Wg ?_)
   have bW := (bH.ext bV)
   refine Lb 0 (v := .agg #[sl a t.Rows aR, sl aS t.Cols aT, sl a3 t.Lo a4, sl aU t.Hi aV]) rfl rfl rfl ti_29 ag_29 (fun h => by cases h) rfl bW rfl rfl (Lv ok 1 [(37, I (wr (Int.tdiv k (ln t.Cols)))), (38, I (Int.tmod k (ln t.Cols)))] 3 rfl rfl ?_)
   have xc := (x.trans bV)
   have bX := (a5.ext xc)
   have bY := (a6.ext xc)
   have bZ := (a7.ext xc)
   have b0 := (a8.ext xc)
   refine Lc 3 rfl rfl rfl cal_60 rfl (spec_tLow_w _ _ _ _ H cH r bX aN bY aP bZ aI b0) ?_
   rintro _ cI ⟨bI, H, rfl, aK⟩
   refine Lv ok 4 [(9, I bI)] 5 rfl rfl (Ln _ rfl ?_)
   try refine Wo [(0, pb b), (2, I k), (4, pb aJ), (7, I (wr (Int.tdiv k (ln t.Cols)))), (8, I (Int.tmod k (ln t.Cols))), (9, I bI)] ⟨rfl, rfl, rfl, rfl, rfl, rfl, trivial⟩ fun ρ => ?_
   refine W_block ?_
   obtain ⟨J, cJ, Hx, H⟩ := H
   refine W_loop (S := Int × Int × Int) (fun s ρ' w' => J s.1 s.2.1 s.2.2 ∧ ∃ (ρ : Env), ρ' = setAll [(0, pb b), (2, I k), (4, pb aJ), (7, I (wr (Int.tdiv k (ln t.Cols)))), (8, I (Int.tmod k (ln t.Cols))), (9, I s.1)] ρ ∧ But (bx b 55 [I c.N, I c.Most]) cI w' ∧ Sub (bx b 55 [I s.2.1, I s.2.2]) w') (fun s => cJ s.1 s.2.1 s.2.2) (bI, c.N, c.Most) ⟨Hx, _, Ee ⟨rfl, rfl, rfl, rfl, rfl, rfl, trivial⟩, (Br _ _), (ex.ext (xc.trans aK))⟩ ?_
   rintro ⟨aB, n, most⟩ _ cK ⟨Hi, ρ, rfl, X44, aW⟩
   have H := H aB n most Hi
   refine Wq ?_
   have X49 := ((X.stepx (xc.trans aK)).step X44 (Oe D _))
   have bJ := ((b0.ext aK).but X44 a2)
   have b1 := ((bW.ext aK).but X44 (Df ex f))
   obtain ⟨cL, hk, H⟩ := jn_elim H
   refine W_join2 (S := Bool) (fun s ρ' w' => cL s ∧ ∃ (ρ : Env), ρ' = setAll [(0, pb b), (2, I k), (4, pb aJ), (7, I (wr (Int.tdiv k (ln t.Cols)))), (8, I (Int.tmod k (ln t.Cols))), (9, I aB), (60, .bool s)] ρ ∧ Ext cK w') ?_ ?_
   ·refine W_quiet mix (by kernel_rfl) ?_
    refine QP_ev ok 0 [(40, I aB), (41, .pointer (some ⟨aJ, 3, none⟩))] 2 rfl rfl ?_
    refine QP_ldbox 2 (v := sl aU t.Hi aV) rfl rfl rfl ti_23 ag_23 (fun _ => rfl) rfl b1 rfl rfl ?_
    refine QP_ev ok 3 [(43, I (wr (Int.tdiv k (ln t.Cols))))] 4 rfl rfl ?_
    obtain ⟨dO, hi, cM, H⟩ := H
    refine QP_index 4 rfl rfl rfl Try.underlying23 ti_22 rfl rfl aI hi cM fun dP cs cN cO => ?_
    refine QP_load 5 rfl rfl rfl ti_22 ag_22 rfl cN cO bJ fun dQ cP => ?_
    have b2 := cP.slice
    obtain ⟨dR, dS, rfl⟩ := b2.shape
    refine QP_ev ok 6 [(46, I (Int.tmod k (ln t.Cols)))] 7 rfl rfl ?_
    obtain ⟨bK, cQ, cR, H⟩ := H
    refine QP_index 7 rfl rfl rfl Try.underlying22 ti_3 rfl rfl b2 cQ cR fun dT dU cS cT => ?_
    refine QP_load 8 rfl rfl rfl ti_3 ag_3 rfl cS cT bJ fun dV cU => ?_
    obtain rfl := cU.int
    refine QP_ev ok 9 [(49, .bool (decide (aB ≤ bK))), (50, .bool (decide (aB ≤ bK)))] 11 rfl rfl ?_
    refine QP_split 50 (decide (aB ≤ bK)) rfl (fun bL => ?_) (fun bL => ?_)
    ·have H := H.1 bL
     refine QP_ev ok 11 [(51, pb b), (52, pb b), (53, pb b)] 14 rfl rfl ?_
     refine QP_ldbox 14 (v := I n) rfl rfl rfl ti_3 ag_3 (fun _ => rfl) rfl aW rfl rfl ?_
     refine QP_ev ok 15 [(55, pb b), (56, pb b), (57, .pointer (some ⟨b, 1, none⟩))] 18 rfl rfl ?_
     refine QP_ldbox 18 (v := I most) rfl rfl rfl ti_3 ag_3 (fun _ => rfl) rfl aW rfl rfl ?_
     refine QP_ev ok 19 [(59, .bool (decide (n ≤ most))), (60, .bool (decide (n ≤ most)))] 21 rfl rfl ?_
     refine QP_end _ rfl fun dW cV => ?_
     exact ⟨decide (n ≤ most), H, _, Ee ⟨rfl, rfl, rfl, rfl, rfl, rfl, rfl, trivial⟩, cV⟩
    have H := H.2 bL
    refine QP_ev ok 11 [(51, undef), (52, undef), (53, undef), (54, undef), (55, undef), (56, undef), (57, undef), (58, undef), (59, undef), (60, .bool false)] 21 rfl rfl ?_
    refine QP_end _ rfl fun dX cW => ?_
    exact ⟨false, H, _, Ee ⟨rfl, rfl, rfl, rfl, rfl, rfl, rfl, trivial⟩, cW⟩
   rintro cX _ cY ⟨H, ρ, rfl, X58⟩
   subst hk
   refine Wc (cX) rfl (fun bM => ?_) (fun bM => ?_)
   ·have H := H.1 bM
    refine Wk (Wq (W_block (Wq (Wg (Lb 0 (v := .agg #[sl a t.Rows aR, sl aS t.Cols aT, sl a3 t.Lo a4, sl aU t.Hi aV]) rfl rfl rfl ti_29 ag_29 (fun h => by cases h) rfl (b1.ext X58) rfl rfl (Lv ok 1 [(64, I (wr (Int.tdiv k (ln t.Cols)))), (65, I (Int.tmod k (ln t.Cols))), (66, I aB), (67, I aB)] 5 rfl rfl (Lc 5 rfl rfl rfl cal_70 rfl (spec_tWith_w _ _ _ _ _ _ H cY r (((bX.ext aK).but X44 d).ext X58) aN (((bY.ext aK).but X44 a0).ext X58) aP (((bZ.ext aK).but X44 a1).ext X58) aI (bJ.ext X58)) ?_)))))))
    rintro _ dY ⟨aA, dZ, d0, d1, d2, d3, d4, d5, d6, H, rfl, aX, HF⟩
    revert HF
    refine bb9 fun o b3 cZ bN b4 c0 bO b5 => ?_
    refine bb9 fun c1 bP b6 c2 d7 d8 d9 eA eB => ?_
    obtain ⟨a9, bA, rfl⟩ := o.shape
    obtain ⟨bB, bC, rfl⟩ := bN.shape
    obtain ⟨bD, bE, rfl⟩ := bO.shape
    obtain ⟨bF, bG, rfl⟩ := bP.shape
    refine La 6 rfl rfl rfl ti_29 rfl fun eC eD aL c3 aG => (Lx 7 (vs := [sl a9 aA.Rows bA, sl bB aA.Cols bC, sl bD aA.Lo bE, sl bF aA.Hi bG]) (cs' := [sl a9 aA.Rows bA, sl bB aA.Cols bC, sl bD aA.Lo bE, sl bF aA.Hi bG]) rfl rfl rfl ti_29 rfl rfl rfl rfl rfl c3 rfl rfl fun c4 b7 aH => (Ln _ rfl (Wq (Wq (Wg ?_)))))
    refine Lb 0 (v := .agg #[sl a9 aA.Rows bA, sl bB aA.Cols bC, sl bD aA.Lo bE, sl bF aA.Hi bG]) rfl rfl rfl ti_29 ag_29 (fun h => by cases h) rfl b7 rfl rfl ?_
    have dj := (Df b3 aG).symm
    have b8 := ((b3.ext aL).but aH dj)
    have c5 := (Df b4 aG).symm
    have b9 := ((b4.ext aL).but aH c5)
    have c6 := (Df b5 aG).symm
    have cA := ((b5.ext aL).but aH c6)
    have c7 := (Df b6 aG).symm
    have cB := ((b6.ext aL).but aH c7)
    refine Lc 1 rfl rfl rfl cal_33 rfl (spec_tFeasible_w _ _ H c4 o b8 bN b9 bO.readf cA bP.readf cB) ?_
    rintro _ c8 ⟨bQ, aY, eE, eF, H, rfl, aF, c9, eG, eH⟩
    obtain ⟨bR, bS, rfl⟩ := c9.shape
    refine Lv ok 2 [(69, .tuple #[sl bR bQ bS, .bool aY]), (72, sl bR bQ bS), (73, .bool aY), (11, sl bR bQ bS), (12, .bool aY)] 7 rfl rfl (Ln _ rfl (Wq (Wg (Lv ok 0 [(74, .bool aY), (75, .bool (!aY))] 2 rfl rfl (Ln _ rfl ?_)))))
    refine Wc (!aY) rfl (fun bT => ?_) (fun bT => ?_)
    ·have H := H.1 bT
     refine W_ret ?_
     have cC := ((X58.trans aX).trans aL)
     have cD := (X58.trans aX)
     have dA := (Df (aW.ext cD) aG).symm
     have dB := aG.mono (X49.stepx cD).size
     exact ⟨_, Ret_of [] trivial, _, _, H, rfl, (((X49.stepx cC).step aH (dB.dom _)).stepx aF), (((aW.ext cC).but aH dA).ext aF)⟩
    have H := H.2 bT
    refine Wk (Wg (Lv ok 0 [(76, pb b)] 1 rfl rfl (Lb 1 (v := .agg #[sl a9 aA.Rows bA, sl bB aA.Cols bC, sl bD aA.Lo bE, sl bF aA.Hi bG]) rfl rfl rfl ti_29 ag_29 (fun h => by cases h) rfl (b7.ext aF) rfl rfl (Lv ok 2 [(78, I k), (79, I (wr (k + 1)))] 4 rfl rfl ?_))))
    have dC : Dj hx (bx b 55 [I n, I most]) := (Db d.symm.symm).symm
    have dD : Dj aC (bx b 55 [I n, I most]) := (Db a0.symm.symm).symm
    have dE : Dj aD (bx b 55 [I n, I most]) := (Db a1.symm.symm).symm
    have dF : Dj aE (bx b 55 [I n, I most]) := (Db a2.symm.symm).symm
    have cE := (Dl dC (Dl dD (Dl dE dF)))
    have aZ := (aW.ext X58)
    have dG := (Mj cZ cE aZ).symm
    have dH := (Mj c0 cE aZ).symm
    have dI := (Df (aZ.ext aX) aG).symm
    refine Lc 4 rfl rfl rfl cal_34 rfl (ih _ _ _ _ H.1 (Nat.lt_of_lt_of_le H.2 (Nat.le_of_lt_succ hm)) c8 (((aZ.ext (aX.trans aL)).but aH dI).ext aF) o (b8.ext aF) bN (b9.ext aF) bO.readf (cA.ext aF) bP.readf (cB.ext aF) dG dH (Df aZ c1) (Df aZ c2)) ?_
    rintro _ eI ⟨dJ, dK, H, rfl, dL, dM⟩
    refine Ln _ rfl (Wg (Lv ok 0 [(61, I aB), (62, I (wr (aB + 1))), (9, I (wr (aB + 1)))] 3 rfl rfl (Ln _ rfl ?_)))
    try refine Wo [(0, pb b), (2, I k), (4, pb aJ), (7, I (wr (Int.tdiv k (ln t.Cols)))), (8, I (Int.tmod k (ln t.Cols))), (9, I (wr (aB + 1)))] ⟨rfl, rfl, rfl, rfl, rfl, rfl, trivial⟩ fun ρ => ?_
    exact ⟨(wr (aB + 1), dJ, dK), ⟨H.1, _, Ee ⟨rfl, rfl, rfl, rfl, rfl, rfl, trivial⟩, ((((((Br (bx b 55 [I c.N, I c.Most]) _).step X44 (Oe (Or _) _)).stepx ((X58.trans aX).trans aL)).step aH ((aG.mono (Nat.le_trans X44.size (X58.trans aX).size)).dom _)).stepx aF).step dL (Md (Or _) Sd)), dM⟩, H.2⟩
   have H := H.2 bM
   refine W_exit ?_
   refine (if_pos rfl).mpr ?_
   exact ⟨_, Ret_of [] trivial, _, _, H, rfl, (X49.stepx X58), (aW.ext X58)⟩
 exact key _ c t k Q H0 (Nat.lt_succ_self _) w ex r a5 aN a6 aP a7 aI a8 d a0 a1 a2

theorem spec_CountFlows_w (t : Transport) (Q : Int → Bool → Prop) (H : spec_CountFlows t Q) (w : World) {vx : Value} {hx : PH} (r : RS hx vx t.Rows) (ex : Sub hx w) {aY : Value} {aZ : PH} (aM : RS aZ aY t.Cols) (bM : Sub aZ w) {a0 : Value} {a1 : PH} (aN : RS a1 a0 t.Lo) (bN : Sub a1 w) {a2 : Value} {a3 : PH} (aO : RS a3 a2 t.Hi) (bO : Sub a3 w) :
  CallsTo Try.prog 8 #[.agg #[vx, aY, a0, a2]] w fun v w' => ∃ a4 a5, Q a4 a5 ∧ v = .tuple #[I a4, .bool a5] ∧ Ext w w' := by
 obtain ⟨a, c, rfl⟩ := r.shape
 obtain ⟨aC, aD, rfl⟩ := aM.shape
 obtain ⟨aG, aH, rfl⟩ := aN.shape
 obtain ⟨aI, aJ, rfl⟩ := aO.shape
 refine enter (args := [.agg #[sl a t.Rows c, sl aC t.Cols aD, sl aG t.Lo aH, sl aI t.Hi aJ]]) 41 Try.func8 rfl rfl rfl ?_
 refine Wo [(0, .agg #[sl a t.Rows c, sl aC t.Cols aD, sl aG t.Lo aH, sl aI t.Hi aJ])] ⟨rfl, trivial⟩ fun ρ => ?_
 have X := Br emp w
 refine Wq (Wg (Ly 0 (cs := [sl a t.Rows c, sl aC t.Cols aD, sl aG t.Lo aH, sl aI t.Hi aJ]) rfl rfl rfl rfl rfl fun b wx x aP f => (Lv ok 1 [(2, I 0), (3, .bool false)] 3 rfl rfl (Ln _ rfl (Wq ?_)))))
 have X20 := (X.stepx x)
 have a6 := (ex.ext x)
 have a7 := (bM.ext x)
 have a8 := (bN.ext x)
 have a9 := (bO.ext x)
 obtain ⟨k, hk, H⟩ := jn_elim H
 refine W_join2 (S := Bool) (fun s ρ' w' => k s ∧ ∃ (ρ : Env), ρ' = setAll [(1, pb b), (19, .bool s)] ρ ∧ Ext wx w') ?_ ?_
 ·refine Wg (Lb 0 (v := .agg #[sl a t.Rows c, sl aC t.Cols aD, sl aG t.Lo aH, sl aI t.Hi aJ]) rfl rfl rfl ti_29 ag_29 (fun h => by cases h) rfl aP rfl rfl (Lc 1 rfl rfl rfl cal_32 rfl (spec_tGood_w _ _ H wx r a6 aM a7 aN a8 aO a9) ?_))
  rintro _ bY ⟨aQ, H, rfl, aR⟩
  refine Lv ok 2 [(9, .bool (!aQ)), (10, .bool (!aQ))] 4 rfl rfl ?_
  refine LP_split 10 (!aQ) rfl (fun hc => ?_) (fun hc => ?_)
  ·have H := H.1 hc
   refine Lv ok 4 [(11, undef), (12, undef), (13, undef), (14, undef), (15, undef), (16, undef), (17, undef), (18, undef), (19, .bool true)] 13 rfl rfl ?_
   exact Ln _ rfl ⟨true, H, _, Ee ⟨rfl, rfl, trivial⟩, aR⟩
  have H := H.2 hc
  refine Lv ok 4 [(11, pb b)] 5 rfl rfl ?_
  have bA := (aP.ext aR)
  refine Lb 5 (v := sl a t.Rows c) rfl rfl rfl ti_22 ag_22 (fun _ => rfl) rfl bA rfl rfl (Lv ok 6 [(13, I (ln t.Rows)), (14, .pointer (some ⟨b, 1, none⟩))] 8 rfl rfl (Lb 8 (v := sl aC t.Cols aD) rfl rfl rfl ti_22 ag_22 (fun _ => rfl) rfl bA rfl rfl (Lv ok 9 [(16, I (ln t.Cols)), (17, I (wr ((ln t.Rows) * (ln t.Cols)))), (18, .bool (decide ((wr ((ln t.Rows) * (ln t.Cols))) > 16))), (19, .bool (decide ((wr ((ln t.Rows) * (ln t.Cols))) > 16)))] 13 rfl rfl ?_)))
  exact Ln _ rfl ⟨decide ((wr ((ln t.Rows) * (ln t.Cols))) > 16), H, _, Ee ⟨rfl, rfl, trivial⟩, aR⟩
 rintro bP _ bQ ⟨H, ρ, rfl, X28⟩
 subst hk
 refine Wc (bP) rfl (fun aS => ?_) (fun aS => ?_)
 ·have H := H.1 aS
  refine Wq (Wg (Lv ok 0 [(2, I 0), (3, .bool false)] 2 rfl rfl (Ln _ rfl (W_ret ?_))))
  exact ⟨_, Ret_of [I 0, .bool false] ⟨⟨rfl, rfl⟩, ⟨rfl, rfl⟩, trivial⟩, _, _, H, rfl, (X20.stepx X28).ext⟩
 have H := H.2 aS
 refine Wk (Wq (Wq (Wg ?_)))
 have bB := (aP.ext X28)
 refine Lb 0 (v := .agg #[sl a t.Rows c, sl aC t.Cols aD, sl aG t.Lo aH, sl aI t.Hi aJ]) rfl rfl rfl ti_29 ag_29 (fun h => by cases h) rfl bB rfl rfl ?_
 have bC := (a6.ext X28)
 have bD := (a7.ext X28)
 have bE := (a8.ext X28)
 have bF := (a9.ext X28)
 refine Lc 1 rfl rfl rfl cal_33 rfl (spec_tFeasible_w _ _ H bQ r bC aM bD aN bE aO bF) ?_
 rintro _ bZ ⟨aT, aK, b0, b1, H, rfl, aA, o, b2, b3⟩
 obtain ⟨aU, aV, rfl⟩ := o.shape
 refine Lv ok 2 [(20, .tuple #[sl aU aT aV, .bool aK]), (23, sl aU aT aV), (24, .bool aK), (4, sl aU aT aV), (5, .bool aK)] 7 rfl rfl (Ln _ rfl (Wq (Wg (Lv ok 0 [(25, .bool aK), (26, .bool (!aK))] 2 rfl rfl (Ln _ rfl ?_)))))
 refine Wc (!aK) rfl (fun aW => ?_) (fun aW => ?_)
 ·have H := H.1 aW
  refine Wq (Wg (Lv ok 0 [(2, I 0), (3, .bool true)] 2 rfl rfl (Ln _ rfl (W_ret ?_))))
  exact ⟨_, Ret_of [I 0, .bool true] ⟨⟨rfl, rfl⟩, ⟨rfl, rfl⟩, trivial⟩, _, _, H, rfl, (X20.stepx (X28.trans aA)).ext⟩
 have H := H.2 aW
 refine Wk (Wq (Wg (Lv ok 0 [(27, .agg #[I 0, I 2000])] 1 rfl rfl (Ly 1 (cs := [I 0, I 2000]) rfl rfl rfl rfl rfl fun aB bR aE bS aL => (Lv ok 2 [(6, pb aB)] 3 rfl rfl (Ln _ rfl (Wq (Wg (Lv ok 0 [(29, pb aB)] 1 rfl rfl ?_)))))))))
 refine Lb 1 (v := .agg #[sl a t.Rows c, sl aC t.Cols aD, sl aG t.Lo aH, sl aI t.Hi aJ]) rfl rfl rfl ti_29 ag_29 (fun h => by cases h) rfl (bB.ext (aA.trans aE)) rfl rfl ?_
 have bG := (bC.ext aA)
 have dj := (Df bG aL).symm
 have bH := (bD.ext aA)
 have bT := (Df bH aL).symm
 have bI := (bE.ext aA)
 have bU := (Df bI aL).symm
 have bJ := (bF.ext aA)
 have bV := (Df bJ aL).symm
 refine Lc 2 rfl rfl rfl cal_34 rfl (spec_tCounter_run_w _ _ _ _ H bR bS r (bG.ext aE) aM (bH.ext aE) aN (bI.ext aE) aO (bJ.ext aE) dj bT bU bV) ?_
 rintro _ b4 ⟨aF, b5, H, rfl, bK, bL⟩
 refine Ln _ rfl (Wq (Wq (Wg (Lv ok 0 [(32, pb aB), (33, pb aB), (34, pb aB)] 3 rfl rfl (Lb 3 (v := I aF) rfl rfl rfl ti_3 ag_3 (fun _ => rfl) rfl bL rfl rfl (Lv ok 4 [(36, .bool (decide (aF > 2000)))] 5 rfl rfl (Ln _ rfl ?_)))))))
 refine Wc (decide (aF > 2000)) rfl (fun aX => ?_) (fun aX => ?_)
 ·have H := H.1 aX
  refine Wq (Wg (Lv ok 0 [(2, I 0), (3, .bool false)] 2 rfl rfl (Ln _ rfl (W_ret ?_))))
  have bW := aL.mono (X20.stepx (X28.trans aA)).size
  exact ⟨_, Ret_of [I 0, .bool false] ⟨⟨rfl, rfl⟩, ⟨rfl, rfl⟩, trivial⟩, _, _, H, rfl, ((X20.stepx ((X28.trans aA).trans aE)).step bK (bW.dom _)).ext⟩
 have H := H.2 aX
 refine Wk (Wq (Wg (Lv ok 0 [(37, pb aB), (38, pb aB), (39, pb aB)] 3 rfl rfl (Lb 3 (v := I aF) rfl rfl rfl ti_3 ag_3 (fun _ => rfl) rfl bL rfl rfl (Lv ok 4 [(2, I aF), (3, .bool true)] 6 rfl rfl (Ln _ rfl ?_))))))
 try refine Wo [(2, I aF), (3, .bool true)] ⟨rfl, rfl, trivial⟩ fun ρ => ?_
 refine W_ret ?_
 have bX := aL.mono (X20.stepx (X28.trans aA)).size
 exact ⟨_, Ret_of [I aF, .bool true] ⟨⟨rfl, rfl⟩, ⟨rfl, rfl⟩, trivial⟩, _, _, H, rfl, ((X20.stepx ((X28.trans aA).trans aE)).step bK (bX.dom _)).ext⟩

theorem spec_CountRoundings_w (x : List (List Int)) (base : Int) (Q : Int → Bool → Prop) (H : spec_CountRoundings x base Q) (w : World) {vx : Value} {hx : PH} (r : RS hx vx x) (ex : Sub hx w) :
  CallsTo Try.prog 17 #[vx, I base] w fun v w' => ∃ aE aA, Q aE aA ∧ v = .tuple #[I aE, .bool aA] ∧ Ext w w' := by
 obtain ⟨a, c, rfl⟩ := r.shape
 refine enter (args := [sl a x c, I base]) 16 Try.func17 rfl rfl rfl ?_
 refine Wo [(0, sl a x c), (1, I base)] ⟨rfl, rfl, trivial⟩ fun ρ => ?_
 have X := Br emp w
 refine Wq (Wg (Lv ok 0 [(4, I 0), (5, .bool false)] 2 rfl rfl (Ln _ rfl (Wq (Wq (Wg (Lv ok 0 [(6, sl a x c), (7, I base)] 2 rfl rfl (Lc 2 rfl rfl rfl cal_43 rfl (spec_oGood_w _ _ _ H w r ex) ?_))))))))
 rintro _ wx ⟨aA, H, rfl, aB⟩
 refine Lv ok 3 [(9, .bool (!aA))] 4 rfl rfl (Ln _ rfl ?_)
 refine Wc (!aA) rfl (fun hc => ?_) (fun hc => ?_)
 ·have H := H.1 hc
  refine Wq (Wg (Lv ok 0 [(4, I 0), (5, .bool false)] 2 rfl rfl (Ln _ rfl (W_ret ?_))))
  exact ⟨_, Ret_of [I 0, .bool false] ⟨⟨rfl, rfl⟩, ⟨rfl, rfl⟩, trivial⟩, _, _, H, rfl, (X.stepx aB).ext⟩
 have H := H.2 hc
 refine Wk (Wq (Wg (Lv ok 0 [(10, sl a x c), (11, I base)] 2 rfl rfl (Lc 2 rfl rfl rfl cal_44 rfl (spec_oNetwork_w _ _ _ H wx r (ex.ext aB)) ?_))))
 rintro _ aI ⟨aP, aQ, aR, aS, aT, aU, aV, aW, aX, H, rfl, aJ, HF⟩
 revert HF
 refine bb9 fun o aK f aF aL aY aG aM => ?_
 refine bb9 fun aZ aH aN a0 d a1 a2 a3 => ?_
 refine bb2 fun a4 a5 => ?_
 obtain ⟨a6, a7, rfl⟩ := o.shape
 obtain ⟨a8, a9, rfl⟩ := aF.shape
 obtain ⟨bA, bB, rfl⟩ := aG.shape
 obtain ⟨bC, bD, rfl⟩ := aH.shape
 refine Lc 3 rfl rfl rfl cal_8 rfl (spec_CountFlows_w _ _ H aI o.readf aK aF.readf aL aG.readf aM aH.readf aN) ?_
 rintro _ bE ⟨aC, aD, H, rfl, aO⟩
 refine Lv ok 4 [(14, I aC), (15, .bool aD), (4, I aC), (5, .bool aD)] 8 rfl rfl (Ln _ rfl (W_ret ?_))
 exact ⟨_, Ret_of [I aC, .bool aD] ⟨⟨rfl, rfl⟩, ⟨rfl, rfl⟩, trivial⟩, _, _, H, rfl, (X.stepx ((aB.trans aJ).trans aO)).ext⟩

theorem impl_hasShape_w (x : List (List Int)) (rows : Int) (cols : Int) (Q : Bool → Prop) (H : impl_hasShape x rows cols Q) (w : World) {vx : Value} {hx : PH} (r : RS hx vx x) (ex : Sub hx w) :
  CallsTo Try.prog 72 #[vx, I rows, I cols] w fun v w' => ∃ aE, Q aE ∧ v = .bool aE ∧ Ext w w' := by
 obtain ⟨a, c, rfl⟩ := r.shape
 refine enter (args := [sl a x c, I rows, I cols]) 24 Try.func72 rfl rfl rfl ?_
 refine Wo [(0, sl a x c), (1, I rows), (2, I cols)] ⟨rfl, rfl, rfl, trivial⟩ fun ρ => ?_
 have X := Br emp w
 refine Wq (Wg (Lv ok 0 [(6, .bool false)] 1 rfl rfl (Ln _ rfl (Wq (Wq (Wg (Lv ok 0 [(9, sl a x c), (10, I (ln x)), (11, I rows), (12, .bool ((ln x) != rows))] 4 rfl rfl (Ln _ rfl ?_))))))))
 refine Wc ((ln x) != rows) rfl (fun hc => ?_) (fun hc => ?_)
 ·have H := H.1 hc
  refine Wq (Wg (Lv ok 0 [(6, .bool false)] 1 rfl rfl (Ln _ rfl (W_ret ?_))))
  exact ⟨_, Ret_of [.bool false] ⟨⟨rfl, rfl⟩, trivial⟩, _, H, rfl, X.ext⟩
 have H := H.2 hc
 refine Wk (Wq (Wq (Wg (Lv ok 0 [(13, sl a x c), (14, I (ln x)), (15, I 0)] 3 rfl rfl (Ln _ rfl (W_block ?_))))))
 obtain ⟨J, m, Hx, H⟩ := H
 refine W_loop (S := Int) (fun s ρ' w' => J s ∧ ∃ (ρ : Env), ρ' = setAll [(2, I cols), (13, sl a x c), (14, I (ln x)), (15, I s)] ρ ∧ w = w') (fun s => m s) 0 ⟨Hx, _, Ee ⟨rfl, rfl, rfl, rfl, trivial⟩, rfl⟩ ?_
 rintro aA _ _ ⟨Hi, ρ, rfl, rfl⟩
 have H := H aA Hi
 refine Wq (Wg (Lv ok 0 [(16, .bool (decide (aA < (ln x))))] 1 rfl rfl (Ln _ rfl (Wq ?_))))
 refine Wc (decide (aA < (ln x))) rfl (fun aC => ?_) (fun aC => ?_)
 ·have H := H.1 aC
  refine Wk (Wq (W_block (Wq (Wg ?_))))
  obtain ⟨aB, hi, aH, H⟩ := H
  refine Li 0 rfl rfl rfl Try.underlying23 ti_22 rfl rfl r hi aH fun aL cs aI d => (Lo 1 rfl rfl rfl ti_22 ag_22 rfl aI d ex fun aM aJ => ?_)
  have aK := aJ.slice
  obtain ⟨aF, aG, rfl⟩ := aK.shape
  refine Lv ok 2 [(8, sl aF aB aG)] 3 rfl rfl (Ln _ rfl (Wq (Wg (Lv ok 0 [(19, sl aF aB aG), (20, I (ln aB)), (21, I cols), (22, .bool ((ln aB) != cols))] 4 rfl rfl (Ln _ rfl ?_)))))
  refine Wc ((ln aB) != cols) rfl (fun aD => ?_) (fun aD => ?_)
  ·have H := H.1 aD
   refine Wq (Wg (Lv ok 0 [(6, .bool false)] 1 rfl rfl (Ln _ rfl (W_ret ?_))))
   exact ⟨_, Ret_of [.bool false] ⟨⟨rfl, rfl⟩, trivial⟩, _, H, rfl, X.ext⟩
  have H := H.2 aD
  refine Wk (Wg (Lv ok 0 [(23, I (wr (aA + 1))), (15, I (wr (aA + 1)))] 2 rfl rfl ?_))
  exact Ln _ rfl ⟨wr (aA + 1), ⟨H.1, _, Ee ⟨rfl, rfl, rfl, rfl, trivial⟩, rfl⟩, H.2⟩
 have H := H.2 aC
 refine W_exit ?_
 refine (if_pos rfl).mpr ?_
 refine Wq (Wg (Lv ok 0 [(6, .bool true)] 1 rfl rfl (Ln _ rfl (W_ret ?_))))
 exact ⟨_, Ret_of [.bool true] ⟨⟨rfl, rfl⟩, trivial⟩, _, H, rfl, X.ext⟩

theorem impl_isGridOf_w (x : List (List Int)) (most : Int) (Q : Bool → Prop) (H : impl_isGridOf x most Q) (w : World) {vx : Value} {hx : PH} (r : RS hx vx x) (ex : Sub hx w) :
  CallsTo Try.prog 84 #[vx, I most] w fun v w' => ∃ aO, Q aO ∧ v = .bool aO ∧ Ext w w' := by
 obtain ⟨a, c, rfl⟩ := r.shape
 refine enter (args := [sl a x c, I most]) 51 Try.func84 rfl rfl rfl ?_
 refine Wo [(0, sl a x c), (1, I most)] ⟨rfl, rfl, trivial⟩ fun ρ => ?_
 have X := Br emp w
 refine Wq (Wg (Lv ok 0 [(4, .bool false)] 1 rfl rfl (Ln _ rfl (Wq ?_))))
 obtain ⟨k, hk, H⟩ := jn_elim H
 refine W_join2 (S := Bool) (fun s ρ' w' => k s ∧ ∃ (ρ : Env), ρ' = setAll [(0, sl a x c), (1, I most), (29, .bool s)] ρ ∧ Ext w w') ?_ ?_
 ·refine Wg (Lv ok 0 [(9, sl a x c), (10, I (ln x)), (11, .bool ((ln x) == 0)), (12, .bool ((ln x) == 0))] 4 rfl rfl ?_)
  refine LP_split 12 ((ln x) == 0) rfl (fun hc => ?_) (fun hc => ?_)
  ·have H := H.1 hc
   refine Lv ok 4 [(13, undef), (14, undef), (15, undef), (16, undef), (17, undef), (18, .bool true), (19, .bool true), (20, undef), (21, undef), (22, undef), (23, undef), (24, undef), (25, undef), (26, undef), (27, undef), (28, undef), (29, .bool true)] 21 rfl rfl ?_
   exact Ln _ rfl ⟨true, H, _, Ee ⟨rfl, rfl, rfl, trivial⟩, (Ext.refl _)⟩
  have H := H.2 hc
  refine Lv ok 4 [(13, sl a x c)] 5 rfl rfl ?_
  obtain ⟨aE, hi, aR, H⟩ := H
  refine Li 5 rfl rfl rfl Try.underlying23 ti_22 rfl rfl r hi aR fun bI cs aS d => (Lo 6 rfl rfl rfl ti_22 ag_22 rfl aS d ex fun bJ aT => ?_)
  have aU := aT.slice
  obtain ⟨bK, bL, rfl⟩ := aU.shape
  refine Lv ok 7 [(16, I (ln aE)), (17, .bool ((ln aE) == 0)), (18, .bool ((ln aE) == 0)), (19, .bool ((ln aE) == 0))] 11 rfl rfl ?_
  refine LP_split 19 ((ln aE) == 0) rfl (fun aH => ?_) (fun aH => ?_)
  ·have H := H.1 aH
   refine Lv ok 11 [(20, undef), (21, undef), (22, undef), (23, undef), (24, undef), (25, undef), (26, undef), (27, undef), (28, undef), (29, .bool true)] 21 rfl rfl ?_
   exact Ln _ rfl ⟨true, H, _, Ee ⟨rfl, rfl, rfl, trivial⟩, (Ext.refl _)⟩
  have H := H.2 aH
  refine Lv ok 11 [(20, sl a x c), (21, sl a x c), (22, I (ln x)), (23, sl a x c)] 15 rfl rfl ?_
  obtain ⟨aV, aW, aX, H⟩ := H
  refine Li 15 rfl rfl rfl Try.underlying23 ti_22 rfl rfl r aW aX fun bM bN aY aZ => (Lo 16 rfl rfl rfl ti_22 ag_22 rfl aY aZ ex fun bO a0 => ?_)
  have a1 := a0.slice
  obtain ⟨bP, bQ, rfl⟩ := a1.shape
  refine Lv ok 17 [(26, I (ln aV))] 18 rfl rfl (Lc 18 rfl rfl rfl cal_72 rfl (impl_hasShape_w _ _ _ _ H w r ex) ?_)
  rintro _ bR ⟨aI, H, rfl, a2⟩
  refine Lv ok 19 [(28, .bool (!aI)), (29, .bool (!aI))] 21 rfl rfl ?_
  exact Ln _ rfl ⟨!aI, H, _, Ee ⟨rfl, rfl, rfl, trivial⟩, a2⟩
 rintro a3 _ wx ⟨H, ρ, rfl, X2⟩
 subst hk
 refine Wc (a3) rfl (fun aJ => ?_) (fun aJ => ?_)
 ·have H := H.1 aJ
  refine Wq (Wg (Lv ok 0 [(4, .bool false)] 1 rfl rfl (Ln _ rfl (W_ret ?_))))
  exact ⟨_, Ret_of [.bool false] ⟨⟨rfl, rfl⟩, trivial⟩, _, H, rfl, (X.stepx X2).ext⟩
 have H := H.2 aJ
 refine Wk (Wq (Wq (Wg (Lv ok 0 [(30, sl a x c), (31, I (ln x)), (32, I 0)] 3 rfl rfl (Ln _ rfl (W_block ?_))))))
 obtain ⟨J, m, Hx, H⟩ := H
 refine W_loop (S := Int) (fun s ρ' w' => J s ∧ ∃ (ρ : Env), ρ' = setAll [(1, I most), (30, sl a x c), (31, I (ln x)), (32, I s)] ρ ∧ wx = w') (fun s => m s) 0 ⟨Hx, _, Ee ⟨rfl, rfl, rfl, rfl, trivial⟩, rfl⟩ ?_
 rintro aC _ _ ⟨Hi, ρ, rfl, rfl⟩
 have H := H aC Hi
 refine Wq (Wg (Lv ok 0 [(33, .bool (decide (aC < (ln x))))] 1 rfl rfl (Ln _ rfl (Wq ?_))))
 refine Wc (decide (aC < (ln x))) rfl (fun aK => ?_) (fun aK => ?_)
 ·have H := H.1 aK
  refine Wk (Wq (W_block (Wq (Wg ?_))))
  obtain ⟨aA, a4, a5, H⟩ := H
  refine Li 0 rfl rfl rfl Try.underlying23 ti_22 rfl rfl r a4 a5 fun bS bT a6 a7 => ?_
  have aP := (ex.ext X2)
  refine Lo 1 rfl rfl rfl ti_22 ag_22 rfl a6 a7 aP fun bU a8 => ?_
  have aQ := a8.slice
  obtain ⟨aF, aG, rfl⟩ := aQ.shape
  refine Lv ok 2 [(6, sl aF aA aG)] 3 rfl rfl (Ln _ rfl (Wq (Wg (Lv ok 0 [(36, sl aF aA aG), (37, I (ln aA)), (38, I 0)] 3 rfl rfl (Ln _ rfl (W_block ?_))))))
  obtain ⟨J48, a9, Hx50, H⟩ := H
  refine W_loop (S := Int) (fun s ρ' w' => J48 s ∧ ∃ (ρ : Env), ρ' = setAll [(1, I most), (30, sl a x c), (31, I (ln x)), (32, I aC), (36, sl aF aA aG), (37, I (ln aA)), (38, I s)] ρ ∧ wx = w') (fun s => a9 s) 0 ⟨Hx50, _, Ee ⟨rfl, rfl, rfl, rfl, rfl, rfl, rfl, trivial⟩, rfl⟩ ?_
  rintro aD _ _ ⟨Hi, ρ, rfl, rfl⟩
  have H := H aD Hi
  refine Wq (Wg (Lv ok 0 [(39, .bool (decide (aD < (ln aA))))] 1 rfl rfl (Ln _ rfl (Wq ?_))))
  refine Wc (decide (aD < (ln aA))) rfl (fun aL => ?_) (fun aL => ?_)
  ·have H := H.1 aL
   refine Wk (Wq (W_block (Wq (Wg ?_))))
   obtain ⟨aB, bA, bB, H⟩ := H
   refine Li 0 rfl rfl rfl Try.underlying22 ti_3 rfl rfl aQ bA bB fun bV bW bC bD => (Lo 1 rfl rfl rfl ti_3 ag_3 rfl bC bD aP fun bX bE => ?_)
   obtain rfl := bE.int
   refine Lv ok 2 [(8, I aB)] 3 rfl rfl (Ln _ rfl ?_)
   obtain ⟨bF, bG, H⟩ := jn_elim H
   refine W_join2 (S := Bool) (fun s ρ' w' => bF s ∧ ∃ (ρ : Env), ρ' = setAll [(1, I most), (30, sl a x c), (31, I (ln x)), (32, I aC), (36, sl aF aA aG), (37, I (ln aA)), (38, I aD), (48, .bool s)] ρ ∧ wx = w') ?_ ?_
   ·refine Wg (Lv ok 0 [(42, I aB), (43, .bool (decide (aB < 0))), (44, .bool (decide (aB < 0)))] 3 rfl rfl ?_)
    refine LP_split 44 (decide (aB < 0)) rfl (fun aM => ?_) (fun aM => ?_)
    ·have H := H.1 aM
     refine Lv ok 3 [(45, undef), (46, undef), (47, undef), (48, .bool true)] 7 rfl rfl ?_
     exact Ln _ rfl ⟨true, H, _, Ee ⟨rfl, rfl, rfl, rfl, rfl, rfl, rfl, rfl, trivial⟩, rfl⟩
    have H := H.2 aM
    refine Lv ok 3 [(45, I aB), (46, I most), (47, .bool (decide (aB > most))), (48, .bool (decide (aB > most)))] 7 rfl rfl ?_
    exact Ln _ rfl ⟨decide (aB > most), H, _, Ee ⟨rfl, rfl, rfl, rfl, rfl, rfl, rfl, rfl, trivial⟩, rfl⟩
   rintro bH _ _ ⟨H, ρ, rfl, rfl⟩
   subst bG
   refine Wc (bH) rfl (fun aN => ?_) (fun aN => ?_)
   ·have H := H.1 aN
    refine Wq (Wg (Lv ok 0 [(4, .bool false)] 1 rfl rfl (Ln _ rfl (W_ret ?_))))
    exact ⟨_, Ret_of [.bool false] ⟨⟨rfl, rfl⟩, trivial⟩, _, H, rfl, (X.stepx X2).ext⟩
   have H := H.2 aN
   refine Wk (Wg (Lv ok 0 [(49, I (wr (aD + 1))), (38, I (wr (aD + 1)))] 2 rfl rfl ?_))
   exact Ln _ rfl ⟨wr (aD + 1), ⟨H.1, _, Ee ⟨rfl, rfl, rfl, rfl, rfl, rfl, rfl, trivial⟩, rfl⟩, H.2⟩
  have H := H.2 aL
  refine W_exit ?_
  refine (if_pos rfl).mpr ?_
  refine Wg (Lv ok 0 [(50, I (wr (aC + 1))), (32, I (wr (aC + 1)))] 2 rfl rfl ?_)
  exact Ln _ rfl ⟨wr (aC + 1), ⟨H.1, _, Ee ⟨rfl, rfl, rfl, rfl, trivial⟩, rfl⟩, H.2⟩
 have H := H.2 aK
 refine W_exit ?_
 refine (if_pos rfl).mpr ?_
 refine Wq (Wg (Lv ok 0 [(4, .bool true)] 1 rfl rfl (Ln _ rfl (W_ret ?_))))
 exact ⟨_, Ret_of [.bool true] ⟨⟨rfl, rfl⟩, trivial⟩, _, H, rfl, (X.stepx X2).ext⟩

theorem impl_isMatrix_w (x : List (List Int)) (Q : Bool → Prop) (H : impl_isMatrix x Q) (w : World) {vx : Value} {hx : PH} (r : RS hx vx x) (ex : Sub hx w) :
  CallsTo Try.prog 45 #[vx] w fun v w' => ∃ aD, Q aD ∧ v = .bool aD ∧ Ext w w' := by
 obtain ⟨a, c, rfl⟩ := r.shape
 refine enter (args := [sl a x c]) 20 Try.func45 rfl rfl rfl ?_
 refine Wo [(0, sl a x c)] ⟨rfl, trivial⟩ fun ρ => ?_
 have X := Br emp w
 refine Wq (Wg (Lv ok 0 [(2, .bool false)] 1 rfl rfl (Ln _ rfl (Wq ?_))))
 obtain ⟨k, hk, H⟩ := jn_elim H
 refine W_join2 (S := Bool) (fun s ρ' w' => k s ∧ ∃ (ρ : Env), ρ' = setAll [(0, sl a x c), (17, .bool s)] ρ ∧ w = w') ?_ ?_
 ·refine Wg (Lv ok 0 [(3, sl a x c), (4, I (ln x)), (5, .bool (decide ((ln x) < 1))), (6, .bool (decide ((ln x) < 1)))] 4 rfl rfl ?_)
  refine LP_split 6 (decide ((ln x) < 1)) rfl (fun hc => ?_) (fun hc => ?_)
  ·have H := H.1 hc
   refine Lv ok 4 [(7, undef), (8, undef), (9, undef), (10, .bool true), (11, .bool true), (12, undef), (13, undef), (14, undef), (15, undef), (16, undef), (17, .bool true)] 15 rfl rfl ?_
   exact Ln _ rfl ⟨true, H, _, Ee ⟨rfl, rfl, trivial⟩, rfl⟩
  have H := H.2 hc
  refine Lv ok 4 [(7, sl a x c), (8, I (ln x)), (9, .bool (decide ((ln x) > 7))), (10, .bool (decide ((ln x) > 7))), (11, .bool (decide ((ln x) > 7)))] 9 rfl rfl ?_
  refine LP_split 11 (decide ((ln x) > 7)) rfl (fun aB => ?_) (fun aB => ?_)
  ·have H := H.1 aB
   refine Lv ok 9 [(12, undef), (13, undef), (14, undef), (15, undef), (16, undef), (17, .bool true)] 15 rfl rfl ?_
   exact Ln _ rfl ⟨true, H, _, Ee ⟨rfl, rfl, trivial⟩, rfl⟩
  have H := H.2 aB
  refine Lv ok 9 [(12, sl a x c)] 10 rfl rfl ?_
  obtain ⟨aA, hi, aF, H⟩ := H
  refine Li 10 rfl rfl rfl Try.underlying23 ti_22 rfl rfl r hi aF fun aL cs aG d => (Lo 11 rfl rfl rfl ti_22 ag_22 rfl aG d ex fun aM aH => ?_)
  have aI := aH.slice
  obtain ⟨aN, aO, rfl⟩ := aI.shape
  refine Lv ok 12 [(15, I (ln aA)), (16, .bool (decide ((ln aA) > 7))), (17, .bool (decide ((ln aA) > 7)))] 15 rfl rfl ?_
  exact Ln _ rfl ⟨decide ((ln aA) > 7), H, _, Ee ⟨rfl, rfl, trivial⟩, rfl⟩
 rintro aJ _ _ ⟨H, ρ, rfl, rfl⟩
 subst hk
 refine Wc (aJ) rfl (fun aC => ?_) (fun aC => ?_)
 ·have H := H.1 aC
  refine Wq (Wg (Lv ok 0 [(2, .bool false)] 1 rfl rfl (Ln _ rfl (W_ret ?_))))
  exact ⟨_, Ret_of [.bool false] ⟨⟨rfl, rfl⟩, trivial⟩, _, H, rfl, X.ext⟩
 have H := H.2 aC
 refine Wk (Wq (Wg (Lv ok 0 [(18, sl a x c)] 1 rfl rfl (Lc 1 rfl rfl rfl cal_84 rfl (impl_isGridOf_w _ _ _ H w r ex) ?_))))
 rintro _ aP ⟨aE, H, rfl, aK⟩
 refine Lv ok 2 [(2, .bool aE)] 3 rfl rfl (Ln _ rfl (W_ret ?_))
 exact ⟨_, Ret_of [.bool aE] ⟨⟨rfl, rfl⟩, trivial⟩, _, H, rfl, (X.stepx aK).ext⟩

theorem impl_isBaseOf_w (base : Int) (Q : Bool → Prop) (H : impl_isBaseOf base Q) (w : World)  :
  CallsTo Try.prog 46 #[I base] w fun v w' => ∃ aA, Q aA ∧ v = .bool aA ∧ Ext w w' := by
 refine enter (args := [I base]) 9 Try.func46 rfl rfl rfl ?_
 refine Wo [(0, I base)] ⟨rfl, trivial⟩ fun ρ => ?_
 have X := Br emp w
 refine Wq (Wg (Lv ok 0 [(2, .bool false)] 1 rfl rfl (Ln _ rfl ?_)))
 obtain ⟨k, hk, H⟩ := jn_elim H
 refine W_join2 (S := Bool) (fun s ρ' w' => k s ∧ ∃ (ρ : Env), ρ' = setAll [(2, .bool s)] ρ ∧ w = w') ?_ ?_
 ·refine Wg (Lv ok 0 [(3, I base), (4, .bool (decide (base ≥ 2))), (5, .bool (decide (base ≥ 2)))] 3 rfl rfl ?_)
  refine LP_split 5 (decide (base ≥ 2)) rfl (fun hc => ?_) (fun hc => ?_)
  ·have H := H.1 hc
   refine Lv ok 3 [(6, I base), (7, .bool (decide (base ≤ 100))), (8, .bool (decide (base ≤ 100))), (2, .bool (decide (base ≤ 100)))] 7 rfl rfl ?_
   exact Ln _ rfl ⟨decide (base ≤ 100), H, _, Ee ⟨rfl, trivial⟩, rfl⟩
  have H := H.2 hc
  refine Lv ok 3 [(6, undef), (7, undef), (8, .bool false), (2, .bool false)] 7 rfl rfl ?_
  exact Ln _ rfl ⟨false, H, _, Ee ⟨rfl, trivial⟩, rfl⟩
 rintro x _ _ ⟨H, ρ, rfl, rfl⟩
 subst hk
 refine W_ret ?_
 exact ⟨_, Ret_of [.bool x] ⟨⟨rfl, rfl⟩, trivial⟩, _, H, rfl, X.ext⟩

theorem impl_roundingNetwork_1_w (n : Int) (c : Int) (Q : Int → Prop) (H : impl_roundingNetwork_1 n c Q) (w : World) {b : Nat} (ex : Sub (bx b 3 [I c]) w) :
  CallsTo Try.prog 85 #[I n, pb b] w fun v w' => ∃ aA, Q aA ∧ v = I aA ∧ Ext w w' := by
 refine enter (args := [I n, pb b]) 7 Try.func85 rfl rfl rfl ?_
 refine Wo [(0, I n), (1, pb b)] ⟨rfl, rfl, trivial⟩ fun ρ => ?_
 have X := Br emp w
 refine Wq (Wg (Lv ok 0 [(3, I 0)] 1 rfl rfl (Ln _ rfl (Wq (Wg (Lv ok 0 [(4, I n)] 1 rfl rfl (Lb 1 (v := I c) rfl rfl rfl ti_3 ag_3 (fun _ => rfl) rfl ex rfl rfl ?_)))))))
 obtain ⟨hz, H⟩ := H
 refine LP_val 2 _ rfl rfl (ex_quo rfl rfl rfl hz _) (Lv ok 3 [(3, I (wr (Int.tdiv n c)))] 4 rfl rfl (Ln _ rfl (W_ret ?_)))
 exact ⟨_, Ret_of [I (wr (Int.tdiv n c))] ⟨⟨rfl, rfl⟩, trivial⟩, _, H, rfl, X.ext⟩

theorem impl_roundingNetwork_2_w (n : Int) (c : Int) (Q : Int → Prop) (H : impl_roundingNetwork_2 n c Q) (w : World) {b : Nat} (ex : Sub (bx b 3 [I c]) w) :
  CallsTo Try.prog 86 #[I n, pb b] w fun v w' => ∃ aA, Q aA ∧ v = I aA ∧ Ext w w' := by
 refine enter (args := [I n, pb b]) 10 Try.func86 rfl rfl rfl ?_
 refine Wo [(0, I n), (1, pb b)] ⟨rfl, rfl, trivial⟩ fun ρ => ?_
 have X := Br emp w
 refine Wq (Wg (Lv ok 0 [(3, I 0)] 1 rfl rfl (Ln _ rfl (Wq (Wg (Lv ok 0 [(4, I n)] 1 rfl rfl (Lb 1 (v := I c) rfl rfl rfl ti_3 ag_3 (fun _ => rfl) rfl ex rfl rfl (Lv ok 2 [(6, I (wr (n + c))), (7, I (wr ((wr (n + c)) - 1)))] 4 rfl rfl (Lb 4 (v := I c) rfl rfl rfl ti_3 ag_3 (fun _ => rfl) rfl ex rfl rfl ?_)))))))))
 obtain ⟨hz, H⟩ := H
 refine LP_val 5 _ rfl rfl (ex_quo rfl rfl rfl hz _) (Lv ok 6 [(3, I (wr (Int.tdiv (wr ((wr (n + c)) - 1)) c)))] 7 rfl rfl (Ln _ rfl (W_ret ?_)))
 exact ⟨_, Ret_of [I (wr (Int.tdiv (wr ((wr (n + c)) - 1)) c))] ⟨⟨rfl, rfl⟩, trivial⟩, _, H, rfl, X.ext⟩

theorem impl_rowSums_w (x : List (List Int)) (Q : (List Int) → Prop) (H : impl_rowSums x Q) (w : World) {vx : Value} {hx : PH} (r : RS hx vx x) (ex : Sub hx w) :
  CallsTo Try.prog 65 #[vx] w fun v w' => ∃ aT aU aJ, Q aT ∧ v = aU ∧ Ext w w' ∧ OS 3 aJ emp aU aT ∧ Sub aJ w' ∧ Fresh w.heap.size aJ := by
 obtain ⟨a, c, rfl⟩ := r.shape
 refine enter (args := [sl a x c]) 34 Try.func65 rfl rfl rfl ?_
 refine Wo [(0, sl a x c)] ⟨rfl, trivial⟩ fun ρ => ?_
 have X := Br emp w
 refine Wq (Wg (Lv ok 0 [(2, .slice none 0 0)] 1 rfl rfl (Ln _ rfl (Wq (Wg (Lv ok 0 [(8, sl a x c), (9, I (ln x))] 2 rfl rfl ?_))))))
 obtain ⟨hn, hb, H⟩ := H
 refine LP_make (α := Int) 2 rfl rfl rfl Try.underlying22 ti_3 (x0 := (0 : Int)) rfl rfl hn (by first | omega | (simp only [ln] at *; omega)) (by first | omega | (simp only [ln] at *; omega)) fun aH bN wx aK o a3 f => ?_
 obtain ⟨aB, aC, rfl⟩ := o.shape
 refine Lv ok 3 [(3, .slice aB (List.length (List.replicate (Int.toNat (ln x)) ((0 : Int)))) aC)] 4 rfl rfl (Ln _ rfl (Wq (Wq (Wg (Lv ok 0 [(11, sl a x c), (12, I (ln x)), (13, I 0)] 3 rfl rfl (Ln _ rfl (W_block ?_)))))))
 obtain ⟨J, m, Hx, H⟩ := H
 refine W_loop (S := (List Int) × Int) (fun s ρ' w' => J s.1 s.2 ∧ ∃ (ρ : Env) (aD : PH), ρ' = setAll [(3, .slice aB (List.length (List.replicate (Int.toNat (ln x)) ((0 : Int)))) aC), (11, sl a x c), (12, I (ln x)), (13, I s.2)] ρ ∧ But aH wx w' ∧ OS 3 aD emp (.slice aB (List.length (List.replicate (Int.toNat (ln x)) ((0 : Int)))) aC) s.1 ∧ Sub aD w' ∧ DomLe aH wx.heap.size aD) (fun s => m s.1 s.2) (List.replicate (Int.toNat (ln x)) ((0 : Int)), 0) ⟨Hx, _, aH, Ee ⟨rfl, rfl, rfl, rfl, trivial⟩, (Br _ _), o, a3, (Oe (Or _) _)⟩ ?_
 rintro ⟨sums, aA⟩ _ aL ⟨Hi, ρ, aD, rfl, X14, aV, aW, aM⟩
 have H := H sums aA Hi
 refine Wq (Wg (Lv ok 0 [(14, .bool (decide (aA < (ln x))))] 1 rfl rfl (Ln _ rfl (Wq ?_))))
 refine Wc (decide (aA < (ln x))) rfl (fun hc => ?_) (fun hc => ?_)
 ·have H := H.1 hc
  refine Wk (Wq (W_block (Wq (Wg (Lv ok 0 [(15, I aA)] 1 rfl rfl ?_)))))
  obtain ⟨aE, hi, a4, H⟩ := H
  refine Li 1 rfl rfl rfl Try.underlying23 ti_22 rfl rfl r hi a4 fun bO cs a5 d => ?_
  have aX := ((ex.ext aK).but X14 (Df ex f).symm)
  refine Lo 2 rfl rfl rfl ti_22 ag_22 rfl a5 d aX fun bP a6 => ?_
  have aY := a6.slice
  obtain ⟨aN, aO, rfl⟩ := aY.shape
  refine Lv ok 3 [(4, I aA), (5, sl aN aE aO)] 5 rfl rfl (Ln _ rfl (Wq (Wg (Lv ok 0 [(18, sl aN aE aO), (19, I (ln aE)), (20, I 0)] 3 rfl rfl (Ln _ rfl (W_block ?_))))))
  obtain ⟨J34, a7, Hx36, H⟩ := H
  refine W_loop (S := (List Int) × Int) (fun s ρ' w' => J34 s.1 s.2 ∧ ∃ (ρ : Env) (aF : PH), ρ' = setAll [(3, .slice aB (List.length (List.replicate (Int.toNat (ln x)) ((0 : Int)))) aC), (4, I aA), (11, sl a x c), (12, I (ln x)), (13, I aA), (18, sl aN aE aO), (19, I (ln aE)), (20, I s.2)] ρ ∧ But aD aL w' ∧ OS 3 aF emp (.slice aB (List.length (List.replicate (Int.toNat (ln x)) ((0 : Int)))) aC) s.1 ∧ Sub aF w' ∧ DomLe aD aL.heap.size aF) (fun s => a7 s.1 s.2) (sums, 0) ⟨Hx36, _, aD, Ee ⟨rfl, rfl, rfl, rfl, rfl, rfl, rfl, rfl, trivial⟩, (Br _ _), aV, aW, (Oe (Or _) _)⟩ ?_
  rintro ⟨aP, aG⟩ _ bQ ⟨Hi, ρ, aF, rfl, X33, aQ, aR, aZ⟩
  have H := H aP aG Hi
  refine Wq (Wg (Lv ok 0 [(21, .bool (decide (aG < (ln aE))))] 1 rfl rfl (Ln _ rfl (Wq ?_))))
  refine Wc (decide (aG < (ln aE))) rfl (fun aS => ?_) (fun aS => ?_)
  ·have H := H.1 aS
   refine Wk (Wq (W_block (Wq (Wg ?_))))
   obtain ⟨aI, a8, a9, H⟩ := H
   refine Li 0 rfl rfl rfl Try.underlying22 ti_3 rfl rfl aY a8 a9 fun bR bS bA bB => ?_
   have dj := (Mj aM (Df ex f).symm (ex.ext aK))
   refine Lo 1 rfl rfl rfl ti_3 ag_3 rfl bA bB (aX.but X33 dj) fun bT bC => ?_
   obtain rfl := bC.int
   refine Lv ok 2 [(7, I aI)] 3 rfl rfl (Ln _ rfl (Wg (Lv ok 0 [(24, .slice aB (List.length (List.replicate (Int.toNat (ln x)) ((0 : Int)))) aC), (25, I aA)] 2 rfl rfl ?_)))
   obtain ⟨a0, bD, bE, H⟩ := H
   refine Li 2 rfl rfl rfl Try.underlying22 ti_3 rfl rfl aQ.readf bD bE fun bU bV bF bG => (Lo 3 rfl rfl rfl ti_3 ag_3 rfl bF bG aR fun bW bH => ?_)
   obtain rfl := bH.int
   refine Lv ok 4 [(28, I aI), (29, I (wr (a0 + aI)))] 6 rfl rfl ?_
   obtain ⟨bI, hl, H⟩ := H
   refine LP_indexw (v := .slice aB (List.length (List.replicate (Int.toNat (ln x)) ((0 : Int)))) aC) 6 rfl rfl rfl Try.underlying22 ti_3 rfl rfl aQ bI hl fun bX wa => (LP_set 7 rfl rfl rfl rfl rfl wa (Le.refl emp) ⟨_, rfl, rfl⟩ aR fun bJ bY bK bL y dm => (Ln _ rfl (Wg (Lv ok 0 [(31, I (wr (aG + 1))), (20, I (wr (aG + 1)))] 2 rfl rfl (Ln _ rfl ?_)))))
   have dl : DomLe aD aL.heap.size aF := (Mt (Oe (Or _) _) aZ (Nat.le_refl _))
   exact ⟨(List.set aP (Int.toNat aA) (wr (a0 + aI)), wr (aG + 1)), ⟨H.1, _, bJ, Ee ⟨rfl, rfl, rfl, rfl, rfl, rfl, rfl, rfl, trivial⟩, (((Br aD _).step X33 (Oe (Or _) _)).step y dl), bK, bL, (Mt dl (dm _) X33.size)⟩, H.2⟩
  have H := H.2 aS
  refine W_exit ?_
  refine (if_pos rfl).mpr ?_
  refine Wg (Lv ok 0 [(32, I (wr (aA + 1))), (13, I (wr (aA + 1)))] 2 rfl rfl (Ln _ rfl ?_))
  have a1 : DomLe aH wx.heap.size aD := (Mt (Oe (Or _) _) aM (Nat.le_refl _))
  exact ⟨(aP, wr (aA + 1)), ⟨H.1, _, aF, Ee ⟨rfl, rfl, rfl, rfl, trivial⟩, (((Br aH _).step X14 (Oe (Or _) _)).step X33 a1), aQ, aR, (Mt a1 aZ X14.size)⟩, H.2⟩
 have H := H.2 hc
 refine W_exit ?_
 refine (if_pos rfl).mpr ?_
 refine Wq (Wg (Lv ok 0 [(33, .slice aB (List.length (List.replicate (Int.toNat (ln x)) ((0 : Int)))) aC), (2, .slice aB (List.length (List.replicate (Int.toNat (ln x)) ((0 : Int)))) aC)] 2 rfl rfl (Ln _ rfl (W_ret ?_))))
 have a2 := f.mono X.size
 have X70 := (X.stepx aK)
 have bM := DomLe.fresh aM a2 X70.size
 exact ⟨_, Ret_of [.slice aB (List.length (List.replicate (Int.toNat (ln x)) ((0 : Int)))) aC] ⟨⟨rfl, rfl⟩, trivial⟩, _, _, _, H, rfl, (X70.step X14 (a2.dom _)).ext, aV, aW, bM⟩

theorem impl_colSums_w (x : List (List Int)) (Q : (List Int) → Prop) (H : impl_colSums x Q) (w : World) {vx : Value} {hx : PH} (r : RS hx vx x) (ex : Sub hx w) :
  CallsTo Try.prog 78 #[vx] w fun v w' => ∃ aU aV aK, Q aU ∧ v = aV ∧ Ext w w' ∧ OS 3 aK emp aV aU ∧ Sub aK w' ∧ Fresh w.heap.size aK := by
 obtain ⟨a, c, rfl⟩ := r.shape
 refine enter (args := [sl a x c]) 36 Try.func78 rfl rfl rfl ?_
 refine Wo [(0, sl a x c)] ⟨rfl, trivial⟩ fun ρ => ?_
 have X := Br emp w
 refine Wq (Wg (Lv ok 0 [(2, .slice none 0 0)] 1 rfl rfl (Ln _ rfl (Wq (Wg (Lv ok 0 [(8, sl a x c)] 1 rfl rfl ?_))))))
 obtain ⟨aA, hi, a4, H⟩ := H
 refine Li 1 rfl rfl rfl Try.underlying23 ti_22 rfl rfl r hi a4 fun bU cs a5 d => (Lo 2 rfl rfl rfl ti_22 ag_22 rfl a5 d ex fun bV a6 => ?_)
 have a7 := a6.slice
 obtain ⟨bW, bX, rfl⟩ := a7.shape
 refine Lv ok 3 [(11, I (ln aA))] 4 rfl rfl ?_
 obtain ⟨hn, hb, H⟩ := H
 refine LP_make (α := Int) 4 rfl rfl rfl Try.underlying22 ti_3 (x0 := (0 : Int)) rfl rfl hn (by first | omega | (simp only [ln] at *; omega)) (by first | omega | (simp only [ln] at *; omega)) fun aI bY wx aL o a8 f => ?_
 obtain ⟨aB, aC, rfl⟩ := o.shape
 refine Lv ok 5 [(3, .slice aB (List.length (List.replicate (Int.toNat (ln aA)) ((0 : Int)))) aC)] 6 rfl rfl (Ln _ rfl (Wq (Wq (Wg (Lv ok 0 [(13, sl a x c), (14, I (ln x)), (15, I 0)] 3 rfl rfl (Ln _ rfl (W_block ?_)))))))
 obtain ⟨J, m, Hx, H⟩ := H
 refine W_loop (S := (List Int) × Int) (fun s ρ' w' => J s.1 s.2 ∧ ∃ (ρ : Env) (aD : PH), ρ' = setAll [(3, .slice aB (List.length (List.replicate (Int.toNat (ln aA)) ((0 : Int)))) aC), (13, sl a x c), (14, I (ln x)), (15, I s.2)] ρ ∧ But aI wx w' ∧ OS 3 aD emp (.slice aB (List.length (List.replicate (Int.toNat (ln aA)) ((0 : Int)))) aC) s.1 ∧ Sub aD w' ∧ DomLe aI wx.heap.size aD) (fun s => m s.1 s.2) (List.replicate (Int.toNat (ln aA)) ((0 : Int)), 0) ⟨Hx, _, aI, Ee ⟨rfl, rfl, rfl, rfl, trivial⟩, (Br _ _), o, a8, (Oe (Or _) _)⟩ ?_
 rintro ⟨sums, aF⟩ _ aM ⟨Hi, ρ, aD, rfl, X23, aW, aX, aN⟩
 have H := H sums aF Hi
 refine Wq (Wg (Lv ok 0 [(16, .bool (decide (aF < (ln x))))] 1 rfl rfl (Ln _ rfl (Wq ?_))))
 refine Wc (decide (aF < (ln x))) rfl (fun hc => ?_) (fun hc => ?_)
 ·have H := H.1 hc
  refine Wk (Wq (W_block (Wq (Wg ?_))))
  obtain ⟨aG, a9, bA, H⟩ := H
  refine Li 0 rfl rfl rfl Try.underlying23 ti_22 rfl rfl r a9 bA fun bZ b0 bB bC => ?_
  have aY := ((ex.ext aL).but X23 (Df ex f).symm)
  refine Lo 1 rfl rfl rfl ti_22 ag_22 rfl bB bC aY fun b1 bD => ?_
  have aZ := bD.slice
  obtain ⟨aO, aP, rfl⟩ := aZ.shape
  refine Lv ok 2 [(5, sl aO aG aP)] 3 rfl rfl (Ln _ rfl (Wq (Wg (Lv ok 0 [(19, sl aO aG aP), (20, I (ln aG)), (21, I 0)] 3 rfl rfl (Ln _ rfl (W_block ?_))))))
  obtain ⟨J46, bE, Hx48, H⟩ := H
  refine W_loop (S := (List Int) × Int) (fun s ρ' w' => J46 s.1 s.2 ∧ ∃ (ρ : Env) (aH : PH), ρ' = setAll [(3, .slice aB (List.length (List.replicate (Int.toNat (ln aA)) ((0 : Int)))) aC), (13, sl a x c), (14, I (ln x)), (15, I aF), (19, sl aO aG aP), (20, I (ln aG)), (21, I s.2)] ρ ∧ But aD aM w' ∧ OS 3 aH emp (.slice aB (List.length (List.replicate (Int.toNat (ln aA)) ((0 : Int)))) aC) s.1 ∧ Sub aH w' ∧ DomLe aD aM.heap.size aH) (fun s => bE s.1 s.2) (sums, 0) ⟨Hx48, _, aD, Ee ⟨rfl, rfl, rfl, rfl, rfl, rfl, rfl, trivial⟩, (Br _ _), aW, aX, (Oe (Or _) _)⟩ ?_
  rintro ⟨aQ, aE⟩ _ b2 ⟨Hi, ρ, aH, rfl, X45, aR, aS, a0⟩
  have H := H aQ aE Hi
  refine Wq (Wg (Lv ok 0 [(22, .bool (decide (aE < (ln aG))))] 1 rfl rfl (Ln _ rfl (Wq ?_))))
  refine Wc (decide (aE < (ln aG))) rfl (fun aT => ?_) (fun aT => ?_)
  ·have H := H.1 aT
   refine Wk (Wq (W_block (Wq (Wg (Lv ok 0 [(23, I aE)] 1 rfl rfl ?_)))))
   obtain ⟨aJ, bF, bG, H⟩ := H
   refine Li 1 rfl rfl rfl Try.underlying22 ti_3 rfl rfl aZ bF bG fun b3 b4 bH bI => ?_
   have dj := (Mj aN (Df ex f).symm (ex.ext aL))
   refine Lo 2 rfl rfl rfl ti_3 ag_3 rfl bH bI (aY.but X45 dj) fun b5 bJ => ?_
   obtain rfl := bJ.int
   refine Lv ok 3 [(6, I aE), (7, I aJ)] 5 rfl rfl (Ln _ rfl (Wg (Lv ok 0 [(26, .slice aB (List.length (List.replicate (Int.toNat (ln aA)) ((0 : Int)))) aC), (27, I aE)] 2 rfl rfl ?_)))
   obtain ⟨a1, bK, bL, H⟩ := H
   refine Li 2 rfl rfl rfl Try.underlying22 ti_3 rfl rfl aR.readf bK bL fun b6 b7 bM bN => (Lo 3 rfl rfl rfl ti_3 ag_3 rfl bM bN aS fun b8 bO => ?_)
   obtain rfl := bO.int
   refine Lv ok 4 [(30, I aJ), (31, I (wr (a1 + aJ)))] 6 rfl rfl ?_
   obtain ⟨bP, hl, H⟩ := H
   refine LP_indexw (v := .slice aB (List.length (List.replicate (Int.toNat (ln aA)) ((0 : Int)))) aC) 6 rfl rfl rfl Try.underlying22 ti_3 rfl rfl aR bP hl fun b9 wa => (LP_set 7 rfl rfl rfl rfl rfl wa (Le.refl emp) ⟨_, rfl, rfl⟩ aS fun bQ cA bR bS y dm => (Ln _ rfl (Wg (Lv ok 0 [(33, I (wr (aE + 1))), (21, I (wr (aE + 1)))] 2 rfl rfl (Ln _ rfl ?_)))))
   have dl : DomLe aD aM.heap.size aH := (Mt (Oe (Or _) _) a0 (Nat.le_refl _))
   exact ⟨(List.set aQ (Int.toNat aE) (wr (a1 + aJ)), wr (aE + 1)), ⟨H.1, _, bQ, Ee ⟨rfl, rfl, rfl, rfl, rfl, rfl, rfl, trivial⟩, (((Br aD _).step X45 (Oe (Or _) _)).step y dl), bR, bS, (Mt dl (dm _) X45.size)⟩, H.2⟩
  have H := H.2 aT
  refine W_exit ?_
  refine (if_pos rfl).mpr ?_
  refine Wg (Lv ok 0 [(34, I (wr (aF + 1))), (15, I (wr (aF + 1)))] 2 rfl rfl (Ln _ rfl ?_))
  have a2 : DomLe aI wx.heap.size aD := (Mt (Oe (Or _) _) aN (Nat.le_refl _))
  exact ⟨(aQ, wr (aF + 1)), ⟨H.1, _, aH, Ee ⟨rfl, rfl, rfl, rfl, trivial⟩, (((Br aI _).step X23 (Oe (Or _) _)).step X45 a2), aR, aS, (Mt a2 a0 X23.size)⟩, H.2⟩
 have H := H.2 hc
 refine W_exit ?_
 refine (if_pos rfl).mpr ?_
 refine Wq (Wg (Lv ok 0 [(35, .slice aB (List.length (List.replicate (Int.toNat (ln aA)) ((0 : Int)))) aC), (2, .slice aB (List.length (List.replicate (Int.toNat (ln aA)) ((0 : Int)))) aC)] 2 rfl rfl (Ln _ rfl (W_ret ?_))))
 have a3 := f.mono X.size
 have X82 := (X.stepx aL)
 have bT := DomLe.fresh aN a3 X82.size
 exact ⟨_, Ret_of [.slice aB (List.length (List.replicate (Int.toNat (ln aA)) ((0 : Int)))) aC] ⟨⟨rfl, rfl⟩, trivial⟩, _, _, _, H, rfl, (X82.step X23 (a3.dom _)).ext, aW, aX, bT⟩

theorem impl_total_w (l : List Int) (Q : Int → Prop) (H : impl_total l Q) (w : World) {vx : Value} {hx : PH} (r : RS hx vx l) (ex : Sub hx w) :
  CallsTo Try.prog 64 #[vx] w fun v w' => ∃ aB, Q aB ∧ v = I aB ∧ Ext w w' := by
 obtain ⟨a, c, rfl⟩ := r.shape
 refine enter (args := [sl a l c]) 17 Try.func64 rfl rfl rfl ?_
 refine Wo [(0, sl a l c)] ⟨rfl, trivial⟩ fun ρ => ?_
 have X := Br emp w
 refine Wq (Wg (Lv ok 0 [(2, I 0)] 1 rfl rfl (Ln _ rfl (Wq (Wg (Lv ok 0 [(3, I 0)] 1 rfl rfl (Ln _ rfl (Wq (Wq (Wg (Lv ok 0 [(6, sl a l c), (7, I (ln l)), (8, I 0)] 3 rfl rfl ?_)))))))))))
 refine Ln _ rfl (W_block ?_)
 obtain ⟨J, m, Hx, H⟩ := H
 refine W_loop (S := Int × Int) (fun s ρ' w' => J s.1 s.2 ∧ ∃ (ρ : Env), ρ' = setAll [(3, I s.1), (6, sl a l c), (7, I (ln l)), (8, I s.2)] ρ ∧ w = w') (fun s => m s.1 s.2) (0, 0) ⟨Hx, _, Ee ⟨rfl, rfl, rfl, rfl, trivial⟩, rfl⟩ ?_
 rintro ⟨sum, x⟩ _ _ ⟨Hi, ρ, rfl, rfl⟩
 have H := H sum x Hi
 refine Wq (Wg (Lv ok 0 [(9, .bool (decide (x < (ln l))))] 1 rfl rfl (Ln _ rfl (Wq ?_))))
 refine Wc (decide (x < (ln l))) rfl (fun hc => ?_) (fun hc => ?_)
 ·have H := H.1 hc
  refine Wk (Wq (W_block (Wq (Wg ?_))))
  obtain ⟨aA, hi, aC, H⟩ := H
  refine Li 0 rfl rfl rfl Try.underlying22 ti_3 rfl rfl r hi aC fun aF cs aD d => (Lo 1 rfl rfl rfl ti_3 ag_3 rfl aD d ex fun aG aE => ?_)
  obtain rfl := aE.int
  refine Lv ok 2 [(5, I aA)] 3 rfl rfl (Ln _ rfl (Wg (Lv ok 0 [(12, I sum), (13, I aA), (14, I (wr (sum + aA))), (3, I (wr (sum + aA)))] 4 rfl rfl (Ln _ rfl (Wg (Lv ok 0 [(15, I (wr (x + 1))), (8, I (wr (x + 1)))] 2 rfl rfl ?_))))))
  exact Ln _ rfl ⟨(wr (sum + aA), wr (x + 1)), ⟨H.1, _, Ee ⟨rfl, rfl, rfl, rfl, trivial⟩, rfl⟩, H.2⟩
 have H := H.2 hc
 refine W_exit ?_
 refine (if_pos rfl).mpr ?_
 refine Wq (Wg (Lv ok 0 [(16, I sum), (2, I sum)] 2 rfl rfl (Ln _ rfl (W_ret ?_))))
 exact ⟨_, Ret_of [I sum] ⟨⟨rfl, rfl⟩, trivial⟩, _, H, rfl, X.ext⟩

theorem impl_roundingNetwork_w (x : List (List Int)) (base : Int) (Q : Transport → Prop) (H : impl_roundingNetwork x base Q) (w : World) {vx : Value} {hx : PH} (r : RS hx vx x) (ex : Sub hx w) :
  CallsTo Try.prog 47 #[vx, I base] w fun v w' => ∃ c8 u0_0 g0_0 u0_1 g0_1 u0_2 g0_2 u0_3 g0_3, Q c8 ∧ v = .agg #[u0_0, u0_1, u0_2, u0_3] ∧ Ext w w' ∧ OS 3 g0_0 emp u0_0 c8.Rows ∧ Sub g0_0 w' ∧ Fresh w.heap.size g0_0 ∧ OS 3 g0_1 emp u0_1 c8.Cols ∧ Sub g0_1 w' ∧ Fresh w.heap.size g0_1 ∧ OD g0_2 u0_2 c8.Lo ∧ Sub g0_2 w' ∧ Fresh w.heap.size g0_2 ∧ OD g0_3 u0_3 c8.Hi ∧ Sub g0_3 w' ∧ Fresh w.heap.size g0_3 ∧ Dj g0_0 g0_1 ∧ Dj g0_0 g0_2 ∧ Dj g0_0 g0_3 ∧ Dj g0_1 g0_2 ∧ Dj g0_1 g0_3 ∧ Dj g0_2 g0_3 := by
 obtain ⟨a, c, rfl⟩ := r.shape
 refine enter (args := [sl a x c, I base]) 203 Try.func47 rfl rfl rfl ?_
 refine Wo [(0, sl a x c), (1, I base)] ⟨rfl, rfl, trivial⟩ fun ρ => ?_
 have X := Br emp w
 refine Wq (Wg (Ly 0 (cs := [I base]) rfl rfl rfl rfl rfl fun b wx gX qD f => (La 1 rfl rfl rfl ti_29 rfl fun aN zT gY qE qF => (Ln _ rfl (Wq (Wg (Lv ok 0 [(22, .func (.func 85) #[] #[pb b]), (5, .func (.func 85) #[] #[pb b])] 2 rfl rfl (Ln _ rfl (Wq (Wg (Lv ok 0 [(23, .func (.func 86) #[] #[pb b]), (6, .func (.func 86) #[] #[pb b])] 2 rfl rfl ?_)))))))))))
 refine Ln _ rfl (Wq ?_)
 refine W_quiet mix (by kernel_rfl) ?_
 refine QP_ev ok 0 [(24, sl a x c), (25, I (ln x)), (26, sl a x c)] 3 rfl rfl ?_
 obtain ⟨aA, hi, qG, H⟩ := H
 refine QP_index 3 rfl rfl rfl Try.underlying23 ti_22 rfl rfl r hi qG fun zU cs qH d => ?_
 have kJ := (ex.ext (gX.trans gY))
 refine QP_load 4 rfl rfl rfl ti_22 ag_22 rfl qH d kJ fun zV qI => ?_
 have qJ := qI.slice
 obtain ⟨zW, zX, rfl⟩ := qJ.shape
 refine QP_ev ok 5 [(29, I (ln aA)), (7, I (ln x)), (8, I (ln aA))] 8 rfl rfl ?_
 refine QP_end _ rfl fun zY gZ => ?_
 refine Wq ?_
 refine W_open mix fun zZ g0 => ?_
 have X23 := (X.stepx (((gX.trans gY).trans gZ).trans g0))
 have kK := (gZ.trans g0)
 have aY := (kJ.ext kK)
 have aL := (qD.ext ((gY.trans gZ).trans g0))
 have bI := (qE.ext kK)
 have qK := qF.mono (X.stepx gX).size
 refine AP_gameT 14 [[], [0], [0, 1], [], [3], [3, 4], [], [6], [6, 7], [], [9], [9, 10], [0, 1, 2, 3, 4, 5, 6, 7, 8, 9, 10, 11], [], [0, 1, 2, 3, 4, 5, 6, 7, 8, 9, 10, 11, 12, 13]] [[(7, none)], [(30, some 0)], [(31, some 1)], [(8, none)], [(33, some 3)], [(34, some 4)], [(7, none)], [(36, some 6)], [(37, some 7)], [(7, none)], [(39, some 9)], [(40, some 10)], [(32, some 2), (35, some 5), (38, some 8), (41, some 11)], []] [(0, none), (4, none), (5, none), (6, none), (7, none), (8, none), (9, some 13), (42, some 12)] [0, 1, 2, 3, 4, 5, 6, 7, 8, 9, 10, 11, 12, 13] (by kernel_rfl) (by kernel_rfl) 14 ?_
 refine GT_ev 0 ok [(7, I (ln x))] (I (ln x)) rfl (by kernel_rfl) rfl (fun _ h => h) (fun _ => rfl) ?_
 refine GT_ev 1 ok [(30, I (ln x))] (I (wr ((ln x) + 1))) rfl (by kernel_rfl) rfl (fun _ h => h) (fun _ => rfl) ?_
 refine GT_ev 3 ok [(8, I (ln aA))] (I (ln aA)) rfl (by kernel_rfl) rfl (fun _ h => h) (fun _ => rfl) ?_
 refine GT_ev 4 ok [(33, I (ln aA))] (I (wr ((ln aA) + 1))) rfl (by kernel_rfl) rfl (fun _ h => h) (fun _ => rfl) ?_
 refine GT_ev 6 ok [(7, I (ln x))] (I (ln x)) rfl (by kernel_rfl) rfl (fun _ h => h) (fun _ => rfl) ?_
 refine GT_ev 7 ok [(36, I (ln x))] (I (wr ((ln x) + 1))) rfl (by kernel_rfl) rfl (fun _ h => h) (fun _ => rfl) ?_
 refine GT_ev 9 ok [(7, I (ln x))] (I (ln x)) rfl (by kernel_rfl) rfl (fun _ h => h) (fun _ => rfl) ?_
 refine GT_ev 10 ok [(39, I (ln x))] (I (wr ((ln x) + 1))) rfl (by kernel_rfl) rfl (fun _ h => h) (fun _ => rfl) ?_
 obtain ⟨hn, hb, H⟩ := H
 obtain ⟨qL, z0, H⟩ := H
 obtain ⟨qM, z1, H⟩ := H
 obtain ⟨qN, z2, H⟩ := H
 refine GT_makes 0 [⟨2, [(31, I (wr ((ln x) + 1)))], fun v h => OS 3 h emp v (List.replicate (Int.toNat (wr ((ln x) + 1))) ((0 : Int)))⟩, ⟨5, [(34, I (wr ((ln aA) + 1)))], fun v h => OS 3 h emp v (List.replicate (Int.toNat (wr ((ln aA) + 1))) ((0 : Int)))⟩, ⟨8, [(37, I (wr ((ln x) + 1)))], fun v h => OD h v (List.replicate (Int.toNat (wr ((ln x) + 1))) (([] : List Int)))⟩, ⟨11, [(40, I (wr ((ln x) + 1)))], fun v h => OD h v (List.replicate (Int.toNat (wr ((ln x) + 1))) (([] : List Int)))⟩, ⟨13, [], fun v h => ∃ b, v = pb b ∧ h = bx b 29 [.slice none 0 0, .slice none 0 0, .slice none 0 0, .slice none 0 0]⟩] [⟨12, [2, 5, 8, 11], fun d => [(32, (d.getD 0 undef)), (35, (d.getD 1 undef)), (38, (d.getD 2 undef)), (41, (d.getD 3 undef))], fun d => .agg #[(d.getD 0 undef), (d.getD 1 undef), (d.getD 2 undef), (d.getD 3 undef)]⟩] rfl (by kernel_rfl) ⟨Mkr.lp rfl rfl (fun _ h => h) rfl fun _ _ => LP_make (α := Int) 0 rfl rfl rfl Try.underlying22 ti_3 (x0 := (0 : Int)) rfl rfl hn (by first | omega | (simp only [ln] at *; omega)) (by first | omega | (simp only [ln] at *; omega)) fun h v w x o e f => LP_gs ⟨x, h, o, e, f⟩, Mkr.lp rfl rfl (fun _ h => h) rfl fun _ _ => LP_make (α := Int) 0 rfl rfl rfl Try.underlying22 ti_3 (x0 := (0 : Int)) rfl rfl qL (by first | omega | (simp only [ln] at *; omega)) (by first | omega | (simp only [ln] at *; omega)) fun h v w x o e f => LP_gs ⟨x, h, o, e, f⟩, Mkr.lp rfl rfl (fun _ h => h) rfl fun _ _ => LP_maked (β := Int) 0 rfl rfl rfl Try.underlying23 ti_22 rfl qM (by first | omega | (simp only [ln] at *; omega)) (by first | omega | (simp only [ln] at *; omega)) fun h v w x o e f => LP_gs ⟨x, h, o, e, f⟩, Mkr.lp rfl rfl (fun _ h => h) rfl fun _ _ => LP_maked (β := Int) 0 rfl rfl rfl Try.underlying23 ti_22 rfl qN (by first | omega | (simp only [ln] at *; omega)) (by first | omega | (simp only [ln] at *; omega)) fun h v w x o e f => LP_gs ⟨x, h, o, e, f⟩, Mkr.lp rfl rfl (fun _ h => h) rfl fun _ _ => La 0 rfl rfl rfl ti_29 rfl fun b w x e f => LP_gs ⟨x, _, ⟨b, rfl, rfl⟩, e, f⟩, trivial⟩ ⟨Qt.ev ok rfl rfl (fun _ _ h => h) (fun u ρ S => by obtain ⟨t, qO, qP, qQ, -, -⟩ := S; obtain ⟨_, o⟩ := t (by show (2 : Nat) ∈ [2, 5, 8, 11]; decide); obtain ⟨_, _, qR⟩ := o.shape; obtain ⟨_, o⟩ := qO (by show (5 : Nat) ∈ [2, 5, 8, 11]; decide); obtain ⟨_, _, qS⟩ := o.shape; obtain ⟨_, o⟩ := qP (by show (8 : Nat) ∈ [2, 5, 8, 11]; decide); obtain ⟨_, _, qT⟩ := o.shape; obtain ⟨_, o⟩ := qQ (by show (11 : Nat) ∈ [2, 5, 8, 11]; decide); obtain ⟨_, _, qU⟩ := o.shape; show evOp _ _ (setAll [(32, u 2), (35, u 5), (38, u 8), (41, u 11)] ρ) _ = some (.agg #[u 2, u 5, u 8, u 11]); rw [show u 2 = _ from qR, show u 5 = _ from qS, show u 8 = _ from qT, show u 11 = _ from qU]; rfl), trivial⟩ ⟨trivial, trivial, trivial, trivial, trivial, trivial⟩ (fun _ _ _ h e ρ hn => e ρ (by rw [h]; exact hn)) fun z3 kL z4 a9 o b0 cR _ z5 bA kM cS eE qV z6 eF kN qW bJ qX z7 eG kO qY bK qZ z8 z9 q0 q1 aM q2 => ?_
 obtain ⟨aI, aJ, rfl⟩ := o.shape
 obtain ⟨aG, aH, rfl⟩ := kM.shape
 obtain ⟨kP, -⟩ := qV
 obtain ⟨aE, aF, rfl⟩ := kN.shape
 obtain ⟨g1, eH, -⟩ := qX
 obtain ⟨aC, aD, rfl⟩ := kO.shape
 obtain ⟨q3, g2, eI, -⟩ := qZ
 obtain ⟨aB, rfl, rfl⟩ := q0
 obtain ⟨kQ, kR, aZ, aW, -⟩ := q2
 show GT _ _ _ _ _ _ _ _ _ ((2, .slice aI (List.length (List.replicate (Int.toNat (wr ((ln x) + 1))) ((0 : Int)))) aJ) :: (5, .slice aG (List.length (List.replicate (Int.toNat (wr ((ln aA) + 1))) ((0 : Int)))) aH) :: (8, .slice aE (List.length (List.replicate (Int.toNat (wr ((ln x) + 1))) (([] : List Int)))) aF) :: (11, .slice aC (List.length (List.replicate (Int.toNat (wr ((ln x) + 1))) (([] : List Int)))) aD) :: (13, pb aB) :: (12, .agg #[.slice aI (List.length (List.replicate (Int.toNat (wr ((ln x) + 1))) ((0 : Int)))) aJ, .slice aG (List.length (List.replicate (Int.toNat (wr ((ln aA) + 1))) ((0 : Int)))) aH, .slice aE (List.length (List.replicate (Int.toNat (wr ((ln x) + 1))) (([] : List Int)))) aF, .slice aC (List.length (List.replicate (Int.toNat (wr ((ln x) + 1))) (([] : List Int)))) aD]) :: _) _ _
 refine GT_end (by kernel_rfl) ?_
 intro aAA aS ρ q4
 refine AP_forget [(0, sl a x c), (4, pb aN), (5, .func (.func 85) #[] #[pb b]), (6, .func (.func 86) #[] #[pb b]), (7, I (ln x)), (8, I (ln aA)), (9, pb aB), (42, .agg #[.slice aI (List.length (List.replicate (Int.toNat (wr ((ln x) + 1))) ((0 : Int)))) aJ, .slice aG (List.length (List.replicate (Int.toNat (wr ((ln aA) + 1))) ((0 : Int)))) aH, .slice aE (List.length (List.replicate (Int.toNat (wr ((ln x) + 1))) (([] : List Int)))) aF, .slice aC (List.length (List.replicate (Int.toNat (wr ((ln x) + 1))) (([] : List Int)))) aD])] (by exact q4) fun ρ => ?_
 refine AP_tail 14 [[], [0], [0, 1], [], [3], [3, 4], [], [6], [6, 7], [], [9], [9, 10], [0, 1, 2, 3, 4, 5, 6, 7, 8, 9, 10, 11], [], [0, 1, 2, 3, 4, 5, 6, 7, 8, 9, 10, 11, 12, 13]] (by kernel_rfl) ?_
 refine Lx 14 (vs := [.slice aI (List.length (List.replicate (Int.toNat (wr ((ln x) + 1))) ((0 : Int)))) aJ, .slice aG (List.length (List.replicate (Int.toNat (wr ((ln aA) + 1))) ((0 : Int)))) aH, .slice aE (List.length (List.replicate (Int.toNat (wr ((ln x) + 1))) (([] : List Int)))) aF, .slice aC (List.length (List.replicate (Int.toNat (wr ((ln x) + 1))) (([] : List Int)))) aD]) (cs' := [.slice aI (List.length (List.replicate (Int.toNat (wr ((ln x) + 1))) ((0 : Int)))) aJ, .slice aG (List.length (List.replicate (Int.toNat (wr ((ln aA) + 1))) ((0 : Int)))) aH, .slice aE (List.length (List.replicate (Int.toNat (wr ((ln x) + 1))) (([] : List Int)))) aF, .slice aC (List.length (List.replicate (Int.toNat (wr ((ln x) + 1))) (([] : List Int)))) aD]) rfl rfl rfl ti_29 rfl rfl rfl rfl rfl (q1.ext aS) rfl rfl fun bL kS y => ?_
 refine Ln _ rfl (Wq (Wq (Wg (Lv ok 0 [(43, .pointer (some ⟨aB, 2, none⟩))] 1 rfl rfl (Lb 1 (v := .slice aE (List.length (List.replicate (Int.toNat (wr ((ln x) + 1))) (([] : List Int)))) aF) rfl rfl rfl ti_23 ag_23 (fun _ => rfl) rfl kS rfl rfl (Lv ok 2 [(45, I (ln (List.replicate (Int.toNat (wr ((ln x) + 1))) (([] : List Int))))), (46, I 0)] 4 rfl rfl (Ln _ rfl ?_)))))))
 refine W_block ?_
 obtain ⟨U, hU⟩ : ∃ U : PH, U = (un eF (un eG (bx aB 29 [.slice aI (List.length (List.replicate (Int.toNat (wr ((ln x) + 1))) ((0 : Int)))) aJ, .slice aG (List.length (List.replicate (Int.toNat (wr ((ln aA) + 1))) ((0 : Int)))) aH, .slice aE (List.length (List.replicate (Int.toNat (wr ((ln x) + 1))) (([] : List Int)))) aF, .slice aC (List.length (List.replicate (Int.toNat (wr ((ln x) + 1))) (([] : List Int)))) aD]))) := ⟨_, rfl⟩
 have D : Dom U eF := Dom.eqv hU (Dom.l _ _)
 have D115 : Dom U eG := Dom.eqv hU (Ot (Dom.r _ _) (Dom.l _ _))
 have dj : Dj eF (bx aB 29 [.slice aI (List.length (List.replicate (Int.toNat (wr ((ln x) + 1))) ((0 : Int)))) aJ, .slice aG (List.length (List.replicate (Int.toNat (wr ((ln aA) + 1))) ((0 : Int)))) aH, .slice aE (List.length (List.replicate (Int.toNat (wr ((ln x) + 1))) (([] : List Int)))) aF, .slice aC (List.length (List.replicate (Int.toNat (wr ((ln x) + 1))) (([] : List Int)))) aD]) := (Db kR.symm.symm).symm
 have q5 : Dj eG (bx aB 29 [.slice aI (List.length (List.replicate (Int.toNat (wr ((ln x) + 1))) ((0 : Int)))) aJ, .slice aG (List.length (List.replicate (Int.toNat (wr ((ln aA) + 1))) ((0 : Int)))) aH, .slice aE (List.length (List.replicate (Int.toNat (wr ((ln x) + 1))) (([] : List Int)))) aF, .slice aC (List.length (List.replicate (Int.toNat (wr ((ln x) + 1))) (([] : List Int)))) aD]) := (Db kQ.symm.symm).symm
 obtain ⟨J, m, Hx, H⟩ := H
 refine W_loop (S := Int × (List (List Int)) × (List (List Int))) (fun s ρ' w' => J s.1 s.2.1 s.2.2 ∧ ∃ (ρ : Env) (a6 : PH) (a7 : PH), ρ' = setAll [(0, sl a x c), (4, pb aN), (5, .func (.func 85) #[] #[pb b]), (6, .func (.func 86) #[] #[pb b]), (7, I (ln x)), (8, I (ln aA)), (9, pb aB), (45, I (ln (List.replicate (Int.toNat (wr ((ln x) + 1))) (([] : List Int))))), (46, I s.1)] ρ ∧ But U bL w' ∧ OD a6 (.slice aE (List.length (List.replicate (Int.toNat (wr ((ln x) + 1))) (([] : List Int)))) aF) s.2.1 ∧ Sub a6 w' ∧ DomLe U bL.heap.size a6 ∧ OD a7 (.slice aC (List.length (List.replicate (Int.toNat (wr ((ln x) + 1))) (([] : List Int)))) aD) s.2.2 ∧ Sub a7 w' ∧ DomLe U bL.heap.size a7 ∧ Sub (bx aB 29 [.slice aI (List.length (List.replicate (Int.toNat (wr ((ln x) + 1))) ((0 : Int)))) aJ, .slice aG (List.length (List.replicate (Int.toNat (wr ((ln aA) + 1))) ((0 : Int)))) aH, .slice aE (List.length (List.replicate (Int.toNat (wr ((ln x) + 1))) (([] : List Int)))) aF, .slice aC (List.length (List.replicate (Int.toNat (wr ((ln x) + 1))) (([] : List Int)))) aD]) w' ∧ Dj a6 (bx aB 29 [.slice aI (List.length (List.replicate (Int.toNat (wr ((ln x) + 1))) ((0 : Int)))) aJ, .slice aG (List.length (List.replicate (Int.toNat (wr ((ln aA) + 1))) ((0 : Int)))) aH, .slice aE (List.length (List.replicate (Int.toNat (wr ((ln x) + 1))) (([] : List Int)))) aF, .slice aC (List.length (List.replicate (Int.toNat (wr ((ln x) + 1))) (([] : List Int)))) aD]) ∧ Dj a7 (bx aB 29 [.slice aI (List.length (List.replicate (Int.toNat (wr ((ln x) + 1))) ((0 : Int)))) aJ, .slice aG (List.length (List.replicate (Int.toNat (wr ((ln aA) + 1))) ((0 : Int)))) aH, .slice aE (List.length (List.replicate (Int.toNat (wr ((ln x) + 1))) (([] : List Int)))) aF, .slice aC (List.length (List.replicate (Int.toNat (wr ((ln x) + 1))) (([] : List Int)))) aD]) ∧ Dj a7 a6) (fun s => m s.1 s.2.1 s.2.2) (0, List.replicate (Int.toNat (wr ((ln x) + 1))) (([] : List Int)), List.replicate (Int.toNat (wr ((ln x) + 1))) (([] : List Int))) ⟨Hx, _, eF, eG, Ee ⟨rfl, rfl, rfl, rfl, rfl, rfl, rfl, rfl, rfl, trivial⟩, (Br _ _), kN, ((qW.ext aS).but y kR), (Oe D _), kO, ((qY.ext aS).but y kQ), (Oe D115 _), kS, dj, q5, q3⟩ ?_
 rintro ⟨aK, lo, cT⟩ _ eJ ⟨Hi, ρ, a6, a7, rfl, HF⟩
 revert HF
 refine bb9 fun X121 eK kT aP c9 kU aQ kV => ?_
 refine bb3 fun a0 bV bR => ?_
 have H := H aK lo cT Hi
 refine Wq (Wg (Lv ok 0 [(47, .bool (decide (aK < (ln (List.replicate (Int.toNat (wr ((ln x) + 1))) (([] : List Int)))))))] 1 rfl rfl (Ln _ rfl (Wq ?_))))
 refine Wc (decide (aK < (ln (List.replicate (Int.toNat (wr ((ln x) + 1))) (([] : List Int)))))) rfl (fun hc => ?_) (fun hc => ?_)
 ·have H := H.1 hc
  refine Wk (Wq (W_block (Wq (Wg (Lv ok 0 [(48, I aK), (10, I aK)] 2 rfl rfl (Ln _ rfl ?_))))))
  refine W_open mix fun aAB a3 => ?_
  have bW := (kT.ext a3)
  have bM := (kU.ext a3)
  have a1 := (kV.ext a3)
  refine AP_gameT 14 [[], [0], [], [], [3], [], [], [6], [6, 7], [], [9], [9, 10], [0, 1, 2, 6, 7, 8], [0, 1, 2, 6, 7, 8, 12], [0, 1, 2, 3, 4, 5, 6, 7, 8, 9, 10, 11, 12, 13], [0, 1, 2, 3, 4, 5, 6, 7, 8, 9, 10, 11, 12, 13, 14]] [[(9, none)], [(49, some 0)], [(10, none)], [(9, none)], [(52, some 3)], [(10, none)], [(8, none)], [(55, some 6)], [(56, some 7)], [(8, none)], [(58, some 9)], [(59, some 10)], [(50, some 1), (51, some 2)], [(57, some 8), (61, some 12)]] [(0, none), (4, none), (5, none), (6, none), (7, none), (8, none), (9, none), (45, none), (46, none), (53, some 4), (54, some 5), (60, some 11)] [0, 1, 2, 3, 4, 5, 6, 7, 8, 9, 10, 11, 12, 13] (by kernel_rfl) (by kernel_rfl) 14 ?_
  refine GT_ev 0 ok [(9, pb aB)] (.pointer (some ⟨aB, 2, none⟩)) rfl (by kernel_rfl) rfl (fun _ h => h) (fun _ => rfl) ?_
  refine GT_r1 1 [(49, .pointer (some ⟨aB, 2, none⟩))] (.slice aE (List.length (List.replicate (Int.toNat (wr ((ln x) + 1))) (([] : List Int)))) aF) rfl (by kernel_rfl) rfl (fun _ h => h) (fun _ w e => ex_ldbox rfl ti_23 ag_23 (fun _ => rfl) rfl e rfl rfl) a1 ?_
  refine GT_ev 2 ok [(10, I aK)] (I aK) rfl (by kernel_rfl) rfl (fun _ h => h) (fun _ => rfl) ?_
  refine GT_ev 3 ok [(9, pb aB)] (.pointer (some ⟨aB, 3, none⟩)) rfl (by kernel_rfl) rfl (fun _ h => h) (fun _ => rfl) ?_
  refine GT_r1 4 [(52, .pointer (some ⟨aB, 3, none⟩))] (.slice aC (List.length (List.replicate (Int.toNat (wr ((ln x) + 1))) (([] : List Int)))) aD) rfl (by kernel_rfl) rfl (fun _ h => h) (fun _ w e => ex_ldbox rfl ti_23 ag_23 (fun _ => rfl) rfl e rfl rfl) a1 ?_
  refine GT_ev 5 ok [(10, I aK)] (I aK) rfl (by kernel_rfl) rfl (fun _ h => h) (fun _ => rfl) ?_
  refine GT_ev 6 ok [(8, I (ln aA))] (I (ln aA)) rfl (by kernel_rfl) rfl (fun _ h => h) (fun _ => rfl) ?_
  refine GT_ev 7 ok [(55, I (ln aA))] (I (wr ((ln aA) + 1))) rfl (by kernel_rfl) rfl (fun _ h => h) (fun _ => rfl) ?_
  refine GT_ev 9 ok [(8, I (ln aA))] (I (ln aA)) rfl (by kernel_rfl) rfl (fun _ h => h) (fun _ => rfl) ?_
  refine GT_ev 10 ok [(58, I (ln aA))] (I (wr ((ln aA) + 1))) rfl (by kernel_rfl) rfl (fun _ h => h) (fun _ => rfl) ?_
  refine GT_hd [8, 11] (by kernel_rfl) ⟨?_, ?_, trivial⟩
  ·have H := H.1
   refine GT_lp [(56, I (wr ((ln aA) + 1)))] rfl (by kernel_rfl) rfl (fun _ h => h) rfl fun ρ aAC aO => ?_
   obtain ⟨q6, aAD, H⟩ := H
   refine LP_make (α := Int) 0 rfl rfl rfl Try.underlying22 ti_3 (x0 := (0 : Int)) rfl rfl q6 (by first | omega | (simp only [ln] at *; omega)) (by first | omega | (simp only [ln] at *; omega)) fun aAE aAF aAG a8 eL dA bB => ?_
   obtain ⟨g3, g4, rfl⟩ := eL.shape
   have g5 := (aO.trans a8)
   have g6 := (a1.ext g5)
   have eM := (a1.ext g5)
   refine LP_gs ⟨⟨.inr g6, .inr eM, trivial⟩, ?_⟩
   refine GT_hd [11, 12] (by kernel_rfl) ⟨?_, ?_, trivial⟩
   ·have H := H.1
    refine GT_lp [(59, I (wr ((ln aA) + 1)))] rfl (by kernel_rfl) rfl (fun _ h => h) rfl fun ρ aAH b1 => ?_
    obtain ⟨q7, aAI, H⟩ := H
    refine LP_make (α := Int) 0 rfl rfl rfl Try.underlying22 ti_3 (x0 := (0 : Int)) rfl rfl q7 (by first | omega | (simp only [ln] at *; omega)) (by first | omega | (simp only [ln] at *; omega)) fun aAJ aAK aAL eN kW q8 dB => ?_
    obtain ⟨q9, rA, rfl⟩ := kW.shape
    have kX := (b1.trans eN)
    have kY := (g6.ext kX)
    refine LP_gs ⟨⟨.inr kY, .inr (eM.ext kX), trivial⟩, ?_⟩
    refine GT_hd [12] (by kernel_rfl) ⟨GT_lp [(50, .slice aE (List.length (List.replicate (Int.toNat (wr ((ln x) + 1))) (([] : List Int)))) aF), (51, I aK)] rfl (by kernel_rfl) rfl (fun _ h => h) rfl fun ρ aAM dC => ?_, trivial⟩
    obtain ⟨rB, hl, H⟩ := H
    refine LP_indexd (v := .slice aE (List.length (List.replicate (Int.toNat (wr ((ln x) + 1))) (([] : List Int)))) aF) 0 rfl rfl rfl Try.underlying23 ti_22 rfl rfl eK rB hl fun rC wa => ?_
    have kZ := (kY.ext dC)
    refine LP_gs ⟨⟨.inr kZ, .inl rfl, trivial⟩, ?_⟩
    refine GT_hd [13] (by kernel_rfl) ⟨GT_lp [(57, .slice g3 (List.length (List.replicate (Int.toNat (wr ((ln aA) + 1))) ((0 : Int)))) g4), (61, .pointer (some rC))] rfl (by kernel_rfl) rfl (fun _ h => h) rfl fun ρ aAN dD => ?_, trivial⟩
    have g7 := (((((aO.trans a8).trans b1).trans eN).trans dC).trans dD)
    have k0 := (bW.ext aO)
    refine LP_setD (y := List.replicate (Int.toNat (wr ((ln aA) + 1))) ((0 : Int))) 0 rfl rfl rfl rfl rfl wa (OD.rvo (OS.od eL)) (bW.ext g7) (dA.ext (((b1.trans eN).trans dC).trans dD)) (Df k0 bB) fun rD hw aAO rE rF dE dh dq aAP => ?_
    refine LP_gs ⟨⟨.inr ((kZ.ext dD).but (But.dom dE dh) a0), .inl rfl, trivial⟩, ?_⟩
    refine GT_end (by kernel_rfl) ?_
    intro aAQ dF ρ rG
    refine AP_forget [(0, sl a x c), (4, pb aN), (5, .func (.func 85) #[] #[pb b]), (6, .func (.func 86) #[] #[pb b]), (7, I (ln x)), (8, I (ln aA)), (9, pb aB), (45, I (ln (List.replicate (Int.toNat (wr ((ln x) + 1))) (([] : List Int))))), (46, I aK), (53, .slice aC (List.length (List.replicate (Int.toNat (wr ((ln x) + 1))) (([] : List Int)))) aD), (54, I aK), (60, .slice q9 (List.length (List.replicate (Int.toNat (wr ((ln aA) + 1))) ((0 : Int)))) rA)] (by exact rG) fun ρ => ?_
    refine AP_tail 14 [[], [0], [], [], [3], [], [], [6], [6, 7], [], [9], [9, 10], [0, 1, 2, 6, 7, 8], [0, 1, 2, 6, 7, 8, 12], [0, 1, 2, 3, 4, 5, 6, 7, 8, 9, 10, 11, 12, 13], [0, 1, 2, 3, 4, 5, 6, 7, 8, 9, 10, 11, 12, 13, 14]] (by kernel_rfl) ?_
    obtain ⟨rH, rI, H⟩ := H
    refine LP_indexd (v := .slice aC (List.length (List.replicate (Int.toNat (wr ((ln x) + 1))) (([] : List Int)))) aD) 14 rfl rfl rfl Try.underlying23 ti_22 rfl rfl c9 rH rI fun aAR rJ => ?_
    have k1 := (a8.trans b1)
    have k2 := (Df (k0.ext k1) dB)
    refine LP_setD (y := List.replicate (Int.toNat (wr ((ln aA) + 1))) ((0 : Int))) 15 rfl rfl rfl rfl rfl rJ (OD.rvo (OS.od kW)) (((bM.ext g7).but (But.dom dE dh) bR.symm).ext dF) (((q8.ext (dC.trans dD)).but (But.dom dE dh) k2).ext dF) (Df (bM.ext (g5.trans b1)) dB) fun rK aAS aAT rL rM g8 g9 hA aAU => (Ln _ rfl (Wg ?_))
    refine Lv ok 0 [(63, I (wr (aK + 1))), (46, I (wr (aK + 1)))] 2 rfl rfl (Ln _ rfl ?_)
    have k3 : DomLe U bL.heap.size a6 := (Mt (Oe (Or _) _) aP (Nat.le_refl _))
    have k4 : DomLe U bL.heap.size a7 := (Mt (Oe (Or _) _) aQ (Nat.le_refl _))
    have rN := (Df (bM.ext aO) bB).symm
    have k5 := (Dl bR.symm rN)
    have k6 := (a1.ext aO)
    have rO := (Df k6 bB).symm
    have rP := (Df (k6.ext k1) dB).symm
    exact ⟨(wr (aK + 1), List.set lo (Int.toNat aK) (List.replicate (Int.toNat (wr ((ln aA) + 1))) ((0 : Int))), List.set cT (Int.toNat aK) (List.replicate (Int.toNat (wr ((ln aA) + 1))) ((0 : Int)))), ⟨H.1, _, rD, rK, Ee ⟨rfl, rfl, rfl, rfl, rfl, rfl, rfl, rfl, rfl, trivial⟩, ((((((Br U _).step X121 (Oe (Or _) _)).stepx ((((((a3.trans aO).trans a8).trans b1).trans eN).trans dC).trans dD)).step (But.dom dE dh) k3).stepx dF).step (But.dom g8 g9) k4), rE, ((rF.ext dF).but (But.dom g8 g9) (Dom.dj dq k5).symm), (Mt (Mu k3 ((bB.mono (Nat.le_trans X121.size (a3.trans aO).size)).dom _)) (Oe dq _) (Nat.le_refl _)), rL, rM, (Mt (Mu k4 ((dB.mono (Nat.le_trans X121.size (((a3.trans aO).trans a8).trans b1).size)).dom _)) (Oe hA _) (Nat.le_refl _)), ((((a1.ext g7).but (But.dom dE dh) a0).ext dF).but (But.dom g8 g9) bV), (Dom.dj dq (Dl a0 rO)), (Dom.dj hA (Dl bV rP)), (Dom.dj hA (Dl (Dom.dj dq k5).symm (Dom.dj dq (Dl k2 (Df (dA.ext b1) dB))).symm))⟩, H.2⟩
   ·have H := H.2
    refine GT_lp [(50, .slice aE (List.length (List.replicate (Int.toNat (wr ((ln x) + 1))) (([] : List Int)))) aF), (51, I aK)] rfl (by kernel_rfl) rfl (fun _ h => h) rfl fun ρ aAV bC => ?_
    obtain ⟨rQ, rR, H⟩ := H
    refine LP_indexd (v := .slice aE (List.length (List.replicate (Int.toNat (wr ((ln x) + 1))) (([] : List Int)))) aF) 0 rfl rfl rfl Try.underlying23 ti_22 rfl rfl eK rQ rR fun k7 k8 => ?_
    have hB := (g6.ext bC)
    refine LP_gs ⟨⟨.inr hB, .inl rfl, trivial⟩, ?_⟩
    refine GT_hd [11, 13] (by kernel_rfl) ⟨?_, ?_, trivial⟩
    ·have H := H
     refine GT_lp [(59, I (wr ((ln aA) + 1)))] rfl (by kernel_rfl) rfl (fun _ h => h) rfl fun ρ rS a4 => ?_
     obtain ⟨rT, aAW, H⟩ := H
     refine LP_make (α := Int) 0 rfl rfl rfl Try.underlying22 ti_3 (x0 := (0 : Int)) rfl rfl rT (by first | omega | (simp only [ln] at *; omega)) (by first | omega | (simp only [ln] at *; omega)) fun aAX aAY aAZ eO k9 hC dG => ?_
     obtain ⟨rU, rV, rfl⟩ := k9.shape
     have lA := (hB.ext (a4.trans eO))
     have lB := ((bC.trans a4).trans eO)
     have hD := (eM.ext lB)
     refine LP_gs ⟨⟨.inr lA, .inr hD, trivial⟩, ?_⟩
     refine GT_hd [13] (by kernel_rfl) ⟨GT_lp [(57, .slice g3 (List.length (List.replicate (Int.toNat (wr ((ln aA) + 1))) ((0 : Int)))) g4), (61, .pointer (some k7))] rfl (by kernel_rfl) rfl (fun _ h => h) rfl fun ρ aA0 dH => ?_, trivial⟩
     have hE := (((((aO.trans a8).trans bC).trans a4).trans eO).trans dH)
     have eP := (bW.ext aO)
     refine LP_setD (y := List.replicate (Int.toNat (wr ((ln aA) + 1))) ((0 : Int))) 0 rfl rfl rfl rfl rfl k8 (OD.rvo (OS.od eL)) (bW.ext hE) (dA.ext (lB.trans dH)) (Df eP bB) fun rW aA1 aA2 rX rY dI dJ eQ aA3 => ?_
     refine LP_gs ⟨⟨.inr ((lA.ext dH).but (But.dom dI dJ) a0), .inl rfl, trivial⟩, ?_⟩
     refine GT_end (by kernel_rfl) ?_
     intro aA4 dK ρ rZ
     refine AP_forget [(0, sl a x c), (4, pb aN), (5, .func (.func 85) #[] #[pb b]), (6, .func (.func 86) #[] #[pb b]), (7, I (ln x)), (8, I (ln aA)), (9, pb aB), (45, I (ln (List.replicate (Int.toNat (wr ((ln x) + 1))) (([] : List Int))))), (46, I aK), (53, .slice aC (List.length (List.replicate (Int.toNat (wr ((ln x) + 1))) (([] : List Int)))) aD), (54, I aK), (60, .slice rU (List.length (List.replicate (Int.toNat (wr ((ln aA) + 1))) ((0 : Int)))) rV)] (by exact rZ) fun ρ => ?_
     refine AP_tail 14 [[], [0], [], [], [3], [], [], [6], [6, 7], [], [9], [9, 10], [0, 1, 2, 6, 7, 8], [0, 1, 2, 6, 7, 8, 12], [0, 1, 2, 3, 4, 5, 6, 7, 8, 9, 10, 11, 12, 13], [0, 1, 2, 3, 4, 5, 6, 7, 8, 9, 10, 11, 12, 13, 14]] (by kernel_rfl) ?_
     obtain ⟨r0, r1, H⟩ := H
     refine LP_indexd (v := .slice aC (List.length (List.replicate (Int.toNat (wr ((ln x) + 1))) (([] : List Int)))) aD) 14 rfl rfl rfl Try.underlying23 ti_22 rfl rfl c9 r0 r1 fun aA5 r2 => ?_
     have lC := ((a8.trans bC).trans a4)
     have lD := (Df (eP.ext lC) dG)
     have lE := (((hC.ext dH).but (But.dom dI dJ) lD).ext dK)
     refine LP_setD (y := List.replicate (Int.toNat (wr ((ln aA) + 1))) ((0 : Int))) 15 rfl rfl rfl rfl rfl r2 (OD.rvo (OS.od k9)) (((bM.ext hE).but (But.dom dI dJ) bR.symm).ext dK) lE (Df (bM.ext (((aO.trans a8).trans bC).trans a4)) dG) fun r3 aA6 aA7 r4 r5 hF hG hH aA8 => (Ln _ rfl (Wg (Lv ok 0 [(63, I (wr (aK + 1))), (46, I (wr (aK + 1)))] 2 rfl rfl ?_)))
     refine Ln _ rfl ?_
     have lF : DomLe U bL.heap.size a6 := (Mt (Oe (Or _) _) aP (Nat.le_refl _))
     have lG : DomLe U bL.heap.size a7 := (Mt (Oe (Or _) _) aQ (Nat.le_refl _))
     have hI := (bM.ext aO)
     have r6 := (Df hI bB).symm
     have lH := (Dom.dj eQ (Dl bR.symm r6)).symm
     have hJ := ((((a1.ext hE).but (But.dom dI dJ) a0).ext dK).but (But.dom hF hG) bV)
     have lI := (a1.ext aO)
     have hK := (Df lI bB).symm
     have hL := (Df (lI.ext lC) dG).symm
     have r7 := (Dom.dj eQ (Dl lD (Df (dA.ext (bC.trans a4)) dG))).symm
     exact ⟨(wr (aK + 1), List.set lo (Int.toNat aK) (List.replicate (Int.toNat (wr ((ln aA) + 1))) ((0 : Int))), List.set cT (Int.toNat aK) (List.replicate (Int.toNat (wr ((ln aA) + 1))) ((0 : Int)))), ⟨H.1, _, rW, r3, Ee ⟨rfl, rfl, rfl, rfl, rfl, rfl, rfl, rfl, rfl, trivial⟩, ((((((Br U _).step X121 (Oe (Or _) _)).stepx ((((((a3.trans aO).trans a8).trans bC).trans a4).trans eO).trans dH)).step (But.dom dI dJ) lF).stepx dK).step (But.dom hF hG) lG), rX, ((rY.ext dK).but (But.dom hF hG) lH), (Mt (Mu lF ((bB.mono (Nat.le_trans X121.size (a3.trans aO).size)).dom _)) (Oe eQ _) (Nat.le_refl _)), r4, r5, (Mt (Mu lG ((dG.mono (Nat.le_trans X121.size ((((a3.trans aO).trans a8).trans bC).trans a4).size)).dom _)) (Oe hH _) (Nat.le_refl _)), hJ, (Dom.dj eQ (Dl a0 hK)), (Dom.dj hH (Dl bV hL)), (Dom.dj hH (Dl lH r7))⟩, H.2⟩
    ·have H := H
     refine GT_lp [(57, .slice g3 (List.length (List.replicate (Int.toNat (wr ((ln aA) + 1))) ((0 : Int)))) g4), (61, .pointer (some k7))] rfl (by kernel_rfl) rfl (fun _ h => h) rfl fun ρ rS a4 => ?_
     have lJ := (bC.trans a4)
     have hC := (dA.ext lJ)
     have eR := (((aO.trans a8).trans bC).trans a4)
     have hD := (bW.ext aO)
     refine LP_setD (y := List.replicate (Int.toNat (wr ((ln aA) + 1))) ((0 : Int))) 0 rfl rfl rfl rfl rfl k8 (OD.rvo (OS.od eL)) (bW.ext eR) hC (Df hD bB) fun r8 aA9 aBA r9 lK b2 b3 hM aBB => ?_
     have lL := ((hB.ext a4).but (But.dom b2 b3) a0)
     refine LP_gs ⟨⟨.inr lL, .inl rfl, trivial⟩, ?_⟩
     refine GT_hd [11] (by kernel_rfl) ⟨GT_lp [(59, I (wr ((ln aA) + 1)))] rfl (by kernel_rfl) rfl (fun _ h => h) rfl fun ρ aBC dL => ?_, trivial⟩
     obtain ⟨sA, aBD, H⟩ := H
     refine LP_make (α := Int) 0 rfl rfl rfl Try.underlying22 ti_3 (x0 := (0 : Int)) rfl rfl sA (by first | omega | (simp only [ln] at *; omega)) (by first | omega | (simp only [ln] at *; omega)) fun aBE aBF aBG sB lM sC eS => ?_
     obtain ⟨sD, sE, rfl⟩ := lM.shape
     have hN := (dL.trans sB)
     have eP := (lL.ext hN)
     refine LP_gs ⟨⟨.inr eP, .inr (((eM.ext lJ).but (But.dom b2 b3) a0).ext hN), trivial⟩, ?_⟩
     refine GT_end (by kernel_rfl) ?_
     intro aBH lN ρ sF
     refine AP_forget [(0, sl a x c), (4, pb aN), (5, .func (.func 85) #[] #[pb b]), (6, .func (.func 86) #[] #[pb b]), (7, I (ln x)), (8, I (ln aA)), (9, pb aB), (45, I (ln (List.replicate (Int.toNat (wr ((ln x) + 1))) (([] : List Int))))), (46, I aK), (53, .slice aC (List.length (List.replicate (Int.toNat (wr ((ln x) + 1))) (([] : List Int)))) aD), (54, I aK), (60, .slice sD (List.length (List.replicate (Int.toNat (wr ((ln aA) + 1))) ((0 : Int)))) sE)] (by exact sF) fun ρ => ?_
     refine AP_tail 14 [[], [0], [], [], [3], [], [], [6], [6, 7], [], [9], [9, 10], [0, 1, 2, 6, 7, 8], [0, 1, 2, 6, 7, 8, 12], [0, 1, 2, 3, 4, 5, 6, 7, 8, 9, 10, 11, 12, 13], [0, 1, 2, 3, 4, 5, 6, 7, 8, 9, 10, 11, 12, 13, 14]] (by kernel_rfl) ?_
     obtain ⟨sG, sH, H⟩ := H
     refine LP_indexd (v := .slice aC (List.length (List.replicate (Int.toNat (wr ((ln x) + 1))) (([] : List Int)))) aD) 14 rfl rfl rfl Try.underlying23 ti_22 rfl rfl c9 sG sH fun aBI sI => ?_
     have eT := (hN.trans lN)
     refine LP_setD (y := List.replicate (Int.toNat (wr ((ln aA) + 1))) ((0 : Int))) 15 rfl rfl rfl rfl rfl sI (OD.rvo (OS.od lM)) (((bM.ext eR).but (But.dom b2 b3) bR.symm).ext eT) (sC.ext lN) (Df (((bM.ext eR).but (But.dom b2 b3) bR.symm).ext dL) eS) fun sJ aBJ aBK sK sL hO hP hQ lE => (Ln _ rfl (Wg (Lv ok 0 [(63, I (wr (aK + 1))), (46, I (wr (aK + 1)))] 2 rfl rfl ?_)))
     refine Ln _ rfl ?_
     have lO := ((((a3.trans aO).trans a8).trans bC).trans a4)
     have lP : DomLe U bL.heap.size a6 := (Mt (Oe (Or _) _) aP (Nat.le_refl _))
     have lQ : DomLe U bL.heap.size a7 := (Mt (Oe (Or _) _) aQ (Nat.le_refl _))
     have sM := (Df (bM.ext aO) bB).symm
     have lR := (Dom.dj hM (Dl bR.symm sM)).symm
     have hI := ((lK.ext eT).but (But.dom hO hP) lR)
     have lS := (a1.ext aO)
     have sN := (Df lS bB).symm
     have hJ := (((lS.ext ((a8.trans bC).trans a4)).but (But.dom b2 b3) a0).ext dL)
     have sO := (Df hJ eS).symm
     have hK := (Dl bV sO)
     have sP := (Df (lK.ext dL) eS).symm
     have hL := (Dl lR sP)
     exact ⟨(wr (aK + 1), List.set lo (Int.toNat aK) (List.replicate (Int.toNat (wr ((ln aA) + 1))) ((0 : Int))), List.set cT (Int.toNat aK) (List.replicate (Int.toNat (wr ((ln aA) + 1))) ((0 : Int)))), ⟨H.1, _, r8, sJ, Ee ⟨rfl, rfl, rfl, rfl, rfl, rfl, rfl, rfl, rfl, trivial⟩, ((((((Br U _).step X121 (Oe (Or _) _)).stepx lO).step (But.dom b2 b3) lP).stepx eT).step (But.dom hO hP) lQ), r9, hI, (Mt (Mu lP ((bB.mono (Nat.le_trans X121.size (a3.trans aO).size)).dom _)) (Oe hM _) (Nat.le_refl _)), sK, sL, (Mt (Mu lQ ((eS.mono (Nat.le_trans (Nat.le_trans (Nat.le_trans X121.size lO.size) (But.dom b2 b3).size) dL.size)).dom _)) (Oe hQ _) (Nat.le_refl _)), ((((a1.ext eR).but (But.dom b2 b3) a0).ext eT).but (But.dom hO hP) bV), (Dom.dj hM (Dl a0 sN)), (Dom.dj hQ hK), (Dom.dj hQ hL)⟩, H.2⟩
  ·have H := H.2
   refine GT_lp [(59, I (wr ((ln aA) + 1)))] rfl (by kernel_rfl) rfl (fun _ h => h) rfl fun ρ aBL b4 => ?_
   obtain ⟨sQ, aBM, H⟩ := H
   refine LP_make (α := Int) 0 rfl rfl rfl Try.underlying22 ti_3 (x0 := (0 : Int)) rfl rfl sQ (by first | omega | (simp only [ln] at *; omega)) (by first | omega | (simp only [ln] at *; omega)) fun aBN aBO aBP dM lT lU eU => ?_
   obtain ⟨sR, sS, rfl⟩ := lT.shape
   have hR := (b4.trans dM)
   have lV := (a1.ext hR)
   have lW := (a1.ext hR)
   refine LP_gs ⟨⟨.inr lV, .inr lW, trivial⟩, ?_⟩
   refine GT_hd [8] (by kernel_rfl) ⟨GT_lp [(56, I (wr ((ln aA) + 1)))] rfl (by kernel_rfl) rfl (fun _ h => h) rfl fun ρ aBQ b5 => ?_, trivial⟩
   obtain ⟨sT, aBR, H⟩ := H
   refine LP_make (α := Int) 0 rfl rfl rfl Try.underlying22 ti_3 (x0 := (0 : Int)) rfl rfl sT (by first | omega | (simp only [ln] at *; omega)) (by first | omega | (simp only [ln] at *; omega)) fun aBS aBT aBU eV lX sU dN => ?_
   obtain ⟨sV, sW, rfl⟩ := lX.shape
   have lY := (b5.trans eV)
   have lZ := (lV.ext lY)
   refine LP_gs ⟨⟨.inr lZ, .inr (lW.ext lY), trivial⟩, ?_⟩
   refine GT_hd [12] (by kernel_rfl) ⟨GT_lp [(50, .slice aE (List.length (List.replicate (Int.toNat (wr ((ln x) + 1))) (([] : List Int)))) aF), (51, I aK)] rfl (by kernel_rfl) rfl (fun _ h => h) rfl fun ρ aBV dO => ?_, trivial⟩
   obtain ⟨sX, sY, H⟩ := H
   refine LP_indexd (v := .slice aE (List.length (List.replicate (Int.toNat (wr ((ln x) + 1))) (([] : List Int)))) aF) 0 rfl rfl rfl Try.underlying23 ti_22 rfl rfl eK sX sY fun sZ s0 => ?_
   have l0 := (lZ.ext dO)
   refine LP_gs ⟨⟨.inr l0, .inl rfl, trivial⟩, ?_⟩
   refine GT_hd [13] (by kernel_rfl) ⟨GT_lp [(57, .slice sV (List.length (List.replicate (Int.toNat (wr ((ln aA) + 1))) ((0 : Int)))) sW), (61, .pointer (some sZ))] rfl (by kernel_rfl) rfl (fun _ h => h) rfl fun ρ aBW dP => ?_, trivial⟩
   have hS := (((((b4.trans dM).trans b5).trans eV).trans dO).trans dP)
   have l1 := (hR.trans b5)
   refine LP_setD (y := List.replicate (Int.toNat (wr ((ln aA) + 1))) ((0 : Int))) 0 rfl rfl rfl rfl rfl s0 (OD.rvo (OS.od lX)) (bW.ext hS) (sU.ext (dO.trans dP)) (Df (bW.ext l1) dN) fun s1 aBX aBY s2 s3 dQ dR eW aBZ => ?_
   refine LP_gs ⟨⟨.inr ((l0.ext dP).but (But.dom dQ dR) a0), .inl rfl, trivial⟩, ?_⟩
   refine GT_end (by kernel_rfl) ?_
   intro aB0 dS ρ s4
   refine AP_forget [(0, sl a x c), (4, pb aN), (5, .func (.func 85) #[] #[pb b]), (6, .func (.func 86) #[] #[pb b]), (7, I (ln x)), (8, I (ln aA)), (9, pb aB), (45, I (ln (List.replicate (Int.toNat (wr ((ln x) + 1))) (([] : List Int))))), (46, I aK), (53, .slice aC (List.length (List.replicate (Int.toNat (wr ((ln x) + 1))) (([] : List Int)))) aD), (54, I aK), (60, .slice sR (List.length (List.replicate (Int.toNat (wr ((ln aA) + 1))) ((0 : Int)))) sS)] (by exact s4) fun ρ => ?_
   refine AP_tail 14 [[], [0], [], [], [3], [], [], [6], [6, 7], [], [9], [9, 10], [0, 1, 2, 6, 7, 8], [0, 1, 2, 6, 7, 8, 12], [0, 1, 2, 3, 4, 5, 6, 7, 8, 9, 10, 11, 12, 13], [0, 1, 2, 3, 4, 5, 6, 7, 8, 9, 10, 11, 12, 13, 14]] (by kernel_rfl) ?_
   obtain ⟨s5, s6, H⟩ := H
   refine LP_indexd (v := .slice aC (List.length (List.replicate (Int.toNat (wr ((ln x) + 1))) (([] : List Int)))) aD) 14 rfl rfl rfl Try.underlying23 ti_22 rfl rfl c9 s5 s6 fun aB1 s7 => ?_
   have l2 := (Df (bW.ext b4) eU)
   have l3 := (bM.ext b4)
   refine LP_setD (y := List.replicate (Int.toNat (wr ((ln aA) + 1))) ((0 : Int))) 15 rfl rfl rfl rfl rfl s7 (OD.rvo (OS.od lT)) (((bM.ext hS).but (But.dom dQ dR) bR.symm).ext dS) (((lU.ext (((b5.trans eV).trans dO).trans dP)).but (But.dom dQ dR) l2).ext dS) (Df l3 eU) fun s8 aB2 aB3 s9 tA hT hV hW aB4 => (Ln _ rfl ?_)
   refine Wg (Lv ok 0 [(63, I (wr (aK + 1))), (46, I (wr (aK + 1)))] 2 rfl rfl (Ln _ rfl ?_))
   have l4 : DomLe U bL.heap.size a6 := (Mt (Oe (Or _) _) aP (Nat.le_refl _))
   have l5 : DomLe U bL.heap.size a7 := (Mt (Oe (Or _) _) aQ (Nat.le_refl _))
   have tB := (Df (l3.ext (dM.trans b5)) dN).symm
   have l6 := (Dom.dj eW (Dl bR.symm tB)).symm
   have tC := (Df (a1.ext l1) dN).symm
   have tD := (Df (a1.ext b4) eU).symm
   have tE := (Df (lU.ext b5) dN).symm
   have tF := (Dom.dj eW (Dl l2 tE)).symm
   exact ⟨(wr (aK + 1), List.set lo (Int.toNat aK) (List.replicate (Int.toNat (wr ((ln aA) + 1))) ((0 : Int))), List.set cT (Int.toNat aK) (List.replicate (Int.toNat (wr ((ln aA) + 1))) ((0 : Int)))), ⟨H.1, _, s1, s8, Ee ⟨rfl, rfl, rfl, rfl, rfl, rfl, rfl, rfl, rfl, trivial⟩, ((((((Br U _).step X121 (Oe (Or _) _)).stepx ((((((a3.trans b4).trans dM).trans b5).trans eV).trans dO).trans dP)).step (But.dom dQ dR) l4).stepx dS).step (But.dom hT hV) l5), s2, ((s3.ext dS).but (But.dom hT hV) l6), (Mt (Mu l4 ((dN.mono (Nat.le_trans X121.size (((a3.trans b4).trans dM).trans b5).size)).dom _)) (Oe eW _) (Nat.le_refl _)), s9, tA, (Mt (Mu l5 ((eU.mono (Nat.le_trans X121.size (a3.trans b4).size)).dom _)) (Oe hW _) (Nat.le_refl _)), ((((a1.ext hS).but (But.dom dQ dR) a0).ext dS).but (But.dom hT hV) bV), (Dom.dj eW (Dl a0 tC)), (Dom.dj hW (Dl bV tD)), (Dom.dj hW (Dl l6 tF))⟩, H.2⟩
 have H := H.2 hc
 refine W_exit ?_
 refine (if_pos rfl).mpr ?_
 refine Wq (Wq (Wg (Lv ok 0 [(64, sl a x c), (65, I (ln x)), (66, I 0)] 3 rfl rfl (Ln _ rfl (W_block ?_)))))
 obtain ⟨U482, hU483⟩ : ∃ U : PH, U = (un a6 (un a7 (bx aB 29 [.slice aI (List.length (List.replicate (Int.toNat (wr ((ln x) + 1))) ((0 : Int)))) aJ, .slice aG (List.length (List.replicate (Int.toNat (wr ((ln aA) + 1))) ((0 : Int)))) aH, .slice aE (List.length (List.replicate (Int.toNat (wr ((ln x) + 1))) (([] : List Int)))) aF, .slice aC (List.length (List.replicate (Int.toNat (wr ((ln x) + 1))) (([] : List Int)))) aD]))) := ⟨_, rfl⟩
 have D484 : Dom U482 a6 := Dom.eqv hU483 (Dom.l _ _)
 have D485 : Dom U482 a7 := Dom.eqv hU483 (Ot (Dom.r _ _) (Dom.l _ _))
 have D486 : Dom U482 (bx aB 29 [.slice aI (List.length (List.replicate (Int.toNat (wr ((ln x) + 1))) ((0 : Int)))) aJ, .slice aG (List.length (List.replicate (Int.toNat (wr ((ln aA) + 1))) ((0 : Int)))) aH, .slice aE (List.length (List.replicate (Int.toNat (wr ((ln x) + 1))) (([] : List Int)))) aF, .slice aC (List.length (List.replicate (Int.toNat (wr ((ln x) + 1))) (([] : List Int)))) aD]) := Dom.eqv hU483 (Ot (Dom.r _ _) (Ot (Dom.r _ _) (Or _)))
 obtain ⟨J492, tG, Hx494, H⟩ := H
 refine W_loop (S := Int × (List (List Int)) × (List (List Int))) (fun s ρ' w' => J492 s.1 s.2.1 s.2.2 ∧ ∃ (ρ : Env) (bS : PH) (bD : PH), ρ' = setAll [(0, sl a x c), (4, pb aN), (5, .func (.func 85) #[] #[pb b]), (6, .func (.func 86) #[] #[pb b]), (7, I (ln x)), (8, I (ln aA)), (9, pb aB), (64, sl a x c), (65, I (ln x)), (66, I s.1)] ρ ∧ But U482 eJ w' ∧ OD bS (.slice aE (List.length (List.replicate (Int.toNat (wr ((ln x) + 1))) (([] : List Int)))) aF) s.2.1 ∧ Sub bS w' ∧ DomLe U482 eJ.heap.size bS ∧ OD bD (.slice aC (List.length (List.replicate (Int.toNat (wr ((ln x) + 1))) (([] : List Int)))) aD) s.2.2 ∧ Sub bD w' ∧ DomLe U482 eJ.heap.size bD ∧ Sub (bx aB 29 [.slice aI (List.length (List.replicate (Int.toNat (wr ((ln x) + 1))) ((0 : Int)))) aJ, .slice aG (List.length (List.replicate (Int.toNat (wr ((ln aA) + 1))) ((0 : Int)))) aH, .slice aE (List.length (List.replicate (Int.toNat (wr ((ln x) + 1))) (([] : List Int)))) aF, .slice aC (List.length (List.replicate (Int.toNat (wr ((ln x) + 1))) (([] : List Int)))) aD]) w' ∧ Dj bS (bx aB 29 [.slice aI (List.length (List.replicate (Int.toNat (wr ((ln x) + 1))) ((0 : Int)))) aJ, .slice aG (List.length (List.replicate (Int.toNat (wr ((ln aA) + 1))) ((0 : Int)))) aH, .slice aE (List.length (List.replicate (Int.toNat (wr ((ln x) + 1))) (([] : List Int)))) aF, .slice aC (List.length (List.replicate (Int.toNat (wr ((ln x) + 1))) (([] : List Int)))) aD]) ∧ Dj bD (bx aB 29 [.slice aI (List.length (List.replicate (Int.toNat (wr ((ln x) + 1))) ((0 : Int)))) aJ, .slice aG (List.length (List.replicate (Int.toNat (wr ((ln aA) + 1))) ((0 : Int)))) aH, .slice aE (List.length (List.replicate (Int.toNat (wr ((ln x) + 1))) (([] : List Int)))) aF, .slice aC (List.length (List.replicate (Int.toNat (wr ((ln x) + 1))) (([] : List Int)))) aD]) ∧ Dj bD bS) (fun s => tG s.1 s.2.1 s.2.2) (0, lo, cT) ⟨Hx494, _, a6, a7, Ee ⟨rfl, rfl, rfl, rfl, rfl, rfl, rfl, rfl, rfl, rfl, trivial⟩, (Br _ _), eK, kT, (Oe D484 _), c9, kU, (Oe D485 _), kV, a0, bV, bR⟩ ?_
 rintro ⟨aR, l7, hX⟩ _ cU ⟨Hi, ρ, bS, bD, rfl, HF⟩
 revert HF
 refine bb9 fun X491 l8 hY cI l9 dT bE cJ => ?_
 refine bb3 fun hZ mA mB => ?_
 have H := H aR l7 hX Hi
 refine Wq (Wg (Lv ok 0 [(67, .bool (decide (aR < (ln x))))] 1 rfl rfl (Ln _ rfl (Wq ?_))))
 refine Wc (decide (aR < (ln x))) rfl (fun h0 => ?_) (fun h0 => ?_)
 ·have H := H.1 h0
  refine Wk (Wq (W_block (Wq (Wg (Lv ok 0 [(68, I aR)] 1 rfl rfl ?_)))))
  obtain ⟨bX, tH, tI, H⟩ := H
  refine Li 1 rfl rfl rfl Try.underlying23 ti_22 rfl rfl r tH tI fun aB5 aB6 tJ tK => ?_
  have eX := (kL.trans aS)
  have mC := (Df aY aM).symm
  have tL := (Df aY bJ).symm
  have tM := (Df aY bK).symm
  have tN : Dj (bx aB 29 [.slice aI (List.length (List.replicate (Int.toNat (wr ((ln x) + 1))) ((0 : Int)))) aJ, .slice aG (List.length (List.replicate (Int.toNat (wr ((ln aA) + 1))) ((0 : Int)))) aH, .slice aE (List.length (List.replicate (Int.toNat (wr ((ln x) + 1))) (([] : List Int)))) aF, .slice aC (List.length (List.replicate (Int.toNat (wr ((ln x) + 1))) (([] : List Int)))) aD]) hx := (Db (Df aY aM).symm)
  have eY := (Dl tL (Dl tM tN))
  have h1 := ((aY.ext eX).but y mC)
  have tO : Dj (bx aB 29 [.slice aI (List.length (List.replicate (Int.toNat (wr ((ln x) + 1))) ((0 : Int)))) aJ, .slice aG (List.length (List.replicate (Int.toNat (wr ((ln aA) + 1))) ((0 : Int)))) aH, .slice aE (List.length (List.replicate (Int.toNat (wr ((ln x) + 1))) (([] : List Int)))) aF, .slice aC (List.length (List.replicate (Int.toNat (wr ((ln x) + 1))) (([] : List Int)))) aD]) hx := (Db (Df aY aM).symm)
  have h2 := (Dl (Mj aP (Dj.eqv hU eY) h1) (Dl (Mj aQ (Dj.eqv hU eY) h1) tO))
  have mD := ((((aY.ext eX).but y mC).but X121 (Dj.eqv hU eY)).but X491 (Dj.eqv hU483 h2))
  refine Lo 2 rfl rfl rfl ti_22 ag_22 rfl tJ tK mD fun aB7 tP => ?_
  have mE := tP.slice
  obtain ⟨eZ, e0, rfl⟩ := mE.shape
  refine Lv ok 3 [(11, I aR), (12, sl eZ bX e0)] 5 rfl rfl (Ln _ rfl (Wq (Wg (Lv ok 0 [(71, sl eZ bX e0), (72, I (ln bX)), (73, I 0)] 3 rfl rfl (Ln _ rfl (W_block ?_))))))
  obtain ⟨U537, hU538⟩ : ∃ U : PH, U = (un bS (un bD (bx aB 29 [.slice aI (List.length (List.replicate (Int.toNat (wr ((ln x) + 1))) ((0 : Int)))) aJ, .slice aG (List.length (List.replicate (Int.toNat (wr ((ln aA) + 1))) ((0 : Int)))) aH, .slice aE (List.length (List.replicate (Int.toNat (wr ((ln x) + 1))) (([] : List Int)))) aF, .slice aC (List.length (List.replicate (Int.toNat (wr ((ln x) + 1))) (([] : List Int)))) aD]))) := ⟨_, rfl⟩
  have D539 : Dom U537 bS := Dom.eqv hU538 (Dom.l _ _)
  have D540 : Dom U537 bD := Dom.eqv hU538 (Ot (Dom.r _ _) (Dom.l _ _))
  obtain ⟨J547, tQ, Hx549, H⟩ := H
  refine W_loop (S := Int × (List (List Int)) × (List (List Int))) (fun s ρ' w' => J547 s.1 s.2.1 s.2.2 ∧ ∃ (ρ : Env) (b6 : PH) (b7 : PH), ρ' = setAll [(0, sl a x c), (4, pb aN), (5, .func (.func 85) #[] #[pb b]), (6, .func (.func 86) #[] #[pb b]), (7, I (ln x)), (8, I (ln aA)), (9, pb aB), (11, I aR), (64, sl a x c), (65, I (ln x)), (66, I aR), (71, sl eZ bX e0), (72, I (ln bX)), (73, I s.1)] ρ ∧ But U537 cU w' ∧ OD b6 (.slice aE (List.length (List.replicate (Int.toNat (wr ((ln x) + 1))) (([] : List Int)))) aF) s.2.1 ∧ Sub b6 w' ∧ DomLe U537 cU.heap.size b6 ∧ OD b7 (.slice aC (List.length (List.replicate (Int.toNat (wr ((ln x) + 1))) (([] : List Int)))) aD) s.2.2 ∧ Sub b7 w' ∧ DomLe U537 cU.heap.size b7 ∧ Sub (bx aB 29 [.slice aI (List.length (List.replicate (Int.toNat (wr ((ln x) + 1))) ((0 : Int)))) aJ, .slice aG (List.length (List.replicate (Int.toNat (wr ((ln aA) + 1))) ((0 : Int)))) aH, .slice aE (List.length (List.replicate (Int.toNat (wr ((ln x) + 1))) (([] : List Int)))) aF, .slice aC (List.length (List.replicate (Int.toNat (wr ((ln x) + 1))) (([] : List Int)))) aD]) w' ∧ Dj b6 (bx aB 29 [.slice aI (List.length (List.replicate (Int.toNat (wr ((ln x) + 1))) ((0 : Int)))) aJ, .slice aG (List.length (List.replicate (Int.toNat (wr ((ln aA) + 1))) ((0 : Int)))) aH, .slice aE (List.length (List.replicate (Int.toNat (wr ((ln x) + 1))) (([] : List Int)))) aF, .slice aC (List.length (List.replicate (Int.toNat (wr ((ln x) + 1))) (([] : List Int)))) aD]) ∧ Dj b7 (bx aB 29 [.slice aI (List.length (List.replicate (Int.toNat (wr ((ln x) + 1))) ((0 : Int)))) aJ, .slice aG (List.length (List.replicate (Int.toNat (wr ((ln aA) + 1))) ((0 : Int)))) aH, .slice aE (List.length (List.replicate (Int.toNat (wr ((ln x) + 1))) (([] : List Int)))) aF, .slice aC (List.length (List.replicate (Int.toNat (wr ((ln x) + 1))) (([] : List Int)))) aD]) ∧ Dj b7 b6) (fun s => tQ s.1 s.2.1 s.2.2) (0, l7, hX) ⟨Hx549, _, bS, bD, Ee ⟨rfl, rfl, rfl, rfl, rfl, rfl, rfl, rfl, rfl, rfl, rfl, rfl, rfl, rfl, trivial⟩, (Br _ _), l8, hY, (Oe D539 _), l9, dT, (Oe D540 _), cJ, hZ, mA, mB⟩ ?_
  rintro ⟨aX, h3, h4⟩ _ aB8 ⟨Hi, ρ, b6, b7, rfl, HF⟩
  revert HF
  refine bb9 fun X546 mF mG mH mI mJ mK mL => ?_
  refine bb3 fun e1 h5 dU => ?_
  have H := H aX h3 h4 Hi
  refine Wq (Wg (Lv ok 0 [(74, .bool (decide (aX < (ln bX))))] 1 rfl rfl (Ln _ rfl (Wq ?_))))
  refine Wc (decide (aX < (ln bX))) rfl (fun h6 => ?_) (fun h6 => ?_)
  ·have H := H.1 h6
   refine Wk (Wq (W_block (Wq (Wg (Lv ok 0 [(75, I aX)] 1 rfl rfl ?_)))))
   obtain ⟨cK, tR, tS, H⟩ := H
   refine Li 1 rfl rfl rfl Try.underlying22 ti_3 rfl rfl mE tR tS fun aB9 aCA tT tU => ?_
   have mM := (h1.but X121 (Dj.eqv hU eY))
   have tV : Dj (bx aB 29 [.slice aI (List.length (List.replicate (Int.toNat (wr ((ln x) + 1))) ((0 : Int)))) aJ, .slice aG (List.length (List.replicate (Int.toNat (wr ((ln aA) + 1))) ((0 : Int)))) aH, .slice aE (List.length (List.replicate (Int.toNat (wr ((ln x) + 1))) (([] : List Int)))) aF, .slice aC (List.length (List.replicate (Int.toNat (wr ((ln x) + 1))) (([] : List Int)))) aD]) hx := (Db (Df aY aM).symm)
   refine Lo 2 rfl rfl rfl ti_3 ag_3 rfl tT tU (mD.but X546 (Dj.eqv hU538 (Dl (Mj cI (Dj.eqv hU483 h2) mM) (Dl (Mj bE (Dj.eqv hU483 h2) mM) tV)))) fun aCB tW => ?_
   obtain rfl := tW.int
   refine Lv ok 3 [(13, I aX), (14, I cK)] 5 rfl rfl (Ln _ rfl ?_)
   refine W_open mix fun aCC dV => ?_
   refine AP_game 20 [[], [0], [], [0, 1, 2], [0, 1, 2, 3], [], [], [6], [], [6, 7, 8], [6, 7, 8, 9], [], [], [], [12, 13], [], [], [12, 13, 14, 15, 16], [0, 1, 2, 3, 4, 5, 6, 7, 8, 9, 10, 12, 13, 14, 15, 16, 17], [0, 1, 2, 3, 4, 5, 6, 7, 8, 9, 10, 12, 13, 14, 15, 16, 17, 18], [0, 1, 2, 3, 4, 5, 6, 7, 8, 9, 10, 11, 12, 13, 14, 15, 16, 17, 18, 19], [0, 1, 2, 3, 4, 5, 6, 7, 8, 9, 10, 11, 12, 13, 14, 15, 16, 17, 18, 19, 20]] [[(9, none)], [(78, some 0)], [(11, none)], [(79, some 1), (80, some 2)], [(81, some 3)], [(13, none)], [(9, none)], [(84, some 6)], [(11, none)], [(85, some 7), (86, some 8)], [(87, some 9)], [(13, none)], [(5, none)], [(14, none)], [(90, some 12), (91, some 13)], [(6, none)], [(14, none)], [(93, some 15), (94, some 16)], [(82, some 4), (83, some 5)], [(92, some 14), (96, some 18)]] [(0, none), (4, none), (5, none), (6, none), (7, none), (8, none), (9, none), (11, none), (64, none), (65, none), (66, none), (71, none), (72, none), (73, none), (88, some 10), (89, some 11), (95, some 17)] [(0, false), (1, false), (2, false), (3, false), (4, false), (5, false), (6, false), (7, false), (8, false), (9, false), (10, false), (11, false), (12, false), (13, false), (15, false), (16, false), (14, true), (17, true), (18, true), (19, true)] (by kernel_rfl) (by kernel_rfl) ?_
   refine GS_ev ok [(9, pb aB)] (.pointer (some ⟨aB, 2, none⟩)) rfl rfl (fun _ h => h) (fun _ => rfl) ?_
   have cV := (mL.ext dV)
   refine GS_r1 [(78, .pointer (some ⟨aB, 2, none⟩))] (.slice aE (List.length (List.replicate (Int.toNat (wr ((ln x) + 1))) (([] : List Int)))) aF) rfl rfl (fun _ h => h) (fun _ w e => ex_ldbox rfl ti_23 ag_23 (fun _ => rfl) rfl e rfl rfl) cV ?_
   refine GS_ev ok [(11, I aR)] (I aR) rfl rfl (fun _ h => h) (fun _ => rfl) ?_
   obtain ⟨cW, tX, tY, H⟩ := H
   obtain ⟨mN, u, tZ, rest, t0, t1, bw⟩ := run_indexb Try.underlying23 ti_22 mF _ tX tY
   refine GS_r0 [(79, .slice aE (List.length (List.replicate (Int.toNat (wr ((ln x) + 1))) (([] : List Int)))) aF), (80, I aR)] (.pointer (some mN)) rfl rfl (fun _ h => h) (fun _ _ => ex_index rfl rfl rfl (t0 _)) ?_
   have mO := bw.od
   obtain ⟨e2, e3, rfl⟩ := mO.shape
   have e4 := (mG.ext dV)
   have t2 := Sub.le e4 bw.le
   have t3 : OS 3 tZ emp (sl e2 cW e3) cW := OD.flat mO
   refine GS_r1 [(81, .pointer (some mN))] (sl e2 cW e3) rfl rfl (fun _ h => h) (fun _ w e => ex_ldcell rfl ti_22 ag_22 rfl t1 e) e4 ?_
   refine GS_ev ok [(13, I aX)] (I aX) rfl rfl (fun _ h => h) (fun _ => rfl) ?_
   refine GS_ev ok [(9, pb aB)] (.pointer (some ⟨aB, 3, none⟩)) rfl rfl (fun _ h => h) (fun _ => rfl) ?_
   refine GS_r1 [(84, .pointer (some ⟨aB, 3, none⟩))] (.slice aC (List.length (List.replicate (Int.toNat (wr ((ln x) + 1))) (([] : List Int)))) aD) rfl rfl (fun _ h => h) (fun _ w e => ex_ldbox rfl ti_23 ag_23 (fun _ => rfl) rfl e rfl rfl) cV ?_
   refine GS_ev ok [(11, I aR)] (I aR) rfl rfl (fun _ h => h) (fun _ => rfl) ?_
   obtain ⟨cX, t4, t5, H⟩ := H
   obtain ⟨mP, aCD, t6, t7, t8, t9, cY⟩ := run_indexb Try.underlying23 ti_22 mI _ t4 t5
   refine GS_r0 [(85, .slice aC (List.length (List.replicate (Int.toNat (wr ((ln x) + 1))) (([] : List Int)))) aD), (86, I aR)] (.pointer (some mP)) rfl rfl (fun _ h => h) (fun _ _ => ex_index rfl rfl rfl (t8 _)) ?_
   have mQ := cY.od
   obtain ⟨e5, e6, rfl⟩ := mQ.shape
   have dW := (mJ.ext dV)
   have uA := Sub.le dW cY.le
   have uB : OS 3 t6 emp (sl e5 cX e6) cX := OD.flat mQ
   refine GS_r1 [(87, .pointer (some mP))] (sl e5 cX e6) rfl rfl (fun _ h => h) (fun _ w e => ex_ldcell rfl ti_22 ag_22 rfl t9 e) dW ?_
   refine GS_ev ok [(13, I aX)] (I aX) rfl rfl (fun _ h => h) (fun _ => rfl) ?_
   refine GS_ev ok [(5, .func (.func 85) #[] #[pb b])] (.func (.func 85) #[] #[pb b]) rfl rfl (fun _ h => h) (fun _ => rfl) ?_
   refine GS_ev ok [(14, I cK)] (I cK) rfl rfl (fun _ h => h) (fun _ => rfl) ?_
   refine GS_ev ok [(6, .func (.func 86) #[] #[pb b])] (.func (.func 86) #[] #[pb b]) rfl rfl (fun _ h => h) (fun _ => rfl) ?_
   refine GS_ev ok [(14, I cK)] (I cK) rfl rfl (fun _ h => h) (fun _ => rfl) ?_
   refine GS_lp [(90, .func (.func 85) #[] #[pb b]), (91, I cK)] rfl rfl (fun _ h => h) rfl fun ρ uC e7 => ?_
   have mR := (Df aL aM).symm
   have uD := (Df aL bJ).symm
   have uE := (Df aL bK).symm
   have uF : Dj (bx aB 29 [.slice aI (List.length (List.replicate (Int.toNat (wr ((ln x) + 1))) ((0 : Int)))) aJ, .slice aG (List.length (List.replicate (Int.toNat (wr ((ln aA) + 1))) ((0 : Int)))) aH, .slice aE (List.length (List.replicate (Int.toNat (wr ((ln x) + 1))) (([] : List Int)))) aF, .slice aC (List.length (List.replicate (Int.toNat (wr ((ln x) + 1))) (([] : List Int)))) aD]) (bx b 3 [I base]) := (Db (Df aL aM).symm)
   have e8 := (Dl uD (Dl uE uF))
   have h7 := ((aL.ext eX).but y mR)
   have uG : Dj (bx aB 29 [.slice aI (List.length (List.replicate (Int.toNat (wr ((ln x) + 1))) ((0 : Int)))) aJ, .slice aG (List.length (List.replicate (Int.toNat (wr ((ln aA) + 1))) ((0 : Int)))) aH, .slice aE (List.length (List.replicate (Int.toNat (wr ((ln x) + 1))) (([] : List Int)))) aF, .slice aC (List.length (List.replicate (Int.toNat (wr ((ln x) + 1))) (([] : List Int)))) aD]) (bx b 3 [I base]) := (Db (Df aL aM).symm)
   have h8 := (Dl (Mj aP (Dj.eqv hU e8) h7) (Dl (Mj aQ (Dj.eqv hU e8) h7) uG))
   have mS := (h7.but X121 (Dj.eqv hU e8))
   have uH : Dj (bx aB 29 [.slice aI (List.length (List.replicate (Int.toNat (wr ((ln x) + 1))) ((0 : Int)))) aJ, .slice aG (List.length (List.replicate (Int.toNat (wr ((ln aA) + 1))) ((0 : Int)))) aH, .slice aE (List.length (List.replicate (Int.toNat (wr ((ln x) + 1))) (([] : List Int)))) aF, .slice aC (List.length (List.replicate (Int.toNat (wr ((ln x) + 1))) (([] : List Int)))) aD]) (bx b 3 [I base]) := (Db (Df aL aM).symm)
   have mT := ((((((aL.ext eX).but y mR).but X121 (Dj.eqv hU e8)).but X491 (Dj.eqv hU483 h8)).but X546 (Dj.eqv hU538 (Dl (Mj cI (Dj.eqv hU483 h8) mS) (Dl (Mj bE (Dj.eqv hU483 h8) mS) uH)))).ext (dV.trans e7))
   refine LP_callc 0 rfl rfl rfl rfl cal_85 rfl rfl (impl_roundingNetwork_1_w _ _ _ H uC mT) ?_
   rintro _ aCE ⟨mU, H, rfl, e9⟩
   have fA := (e7.trans e9)
   have mV := (dW.ext fA)
   have mW := (cV.ext fA)
   have mX := (e4.ext fA)
   have mY := (cV.ext fA)
   refine LP_gs ⟨⟨.inr mV, .inr mW, .inr mX, .inr mY, trivial⟩, ?_⟩
   refine GS_lp [(93, .func (.func 86) #[] #[pb b]), (94, I cK)] rfl rfl (fun _ h => h) rfl fun ρ uI fB => ?_
   refine LP_callc 0 rfl rfl rfl rfl cal_86 rfl rfl (impl_roundingNetwork_2_w _ _ _ H uI (mT.ext (e9.trans fB))) ?_
   rintro _ aCF ⟨mZ, H, rfl, h9⟩
   have fC := (fB.trans h9)
   refine LP_gs ⟨⟨.inr (mV.ext fC), .inr (mW.ext fC), .inr (mX.ext fC), .inr (mY.ext fC), trivial⟩, ?_⟩
   refine GS_lp [(82, sl e2 cW e3), (83, I aX)] rfl rfl (fun _ h => h) rfl fun ρ aCG m0 => ?_
   obtain ⟨uJ, uK, H⟩ := H
   refine LP_indexw (v := sl e2 cW e3) 0 rfl rfl rfl Try.underlying22 ti_3 rfl rfl t3 uJ uK fun uL uM => ?_
   refine LP_gs ⟨⟨.inl rfl, .inl rfl, .inl rfl, .inl rfl, trivial⟩, ?_⟩
   refine GS_lp [(92, I mU), (96, .pointer (some uL))] rfl rfl (fun _ h => h) rfl fun ρ aCH m1 => ?_
   have cL := (((((e7.trans e9).trans fB).trans h9).trans m0).trans m1)
   refine LP_set 0 rfl rfl rfl rfl rfl uM (Le.refl emp) ⟨_, rfl, rfl⟩ (t2.ext cL) fun uN aCI uO uP m2 uQ => ?_
   obtain ⟨aCJ, uR, dd⟩ := BwL.turn bw (OS.od uO) (Dom.of uQ)
   have m3 := BwL.sub bw (e4.ext cL) uP m2
   have cZ := BwL.but bw m2
   refine LP_gs ⟨⟨.inl rfl, .inl rfl, .inl rfl, .inl rfl, trivial⟩, ?_⟩
   intro aCK b8 ρ uS
   refine AP_forget [(0, sl a x c), (4, pb aN), (5, .func (.func 85) #[] #[pb b]), (6, .func (.func 86) #[] #[pb b]), (7, I (ln x)), (8, I (ln aA)), (9, pb aB), (11, I aR), (64, sl a x c), (65, I (ln x)), (66, I aR), (71, sl eZ bX e0), (72, I (ln bX)), (73, I aX), (88, sl e5 cX e6), (89, I aX), (95, I mZ)] (by exact uS) fun ρ => ?_
   refine AP_tail 20 [[], [0], [], [0, 1, 2], [0, 1, 2, 3], [], [], [6], [], [6, 7, 8], [6, 7, 8, 9], [], [], [], [12, 13], [], [], [12, 13, 14, 15, 16], [0, 1, 2, 3, 4, 5, 6, 7, 8, 9, 10, 12, 13, 14, 15, 16, 17], [0, 1, 2, 3, 4, 5, 6, 7, 8, 9, 10, 12, 13, 14, 15, 16, 17, 18], [0, 1, 2, 3, 4, 5, 6, 7, 8, 9, 10, 11, 12, 13, 14, 15, 16, 17, 18, 19], [0, 1, 2, 3, 4, 5, 6, 7, 8, 9, 10, 11, 12, 13, 14, 15, 16, 17, 18, 19, 20]] (by kernel_rfl) ?_
   obtain ⟨uT, uU, H⟩ := H
   refine LP_indexw (v := sl e5 cX e6) 20 rfl rfl rfl Try.underlying22 ti_3 rfl rfl uB uT uU fun aCL uV => ?_
   have uW := (Dom.dj cY.dom dU).symm
   refine LP_set 21 rfl rfl rfl rfl rfl uV (Le.refl emp) ⟨_, rfl, rfl⟩ (((uA.ext cL).but cZ uW).ext b8) fun uX aCM uY uZ m4 u0 => ?_
   obtain ⟨aCN, u1, iA⟩ := BwL.turn cY (OS.od uY) (Dom.of u0)
   have u2 := BwL.sub cY (((dW.ext cL).but cZ dU.symm).ext b8) uZ m4
   have iB := BwL.but cY m4
   refine Ln _ rfl (Wg (Lv ok 0 [(98, I (wr (aX + 1))), (73, I (wr (aX + 1)))] 2 rfl rfl (Ln _ rfl ?_)))
   have iC := ((((((dV.trans e7).trans e9).trans fB).trans h9).trans m0).trans m1)
   have m5 : DomLe U537 cU.heap.size b6 := (Mt (Oe (Or _) _) mH (Nat.le_refl _))
   have m6 : DomLe U537 cU.heap.size b7 := (Mt (Oe (Or _) _) mK (Nat.le_refl _))
   have m7 := (dW.ext cL)
   have m8 := (cV.ext cL)
   exact ⟨(wr (aX + 1), List.set h3 (Int.toNat aR) (List.set cW (Int.toNat aX) mU), List.set h4 (Int.toNat aR) (List.set cX (Int.toNat aX) mZ)), ⟨H.1, _, (un uN rest), (un uX t7), Ee ⟨rfl, rfl, rfl, rfl, rfl, rfl, rfl, rfl, rfl, rfl, rfl, rfl, rfl, rfl, trivial⟩, ((((((Br U537 _).step X546 (Oe (Or _) _)).stepx iC).step cZ m5).stepx b8).step iB m6), uR, ((m3.ext b8).but iB (Mj ((fun n => Oe dd n) _) dU.symm m7).symm), (Mt m5 ((fun n => Oe dd n) _) (Nat.le_trans X546.size iC.size)), u1, u2, (Mt m6 ((fun n => Oe iA n) _) (Nat.le_trans (Nat.le_trans (Nat.le_trans X546.size iC.size) cZ.size) b8.size)), ((((cV.ext cL).but cZ e1).ext b8).but iB h5), (Mj ((fun n => Oe dd n) _) e1 m8), (Mj ((fun n => Oe iA n) _) h5 ((m8.but cZ e1).ext b8)), (Mj ((fun n => Oe iA n) _) (Mj ((fun n => Oe dd n) _) dU.symm m7).symm (m3.ext b8))⟩, H.2⟩
  have H := H.2 h6
  refine W_exit ?_
  refine (if_pos rfl).mpr ?_
  refine Wg (Lv ok 0 [(99, I (wr (aR + 1))), (66, I (wr (aR + 1)))] 2 rfl rfl (Ln _ rfl ?_))
  have iD : DomLe U482 eJ.heap.size U537 := (DomLe.eqv hU538 (Mu (Mt (Oe (Or _) _) cI (Nat.le_refl _)) (Mu (Mt (Oe (Or _) _) bE (Nat.le_refl _)) (Md D486 Sd))))
  exact ⟨(wr (aR + 1), h3, h4), ⟨H.1, _, b6, b7, Ee ⟨rfl, rfl, rfl, rfl, rfl, rfl, rfl, rfl, rfl, rfl, trivial⟩, (((Br U482 _).step X491 (Oe (Or _) _)).step X546 iD), mF, mG, (Mt iD mH X491.size), mI, mJ, (Mt iD mK X491.size), mL, e1, h5, dU⟩, H.2⟩
 have H := H.2 h0
 refine W_exit ?_
 refine (if_pos rfl).mpr ?_
 refine Wq (Wg (Lv ok 0 [(100, sl a x c)] 1 rfl rfl ?_))
 have bN := (kL.trans aS)
 have m9 := (Df aY aM).symm
 have u3 := (Df aY bJ).symm
 have u4 := (Df aY bK).symm
 have u5 : Dj (bx aB 29 [.slice aI (List.length (List.replicate (Int.toNat (wr ((ln x) + 1))) ((0 : Int)))) aJ, .slice aG (List.length (List.replicate (Int.toNat (wr ((ln aA) + 1))) ((0 : Int)))) aH, .slice aE (List.length (List.replicate (Int.toNat (wr ((ln x) + 1))) (([] : List Int)))) aF, .slice aC (List.length (List.replicate (Int.toNat (wr ((ln x) + 1))) (([] : List Int)))) aD]) hx := (Db (Df aY aM).symm)
 have iE := (Dl u3 (Dl u4 u5))
 have nA := ((aY.ext bN).but y m9)
 have u6 : Dj (bx aB 29 [.slice aI (List.length (List.replicate (Int.toNat (wr ((ln x) + 1))) ((0 : Int)))) aJ, .slice aG (List.length (List.replicate (Int.toNat (wr ((ln aA) + 1))) ((0 : Int)))) aH, .slice aE (List.length (List.replicate (Int.toNat (wr ((ln x) + 1))) (([] : List Int)))) aF, .slice aC (List.length (List.replicate (Int.toNat (wr ((ln x) + 1))) (([] : List Int)))) aD]) hx := (Db (Df aY aM).symm)
 have nB := ((((aY.ext bN).but y m9).but X121 (Dj.eqv hU iE)).but X491 (Dj.eqv hU483 (Dl (Mj aP (Dj.eqv hU iE) nA) (Dl (Mj aQ (Dj.eqv hU iE) nA) u6))))
 refine Lc 1 rfl rfl rfl cal_65 rfl (impl_rowSums_w _ _ H cU r nB) ?_
 rintro _ u7 ⟨aV, aCO, u9, H, rfl, bO, iF, iG, b9⟩
 obtain ⟨bF, bG, rfl⟩ := iF.shape
 refine Lv ok 2 [(102, sl a x c)] 3 rfl rfl (Lc 3 rfl rfl rfl cal_78 rfl (impl_colSums_w _ _ H u7 r (nB.ext bO)) ?_)
 rintro _ dX ⟨a5, aCP, vA, H, rfl, cA, nC, nD, dY⟩
 obtain ⟨cB, cC, rfl⟩ := nC.shape
 refine Lv ok 4 [(15, sl bF aV bG), (16, sl cB a5 cC)] 6 rfl rfl (Ln _ rfl (Wq (Wq (Wg (Lv ok 0 [(104, sl bF aV bG), (105, I (ln aV)), (106, I 0)] 3 rfl rfl (Ln _ rfl (W_block ?_)))))))
 obtain ⟨U750, hU751⟩ : ∃ U : PH, U = (un a9 (un bD (bx aB 29 [.slice aI (List.length (List.replicate (Int.toNat (wr ((ln x) + 1))) ((0 : Int)))) aJ, .slice aG (List.length (List.replicate (Int.toNat (wr ((ln aA) + 1))) ((0 : Int)))) aH, .slice aE (List.length (List.replicate (Int.toNat (wr ((ln x) + 1))) (([] : List Int)))) aF, .slice aC (List.length (List.replicate (Int.toNat (wr ((ln x) + 1))) (([] : List Int)))) aD]))) := ⟨_, rfl⟩
 have D752 : Dom U750 a9 := Dom.eqv hU751 (Dom.l _ _)
 have D753 : Dom U750 bD := Dom.eqv hU751 (Ot (Dom.r _ _) (Dom.l _ _))
 have fD : Dj U a9 := (Dj.eqv hU (Dl eH (Dl eI (Db aW))))
 have iH := ((b0.ext aS).but y aW)
 have nE : Dj U482 a9 := (Dj.eqv hU483 (Dl (Mj aP fD iH) (Dl (Mj aQ fD iH) (Db aW))))
 have iI := (bO.trans cA)
 have vB : Dj a9 (bx aB 29 [.slice aI (List.length (List.replicate (Int.toNat (wr ((ln x) + 1))) ((0 : Int)))) aJ, .slice aG (List.length (List.replicate (Int.toNat (wr ((ln aA) + 1))) ((0 : Int)))) aH, .slice aE (List.length (List.replicate (Int.toNat (wr ((ln x) + 1))) (([] : List Int)))) aF, .slice aC (List.length (List.replicate (Int.toNat (wr ((ln x) + 1))) (([] : List Int)))) aD]) := (Db aW.symm.symm).symm
 obtain ⟨J760, vC, Hx762, H⟩ := H
 refine W_loop (S := Int × (List Int) × (List (List Int))) (fun s ρ' w' => J760 s.1 s.2.1 s.2.2 ∧ ∃ (ρ : Env) (cM : PH) (bT : PH), ρ' = setAll [(4, pb aN), (5, .func (.func 85) #[] #[pb b]), (6, .func (.func 86) #[] #[pb b]), (7, I (ln x)), (8, I (ln aA)), (9, pb aB), (15, sl bF aV bG), (16, sl cB a5 cC), (104, sl bF aV bG), (105, I (ln aV)), (106, I s.1)] ρ ∧ But U750 dX w' ∧ OS 3 cM emp (.slice aI (List.length (List.replicate (Int.toNat (wr ((ln x) + 1))) ((0 : Int)))) aJ) s.2.1 ∧ Sub cM w' ∧ DomLe U750 dX.heap.size cM ∧ OD bT (.slice aC (List.length (List.replicate (Int.toNat (wr ((ln x) + 1))) (([] : List Int)))) aD) s.2.2 ∧ Sub bT w' ∧ DomLe U750 dX.heap.size bT ∧ Sub (bx aB 29 [.slice aI (List.length (List.replicate (Int.toNat (wr ((ln x) + 1))) ((0 : Int)))) aJ, .slice aG (List.length (List.replicate (Int.toNat (wr ((ln aA) + 1))) ((0 : Int)))) aH, .slice aE (List.length (List.replicate (Int.toNat (wr ((ln x) + 1))) (([] : List Int)))) aF, .slice aC (List.length (List.replicate (Int.toNat (wr ((ln x) + 1))) (([] : List Int)))) aD]) w' ∧ Dj cM (bx aB 29 [.slice aI (List.length (List.replicate (Int.toNat (wr ((ln x) + 1))) ((0 : Int)))) aJ, .slice aG (List.length (List.replicate (Int.toNat (wr ((ln aA) + 1))) ((0 : Int)))) aH, .slice aE (List.length (List.replicate (Int.toNat (wr ((ln x) + 1))) (([] : List Int)))) aF, .slice aC (List.length (List.replicate (Int.toNat (wr ((ln x) + 1))) (([] : List Int)))) aD]) ∧ Dj bT (bx aB 29 [.slice aI (List.length (List.replicate (Int.toNat (wr ((ln x) + 1))) ((0 : Int)))) aJ, .slice aG (List.length (List.replicate (Int.toNat (wr ((ln aA) + 1))) ((0 : Int)))) aH, .slice aE (List.length (List.replicate (Int.toNat (wr ((ln x) + 1))) (([] : List Int)))) aF, .slice aC (List.length (List.replicate (Int.toNat (wr ((ln x) + 1))) (([] : List Int)))) aD]) ∧ Dj bT cM) (fun s => vC s.1 s.2.1 s.2.2) (0, List.replicate (Int.toNat (wr ((ln x) + 1))) ((0 : Int)), hX) ⟨Hx762, _, a9, bD, Ee ⟨rfl, rfl, rfl, rfl, rfl, rfl, rfl, rfl, rfl, rfl, rfl, trivial⟩, (Br _ _), o, (((((b0.ext aS).but y aW).but X121 fD).but X491 nE).ext iI), (Oe D752 _), l9, (dT.ext iI), (Oe D753 _), (cJ.ext iI), vB, mA, (Mj bE nE (iH.but X121 fD))⟩ ?_
 rintro ⟨aT, rows, iJ⟩ _ dZ ⟨Hi, ρ, cM, bT, rfl, HF⟩
 revert HF
 refine bb9 fun X759 nF d0 cN nG iK bY nH => ?_
 refine bb3 fun fE iL iM => ?_
 have H := H aT rows iJ Hi
 refine Wq (Wg (Lv ok 0 [(107, .bool (decide (aT < (ln aV))))] 1 rfl rfl (Ln _ rfl (Wq ?_))))
 refine Wc (decide (aT < (ln aV))) rfl (fun iN => ?_) (fun iN => ?_)
 ·have H := H.1 iN
  refine Wk (Wq (W_block (Wq (Wg (Lv ok 0 [(108, I aT)] 1 rfl rfl ?_)))))
  obtain ⟨bP, vD, vE, H⟩ := H
  refine Li 1 rfl rfl rfl Try.underlying22 ti_3 rfl rfl iF.readf vD vE fun aCQ aCR vF vG => ?_
  have iO : Dj U a9 := (Dj.eqv hU (Dl eH (Dl eI (Db aW))))
  have nI := ((b0.ext aS).but y aW)
  have vH : Dj U482 a9 := (Dj.eqv hU483 (Dl (Mj aP iO nI) (Dl (Mj aQ iO nI) (Db aW))))
  refine Lo 2 rfl rfl rfl ti_3 ag_3 rfl vF vG ((iG.ext cA).but X759 (Dj.eqv hU751 (Dl (Df ((((b0.ext aS).but y aW).but X121 iO).but X491 vH) b9) (Dl (Df dT b9) (Df cJ b9))))) fun aCS vI => ?_
  obtain rfl := vI.int
  refine Lv ok 3 [(17, I aT), (18, I bP)] 5 rfl rfl (Ln _ rfl (Wq ?_))
  refine W_open mix fun aCT iP => ?_
  refine AP_game 6 [[], [0], [], [], [], [3, 4], [0, 1, 2, 3, 4, 5], [0, 1, 2, 3, 4, 5, 6]] [[(9, none)], [(111, some 0)], [(17, none)], [(6, none)], [(18, none)], [(114, some 3), (115, some 4)]] [(4, none), (5, none), (6, none), (7, none), (8, none), (9, none), (15, none), (16, none), (17, none), (18, none), (104, none), (105, none), (106, none), (112, some 1), (113, some 2), (116, some 5)] [(0, false), (1, false), (2, false), (3, false), (4, false), (5, true)] (by kernel_rfl) (by kernel_rfl) ?_
  refine GS_ev ok [(9, pb aB)] (pb aB) rfl rfl (fun _ h => h) (fun _ => rfl) ?_
  have fF := (nH.ext iP)
  refine GS_r1 [(111, pb aB)] (.slice aI (List.length (List.replicate (Int.toNat (wr ((ln x) + 1))) ((0 : Int)))) aJ) rfl rfl (fun _ h => h) (fun _ w e => ex_ldbox rfl ti_22 ag_22 (fun _ => rfl) rfl e rfl rfl) fF ?_
  refine GS_ev ok [(17, I aT)] (I aT) rfl rfl (fun _ h => h) (fun _ => rfl) ?_
  refine GS_ev ok [(6, .func (.func 86) #[] #[pb b])] (.func (.func 86) #[] #[pb b]) rfl rfl (fun _ h => h) (fun _ => rfl) ?_
  refine GS_ev ok [(18, I bP)] (I bP) rfl rfl (fun _ h => h) (fun _ => rfl) ?_
  refine GS_lp [(114, .func (.func 86) #[] #[pb b]), (115, I bP)] rfl rfl (fun _ h => h) rfl fun ρ vJ iQ => ?_
  have nJ := (Df aL aM).symm
  have vK := (Df aL bJ).symm
  have vL := (Df aL bK).symm
  have vM : Dj (bx aB 29 [.slice aI (List.length (List.replicate (Int.toNat (wr ((ln x) + 1))) ((0 : Int)))) aJ, .slice aG (List.length (List.replicate (Int.toNat (wr ((ln aA) + 1))) ((0 : Int)))) aH, .slice aE (List.length (List.replicate (Int.toNat (wr ((ln x) + 1))) (([] : List Int)))) aF, .slice aC (List.length (List.replicate (Int.toNat (wr ((ln x) + 1))) (([] : List Int)))) aD]) (bx b 3 [I base]) := (Db (Df aL aM).symm)
  have fG := (Dl vK (Dl vL vM))
  have iR := ((aL.ext bN).but y nJ)
  have vN : Dj (bx aB 29 [.slice aI (List.length (List.replicate (Int.toNat (wr ((ln x) + 1))) ((0 : Int)))) aJ, .slice aG (List.length (List.replicate (Int.toNat (wr ((ln aA) + 1))) ((0 : Int)))) aH, .slice aE (List.length (List.replicate (Int.toNat (wr ((ln x) + 1))) (([] : List Int)))) aF, .slice aC (List.length (List.replicate (Int.toNat (wr ((ln x) + 1))) (([] : List Int)))) aD]) (bx b 3 [I base]) := (Db (Df aL aM).symm)
  have iS := (Dl (Mj aP (Dj.eqv hU fG) iR) (Dl (Mj aQ (Dj.eqv hU fG) iR) vN))
  have nK := (bO.trans cA)
  have vO := (Df aL cR).symm
  have nL := (iR.but X121 (Dj.eqv hU fG))
  have vP : Dj (bx aB 29 [.slice aI (List.length (List.replicate (Int.toNat (wr ((ln x) + 1))) ((0 : Int)))) aJ, .slice aG (List.length (List.replicate (Int.toNat (wr ((ln aA) + 1))) ((0 : Int)))) aH, .slice aE (List.length (List.replicate (Int.toNat (wr ((ln x) + 1))) (([] : List Int)))) aF, .slice aC (List.length (List.replicate (Int.toNat (wr ((ln x) + 1))) (([] : List Int)))) aD]) (bx b 3 [I base]) := (Db (Df aL aM).symm)
  have nM := (Dl vO (Dl (Mj bE (Dj.eqv hU483 iS) nL) vP))
  have nN := (((((((aL.ext bN).but y nJ).but X121 (Dj.eqv hU fG)).but X491 (Dj.eqv hU483 iS)).ext nK).but X759 (Dj.eqv hU751 nM)).ext (iP.trans iQ))
  refine LP_callc 0 rfl rfl rfl rfl cal_86 rfl rfl (impl_roundingNetwork_2_w _ _ _ H vJ nN) ?_
  rintro _ aCU ⟨nO, H, rfl, iT⟩
  have nP := (iQ.trans iT)
  refine LP_gs ⟨⟨.inr (fF.ext nP), trivial⟩, ?_⟩
  intro aCV iU ρ vQ
  refine AP_forget [(4, pb aN), (5, .func (.func 85) #[] #[pb b]), (6, .func (.func 86) #[] #[pb b]), (7, I (ln x)), (8, I (ln aA)), (9, pb aB), (15, sl bF aV bG), (16, sl cB a5 cC), (17, I aT), (18, I bP), (104, sl bF aV bG), (105, I (ln aV)), (106, I aT), (112, .slice aI (List.length (List.replicate (Int.toNat (wr ((ln x) + 1))) ((0 : Int)))) aJ), (113, I aT), (116, I nO)] (by exact vQ) fun ρ => ?_
  refine AP_tail 6 [[], [0], [], [], [], [3, 4], [0, 1, 2, 3, 4, 5], [0, 1, 2, 3, 4, 5, 6]] (by kernel_rfl) ?_
  obtain ⟨vR, vS, H⟩ := H
  refine LP_indexw (v := .slice aI (List.length (List.replicate (Int.toNat (wr ((ln x) + 1))) ((0 : Int)))) aJ) 6 rfl rfl rfl Try.underlying22 ti_3 rfl rfl nF vR vS fun aCW vT => ?_
  have c0 := (((iP.trans iQ).trans iT).trans iU)
  refine LP_set 7 rfl rfl rfl rfl rfl vT (Le.refl emp) ⟨_, rfl, rfl⟩ (d0.ext c0) fun vU aCX vV nQ d1 iV => (Ln _ rfl ?_)
  refine W_open mix fun aCY fH => ?_
  refine AP_game 13 [[], [0], [], [0, 1, 2], [0, 1, 2, 3], [], [], [], [6, 7], [], [], [6, 7, 8, 9, 10], [6, 7, 8, 9, 10, 11], [0, 1, 2, 3, 4, 5, 6, 7, 8, 9, 10, 11, 12], [0, 1, 2, 3, 4, 5, 6, 7, 8, 9, 10, 11, 12, 13]] [[(9, none)], [(118, some 0)], [(17, none)], [(119, some 1), (120, some 2)], [(121, some 3)], [(8, none)], [(6, none)], [(18, none)], [(124, some 6), (125, some 7)], [(5, none)], [(18, none)], [(127, some 9), (128, some 10)], [(126, some 8), (129, some 11)]] [(4, none), (5, none), (6, none), (7, none), (8, none), (9, none), (15, none), (16, none), (104, none), (105, none), (106, none), (122, some 4), (123, some 5), (130, some 12)] [(0, false), (1, false), (2, false), (3, false), (4, false), (5, false), (6, false), (7, false), (9, false), (10, false), (8, true), (11, true), (12, false)] (by kernel_rfl) (by kernel_rfl) ?_
  refine GS_ev ok [(9, pb aB)] (.pointer (some ⟨aB, 3, none⟩)) rfl rfl (fun _ h => h) (fun _ => rfl) ?_
  have nR := (nP.trans iU)
  have fI := (((fF.ext nR).but d1 fE).ext fH)
  refine GS_r1 [(118, .pointer (some ⟨aB, 3, none⟩))] (.slice aC (List.length (List.replicate (Int.toNat (wr ((ln x) + 1))) (([] : List Int)))) aD) rfl rfl (fun _ h => h) (fun _ w e => ex_ldbox rfl ti_23 ag_23 (fun _ => rfl) rfl e rfl rfl) fI ?_
  refine GS_ev ok [(17, I aT)] (I aT) rfl rfl (fun _ h => h) (fun _ => rfl) ?_
  obtain ⟨c1, vW, vX, H⟩ := H
  obtain ⟨nS, aCZ, vY, vZ, v0, v1, d2⟩ := run_indexb Try.underlying23 ti_22 nG _ vW vX
  refine GS_r0 [(119, .slice aC (List.length (List.replicate (Int.toNat (wr ((ln x) + 1))) (([] : List Int)))) aD), (120, I aT)] (.pointer (some nS)) rfl rfl (fun _ h => h) (fun _ _ => ex_index rfl rfl rfl (v0 _)) ?_
  have nT := d2.od
  obtain ⟨fJ, fK, rfl⟩ := nT.shape
  have fL := (((iK.ext c0).but d1 iM.symm).ext fH)
  have v2 := Sub.le fL d2.le
  have v3 : OS 3 vY emp (sl fJ c1 fK) c1 := OD.flat nT
  refine GS_r1 [(121, .pointer (some nS))] (sl fJ c1 fK) rfl rfl (fun _ h => h) (fun _ w e => ex_ldcell rfl ti_22 ag_22 rfl v1 e) fL ?_
  refine GS_ev ok [(8, I (ln aA))] (I (ln aA)) rfl rfl (fun _ h => h) (fun _ => rfl) ?_
  refine GS_ev ok [(6, .func (.func 86) #[] #[pb b])] (.func (.func 86) #[] #[pb b]) rfl rfl (fun _ h => h) (fun _ => rfl) ?_
  refine GS_ev ok [(18, I bP)] (I bP) rfl rfl (fun _ h => h) (fun _ => rfl) ?_
  refine GS_ev ok [(5, .func (.func 85) #[] #[pb b])] (.func (.func 85) #[] #[pb b]) rfl rfl (fun _ h => h) (fun _ => rfl) ?_
  refine GS_ev ok [(18, I bP)] (I bP) rfl rfl (fun _ h => h) (fun _ => rfl) ?_
  refine GS_lp [(124, .func (.func 86) #[] #[pb b]), (125, I bP)] rfl rfl (fun _ h => h) rfl fun ρ v4 fM => ?_
  have nU := (((nN.ext (iT.trans iU)).but d1 (Mj cN (Dj.eqv hU751 nM) ((nL.but X491 (Dj.eqv hU483 iS)).ext nK))).ext (fH.trans fM))
  refine LP_callc 0 rfl rfl rfl rfl cal_86 rfl rfl (impl_roundingNetwork_2_w _ _ _ H v4 nU) ?_
  rintro _ aC0 ⟨fN, H, rfl, fO⟩
  have nV := (fM.trans fO)
  have nW := (fL.ext nV)
  have nX := (fI.ext nV)
  refine LP_gs ⟨⟨.inr nW, .inr nX, trivial⟩, ?_⟩
  refine GS_lp [(127, .func (.func 85) #[] #[pb b]), (128, I bP)] rfl rfl (fun _ h => h) rfl fun ρ v5 fP => ?_
  refine LP_callc 0 rfl rfl rfl rfl cal_85 rfl rfl (impl_roundingNetwork_1_w _ _ _ H v5 (nU.ext (fO.trans fP))) ?_
  rintro _ aC1 ⟨fQ, H, rfl, iW⟩
  have nY := (fP.trans iW)
  refine LP_gs ⟨⟨.inr (nW.ext nY), .inr (nX.ext nY), trivial⟩, ?_⟩
  refine GS_ev ok [(126, I fN), (129, I fQ)] (I (wr (fN - fQ))) rfl rfl (fun _ h => h) (fun _ => rfl) ?_
  intro aC2 nZ ρ v6
  refine AP_forget [(4, pb aN), (5, .func (.func 85) #[] #[pb b]), (6, .func (.func 86) #[] #[pb b]), (7, I (ln x)), (8, I (ln aA)), (9, pb aB), (15, sl bF aV bG), (16, sl cB a5 cC), (104, sl bF aV bG), (105, I (ln aV)), (106, I aT), (122, sl fJ c1 fK), (123, I (ln aA)), (130, I (wr (fN - fQ)))] (by exact v6) fun ρ => ?_
  refine AP_tail 13 [[], [0], [], [0, 1, 2], [0, 1, 2, 3], [], [], [], [6, 7], [], [], [6, 7, 8, 9, 10], [6, 7, 8, 9, 10, 11], [0, 1, 2, 3, 4, 5, 6, 7, 8, 9, 10, 11, 12], [0, 1, 2, 3, 4, 5, 6, 7, 8, 9, 10, 11, 12, 13]] (by kernel_rfl) ?_
  obtain ⟨v7, v8, H⟩ := H
  refine LP_indexw (v := sl fJ c1 fK) 13 rfl rfl rfl Try.underlying22 ti_3 rfl rfl v3 v7 v8 fun aC3 v9 => ?_
  have fR := ((((fM.trans fO).trans fP).trans iW).trans nZ)
  refine LP_set 14 rfl rfl rfl rfl rfl v9 (Le.refl emp) ⟨_, rfl, rfl⟩ (v2.ext fR) fun wA aC4 wB wC n0 wD => ?_
  obtain ⟨aC5, wE, iX⟩ := BwL.turn d2 (OS.od wB) (Dom.of wD)
  have wF := BwL.sub d2 (fL.ext fR) wC n0
  have iY := BwL.but d2 n0
  refine Ln _ rfl (Wg (Lv ok 0 [(132, I (wr (aT + 1))), (106, I (wr (aT + 1)))] 2 rfl rfl (Ln _ rfl ?_)))
  have n1 : DomLe U750 dX.heap.size cM := (Mt (Oe (Or _) _) cN (Nat.le_refl _))
  have fS := (((((fH.trans fM).trans fO).trans fP).trans iW).trans nZ)
  have n2 : DomLe U750 dX.heap.size bT := (Mt (Oe (Or _) _) bY (Nat.le_refl _))
  have n3 := (Mj (iV _) iM.symm (iK.ext c0)).symm
  exact ⟨(wr (aT + 1), List.set rows (Int.toNat aT) nO, List.set iJ (Int.toNat aT) (List.set c1 (Int.toNat (ln aA)) (wr (fN - fQ)))), ⟨H.1, _, vU, (un wA vZ), Ee ⟨rfl, rfl, rfl, rfl, rfl, rfl, rfl, rfl, rfl, rfl, rfl, trivial⟩, ((((((Br U750 _).step X759 (Oe (Or _) _)).stepx c0).step d1 n1).stepx fS).step iY n2), vV, ((nQ.ext fS).but iY n3), (Mt n1 (iV _) (Nat.le_trans X759.size c0.size)), wE, wF, (Mt n2 ((fun n => Oe iX n) _) (Nat.le_trans (Nat.le_trans (Nat.le_trans X759.size c0.size) d1.size) fS.size)), ((fI.ext fR).but iY iL), (Mj (iV _) fE (fF.ext nR)), (Mj ((fun n => Oe iX n) _) iL (fI.ext fR)), (Mj ((fun n => Oe iX n) _) n3 (nQ.ext fS))⟩, H.2⟩
 have H := H.2 iN
 refine W_exit ?_
 refine (if_pos rfl).mpr ?_
 refine Wq (Wq (Wg (Lv ok 0 [(133, sl cB a5 cC), (134, I (ln a5)), (135, I 0)] 3 rfl rfl (Ln _ rfl (W_block ?_)))))
 obtain ⟨U936, hU937⟩ : ∃ U : PH, U = (un bA (un bT (bx aB 29 [.slice aI (List.length (List.replicate (Int.toNat (wr ((ln x) + 1))) ((0 : Int)))) aJ, .slice aG (List.length (List.replicate (Int.toNat (wr ((ln aA) + 1))) ((0 : Int)))) aH, .slice aE (List.length (List.replicate (Int.toNat (wr ((ln x) + 1))) (([] : List Int)))) aF, .slice aC (List.length (List.replicate (Int.toNat (wr ((ln x) + 1))) (([] : List Int)))) aD]))) := ⟨_, rfl⟩
 have D938 : Dom U936 bA := Dom.eqv hU937 (Dom.l _ _)
 have D939 : Dom U936 bT := Dom.eqv hU937 (Ot (Dom.r _ _) (Dom.l _ _))
 have fT : Dj U bA := (Dj.eqv hU (Dl g1 (Dl g2 (Db aZ))))
 have iZ := ((cS.ext aS).but y aZ)
 have i0 : Dj U482 bA := (Dj.eqv hU483 (Dl (Mj aP fT iZ) (Dl (Mj aQ fT iZ) (Db aZ))))
 have n4 := (bO.trans cA)
 have n5 := (iZ.but X121 fT)
 have n6 : Dj U750 bA := (Dj.eqv hU751 (Dl kP.symm (Dl (Mj bE i0 n5) (Db aZ))))
 have wG : Dj bA (bx aB 29 [.slice aI (List.length (List.replicate (Int.toNat (wr ((ln x) + 1))) ((0 : Int)))) aJ, .slice aG (List.length (List.replicate (Int.toNat (wr ((ln aA) + 1))) ((0 : Int)))) aH, .slice aE (List.length (List.replicate (Int.toNat (wr ((ln x) + 1))) (([] : List Int)))) aF, .slice aC (List.length (List.replicate (Int.toNat (wr ((ln x) + 1))) (([] : List Int)))) aD]) := (Db aZ.symm.symm).symm
 obtain ⟨J946, wH, Hx948, H⟩ := H
 refine W_loop (S := Int × (List Int) × (List (List Int))) (fun s ρ' w' => J946 s.1 s.2.1 s.2.2 ∧ ∃ (ρ : Env) (cD : PH) (cO : PH), ρ' = setAll [(4, pb aN), (5, .func (.func 85) #[] #[pb b]), (6, .func (.func 86) #[] #[pb b]), (7, I (ln x)), (8, I (ln aA)), (9, pb aB), (15, sl bF aV bG), (133, sl cB a5 cC), (134, I (ln a5)), (135, I s.1)] ρ ∧ But U936 dZ w' ∧ OS 3 cD emp (.slice aG (List.length (List.replicate (Int.toNat (wr ((ln aA) + 1))) ((0 : Int)))) aH) s.2.1 ∧ Sub cD w' ∧ DomLe U936 dZ.heap.size cD ∧ OD cO (.slice aC (List.length (List.replicate (Int.toNat (wr ((ln x) + 1))) (([] : List Int)))) aD) s.2.2 ∧ Sub cO w' ∧ DomLe U936 dZ.heap.size cO ∧ Sub (bx aB 29 [.slice aI (List.length (List.replicate (Int.toNat (wr ((ln x) + 1))) ((0 : Int)))) aJ, .slice aG (List.length (List.replicate (Int.toNat (wr ((ln aA) + 1))) ((0 : Int)))) aH, .slice aE (List.length (List.replicate (Int.toNat (wr ((ln x) + 1))) (([] : List Int)))) aF, .slice aC (List.length (List.replicate (Int.toNat (wr ((ln x) + 1))) (([] : List Int)))) aD]) w' ∧ Dj cD (bx aB 29 [.slice aI (List.length (List.replicate (Int.toNat (wr ((ln x) + 1))) ((0 : Int)))) aJ, .slice aG (List.length (List.replicate (Int.toNat (wr ((ln aA) + 1))) ((0 : Int)))) aH, .slice aE (List.length (List.replicate (Int.toNat (wr ((ln x) + 1))) (([] : List Int)))) aF, .slice aC (List.length (List.replicate (Int.toNat (wr ((ln x) + 1))) (([] : List Int)))) aD]) ∧ Dj cO (bx aB 29 [.slice aI (List.length (List.replicate (Int.toNat (wr ((ln x) + 1))) ((0 : Int)))) aJ, .slice aG (List.length (List.replicate (Int.toNat (wr ((ln aA) + 1))) ((0 : Int)))) aH, .slice aE (List.length (List.replicate (Int.toNat (wr ((ln x) + 1))) (([] : List Int)))) aF, .slice aC (List.length (List.replicate (Int.toNat (wr ((ln x) + 1))) (([] : List Int)))) aD]) ∧ Dj cO cD) (fun s => wH s.1 s.2.1 s.2.2) (0, List.replicate (Int.toNat (wr ((ln aA) + 1))) ((0 : Int)), iJ) ⟨Hx948, _, bA, bT, Ee ⟨rfl, rfl, rfl, rfl, rfl, rfl, rfl, rfl, rfl, rfl, trivial⟩, (Br _ _), kM, ((((((cS.ext aS).but y aZ).but X121 fT).but X491 i0).ext n4).but X759 n6), (Oe D938 _), nG, iK, (Oe D939 _), nH, wG, iL, (Mj bY n6 ((n5.but X491 i0).ext n4))⟩ ?_
 rintro ⟨aU, cols, n7⟩ _ wI ⟨Hi, ρ, cD, cO, rfl, HF⟩
 revert HF
 refine bb9 fun X945 i1 i2 c2 n8 i3 c3 n9 => ?_
 refine bb3 fun i4 i5 d3 => ?_
 have H := H aU cols n7 Hi
 refine Wq (Wg (Lv ok 0 [(136, .bool (decide (aU < (ln a5))))] 1 rfl rfl (Ln _ rfl (Wq ?_))))
 refine Wc (decide (aU < (ln a5))) rfl (fun i6 => ?_) (fun i6 => ?_)
 ·have H := H.1 i6
  refine Wk (Wq (W_block (Wq (Wg (Lv ok 0 [(137, I aU)] 1 rfl rfl ?_)))))
  obtain ⟨bQ, wJ, wK, H⟩ := H
  refine Li 1 rfl rfl rfl Try.underlying22 ti_3 rfl rfl nC.readf wJ wK fun aC6 aC7 wL wM => ?_
  have i7 : Dj U a9 := (Dj.eqv hU (Dl eH (Dl eI (Db aW))))
  have oA := ((b0.ext aS).but y aW)
  have wN : Dj U482 a9 := (Dj.eqv hU483 (Dl (Mj aP i7 oA) (Dl (Mj aQ i7 oA) (Db aW))))
  have oB := (Dl (Df (((((b0.ext aS).but y aW).but X121 i7).but X491 wN).ext bO) dY) (Dl (Df (dT.ext bO) dY) (Df (cJ.ext bO) dY)))
  have i9 : Dj U bA := (Dj.eqv hU (Dl g1 (Dl g2 (Db aZ))))
  have oC := ((cS.ext aS).but y aZ)
  have wO : Dj U482 bA := (Dj.eqv hU483 (Dl (Mj aP i9 oC) (Dl (Mj aQ i9 oC) (Db aZ))))
  have wP : Dj (bx aB 29 [.slice aI (List.length (List.replicate (Int.toNat (wr ((ln x) + 1))) ((0 : Int)))) aJ, .slice aG (List.length (List.replicate (Int.toNat (wr ((ln aA) + 1))) ((0 : Int)))) aH, .slice aE (List.length (List.replicate (Int.toNat (wr ((ln x) + 1))) (([] : List Int)))) aF, .slice aC (List.length (List.replicate (Int.toNat (wr ((ln x) + 1))) (([] : List Int)))) aD]) vA := (Db (Df (cJ.ext bO) dY))
  refine Lo 2 rfl rfl rfl ti_3 ag_3 rfl wL wM ((nD.but X759 (Dj.eqv hU751 oB)).but X945 (Dj.eqv hU937 (Dl (Df (((((cS.ext aS).but y aZ).but X121 i9).but X491 wO).ext bO) dY) (Dl (Mj bY (Dj.eqv hU751 oB) nD) wP)))) fun aC8 wQ => ?_
  obtain rfl := wQ.int
  refine Lv ok 3 [(19, I aU), (20, I bQ)] 5 rfl rfl (Ln _ rfl (Wq ?_))
  refine W_open mix fun aC9 jA => ?_
  refine AP_game 6 [[], [0], [], [], [], [3, 4], [0, 1, 2, 3, 4, 5], [0, 1, 2, 3, 4, 5, 6]] [[(9, none)], [(140, some 0)], [(19, none)], [(6, none)], [(20, none)], [(143, some 3), (144, some 4)]] [(4, none), (5, none), (6, none), (7, none), (8, none), (9, none), (15, none), (19, none), (20, none), (133, none), (134, none), (135, none), (141, some 1), (142, some 2), (145, some 5)] [(0, false), (1, false), (2, false), (3, false), (4, false), (5, true)] (by kernel_rfl) (by kernel_rfl) ?_
  refine GS_ev ok [(9, pb aB)] (.pointer (some ⟨aB, 1, none⟩)) rfl rfl (fun _ h => h) (fun _ => rfl) ?_
  have fU := (n9.ext jA)
  refine GS_r1 [(140, .pointer (some ⟨aB, 1, none⟩))] (.slice aG (List.length (List.replicate (Int.toNat (wr ((ln aA) + 1))) ((0 : Int)))) aH) rfl rfl (fun _ h => h) (fun _ w e => ex_ldbox rfl ti_22 ag_22 (fun _ => rfl) rfl e rfl rfl) fU ?_
  refine GS_ev ok [(19, I aU)] (I aU) rfl rfl (fun _ h => h) (fun _ => rfl) ?_
  refine GS_ev ok [(6, .func (.func 86) #[] #[pb b])] (.func (.func 86) #[] #[pb b]) rfl rfl (fun _ h => h) (fun _ => rfl) ?_
  refine GS_ev ok [(20, I bQ)] (I bQ) rfl rfl (fun _ h => h) (fun _ => rfl) ?_
  refine GS_lp [(143, .func (.func 86) #[] #[pb b]), (144, I bQ)] rfl rfl (fun _ h => h) rfl fun ρ wR jB => ?_
  have oD := (Df aL aM).symm
  have wS := (Df aL bJ).symm
  have wT := (Df aL bK).symm
  have wU : Dj (bx aB 29 [.slice aI (List.length (List.replicate (Int.toNat (wr ((ln x) + 1))) ((0 : Int)))) aJ, .slice aG (List.length (List.replicate (Int.toNat (wr ((ln aA) + 1))) ((0 : Int)))) aH, .slice aE (List.length (List.replicate (Int.toNat (wr ((ln x) + 1))) (([] : List Int)))) aF, .slice aC (List.length (List.replicate (Int.toNat (wr ((ln x) + 1))) (([] : List Int)))) aD]) (bx b 3 [I base]) := (Db (Df aL aM).symm)
  have fV := (Dl wS (Dl wT wU))
  have jC := ((aL.ext bN).but y oD)
  have wV : Dj (bx aB 29 [.slice aI (List.length (List.replicate (Int.toNat (wr ((ln x) + 1))) ((0 : Int)))) aJ, .slice aG (List.length (List.replicate (Int.toNat (wr ((ln aA) + 1))) ((0 : Int)))) aH, .slice aE (List.length (List.replicate (Int.toNat (wr ((ln x) + 1))) (([] : List Int)))) aF, .slice aC (List.length (List.replicate (Int.toNat (wr ((ln x) + 1))) (([] : List Int)))) aD]) (bx b 3 [I base]) := (Db (Df aL aM).symm)
  have jD := (Dl (Mj aP (Dj.eqv hU fV) jC) (Dl (Mj aQ (Dj.eqv hU fV) jC) wV))
  have oE := (bO.trans cA)
  have wW := (Df aL cR).symm
  have oF := (jC.but X121 (Dj.eqv hU fV))
  have wX : Dj (bx aB 29 [.slice aI (List.length (List.replicate (Int.toNat (wr ((ln x) + 1))) ((0 : Int)))) aJ, .slice aG (List.length (List.replicate (Int.toNat (wr ((ln aA) + 1))) ((0 : Int)))) aH, .slice aE (List.length (List.replicate (Int.toNat (wr ((ln x) + 1))) (([] : List Int)))) aF, .slice aC (List.length (List.replicate (Int.toNat (wr ((ln x) + 1))) (([] : List Int)))) aD]) (bx b 3 [I base]) := (Db (Df aL aM).symm)
  have jE := (Dl wW (Dl (Mj bE (Dj.eqv hU483 jD) oF) wX))
  have wY := (Df aL eE).symm
  have oG := ((oF.but X491 (Dj.eqv hU483 jD)).ext oE)
  have wZ : Dj (bx aB 29 [.slice aI (List.length (List.replicate (Int.toNat (wr ((ln x) + 1))) ((0 : Int)))) aJ, .slice aG (List.length (List.replicate (Int.toNat (wr ((ln aA) + 1))) ((0 : Int)))) aH, .slice aE (List.length (List.replicate (Int.toNat (wr ((ln x) + 1))) (([] : List Int)))) aF, .slice aC (List.length (List.replicate (Int.toNat (wr ((ln x) + 1))) (([] : List Int)))) aD]) (bx b 3 [I base]) := (Db (Df aL aM).symm)
  have oH := (Dl wY (Dl (Mj bY (Dj.eqv hU751 jE) oG) wZ))
  have oI := ((((((((aL.ext bN).but y oD).but X121 (Dj.eqv hU fV)).but X491 (Dj.eqv hU483 jD)).ext oE).but X759 (Dj.eqv hU751 jE)).but X945 (Dj.eqv hU937 oH)).ext (jA.trans jB))
  refine LP_callc 0 rfl rfl rfl rfl cal_86 rfl rfl (impl_roundingNetwork_2_w _ _ _ H wR oI) ?_
  rintro _ aDA ⟨oJ, H, rfl, jF⟩
  have oK := (jB.trans jF)
  refine LP_gs ⟨⟨.inr (fU.ext oK), trivial⟩, ?_⟩
  intro aDB jG ρ w0
  refine AP_forget [(4, pb aN), (5, .func (.func 85) #[] #[pb b]), (6, .func (.func 86) #[] #[pb b]), (7, I (ln x)), (8, I (ln aA)), (9, pb aB), (15, sl bF aV bG), (19, I aU), (20, I bQ), (133, sl cB a5 cC), (134, I (ln a5)), (135, I aU), (141, .slice aG (List.length (List.replicate (Int.toNat (wr ((ln aA) + 1))) ((0 : Int)))) aH), (142, I aU), (145, I oJ)] (by exact w0) fun ρ => ?_
  refine AP_tail 6 [[], [0], [], [], [], [3, 4], [0, 1, 2, 3, 4, 5], [0, 1, 2, 3, 4, 5, 6]] (by kernel_rfl) ?_
  obtain ⟨w1, w2, H⟩ := H
  refine LP_indexw (v := .slice aG (List.length (List.replicate (Int.toNat (wr ((ln aA) + 1))) ((0 : Int)))) aH) 6 rfl rfl rfl Try.underlying22 ti_3 rfl rfl i1 w1 w2 fun aDC w3 => ?_
  have c4 := (((jA.trans jB).trans jF).trans jG)
  refine LP_set 7 rfl rfl rfl rfl rfl w3 (Le.refl emp) ⟨_, rfl, rfl⟩ (i2.ext c4) fun w4 aDD w5 oL d4 jH => (Ln _ rfl ?_)
  refine W_open mix fun aDE fW => ?_
  refine AP_game 13 [[], [0], [], [0, 1, 2], [0, 1, 2, 3], [], [], [], [6, 7], [], [], [6, 7, 8, 9, 10], [6, 7, 8, 9, 10, 11], [0, 1, 2, 3, 4, 5, 6, 7, 8, 9, 10, 11, 12], [0, 1, 2, 3, 4, 5, 6, 7, 8, 9, 10, 11, 12, 13]] [[(9, none)], [(147, some 0)], [(7, none)], [(148, some 1), (149, some 2)], [(150, some 3)], [(19, none)], [(6, none)], [(20, none)], [(153, some 6), (154, some 7)], [(5, none)], [(20, none)], [(156, some 9), (157, some 10)], [(155, some 8), (158, some 11)]] [(4, none), (5, none), (6, none), (7, none), (8, none), (9, none), (15, none), (133, none), (134, none), (135, none), (151, some 4), (152, some 5), (159, some 12)] [(0, false), (1, false), (2, false), (3, false), (4, false), (5, false), (6, false), (7, false), (9, false), (10, false), (8, true), (11, true), (12, false)] (by kernel_rfl) (by kernel_rfl) ?_
  refine GS_ev ok [(9, pb aB)] (.pointer (some ⟨aB, 3, none⟩)) rfl rfl (fun _ h => h) (fun _ => rfl) ?_
  have oM := (oK.trans jG)
  have fX := (((fU.ext oM).but d4 i4).ext fW)
  refine GS_r1 [(147, .pointer (some ⟨aB, 3, none⟩))] (.slice aC (List.length (List.replicate (Int.toNat (wr ((ln x) + 1))) (([] : List Int)))) aD) rfl rfl (fun _ h => h) (fun _ w e => ex_ldbox rfl ti_23 ag_23 (fun _ => rfl) rfl e rfl rfl) fX ?_
  refine GS_ev ok [(7, I (ln x))] (I (ln x)) rfl rfl (fun _ h => h) (fun _ => rfl) ?_
  obtain ⟨c5, w6, w7, H⟩ := H
  obtain ⟨oN, aDF, w8, w9, xA, xB, d5⟩ := run_indexb Try.underlying23 ti_22 n8 _ w6 w7
  refine GS_r0 [(148, .slice aC (List.length (List.replicate (Int.toNat (wr ((ln x) + 1))) (([] : List Int)))) aD), (149, I (ln x))] (.pointer (some oN)) rfl rfl (fun _ h => h) (fun _ _ => ex_index rfl rfl rfl (xA _)) ?_
  have oO := d5.od
  obtain ⟨fY, fZ, rfl⟩ := oO.shape
  have f0 := (((i3.ext c4).but d4 d3.symm).ext fW)
  have xC := Sub.le f0 d5.le
  have xD : OS 3 w8 emp (sl fY c5 fZ) c5 := OD.flat oO
  refine GS_r1 [(150, .pointer (some oN))] (sl fY c5 fZ) rfl rfl (fun _ h => h) (fun _ w e => ex_ldcell rfl ti_22 ag_22 rfl xB e) f0 ?_
  refine GS_ev ok [(19, I aU)] (I aU) rfl rfl (fun _ h => h) (fun _ => rfl) ?_
  refine GS_ev ok [(6, .func (.func 86) #[] #[pb b])] (.func (.func 86) #[] #[pb b]) rfl rfl (fun _ h => h) (fun _ => rfl) ?_
  refine GS_ev ok [(20, I bQ)] (I bQ) rfl rfl (fun _ h => h) (fun _ => rfl) ?_
  refine GS_ev ok [(5, .func (.func 85) #[] #[pb b])] (.func (.func 85) #[] #[pb b]) rfl rfl (fun _ h => h) (fun _ => rfl) ?_
  refine GS_ev ok [(20, I bQ)] (I bQ) rfl rfl (fun _ h => h) (fun _ => rfl) ?_
  refine GS_lp [(153, .func (.func 86) #[] #[pb b]), (154, I bQ)] rfl rfl (fun _ h => h) rfl fun ρ xE f1 => ?_
  have oP := (((oI.ext (jF.trans jG)).but d4 (Mj c2 (Dj.eqv hU937 oH) (oG.but X759 (Dj.eqv hU751 jE)))).ext (fW.trans f1))
  refine LP_callc 0 rfl rfl rfl rfl cal_86 rfl rfl (impl_roundingNetwork_2_w _ _ _ H xE oP) ?_
  rintro _ aDG ⟨f2, H, rfl, f3⟩
  have oQ := (f1.trans f3)
  have oR := (f0.ext oQ)
  have oS := (fX.ext oQ)
  refine LP_gs ⟨⟨.inr oR, .inr oS, trivial⟩, ?_⟩
  refine GS_lp [(156, .func (.func 85) #[] #[pb b]), (157, I bQ)] rfl rfl (fun _ h => h) rfl fun ρ xF f4 => ?_
  refine LP_callc 0 rfl rfl rfl rfl cal_85 rfl rfl (impl_roundingNetwork_1_w _ _ _ H xF (oP.ext (f3.trans f4))) ?_
  rintro _ aDH ⟨f5, H, rfl, jI⟩
  have oT := (f4.trans jI)
  refine LP_gs ⟨⟨.inr (oR.ext oT), .inr (oS.ext oT), trivial⟩, ?_⟩
  refine GS_ev ok [(155, I f2), (158, I f5)] (I (wr (f2 - f5))) rfl rfl (fun _ h => h) (fun _ => rfl) ?_
  intro aDI oU ρ xG
  refine AP_forget [(4, pb aN), (5, .func (.func 85) #[] #[pb b]), (6, .func (.func 86) #[] #[pb b]), (7, I (ln x)), (8, I (ln aA)), (9, pb aB), (15, sl bF aV bG), (133, sl cB a5 cC), (134, I (ln a5)), (135, I aU), (151, sl fY c5 fZ), (152, I aU), (159, I (wr (f2 - f5)))] (by exact xG) fun ρ => ?_
  refine AP_tail 13 [[], [0], [], [0, 1, 2], [0, 1, 2, 3], [], [], [], [6, 7], [], [], [6, 7, 8, 9, 10], [6, 7, 8, 9, 10, 11], [0, 1, 2, 3, 4, 5, 6, 7, 8, 9, 10, 11, 12], [0, 1, 2, 3, 4, 5, 6, 7, 8, 9, 10, 11, 12, 13]] (by kernel_rfl) ?_
  obtain ⟨xH, xI, H⟩ := H
  refine LP_indexw (v := sl fY c5 fZ) 13 rfl rfl rfl Try.underlying22 ti_3 rfl rfl xD xH xI fun aDJ xJ => ?_
  have f6 := ((((f1.trans f3).trans f4).trans jI).trans oU)
  refine LP_set 14 rfl rfl rfl rfl rfl xJ (Le.refl emp) ⟨_, rfl, rfl⟩ (xC.ext f6) fun xK aDK xL xM oV xN => ?_
  obtain ⟨aDL, xO, jJ⟩ := BwL.turn d5 (OS.od xL) (Dom.of xN)
  have xP := BwL.sub d5 (f0.ext f6) xM oV
  have jK := BwL.but d5 oV
  refine Ln _ rfl (Wg (Lv ok 0 [(161, I (wr (aU + 1))), (135, I (wr (aU + 1)))] 2 rfl rfl (Ln _ rfl ?_)))
  have oW : DomLe U936 dZ.heap.size cD := (Mt (Oe (Or _) _) c2 (Nat.le_refl _))
  have f7 := (((((fW.trans f1).trans f3).trans f4).trans jI).trans oU)
  have oX : DomLe U936 dZ.heap.size cO := (Mt (Oe (Or _) _) c3 (Nat.le_refl _))
  have oY := (Mj (jH _) d3.symm (i3.ext c4)).symm
  exact ⟨(wr (aU + 1), List.set cols (Int.toNat aU) oJ, List.set n7 (Int.toNat (ln x)) (List.set c5 (Int.toNat aU) (wr (f2 - f5)))), ⟨H.1, _, w4, (un xK w9), Ee ⟨rfl, rfl, rfl, rfl, rfl, rfl, rfl, rfl, rfl, rfl, trivial⟩, ((((((Br U936 _).step X945 (Oe (Or _) _)).stepx c4).step d4 oW).stepx f7).step jK oX), w5, ((oL.ext f7).but jK oY), (Mt oW (jH _) (Nat.le_trans X945.size c4.size)), xO, xP, (Mt oX ((fun n => Oe jJ n) _) (Nat.le_trans (Nat.le_trans (Nat.le_trans X945.size c4.size) d4.size) f7.size)), ((fX.ext f6).but jK i5), (Mj (jH _) i4 (fU.ext oM)), (Mj ((fun n => Oe jJ n) _) i5 (fX.ext f6)), (Mj ((fun n => Oe jJ n) _) oY (oL.ext f7))⟩, H.2⟩
 have H := H.2 i6
 refine W_exit ?_
 refine (if_pos rfl).mpr ?_
 refine Wq (Wg (Lv ok 0 [(162, sl bF aV bG)] 1 rfl rfl ?_))
 have f8 : Dj U a9 := (Dj.eqv hU (Dl eH (Dl eI (Db aW))))
 have jL := ((b0.ext aS).but y aW)
 have oZ : Dj U482 a9 := (Dj.eqv hU483 (Dl (Mj aP f8 jL) (Dl (Mj aQ f8 jL) (Db aW))))
 have o0 := (Dl (Df ((((b0.ext aS).but y aW).but X121 f8).but X491 oZ) b9) (Dl (Df dT b9) (Df cJ b9)))
 have f9 : Dj U bA := (Dj.eqv hU (Dl g1 (Dl g2 (Db aZ))))
 have jM := ((cS.ext aS).but y aZ)
 have jN : Dj U482 bA := (Dj.eqv hU483 (Dl (Mj aP f9 jM) (Dl (Mj aQ f9 jM) (Db aZ))))
 have o1 := ((((cS.ext aS).but y aZ).but X121 f9).but X491 jN)
 have xQ : Dj (bx aB 29 [.slice aI (List.length (List.replicate (Int.toNat (wr ((ln x) + 1))) ((0 : Int)))) aJ, .slice aG (List.length (List.replicate (Int.toNat (wr ((ln aA) + 1))) ((0 : Int)))) aH, .slice aE (List.length (List.replicate (Int.toNat (wr ((ln x) + 1))) (([] : List Int)))) aF, .slice aC (List.length (List.replicate (Int.toNat (wr ((ln x) + 1))) (([] : List Int)))) aD]) u9 := (Db (Df cJ b9))
 refine Lc 1 rfl rfl rfl cal_64 rfl (impl_total_w _ _ H wI iF.readf (((iG.ext cA).but X759 (Dj.eqv hU751 o0)).but X945 (Dj.eqv hU937 (Dl (Df o1 b9) (Dl (Mj bY (Dj.eqv hU751 o0) (iG.ext cA)) xQ))))) ?_
 rintro _ aDM ⟨a2, H, rfl, o2⟩
 refine Lv ok 2 [(21, I a2)] 3 rfl rfl (Ln _ rfl (Wq ?_))
 refine W_open mix fun aDN o3 => ?_
 refine AP_game 13 [[], [0], [], [0, 1, 2], [0, 1, 2, 3], [], [], [], [6, 7], [], [], [6, 7, 8, 9, 10], [6, 7, 8, 9, 10, 11], [0, 1, 2, 3, 4, 5, 6, 7, 8, 9, 10, 11, 12], [0, 1, 2, 3, 4, 5, 6, 7, 8, 9, 10, 11, 12, 13]] [[(9, none)], [(164, some 0)], [(7, none)], [(165, some 1), (166, some 2)], [(167, some 3)], [(8, none)], [(6, none)], [(21, none)], [(170, some 6), (171, some 7)], [(5, none)], [(21, none)], [(173, some 9), (174, some 10)], [(172, some 8), (175, some 11)]] [(4, none), (5, none), (7, none), (8, none), (9, none), (21, none), (168, some 4), (169, some 5), (176, some 12)] [(0, false), (1, false), (2, false), (3, false), (4, false), (5, false), (6, false), (7, false), (9, false), (10, false), (8, true), (11, true), (12, false)] (by kernel_rfl) (by kernel_rfl) ?_
 refine GS_ev ok [(9, pb aB)] (.pointer (some ⟨aB, 3, none⟩)) rfl rfl (fun _ h => h) (fun _ => rfl) ?_
 have jO := (o2.trans o3)
 have jP := (n9.ext jO)
 refine GS_r1 [(164, .pointer (some ⟨aB, 3, none⟩))] (.slice aC (List.length (List.replicate (Int.toNat (wr ((ln x) + 1))) (([] : List Int)))) aD) rfl rfl (fun _ h => h) (fun _ w e => ex_ldbox rfl ti_23 ag_23 (fun _ => rfl) rfl e rfl rfl) jP ?_
 refine GS_ev ok [(7, I (ln x))] (I (ln x)) rfl rfl (fun _ h => h) (fun _ => rfl) ?_
 obtain ⟨d6, xR, xS, H⟩ := H
 obtain ⟨o4, aDO, xT, aDP, xU, xV, d7⟩ := run_indexb Try.underlying23 ti_22 n8 _ xR xS
 refine GS_r0 [(165, .slice aC (List.length (List.replicate (Int.toNat (wr ((ln x) + 1))) (([] : List Int)))) aD), (166, I (ln x))] (.pointer (some o4)) rfl rfl (fun _ h => h) (fun _ _ => ex_index rfl rfl rfl (xU _)) ?_
 have o5 := d7.od
 obtain ⟨gA, gB, rfl⟩ := o5.shape
 have gC := (i3.ext jO)
 have xW := Sub.le gC d7.le
 have xX : OS 3 xT emp (sl gA d6 gB) d6 := OD.flat o5
 refine GS_r1 [(167, .pointer (some o4))] (sl gA d6 gB) rfl rfl (fun _ h => h) (fun _ w e => ex_ldcell rfl ti_22 ag_22 rfl xV e) gC ?_
 refine GS_ev ok [(8, I (ln aA))] (I (ln aA)) rfl rfl (fun _ h => h) (fun _ => rfl) ?_
 refine GS_ev ok [(6, .func (.func 86) #[] #[pb b])] (.func (.func 86) #[] #[pb b]) rfl rfl (fun _ h => h) (fun _ => rfl) ?_
 refine GS_ev ok [(21, I a2)] (I a2) rfl rfl (fun _ h => h) (fun _ => rfl) ?_
 refine GS_ev ok [(5, .func (.func 85) #[] #[pb b])] (.func (.func 85) #[] #[pb b]) rfl rfl (fun _ h => h) (fun _ => rfl) ?_
 refine GS_ev ok [(21, I a2)] (I a2) rfl rfl (fun _ h => h) (fun _ => rfl) ?_
 refine GS_lp [(170, .func (.func 86) #[] #[pb b]), (171, I a2)] rfl rfl (fun _ h => h) rfl fun ρ xY gD => ?_
 have o6 := (Df aL aM).symm
 have xZ := (Df aL bJ).symm
 have x1 := (Df aL bK).symm
 have x2 : Dj (bx aB 29 [.slice aI (List.length (List.replicate (Int.toNat (wr ((ln x) + 1))) ((0 : Int)))) aJ, .slice aG (List.length (List.replicate (Int.toNat (wr ((ln aA) + 1))) ((0 : Int)))) aH, .slice aE (List.length (List.replicate (Int.toNat (wr ((ln x) + 1))) (([] : List Int)))) aF, .slice aC (List.length (List.replicate (Int.toNat (wr ((ln x) + 1))) (([] : List Int)))) aD]) (bx b 3 [I base]) := (Db (Df aL aM).symm)
 have gE := (Dl xZ (Dl x1 x2))
 have jQ := ((aL.ext bN).but y o6)
 have x3 : Dj (bx aB 29 [.slice aI (List.length (List.replicate (Int.toNat (wr ((ln x) + 1))) ((0 : Int)))) aJ, .slice aG (List.length (List.replicate (Int.toNat (wr ((ln aA) + 1))) ((0 : Int)))) aH, .slice aE (List.length (List.replicate (Int.toNat (wr ((ln x) + 1))) (([] : List Int)))) aF, .slice aC (List.length (List.replicate (Int.toNat (wr ((ln x) + 1))) (([] : List Int)))) aD]) (bx b 3 [I base]) := (Db (Df aL aM).symm)
 have jR := (Dl (Mj aP (Dj.eqv hU gE) jQ) (Dl (Mj aQ (Dj.eqv hU gE) jQ) x3))
 have cE := (bO.trans cA)
 have x4 := (Df aL cR).symm
 have o7 := (jQ.but X121 (Dj.eqv hU gE))
 have x5 : Dj (bx aB 29 [.slice aI (List.length (List.replicate (Int.toNat (wr ((ln x) + 1))) ((0 : Int)))) aJ, .slice aG (List.length (List.replicate (Int.toNat (wr ((ln aA) + 1))) ((0 : Int)))) aH, .slice aE (List.length (List.replicate (Int.toNat (wr ((ln x) + 1))) (([] : List Int)))) aF, .slice aC (List.length (List.replicate (Int.toNat (wr ((ln x) + 1))) (([] : List Int)))) aD]) (bx b 3 [I base]) := (Db (Df aL aM).symm)
 have gF := (Dl x4 (Dl (Mj bE (Dj.eqv hU483 jR) o7) x5))
 have x6 := (Df aL eE).symm
 have jS := ((o7.but X491 (Dj.eqv hU483 jR)).ext cE)
 have x7 : Dj (bx aB 29 [.slice aI (List.length (List.replicate (Int.toNat (wr ((ln x) + 1))) ((0 : Int)))) aJ, .slice aG (List.length (List.replicate (Int.toNat (wr ((ln aA) + 1))) ((0 : Int)))) aH, .slice aE (List.length (List.replicate (Int.toNat (wr ((ln x) + 1))) (([] : List Int)))) aF, .slice aC (List.length (List.replicate (Int.toNat (wr ((ln x) + 1))) (([] : List Int)))) aD]) (bx b 3 [I base]) := (Db (Df aL aM).symm)
 have o8 := (Dl x6 (Dl (Mj bY (Dj.eqv hU751 gF) jS) x7))
 have o9 := ((((((((aL.ext bN).but y o6).but X121 (Dj.eqv hU gE)).but X491 (Dj.eqv hU483 jR)).ext cE).but X759 (Dj.eqv hU751 gF)).but X945 (Dj.eqv hU937 o8)).ext (jO.trans gD))
 refine LP_callc 0 rfl rfl rfl rfl cal_86 rfl rfl (impl_roundingNetwork_2_w _ _ _ H xY o9) ?_
 rintro _ aDQ ⟨jT, H, rfl, gG⟩
 have pA := (gD.trans gG)
 have pB := (gC.ext pA)
 have pC := (jP.ext pA)
 refine LP_gs ⟨⟨.inr pB, .inr pC, trivial⟩, ?_⟩
 refine GS_lp [(173, .func (.func 85) #[] #[pb b]), (174, I a2)] rfl rfl (fun _ h => h) rfl fun ρ x8 gH => ?_
 have pD := (o9.ext (gG.trans gH))
 refine LP_callc 0 rfl rfl rfl rfl cal_85 rfl rfl (impl_roundingNetwork_1_w _ _ _ H x8 pD) ?_
 rintro _ aDR ⟨jU, H, rfl, gI⟩
 have pE := (gH.trans gI)
 refine LP_gs ⟨⟨.inr (pB.ext pE), .inr (pC.ext pE), trivial⟩, ?_⟩
 refine GS_ev ok [(172, I jT), (175, I jU)] (I (wr (jT - jU))) rfl rfl (fun _ h => h) (fun _ => rfl) ?_
 intro aDS jV ρ x9
 refine AP_forget [(4, pb aN), (5, .func (.func 85) #[] #[pb b]), (7, I (ln x)), (8, I (ln aA)), (9, pb aB), (21, I a2), (168, sl gA d6 gB), (169, I (ln aA)), (176, I (wr (jT - jU)))] (by exact x9) fun ρ => ?_
 refine AP_tail 13 [[], [0], [], [0, 1, 2], [0, 1, 2, 3], [], [], [], [6, 7], [], [], [6, 7, 8, 9, 10], [6, 7, 8, 9, 10, 11], [0, 1, 2, 3, 4, 5, 6, 7, 8, 9, 10, 11, 12], [0, 1, 2, 3, 4, 5, 6, 7, 8, 9, 10, 11, 12, 13]] (by kernel_rfl) ?_
 obtain ⟨yA, yB, H⟩ := H
 refine LP_indexw (v := sl gA d6 gB) 13 rfl rfl rfl Try.underlying22 ti_3 rfl rfl xX yA yB fun aDT yC => ?_
 have jW := ((((gD.trans gG).trans gH).trans gI).trans jV)
 refine LP_set 14 rfl rfl rfl rfl rfl yC (Le.refl emp) ⟨_, rfl, rfl⟩ (xW.ext jW) fun aDU aDV yD yE pF yF => ?_
 obtain ⟨aDW, yG, cF⟩ := BwL.turn d7 (OS.od yD) (Dom.of yF)
 have pG := BwL.sub d7 (gC.ext jW) yE pF
 have bZ := BwL.but d7 pF
 refine Ln _ rfl (Wq ?_)
 refine W_open mix fun aDX gJ => ?_
 refine AP_game 10 [[], [0], [], [], [3], [3, 4], [], [], [3, 4, 5, 6, 7], [3, 4, 5, 6, 7, 8], [0, 1, 2, 3, 4, 5, 6, 7, 8, 9], [0, 1, 2, 3, 4, 5, 6, 7, 8, 9, 10]] [[(9, none)], [(178, some 0)], [(7, none)], [(9, none)], [(181, some 3)], [(182, some 4)], [(5, none)], [(21, none)], [(184, some 6), (185, some 7)], [(183, some 5), (186, some 8)]] [(4, none), (5, none), (7, none), (8, none), (9, none), (21, none), (179, some 1), (180, some 2), (187, some 9)] [(0, false), (1, false), (2, false), (3, false), (4, false), (5, false), (6, false), (7, false), (8, true), (9, false)] (by kernel_rfl) (by kernel_rfl) ?_
 refine GS_ev ok [(9, pb aB)] (pb aB) rfl rfl (fun _ h => h) (fun _ => rfl) ?_
 have gK := (((jP.ext jW).but bZ i5).ext gJ)
 refine GS_r1 [(178, pb aB)] (.slice aI (List.length (List.replicate (Int.toNat (wr ((ln x) + 1))) ((0 : Int)))) aJ) rfl rfl (fun _ h => h) (fun _ w e => ex_ldbox rfl ti_22 ag_22 (fun _ => rfl) rfl e rfl rfl) gK ?_
 refine GS_ev ok [(7, I (ln x))] (I (ln x)) rfl rfl (fun _ h => h) (fun _ => rfl) ?_
 refine GS_ev ok [(9, pb aB)] (.pointer (some ⟨aB, 1, none⟩)) rfl rfl (fun _ h => h) (fun _ => rfl) ?_
 refine GS_r1 [(181, .pointer (some ⟨aB, 1, none⟩))] (.slice aG (List.length (List.replicate (Int.toNat (wr ((ln aA) + 1))) ((0 : Int)))) aH) rfl rfl (fun _ h => h) (fun _ w e => ex_ldbox rfl ti_22 ag_22 (fun _ => rfl) rfl e rfl rfl) gK ?_
 obtain ⟨cP, Hd, H⟩ := H
 have bH := ((((((o2.trans o3).trans gD).trans gG).trans gH).trans gI).trans jV)
 have jX := (((i2.ext bH).but bZ d3).ext gJ)
 refine GS_q [(182, .slice aG (List.length (List.replicate (Int.toNat (wr ((ln aA) + 1))) ((0 : Int)))) aH)] (I cP) [cD] [.slice aG (List.length (List.replicate (Int.toNat (wr ((ln aA) + 1))) ((0 : Int)))) aH] rfl rfl (fun _ h => h) rfl cal_64 (fun _ => rfl) (fun w e => (impl_total_w _ _ Hd w i1.readf e.1).mono (fun _ _ h => by obtain ⟨_, rfl, rfl, x⟩ := h; exact ⟨rfl, x⟩)) ⟨jX, trivial⟩ ?_
 refine GS_ev ok [(5, .func (.func 85) #[] #[pb b])] (.func (.func 85) #[] #[pb b]) rfl rfl (fun _ h => h) (fun _ => rfl) ?_
 refine GS_ev ok [(21, I a2)] (I a2) rfl rfl (fun _ h => h) (fun _ => rfl) ?_
 refine GS_lp [(184, .func (.func 85) #[] #[pb b]), (185, I a2)] rfl rfl (fun _ h => h) rfl fun ρ yH jY => ?_
 have pH := (((pD.ext (gI.trans jV)).but bZ (Mj c3 (Dj.eqv hU937 o8) (jS.but X759 (Dj.eqv hU751 gF)))).ext (gJ.trans jY))
 refine LP_callc 0 rfl rfl rfl rfl cal_85 rfl rfl (impl_roundingNetwork_1_w _ _ _ H yH pH) ?_
 rintro _ aDY ⟨c6, H, rfl, jZ⟩
 have pI := (jY.trans jZ)
 refine LP_gs ⟨⟨.inl rfl, .inl rfl, .inr (gK.ext pI), trivial⟩, ?_⟩
 refine GS_ev ok [(183, I cP), (186, I c6)] (I (wr (cP - c6))) rfl rfl (fun _ h => h) (fun _ => rfl) ?_
 intro aDZ j0 ρ yI
 refine AP_forget [(4, pb aN), (5, .func (.func 85) #[] #[pb b]), (7, I (ln x)), (8, I (ln aA)), (9, pb aB), (21, I a2), (179, .slice aI (List.length (List.replicate (Int.toNat (wr ((ln x) + 1))) ((0 : Int)))) aJ), (180, I (ln x)), (187, I (wr (cP - c6)))] (by exact yI) fun ρ => ?_
 refine AP_tail 10 [[], [0], [], [], [3], [3, 4], [], [], [3, 4, 5, 6, 7], [3, 4, 5, 6, 7, 8], [0, 1, 2, 3, 4, 5, 6, 7, 8, 9], [0, 1, 2, 3, 4, 5, 6, 7, 8, 9, 10]] (by kernel_rfl) ?_
 obtain ⟨yJ, yK, H⟩ := H
 refine LP_indexw (v := .slice aI (List.length (List.replicate (Int.toNat (wr ((ln x) + 1))) ((0 : Int)))) aJ) 10 rfl rfl rfl Try.underlying22 ti_3 rfl rfl nF yJ yK fun aD0 yL => ?_
 have pJ := (jM.but X121 f9)
 have yM : Dj U750 bA := (Dj.eqv hU751 (Dl kP.symm (Dl (Mj bE jN pJ) (Db aZ))))
 have yN := (Mj cN yM (o1.ext cE)).symm
 have gL := (Dl yN (Dl iM fE.symm))
 have gM := (Mj c3 (Dj.eqv hU937 gL) d0)
 have cG := (((gJ.trans jY).trans jZ).trans j0)
 refine LP_set 11 rfl rfl rfl rfl rfl yL (Le.refl emp) ⟨_, rfl, rfl⟩ ((((d0.but X945 (Dj.eqv hU937 gL)).ext bH).but bZ gM).ext cG) fun yO aD1 pK yP bU d8 => (Ln _ rfl (Wq ?_))
 refine W_open mix fun aD2 gN => ?_
 refine AP_game 12 [[], [0], [], [], [3], [], [3, 4, 5], [3, 4, 5, 6], [], [], [3, 4, 5, 6, 7, 8, 9], [3, 4, 5, 6, 7, 8, 9, 10], [0, 1, 2, 3, 4, 5, 6, 7, 8, 9, 10, 11], [0, 1, 2, 3, 4, 5, 6, 7, 8, 9, 10, 11, 12]] [[(9, none)], [(189, some 0)], [(8, none)], [(9, none)], [(192, some 3)], [(7, none)], [(193, some 4), (194, some 5)], [(195, some 6)], [(5, none)], [(21, none)], [(197, some 8), (198, some 9)], [(196, some 7), (199, some 10)]] [(4, none), (9, none), (190, some 1), (191, some 2), (200, some 11)] [(0, false), (1, false), (2, false), (3, false), (4, false), (5, false), (6, false), (7, false), (8, false), (9, false), (10, true), (11, false)] (by kernel_rfl) (by kernel_rfl) ?_
 refine GS_ev ok [(9, pb aB)] (.pointer (some ⟨aB, 1, none⟩)) rfl rfl (fun _ h => h) (fun _ => rfl) ?_
 have j1 := (pI.trans j0)
 have gO := (((gK.ext j1).but bU (Db fE.symm).symm).ext gN)
 refine GS_r1 [(189, .pointer (some ⟨aB, 1, none⟩))] (.slice aG (List.length (List.replicate (Int.toNat (wr ((ln aA) + 1))) ((0 : Int)))) aH) rfl rfl (fun _ h => h) (fun _ w e => ex_ldbox rfl ti_22 ag_22 (fun _ => rfl) rfl e rfl rfl) gO ?_
 refine GS_ev ok [(8, I (ln aA))] (I (ln aA)) rfl rfl (fun _ h => h) (fun _ => rfl) ?_
 refine GS_ev ok [(9, pb aB)] (pb aB) rfl rfl (fun _ h => h) (fun _ => rfl) ?_
 refine GS_r1 [(192, pb aB)] (.slice aI (List.length (List.replicate (Int.toNat (wr ((ln x) + 1))) ((0 : Int)))) aJ) rfl rfl (fun _ h => h) (fun _ w e => ex_ldbox rfl ti_22 ag_22 (fun _ => rfl) rfl e rfl rfl) gO ?_
 refine GS_ev ok [(7, I (ln x))] (I (ln x)) rfl rfl (fun _ h => h) (fun _ => rfl) ?_
 obtain ⟨yQ, hu, yR, H⟩ := H
 obtain ⟨aD3, yS, pL⟩ := run_slice_RS Try.underlying22 ti_3 pK.readf none (some (I (ln x))) 0 (ln x) (.inl ⟨rfl, rfl⟩) (.inr rfl) yQ hu yR
 obtain ⟨j2, j3, rfl⟩ := pL.shape
 refine GS_r0 [(193, .slice aI (List.length (List.replicate (Int.toNat (wr ((ln x) + 1))) ((0 : Int)))) aJ), (194, I (ln x))] (.slice j2 (List.length (List.take (Int.toNat (ln x) - Int.toNat 0) (List.drop (Int.toNat 0) (List.set rows (Int.toNat (ln x)) (wr (cP - c6)))))) j3) rfl rfl (fun _ h => h) (fun _ _ => ex_slice rfl rfl rfl rfl (yS _)) ?_
 obtain ⟨gP, Hd1296, H⟩ := H
 have j4 := (yP.ext gN)
 refine GS_q [(195, .slice j2 (List.length (List.take (Int.toNat (ln x) - Int.toNat 0) (List.drop (Int.toNat 0) (List.set rows (Int.toNat (ln x)) (wr (cP - c6)))))) j3)] (I gP) [yO] [.slice j2 (List.length (List.take (Int.toNat (ln x) - Int.toNat 0) (List.drop (Int.toNat 0) (List.set rows (Int.toNat (ln x)) (wr (cP - c6)))))) j3] rfl rfl (fun _ h => h) rfl cal_64 (fun _ => rfl) (fun w e => (impl_total_w _ _ Hd1296 w pL e.1).mono (fun _ _ h => by obtain ⟨_, rfl, rfl, x⟩ := h; exact ⟨rfl, x⟩)) ⟨j4, trivial⟩ ?_
 refine GS_ev ok [(5, .func (.func 85) #[] #[pb b])] (.func (.func 85) #[] #[pb b]) rfl rfl (fun _ h => h) (fun _ => rfl) ?_
 refine GS_ev ok [(21, I a2)] (I a2) rfl rfl (fun _ h => h) (fun _ => rfl) ?_
 refine GS_lp [(197, .func (.func 85) #[] #[pb b]), (198, I a2)] rfl rfl (fun _ h => h) rfl fun ρ yT j5 => ?_
 refine LP_callc 0 rfl rfl rfl rfl cal_85 rfl rfl (impl_roundingNetwork_1_w _ _ _ H yT (((pH.ext (jZ.trans j0)).but bU (Mj cN (Dj.eqv hU751 gF) jS)).ext (gN.trans j5))) ?_
 rintro _ aD4 ⟨j6, H, rfl, pM⟩
 have pN := (j5.trans pM)
 refine LP_gs ⟨⟨.inl rfl, .inl rfl, .inr (gO.ext pN), trivial⟩, ?_⟩
 refine GS_ev ok [(196, I gP), (199, I j6)] (I (wr (gP - j6))) rfl rfl (fun _ h => h) (fun _ => rfl) ?_
 intro aD5 pO ρ yU
 refine AP_forget [(4, pb aN), (9, pb aB), (190, .slice aG (List.length (List.replicate (Int.toNat (wr ((ln aA) + 1))) ((0 : Int)))) aH), (191, I (ln aA)), (200, I (wr (gP - j6)))] (by exact yU) fun ρ => ?_
 refine AP_tail 12 [[], [0], [], [], [3], [], [3, 4, 5], [3, 4, 5, 6], [], [], [3, 4, 5, 6, 7, 8, 9], [3, 4, 5, 6, 7, 8, 9, 10], [0, 1, 2, 3, 4, 5, 6, 7, 8, 9, 10, 11], [0, 1, 2, 3, 4, 5, 6, 7, 8, 9, 10, 11, 12]] (by kernel_rfl) ?_
 obtain ⟨yV, yW, H⟩ := H
 refine LP_indexw (v := .slice aG (List.length (List.replicate (Int.toNat (wr ((ln aA) + 1))) ((0 : Int)))) aH) 12 rfl rfl rfl Try.underlying22 ti_3 rfl rfl i1 yV yW fun aD6 yX => ?_
 have pP := (Mj c2 (Dj.eqv hU937 gL) d0).symm
 have cH := (((gN.trans j5).trans pM).trans pO)
 refine LP_set 13 rfl rfl rfl rfl rfl yX (Le.refl emp) ⟨_, rfl, rfl⟩ (((jX.ext j1).but bU pP).ext cH) fun aD7 aD8 yY yZ c7 d9 => (Ln _ rfl (Wq (Wg ?_)))
 have j7 := (pN.trans pO)
 refine Lb 0 (v := .agg #[.slice aI (List.length (List.replicate (Int.toNat (wr ((ln x) + 1))) ((0 : Int)))) aJ, .slice aG (List.length (List.replicate (Int.toNat (wr ((ln aA) + 1))) ((0 : Int)))) aH, .slice aE (List.length (List.replicate (Int.toNat (wr ((ln x) + 1))) (([] : List Int)))) aF, .slice aC (List.length (List.replicate (Int.toNat (wr ((ln x) + 1))) (([] : List Int)))) aD]) rfl rfl rfl ti_29 ag_29 (fun h => by cases h) rfl ((gO.ext j7).but c7 i4) rfl rfl ?_
 have pQ := (Df bI aM).symm
 have y0 := (Df bI bJ).symm
 have y1 := (Df bI bK).symm
 have y2 : Dj (bx aB 29 [.slice aI (List.length (List.replicate (Int.toNat (wr ((ln x) + 1))) ((0 : Int)))) aJ, .slice aG (List.length (List.replicate (Int.toNat (wr ((ln aA) + 1))) ((0 : Int)))) aH, .slice aE (List.length (List.replicate (Int.toNat (wr ((ln x) + 1))) (([] : List Int)))) aF, .slice aC (List.length (List.replicate (Int.toNat (wr ((ln x) + 1))) (([] : List Int)))) aD]) (bx aN 29 [.slice none 0 0, .slice none 0 0, .slice none 0 0, .slice none 0 0]) := (Db (Df bI aM).symm)
 have gQ := (Dl y0 (Dl y1 y2))
 have j8 := ((bI.ext bN).but y pQ)
 have y3 : Dj (bx aB 29 [.slice aI (List.length (List.replicate (Int.toNat (wr ((ln x) + 1))) ((0 : Int)))) aJ, .slice aG (List.length (List.replicate (Int.toNat (wr ((ln aA) + 1))) ((0 : Int)))) aH, .slice aE (List.length (List.replicate (Int.toNat (wr ((ln x) + 1))) (([] : List Int)))) aF, .slice aC (List.length (List.replicate (Int.toNat (wr ((ln x) + 1))) (([] : List Int)))) aD]) (bx aN 29 [.slice none 0 0, .slice none 0 0, .slice none 0 0, .slice none 0 0]) := (Db (Df bI aM).symm)
 have gR := (Dl (Mj aP (Dj.eqv hU gQ) j8) (Dl (Mj aQ (Dj.eqv hU gQ) j8) y3))
 have y4 := (Df bI cR).symm
 have j9 := (j8.but X121 (Dj.eqv hU gQ))
 have y5 : Dj (bx aB 29 [.slice aI (List.length (List.replicate (Int.toNat (wr ((ln x) + 1))) ((0 : Int)))) aJ, .slice aG (List.length (List.replicate (Int.toNat (wr ((ln aA) + 1))) ((0 : Int)))) aH, .slice aE (List.length (List.replicate (Int.toNat (wr ((ln x) + 1))) (([] : List Int)))) aF, .slice aC (List.length (List.replicate (Int.toNat (wr ((ln x) + 1))) (([] : List Int)))) aD]) (bx aN 29 [.slice none 0 0, .slice none 0 0, .slice none 0 0, .slice none 0 0]) := (Db (Df bI aM).symm)
 have gS := (Dl y4 (Dl (Mj bE (Dj.eqv hU483 gR) j9) y5))
 have y6 := (Df bI eE).symm
 have kA := ((j9.but X491 (Dj.eqv hU483 gR)).ext cE)
 have y7 : Dj (bx aB 29 [.slice aI (List.length (List.replicate (Int.toNat (wr ((ln x) + 1))) ((0 : Int)))) aJ, .slice aG (List.length (List.replicate (Int.toNat (wr ((ln aA) + 1))) ((0 : Int)))) aH, .slice aE (List.length (List.replicate (Int.toNat (wr ((ln x) + 1))) (([] : List Int)))) aF, .slice aC (List.length (List.replicate (Int.toNat (wr ((ln x) + 1))) (([] : List Int)))) aD]) (bx aN 29 [.slice none 0 0, .slice none 0 0, .slice none 0 0, .slice none 0 0]) := (Db (Df bI aM).symm)
 have eA := (Dl y6 (Dl (Mj bY (Dj.eqv hU751 gS) kA) y7))
 have gT := (kA.but X759 (Dj.eqv hU751 gS))
 have kB := (Mj c3 (Dj.eqv hU937 eA) gT)
 have kC := (Mj cN (Dj.eqv hU751 gS) kA)
 have pR := (Mj c2 (Dj.eqv hU937 eA) gT)
 refine Lx 1 (vs := [.slice aI (List.length (List.replicate (Int.toNat (wr ((ln x) + 1))) ((0 : Int)))) aJ, .slice aG (List.length (List.replicate (Int.toNat (wr ((ln aA) + 1))) ((0 : Int)))) aH, .slice aE (List.length (List.replicate (Int.toNat (wr ((ln x) + 1))) (([] : List Int)))) aF, .slice aC (List.length (List.replicate (Int.toNat (wr ((ln x) + 1))) (([] : List Int)))) aD]) (cs' := [.slice aI (List.length (List.replicate (Int.toNat (wr ((ln x) + 1))) ((0 : Int)))) aJ, .slice aG (List.length (List.replicate (Int.toNat (wr ((ln aA) + 1))) ((0 : Int)))) aH, .slice aE (List.length (List.replicate (Int.toNat (wr ((ln x) + 1))) (([] : List Int)))) aF, .slice aC (List.length (List.replicate (Int.toNat (wr ((ln x) + 1))) (([] : List Int)))) aD]) rfl rfl rfl ti_29 rfl rfl rfl rfl rfl (((((((((((((bI.ext bN).but y pQ).but X121 (Dj.eqv hU gQ)).but X491 (Dj.eqv hU483 gR)).ext cE).but X759 (Dj.eqv hU751 gS)).but X945 (Dj.eqv hU937 eA)).ext bH).but bZ kB).ext cG).but bU kC).ext cH).but c7 pR) rfl rfl fun aD9 y8 eB => ?_
 refine Ln _ rfl (W_ret ?_)
 have pS := (Mj (d8 _) pP (jX.ext j1)).symm
 have pT := ((((gT.but X945 (Dj.eqv hU937 eA)).ext bH).but bZ kB).ext cG)
 have y9 := (Mj (d8 _) kC pT).symm
 have pU := cR.mono X23.size
 have pV := bJ.mono X23.size
 have pW := bK.mono X23.size
 have eC := aM.mono X23.size
 have zA := aM.mono X23.size
 have X1371 := ((X23.stepx bN).step y (zA.dom _))
 have zB := DomLe.fresh aP (Fresh.eqv hU (Fresh.un pV (Fresh.un pW (Fresh.box eC)))) X1371.size
 have zC := DomLe.fresh aQ (Fresh.eqv hU (Fresh.un pV (Fresh.un pW (Fresh.box eC)))) X1371.size
 have zD := bJ.mono X23.size
 have zE := bK.mono X23.size
 have zF := aM.mono X23.size
 have X1378 := (X1371.step X121 (DomLe.eqv hU (Mu (zD.dom _) (Mu (zE.dom _) ((Fresh.box zF).dom _)))))
 have pX := DomLe.fresh bE (Fresh.eqv hU483 (Fresh.un zB (Fresh.un zC (Fresh.box eC)))) X1378.size
 have pY := bJ.mono X23.size
 have pZ := bK.mono X23.size
 have gU := aM.mono X23.size
 have p0 := DomLe.fresh aP (Fresh.eqv hU (Fresh.un pY (Fresh.un pZ (Fresh.box gU)))) X1371.size
 have p1 := DomLe.fresh aQ (Fresh.eqv hU (Fresh.un pY (Fresh.un pZ (Fresh.box gU)))) X1371.size
 have X1386 := ((X1378.step X491 (DomLe.eqv hU483 (Mu (p0.dom _) (Mu (p1.dom _) ((Fresh.box gU).dom _))))).stepx cE)
 have p2 := DomLe.fresh cN (Fresh.eqv hU751 (Fresh.un pU (Fresh.un pX (Fresh.box eC)))) X1386.size
 have p3 : DomLe emp w.heap.size U750 := (DomLe.eqv hU751 (Mu (pU.dom _) (Mu (pX.dom _) ((Fresh.box eC).dom _))))
 have kD := eE.mono X23.size
 have zG := cR.mono X23.size
 have p4 := bJ.mono X23.size
 have p5 := bK.mono X23.size
 have cQ := aM.mono X23.size
 have zH := DomLe.fresh aP (Fresh.eqv hU (Fresh.un p4 (Fresh.un p5 (Fresh.box cQ)))) X1371.size
 have zI := DomLe.fresh aQ (Fresh.eqv hU (Fresh.un p4 (Fresh.un p5 (Fresh.box cQ)))) X1371.size
 have zJ := DomLe.fresh bE (Fresh.eqv hU483 (Fresh.un zH (Fresh.un zI (Fresh.box cQ)))) X1378.size
 have kE := DomLe.fresh bY (Fresh.eqv hU751 (Fresh.un zG (Fresh.un zJ (Fresh.box cQ)))) X1386.size
 have p6 : DomLe emp w.heap.size U936 := (DomLe.eqv hU937 (Mu (kD.dom _) (Mu (kE.dom _) ((Fresh.box cQ).dom _))))
 have X1399 := (X1386.step X759 p3)
 have p7 := DomLe.fresh c3 (Fresh.eqv hU937 (Fresh.un kD (Fresh.un kE (Fresh.box cQ)))) X1399.size
 have X1400 := (((((X1386.step X759 p3).step X945 p6).stepx bH).step bZ (p7.dom _)).stepx cG)
 have zK := (d8 _).fresh p2 X1400.size
 have zL := (Mj (d9 _) pR ((pT.but bU kC).ext cH)).symm
 have p8 := DomLe.fresh c2 (Fresh.eqv hU937 (Fresh.un kD (Fresh.un kE (Fresh.box cQ)))) X1399.size
 have X1406 := ((X1400.step bU (p2.dom _)).stepx cH)
 have zM := (d9 _).fresh p8 X1406.size
 have zN := (Mj cI oZ (jL.but X121 f8)).symm
 have gV := (Dl zN (Dl mB hZ.symm))
 have zO := (Mj cI jN pJ).symm
 have kF := (hY.ext cE)
 have eD : Dj U936 bS := (Dj.eqv hU937 (Dl zO (Dl (Mj bY (Dj.eqv hU751 gV) kF) (Db hZ.symm))))
 have gW := (kF.but X759 (Dj.eqv hU751 gV))
 have kG := (Mj c3 eD gW)
 have kH := (Mj cN (Dj.eqv hU751 gV) kF)
 have p9 := (Mj c2 eD gW)
 have zP := (Mj cI (Dj.eqv hU483 gR) j9).symm
 have zQ := DomLe.fresh cI (Fresh.eqv hU483 (Fresh.un p0 (Fresh.un p1 (Fresh.box gU)))) X1378.size
 have kI := ((d0.but X945 (Dj.eqv hU937 gL)).ext bH)
 have qA := (i2.ext bH)
 have zR := ((fun n => Oe cF n) _).fresh p7 ((X1399.step X945 p6).stepx bH).size
 have zS := (Mj (d9 _) pS (j4.ext j7)).symm
 have qB := ((((gW.but X945 eD).ext bH).but bZ kG).ext cG)
 have qC := (pG.ext cG)
 exact ⟨_, Ret_of [.agg #[.slice aI (List.length (List.replicate (Int.toNat (wr ((ln x) + 1))) ((0 : Int)))) aJ, .slice aG (List.length (List.replicate (Int.toNat (wr ((ln aA) + 1))) ((0 : Int)))) aH, .slice aE (List.length (List.replicate (Int.toNat (wr ((ln x) + 1))) (([] : List Int)))) aF, .slice aC (List.length (List.replicate (Int.toNat (wr ((ln x) + 1))) (([] : List Int)))) aD]] ⟨⟨_, rfl, rfl, ld_res ti_29 ag_29 (fun h => by cases h) y8 rfl rfl⟩, trivial⟩, _, _, _, _, _, _, _, _, _, H, rfl, ((X1406.step c7 (p8.dom _)).step eB (qK.dom _)).ext, pK, (((j4.ext j7).but c7 pS).but eB y9), zK, yY, (yZ.but eB zL), zM, l8, ((((((((((hY.ext cE).but X759 (Dj.eqv hU751 gV)).but X945 eD).ext bH).but bZ kG).ext cG).but bU kH).ext cH).but c7 p9).but eB zP), zQ, yG, (((((pG.ext cG).but bU (Mj ((fun n => Oe cF n) _) gM kI).symm).ext cH).but c7 (Mj ((fun n => Oe cF n) _) d3 qA).symm).but eB (Mj ((fun n => Oe cF n) _) kB ((gT.but X945 (Dj.eqv hU937 eA)).ext bH)).symm), zR, zS, (Mj (d8 _) kH qB), (Mj (d8 _) (Mj ((fun n => Oe cF n) _) gM kI).symm qC), (Mj (d9 _) p9 ((qB.but bU kH).ext cH)), (Mj (d9 _) (Mj ((fun n => Oe cF n) _) d3 qA).symm ((qC.but bU (Mj ((fun n => Oe cF n) _) gM kI).symm).ext cH)), (Mj ((fun n => Oe cF n) _) kG ((gW.but X945 eD).ext bH)).symm⟩

theorem impl_residual_w (t : Transport) (x : List (List Int)) (fixed : Int) (Q : (List (List Int)) → Prop) (H : impl_residual t x fixed Q) (w : World) {vx : Value} {hx : PH} (r : RS hx vx t.Rows) (ex : Sub hx w) {b6 : Value} {b7 : PH} (dV : RS b7 b6 t.Cols) (gC : Sub b7 w) {b8 : Value} {b9 : PH} (cA : RS b9 b8 t.Lo) (cB : Sub b9 w) {cC : Value} {cD : PH} (cE : RS cD cC t.Hi) (cF : Sub cD w) {cG : Value} {cH : PH} (cI : RS cH cG x) (cJ : Sub cH w) :
  CallsTo Try.prog 89 #[.agg #[vx, b6, b8, cC], cG, I fixed] w fun v w' => ∃ cK cL bI, Q cK ∧ v = cL ∧ Ext w w' ∧ OD bI cL cK ∧ Sub bI w' ∧ Fresh w.heap.size bI := by
 obtain ⟨a, c, rfl⟩ := r.shape
 obtain ⟨a5, a6, rfl⟩ := dV.shape
 obtain ⟨aW, aX, rfl⟩ := cA.shape
 obtain ⟨aY, aZ, rfl⟩ := cE.shape
 obtain ⟨aK, aL, rfl⟩ := cI.shape
 refine enter (args := [.agg #[sl a t.Rows c, sl a5 t.Cols a6, sl aW t.Lo aX, sl aY t.Hi aZ], sl aK x aL, I fixed]) 98 Try.func89 rfl rfl rfl ?_
 refine Wo [(0, .agg #[sl a t.Rows c, sl a5 t.Cols a6, sl aW t.Lo aX, sl aY t.Hi aZ]), (1, sl aK x aL), (2, I fixed)] ⟨rfl, rfl, rfl, trivial⟩ fun ρ => ?_
 have X := Br emp w
 refine Wq (Wg (Ly 0 (cs := [sl a t.Rows c, sl a5 t.Cols a6, sl aW t.Lo aX, sl aY t.Hi aZ]) rfl rfl rfl rfl rfl fun b wx bJ a7 f => (Lv ok 1 [(6, .slice none 0 0)] 2 rfl rfl (Ln _ rfl (Wq ?_)))))
 refine W_quiet mix (by kernel_rfl) ?_
 refine QP_ev ok 0 [(15, pb b)] 1 rfl rfl ?_
 refine QP_ldbox 1 (v := sl a t.Rows c) rfl rfl rfl ti_22 ag_22 (fun _ => rfl) rfl a7 rfl rfl ?_
 refine QP_ev ok 2 [(17, I (ln t.Rows)), (18, .pointer (some ⟨b, 1, none⟩))] 4 rfl rfl ?_
 refine QP_ldbox 4 (v := sl a5 t.Cols a6) rfl rfl rfl ti_22 ag_22 (fun _ => rfl) rfl a7 rfl rfl ?_
 refine QP_ev ok 5 [(20, I (ln t.Cols)), (7, I (ln t.Rows)), (8, I (ln t.Cols))] 8 rfl rfl ?_
 refine QP_end _ rfl fun gD a0 => ?_
 refine Wq (Wg (Lv ok 0 [(21, I (ln t.Rows)), (22, I (ln t.Cols)), (23, I (wr ((ln t.Rows) + (ln t.Cols))))] 3 rfl rfl ?_))
 obtain ⟨hn, hb, H⟩ := H
 refine LP_maked (β := Int) 3 rfl rfl rfl Try.underlying23 ti_22 rfl hn (by first | omega | (simp only [ln] at *; omega)) (by first | omega | (simp only [ln] at *; omega)) fun a1 gE bK aM o dW aO => ?_
 obtain ⟨aC, aD, rfl⟩ := o.shape
 refine Lv ok 4 [(9, .slice aC (List.length (List.replicate (Int.toNat (wr ((ln t.Rows) + (ln t.Cols)))) (([] : List Int)))) aD)] 5 rfl rfl (Ln _ rfl (Wq (Wq (Wg (Lv ok 0 [(25, .slice aC (List.length (List.replicate (Int.toNat (wr ((ln t.Rows) + (ln t.Cols)))) (([] : List Int)))) aD), (26, I (ln (List.replicate (Int.toNat (wr ((ln t.Rows) + (ln t.Cols)))) (([] : List Int))))), (27, I 0)] 3 rfl rfl ?_)))))
 refine Ln _ rfl (W_block ?_)
 obtain ⟨J, m, Hx, H⟩ := H
 refine W_loop (S := (List (List Int)) × Int) (fun s ρ' w' => J s.1 s.2 ∧ ∃ (ρ : Env) (aG : PH), ρ' = setAll [(1, sl aK x aL), (2, I fixed), (3, pb b), (7, I (ln t.Rows)), (8, I (ln t.Cols)), (9, .slice aC (List.length (List.replicate (Int.toNat (wr ((ln t.Rows) + (ln t.Cols)))) (([] : List Int)))) aD), (26, I (ln (List.replicate (Int.toNat (wr ((ln t.Rows) + (ln t.Cols)))) (([] : List Int))))), (27, I s.2)] ρ ∧ But a1 bK w' ∧ OD aG (.slice aC (List.length (List.replicate (Int.toNat (wr ((ln t.Rows) + (ln t.Cols)))) (([] : List Int)))) aD) s.1 ∧ Sub aG w' ∧ DomLe a1 bK.heap.size aG) (fun s => m s.1 s.2) (List.replicate (Int.toNat (wr ((ln t.Rows) + (ln t.Cols)))) (([] : List Int)), 0) ⟨Hx, _, a1, Ee ⟨rfl, rfl, rfl, rfl, rfl, rfl, rfl, rfl, trivial⟩, (Br _ _), o, dW, (Oe (Or _) _)⟩ ?_
 rintro ⟨bL, aH⟩ _ bM ⟨Hi, ρ, aG, rfl, X45, cM, bN, aN⟩
 have H := H bL aH Hi
 refine Wq (Wg (Lv ok 0 [(28, .bool (decide (aH < (ln (List.replicate (Int.toNat (wr ((ln t.Rows) + (ln t.Cols)))) (([] : List Int)))))))] 1 rfl rfl (Ln _ rfl (Wq ?_))))
 refine Wc (decide (aH < (ln (List.replicate (Int.toNat (wr ((ln t.Rows) + (ln t.Cols)))) (([] : List Int)))))) rfl (fun hc => ?_) (fun hc => ?_)
 ·have H := H.1 hc
  refine Wk (Wq (W_block (Wq (Wg (Lv ok 0 [(29, I aH), (10, I aH)] 2 rfl rfl (Ln _ rfl (Wg ?_)))))))
  refine Lv ok 0 [(30, .slice aC (List.length (List.replicate (Int.toNat (wr ((ln t.Rows) + (ln t.Cols)))) (([] : List Int)))) aD), (31, I aH), (32, I (ln t.Rows)), (33, I (ln t.Cols)), (34, I (wr ((ln t.Rows) + (ln t.Cols))))] 5 rfl rfl ?_
  obtain ⟨dX, gF, H⟩ := H
  refine LP_make (α := Int) 5 rfl rfl rfl Try.underlying22 ti_3 (x0 := (0 : Int)) rfl rfl dX (by first | omega | (simp only [ln] at *; omega)) (by first | omega | (simp only [ln] at *; omega)) fun gG gH gI cN cO dY cP => ?_
  obtain ⟨gJ, gK, rfl⟩ := cO.shape
  obtain ⟨hi, hl, H⟩ := H
  refine LP_indexd (v := .slice aC (List.length (List.replicate (Int.toNat (wr ((ln t.Rows) + (ln t.Cols)))) (([] : List Int)))) aD) 6 rfl rfl rfl Try.underlying23 ti_22 rfl rfl cM hi hl fun gL wa => (LP_setD (y := List.replicate (Int.toNat (wr ((ln t.Rows) + (ln t.Cols)))) ((0 : Int))) 7 rfl rfl rfl rfl rfl wa (OD.rvo (OS.od cO)) (bN.ext cN) dY (Df bN cP) fun dZ hw gM d0 d1 y dh dq gN => ?_)
  refine Ln _ rfl (Wg (Lv ok 0 [(37, I (wr (aH + 1))), (27, I (wr (aH + 1)))] 2 rfl rfl (Ln _ rfl ?_)))
  have dl : DomLe a1 bK.heap.size aG := (Mt (Oe (Or _) _) aN (Nat.le_refl _))
  exact ⟨(List.set bL (Int.toNat aH) (List.replicate (Int.toNat (wr ((ln t.Rows) + (ln t.Cols)))) ((0 : Int))), wr (aH + 1)), ⟨H.1, _, dZ, Ee ⟨rfl, rfl, rfl, rfl, rfl, rfl, rfl, rfl, trivial⟩, ((((Br a1 _).step X45 (Oe (Or _) _)).stepx cN).step (But.dom y dh) dl), d0, d1, (Mt (Mu dl ((cP.mono X45.size).dom _)) (Oe dq _) (Nat.le_refl _))⟩, H.2⟩
 have H := H.2 hc
 refine W_exit ?_
 refine (if_pos rfl).mpr ?_
 refine Wq (Wq (Wg (Lv ok 0 [(38, sl aK x aL), (39, I (ln x)), (40, I 0)] 3 rfl rfl (Ln _ rfl (W_block ?_)))))
 obtain ⟨J75, d2, Hx77, H⟩ := H
 refine W_loop (S := (List (List Int)) × Int) (fun s ρ' w' => J75 s.1 s.2 ∧ ∃ (ρ : Env) (aI : PH), ρ' = setAll [(2, I fixed), (3, pb b), (7, I (ln t.Rows)), (8, I (ln t.Cols)), (9, .slice aC (List.length (List.replicate (Int.toNat (wr ((ln t.Rows) + (ln t.Cols)))) (([] : List Int)))) aD), (38, sl aK x aL), (39, I (ln x)), (40, I s.2)] ρ ∧ But aG bM w' ∧ OD aI (.slice aC (List.length (List.replicate (Int.toNat (wr ((ln t.Rows) + (ln t.Cols)))) (([] : List Int)))) aD) s.1 ∧ Sub aI w' ∧ DomLe aG bM.heap.size aI) (fun s => d2 s.1 s.2) (bL, 0) ⟨Hx77, _, aG, Ee ⟨rfl, rfl, rfl, rfl, rfl, rfl, rfl, rfl, trivial⟩, (Br _ _), cM, bN, (Oe (Or _) _)⟩ ?_
 rintro ⟨cQ, aA⟩ _ bO ⟨Hi, ρ, aI, rfl, X74, cR, cS, aP⟩
 have H := H cQ aA Hi
 refine Wq (Wg (Lv ok 0 [(41, .bool (decide (aA < (ln x))))] 1 rfl rfl (Ln _ rfl (Wq ?_))))
 refine Wc (decide (aA < (ln x))) rfl (fun bP => ?_) (fun bP => ?_)
 ·have H := H.1 bP
  refine Wk (Wq (W_block (Wq (Wg (Lv ok 0 [(42, I aA)] 1 rfl rfl ?_)))))
  obtain ⟨aF, d3, d4, H⟩ := H
  refine Li 1 rfl rfl rfl Try.underlying23 ti_22 rfl rfl cI d3 d4 fun gO cs d5 d => ?_
  have xc := ((bJ.trans a0).trans aM)
  have bQ := (bJ.trans a0)
  have cT := (cJ.ext bQ)
  have dj := (Df cT aO).symm
  have bR := (cT.ext aM)
  have cU := (((cJ.ext xc).but X45 dj).but X74 (Mj aN dj bR))
  refine Lo 2 rfl rfl rfl ti_22 ag_22 rfl d5 d cU fun gP d6 => ?_
  have cV := d6.slice
  obtain ⟨aQ, aR, rfl⟩ := cV.shape
  refine Lv ok 3 [(11, I aA), (12, sl aQ aF aR)] 5 rfl rfl (Ln _ rfl (Wq (Wg (Lv ok 0 [(45, sl aQ aF aR), (46, I (ln aF)), (47, I 0)] 3 rfl rfl (Ln _ rfl (W_block ?_))))))
  obtain ⟨J103, d7, Hx105, H⟩ := H
  refine W_loop (S := (List (List Int)) × Int) (fun s ρ' w' => J103 s.1 s.2 ∧ ∃ (ρ : Env) (aJ : PH), ρ' = setAll [(2, I fixed), (3, pb b), (7, I (ln t.Rows)), (8, I (ln t.Cols)), (9, .slice aC (List.length (List.replicate (Int.toNat (wr ((ln t.Rows) + (ln t.Cols)))) (([] : List Int)))) aD), (11, I aA), (38, sl aK x aL), (39, I (ln x)), (40, I aA), (45, sl aQ aF aR), (46, I (ln aF)), (47, I s.2)] ρ ∧ But aI bO w' ∧ OD aJ (.slice aC (List.length (List.replicate (Int.toNat (wr ((ln t.Rows) + (ln t.Cols)))) (([] : List Int)))) aD) s.1 ∧ Sub aJ w' ∧ DomLe aI bO.heap.size aJ) (fun s => d7 s.1 s.2) (cQ, 0) ⟨Hx105, _, aI, Ee ⟨rfl, rfl, rfl, rfl, rfl, rfl, rfl, rfl, rfl, rfl, rfl, rfl, trivial⟩, (Br _ _), cR, cS, (Oe (Or _) _)⟩ ?_
  rintro ⟨a8, aB⟩ _ cW ⟨Hi, ρ, aJ, rfl, X102, bS, bT, a9⟩
  have H := H a8 aB Hi
  refine Wq (Wg (Lv ok 0 [(48, .bool (decide (aB < (ln aF))))] 1 rfl rfl (Ln _ rfl (Wq ?_))))
  refine Wc (decide (aB < (ln aF))) rfl (fun bU => ?_) (fun bU => ?_)
  ·have H := H.1 bU
   refine Wk ?_
   have cX := (cB.ext bQ)
   have bV := (Df cX aO).symm
   have cY := (cX.ext aM)
   have bW := (Mj aN bV cY)
   have cZ := (cY.but X45 bV)
   have c0 := (Mj aP bW cZ)
   have c1 := (cF.ext bQ)
   have bX := (Df c1 aO).symm
   have c2 := (c1.ext aM)
   have c3 := (Mj aN bX c2)
   have c4 := (a7.ext a0)
   have bY := (Df c4 aO).symm
   have c5 := (c4.ext aM)
   have bZ := (Mj aN bY c5)
   have c6 := (c5.but X45 bY)
   have c7 := (Mj aP bZ c6)
   obtain ⟨k, hk, H⟩ := jn_elim H
   refine W_join2 (S := (List (List Int))) (fun s ρ' w' => k s ∧ ∃ (ρ : Env) (a2 : PH), ρ' = setAll [(2, I fixed), (3, pb b), (7, I (ln t.Rows)), (8, I (ln t.Cols)), (9, .slice aC (List.length (List.replicate (Int.toNat (wr ((ln t.Rows) + (ln t.Cols)))) (([] : List Int)))) aD), (11, I aA), (38, sl aK x aL), (39, I (ln x)), (40, I aA), (45, sl aQ aF aR), (46, I (ln aF)), (47, I aB)] ρ ∧ But aJ cW w' ∧ OD a2 (.slice aC (List.length (List.replicate (Int.toNat (wr ((ln t.Rows) + (ln t.Cols)))) (([] : List Int)))) aD) s ∧ Sub a2 w' ∧ DomLe aJ cW.heap.size a2) ?_ ?_
   ·refine W_block (Wq (Wg (Lv ok 0 [(49, I aB)] 1 rfl rfl ?_)))
    obtain ⟨aE, d8, d9, H⟩ := H
    refine Li 1 rfl rfl rfl Try.underlying22 ti_3 rfl rfl cV d8 d9 fun gQ gR eA eB => (Lo 2 rfl rfl rfl ti_3 ag_3 rfl eA eB (cU.but X102 (Mj aP (Mj aN dj bR) (bR.but X45 dj))) fun gS eC => ?_)
    obtain rfl := eC.int
    refine Lv ok 3 [(13, I aB), (14, I aE)] 5 rfl rfl (Ln _ rfl (Wq (Wg (Lv ok 0 [(52, I aA), (53, I (ln t.Cols)), (54, I (wr (aA * (ln t.Cols)))), (55, I aB), (56, I (wr ((wr (aA * (ln t.Cols))) + aB))), (57, I fixed), (58, .bool (decide ((wr ((wr (aA * (ln t.Cols))) + aB)) > fixed)))] 7 rfl rfl (Ln _ rfl ?_)))))
    refine Wc (decide ((wr ((wr (aA * (ln t.Cols))) + aB)) > fixed)) rfl (fun b0 => ?_) (fun b0 => ?_)
    ·have H := H.1 b0
     refine Wq ?_
     refine W_open mix fun gT bA => ?_
     refine AP_game 17 [[], [], [0, 1], [0, 1, 2], [], [], [4, 5], [], [7], [], [7, 8, 9], [7, 8, 9, 10], [], [7, 8, 9, 10, 11, 12], [7, 8, 9, 10, 11, 12, 13], [], [7, 8, 9, 10, 11, 12, 13, 14, 15], [0, 1, 2, 3, 4, 5, 6, 7, 8, 9, 10, 11, 12, 13, 14, 15, 16], [0, 1, 2, 3, 4, 5, 6, 7, 8, 9, 10, 11, 12, 13, 14, 15, 16, 17]] [[(9, none)], [(11, none)], [(59, some 0), (60, some 1)], [(61, some 2)], [(7, none)], [(13, none)], [(63, some 4), (64, some 5)], [(3, none)], [(66, some 7)], [(11, none)], [(67, some 8), (68, some 9)], [(69, some 10)], [(13, none)], [(70, some 11), (71, some 12)], [(72, some 13)], [(14, none)], [(73, some 14), (74, some 15)]] [(2, none), (3, none), (7, none), (8, none), (9, none), (11, none), (13, none), (14, none), (38, none), (39, none), (40, none), (45, none), (46, none), (47, none), (62, some 3), (65, some 6), (75, some 16)] [(0, false), (1, false), (2, false), (3, false), (4, false), (5, false), (6, false), (7, false), (8, false), (9, false), (10, false), (11, false), (12, false), (13, false), (14, false), (15, false), (16, false)] (by kernel_rfl) (by kernel_rfl) ?_
     refine GS_ev ok [(9, .slice aC (List.length (List.replicate (Int.toNat (wr ((ln t.Rows) + (ln t.Cols)))) (([] : List Int)))) aD)] (.slice aC (List.length (List.replicate (Int.toNat (wr ((ln t.Rows) + (ln t.Cols)))) (([] : List Int)))) aD) rfl rfl (fun _ h => h) (fun _ => rfl) ?_
     refine GS_ev ok [(11, I aA)] (I aA) rfl rfl (fun _ h => h) (fun _ => rfl) ?_
     obtain ⟨aS, eD, eE, H⟩ := H
     obtain ⟨c8, u, eF, rest, eG, eH, bw⟩ := run_indexb Try.underlying23 ti_22 bS _ eD eE
     refine GS_r0 [(59, .slice aC (List.length (List.replicate (Int.toNat (wr ((ln t.Rows) + (ln t.Cols)))) (([] : List Int)))) aD), (60, I aA)] (.pointer (some c8)) rfl rfl (fun _ h => h) (fun _ _ => ex_index rfl rfl rfl (eG _)) ?_
     have c9 := bw.od
     obtain ⟨bB, bC, rfl⟩ := c9.shape
     have b1 := (bT.ext bA)
     have eI := Sub.le b1 bw.le
     have eJ : OS 3 eF emp (sl bB aS bC) aS := OD.flat c9
     refine GS_r1 [(61, .pointer (some c8))] (sl bB aS bC) rfl rfl (fun _ h => h) (fun _ w e => ex_ldcell rfl ti_22 ag_22 rfl eH e) b1 ?_
     refine GS_ev ok [(7, I (ln t.Rows))] (I (ln t.Rows)) rfl rfl (fun _ h => h) (fun _ => rfl) ?_
     refine GS_ev ok [(13, I aB)] (I aB) rfl rfl (fun _ h => h) (fun _ => rfl) ?_
     refine GS_ev ok [(63, I (ln t.Rows)), (64, I aB)] (I (wr ((ln t.Rows) + aB))) rfl rfl (fun _ h => h) (fun _ => rfl) ?_
     refine GS_ev ok [(3, pb b)] (.pointer (some ⟨b, 3, none⟩)) rfl rfl (fun _ h => h) (fun _ => rfl) ?_
     have dA := (((((a7.ext (a0.trans aM)).but X45 bY).but X74 bZ).but X102 c7).ext bA)
     refine GS_r1 [(66, .pointer (some ⟨b, 3, none⟩))] (sl aY t.Hi aZ) rfl rfl (fun _ h => h) (fun _ w e => ex_ldbox rfl ti_23 ag_23 (fun _ => rfl) rfl e rfl rfl) dA ?_
     refine GS_ev ok [(11, I aA)] (I aA) rfl rfl (fun _ h => h) (fun _ => rfl) ?_
     obtain ⟨b2, eK, eL, H⟩ := H
     obtain ⟨dB, gU, eM, eN, eO⟩ := run_indexAt Try.underlying23 ti_22 cE .i64 _ b2 eK eL
     refine GS_r0 [(67, sl aY t.Hi aZ), (68, I aA)] (.pointer (some dB)) rfl rfl (fun _ h => h) (fun _ _ => ex_index rfl rfl rfl (eM _)) ?_
     obtain ⟨gV, eP, eQ⟩ := run_loadAt ti_22 ag_22 eN eO
     have dC := eQ.slice
     obtain ⟨dD, dE, rfl⟩ := dC.shape
     have dF := (((((cF.ext xc).but X45 bX).but X74 c3).but X102 (Mj aP c3 (c2.but X45 bX))).ext bA)
     refine GS_r1 [(69, .pointer (some dB))] (sl dD b2 dE) rfl rfl (fun _ h => h) (fun _ w e => ex_load rfl rfl (eP w e)) dF ?_
     refine GS_ev ok [(13, I aB)] (I aB) rfl rfl (fun _ h => h) (fun _ => rfl) ?_
     obtain ⟨aT, eR, eS, H⟩ := H
     obtain ⟨dG, gW, eT, eU, eV⟩ := run_indexAt Try.underlying22 ti_3 dC .i64 _ aT eR eS
     refine GS_r0 [(70, sl dD b2 dE), (71, I aB)] (.pointer (some dG)) rfl rfl (fun _ h => h) (fun _ _ => ex_index rfl rfl rfl (eT _)) ?_
     obtain ⟨gX, eW, eX⟩ := run_loadAt ti_3 ag_3 eU eV
     obtain rfl := eX.int
     refine GS_r1 [(72, .pointer (some dG))] (I aT) rfl rfl (fun _ h => h) (fun _ w e => ex_load rfl rfl (eW w e)) dF ?_
     refine GS_ev ok [(14, I aE)] (I aE) rfl rfl (fun _ h => h) (fun _ => rfl) ?_
     refine GS_ev ok [(73, I aT), (74, I aE)] (I (wr (aT - aE))) rfl rfl (fun _ h => h) (fun _ => rfl) ?_
     intro gY bD ρ eY
     refine AP_forget [(2, I fixed), (3, pb b), (7, I (ln t.Rows)), (8, I (ln t.Cols)), (9, .slice aC (List.length (List.replicate (Int.toNat (wr ((ln t.Rows) + (ln t.Cols)))) (([] : List Int)))) aD), (11, I aA), (13, I aB), (14, I aE), (38, sl aK x aL), (39, I (ln x)), (40, I aA), (45, sl aQ aF aR), (46, I (ln aF)), (47, I aB), (62, sl bB aS bC), (65, I (wr ((ln t.Rows) + aB))), (75, I (wr (aT - aE)))] (by exact eY) fun ρ => ?_
     refine AP_tail 17 [[], [], [0, 1], [0, 1, 2], [], [], [4, 5], [], [7], [], [7, 8, 9], [7, 8, 9, 10], [], [7, 8, 9, 10, 11, 12], [7, 8, 9, 10, 11, 12, 13], [], [7, 8, 9, 10, 11, 12, 13, 14, 15], [0, 1, 2, 3, 4, 5, 6, 7, 8, 9, 10, 11, 12, 13, 14, 15, 16], [0, 1, 2, 3, 4, 5, 6, 7, 8, 9, 10, 11, 12, 13, 14, 15, 16, 17]] (by kernel_rfl) ?_
     obtain ⟨eZ, e0, H⟩ := H
     refine LP_indexw (v := sl bB aS bC) 17 rfl rfl rfl Try.underlying22 ti_3 rfl rfl eJ eZ e0 fun gZ e1 => (LP_set 18 rfl rfl rfl rfl rfl e1 (Le.refl emp) ⟨_, rfl, rfl⟩ (eI.ext bD) fun g0 g1 e2 e3 dH e4 => ?_)
     obtain ⟨g2, e5, dd⟩ := BwL.turn bw (OS.od e2) (Dom.of e4)
     have e6 := BwL.sub bw (b1.ext bD) e3 dH
     have bE := BwL.but bw dH
     refine Ln _ rfl ?_
     refine W_open mix fun g3 bF => ?_
     refine AP_game 17 [[], [], [], [1, 2], [0, 1, 2, 3], [0, 1, 2, 3, 4], [], [], [], [8], [], [8, 9, 10], [8, 9, 10, 11], [], [8, 9, 10, 11, 12, 13], [8, 9, 10, 11, 12, 13, 14], [7, 8, 9, 10, 11, 12, 13, 14, 15], [0, 1, 2, 3, 4, 5, 6, 7, 8, 9, 10, 11, 12, 13, 14, 15, 16], [0, 1, 2, 3, 4, 5, 6, 7, 8, 9, 10, 11, 12, 13, 14, 15, 16, 17]] [[(9, none)], [(7, none)], [(13, none)], [(78, some 1), (79, some 2)], [(77, some 0), (80, some 3)], [(81, some 4)], [(11, none)], [(14, none)], [(3, none)], [(85, some 8)], [(11, none)], [(86, some 9), (87, some 10)], [(88, some 11)], [(13, none)], [(89, some 12), (90, some 13)], [(91, some 14)], [(84, some 7), (92, some 15)]] [(2, none), (3, none), (7, none), (8, none), (9, none), (11, none), (38, none), (39, none), (40, none), (45, none), (46, none), (47, none), (82, some 5), (83, some 6), (93, some 16)] [(0, false), (1, false), (2, false), (3, false), (4, false), (5, false), (6, false), (7, false), (8, false), (9, false), (10, false), (11, false), (12, false), (13, false), (14, false), (15, false), (16, false)] (by kernel_rfl) (by kernel_rfl) ?_
     refine GS_ev ok [(9, .slice aC (List.length (List.replicate (Int.toNat (wr ((ln t.Rows) + (ln t.Cols)))) (([] : List Int)))) aD)] (.slice aC (List.length (List.replicate (Int.toNat (wr ((ln t.Rows) + (ln t.Cols)))) (([] : List Int)))) aD) rfl rfl (fun _ h => h) (fun _ => rfl) ?_
     refine GS_ev ok [(7, I (ln t.Rows))] (I (ln t.Rows)) rfl rfl (fun _ h => h) (fun _ => rfl) ?_
     refine GS_ev ok [(13, I aB)] (I aB) rfl rfl (fun _ h => h) (fun _ => rfl) ?_
     refine GS_ev ok [(78, I (ln t.Rows)), (79, I aB)] (I (wr ((ln t.Rows) + aB))) rfl rfl (fun _ h => h) (fun _ => rfl) ?_
     obtain ⟨aU, e7, e8, H⟩ := H
     obtain ⟨dI, g4, e9, fA, fB, fC, a3⟩ := run_indexb Try.underlying23 ti_22 e5 _ e7 e8
     refine GS_r0 [(77, .slice aC (List.length (List.replicate (Int.toNat (wr ((ln t.Rows) + (ln t.Cols)))) (([] : List Int)))) aD), (80, I (wr ((ln t.Rows) + aB)))] (.pointer (some dI)) rfl rfl (fun _ h => h) (fun _ _ => ex_index rfl rfl rfl (fB _)) ?_
     have dJ := a3.od
     obtain ⟨bG, bH, rfl⟩ := dJ.shape
     have b3 := (e6.ext bF)
     have fD := Sub.le b3 a3.le
     have fE : OS 3 e9 emp (sl bG aU bH) aU := OD.flat dJ
     refine GS_r1 [(81, .pointer (some dI))] (sl bG aU bH) rfl rfl (fun _ h => h) (fun _ w e => ex_ldcell rfl ti_22 ag_22 rfl fC e) b3 ?_
     refine GS_ev ok [(11, I aA)] (I aA) rfl rfl (fun _ h => h) (fun _ => rfl) ?_
     refine GS_ev ok [(14, I aE)] (I aE) rfl rfl (fun _ h => h) (fun _ => rfl) ?_
     refine GS_ev ok [(3, pb b)] (.pointer (some ⟨b, 2, none⟩)) rfl rfl (fun _ h => h) (fun _ => rfl) ?_
     refine GS_r1 [(85, .pointer (some ⟨b, 2, none⟩))] (sl aW t.Lo aX) rfl rfl (fun _ h => h) (fun _ w e => ex_ldbox rfl ti_23 ag_23 (fun _ => rfl) rfl e rfl rfl) (((dA.ext bD).but bE (Mj a9 c7 (c6.but X74 bZ))).ext bF) ?_
     refine GS_ev ok [(11, I aA)] (I aA) rfl rfl (fun _ h => h) (fun _ => rfl) ?_
     obtain ⟨b4, fF, fG, H⟩ := H
     obtain ⟨dK, g5, fH, fI, fJ⟩ := run_indexAt Try.underlying23 ti_22 cA .i64 _ b4 fF fG
     refine GS_r0 [(86, sl aW t.Lo aX), (87, I aA)] (.pointer (some dK)) rfl rfl (fun _ h => h) (fun _ _ => ex_index rfl rfl rfl (fH _)) ?_
     obtain ⟨g6, fK, fL⟩ := run_loadAt ti_22 ag_22 fI fJ
     have dL := fL.slice
     obtain ⟨dM, dN, rfl⟩ := dL.shape
     have a4 := (bA.trans bD)
     have dO := (((((((cB.ext xc).but X45 bV).but X74 bW).but X102 c0).ext a4).but bE (Mj a9 c0 (cZ.but X74 bW))).ext bF)
     refine GS_r1 [(88, .pointer (some dK))] (sl dM b4 dN) rfl rfl (fun _ h => h) (fun _ w e => ex_load rfl rfl (fK w e)) dO ?_
     refine GS_ev ok [(13, I aB)] (I aB) rfl rfl (fun _ h => h) (fun _ => rfl) ?_
     obtain ⟨aV, fM, fN, H⟩ := H
     obtain ⟨dP, g7, fO, fP, fQ⟩ := run_indexAt Try.underlying22 ti_3 dL .i64 _ aV fM fN
     refine GS_r0 [(89, sl dM b4 dN), (90, I aB)] (.pointer (some dP)) rfl rfl (fun _ h => h) (fun _ _ => ex_index rfl rfl rfl (fO _)) ?_
     obtain ⟨g8, fR, fS⟩ := run_loadAt ti_3 ag_3 fP fQ
     obtain rfl := fS.int
     refine GS_r1 [(91, .pointer (some dP))] (I aV) rfl rfl (fun _ h => h) (fun _ w e => ex_load rfl rfl (fR w e)) dO ?_
     refine GS_ev ok [(84, I aE), (92, I aV)] (I (wr (aE - aV))) rfl rfl (fun _ h => h) (fun _ => rfl) ?_
     intro g9 b5 ρ fT
     refine AP_forget [(2, I fixed), (3, pb b), (7, I (ln t.Rows)), (8, I (ln t.Cols)), (9, .slice aC (List.length (List.replicate (Int.toNat (wr ((ln t.Rows) + (ln t.Cols)))) (([] : List Int)))) aD), (11, I aA), (38, sl aK x aL), (39, I (ln x)), (40, I aA), (45, sl aQ aF aR), (46, I (ln aF)), (47, I aB), (82, sl bG aU bH), (83, I aA), (93, I (wr (aE - aV)))] (by exact fT) fun ρ => ?_
     refine AP_tail 17 [[], [], [], [1, 2], [0, 1, 2, 3], [0, 1, 2, 3, 4], [], [], [], [8], [], [8, 9, 10], [8, 9, 10, 11], [], [8, 9, 10, 11, 12, 13], [8, 9, 10, 11, 12, 13, 14], [7, 8, 9, 10, 11, 12, 13, 14, 15], [0, 1, 2, 3, 4, 5, 6, 7, 8, 9, 10, 11, 12, 13, 14, 15, 16], [0, 1, 2, 3, 4, 5, 6, 7, 8, 9, 10, 11, 12, 13, 14, 15, 16, 17]] (by kernel_rfl) ?_
     obtain ⟨fU, fV, H⟩ := H
     refine LP_indexw (v := sl bG aU bH) 17 rfl rfl rfl Try.underlying22 ti_3 rfl rfl fE fU fV fun hA fW => (LP_set 18 rfl rfl rfl rfl rfl fW (Le.refl emp) ⟨_, rfl, rfl⟩ (fD.ext b5) fun fX hB fY fZ dQ f0 => ?_)
     obtain ⟨hC, f1, f2⟩ := BwL.turn a3 (OS.od fY) (Dom.of f0)
     have f3 := BwL.sub a3 (b3.ext b5) fZ dQ
     have f4 := BwL.but a3 dQ
     refine Ln _ rfl ?_
     have dR := (bF.trans b5)
     exact ⟨List.set (List.set a8 (Int.toNat aA) (List.set aS (Int.toNat (wr ((ln t.Rows) + aB))) (wr (aT - aE)))) (Int.toNat (wr ((ln t.Rows) + aB))) (List.set aU (Int.toNat aA) (wr (aE - aV))), H, _, (un fX fA), Ee ⟨rfl, rfl, rfl, rfl, rfl, rfl, rfl, rfl, rfl, rfl, rfl, rfl, trivial⟩, (((((Br aJ _).stepx a4).step bE (Oe (Or _) _)).stepx dR).step f4 (Mt (Oe (Or _) _) ((fun n => Oe dd n) _) a4.size)), f1, f3, (Mt (Mt (Oe (Or _) _) ((fun n => Oe dd n) _) a4.size) ((fun n => Oe f2 n) _) (Nat.le_trans (Nat.le_trans a4.size bE.size) dR.size))⟩
    have H := H.2 b0
    exact Wk ⟨a8, H, _, aJ, Ee ⟨rfl, rfl, rfl, rfl, rfl, rfl, rfl, rfl, rfl, rfl, rfl, rfl, trivial⟩, (Br _ _), bS, bT, (Oe (Or _) _)⟩
   rintro f5 _ hD ⟨H, ρ, a2, rfl, X167, f6, f7, f8⟩
   subst hk
   refine Wg (Lv ok 0 [(95, I (wr (aB + 1))), (47, I (wr (aB + 1)))] 2 rfl rfl (Ln _ rfl ?_))
   have dS : DomLe aI bO.heap.size aJ := (Mt (Oe (Or _) _) a9 (Nat.le_refl _))
   exact ⟨(f5, wr (aB + 1)), ⟨H.1, _, a2, Ee ⟨rfl, rfl, rfl, rfl, rfl, rfl, rfl, rfl, rfl, rfl, rfl, rfl, trivial⟩, (((Br aI _).step X102 (Oe (Or _) _)).step X167 dS), f6, f7, (Mt dS f8 X102.size)⟩, H.2⟩
  have H := H.2 bU
  refine W_exit ?_
  refine (if_pos rfl).mpr ?_
  refine Wg (Lv ok 0 [(96, I (wr (aA + 1))), (40, I (wr (aA + 1)))] 2 rfl rfl (Ln _ rfl ?_))
  have dT : DomLe aG bM.heap.size aI := (Mt (Oe (Or _) _) aP (Nat.le_refl _))
  exact ⟨(a8, wr (aA + 1)), ⟨H.1, _, aJ, Ee ⟨rfl, rfl, rfl, rfl, rfl, rfl, rfl, rfl, trivial⟩, (((Br aG _).step X74 (Oe (Or _) _)).step X102 dT), bS, bT, (Mt dT a9 X74.size)⟩, H.2⟩
 have H := H.2 bP
 refine W_exit ?_
 refine (if_pos rfl).mpr ?_
 refine Wq (Wg (Lv ok 0 [(97, .slice aC (List.length (List.replicate (Int.toNat (wr ((ln t.Rows) + (ln t.Cols)))) (([] : List Int)))) aD), (6, .slice aC (List.length (List.replicate (Int.toNat (wr ((ln t.Rows) + (ln t.Cols)))) (([] : List Int)))) aD)] 2 rfl rfl (Ln _ rfl (W_ret ?_))))
 have X318 := (X.stepx (bJ.trans a0))
 have f9 := aO.mono X318.size
 have X320 := (X318.stepx aM)
 have dU := DomLe.fresh aN f9 X320.size
 have gA := aO.mono X318.size
 have X323 := (X320.step X45 (gA.dom _))
 have gB := DomLe.fresh aP dU X323.size
 exact ⟨_, Ret_of [.slice aC (List.length (List.replicate (Int.toNat (wr ((ln t.Rows) + (ln t.Cols)))) (([] : List Int)))) aD] ⟨⟨rfl, rfl⟩, trivial⟩, _, _, _, H, rfl, (X323.step X74 (dU.dom _)).ext, cR, cS, gB⟩

theorem impl_push_w (r : List (List Int)) (fromx : Int) (to : Int) (limit : Int) (Q : Int → (List (List Int)) → Prop) (H : impl_push r fromx to limit Q) (w : World) {vx : Value} {hx : PH} (cV : OD hx vx r) (ex : Sub hx w) :
  CallsTo Try.prog 90 #[vx, I fromx, I to, I limit] w fun v w' => ∃ cW cX bW, Q cW cX ∧ v = I cW ∧ But hx w w' ∧ OD bW vx cX ∧ Sub bW w' ∧ (∀ n, DomLe hx n bW) := by
 obtain ⟨a, c, rfl⟩ := cV.shape
 refine enter (args := [sl a r c, I fromx, I to, I limit]) 149 Try.func90 rfl rfl rfl ?_
 refine Wo [(0, sl a r c), (1, I fromx), (2, I to), (3, I limit)] ⟨rfl, rfl, rfl, rfl, trivial⟩ fun ρ => ?_
 have D : Dom hx hx := (Or _)
 have X := Br hx w
 refine Wq (Wg (Lv ok 0 [(8, I 0)] 1 rfl rfl (Ln _ rfl (Wq (Wg (Lv ok 0 [(9, I 0)] 1 rfl rfl (Ln _ rfl ?_)))))))
 obtain ⟨k, hk, H⟩ := jn_elim H
 refine W_join2 (S := Int × (List (List Int))) (fun s ρ' w' => k s.1 s.2 ∧ ∃ (ρ : Env) (bA : PH), ρ' = setAll [(9, I s.1)] ρ ∧ But hx w w' ∧ OD bA (sl a r c) s.2 ∧ Sub bA w' ∧ (∀ n, DomLe hx n bA)) ?_ ?_
 ·refine W_block ?_
  obtain ⟨J, m, Hx, H⟩ := H
  refine W_loop (S := (List (List Int)) × Int) (fun s ρ' w' => J s.1 s.2 ∧ ∃ (ρ : Env) (aF : PH), ρ' = setAll [(0, sl a r c), (1, I fromx), (2, I to), (3, I limit), (9, I s.2)] ρ ∧ But hx w w' ∧ OD aF (sl a r c) s.1 ∧ Sub aF w' ∧ (∀ n, DomLe hx n aF)) (fun s => m s.1 s.2) (r, 0) ⟨Hx, _, hx, Ee ⟨rfl, rfl, rfl, rfl, rfl, trivial⟩, (Br _ _), cV, ex, (fun _ => DomLe.refl _ _)⟩ ?_
  rintro ⟨bB, aC⟩ _ iS ⟨Hi, ρ, aF, rfl, X15, a0, bC, bD⟩
  have H := H bB aC Hi
  refine Wq (Wq (Wg (Lv ok 0 [(19, I aC), (20, I limit), (21, .bool (decide (aC < limit)))] 3 rfl rfl (Ln _ rfl ?_))))
  refine Wc (decide (aC < limit)) rfl (fun hc => ?_) (fun hc => ?_)
  ·have H := H.1 hc
   refine Wk (W_block (Wq (Wg (Lv ok 0 [(22, sl a r c), (23, I (ln r))] 2 rfl rfl ?_))))
   obtain ⟨hn, hb, H⟩ := H
   refine LP_make (α := Int) 2 rfl rfl rfl Try.underlying22 ti_3 (x0 := (0 : Int)) rfl rfl hn (by first | omega | (simp only [ln] at *; omega)) (by first | omega | (simp only [ln] at *; omega)) fun a1 iT bX x cY eL a2 => ?_
   obtain ⟨aA, aB, rfl⟩ := cY.shape
   refine Lv ok 3 [(10, .slice aA (List.length (List.replicate (Int.toNat (ln r)) ((0 : Int)))) aB)] 4 rfl rfl (Ln _ rfl (Wq (Wq (Wg (Lv ok 0 [(25, .slice aA (List.length (List.replicate (Int.toNat (ln r)) ((0 : Int)))) aB), (26, I (ln (List.replicate (Int.toNat (ln r)) ((0 : Int))))), (27, I 0)] 3 rfl rfl (Ln _ rfl (W_block ?_)))))))
   obtain ⟨J32, eM, Hx34, H⟩ := H
   refine W_loop (S := (List Int) × Int) (fun s ρ' w' => J32 s.1 s.2 ∧ ∃ (ρ : Env) (aP : PH), ρ' = setAll [(0, sl a r c), (1, I fromx), (2, I to), (3, I limit), (9, I aC), (10, .slice aA (List.length (List.replicate (Int.toNat (ln r)) ((0 : Int)))) aB), (26, I (ln (List.replicate (Int.toNat (ln r)) ((0 : Int))))), (27, I s.2)] ρ ∧ But a1 bX w' ∧ OS 3 aP emp (.slice aA (List.length (List.replicate (Int.toNat (ln r)) ((0 : Int)))) aB) s.1 ∧ Sub aP w' ∧ DomLe a1 bX.heap.size aP) (fun s => eM s.1 s.2) (List.replicate (Int.toNat (ln r)) ((0 : Int)), 0) ⟨Hx34, _, a1, Ee ⟨rfl, rfl, rfl, rfl, rfl, rfl, rfl, rfl, trivial⟩, (Br _ _), cY, eL, (Oe (Or _) _)⟩ ?_
   rintro ⟨back, aG⟩ _ iU ⟨Hi, ρ, aP, rfl, X31, cZ, c0, bE⟩
   have H := H back aG Hi
   refine Wq (Wg (Lv ok 0 [(28, .bool (decide (aG < (ln (List.replicate (Int.toNat (ln r)) ((0 : Int)))))))] 1 rfl rfl (Ln _ rfl (Wq ?_))))
   refine Wc (decide (aG < (ln (List.replicate (Int.toNat (ln r)) ((0 : Int)))))) rfl (fun bY => ?_) (fun bY => ?_)
   ·have H := H.1 bY
    refine Wk (Wq (W_block (Wq (Wg (Lv ok 0 [(29, I aG), (11, I aG)] 2 rfl rfl (Ln _ rfl (Wg ?_)))))))
    refine Lv ok 0 [(30, .slice aA (List.length (List.replicate (Int.toNat (ln r)) ((0 : Int)))) aB), (31, I aG)] 2 rfl rfl ?_
    obtain ⟨hi, hl, H⟩ := H
    refine LP_indexw (v := .slice aA (List.length (List.replicate (Int.toNat (ln r)) ((0 : Int)))) aB) 2 rfl rfl rfl Try.underlying22 ti_3 rfl rfl cZ hi hl fun iV wa => (LP_set 3 rfl rfl rfl rfl rfl wa (Le.refl emp) ⟨_, rfl, rfl⟩ c0 fun eN iW eO eP y dm => (Ln _ rfl (Wg (Lv ok 0 [(33, I (wr (aG + 1))), (27, I (wr (aG + 1)))] 2 rfl rfl (Ln _ rfl ?_)))))
    have dl : DomLe a1 bX.heap.size aP := (Mt (Oe (Or _) _) bE (Nat.le_refl _))
    exact ⟨(List.set back (Int.toNat aG) ((-1)), wr (aG + 1)), ⟨H.1, _, eN, Ee ⟨rfl, rfl, rfl, rfl, rfl, rfl, rfl, rfl, trivial⟩, (((Br a1 _).step X31 (Oe (Or _) _)).step y dl), eO, eP, (Mt dl (dm _) X31.size)⟩, H.2⟩
   have H := H.2 bY
   refine W_exit ?_
   refine (if_pos rfl).mpr ?_
   refine Wq (Wg (Lv ok 0 [(34, .slice aA (List.length (List.replicate (Int.toNat (ln r)) ((0 : Int)))) aB), (35, I fromx), (36, I fromx)] 3 rfl rfl ?_))
   obtain ⟨eQ, eR, H⟩ := H
   refine LP_indexw (v := .slice aA (List.length (List.replicate (Int.toNat (ln r)) ((0 : Int)))) aB) 3 rfl rfl rfl Try.underlying22 ti_3 rfl rfl cZ eQ eR fun iX eS => (LP_set 4 rfl rfl rfl rfl rfl eS (Le.refl emp) ⟨_, rfl, rfl⟩ c0 fun bZ iY eT c1 aV b0 => (Ln _ rfl (Wq (Wg (Lv ok 0 [(38, I fromx)] 1 rfl rfl (LP_lit (α := Int) (g := emp) 1 (vs := [I fromx]) (xs := [fromx]) rfl rfl rfl Try.underlying22 ti_3 rfl rfl ⟨⟨_, rfl, rfl⟩, trivial⟩ rfl rfl fun b1 iZ bF aW c2 eU bG => ?_))))))
   obtain ⟨c3, c4, rfl⟩ := c2.shape
   refine Lv ok 2 [(12, .slice c3 (List.length ([fromx])) c4)] 3 rfl rfl (Ln _ rfl (Wq (W_block ?_)))
   obtain ⟨U, hU⟩ : ∃ U : PH, U = (un bZ b1) := ⟨_, rfl⟩
   have D74 : Dom U bZ := Dom.eqv hU (Dom.l _ _)
   have D75 : Dom U b1 := Dom.eqv hU (Ot (Dom.r _ _) (Or _))
   have dj := (Df c1 bG).symm
   obtain ⟨J79, eV, Hx81, H⟩ := H
   refine W_loop (S := (List Int) × (List Int)) (fun s ρ' w' => J79 s.1 s.2 ∧ ∃ (ρ : Env) (aL : PH) (b2 : Value) (aM : PH), ρ' = setAll [(0, sl a r c), (1, I fromx), (2, I to), (3, I limit), (9, I aC), (10, .slice aA (List.length (List.replicate (Int.toNat (ln r)) ((0 : Int)))) aB), (12, b2)] ρ ∧ But U bF w' ∧ OS 3 aL emp (.slice aA (List.length (List.replicate (Int.toNat (ln r)) ((0 : Int)))) aB) s.1 ∧ Sub aL w' ∧ DomLe U bF.heap.size aL ∧ OT aM b2 s.2 ∧ Sub aM w' ∧ DomLe U bF.heap.size aM ∧ Dj aM aL) (fun s => eV s.1 s.2) (List.set back (Int.toNat fromx) fromx, [fromx]) ⟨Hx81, _, bZ, .slice c3 (List.length ([fromx])) c4, b1, Ee ⟨rfl, rfl, rfl, rfl, rfl, rfl, rfl, trivial⟩, (Br _ _), eT, (c1.ext aW), (Oe D74 _), (OS.ot c2), eU, (Oe D75 _), dj⟩ ?_
   rintro ⟨c5, queue⟩ _ aN ⟨Hi, ρ, aL, b2, aM, rfl, HF⟩
   revert HF
   refine bb8 fun X78 aO aQ b3 b4 c6 c7 d => ?_
   have H := H c5 queue Hi
   obtain ⟨bH, bI, rfl⟩ := b4.shape
   refine Wq ?_
   have b5 := (Df bC a2).symm
   have c8 := (bC.ext x)
   have b6 := (Mj bE b5 c8)
   have c9 := (c8.but X31 b5)
   have b7 := (c9.but aV b6)
   have eW := (Df b7 bG).symm
   have bJ := (Dl (Mj (b0 _) b6 c9) eW)
   have aX := (((((bC.ext x).but X31 b5).but aV b6).ext aW).but X78 (Dj.eqv hU bJ))
   obtain ⟨eX, eY, H⟩ := jn_elim H
   refine W_join2 (S := Bool) (fun s ρ' w' => eX s ∧ ∃ (ρ : Env), ρ' = setAll [(0, sl a r c), (1, I fromx), (2, I to), (3, I limit), (9, I aC), (10, .slice aA (List.length (List.replicate (Int.toNat (ln r)) ((0 : Int)))) aB), (12, sl bH queue bI), (49, .bool s)] ρ ∧ aN = w') ?_ ?_
   ·refine Wg (Lv ok 0 [(40, sl bH queue bI), (41, I (ln queue)), (42, .bool (decide ((ln queue) > 0))), (43, .bool (decide ((ln queue) > 0)))] 4 rfl rfl ?_)
    refine LP_split 43 (decide ((ln queue) > 0)) rfl (fun b8 => ?_) (fun b8 => ?_)
    ·have H := H.1 b8
     refine Lv ok 4 [(44, .slice aA (List.length (List.replicate (Int.toNat (ln r)) ((0 : Int)))) aB), (45, I to)] 6 rfl rfl ?_
     obtain ⟨b9, eZ, e0, H⟩ := H
     refine Li 6 rfl rfl rfl Try.underlying22 ti_3 rfl rfl aO.readf eZ e0 fun i0 cs e1 e2 => (Lo 7 rfl rfl rfl ti_3 ag_3 rfl e1 e2 aQ fun i1 e3 => ?_)
     obtain rfl := e3.int
     refine Lv ok 8 [(48, .bool (decide (b9 < 0))), (49, .bool (decide (b9 < 0)))] 10 rfl rfl ?_
     exact Ln _ rfl ⟨decide (b9 < 0), H, _, Ee ⟨rfl, rfl, rfl, rfl, rfl, rfl, rfl, rfl, trivial⟩, rfl⟩
    have H := H.2 b8
    refine Lv ok 4 [(44, undef), (45, undef), (46, undef), (47, undef), (48, undef), (49, .bool false)] 10 rfl rfl ?_
    exact Ln _ rfl ⟨false, H, _, Ee ⟨rfl, rfl, rfl, rfl, rfl, rfl, rfl, rfl, trivial⟩, rfl⟩
   rintro e4 _ _ ⟨H, ρ, rfl, rfl⟩
   subst eY
   refine Wc (e4) rfl (fun cA => ?_) (fun cA => ?_)
   ·have H := H.1 cA
    refine Wk (W_block (Wq (Wg (Lv ok 0 [(50, sl bH queue bI)] 1 rfl rfl ?_))))
    obtain ⟨aR, e5, e6, H⟩ := H
    refine Li 1 rfl rfl rfl Try.underlying22 ti_3 rfl rfl b4.readf e5 e6 fun i2 i3 e7 e8 => (Lo 2 rfl rfl rfl ti_3 ag_3 rfl e7 e8 c6 fun i4 e9 => ?_)
    obtain rfl := e9.int
    refine Lv ok 3 [(13, I aR)] 4 rfl rfl (Ln _ rfl (Wq (Wg (Lv ok 0 [(53, sl bH queue bI)] 1 rfl rfl ?_))))
    obtain ⟨fA, hu, H⟩ := H
    refine LP_sliceT 1 1 rfl rfl rfl Try.underlying22 ti_3 rfl rfl b4 fA hu fun i5 dA => ?_
    obtain ⟨dB, dC, rfl⟩ := dA.shape
    refine Lv ok 2 [(12, .slice dB (List.length (List.drop (Int.toNat 1) queue)) dC)] 3 rfl rfl (Ln _ rfl (Wq (Wg (Lv ok 0 [(55, sl a r c), (56, I aR)] 2 rfl rfl ?_))))
    obtain ⟨aI, fB, fC, H⟩ := H
    refine Li 2 rfl rfl rfl Try.underlying23 ti_22 rfl rfl a0.readf fB fC fun i6 i7 fD fE => (Lo 3 rfl rfl rfl ti_22 ag_22 rfl fD fE aX fun i9 fF => ?_)
    have dD := fF.slice
    obtain ⟨cB, cC, rfl⟩ := dD.shape
    refine Lv ok 4 [(59, I (ln aI)), (60, I 0)] 6 rfl rfl (Ln _ rfl (W_block ?_))
    obtain ⟨U162, hU163⟩ : ∃ U : PH, U = (un aL aM) := ⟨_, rfl⟩
    have D164 : Dom U162 aL := Dom.eqv hU163 (Dom.l _ _)
    have D165 : Dom U162 aM := Dom.eqv hU163 (Ot (Dom.r _ _) (Or _))
    obtain ⟨J170, fG, Hx172, H⟩ := H
    refine W_loop (S := (List Int) × (List Int) × Int) (fun s ρ' w' => J170 s.1 s.2.1 s.2.2 ∧ ∃ (ρ : Env) (aJ : PH) (cD : Value) (aK : PH), ρ' = setAll [(0, sl a r c), (1, I fromx), (2, I to), (3, I limit), (9, I aC), (10, .slice aA (List.length (List.replicate (Int.toNat (ln r)) ((0 : Int)))) aB), (12, cD), (13, I aR), (58, sl cB aI cC), (59, I (ln aI)), (60, I s.2.2)] ρ ∧ But U162 aN w' ∧ OS 3 aJ emp (.slice aA (List.length (List.replicate (Int.toNat (ln r)) ((0 : Int)))) aB) s.1 ∧ Sub aJ w' ∧ DomLe U162 aN.heap.size aJ ∧ OT aK cD s.2.1 ∧ Sub aK w' ∧ DomLe U162 aN.heap.size aK ∧ Dj aK aJ) (fun s => fG s.1 s.2.1 s.2.2) (c5, List.drop (Int.toNat 1) queue, 0) ⟨Hx172, _, aL, .slice dB (List.length (List.drop (Int.toNat 1) queue)) dC, aM, Ee ⟨rfl, rfl, rfl, rfl, rfl, rfl, rfl, rfl, rfl, rfl, rfl, trivial⟩, (Br _ _), aO, aQ, (Oe D164 _), dA, c6, (Oe D165 _), (Dom.dj (Or _) d)⟩ ?_
    rintro ⟨bK, aH, aD⟩ _ bL ⟨Hi, ρ, aJ, cD, aK, rfl, HF⟩
    revert HF
    refine bb8 fun X169 bM bN dE bO bP dF bQ => ?_
    have H := H bK aH aD Hi
    obtain ⟨bR, bS, rfl⟩ := bO.shape
    refine Wq (Wg (Lv ok 0 [(61, .bool (decide (aD < (ln aI))))] 1 rfl rfl (Ln _ rfl (Wq ?_))))
    refine Wc (decide (aD < (ln aI))) rfl (fun cE => ?_) (fun cE => ?_)
    ·have H := H.1 cE
     refine Wk ?_
     have dG := (b7.ext aW)
     obtain ⟨U199, hU200⟩ : ∃ U : PH, U = (un aJ aK) := ⟨_, rfl⟩
     have D201 : Dom U199 aJ := Dom.eqv hU200 (Dom.l _ _)
     have D202 : Dom U199 aK := Dom.eqv hU200 (Ot (Dom.r _ _) (Or _))
     obtain ⟨fH, fI, H⟩ := jn_elim H
     refine W_join2 (S := (List Int) × (List Int)) (fun s ρ' w' => fH s.1 s.2 ∧ ∃ (ρ : Env) (aY : PH) (cF : Value) (aZ : PH), ρ' = setAll [(0, sl a r c), (1, I fromx), (2, I to), (3, I limit), (9, I aC), (10, .slice aA (List.length (List.replicate (Int.toNat (ln r)) ((0 : Int)))) aB), (12, cF), (13, I aR), (58, sl cB aI cC), (59, I (ln aI)), (60, I aD)] ρ ∧ But U199 bL w' ∧ OS 3 aY emp (.slice aA (List.length (List.replicate (Int.toNat (ln r)) ((0 : Int)))) aB) s.1 ∧ Sub aY w' ∧ DomLe U199 bL.heap.size aY ∧ OT aZ cF s.2 ∧ Sub aZ w' ∧ DomLe U199 bL.heap.size aZ ∧ Dj aZ aY) ?_ ?_
     ·refine W_block (Wq (Wg (Lv ok 0 [(62, I aD)] 1 rfl rfl ?_)))
      obtain ⟨a3, fJ, fK, H⟩ := H
      refine Li 1 rfl rfl rfl Try.underlying22 ti_3 rfl rfl dD fJ fK fun jA jB fL fM => (Lo 2 rfl rfl rfl ti_3 ag_3 rfl fL fM (aX.but X169 (Dj.eqv hU163 (Dl (Mj b3 (Dj.eqv hU bJ) dG) (Dom.dj (Or _) (Mj c7 (Dj.eqv hU bJ) dG))))) fun jC fN => ?_)
      obtain rfl := fN.int
      refine Lv ok 3 [(14, I aD), (15, I a3)] 5 rfl rfl (Ln _ rfl ?_)
      obtain ⟨fO, fP, H⟩ := jn_elim H
      refine W_join2 (S := Bool) (fun s ρ' w' => fO s ∧ ∃ (ρ : Env), ρ' = setAll [(0, sl a r c), (1, I fromx), (2, I to), (3, I limit), (9, I aC), (10, .slice aA (List.length (List.replicate (Int.toNat (ln r)) ((0 : Int)))) aB), (12, sl bR aH bS), (13, I aR), (14, I aD), (58, sl cB aI cC), (59, I (ln aI)), (60, I aD), (73, .bool s)] ρ ∧ bL = w') ?_ ?_
      ·refine Wg (Lv ok 0 [(65, I a3), (66, .bool (decide (a3 > 0))), (67, .bool (decide (a3 > 0)))] 3 rfl rfl ?_)
       refine LP_split 67 (decide (a3 > 0)) rfl (fun cG => ?_) (fun cG => ?_)
       ·have H := H.1 cG
        refine Lv ok 3 [(68, .slice aA (List.length (List.replicate (Int.toNat (ln r)) ((0 : Int)))) aB), (69, I aD)] 5 rfl rfl ?_
        obtain ⟨cH, fQ, fR, H⟩ := H
        refine Li 5 rfl rfl rfl Try.underlying22 ti_3 rfl rfl bM.readf fQ fR fun jD jE fS fT => (Lo 6 rfl rfl rfl ti_3 ag_3 rfl fS fT bN fun jF fU => ?_)
        obtain rfl := fU.int
        refine Lv ok 7 [(72, .bool (decide (cH < 0))), (73, .bool (decide (cH < 0)))] 9 rfl rfl ?_
        exact Ln _ rfl ⟨decide (cH < 0), H, _, Ee ⟨rfl, rfl, rfl, rfl, rfl, rfl, rfl, rfl, rfl, rfl, rfl, rfl, rfl, trivial⟩, rfl⟩
       have H := H.2 cG
       refine Lv ok 3 [(68, undef), (69, undef), (70, undef), (71, undef), (72, undef), (73, .bool false)] 9 rfl rfl ?_
       exact Ln _ rfl ⟨false, H, _, Ee ⟨rfl, rfl, rfl, rfl, rfl, rfl, rfl, rfl, rfl, rfl, rfl, rfl, rfl, trivial⟩, rfl⟩
      rintro fV _ _ ⟨H, ρ, rfl, rfl⟩
      subst fP
      refine Wc (fV) rfl (fun cI => ?_) (fun cI => ?_)
      ·have H := H.1 cI
       refine Wq (Wg (Lv ok 0 [(74, .slice aA (List.length (List.replicate (Int.toNat (ln r)) ((0 : Int)))) aB), (75, I aD), (76, I aR)] 3 rfl rfl ?_))
       obtain ⟨fW, fX, H⟩ := H
       refine LP_indexw (v := .slice aA (List.length (List.replicate (Int.toNat (ln r)) ((0 : Int)))) aB) 3 rfl rfl rfl Try.underlying22 ti_3 rfl rfl bM fW fX fun jG fY => (LP_set 4 rfl rfl rfl rfl rfl fY (Le.refl emp) ⟨_, rfl, rfl⟩ bN fun fZ jH f0 dH cJ dI => (Ln _ rfl (Wg (Lv ok 0 [(78, sl bR aH bS), (79, I aD)] 2 rfl rfl (LP_lit (α := Int) (g := emp) 2 (vs := [I aD]) (xs := [aD]) rfl rfl rfl Try.underlying22 ti_3 rfl rfl ⟨⟨_, rfl, rfl⟩, trivial⟩ rfl rfl fun jI jJ jK a4 dJ f1 jL => ?_)))))
       obtain ⟨jM, jN, rfl⟩ := dJ.shape
       obtain ⟨jO, H⟩ := H
       refine LP_appendT (α := Int) 3 rfl rfl rfl Try.underlying22 ti_3 rfl rfl rfl bO ((bP.but cJ bQ.symm).ext a4) dJ.readf f1 (by first | omega | (simp only [ln] at *; omega)) (by first | omega | (simp only [ln] at *; omega)) fun f2 jP jQ dK f3 dL dM => ?_
       obtain ⟨dN, dO, rfl⟩ := dK.shape
       refine Lv ok 4 [(12, .slice dN (List.length (aH ++ ([aD]))) dO)] 5 rfl rfl (Ln _ rfl ?_)
       have dP := (Mj (dI _) bQ.symm bP).symm
       exact ⟨(List.set bK (Int.toNat aD) aR, aH ++ ([aD])), H, _, fZ, .slice dN (List.length (aH ++ ([aD]))) dO, f2, Ee ⟨rfl, rfl, rfl, rfl, rfl, rfl, rfl, rfl, rfl, rfl, rfl, trivial⟩, ((((Br U199 _).step cJ (Oe D201 _)).stepx a4).step dL (Oe D202 _)), f0, ((dH.ext a4).but dL dP), (Mt (Oe D201 _) (dI _) (Nat.le_refl _)), dK, f3, (Mt (Oe D202 _) dM (Nat.le_trans cJ.size a4.size)), (Mj dM dP (dH.ext a4))⟩
      have H := H.2 cI
      exact Wk ⟨(bK, aH), H, _, aJ, sl bR aH bS, aK, Ee ⟨rfl, rfl, rfl, rfl, rfl, rfl, rfl, rfl, rfl, rfl, rfl, trivial⟩, (Br _ _), bM, bN, (Oe D201 _), bO, bP, (Oe D202 _), bQ⟩
     rintro ⟨f4, dQ⟩ _ jR ⟨H, ρ, aY, cF, aZ, rfl, HF⟩
     revert HF
     refine bb8 fun X206 f5 f6 f7 dR f8 f9 gA => ?_
     subst fI
     obtain ⟨gB, gC, rfl⟩ := dR.shape
     refine Wg (Lv ok 0 [(82, I (wr (aD + 1))), (60, I (wr (aD + 1)))] 2 rfl rfl (Ln _ rfl ?_))
     have cK : DomLe U162 aN.heap.size U199 := (DomLe.eqv hU200 (Mu (Mt (Oe (Or _) _) dE (Nat.le_refl _)) (Mt (Oe (Or _) _) dF (Nat.le_refl _))))
     exact ⟨(f4, dQ, wr (aD + 1)), ⟨H.1, _, aY, sl gB dQ gC, aZ, Ee ⟨rfl, rfl, rfl, rfl, rfl, rfl, rfl, rfl, rfl, rfl, rfl, trivial⟩, (((Br U162 _).step X169 (Oe (Or _) _)).step X206 cK), f5, f6, (Mt cK f7 X169.size), dR, f8, (Mt cK f9 X169.size), gA⟩, H.2⟩
    have H := H.2 cE
    refine W_exit ?_
    refine (if_pos rfl).mpr ?_
    have cL : DomLe U bF.heap.size U162 := (DomLe.eqv hU163 (Mu (Mt (Oe (Or _) _) b3 (Nat.le_refl _)) (Mt (Mt (Oe (Or _) _) c7 (Nat.le_refl _)) (Oe (Or _) _) (Nat.le_refl _))))
    exact ⟨(bK, aH), ⟨H.1, _, aJ, sl bR aH bS, aK, Ee ⟨rfl, rfl, rfl, rfl, rfl, rfl, rfl, trivial⟩, (((Br U _).step X78 (Oe (Or _) _)).step X169 cL), bM, bN, (Mt cL dE X78.size), bO, bP, (Mt cL dF X78.size), bQ⟩, H.2⟩
   have H := H.2 cA
   refine W_exit ?_
   refine (if_pos rfl).mpr ?_
   refine Wq (Wq (Wg (Lv ok 0 [(83, .slice aA (List.length (List.replicate (Int.toNat (ln r)) ((0 : Int)))) aB), (84, I to)] 2 rfl rfl ?_)))
   obtain ⟨dS, gD, gE, H⟩ := H
   refine Li 2 rfl rfl rfl Try.underlying22 ti_3 rfl rfl aO.readf gD gE fun jS jT gF gG => (Lo 3 rfl rfl rfl ti_3 ag_3 rfl gF gG aQ fun jU gH => ?_)
   obtain rfl := gH.int
   refine Lv ok 4 [(87, .bool (decide (dS < 0)))] 5 rfl rfl (Ln _ rfl ?_)
   refine Wc (decide (dS < 0)) rfl (fun cM => ?_) (fun cM => ?_)
   ·have H := H.1 cM
    refine W_exit ?_
    refine (if_neg (by decide)).mpr ?_
    refine (if_pos rfl).mpr ?_
    have dT : Fresh w.heap.size aP := (DomLe.fresh bE (a2.mono X15.size) (Nat.le_trans X15.size x.size))
    exact ⟨(aC, bB), H, _, aF, Ee ⟨rfl, trivial⟩, (((((((Br hx _).step X15 (Oe (Or _) _)).stepx x).step X31 ((a2.mono X15.size).dom _)).step aV (dT.dom _)).stepx aW).step X78 (DomLe.eqv hU (Mu (((b0 _).fresh dT (Nat.le_trans (Nat.le_trans X15.size x.size) X31.size)).dom _) ((bG.mono (Nat.le_trans (Nat.le_trans (Nat.le_trans X15.size x.size) X31.size) aV.size)).dom _)))), a0, aX, (fun _ => bD _)⟩
   have H := H.2 cM
   refine Wk (Wq (Wg (Lv ok 0 [(88, I limit), (89, I aC), (90, I (wr (limit - aC))), (16, I (wr (limit - aC)))] 4 rfl rfl (Ln _ rfl (Wq (Wq (Wg (Lv ok 0 [(91, I to), (17, I to)] 2 rfl rfl (Ln _ rfl ?_)))))))))
   refine W_block ?_
   obtain ⟨J300, gI, Hx302, H⟩ := H
   refine W_loop (S := Int × Int) (fun s ρ' w' => J300 s.1 s.2 ∧ ∃ (ρ : Env), ρ' = setAll [(0, sl a r c), (1, I fromx), (2, I to), (3, I limit), (9, I aC), (10, .slice aA (List.length (List.replicate (Int.toNat (ln r)) ((0 : Int)))) aB), (16, I s.1), (17, I s.2)] ρ ∧ aN = w') (fun s => gI s.1 s.2) (wr (limit - aC), to) ⟨Hx302, _, Ee ⟨rfl, rfl, rfl, rfl, rfl, rfl, rfl, rfl, trivial⟩, rfl⟩ ?_
   rintro ⟨step, aS⟩ _ _ ⟨Hi, ρ, rfl, rfl⟩
   have H := H step aS Hi
   refine Wq (Wq (Wg (Lv ok 0 [(92, I aS), (93, I fromx), (94, .bool (aS != fromx))] 3 rfl rfl (Ln _ rfl ?_))))
   refine Wc (aS != fromx) rfl (fun cN => ?_) (fun cN => ?_)
   ·have H := H.1 cN
    refine Wk (Wq (W_block (Wg (Lv ok 0 [(99, I step), (100, sl a r c), (101, .slice aA (List.length (List.replicate (Int.toNat (ln r)) ((0 : Int)))) aB), (102, I aS)] 4 rfl rfl ?_))))
    obtain ⟨jV, gJ, gK, H⟩ := H
    refine Li 4 rfl rfl rfl Try.underlying22 ti_3 rfl rfl aO.readf gJ gK fun jW jX gL gM => (Lo 5 rfl rfl rfl ti_3 ag_3 rfl gL gM aQ fun jY gN => ?_)
    obtain rfl := gN.int
    obtain ⟨jZ, gO, gP, H⟩ := H
    refine Li 6 rfl rfl rfl Try.underlying23 ti_22 rfl rfl a0.readf gO gP fun j0 j1 gQ gR => (Lo 7 rfl rfl rfl ti_22 ag_22 rfl gQ gR aX fun j2 gS => ?_)
    have dU := gS.slice
    obtain ⟨j3, j4, rfl⟩ := dU.shape
    refine Lv ok 8 [(107, I aS)] 9 rfl rfl ?_
    obtain ⟨cO, gT, gU, H⟩ := H
    refine Li 9 rfl rfl rfl Try.underlying22 ti_3 rfl rfl dU gT gU fun j5 j6 gV gW => (Lo 10 rfl rfl rfl ti_3 ag_3 rfl gV gW aX fun j7 gX => ?_)
    obtain rfl := gX.int
    refine Lv ok 11 [(110, I (mn step cO)), (16, I (mn step cO))] 13 rfl rfl (Ln _ rfl (Wg (Lv ok 0 [(95, .slice aA (List.length (List.replicate (Int.toNat (ln r)) ((0 : Int)))) aB), (96, I aS)] 2 rfl rfl ?_)))
    obtain ⟨dV, gY, gZ, H⟩ := H
    refine Li 2 rfl rfl rfl Try.underlying22 ti_3 rfl rfl aO.readf gY gZ fun j8 j9 g0 g1 => (Lo 3 rfl rfl rfl ti_3 ag_3 rfl g0 g1 aQ fun kA g2 => ?_)
    obtain rfl := g2.int
    refine Lv ok 4 [(17, I dV)] 5 rfl rfl ?_
    exact Ln _ rfl ⟨(mn step cO, dV), ⟨H.1, _, Ee ⟨rfl, rfl, rfl, rfl, rfl, rfl, rfl, rfl, trivial⟩, rfl⟩, H.2⟩
   have H := H.2 cN
   refine W_exit ?_
   refine (if_pos rfl).mpr ?_
   refine Wq (Wq (Wg (Lv ok 0 [(111, I to), (18, I to)] 2 rfl rfl (Ln _ rfl (W_block ?_)))))
   obtain ⟨J354, g3, Hx356, H⟩ := H
   refine W_loop (S := (List (List Int)) × Int) (fun s ρ' w' => J354 s.1 s.2 ∧ ∃ (ρ : Env) (aT : PH), ρ' = setAll [(0, sl a r c), (1, I fromx), (2, I to), (3, I limit), (9, I aC), (10, .slice aA (List.length (List.replicate (Int.toNat (ln r)) ((0 : Int)))) aB), (16, I step), (18, I s.2)] ρ ∧ But aF aN w' ∧ OD aT (sl a r c) s.1 ∧ Sub aT w' ∧ (∀ n, DomLe hx n aT) ∧ (∀ n, DomLe aF n aT)) (fun s => g3 s.1 s.2) (bB, to) ⟨Hx356, _, aF, Ee ⟨rfl, rfl, rfl, rfl, rfl, rfl, rfl, rfl, trivial⟩, (Br _ _), a0, aX, (fun _ => bD _), (fun _ => DomLe.refl _ _)⟩ ?_
   rintro ⟨cP, aE⟩ _ kB ⟨Hi, ρ, aT, rfl, HF⟩
   revert HF
   refine bb5 fun X353 dW bT dX cQ => ?_
   have H := H cP aE Hi
   refine Wq (Wq (Wg (Lv ok 0 [(112, I aE), (113, I fromx), (114, .bool (aE != fromx))] 3 rfl rfl (Ln _ rfl ?_))))
   refine Wc (aE != fromx) rfl (fun cR => ?_) (fun cR => ?_)
   ·have H := H.1 cR
    refine Wk (Wq (W_block (Wq (Wg (Lv ok 0 [(119, sl a r c), (120, .slice aA (List.length (List.replicate (Int.toNat (ln r)) ((0 : Int)))) aB), (121, I aE)] 3 rfl rfl ?_)))))
    obtain ⟨g4, g5, g6, H⟩ := H
    refine Li 3 rfl rfl rfl Try.underlying22 ti_3 rfl rfl aO.readf g5 g6 fun kC kD g7 g8 => ?_
    have dY := (Mj b3 (Dj.eqv hU bJ) (b7.ext aW)).symm
    have cS := (aQ.but X353 dY)
    refine Lo 4 rfl rfl rfl ti_3 ag_3 rfl g7 g8 cS fun kE g9 => ?_
    obtain rfl := g9.int
    obtain ⟨bU, hA, hB, H⟩ := H
    refine LP_indexb (v := sl a r c) 5 rfl rfl rfl Try.underlying23 ti_22 rfl rfl dW hA hB fun kF u hC rest hD bw => (LP_ldcell 6 rfl rfl rfl ti_22 ag_22 rfl hD bT ?_)
    have dZ := bw.od
    obtain ⟨d0, d1, rfl⟩ := dZ.shape
    have d2 := Sub.le bT bw.le
    have d3 : OS 3 hC emp (sl d0 bU d1) bU := OD.flat dZ
    refine Lv ok 7 [(126, I aE)] 8 rfl rfl ?_
    obtain ⟨d4, hE, hF, H⟩ := H
    refine Li 8 rfl rfl rfl Try.underlying22 ti_3 rfl rfl d3.readf hE hF fun kG kH hG hH => (Lo 9 rfl rfl rfl ti_3 ag_3 rfl hG hH d2 fun kI hI => ?_)
    obtain rfl := hI.int
    refine Lv ok 10 [(129, I step), (130, I (wr (d4 - step)))] 12 rfl rfl ?_
    obtain ⟨hJ, hK, H⟩ := H
    refine LP_indexw (v := sl d0 bU d1) 12 rfl rfl rfl Try.underlying22 ti_3 rfl rfl d3 hJ hK fun kJ hL => (LP_set 13 rfl rfl rfl rfl rfl hL (Le.refl emp) ⟨_, rfl, rfl⟩ d2 fun kK kL hM hN d5 hO => ?_)
    obtain ⟨kM, hP, dd⟩ := BwL.turn bw (OS.od hM) (Dom.of hO)
    have hQ := BwL.sub bw bT hN d5
    have d6 := BwL.but bw d5
    refine Ln _ rfl ?_
    refine W_open mix fun kN cT => ?_
    refine AP_game 11 [[], [], [0, 1], [0, 1, 2], [], [], [4, 5], [4, 5, 6], [0, 1, 2, 3, 4, 5, 6, 7], [0, 1, 2, 3, 4, 5, 6, 7, 8], [], [0, 1, 2, 3, 4, 5, 6, 7, 8, 9, 10], [0, 1, 2, 3, 4, 5, 6, 7, 8, 9, 10, 11], [0, 1, 2, 3, 4, 5, 6, 7, 8, 9, 10, 11, 12]] [[(0, none)], [(18, none)], [(132, some 0), (133, some 1)], [(134, some 2)], [(10, none)], [(18, none)], [(136, some 4), (137, some 5)], [(138, some 6)], [(135, some 3), (139, some 7)], [(140, some 8)], [(16, none)]] [(0, none), (1, none), (2, none), (3, none), (9, none), (10, none), (16, none), (18, none), (135, some 3), (139, some 7), (141, some 9), (142, some 10)] [(0, false), (1, false), (2, false), (3, false), (4, false), (5, false), (6, false), (7, false), (8, false), (9, false), (10, false)] (by kernel_rfl) (by kernel_rfl) ?_
    refine GS_ev ok [(0, sl a r c)] (sl a r c) rfl rfl (fun _ h => h) (fun _ => rfl) ?_
    refine GS_ev ok [(18, I aE)] (I aE) rfl rfl (fun _ h => h) (fun _ => rfl) ?_
    obtain ⟨aU, hR, hS, H⟩ := H
    obtain ⟨d7, kO, hT, hV, hW, hX, a5⟩ := run_indexb Try.underlying23 ti_22 hP _ hR hS
    refine GS_r0 [(132, sl a r c), (133, I aE)] (.pointer (some d7)) rfl rfl (fun _ h => h) (fun _ _ => ex_index rfl rfl rfl (hW _)) ?_
    have d8 := a5.od
    obtain ⟨a6, a7, rfl⟩ := d8.shape
    have cU := (hQ.ext cT)
    have d9 := Sub.le cU a5.le
    have eA : OS 3 hT emp (sl a6 aU a7) aU := OD.flat d8
    refine GS_r1 [(134, .pointer (some d7))] (sl a6 aU a7) rfl rfl (fun _ h => h) (fun _ w e => ex_ldcell rfl ti_22 ag_22 rfl hX e) cU ?_
    refine GS_ev ok [(10, .slice aA (List.length (List.replicate (Int.toNat (ln r)) ((0 : Int)))) aB)] (.slice aA (List.length (List.replicate (Int.toNat (ln r)) ((0 : Int)))) aB) rfl rfl (fun _ h => h) (fun _ => rfl) ?_
    refine GS_ev ok [(18, I aE)] (I aE) rfl rfl (fun _ h => h) (fun _ => rfl) ?_
    obtain ⟨a8, hY, hZ, H⟩ := H
    obtain ⟨eB, kP, h0, h1, h2⟩ := run_indexAt Try.underlying22 ti_3 aO.readf .i64 _ a8 hY hZ
    refine GS_r0 [(136, .slice aA (List.length (List.replicate (Int.toNat (ln r)) ((0 : Int)))) aB), (137, I aE)] (.pointer (some eB)) rfl rfl (fun _ h => h) (fun _ _ => ex_index rfl rfl rfl (h0 _)) ?_
    obtain ⟨kQ, h3, h4⟩ := run_loadAt ti_3 ag_3 h1 h2
    obtain rfl := h4.int
    have eC := (Mj (cQ _) dY aQ)
    have eD := ((cS.but d6 eC).ext cT)
    refine GS_r1 [(138, .pointer (some eB))] (I a8) rfl rfl (fun _ h => h) (fun _ w e => ex_load rfl rfl (h3 w e)) eD ?_
    obtain ⟨a9, h5, h6, H⟩ := H
    obtain ⟨eE, kR, h7, h8, h9⟩ := run_indexAt Try.underlying22 ti_3 eA.readf .i64 _ a9 h5 h6
    refine GS_r0 [(135, sl a6 aU a7), (139, I a8)] (.pointer (some eE)) rfl rfl (fun _ h => h) (fun _ _ => ex_index rfl rfl rfl (h7 _)) ?_
    obtain ⟨kS, iA, iB⟩ := run_loadAt ti_3 ag_3 h8 h9
    obtain rfl := iB.int
    refine GS_r1 [(140, .pointer (some eE))] (I a9) rfl rfl (fun _ h => h) (fun _ w e => ex_load rfl rfl (iA w e)) d9 ?_
    refine GS_ev ok [(16, I step)] (I step) rfl rfl (fun _ h => h) (fun _ => rfl) ?_
    intro kT bV ρ iC
    refine AP_forget [(0, sl a r c), (1, I fromx), (2, I to), (3, I limit), (9, I aC), (10, .slice aA (List.length (List.replicate (Int.toNat (ln r)) ((0 : Int)))) aB), (16, I step), (18, I aE), (135, sl a6 aU a7), (139, I a8), (141, I a9), (142, I step)] (by exact iC) fun ρ => ?_
    refine AP_tail 11 [[], [], [0, 1], [0, 1, 2], [], [], [4, 5], [4, 5, 6], [0, 1, 2, 3, 4, 5, 6, 7], [0, 1, 2, 3, 4, 5, 6, 7, 8], [], [0, 1, 2, 3, 4, 5, 6, 7, 8, 9, 10], [0, 1, 2, 3, 4, 5, 6, 7, 8, 9, 10, 11], [0, 1, 2, 3, 4, 5, 6, 7, 8, 9, 10, 11, 12]] (by kernel_rfl) ?_
    refine Lv ok 11 [(143, I (wr (a9 + step)))] 12 rfl rfl ?_
    obtain ⟨iD, iE, H⟩ := H
    refine LP_indexw (v := sl a6 aU a7) 12 rfl rfl rfl Try.underlying22 ti_3 rfl rfl eA iD iE fun kU iF => (LP_set 13 rfl rfl rfl rfl rfl iF (Le.refl emp) ⟨_, rfl, rfl⟩ (d9.ext bV) fun iG kV iH iI eF iJ => ?_)
    obtain ⟨kW, iK, eG⟩ := BwL.turn a5 (OS.od iH) (Dom.of iJ)
    have iL := BwL.sub a5 (cU.ext bV) iI eF
    have eH := BwL.but a5 eF
    refine Ln _ rfl (Wg (Lv ok 0 [(115, .slice aA (List.length (List.replicate (Int.toNat (ln r)) ((0 : Int)))) aB), (116, I aE)] 2 rfl rfl ?_))
    obtain ⟨eI, iM, iN, H⟩ := H
    refine Li 2 rfl rfl rfl Try.underlying22 ti_3 rfl rfl aO.readf iM iN fun kX kY iO iP => (Lo 3 rfl rfl rfl ti_3 ag_3 rfl iO iP ((eD.ext bV).but eH (Mj ((fun n => Oe dd n) _) eC cS)) fun kZ iQ => ?_)
    obtain rfl := iQ.int
    refine Lv ok 4 [(18, I eI)] 5 rfl rfl (Ln _ rfl ?_)
    have eJ : DomLe aF aN.heap.size aT := (Mt (Oe (Or _) _) (cQ _) (Nat.le_refl _))
    exact ⟨(List.set (List.set cP (Int.toNat g4) (List.set bU (Int.toNat aE) (wr (d4 - step)))) (Int.toNat aE) (List.set aU (Int.toNat a8) (wr (a9 + step))), eI), ⟨H.1, _, (un iG hV), Ee ⟨rfl, rfl, rfl, rfl, rfl, rfl, rfl, rfl, trivial⟩, (((((Br aF _).step X353 (Oe (Or _) _)).step d6 eJ).stepx (cT.trans bV)).step eH (Mt eJ ((fun n => Oe dd n) _) X353.size)), iK, iL, (fun _ => Mt (Mt (dX _) (((fun n => Oe dd n) _)) (Nat.le_refl _)) (((fun n => Oe eG n) _)) (Nat.le_refl _)), (fun _ => Mt (Mt (Mt (DomLe.refl _ _) ((cQ _)) (Nat.le_refl _)) (((fun n => Oe dd n) _)) (Nat.le_refl _)) (((fun n => Oe eG n) _)) (Nat.le_refl _))⟩, H.2⟩
   have H := H.2 cR
   refine W_exit ?_
   refine (if_pos rfl).mpr ?_
   refine Wg (Lv ok 0 [(145, I aC), (146, I step), (147, I (wr (aC + step))), (9, I (wr (aC + step)))] 4 rfl rfl (Ln _ rfl ?_))
   have eK : Fresh w.heap.size aP := (DomLe.fresh bE (a2.mono X15.size) (Nat.le_trans X15.size x.size))
   exact ⟨(cP, wr (aC + step)), ⟨H.1, _, aT, Ee ⟨rfl, rfl, rfl, rfl, rfl, trivial⟩, ((((((((Br hx _).step X15 (Oe (Or _) _)).stepx x).step X31 ((a2.mono X15.size).dom _)).step aV (eK.dom _)).stepx aW).step X78 (DomLe.eqv hU (Mu (((b0 _).fresh eK (Nat.le_trans (Nat.le_trans X15.size x.size) X31.size)).dom _) ((bG.mono (Nat.le_trans (Nat.le_trans (Nat.le_trans X15.size x.size) X31.size) aV.size)).dom _)))).step X353 (Mt (Oe (Or _) _) (bD _) (Nat.le_refl _))), dW, bT, (fun _ => dX _)⟩, H.2⟩
  have H := H.2 hc
  refine W_exit ?_
  refine (if_pos rfl).mpr ?_
  exact ⟨(aC, bB), H, _, aF, Ee ⟨rfl, trivial⟩, ((Br hx _).step X15 (Oe (Or _) _)), a0, bC, (fun _ => bD _)⟩
 rintro ⟨sent, k0⟩ _ wx ⟨H, ρ, bA, rfl, X6, o, iR, f⟩
 subst hk
 refine Wq (Wg (Lv ok 0 [(148, I sent), (8, I sent)] 2 rfl rfl (Ln _ rfl (W_ret ?_))))
 exact ⟨_, Ret_of [I sent] ⟨⟨rfl, rfl⟩, trivial⟩, _, _, _, H, rfl, (X.step X6 (Oe D _)), o, iR, (fun _ => f _)⟩

theorem slices_Clone_int_int_w (sx : List Int) (Q : (List Int) → Prop) (H : slices_Clone_int_int sx Q) (w : World) {vx : Value} {hx : PH} (r : RS hx vx sx) (ex : Sub hx w) :
  CallsTo Try.prog 101 #[vx] w fun v w' => ∃ aB aC aA, Q aB ∧ v = aC ∧ Ext w w' ∧ OS 3 aA emp aC aB ∧ Sub aA w' ∧ Fresh w.heap.size aA := by
 obtain ⟨a, c, rfl⟩ := r.shape
 refine enter (args := [sl a sx c]) 8 Try.func101 rfl rfl rfl ?_
 refine Wo [(0, sl a sx c)] ⟨rfl, trivial⟩ fun ρ => ?_
 have X := Br emp w
 refine Wq (Wg (Lv ok 0 [(2, .slice none 0 0)] 1 rfl rfl (Ln _ rfl (Wq (Wq (Wg (Lv ok 0 [(3, sl a sx c)] 1 rfl rfl (LP_val 1 _ rfl rfl (ex_eqnil rfl Try.underlying22 rfl rfl _) ?_))))))))
 have H := H _ (nil_of r)
 refine Ln _ rfl ?_
 refine Wc (Option.isNone a) rfl (fun hc => ?_) (fun hc => ?_)
 ·have H := H.1 hc
  refine Wq (Wg (Lv ok 0 [(2, .slice none 0 0)] 1 rfl rfl (Ln _ rfl (W_ret ?_))))
  exact ⟨_, Ret_of [.slice none 0 0] ⟨⟨rfl, rfl⟩, trivial⟩, _, _, emp, H, rfl, X.ext, OS.nil, (emp_sub _), (emp_fresh _)⟩
 have H := H.2 hc
 refine Wk (Wq (Wg (LP_lit (α := Int) (g := emp) 0 (vs := []) (xs := []) rfl rfl rfl Try.underlying22 ti_3 rfl rfl trivial rfl rfl fun aK aL wx x o aH f => ?_)))
 obtain ⟨aM, aN, rfl⟩ := o.shape
 refine Lv ok 1 [(6, sl a sx c)] 2 rfl rfl ?_
 obtain ⟨hb, H⟩ := H
 refine LP_appendf (α := Int) 2 rfl rfl rfl Try.underlying22 ti_3 rfl rfl rfl o aH r (ex.ext x) (by first | omega | (simp only [ln] at *; omega)) (by first | omega | (simp only [ln] at *; omega)) fun aO aP aQ aD aI y dm => ?_
 obtain ⟨aE, aF, rfl⟩ := aD.shape
 refine Lv ok 3 [(2, .slice aE (List.length ((([] : List Int)) ++ sx)) aF)] 4 rfl rfl (Ln _ rfl (W_ret ?_))
 have aG := f.mono X.size
 have X16 := (X.stepx x)
 have aJ := dm.fresh aG X16.size
 exact ⟨_, Ret_of [.slice aE (List.length ((([] : List Int)) ++ sx)) aF] ⟨⟨rfl, rfl⟩, trivial⟩, _, _, _, H, rfl, (X16.step y (aG.dom _)).ext, aD, aI, aJ⟩

theorem impl_copyMatrix_w (x : List (List Int)) (Q : (List (List Int)) → Prop) (H : impl_copyMatrix x Q) (w : World) {vx : Value} {hx : PH} (r : RS hx vx x) (ex : Sub hx w) :
  CallsTo Try.prog 79 #[vx] w fun v w' => ∃ aF aG aH, Q aF ∧ v = aG ∧ Ext w w' ∧ OD aH aG aF ∧ Sub aH w' ∧ Fresh w.heap.size aH ∧ CanV aG aF := by
 obtain ⟨a, c, rfl⟩ := r.shape
 refine enter (args := [sl a x c]) 23 Try.func79 rfl rfl rfl ?_
 refine Wo [(0, sl a x c)] ⟨rfl, trivial⟩ fun ρ => ?_
 have X := Br emp w
 refine Wq (Wg (Lv ok 0 [(2, .slice none 0 0)] 1 rfl rfl (Ln _ rfl (Wq (Wg (Lv ok 0 [(6, sl a x c), (7, I (ln x))] 2 rfl rfl ?_))))))
 obtain ⟨hn, hb, H⟩ := H
 refine LP_maked (β := Int) 2 rfl rfl rfl Try.underlying23 ti_22 rfl hn (by first | omega | (simp only [ln] at *; omega)) (by first | omega | (simp only [ln] at *; omega)) fun aD a7 wx aJ o aW f => ?_
 obtain ⟨aB, aC, rfl⟩ := o.shape
 refine Lv ok 3 [(3, .slice aB (List.length (List.replicate (Int.toNat (ln x)) (([] : List Int)))) aC)] 4 rfl rfl (Ln _ rfl (Wq (Wq (Wg (Lv ok 0 [(9, sl a x c), (10, I (ln x)), (11, I 0)] 3 rfl rfl (Ln _ rfl (W_block ?_)))))))
 obtain ⟨hz, H⟩ := H
 obtain ⟨J, m, Hx, H⟩ := H
 refine W_loop (S := (List (List Int)) × Int) (fun s ρ' w' => J s.1 s.2 ∧ ∃ (ρ : Env) (aE : PH), ρ' = setAll [(3, .slice aB (List.length (List.replicate (Int.toNat (ln x)) (([] : List Int)))) aC), (9, sl a x c), (10, I (ln x)), (11, I s.2)] ρ ∧ But aD wx w' ∧ OD aE (.slice aB (List.length (List.replicate (Int.toNat (ln x)) (([] : List Int)))) aC) s.1 ∧ Sub aE w' ∧ DomLe aD wx.heap.size aE ∧ CanV (.slice aB (List.length (List.replicate (Int.toNat (ln x)) (([] : List Int)))) aC) s.1) (fun s => m s.1 s.2) (List.replicate (Int.toNat (ln x)) (([] : List Int)), 0) ⟨Hx, _, aD, Ee ⟨rfl, rfl, rfl, rfl, trivial⟩, (Br _ _), o, aW, (Oe (Or _) _), (can_of o.readf hz)⟩ ?_
 rintro ⟨out, aA⟩ _ aX ⟨Hi, ρ, aE, rfl, HF⟩
 revert HF
 refine bb5 fun X14 aK aI aL cn => ?_
 have H := H out aA Hi
 refine Wq (Wg (Lv ok 0 [(12, .bool (decide (aA < (ln x))))] 1 rfl rfl (Ln _ rfl (Wq ?_))))
 refine Wc (decide (aA < (ln x))) rfl (fun hc => ?_) (fun hc => ?_)
 ·have H := H.1 hc
  refine Wk (Wq (W_block (Wq (Wg (Lv ok 0 [(13, I aA)] 1 rfl rfl ?_)))))
  obtain ⟨aM, hi, aY, H⟩ := H
  refine Li 1 rfl rfl rfl Try.underlying23 ti_22 rfl rfl r hi aY fun a8 cs aZ d => ?_
  have aN := ((ex.ext aJ).but X14 (Df ex f).symm)
  refine Lo 2 rfl rfl rfl ti_22 ag_22 rfl aZ d aN fun a9 a0 => ?_
  have aO := a0.slice
  obtain ⟨aP, aQ, rfl⟩ := aO.shape
  refine Lv ok 3 [(4, I aA), (5, sl aP aM aQ)] 5 rfl rfl (Ln _ rfl (Wg (Lv ok 0 [(16, .slice aB (List.length (List.replicate (Int.toNat (ln x)) (([] : List Int)))) aC), (17, I aA), (18, sl aP aM aQ)] 3 rfl rfl (Lc 3 rfl rfl rfl cal_101 rfl (slices_Clone_int_int_w _ _ H aX aO aN) ?_))))
  rintro _ bA ⟨aR, bB, bC, H, rfl, aS, aT, a1, aU⟩
  obtain ⟨bD, bE, rfl⟩ := aT.shape
  obtain ⟨a2, hl, H⟩ := H
  refine LP_indexd (v := .slice aB (List.length (List.replicate (Int.toNat (ln x)) (([] : List Int)))) aC) 4 rfl rfl rfl Try.underlying23 ti_22 rfl rfl aK a2 hl fun bF wa => (LP_setD (y := aR) 5 rfl rfl rfl rfl rfl wa (OD.rvo (OS.od aT)) (aI.ext aS) a1 (Df aI aU) fun a3 hw bG a4 a5 y dh dq bH => (Ln _ rfl (Wg (Lv ok 0 [(21, I (wr (aA + 1))), (11, I (wr (aA + 1)))] 2 rfl rfl ?_))))
  refine Ln _ rfl ?_
  have dl : DomLe aD wx.heap.size aE := (Mt (Oe (Or _) _) aL (Nat.le_refl _))
  exact ⟨(List.set out (Int.toNat aA) aR, wr (aA + 1)), ⟨H.1, _, a3, Ee ⟨rfl, rfl, rfl, rfl, trivial⟩, ((((Br aD _).step X14 (Oe (Or _) _)).stepx aS).step (But.dom y dh) dl), a4, a5, (Mt (Mu dl ((aU.mono X14.size).dom _)) (Oe dq _) (Nat.le_refl _)), (CanV.len (by simp) cn)⟩, H.2⟩
 have H := H.2 hc
 refine W_exit ?_
 refine (if_pos rfl).mpr ?_
 refine Wq (Wg (Lv ok 0 [(22, .slice aB (List.length (List.replicate (Int.toNat (ln x)) (([] : List Int)))) aC), (2, .slice aB (List.length (List.replicate (Int.toNat (ln x)) (([] : List Int)))) aC)] 2 rfl rfl (Ln _ rfl (W_ret ?_))))
 have aV := f.mono X.size
 have X47 := (X.stepx aJ)
 have a6 := DomLe.fresh aL aV X47.size
 exact ⟨_, Ret_of [.slice aB (List.length (List.replicate (Int.toNat (ln x)) (([] : List Int)))) aC] ⟨⟨rfl, rfl⟩, trivial⟩, _, _, _, H, rfl, (X47.step X14 (aV.dom _)).ext, aK, aI, a6, cn⟩

theorem impl_restore_w (t : Transport) (x : List (List Int)) (aF : List (List Int)) (fixed : Int) (Q : (List (List Int)) → Prop) (H : impl_restore t x aF fixed Q) (w : World) {vx : Value} {hx : PH} (r : RS hx vx t.Rows) (ex : Sub hx w) {bN : Value} {bO : PH} (cT : RS bO bN t.Cols) (eG : Sub bO w) {bP : Value} {bQ : PH} (cU : RS bQ bP t.Lo) (eH : Sub bQ w) {bR : Value} {bS : PH} (bT : RS bS bR t.Hi) (bU : Sub bS w) {bV : Value} {bW : PH} (bX : RS bW bV x) (cV : Sub bW w) {bY : Value} {bZ : PH} (b0 : RS bZ bY aF) (b1 : Sub bZ w) :
  CallsTo Try.prog 91 #[.agg #[vx, bN, bP, bR], bV, bY, I fixed] w fun v w' => ∃ a2 a3 a4, Q a2 ∧ v = a3 ∧ Ext w w' ∧ OD a4 a3 a2 ∧ Sub a4 w' ∧ Fresh w.heap.size a4 ∧ CanV a3 a2 := by
 obtain ⟨a, c, rfl⟩ := r.shape
 obtain ⟨aW, aX, rfl⟩ := cT.shape
 obtain ⟨a5, a6, rfl⟩ := cU.shape
 obtain ⟨aP, aQ, rfl⟩ := bT.shape
 obtain ⟨a7, a8, rfl⟩ := bX.shape
 obtain ⟨aI, aJ, rfl⟩ := b0.shape
 refine enter (args := [.agg #[sl a t.Rows c, sl aW t.Cols aX, sl a5 t.Lo a6, sl aP t.Hi aQ], sl a7 x a8, sl aI aF aJ, I fixed]) 69 Try.func91 rfl rfl rfl ?_
 refine Wo [(0, .agg #[sl a t.Rows c, sl aW t.Cols aX, sl a5 t.Lo a6, sl aP t.Hi aQ]), (1, sl a7 x a8), (2, sl aI aF aJ), (3, I fixed)] ⟨rfl, rfl, rfl, rfl, trivial⟩ fun ρ => ?_
 have X := Br emp w
 refine Wq (Wg (Ly 0 (cs := [sl a t.Rows c, sl aW t.Cols aX, sl a5 t.Lo a6, sl aP t.Hi aQ]) rfl rfl rfl rfl rfl fun b wx cW aY f => (Lv ok 1 [(8, .slice none 0 0)] 2 rfl rfl (Ln _ rfl (Wq ?_)))))
 refine W_quiet mix (by kernel_rfl) ?_
 refine QP_ev ok 0 [(14, pb b)] 1 rfl rfl ?_
 refine QP_ldbox 1 (v := sl a t.Rows c) rfl rfl rfl ti_22 ag_22 (fun _ => rfl) rfl aY rfl rfl ?_
 refine QP_ev ok 2 [(16, I (ln t.Rows)), (17, .pointer (some ⟨b, 1, none⟩))] 4 rfl rfl ?_
 refine QP_ldbox 4 (v := sl aW t.Cols aX) rfl rfl rfl ti_22 ag_22 (fun _ => rfl) rfl aY rfl rfl ?_
 refine QP_ev ok 5 [(19, I (ln t.Cols)), (9, I (ln t.Rows)), (10, I (ln t.Cols))] 8 rfl rfl ?_
 refine QP_end _ rfl fun cX a9 => ?_
 refine Wq (Wg (Lv ok 0 [(20, sl a7 x a8)] 1 rfl rfl ?_))
 have xc := (cW.trans a9)
 refine Lc 1 rfl rfl rfl cal_79 rfl (impl_copyMatrix_w _ _ H cX bX (cV.ext xc)) ?_
 rintro _ bA ⟨aB, eI, aR, H, rfl, aK, o, cY, aS, cn⟩
 obtain ⟨aD, aE, rfl⟩ := o.shape
 refine Lv ok 2 [(11, sl aD aB aE)] 3 rfl rfl (Ln _ rfl (Wq (Wq (Wg (Lv ok 0 [(22, sl aD aB aE), (23, I (ln aB)), (24, I 0)] 3 rfl rfl (Ln _ rfl (W_block ?_)))))))
 obtain ⟨J, m, Hx, H⟩ := H
 refine W_loop (S := (List (List Int)) × Int) (fun s ρ' w' => J s.1 s.2 ∧ ∃ (ρ : Env) (aG : PH), ρ' = setAll [(2, sl aI aF aJ), (3, I fixed), (4, pb b), (9, I (ln t.Rows)), (10, I (ln t.Cols)), (11, sl aD aB aE), (23, I (ln aB)), (24, I s.2)] ρ ∧ But aR bA w' ∧ OD aG (sl aD aB aE) s.1 ∧ Sub aG w' ∧ DomLe aR bA.heap.size aG ∧ CanV (sl aD aB aE) s.1) (fun s => m s.1 s.2) (aB, 0) ⟨Hx, _, aR, Ee ⟨rfl, rfl, rfl, rfl, rfl, rfl, rfl, rfl, trivial⟩, (Br _ _), o, cY, (Oe (Or _) _), cn⟩ ?_
 rintro ⟨out, aA⟩ _ bB ⟨Hi, ρ, aG, rfl, HF⟩
 revert HF
 refine bb5 fun X54 bC bD aT b2 => ?_
 have H := H out aA Hi
 refine Wq (Wg (Lv ok 0 [(25, .bool (decide (aA < (ln aB))))] 1 rfl rfl (Ln _ rfl (Wq ?_))))
 refine Wc (decide (aA < (ln aB))) rfl (fun hc => ?_) (fun hc => ?_)
 ·have H := H.1 hc
  refine Wk (Wq (W_block (Wq (Wg (Lv ok 0 [(26, I aA), (12, I aA)] 2 rfl rfl (Ln _ rfl (Wq (Wg (Lv ok 0 [(27, sl aD aB aE), (28, I aA)] 2 rfl rfl ?_)))))))))
  obtain ⟨aL, hi, cZ, H⟩ := H
  refine Li 2 rfl rfl rfl Try.underlying23 ti_22 rfl rfl bC.readf hi cZ fun eJ cs c0 d => (Lo 3 rfl rfl rfl ti_22 ag_22 rfl c0 d bD fun eK c1 => ?_)
  have c2 := c1.slice
  obtain ⟨eL, eM, rfl⟩ := c2.shape
  refine Lv ok 4 [(31, I (ln aL)), (32, I 0)] 6 rfl rfl (Ln _ rfl (W_block ?_))
  obtain ⟨J74, c3, Hx76, H⟩ := H
  refine W_loop (S := (List (List Int)) × Int) (fun s ρ' w' => J74 s.1 s.2 ∧ ∃ (ρ : Env) (aH : PH), ρ' = setAll [(2, sl aI aF aJ), (3, I fixed), (4, pb b), (9, I (ln t.Rows)), (10, I (ln t.Cols)), (11, sl aD aB aE), (12, I aA), (23, I (ln aB)), (24, I aA), (31, I (ln aL)), (32, I s.2)] ρ ∧ But aG bB w' ∧ OD aH (sl aD aB aE) s.1 ∧ Sub aH w' ∧ DomLe aG bB.heap.size aH ∧ CanV (sl aD aB aE) s.1) (fun s => c3 s.1 s.2) (out, 0) ⟨Hx76, _, aG, Ee ⟨rfl, rfl, rfl, rfl, rfl, rfl, rfl, rfl, rfl, rfl, rfl, trivial⟩, (Br _ _), bC, bD, (Oe (Or _) _), b2⟩ ?_
  rintro ⟨aZ, aC⟩ _ b3 ⟨Hi, ρ, aH, rfl, HF⟩
  revert HF
  refine bb5 fun X73 bE bF b4 bG => ?_
  have H := H aZ aC Hi
  refine Wq (Wg (Lv ok 0 [(33, .bool (decide (aC < (ln aL))))] 1 rfl rfl (Ln _ rfl (Wq ?_))))
  refine Wc (decide (aC < (ln aL))) rfl (fun bH => ?_) (fun bH => ?_)
  ·have H := H.1 bH
   refine Wk ?_
   have b5 := (xc.trans aK)
   have dj := (Df (ex.ext xc) aS).symm
   have b6 := (bU.ext xc)
   have b7 := (Df b6 aS).symm
   have b8 := (b1.ext xc)
   have b9 := (Df b8 aS).symm
   have cA := (aY.ext a9)
   have cB := (Df cA aS).symm
   obtain ⟨k, hk, H⟩ := jn_elim H
   refine W_join2 (S := (List (List Int))) (fun s ρ' w' => k s ∧ ∃ (ρ : Env) (aU : PH), ρ' = setAll [(2, sl aI aF aJ), (3, I fixed), (4, pb b), (9, I (ln t.Rows)), (10, I (ln t.Cols)), (11, sl aD aB aE), (12, I aA), (23, I (ln aB)), (24, I aA), (31, I (ln aL)), (32, I aC)] ρ ∧ But aH b3 w' ∧ OD aU (sl aD aB aE) s ∧ Sub aU w' ∧ DomLe aH b3.heap.size aU ∧ CanV (sl aD aB aE) s) ?_ ?_
   ·refine W_block (Wq (Wg (Lv ok 0 [(34, I aC), (13, I aC)] 2 rfl rfl (Ln _ rfl (Wq (Wg (Lv ok 0 [(35, I aA), (36, I (ln t.Cols)), (37, I (wr (aA * (ln t.Cols)))), (38, I aC), (39, I (wr ((wr (aA * (ln t.Cols))) + aC))), (40, I fixed), (41, .bool (decide ((wr ((wr (aA * (ln t.Cols))) + aC)) > fixed)))] 7 rfl rfl (Ln _ rfl ?_))))))))
    refine Wc (decide ((wr ((wr (aA * (ln t.Cols))) + aC)) > fixed)) rfl (fun bI => ?_) (fun bI => ?_)
    ·have H := H.1 bI
     refine W_open mix fun eN aV => ?_
     refine AP_game 23 [[], [], [0, 1], [0, 1, 2], [], [], [5], [], [5, 6, 7], [5, 6, 7, 8], [], [5, 6, 7, 8, 9, 10], [5, 6, 7, 8, 9, 10, 11], [], [], [13, 14], [13, 14, 15], [], [], [17, 18], [13, 14, 15, 16, 17, 18, 19], [13, 14, 15, 16, 17, 18, 19, 20], [5, 6, 7, 8, 9, 10, 11, 12, 13, 14, 15, 16, 17, 18, 19, 20, 21], [0, 1, 2, 3, 4, 5, 6, 7, 8, 9, 10, 11, 12, 13, 14, 15, 16, 17, 18, 19, 20, 21, 22], [0, 1, 2, 3, 4, 5, 6, 7, 8, 9, 10, 11, 12, 13, 14, 15, 16, 17, 18, 19, 20, 21, 22, 23]] [[(11, none)], [(12, none)], [(42, some 0), (43, some 1)], [(44, some 2)], [(13, none)], [(4, none)], [(47, some 5)], [(12, none)], [(48, some 6), (49, some 7)], [(50, some 8)], [(13, none)], [(51, some 9), (52, some 10)], [(53, some 11)], [(2, none)], [(12, none)], [(55, some 13), (56, some 14)], [(57, some 15)], [(9, none)], [(13, none)], [(59, some 17), (60, some 18)], [(58, some 16), (61, some 19)], [(62, some 20)], [(54, some 12), (63, some 21)]] [(2, none), (3, none), (4, none), (9, none), (10, none), (11, none), (12, none), (23, none), (24, none), (31, none), (32, none), (45, some 3), (46, some 4), (64, some 22)] [(0, false), (1, false), (2, false), (3, false), (4, false), (5, false), (6, false), (7, false), (8, false), (9, false), (10, false), (11, false), (12, false), (13, false), (14, false), (15, false), (16, false), (17, false), (18, false), (19, false), (20, false), (21, false), (22, false)] (by kernel_rfl) (by kernel_rfl) ?_
     refine GS_ev ok [(11, sl aD aB aE)] (sl aD aB aE) rfl rfl (fun _ h => h) (fun _ => rfl) ?_
     refine GS_ev ok [(12, I aA)] (I aA) rfl rfl (fun _ h => h) (fun _ => rfl) ?_
     obtain ⟨aM, c4, c5, H⟩ := H
     obtain ⟨cC, u, c6, rest, c7, c8, bw⟩ := run_indexb Try.underlying23 ti_22 bE _ c4 c5
     refine GS_r0 [(42, sl aD aB aE), (43, I aA)] (.pointer (some cC)) rfl rfl (fun _ h => h) (fun _ _ => ex_index rfl rfl rfl (c7 _)) ?_
     have cD := bw.od
     obtain ⟨a0, a1, rfl⟩ := cD.shape
     have bJ := (bF.ext aV)
     have c9 := Sub.le bJ bw.le
     have dA : OS 3 c6 emp (sl a0 aM a1) aM := OD.flat cD
     refine GS_r1 [(44, .pointer (some cC))] (sl a0 aM a1) rfl rfl (fun _ h => h) (fun _ w e => ex_ldcell rfl ti_22 ag_22 rfl c8 e) bJ ?_
     refine GS_ev ok [(13, I aC)] (I aC) rfl rfl (fun _ h => h) (fun _ => rfl) ?_
     refine GS_ev ok [(4, pb b)] (.pointer (some ⟨b, 3, none⟩)) rfl rfl (fun _ h => h) (fun _ => rfl) ?_
     refine GS_r1 [(47, .pointer (some ⟨b, 3, none⟩))] (sl aP t.Hi aQ) rfl rfl (fun _ h => h) (fun _ w e => ex_ldbox rfl ti_23 ag_23 (fun _ => rfl) rfl e rfl rfl) ((((aY.ext (a9.trans aK)).but X54 cB).but X73 (Mj aT cB (cA.ext aK))).ext aV) ?_
     refine GS_ev ok [(12, I aA)] (I aA) rfl rfl (fun _ h => h) (fun _ => rfl) ?_
     obtain ⟨bK, dB, dC, H⟩ := H
     obtain ⟨cE, eO, dD, dE, dF⟩ := run_indexAt Try.underlying23 ti_22 bT .i64 _ bK dB dC
     refine GS_r0 [(48, sl aP t.Hi aQ), (49, I aA)] (.pointer (some cE)) rfl rfl (fun _ h => h) (fun _ _ => ex_index rfl rfl rfl (dD _)) ?_
     obtain ⟨eP, dG, dH⟩ := run_loadAt ti_22 ag_22 dE dF
     have cF := dH.slice
     obtain ⟨cG, cH, rfl⟩ := cF.shape
     have cI := ((((bU.ext b5).but X54 b7).but X73 (Mj aT b7 (b6.ext aK))).ext aV)
     refine GS_r1 [(50, .pointer (some cE))] (sl cG bK cH) rfl rfl (fun _ h => h) (fun _ w e => ex_load rfl rfl (dG w e)) cI ?_
     refine GS_ev ok [(13, I aC)] (I aC) rfl rfl (fun _ h => h) (fun _ => rfl) ?_
     obtain ⟨aN, dI, dJ, H⟩ := H
     obtain ⟨cJ, eQ, dK, dL, dM⟩ := run_indexAt Try.underlying22 ti_3 cF .i64 _ aN dI dJ
     refine GS_r0 [(51, sl cG bK cH), (52, I aC)] (.pointer (some cJ)) rfl rfl (fun _ h => h) (fun _ _ => ex_index rfl rfl rfl (dK _)) ?_
     obtain ⟨eR, dN, dO⟩ := run_loadAt ti_3 ag_3 dL dM
     obtain rfl := dO.int
     refine GS_r1 [(53, .pointer (some cJ))] (I aN) rfl rfl (fun _ h => h) (fun _ w e => ex_load rfl rfl (dN w e)) cI ?_
     refine GS_ev ok [(2, sl aI aF aJ)] (sl aI aF aJ) rfl rfl (fun _ h => h) (fun _ => rfl) ?_
     refine GS_ev ok [(12, I aA)] (I aA) rfl rfl (fun _ h => h) (fun _ => rfl) ?_
     obtain ⟨bL, dP, dQ, H⟩ := H
     obtain ⟨cK, eS, dR, dS, dT⟩ := run_indexAt Try.underlying23 ti_22 b0 .i64 _ bL dP dQ
     refine GS_r0 [(55, sl aI aF aJ), (56, I aA)] (.pointer (some cK)) rfl rfl (fun _ h => h) (fun _ _ => ex_index rfl rfl rfl (dR _)) ?_
     obtain ⟨eT, dU, dV⟩ := run_loadAt ti_22 ag_22 dS dT
     have cL := dV.slice
     obtain ⟨cM, cN, rfl⟩ := cL.shape
     have cO := ((((b1.ext b5).but X54 b9).but X73 (Mj aT b9 (b8.ext aK))).ext aV)
     refine GS_r1 [(57, .pointer (some cK))] (sl cM bL cN) rfl rfl (fun _ h => h) (fun _ w e => ex_load rfl rfl (dU w e)) cO ?_
     refine GS_ev ok [(9, I (ln t.Rows))] (I (ln t.Rows)) rfl rfl (fun _ h => h) (fun _ => rfl) ?_
     refine GS_ev ok [(13, I aC)] (I aC) rfl rfl (fun _ h => h) (fun _ => rfl) ?_
     refine GS_ev ok [(59, I (ln t.Rows)), (60, I aC)] (I (wr ((ln t.Rows) + aC))) rfl rfl (fun _ h => h) (fun _ => rfl) ?_
     obtain ⟨aO, dW, dX, H⟩ := H
     obtain ⟨cP, eU, dY, dZ, d0⟩ := run_indexAt Try.underlying22 ti_3 cL .i64 _ aO dW dX
     refine GS_r0 [(58, sl cM bL cN), (61, I (wr ((ln t.Rows) + aC)))] (.pointer (some cP)) rfl rfl (fun _ h => h) (fun _ _ => ex_index rfl rfl rfl (dY _)) ?_
     obtain ⟨eV, d1, d2⟩ := run_loadAt ti_3 ag_3 dZ d0
     obtain rfl := d2.int
     refine GS_r1 [(62, .pointer (some cP))] (I aO) rfl rfl (fun _ h => h) (fun _ w e => ex_load rfl rfl (d1 w e)) cO ?_
     refine GS_ev ok [(54, I aN), (63, I aO)] (I (wr (aN - aO))) rfl rfl (fun _ h => h) (fun _ => rfl) ?_
     intro eW bM ρ hn
     refine AP_forget [(2, sl aI aF aJ), (3, I fixed), (4, pb b), (9, I (ln t.Rows)), (10, I (ln t.Cols)), (11, sl aD aB aE), (12, I aA), (23, I (ln aB)), (24, I aA), (31, I (ln aL)), (32, I aC), (45, sl a0 aM a1), (46, I aC), (64, I (wr (aN - aO)))] (by exact hn) fun ρ => ?_
     refine AP_tail 23 [[], [], [0, 1], [0, 1, 2], [], [], [5], [], [5, 6, 7], [5, 6, 7, 8], [], [5, 6, 7, 8, 9, 10], [5, 6, 7, 8, 9, 10, 11], [], [], [13, 14], [13, 14, 15], [], [], [17, 18], [13, 14, 15, 16, 17, 18, 19], [13, 14, 15, 16, 17, 18, 19, 20], [5, 6, 7, 8, 9, 10, 11, 12, 13, 14, 15, 16, 17, 18, 19, 20, 21], [0, 1, 2, 3, 4, 5, 6, 7, 8, 9, 10, 11, 12, 13, 14, 15, 16, 17, 18, 19, 20, 21, 22], [0, 1, 2, 3, 4, 5, 6, 7, 8, 9, 10, 11, 12, 13, 14, 15, 16, 17, 18, 19, 20, 21, 22, 23]] (by kernel_rfl) ?_
     obtain ⟨d3, hl, H⟩ := H
     refine LP_indexw (v := sl a0 aM a1) 23 rfl rfl rfl Try.underlying22 ti_3 rfl rfl dA d3 hl fun eX wa => (LP_set 24 rfl rfl rfl rfl rfl wa (Le.refl emp) ⟨_, rfl, rfl⟩ (c9.ext bM) fun d4 eY d5 d6 y dm => ?_)
     obtain ⟨eZ, d7, dd⟩ := BwL.turn bw (OS.od d5) (Dom.of dm)
     have d8 := BwL.sub bw (bJ.ext bM) d6 y
     have d9 := BwL.but bw y
     refine Ln _ rfl ?_
     have cQ := (aV.trans bM)
     exact ⟨List.set aZ (Int.toNat aA) (List.set aM (Int.toNat aC) (wr (aN - aO))), H, _, (un d4 rest), Ee ⟨rfl, rfl, rfl, rfl, rfl, rfl, rfl, rfl, rfl, rfl, rfl, trivial⟩, (((Br aH _).stepx cQ).step d9 (Oe (Or _) _)), d7, d8, (Mt (Oe (Or _) _) ((fun n => Oe dd n) _) cQ.size), (CanV.len (by simp) bG)⟩
    have H := H.2 bI
    exact Wk ⟨aZ, H, _, aH, Ee ⟨rfl, rfl, rfl, rfl, rfl, rfl, rfl, rfl, rfl, rfl, rfl, trivial⟩, (Br _ _), bE, bF, (Oe (Or _) _), bG⟩
   rintro eA _ e0 ⟨H, ρ, aU, rfl, HF⟩
   revert HF
   refine bb5 fun X126 eB eC eD eE => ?_
   subst hk
   refine Wg (Lv ok 0 [(66, I (wr (aC + 1))), (32, I (wr (aC + 1)))] 2 rfl rfl (Ln _ rfl ?_))
   have dl : DomLe aG bB.heap.size aH := (Mt (Oe (Or _) _) b4 (Nat.le_refl _))
   exact ⟨(eA, wr (aC + 1)), ⟨H.1, _, aU, Ee ⟨rfl, rfl, rfl, rfl, rfl, rfl, rfl, rfl, rfl, rfl, rfl, trivial⟩, (((Br aG _).step X73 (Oe (Or _) _)).step X126 dl), eB, eC, (Mt dl eD X73.size), eE⟩, H.2⟩
  have H := H.2 bH
  refine W_exit ?_
  refine (if_pos rfl).mpr ?_
  refine Wg (Lv ok 0 [(67, I (wr (aA + 1))), (24, I (wr (aA + 1)))] 2 rfl rfl (Ln _ rfl ?_))
  have cR : DomLe aR bA.heap.size aG := (Mt (Oe (Or _) _) aT (Nat.le_refl _))
  exact ⟨(aZ, wr (aA + 1)), ⟨H.1, _, aH, Ee ⟨rfl, rfl, rfl, rfl, rfl, rfl, rfl, rfl, trivial⟩, (((Br aR _).step X54 (Oe (Or _) _)).step X73 cR), bE, bF, (Mt cR b4 X54.size), bG⟩, H.2⟩
 have H := H.2 hc
 refine W_exit ?_
 refine (if_pos rfl).mpr ?_
 refine Wq (Wg (Lv ok 0 [(68, sl aD aB aE), (8, sl aD aB aE)] 2 rfl rfl (Ln _ rfl (W_ret ?_))))
 have X216 := (X.stepx xc)
 have cS := aS.mono X216.size
 have X218 := (X216.stepx aK)
 have eF := DomLe.fresh aT cS X218.size
 exact ⟨_, Ret_of [sl aD aB aE] ⟨⟨rfl, rfl⟩, trivial⟩, _, _, _, H, rfl, (X218.step X54 (cS.dom _)).ext, bC, bD, eF, b2⟩

end Go.Proofs.Ytommbnkecafodaa
