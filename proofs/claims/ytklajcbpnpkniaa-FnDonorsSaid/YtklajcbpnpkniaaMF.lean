/- What the functions of mended data and donors compute. -/
import Derived.Test.YtklajcbpnpkniaaME
set_option linter.unusedVariables false
set_option autoImplicit false
namespace Go.Proofs.Ytklajcbpnpkniaa
open Go Go.RowKit Go.Gv

/-- The cheapest change of values. -/
def cov (sx : List Variable) (l : List Edit) (w vs : List Int) : List Int × Int × Bool := ccv sx l w vs (2 ^ sx.length)
def mfound (sx : List Variable) (l : List Edit) (w : List Int) (r : Record) : Bool := !failsB l r.Values || (cov sx l w r.Values).2.2
def mvals (sx : List Variable) (l : List Edit) (w : List Int) (r : Record) : List Int := if failsB l r.Values then fc sx l r.Values (cov sx l w r.Values).1 else r.Values
def mrec (sx : List Variable) (l : List Edit) (w : List Int) (r : Record) : Record := ⟨r.Area, r.House, mvals sx l w r⟩
def mcost (sx : List Variable) (l : List Edit) (w : List Int) (r : Record) : Int := if failsB l r.Values then (cov sx l w r.Values).2.1 else 0
def mGuard (sx : List Variable) (l : List Edit) (w : List Int) (d : List Record) : Bool := (maxOk sx l && wOk sx w) && dOk sx d
def mOk (sx : List Variable) (l : List Edit) (w : List Int) (d : List Record) : Bool := mGuard sx l w d && d.all (mfound sx l w)
def mD (sx : List Variable) (l : List Edit) (w : List Int) (d : List Record) : List Record := if mOk sx l w d then d.map (mrec sx l w) else []
def mC (sx : List Variable) (l : List Edit) (w : List Int) (d : List Record) : List Int := if mOk sx l w d then d.map (mcost sx l w) else []
theorem w_of {sx : List Variable} {w : List Int} (h : wOk sx w = true) : w.length = sx.length ∧ ∀ x ∈ w, 1 ≤ x ∧ x ≤ 100 := by
  unfold wOk at h; simp only [Bool.and_eq_true, decide_eq_true_eq] at h
  exact ⟨h.1, inb_all h.2⟩
theorem fit_vok {sx : List Variable} {vs : List Int} (hL : Lok sx) (hf : fitOk sx vs = true) : Vok vs := fun x hx => by
  unfold fitOk at hf; simp only [Bool.and_eq_true, decide_eq_true_eq] at hf
  obtain ⟨i, hi, rfl⟩ := List.mem_iff_getElem.1 hx
  have h1 := inb_iff'.1 (range_all_at hf.2 (show i < sx.length by omega))
  rw [gi_at hi, vAt_at (by omega)] at h1
  have := lv_at hL (show i < sx.length by omega)
  omega
/-- What a cheapest change that was found is. -/
theorem cov_at {sx : List Variable} {l : List Edit} {w vs : List Int} (hL : Lok sx) (hw : w.length = sx.length ∧ ∀ x ∈ w, 1 ≤ x ∧ x ≤ 100) (g : (cov sx l w vs).2.2 = true) :
    compl sx l vs (cov sx l w vs).1 = true ∧ inV w (cov sx l w vs).1 ∧ costL w (cov sx l w vs).1 = (cov sx l w vs).2.1 ∧ (fc sx l vs (cov sx l w vs).1 ∈ pass sx l) ∧ wsm w (dif vs (fc sx l vs (cov sx l w vs).1)) sx.length = (cov sx l w vs).2.1 ∧ ∀ v ∈ (cov sx l w vs).1, 0 ≤ v ∧ v.toNat < sx.length := by
  unfold cov at g ⊢
  have hcc := ccv_fact (sx := sx) (l := l) (w := w) (vs := vs) (2 ^ sx.length)
  obtain ⟨k, hk, e1, e2, hc⟩ := hcc.1 g
  have hmin : ∀ m, m < 2 ^ sx.length → compl sx l vs (cI (bl m)) = true → costL w (cI (bl k)) ≤ costL w (cI (bl m)) := fun m hm hcm => by
    rw [← e2]; exact (hcc.2.1 m hm hcm).2
  have hf := fc_in hc
  rw [e1, e2]
  refine ⟨hc, inV_bl hw hk, rfl, hf.1, cost_eq hL hw hk hf.1 hf.2 hmin, fun v hv => ?_⟩
  unfold cI at hv
  obtain ⟨i, hi, rfl⟩ := List.mem_map.1 hv
  have := bl_lt hk hi
  omega
theorem cov_len {sx : List Variable} {l : List Edit} {w vs : List Int} : (cov sx l w vs).1.length ≤ 12 := ccv_len _
theorem iChanged_ok {w a b : List Int} {n : Nat} {Q : Int → Prop} (hw : w.length = n ∧ ∀ x ∈ w, 1 ≤ x ∧ x ≤ 100) (ha : a.length = n) (hb : b.length = n) (hn : n ≤ 6) (hq : Q (wsm w (dif a b) n)) : spec_iChanged w a b Q := by
  have hwi : ∀ i, i < n → 1 ≤ gi w i ∧ gi w i ≤ 100 := fun i hi => by rw [gi_at (by omega)]; exact hw.2 _ (List.getElem_mem _)
  unfold spec_iChanged
  refine loop2_list (by omega) (fun c i => c = wsm w (dif a b) i) rfl ?_ ?_
  · rintro _ i nx hi rfl hx
    have hbb := ws_le (w := w) (p := dif a b) (n := i) (fun j hj => by have := hwi j (by omega); omega)
    have hb0 := ws_nonneg (w := w) (p := dif a b) (n := i) (fun j hj => by have := hwi j (by omega); omega)
    have hwb := hwi i (by omega)
    refine jn_bool (wsm w (dif a b) (i + 1)) (hx _ rfl) fun k hk => idx_at hi (idx_at (by omega) ?_)
    rw [ws_succ] at hk
    have ed : dif a b i = (a[i] != b[i]'(by omega)) := by unfold dif; rw [gi_at hi, gi_at (show i < b.length by omega)]
    refine br_bo (fun g2 => idx_at (by omega) ?_) (fun g2 => ?_)
    · have e : gi w i = w[i]'(by omega) := gi_at (by omega)
      rw [ed, g2, if_pos rfl, e] at hk
      rw [e] at hwb
      rw [wr_in (by omega) (by omega)]; exact hk
    · rw [ed, g2, if_neg (by decide), Int.add_zero] at hk; exact hk
  · rintro _ rfl
    rw [ha]; exact hq
theorem changeCost_ok {w a b : List Int} {n : Nat} {Q : Int → Prop} (hw : w.length = n ∧ ∀ x ∈ w, 1 ≤ x ∧ x ≤ 100) (ha : a.length = n) (hb : b.length = n) (hn : n ≤ 6) (hq : Q (wsm w (dif a b) n)) : impl_changeCost w a b Q := iChanged_ok hw ha hb hn hq
theorem dif_comm {w a b : List Int} {n : Nat} : wsm w (dif a b) n = wsm w (dif b a) n := ws_congr fun i _ => bne_comm
theorem eFailed_b {l : List Edit} {vs : List Int} {A B : Prop} (hl : Eok vs.length l) (hv : Vok vs) (hl' : vs.length ≤ 1048576) (ht : failsB l vs = true → A) (hf : failsB l vs = false → B) : spec_eFailed l vs fun o => br (decide ((ln o) > 0)) A B :=
  eFailed_ok hl hv hl' fun o ho => br_dec (fun g => ht (by
    cases e : failsB l vs with
    | true => rfl
    | false => have := ho.2 e; unfold ln at g; omega)) (fun g => hf (ho.1 (by unfold ln at g; omega)))
/-! ### mended data -/
theorem fill_set {α β : Type} {f : α → β} {d : List α} {rest : List β} {i : Nat} (hi : i < d.length) (hr : rest.length = d.length) : ((d.take i).map f ++ rest.drop i).set i (f d[i]) = (d.take (i + 1)).map f ++ rest.drop (i + 1) := by
  rw [List.set_append_right _ _ (by rw [List.length_map, List.length_take]; omega), List.length_map, List.length_take, show i - min i d.length = 0 by omega, List.drop_eq_getElem_cons (show i < rest.length by omega), List.set_cons_zero, List.take_succ_eq_append_getElem hi, List.map_append, List.append_assoc]
  rfl
theorem fill_keep {α β : Type} {f : α → β} {d : List α} {rest : List β} {i : Nat} (hi : i < d.length) (hr : rest.length = d.length) (h : rest[i]'(by omega) = f d[i]) : (d.take i).map f ++ rest.drop i = (d.take (i + 1)).map f ++ rest.drop (i + 1) := by
  rw [List.drop_eq_getElem_cons (show i < rest.length by omega), List.take_succ_eq_append_getElem hi, List.map_append, List.append_assoc, h]
  rfl
theorem fill_len {α β : Type} {f : α → β} {d : List α} {rest : List β} {i : Nat} (hi : i ≤ d.length) (hr : rest.length = d.length) : ((d.take i).map f ++ rest.drop i).length = d.length := by
  rw [List.length_append, List.length_map, List.length_take, List.length_drop]; omega
theorem fill_at {α : Type} {f : α → α} {d : List α} {i : Nat} (hi : i < d.length) (h : i < ((d.take i).map f ++ d.drop i).length) : ((d.take i).map f ++ d.drop i)[i] = d[i] := by
  rw [List.getElem_append_right (by rw [List.length_map, List.length_take]; omega)]
  simp only [List.length_map, List.length_take, List.getElem_drop]
  congr 1; omega
theorem copyRecords_ok {d : List Record} {Q : List Record → Prop} (hd : d.length ≤ 1048576) (hv : ∀ r ∈ d, r.Values.length ≤ 1048576) (hq : Q d) : impl_copyRecords d Q := by
  unfold impl_copyRecords
  refine ⟨by unfold ln; omega, by unfold ln; omega, ?_⟩
  have e : (ln d).toNat = d.length := by unfold ln; omega
  rw [e]
  refine loop2_list (by omega) (fun c i => c = (d.take i).map id ++ (List.replicate d.length ((Record.mk ((0 : Int)) ((0 : Int)) (([] : List Int))))).drop i) (by simp) ?_ ?_
  · rintro _ i nx hi rfl hx
    refine idx_at hi ?_
    unfold impl_copyRecord
    refine Clone_ok (hv _ (List.getElem_mem hi)) ⟨by omega, ?_, hx _ ?_⟩
    · rw [fill_len (by omega) (by simp)]; omega
    · exact fill_set (f := id) hi (by simp)
  · rintro _ rfl
    have e2 : (d.take d.length).map id ++ (List.replicate d.length ((Record.mk ((0 : Int)) ((0 : Int)) (([] : List Int))))).drop d.length = d := by simp
    rw [e2]; exact hq
theorem mG_of {sx : List Variable} {l : List Edit} {w : List Int} {d : List Record} (g : mGuard sx l w d = true) : maxOk sx l = true ∧ wOk sx w = true ∧ d.length ≤ 40 ∧ ∀ r ∈ d, recOk sx r = true := by
  unfold mGuard dOk at g
  simp only [Bool.and_eq_true, decide_eq_true_eq] at g
  exact ⟨g.1.1, g.1.2, g.2.1, fun r hr => List.all_eq_true.1 g.2.2 r hr⟩
theorem len1_max {sx : List Variable} {l : List Edit} (g : maxOk sx l = true) : 1 ≤ sx.length := by
  unfold maxOk at g
  simp only [Bool.and_eq_true] at g
  exact (smOk_of g.1).2.2
theorem rec_fit {sx : List Variable} {r : Record} (h : recOk sx r = true) : fitOk sx r.Values = true := by
  unfold recOk at h
  simp only [Bool.and_eq_true] at h
  exact h.2
theorem mOk_no {sx : List Variable} {l : List Edit} {w : List Int} {d : List Record} {i : Nat} (hi : i < d.length) (h : mfound sx l w d[i] = false) : mOk sx l w d = false := by
  unfold mOk; rw [lall_no hi h, Bool.and_false]
theorem iMD_ok {sx : List Variable} {l : List Edit} {w : List Int} {d : List Record} {Q : List Record → List Int → Bool → Prop} (hW : Wide sx l) (hww : w.length ≤ 1048576) (hd : d.length ≤ 1048576) (hv : ∀ r ∈ d, r.Values.length ≤ 1048576)
    (hq : Q (mD sx l w d) (mC sx l w d) (mOk sx l w d)) : impl_MendData sx l w d Q := by
  unfold impl_MendData impl_cheapestChange
  refine jn_bool (!mGuard sx l w d) ?_ fun k hk => isMendable_ok hW hww (br_nb (fun g => ?_) (fun g => isData_ok (by simp only [Bool.and_eq_true] at g; exact (maxOk_of g.1).1) ?_))
  · refine br_nb (fun g => ?_) (fun g => ?_)
    · unfold mD mC mOk at hq; rw [g] at hq; exact hq
    · have ⟨gm, gw, h40, hrec⟩ := mG_of g
      have ⟨hL, _, he⟩ := maxOk_of gm
      have hw := w_of gw
      have h6 := hL.1
      have h1 := len1_max gm
      refine copyRecords_ok hd hv ⟨by unfold ln; omega, by unfold ln; omega, ?_⟩
      have e : (ln d).toNat = d.length := by unfold ln; omega
      rw [e]
      refine loop3_list (by omega) (fun m c i => (d.take i).all (mfound sx l w) = true ∧ m = (d.take i).map (mrec sx l w) ++ d.drop i ∧ c = (d.take i).map (mcost sx l w) ++ (List.replicate d.length (0 : Int)).drop i) ⟨by simp, by simp, by simp⟩ ?_ ?_
      · rintro _ _ i nx hi ⟨hj, rfl, rfl⟩ hx
        have hr := hrec _ (List.getElem_mem hi)
        have hfit := rec_fit hr
        have hvl := fit_len hfit
        have hvo := fit_vok hL hfit
        refine jn_ok (fun k => mfound sx l w d[i] = true → k ((d.take (i + 1)).map (mrec sx l w) ++ d.drop (i + 1)) ((d.take (i + 1)).map (mcost sx l w) ++ (List.replicate d.length (0 : Int)).drop (i + 1))) (fun hm => hx _ _ ⟨lall_succ hi hj hm, rfl, rfl⟩) fun k hk => idx_at hi (failsOne_ok (by rw [hvl]; exact he) hvo (by omega) (br_nb (fun g1 => ?_) (fun g1 => ?_)))
        · have em : mfound sx l w d[i] = true := by unfold mfound; rw [g1]; rfl
          have er : mrec sx l w d[i] = d[i] := by unfold mrec mvals; rw [g1]; rfl
          have ec : mcost sx l w d[i] = 0 := by unfold mcost; rw [g1]; rfl
          have hk := hk em
          rw [← fill_keep hi rfl er.symm, ← fill_keep (f := mcost sx l w) hi (by simp) (by rw [ec]; simp)] at hk
          exact hk
        · refine leastCheap_ok hL h1 he hvl hw (br_nb (fun g2 => ?_) (fun g2 => ?_))
          · have hm : mfound sx l w d[i] = false := by unfold mfound cov; rw [g1, g2]; rfl
            have := mOk_no hi hm
            unfold mD mC at hq; rw [this] at hq; exact hq
          · have g2' : (cov sx l w d[i].Values).2.2 = true := g2
            have ⟨c1, c2, c3, c4, c5, c6⟩ := cov_at hL hw g2'
            have hcl := cov_len (sx := sx) (l := l) (w := w) (vs := d[i].Values)
            have em : mfound sx l w d[i] = true := by unfold mfound; rw [g2', Bool.or_true]
            have hk := hk em
            refine otherVars_ok (by omega) (by unfold cov at hcl; omega) (completionOf_eq hL h1 he hvl ?_)
            refine idx_at (by rw [fill_len (by omega) rfl]; omega) (weightOf_ok c2 ⟨by omega, by rw [fill_len (by omega) (by simp)]; omega, ?_⟩)
            rw [fill_at hi]
            have er : ({d[i] with Values := fc sx l d[i].Values (ccv sx l w d[i].Values (2 ^ sx.length)).1} : Record) = mrec sx l w d[i] := by unfold mrec mvals cov; rw [g1, if_pos rfl]
            have ec : costL w (ccv sx l w d[i].Values (2 ^ sx.length)).1 = mcost sx l w d[i] := by
              unfold mcost; rw [g1, if_pos rfl]; exact c3
            rw [er, ec, Int.toNat_natCast, fill_set hi rfl, fill_set hi (by simp)]
            exact hk
      · rintro _ _ ⟨hj, rfl, rfl⟩
        rw [List.take_length] at hj
        have : mOk sx l w d = true := by unfold mOk; rw [g, hj]; rfl
        unfold mD mC at hq; rw [this, if_pos rfl, if_pos rfl] at hq
        have e1 : (d.take d.length).map (mrec sx l w) ++ d.drop d.length = d.map (mrec sx l w) := by simp
        have e2 : (d.take d.length).map (mcost sx l w) ++ (List.replicate d.length (0 : Int)).drop d.length = d.map (mcost sx l w) := by simp
        rw [e1, e2]; exact hq
  · unfold mGuard at hk; rw [g] at hk; exact hk
  · unfold mGuard at hk; rw [g, Bool.true_and] at hk; exact hk
theorem sMD_ok {sx : List Variable} {l : List Edit} {w : List Int} {d : List Record} {Q : List Record → List Int → Bool → Prop} (hW : Wide sx l) (hww : w.length ≤ 1048576) (hd : d.length ≤ 1048576) (hv : ∀ r ∈ d, r.Values.length ≤ 1048576)
    (hq : Q (mD sx l w d) (mC sx l w d) (mOk sx l w d)) : spec_MendData sx l w d Q := by
  unfold spec_MendData
  refine jn_bool (!mGuard sx l w d) ?_ fun k hk => eSmall_ok hW.1.1 hW.1.2 hW.2.1 hW.2.2 (br_nb (fun g => ?_) (fun g => iWeights_ok hww (br_nb (fun g1 => ?_) (fun g1 => dGood_ok (maxOk_of g).1 hd ?_))))
  · refine br_nb (fun g => ?_) (fun g => ?_)
    · unfold mD mC mOk at hq; rw [g] at hq; exact hq
    · have ⟨gm, gw, h40, hrec⟩ := mG_of g
      have ⟨hL, _, he⟩ := maxOk_of gm
      have hw := w_of gw
      have h6 := hL.1
      refine loop3_list (by omega) (fun m c i => (d.take i).all (mfound sx l w) = true ∧ m = (d.take i).map (mrec sx l w) ∧ c = (d.take i).map (mcost sx l w)) ⟨by simp, by simp, by simp⟩ ?_ ?_
      · rintro _ _ i nx hi ⟨hj, rfl, rfl⟩ hx
        have hr := hrec _ (List.getElem_mem hi)
        have hfit := rec_fit hr
        have hvl := fit_len hfit
        have hvo := fit_vok hL hfit
        refine idx_at hi ?_
        unfold spec_rOwn
        refine l1Own_ok (hv _ (List.getElem_mem hi)) ?_
        refine jn_ok (fun k => mfound sx l w d[i] = true → k (mcost sx l w d[i]) (mvals sx l w d[i])) (fun hm => ⟨by unfold ln; simp only [List.length_map, List.length_take, List.length_singleton]; omega, by unfold ln; simp only [List.length_map, List.length_take, List.length_singleton]; omega, hx _ _ ⟨lall_succ hi hj hm, ?_, ?_⟩⟩) fun k hk => eFailed_b (by rw [hvl]; exact he) hvo (by omega) (fun g1 => ?_) (fun g1 => ?_)
        · rw [List.take_succ_eq_append_getElem hi, List.map_append]; rfl
        · rw [List.take_succ_eq_append_getElem hi, List.map_append]; rfl
        · unfold spec_iMend
          refine iCheapest_ok hL he hvl hw (br_nb (fun g2 => ?_) (fun g2 => ?_))
          · have hm : mfound sx l w d[i] = false := by unfold mfound cov; rw [g1, g2]; rfl
            have := mOk_no hi hm
            unfold mD mC at hq; rw [this] at hq; exact br_true rfl hq
          · have g2' : (cov sx l w d[i].Values).2.2 = true := g2
            have ⟨c1, c2, c3, c4, c5, c6⟩ := cov_at hL hw g2'
            have hcl := cov_len (sx := sx) (l := l) (w := w) (vs := d[i].Values)
            have em : mfound sx l w d[i] = true := by unfold mfound; rw [g2', Bool.or_true]
            have hk := hk em
            have hfl := (pass_in hL c4).2.2.1
            refine iOthers_ok (by omega) (by unfold cov at hcl; omega) (eComplete_eq hL he hvl ?_)
            have c1' : compl sx l d[i].Values (ccv sx l w d[i].Values (2 ^ sx.length)).1 = true := c1
            rw [c1']
            refine br_false rfl (iChanged_ok hw hfl hvl h6 ?_)
            unfold mcost mvals at hk
            rw [g1, if_pos rfl, if_pos rfl, ← c5, dif_comm] at hk
            exact hk
        · have em : mfound sx l w d[i] = true := by unfold mfound; rw [g1]; rfl
          have hk := hk em
          unfold mcost mvals at hk
          rw [g1] at hk; exact hk
      · rintro _ _ ⟨hj, rfl, rfl⟩
        rw [List.take_length] at hj
        have : mOk sx l w d = true := by unfold mOk; rw [g, hj]; rfl
        unfold mD mC at hq; rw [this, if_pos rfl, if_pos rfl] at hq
        rw [List.take_length]; exact hq
  · have : mGuard sx l w d = false := by unfold mGuard maxOk; rw [g]; rfl
    rw [this] at hk; exact hk
  · have : mGuard sx l w d = false := by unfold mGuard; rw [g1, Bool.and_false]; rfl
    rw [this] at hk; exact hk
  · have : mGuard sx l w d = dOk sx d := by unfold mGuard; rw [show maxOk sx l = true from g, g1]; rfl
    rw [this] at hk; exact hk
end Go.Proofs.Ytklajcbpnpkniaa
