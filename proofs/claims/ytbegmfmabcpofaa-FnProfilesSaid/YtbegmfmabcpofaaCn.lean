/- Plain facts about counts, shares and the operations on fractions. -/
import Derived.Test.YtbegmfmabcpofaaFr
set_option linter.unusedVariables false
set_option autoImplicit false
namespace Go.Proofs.Ytbegmfmabcpofaa
open Go Go.RowKit Go.Gv

/-! ### sums of counts -/
theorem tSum_ok {l : List Int} {Q : Int → Prop} (hl : l.length ≤ 100) (hx : ∀ x ∈ l, 0 ≤ x ∧ x ≤ 1000000) (h : Q l.sum) : spec_tSum l Q := by
  unfold spec_tSum
  refine loop2_list (by omega) (fun s i => s = (l.take i).sum) (by simp) (fun s i nx hi hs hn => idx_at hi ?_) (fun s hs => ?_)
  · have h1 := sum_small hl hx i
    have h2 := hx _ (List.getElem_mem hi)
    rw [hs, wr_in (by omega) (by omega), ← sum_take_succ hi]
    exact hn _ rfl
  · rw [List.take_length] at hs; rw [hs]; exact h
theorem total_ok {l : List Int} {Q : Int → Prop} (hl : l.length ≤ 100) (hx : ∀ x ∈ l, 0 ≤ x ∧ x ≤ 1000000) (h : Q l.sum) : impl_total l Q := by
  unfold impl_total
  refine loop2_list (by omega) (fun s i => s = (l.take i).sum) (by simp) (fun s i nx hi hs hn => idx_at hi ?_) (fun s hs => ?_)
  · have h1 := sum_small hl hx i
    have h2 := hx _ (List.getElem_mem hi)
    rw [hs, wr_in (by omega) (by omega), ← sum_take_succ hi]
    exact hn _ rfl
  · rw [List.take_length] at hs; rw [hs]; exact h
def cntIn (l : List Int) : Bool := decide (1 ≤ l.length ∧ l.length ≤ 100) && (l.all (inb 0 1000000) && decide (l.sum > 0))
theorem cntIn_of {l : List Int} (h : cntIn l = true) : 1 ≤ l.length ∧ l.length ≤ 100 ∧ (∀ x ∈ l, 0 ≤ x ∧ x ≤ 1000000) ∧ 0 < l.sum ∧ l.sum ≤ 100000000 := by
  unfold cntIn at h
  simp only [Bool.and_eq_true, decide_eq_true_eq] at h
  have hx := inb_all h.2.1
  have := sum_small h.1.2 hx l.length
  rw [List.take_length] at this
  exact ⟨h.1.1, h.1.2, hx, h.2.2, this.2⟩
theorem oCounts_ok {l : List Int} {Q : Bool → Prop} (hl : l.length ≤ 1048576) (h : Q (cntIn l)) : spec_oCounts l Q := by
  unfold spec_oCounts
  refine jn_bool _ h fun k hk => l1In_ok (br_bo (fun g => l1All_ok hl (br_bo (fun g2 => ?_) (fun g2 => ?_))) (fun g => ?_))
  · have g : 1 ≤ l.length ∧ l.length ≤ 100 := by have := inb_iff'.1 g; unfold ln at this; omega
    refine tSum_ok g.2 (inb_all g2) ?_
    unfold cntIn at hk; rw [decide_eq_true g, g2] at hk; exact hk
  · unfold cntIn at hk; rw [g2] at hk; simpa using hk
  · have g : ¬ (1 ≤ l.length ∧ l.length ≤ 100) := by
      have := (Bool.eq_false_iff.1 g); intro c; exact this (inb_iff'.2 (by unfold ln; omega))
    unfold cntIn at hk; rw [decide_eq_false g] at hk; exact hk
theorem areCounts_ok {l : List Int} {Q : Bool → Prop} (hl : l.length ≤ 1048576) (h : Q (cntIn l)) : impl_areCounts l Q := by
  unfold impl_areCounts
  refine jn_bool _ h fun k hk => br_dec (fun g => br_dec (fun g1 => areWithin_ok hl (br_bo (fun g2 => ?_) (fun g2 => ?_))) (fun g1 => ?_)) (fun g => ?_)
  · have g : 1 ≤ l.length ∧ l.length ≤ 100 := by unfold ln at g g1; omega
    refine total_ok g.2 (inb_all g2) ?_
    unfold cntIn at hk; rw [decide_eq_true g, g2] at hk; exact hk
  · unfold cntIn at hk; rw [g2] at hk; simpa using hk
  · unfold cntIn at hk; rw [decide_eq_false (show ¬ (1 ≤ l.length ∧ l.length ≤ 100) by unfold ln at g g1; omega)] at hk; exact hk
  · unfold cntIn at hk; rw [decide_eq_false (show ¬ (1 ≤ l.length ∧ l.length ≤ 100) by unfold ln at g; omega)] at hk; exact hk

/-! ### valid fractions -/
def fOk (f : Frac) : Prop := (1 ≤ f.Den ∧ f.Den ≤ 1000000000) ∧ (-1000000000 ≤ f.Num ∧ f.Num ≤ 1000000000) ∧ Int.gcd f.Num f.Den = 1
instance (f : Frac) : Decidable (fOk f) := by unfold fOk; infer_instance
theorem fOk_of {n d : Int} (hd : d ≠ 0) (h : frIn n d = true) : fOk (frOf n d) := by
  have hi := of_decide_eq_true h
  have hge := frDen_ge (n := n) hd
  have hc : Int.gcd (frNum n d) (frDen n d) = 1 := by
    have := coprime (n := n) hd
    unfold frNum
    by_cases c : d < 0
    · rw [if_pos c, frDen_neg c, Int.gcd_neg, Int.neg_gcd]; exact this
    · rw [if_neg c, frDen_pos (by omega)]; exact this
  unfold frOf; rw [h]
  exact ⟨⟨hge, hi.2.2⟩, ⟨hi.1, hi.2.1⟩, hc⟩
theorem isFrac_ok {f : Frac} {Q : Bool → Prop} (h : Q (decide (fOk f))) : impl_IsFrac f Q := by
  unfold impl_IsFrac
  refine jn_bool _ h fun k hk => br_dec (fun g => br_dec (fun g1 => br_dec (fun g2 => br_dec (fun g3 => gcdOf_ok (by unfold sml; omega) (by unfold sml; omega) ?_) (fun g3 => ?_)) (fun g2 => ?_)) (fun g1 => ?_)) (fun g => ?_)
  · rw [show (((Int.gcd f.Num f.Den : Nat) : Int) == 1) = decide (fOk f) from by
      rw [Bool.eq_iff_iff, decide_eq_true_iff, beq_iff_eq]; unfold fOk
      exact ⟨fun e => ⟨by omega, by omega, by omega⟩, fun e => by have := e.2.2; omega⟩]; exact hk
  all_goals rw [show decide (fOk f) = false from decide_eq_false (by unfold fOk; omega)] at hk; exact hk
theorem isFrac_yes {f : Frac} {Q : Bool → Prop} (hf : fOk f) (h : Q true) : impl_IsFrac f Q := isFrac_ok (by rw [decide_eq_true hf]; exact h)
theorem fGood_ok' {f : Frac} {Q : Bool → Prop} (h : Q (decide (fOk f))) : spec_fGood f Q := by
  refine fGood_ok ?_
  rw [show (inb 1 1000000000 f.Den && (inb (-1000000000) 1000000000 f.Num && (Int.gcd f.Num f.Den == 1))) = decide (fOk f) from by
    rw [Bool.eq_iff_iff, decide_eq_true_iff]; unfold fOk; simp [inb]]; exact h
theorem mul_le9 {a b : Int} (ha : -1000000000 ≤ a ∧ a ≤ 1000000000) (hb : -1000000000 ≤ b ∧ b ≤ 1000000000) : -1000000000000000000 ≤ a * b ∧ a * b ≤ 1000000000000000000 := by
  have h : (a * b).natAbs ≤ 1000000000 * 1000000000 := by
    rw [Int.natAbs_mul]; exact Nat.mul_le_mul (by omega) (by omega)
  omega
theorem den_pos {a b : Frac} (ha : fOk a) (hb : fOk b) : 0 < a.Den * b.Den := Int.mul_pos (by have := ha.1; omega) (by have := hb.1; omega)
section
variable {a b : Frac} {Q : Frac → Bool → Prop} (ha : fOk a) (hb : fOk b)
include ha hb
theorem nums : (-1000000000000000000 ≤ a.Num * b.Den ∧ a.Num * b.Den ≤ 1000000000000000000) ∧ (-1000000000000000000 ≤ b.Num * a.Den ∧ b.Num * a.Den ≤ 1000000000000000000) ∧ (0 < a.Den * b.Den ∧ a.Den * b.Den ≤ 1000000000000000000) ∧
    (-1000000000000000000 ≤ a.Num * b.Num ∧ a.Num * b.Num ≤ 1000000000000000000) ∧ (-1000000000000000000 ≤ a.Den * b.Num ∧ a.Den * b.Num ≤ 1000000000000000000) := by
  have d := den_pos ha hb
  obtain ⟨a1, a2, _⟩ := ha
  obtain ⟨b1, b2, _⟩ := hb
  exact ⟨mul_le9 a2 (by omega), mul_le9 b2 (by omega), ⟨d, (mul_le9 (a := a.Den) (b := b.Den) (by omega) (by omega)).2⟩, mul_le9 a2 b2, mul_le9 (by omega) b2⟩
theorem fAdd_ok (h : Q (frOf (a.Num * b.Den + b.Num * a.Den) (a.Den * b.Den)) (frIn (a.Num * b.Den + b.Num * a.Den) (a.Den * b.Den))) : spec_fAdd a b Q := by
  obtain ⟨n1, n2, n3, n4, n5⟩ := nums ha hb
  unfold spec_fAdd
  rw [wr_in (x := a.Num * b.Den) (by omega) (by omega), wr_in (x := b.Num * a.Den) (by omega) (by omega), wr_in (x := a.Den * b.Den) (by omega) (by omega), wr_in (x := _ + _) (by omega) (by omega)]
  refine fMake_ok (by unfold sml; omega) (by unfold sml; omega) ?_
  rw [if_neg (by omega), if_neg (by omega)]; exact h
theorem fSub_ok (h : Q (frOf (a.Num * b.Den - b.Num * a.Den) (a.Den * b.Den)) (frIn (a.Num * b.Den - b.Num * a.Den) (a.Den * b.Den))) : spec_fSub a b Q := by
  obtain ⟨n1, n2, n3, n4, n5⟩ := nums ha hb
  unfold spec_fSub
  rw [wr_in (x := a.Num * b.Den) (by omega) (by omega), wr_in (x := b.Num * a.Den) (by omega) (by omega), wr_in (x := a.Den * b.Den) (by omega) (by omega), wr_in (x := _ - _) (by omega) (by omega)]
  refine fMake_ok (by unfold sml; omega) (by unfold sml; omega) ?_
  rw [if_neg (by omega), if_neg (by omega)]; exact h
theorem fMul_ok (h : Q (frOf (a.Num * b.Num) (a.Den * b.Den)) (frIn (a.Num * b.Num) (a.Den * b.Den))) : spec_fMul a b Q := by
  obtain ⟨n1, n2, n3, n4, n5⟩ := nums ha hb
  unfold spec_fMul
  rw [wr_in (x := a.Num * b.Num) (by omega) (by omega), wr_in (x := a.Den * b.Den) (by omega) (by omega)]
  refine fMake_ok (by unfold sml; omega) (by unfold sml; omega) ?_
  rw [if_neg (by omega), if_neg (by omega)]; exact h
def dvIn (a b : Frac) : Bool := if b.Num = 0 then false else frIn (a.Num * b.Den) (a.Den * b.Num)
def dvOf (a b : Frac) : Frac := if b.Num = 0 then ⟨0, 0⟩ else frOf (a.Num * b.Den) (a.Den * b.Num)
theorem fDiv_ok (h : Q (dvOf a b) (dvIn a b)) : spec_fDiv a b Q := by
  obtain ⟨n1, n2, n3, n4, n5⟩ := nums ha hb
  unfold spec_fDiv
  unfold dvOf dvIn at h
  refine br_eq (fun g => ?_) (fun g => ?_)
  · rw [if_pos g, if_pos g] at h; exact h
  · rw [if_neg g, if_neg g] at h
    have hne : a.Den * b.Num ≠ 0 := Int.mul_ne_zero (by have := ha.1; omega) g
    rw [wr_in (x := a.Num * b.Den) (by omega) (by omega), wr_in (x := a.Den * b.Num) (by omega) (by omega)]
    refine fMake_ok (by unfold sml; omega) (by unfold sml; omega) ?_
    rw [if_neg hne, if_neg hne]; exact h
theorem addFrac_ok (h : Q (frOf (a.Num * b.Den + b.Num * a.Den) (a.Den * b.Den)) (frIn (a.Num * b.Den + b.Num * a.Den) (a.Den * b.Den))) : impl_AddFrac a b Q := by
  obtain ⟨n1, n2, n3, n4, n5⟩ := nums ha hb
  unfold impl_AddFrac
  refine jn_bool false (br_false rfl ?_) fun k hk => isFrac_yes ha (br_false rfl (isFrac_yes hb hk))
  rw [wr_in (x := a.Num * b.Den) (by omega) (by omega), wr_in (x := b.Num * a.Den) (by omega) (by omega), wr_in (x := a.Den * b.Den) (by omega) (by omega), wr_in (x := _ + _) (by omega) (by omega)]
  exact reduced_ok (by unfold sml; omega) (by unfold sml; omega) (by omega) h
theorem subFrac_ok (h : Q (frOf (a.Num * b.Den - b.Num * a.Den) (a.Den * b.Den)) (frIn (a.Num * b.Den - b.Num * a.Den) (a.Den * b.Den))) : impl_SubFrac a b Q := by
  obtain ⟨n1, n2, n3, n4, n5⟩ := nums ha hb
  unfold impl_SubFrac
  refine jn_bool false (br_false rfl ?_) fun k hk => isFrac_yes ha (br_false rfl (isFrac_yes hb hk))
  rw [wr_in (x := a.Num * b.Den) (by omega) (by omega), wr_in (x := b.Num * a.Den) (by omega) (by omega), wr_in (x := a.Den * b.Den) (by omega) (by omega), wr_in (x := _ - _) (by omega) (by omega)]
  exact reduced_ok (by unfold sml; omega) (by unfold sml; omega) (by omega) h
theorem mulFrac_ok (h : Q (frOf (a.Num * b.Num) (a.Den * b.Den)) (frIn (a.Num * b.Num) (a.Den * b.Den))) : impl_MulFrac a b Q := by
  obtain ⟨n1, n2, n3, n4, n5⟩ := nums ha hb
  unfold impl_MulFrac
  refine jn_bool false (br_false rfl ?_) fun k hk => isFrac_yes ha (br_false rfl (isFrac_yes hb hk))
  rw [wr_in (x := a.Num * b.Num) (by omega) (by omega), wr_in (x := a.Den * b.Den) (by omega) (by omega)]
  exact reduced_ok (by unfold sml; omega) (by unfold sml; omega) (by omega) h
theorem divFrac_ok (h : Q (dvOf a b) (dvIn a b)) : impl_DivFrac a b Q := by
  obtain ⟨n1, n2, n3, n4, n5⟩ := nums ha hb
  unfold impl_DivFrac
  unfold dvOf dvIn at h
  refine jn_bool (b.Num == 0) (br_eq (fun g => ?_) (fun g => ?_)) fun k hk => isFrac_yes ha (br_false rfl (isFrac_yes hb (br_false rfl hk)))
  · rw [if_pos g, if_pos g] at h; exact h
  · rw [if_neg g, if_neg g] at h
    have hne : a.Den * b.Num ≠ 0 := Int.mul_ne_zero (by have := ha.1; omega) g
    rw [wr_in (x := a.Num * b.Den) (by omega) (by omega), wr_in (x := a.Den * b.Num) (by omega) (by omega)]
    exact reduced_ok (by unfold sml; omega) (by unfold sml; omega) hne h
end

/-! ### shares -/
def sh (l : List Int) : List Frac := l.map fun v => frOf v l.sum
theorem share_in {v s : Int} (hv : 0 ≤ v ∧ v ≤ 1000000) (hs : 0 < s ∧ s ≤ 100000000) : frIn v s = true := by
  have hg := gcd_pos' (n := v) (show s ≠ 0 by omega)
  have b1 := tdiv_abs_le (n := v) hg
  have b2 := tdiv_abs_le (n := s) hg
  have h2 := frDen_pos (n := v) (show 0 < s by omega)
  refine decide_eq_true ?_
  unfold frNum; rw [if_neg (by omega), h2]
  omega
theorem share_ok {v s : Int} (hv : 0 ≤ v ∧ v ≤ 1000000) (hs : 0 < s ∧ s ≤ 100000000) : fOk (frOf v s) := fOk_of (by omega) (share_in hv hs)
theorem sh_ok {l : List Int} (h : cntIn l = true) : ∀ f ∈ sh l, fOk f := fun f hf => by
  obtain ⟨v, hv, rfl⟩ := List.mem_map.1 hf
  have := cntIn_of h
  exact share_ok (this.2.2.1 v hv) (by omega)
theorem oShares_ok {l : List Int} {Q : List Frac → Bool → Prop} (hc : cntIn l = true) (h : Q (sh l) true) : spec_oShares l Q := by
  obtain ⟨h0, h1, hx, hs⟩ := cntIn_of hc
  unfold spec_oShares
  refine loop2_list (by omega) (fun out i => out = (l.take i).map (fun v => frOf v l.sum)) (by simp) (fun out i nx hi ho hn => idx_at hi (tSum_ok h1 hx ?_)) (fun out ho => ?_)
  · have hv := hx _ (List.getElem_mem hi)
    refine fMake_ok (by unfold sml; omega) (by unfold sml; omega) ?_
    rw [if_neg (by omega), if_neg (by omega), share_in hv hs]
    have hlo : out.length ≤ 100 := by rw [ho]; simp; omega
    refine br_false rfl ⟨by unfold ln; simp; omega, hn _ ?_⟩
    rw [ho, List.take_succ_eq_append_getElem hi, List.map_append]; rfl
  · rw [List.take_length] at ho; rw [ho]; exact h
theorem sharesOf_ok {l : List Int} {Q : List Frac → Bool → Prop} (hc : cntIn l = true) (h : Q (sh l) true) : impl_sharesOf l Q := by
  obtain ⟨h0, h1, hx, hs⟩ := cntIn_of hc
  unfold impl_sharesOf
  refine total_ok h1 hx (br_false (by simp; omega) ⟨by unfold ln; omega, by unfold ln; omega, ?_⟩)
  have hlen : (sh l).length = l.length := by simp [sh]
  refine loop2_list (by omega) (fun out i => out.length = (sh l).length ∧ out.take i = (sh l).take i) (by simp [hlen]) (fun out i nx hi ⟨h2, h3⟩ hn => idx_at hi ?_) (fun out ⟨h2, h3⟩ => ?_)
  · have hv := hx _ (List.getElem_mem hi)
    refine reduced_ok (by unfold sml; omega) (by unfold sml; omega) (by omega) ?_
    rw [share_in hv hs]
    have hlo : i < out.length := by rw [h2, hlen]; exact hi
    refine br_false rfl ⟨by omega, by simpa using hlo, hn _ ⟨by simpa using h2, ?_⟩⟩
    have := set_done h2 hlo h3
    simpa [sh] using this
  · have : out = sh l := by
      rw [← hlen, List.take_length, ← h2, List.take_length] at h3; exact h3
    rw [this]; exact h
theorem eqFrac_same {a : Frac} {Q : Bool → Prop} (h : Q true) : laws_eqFrac a a Q := by
  unfold laws_eqFrac
  exact br_false (by simp) (br_false (by simp) h)
end Go.Proofs.Ytbegmfmabcpofaa
