/- For all drawn networks, flows are counted by going from each one to the next, and ranges are reached. -/
import Derived.Test.YtommbnkecafodaaGE
set_option linter.unusedVariables false
set_option autoImplicit false
namespace Go.Proofs.Ytommbnkecafodaa
open Go Go.RowKit Go.Gv

theorem jn_ok {κ : Type} {f : κ → Prop} {k : κ} (P : κ → Prop) (h : P k) (hf : ∀ k', P k' → f k') : jn f k := hf k h
theorem big_ok {code more : List B8} (h1 : code.length ≤ maxLen) (h2 : more.length ≤ maxLen) {Q : Bool → Prop} (h : ∀ b, Q b) : laws_big code more Q := by
  unfold laws_big
  exact jn_ok (fun k => ∀ b, k b) (fun b => h b) fun k hk => br_dec (fun _ => hk _) fun _ => hk _
theorem sameInts_same {a : List Int} {Q : Bool → Prop} (hl : a.length ≤ 1048576) (h : Q true) : laws_sameInts a a Q := by
  unfold laws_sameInts
  refine br_ne (fun c => (c rfl).elim) fun _ => loop1_list (by omega) (fun _ => True) trivial (fun i nx hi _ hn => ?_) (fun _ => h)
  exact idx_at hi (idx_at hi (br_ne (fun c => (c rfl).elim) fun _ => hn trivial))
theorem sameLists_same {a : List (List Int)} {Q : Bool → Prop} (hs : small a) (h : Q true) : laws_sameLists a a Q := by
  unfold laws_sameLists
  have h1 := hs.1
  refine br_ne (fun c => (c rfl).elim) fun _ => loop1_list (by omega) (fun _ => True) trivial (fun i nx hi _ hn => ?_) (fun _ => h)
  exact idx_at hi (idx_at hi (det1_of true (sameInts_same (hs.2 _ (List.getElem_mem hi)) rfl) (br_false rfl (hn trivial))))
theorem lawFlowCounts (code more : List B8) (w0 : Wf.wf code) (w1 : Wf.wf more) : laws_FnFlowCounts code more (fun r => r = true) := by
  have hc : bytesOk code := w0.2
  have hm : bytesOk more := w1.2
  unfold laws_FnFlowCounts
  refine big_ok w0.1 w1.1 fun big => br_bo (fun _ => rfl) fun _ => drawFlows_ok hc fun t hs => ?_
  have rest : ∀ (L : Prop), L → L := fun _ h => h
  have part2 : spec_DrawCellRange more fun r171 r172 r173 =>
      impl_CellRange ((Transport.mk r171.Rows r171.Cols r171.Lo r171.Hi)) r172 r173 fun r219 r220 r221 =>
      spec_CellRange ((Transport.mk r171.Rows r171.Cols r171.Lo r171.Hi)) r172 r173 fun r233 r234 r235 =>
      jn (fun (k260 : Bool → Prop) => br (r221 != r235) (k260 true) <|
      br (r219 != r233) (k260 true) <|
      k260 (r220 != r234)) <|
      fun (x258 : Bool) =>
      br (x258) (false = true) <|
      impl_AllRanges ((Transport.mk r171.Rows r171.Cols r171.Lo r171.Hi)) fun r265 r266 r267 =>
      spec_AllRanges ((Transport.mk r171.Rows r171.Cols r171.Lo r171.Hi)) fun r286 r287 r288 =>
      jn (fun (k327 : Bool → Prop) => br (r267 != r288) (k327 true) <|
      laws_sameLists r265 r286 fun r330 =>
      br (!r330) (k327 true) <|
      laws_sameLists r266 r287 fun r334 =>
      k327 (!r334)) <|
      fun (x324 : Bool) =>
      br (x324) (false = true) <|
      impl_BestFill ((Transport.mk r171.Rows r171.Cols r171.Lo r171.Hi)) fun r343 r344 =>
      spec_BestFill ((Transport.mk r171.Rows r171.Cols r171.Lo r171.Hi)) fun r352 r353 =>
      jn (fun (k364 : Bool → Prop) => br (r344 == r353) (k364 (r343 == r352)) <|
      k364 false) <|
      fun (x362 : Bool) =>
      x362 = true := by
    refine drawCell_ok hm fun u i j hu => ?_
    have best : impl_BestFill u fun r343 r344 => spec_BestFill u fun r352 r353 => jn (fun (k364 : Bool → Prop) => br (r344 == r353) (k364 (r343 == r352)) <| k364 false) <| fun (x362 : Bool) => x362 = true := by
      have fin : ∀ (v : Int) (b : Bool), jn (fun (k364 : Bool → Prop) => br (b == b) (k364 (v == v)) <| k364 false) fun (x362 : Bool) => x362 = true := fun v b => jn_bool true rfl fun k hk => br_true (by cases b <;> rfl) (by rw [show (v == v) = true from beq_self_eq_true v]; exact hk)
      refine BestFill_ok hu (fun hno => specBest_ok hu (fun _ => fin _ _) fun n m v g b => ?_) fun n m v g b => specBest_ok hu (fun hno => ?_) fun n' m' v' g' b' => ?_
      · obtain ⟨y, f, _⟩ := b.a; exact (hno ⟨n, m, g, y, f⟩).elim
      · obtain ⟨y, f, _⟩ := b.a; exact (hno ⟨n, m, g, y, f⟩).elim
      · have e1 := g.rl; have e2 := g.cl; have e3 := g'.rl; have e4 := g'.cl
        have q1 : n = n' := by omega
        have q2 : m = m' := by omega
        subst q1; subst q2
        have := b.uniq b'
        subst this; exact fin _ _
    have all : impl_AllRanges u fun r265 r266 r267 => spec_AllRanges u fun r286 r287 r288 =>
      jn (fun (k327 : Bool → Prop) => br (r267 != r288) (k327 true) <| laws_sameLists r265 r286 fun r330 => br (!r330) (k327 true) <| laws_sameLists r266 r287 fun r334 => k327 (!r334)) <|
      fun (x324 : Bool) => br (x324) (false = true) <| impl_BestFill u fun r343 r344 => spec_BestFill u fun r352 r353 => jn (fun (k364 : Bool → Prop) => br (r344 == r353) (k364 (r343 == r352)) <| k364 false) <| fun (x362 : Bool) => x362 = true := by
      have fin : ∀ (L H : List (List Int)) (b : Bool), small L → small H → jn (fun (k327 : Bool → Prop) => br (b != b) (k327 true) <| laws_sameLists L L fun r330 => br (!r330) (k327 true) <| laws_sameLists H H fun r334 => k327 (!r334)) fun (x324 : Bool) => br (x324) (false = true) <| impl_BestFill u fun r343 r344 => spec_BestFill u fun r352 r353 => jn (fun (k364 : Bool → Prop) => br (r344 == r353) (k364 (r343 == r352)) <| k364 false) <| fun (x362 : Bool) => x362 = true := fun L H b sL sH =>
        jn_bool false (br_false rfl best) fun k hk => br_false (by cases b <;> rfl) (sameLists_same sL (br_false rfl (sameLists_same sH hk)))
      refine AllRanges_ok hu (fun hno => specAll_ok hu (fun _ => fin _ _ _ ⟨by simp, fun r hr => by cases hr⟩ ⟨by simp, fun r hr => by cases hr⟩) fun n m L H g a => ?_) fun n m L H g a => specAll_ok hu (fun hno => ?_) fun n' m' L' H' g' a' => ?_
      · obtain ⟨y, f, _⟩ := (a.r 0 0 (by have := g.n1; omega) (by have := g.m1; omega)).a; exact (hno ⟨n, m, g, y, f⟩).elim
      · obtain ⟨y, f, _⟩ := (a.r 0 0 (by have := g.n1; omega) (by have := g.m1; omega)).a; exact (hno ⟨n, m, g, y, f⟩).elim
      · have e1 := g.rl; have e2 := g.cl; have e3 := g'.rl; have e4 := g'.cl; have n8 := g.n8; have m8 := g.m8
        have q1 : n = n' := by omega
        have q2 : m = m' := by omega
        subst q1; subst q2
        obtain ⟨r1, r2⟩ := a.uniq a'
        subst r1; subst r2; exact fin _ _ _ (a.l.small (by omega) (by omega)) (a.h.small (by omega) (by omega))
    have fin : ∀ (x y : Int) (b : Bool), jn (fun (k260 : Bool → Prop) => br (b != b) (k260 true) <| br (x != x) (k260 true) <| k260 (y != y)) fun (x258 : Bool) => br (x258) (false = true) <| impl_AllRanges u fun r265 r266 r267 => spec_AllRanges u fun r286 r287 r288 =>
      jn (fun (k327 : Bool → Prop) => br (r267 != r288) (k327 true) <| laws_sameLists r265 r286 fun r330 => br (!r330) (k327 true) <| laws_sameLists r266 r287 fun r334 => k327 (!r334)) <|
      fun (x324 : Bool) => br (x324) (false = true) <| impl_BestFill u fun r343 r344 => spec_BestFill u fun r352 r353 => jn (fun (k364 : Bool → Prop) => br (r344 == r353) (k364 (r343 == r352)) <| k364 false) <| fun (x362 : Bool) => x362 = true := fun x y b =>
      jn_bool false (br_false rfl all) fun k hk => br_false (by cases b <;> rfl) (br_ne (fun c => (c rfl).elim) fun _ => by rw [show (y != y) = false from by simp]; exact hk)
    refine cellRange_ok hu (fun hno => specCell_ok hu (fun _ => fin _ _ _) fun n m a b lo hi ce r => ?_) fun n m a b lo hi ce r => specCell_ok hu (fun hno => ?_) fun n' m' a' b' lo' hi' ce' r' => ?_
    · obtain ⟨y, f, _⟩ := r.a; exact (hno ⟨n, m, a, b, ce, y, f⟩).elim
    · obtain ⟨y, f, _⟩ := r.a; exact (hno ⟨n, m, a, b, ce, y, f⟩).elim
    · obtain ⟨rfl, rfl, rfl, rfl⟩ := ce.uniq ce'
      obtain ⟨rfl, rfl⟩ := r.uniq r'
      exact fin _ _ _
  have same : ∀ (a : Int) (b : Bool) (K : Bool → Prop), K false → jn (fun (k : Bool → Prop) => br (b != b) (k true) <| k (a != a)) K := fun a b K h => jn_bool false h fun k hk => br_false (by cases b <;> rfl) (by rw [show (a != a) = false from by simp]; exact hk)
  refine implCount_ok (t := t) hs (fun hn => specCount_ok (t := t) hs (fun _ => ?_) fun n m g => ?_) fun n m g => specCount_ok (t := t) hs (fun hn => ?_) fun n' m' g' => ?_
  · refine same _ _ _ (br_false rfl (jn_ok (fun K => K) part2 fun K hK => jn_bool false (br_false rfl hK) fun k hk => br_false rfl hk))
  · have e1 := g.rl; have e2 := g.cl; subst e1; subst e2; exact (hn g).elim
  · have e1 := g.rl; have e2 := g.cl; subst e1; subst e2; exact (hn g).elim
  · have e1 := g.rl; have e2 := g.cl; have e3 := g'.rl; have e4 := g'.cl
    have q1 : n = n' := by omega
    have q2 : m = m' := by omega
    subst q1; subst q2
    refine same _ _ _ (br_false rfl (jn_ok (fun K => K) part2 fun K hK => ?_))
    by_cases c : (n * m ≤ 16 ∧ tot t n m ≤ 2000) ∧ tot t n m ≤ 30
    · obtain ⟨c1, c2⟩ := c
      rw [if_pos c1, decide_eq_true c1]
      refine jn_bool true (br_true rfl ?_) fun k hk => br_true rfl (by rw [decide_eq_true (by omega)]; exact hk)
      let G := fun x : List (List Int) => rmn (n * m) (fl m (mt t.Lo)) (fl m (mt t.Hi)) (FF t n m) (n * m) (fl m (mt x))
      have loop : ∀ (x0 : List (List Int)) (i0 : Bool), ((x0 = [] ∧ i0 = false ∧ tot t n m = 0) ∨ (Sh n m x0 ∧ i0 = true ∧ Fl t n m (mt x0) ∧ tot t n m = 1 + G x0)) →
          Loop3 (fun (k113 : Int) (x114 : List (List Int)) (is : Bool) nx =>
            jn (fun (k144 : Bool → Prop) => br (is) (k144 (decide (k113 ≤ ((tot t n m : Nat) : Int)))) <| k144 false) <| fun (x142 : Bool) =>
            br (x142) (impl_NextFlow t x114 fun r148 r149 => nx (wr (k113 + 1)) r148 r149) <|
            br (k113 != ((tot t n m : Nat) : Int)) (false = true) <| K) 0 x0 i0 := fun x0 i0 hx0 => by
        refine ⟨fun n1 x i => ∃ k : Nat, n1 = (k : Int) ∧ k ≤ tot t n m ∧ ((x = [] ∧ i = false ∧ tot t n m = k) ∨ (Sh n m x ∧ i = true ∧ Fl t n m (mt x) ∧ tot t n m = k + 1 + G x)), fun n1 _ _ => 31 - n1.toNat, ⟨0, rfl, by omega, by omega⟩, ?_⟩
        rintro _ x i ⟨k, rfl, hk, hx⟩
        rcases hx with ⟨rfl, rfl, hx⟩ | ⟨hx, rfl, fx, ex⟩
        · exact jn_bool false (br_false rfl (br_ne (fun c => (c (by omega)).elim) fun _ => hK)) fun k hk => br_false rfl hk
        refine jn_bool true (br_true rfl ?_) fun k2 hk2 => br_true rfl (by rw [decide_eq_true (by omega)]; exact hk2)
        rw [wr_in (by omega) (by omega)]
        refine NextFlow_ok hs g hx fx (fun ht => ?_) fun z p hp hz fz ha hz1 htz hn => ?_
        · have : G x = 0 := rmn_top ht
          exact ⟨⟨k + 1, by omega, by omega, .inl ⟨rfl, rfl, by omega⟩⟩, by show 31 - ((k : Int) + 1).toNat < 31 - (k : Int).toNat; omega⟩
        · have : G x = 1 + G z := rmn_next hp fz ha hz1 htz hn
          exact ⟨⟨k + 1, by omega, by omega, .inr ⟨hz, rfl, fz, by omega⟩⟩, by show 31 - ((k : Int) + 1).toNat < 31 - (k : Int).toNat; omega⟩
      exact FirstFlow_ok hs g (fun hno => loop [] false (.inl ⟨rfl, rfl, tot_zero hno⟩)) fun x hx fx htx => loop x true (.inr ⟨hx, rfl, fx, tot_first fx htx⟩)
    · refine jn_bool false (br_false rfl hK) fun k hk => br_bo (fun d => ?_) fun _ => hk
      have c1 := of_decide_eq_true d
      rw [if_pos c1, decide_eq_false (by omega)]; exact hk
end Go.Proofs.Ytommbnkecafodaa
