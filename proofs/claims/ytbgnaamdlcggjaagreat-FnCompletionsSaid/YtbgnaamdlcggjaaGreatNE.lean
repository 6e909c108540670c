/- Plain facts about smallest covers. -/
import Derived.Test.YtbgnaamdlcggjaaGreatND
set_option linter.unusedVariables false
set_option autoImplicit false
namespace Go.Proofs.YtbgnaamdlcggjaaGreat
open Go Go.RowKit Go.Gv
def sg (x y:Int):Int:=if x<y then -1 else if y<x then 1 else 0
def cmpL:List Int→List Int→Int
  | [],[]=>0
  | [],_ :: _ => -1
  | _ :: _,[]=>1
  | a :: l,b :: m=>if sg a b≠0 then sg a b else cmpL l m
theorem cmpInt_ok {x y:Int} {Q:Int→Prop} (hq:Q (sg x y)):cmp_Compare_int x y Q:=by
  unfold cmp_Compare_int cmp_isNaN_int
  refine br_false (by simp) (br_false (by simp) (br_dec (fun g=>?_) (fun g=>br_dec (fun g2=>?_) (fun g2=>?_))))
  · rw [show sg x y = -1 from if_pos g] at hq; exact hq
  · rw [show sg x y=1 by unfold sg; rw [if_neg g,if_pos g2]] at hq; exact hq
  · rw [show sg x y=0 by unfold sg; rw [if_neg g,if_neg g2]] at hq; exact hq
theorem sCompare_ok {a b:List Int} {Q:Int→Prop} (ha:a.length≤1048576) (hq:Q (cmpL a b)):slices_Compare_int_int a b Q:=by
  unfold slices_Compare_int_int
  refine loop1_list (by omega) (fun i=>i≤b.length∧cmpL (a.drop i) (b.drop i)=cmpL a b) ⟨Nat.zero_le _,rfl⟩ (fun i nx hi ⟨hj1,hj2⟩ hx=>idx_at hi (br_dec (fun g=>?_) (fun g=>?_))) (fun ⟨hj1,hj2⟩=>?_)
  · rw [List.drop_eq_getElem_cons hi,show b.drop i=[] from List.drop_of_length_le (by unfold ln at g; omega)] at hj2
    have:cmpL a b=1:=hj2.symm
    rw [this] at hq; exact hq
  · unfold ln at g
    have hb:i<b.length:=by omega
    rw [List.drop_eq_getElem_cons hi,List.drop_eq_getElem_cons hb] at hj2
    simp only [cmpL] at hj2
    refine idx_at hb (cmpInt_ok (br_ne (fun g2=>?_) (fun g2=>hx ⟨hb,?_⟩)))
    · rw [if_pos g2] at hj2; rw [← hj2] at hq; exact hq
    · rw [if_neg (by simpa using g2)] at hj2; exact hj2
  · rw [List.drop_of_length_le (Nat.le_refl a.length)] at hj2
    refine br_dec (fun g=>?_) (fun g=>?_)
    · rw [List.drop_eq_getElem_cons (show a.length<b.length by unfold ln at g; omega)] at hj2
      have:cmpL a b = -1:=hj2.symm
      rw [this] at hq; exact hq
    · rw [List.drop_of_length_le (by unfold ln at g; omega)] at hj2
      have:cmpL a b=0:=hj2.symm
      rw [this] at hq; exact hq
theorem l1Less_ok {a b:List Int} {Q:Int→Prop} (ha:a.length≤1048576) (hb:b.length≤1048576) (hq:Q (cmpL a b)):spec_l1Less a b Q:=by
  unfold spec_l1Less
  refine ⟨fun x=>∃ n:Nat,x=(n:Int)∧n≤a.length∧n≤b.length∧cmpL (a.drop n) (b.drop n)=cmpL a b,fun x=>a.length-x.toNat,⟨0,rfl,Nat.zero_le _,Nat.zero_le _,rfl⟩,?_⟩
  rintro _ ⟨n,rfl,h1,h2,h3⟩
  refine jn_bool (decide (n<a.length∧n<b.length)) ?_ fun k hk=>br_dec (fun g=>?_) (fun g=>?_)
  · refine br_dec (fun g=>?_) (fun g=>?_)
    · rw [List.drop_eq_getElem_cons g.1,List.drop_eq_getElem_cons g.2] at h3
      simp only [cmpL] at h3
      refine idx_at g.1 (idx_at g.2 (br_ne (fun g2=>idx_at g.1 (idx_at g.2 (br_dec (fun g3=>?_) (fun g3=>?_)))) (fun g2=>?_)))
      · have:sg a[n] b[n] = -1:=if_pos g3
        rw [this,if_pos (by decide)] at h3; rw [← h3] at hq; exact hq
      · have:sg a[n] b[n]=1:=by unfold sg; rw [if_neg g3,if_pos (by omega)]
        rw [this,if_pos (by decide)] at h3; rw [← h3] at hq; exact hq
      · have:sg a[n] b[n]=0:=by unfold sg; rw [if_neg (by omega),if_neg (by omega)]
        rw [this,if_neg (by decide)] at h3
        rw [wr_in (by omega) (by omega)]
        exact ⟨⟨n+1,by omega,by omega,by omega,h3⟩,by dsimp only; omega⟩
    · unfold spec_l1Sign
      unfold ln
      rw [wr_in (by omega) (by omega)]
      by_cases ga:n<a.length
      · rw [List.drop_eq_getElem_cons ga,show b.drop n=[] from List.drop_of_length_le (by omega)] at h3
        have:cmpL a b=1:=h3.symm
        rw [this] at hq
        exact br_no (by omega) (br_yes (by omega) hq)
      · rw [show a.drop n=[] from List.drop_of_length_le (by omega)] at h3
        by_cases gb:n<b.length
        · rw [List.drop_eq_getElem_cons gb] at h3
          have:cmpL a b = -1:=h3.symm
          rw [this] at hq
          exact br_yes (by omega) hq
        · rw [List.drop_of_length_le (by omega)] at h3
          have:cmpL a b=0:=h3.symm
          rw [this] at hq
          exact br_no (by omega) (br_no (by omega) hq)
  · rw [show decide (n<a.length∧n<b.length)=decide ((n:Int)<ln b) from decide_eq_decide.2 (by unfold ln at *; omega)] at hk; exact hk
  · rw [show decide (n<a.length∧n<b.length)=false from decide_eq_false (by unfold ln at *; omega)] at hk; exact hk
theorem fit_len {sx:List Variable} {vs:List Int} (h:fitOk sx vs=true):vs.length=sx.length:=by
  unfold fitOk at h
  simp only [Bool.and_eq_true,decide_eq_true_eq] at h
  exact h.1
end Go.Proofs.YtbgnaamdlcggjaaGreat
