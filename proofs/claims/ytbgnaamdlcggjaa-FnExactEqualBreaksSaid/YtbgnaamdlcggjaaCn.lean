/- Plain facts about counts, shares and the operations on fractions. -/
import Derived.Test.YtbgnaamdlcggjaaFr
set_option linter.unusedVariables false
set_option autoImplicit false
namespace Go.Proofs.Ytbgnaamdlcggjaa
open Go Go.RowKit Go.Gv
def fOk (f:Frac):Prop:=(1≤f.Den∧f.Den≤1000000000)∧(-1000000000≤f.Num∧f.Num≤1000000000)∧Int.gcd f.Num f.Den=1
instance (f:Frac):Decidable (fOk f):=by unfold fOk; infer_instance
theorem isFrac_ok {f:Frac} {Q:Bool→Prop} (h:Q (decide (fOk f))):impl_IsFrac f Q:=by
  unfold impl_IsFrac
  refine jn_bool _ h fun k hk=>br_dec (fun g=>br_dec (fun g1=>br_dec (fun g2=>br_dec (fun g3=>gcdOf_ok (by unfold sml; omega) (by unfold sml; omega) ?_) (fun g3=>?_)) (fun g2=>?_)) (fun g1=>?_)) (fun g=>?_)
  · rw [show (((Int.gcd f.Num f.Den:Nat):Int)==1)=decide (fOk f) from by
      rw [Bool.eq_iff_iff,decide_eq_true_iff,beq_iff_eq]; unfold fOk
      exact ⟨fun e=>⟨by omega,by omega,by omega⟩,fun e=>by have:=e.2.2; omega⟩]; exact hk
  all_goals rw [show decide (fOk f)=false from decide_eq_false (by unfold fOk; omega)] at hk; exact hk
theorem fGood_ok' {f:Frac} {Q:Bool→Prop} (h:Q (decide (fOk f))):spec_fGood f Q:=by
  refine fGood_ok ?_
  rw [show (inb 1 1000000000 f.Den&&(inb (-1000000000) 1000000000 f.Num&&(Int.gcd f.Num f.Den==1)))=decide (fOk f) from by
    rw [Bool.eq_iff_iff,decide_eq_true_iff]; unfold fOk; simp [inb]]; exact h
theorem mul_le9 {a b:Int} (ha : -1000000000≤a∧a≤1000000000) (hb : -1000000000≤b∧b≤1000000000) : -1000000000000000000≤a * b∧a * b≤1000000000000000000:=by
  have h:(a * b).natAbs≤1000000000 * 1000000000:=by
    rw [Int.natAbs_mul]; exact Nat.mul_le_mul (by omega) (by omega)
  omega
theorem den_pos {a b:Frac} (ha:fOk a) (hb:fOk b):0<a.Den * b.Den:=Int.mul_pos (by have:=ha.1; omega) (by have:=hb.1; omega)
section
variable {a b:Frac} {Q:Frac→Bool→Prop} (ha:fOk a) (hb:fOk b)
include ha hb
theorem nums:(-1000000000000000000≤a.Num * b.Den∧a.Num * b.Den≤1000000000000000000)∧(-1000000000000000000≤b.Num * a.Den∧b.Num * a.Den≤1000000000000000000)∧(0<a.Den * b.Den∧a.Den * b.Den≤1000000000000000000) ∧
    (-1000000000000000000≤a.Num * b.Num∧a.Num * b.Num≤1000000000000000000)∧(-1000000000000000000≤a.Den * b.Num∧a.Den * b.Num≤1000000000000000000):=by
  have d:=den_pos ha hb
  obtain ⟨a1,a2,_⟩:=ha
  obtain ⟨b1,b2,_⟩:=hb
  exact ⟨mul_le9 a2 (by omega),mul_le9 b2 (by omega),⟨d,(mul_le9 (a:=a.Den) (b:=b.Den) (by omega) (by omega)).2⟩,mul_le9 a2 b2,mul_le9 (by omega) b2⟩
end
theorem eqFrac_same {a:Frac} {Q:Bool→Prop} (h:Q true):laws_eqFrac a a Q:=by
  unfold laws_eqFrac
  exact br_false (by simp) (br_false (by simp) h)
end Go.Proofs.Ytbgnaamdlcggjaa
