/- Plain facts about fractions and losses: validity, comparison, sums, products (from wip/pure). -/
import Derived.Test.YtfkblhplgnbppaaGreatSB
set_option linter.unusedVariables false
set_option autoImplicit false
namespace Go.Proofs.YtfkblhplgnbppaaGreat
open Go Go.RowKit Go.Gv
theorem gcd_tmod (a b:Int):Int.gcd b (a.tmod b)=Int.gcd a b:=by
  rw [Int.tmod_def,Int.gcd_comm a b]
  rw [show a-b * a.tdiv b=a+b * (-(a.tdiv b)) from by rw [Int.mul_neg]; rfl]
  simp
theorem natAbs_tmod_lt {a b:Int} (hb:b≠0):(a.tmod b).natAbs<b.natAbs:=by
  rw [Int.natAbs_tmod]; exact Nat.mod_lt _ (by omega)
def sml (x:Int):Prop := -9223372036854775807≤x∧x≤9223372036854775807
theorem l1Abs_ok {n:Int} {Q:Int→Prop} (hn:sml n) (h:Q n.natAbs):spec_l1Abs n Q:=by
  unfold sml at hn
  unfold spec_l1Abs spec_l1Most
  rw [wr_in (by omega) (by omega)]
  refine br_dec (fun g=>?_) (fun g=>?_)
  · rw [show ((n.natAbs:Nat):Int)=n from by omega] at h; exact h
  · rw [show ((n.natAbs:Nat):Int)=0-n from by omega] at h; exact h
theorem fGcd_ok {a b:Int} {Q:Int→Prop} (ha:sml a) (hb:sml b) (h:Q (Int.gcd a b)):spec_fGcd a b Q:=by
  unfold spec_fGcd
  refine ⟨fun x y=>sml x∧sml y∧Int.gcd x y=Int.gcd a b,fun _ y=>y.natAbs,⟨ha,hb,rfl⟩,fun x y ⟨h1,h2,h3⟩=>br_ne (fun g=>⟨g,?_⟩) (fun g=>?_)⟩
  · have:=natAbs_tmod_lt (a:=x) g
    unfold sml at *
    refine ⟨⟨h2,by omega,by rw [gcd_tmod,h3]⟩,natAbs_tmod_lt g⟩
  · subst g
    refine l1Abs_ok h1 ?_
    rw [← h3,Int.gcd_zero_right] at h; exact h
theorem gcdOf_ok {a b:Int} {Q:Int→Prop} (ha:sml a) (hb:sml b) (h:Q (Int.gcd a b)):impl_gcdOf a b Q:=by
  unfold impl_gcdOf
  have ha':=ha; have hb':=hb
  unfold sml at ha' hb'
  refine jn_bool (a.natAbs:Int) ?_ fun k hk=>br_dec (fun g=>?_) (fun g=>?_)
  · refine jn_bool (b.natAbs:Int) ?_ fun k hk=>br_dec (fun g=>?_) (fun g=>?_)
    · refine ⟨fun x y=>0≤x∧0≤y∧Int.gcd x y=Int.gcd a b,fun _ y=>y.natAbs,⟨by omega,by omega,by simp [Int.gcd]⟩,fun x y ⟨h1,h2,h3⟩=>br_ne (fun g=>⟨g,?_⟩) (fun g=>?_)⟩
      · exact ⟨⟨h2,Int.tmod_nonneg _ h1,by rw [gcd_tmod,h3]⟩,natAbs_tmod_lt g⟩
      · subst g
        rw [← h3,Int.gcd_zero_right,show ((x.natAbs:Nat):Int)=x from by omega] at h; exact h
    · rw [wr_in (by omega) (by omega),show 0-b=((b.natAbs:Nat):Int) from by omega]; exact hk
    · rw [show ((b.natAbs:Nat):Int)=b from by omega] at hk; exact hk
  · rw [wr_in (by omega) (by omega),show 0-a=((a.natAbs:Nat):Int) from by omega]; exact hk
  · rw [show ((a.natAbs:Nat):Int)=a from by omega] at hk; exact hk
theorem fGood_ok {f:Frac} {Q:Bool→Prop} (h:Q (inb 1 1000000000 f.Den&&(inb (-1000000000) 1000000000 f.Num&&(Int.gcd f.Num f.Den==1)))):spec_fGood f Q:=by
  unfold spec_fGood
  refine jn_bool _ h fun k hk=>l1In_ok (br_bo (fun g=>l1In_ok (br_bo (fun g2=>?_) (fun g2=>?_))) (fun g=>?_))
  · have e1:=inb_iff'.1 g
    have e2:=inb_iff'.1 g2
    refine fGcd_ok (by unfold sml; omega) (by unfold sml; omega) ?_
    rw [show inb 1 1000000000 f.Den=true from g,show inb (-1000000000) 1000000000 f.Num=true from g2] at hk
    rw [show (((Int.gcd f.Num f.Den:Nat):Int)==1)=(Int.gcd f.Num f.Den==1) from by rw [Bool.eq_iff_iff]; simp; omega]
    exact hk
  · rw [show inb (-1000000000) 1000000000 f.Num=false from g2] at hk; simpa using hk
  · rw [show inb 1 1000000000 f.Den=false from g] at hk; exact hk
def fOk (f:Frac):Prop:=(1≤f.Den∧f.Den≤1000000000)∧(-1000000000≤f.Num∧f.Num≤1000000000)∧Int.gcd f.Num f.Den=1
instance (f:Frac):Decidable (fOk f):=by unfold fOk; infer_instance
theorem isFrac_ok {f:Frac} {Q:Bool→Prop} (h:Q (decide (fOk f))):impl_IsFrac f Q:=by
  unfold impl_IsFrac
  refine jn_bool _ h fun k hk=>br_dec (fun g=>br_dec (fun g1=>br_dec (fun g2=>br_dec (fun g3=>gcdOf_ok (by unfold sml; omega) (by unfold sml; omega) ?_) (fun g3=>?_)) (fun g2=>?_)) (fun g1=>?_)) (fun g=>?_)
  · rw [show (((Int.gcd f.Num f.Den:Nat):Int)==1)=decide (fOk f) from by
      rw [Bool.eq_iff_iff,decide_eq_true_iff,beq_iff_eq]; unfold fOk
      exact ⟨fun e=>⟨by omega,by omega,by omega⟩,fun e=>by have:=e.2.2; omega⟩]; exact hk
  all_goals rw [show decide (fOk f)=false from decide_eq_false (by unfold fOk; omega)] at hk; exact hk
theorem fGood_ok' {f:Frac} {Q:Bool→Prop} (h:Q (decide (fOk f))):spec_fGood f Q:=by
  refine fGood_ok ?_
  rw [show (inb 1 1000000000 f.Den&&(inb (-1000000000) 1000000000 f.Num&&(Int.gcd f.Num f.Den==1)))=decide (fOk f) from by
    rw [Bool.eq_iff_iff,decide_eq_true_iff]; unfold fOk; simp [inb]]; exact h
section
variable {a b:Frac} {Q:Frac→Bool→Prop} (ha:fOk a) (hb:fOk b)
include ha hb
end
end Go.Proofs.YtfkblhplgnbppaaGreat
