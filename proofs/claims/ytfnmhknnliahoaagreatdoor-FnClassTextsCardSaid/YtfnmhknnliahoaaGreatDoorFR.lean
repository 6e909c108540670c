/- Plain facts about fractions and losses: validity, comparison, sums, products (from wip/pure). -/
import Derived.Test.YtfnmhknnliahoaaGreatDoorSB
set_option linter.unusedVariables false
set_option autoImplicit false
namespace Go.Proofs.YtfnmhknnliahoaaGreatDoor
open Go Go.RowKit Go.Gv
theorem jn2 {A B:Type} {f:(A→B→Prop)→Prop} {k:A→B→Prop} (a:A) (b:B) (h:k a b) (hf:∀ k':A→B→Prop,k' a b→f k'):jn f k:=hf k h
theorem gcd_tmod (a b:Int):Int.gcd b (a.tmod b)=Int.gcd a b:=by
  rw [Int.tmod_def,Int.gcd_comm a b]
  rw [show a-b * a.tdiv b=a+b * (-(a.tdiv b)) from by rw [Int.mul_neg]; rfl]
  simp
theorem natAbs_tmod_lt {a b:Int} (hb:b≠0):(a.tmod b).natAbs<b.natAbs:=by
  rw [Int.natAbs_tmod]; exact Nat.mod_lt _ (by omega)
def sml (x:Int):Prop := -9223372036854775807≤x∧x≤9223372036854775807
theorem l1Abs_ok {n:Int} {Q:Int→Prop} (hn:sml n) (h:Q n.natAbs):spec_l1Abs n Q:=by
  unfold sml at hn
  unfold spec_l1Abs spec_l1Most
  rw [wr_in (by omega) (by omega)]
  refine br_dec (fun g=>?_) (fun g=>?_)
  · rw [show ((n.natAbs:Nat):Int)=n from by omega] at h; exact h
  · rw [show ((n.natAbs:Nat):Int)=0-n from by omega] at h; exact h
theorem fGcd_ok {a b:Int} {Q:Int→Prop} (ha:sml a) (hb:sml b) (h:Q (Int.gcd a b)):spec_fGcd a b Q:=by
  unfold spec_fGcd
  refine ⟨fun x y=>sml x∧sml y∧Int.gcd x y=Int.gcd a b,fun _ y=>y.natAbs,⟨ha,hb,rfl⟩,fun x y ⟨h1,h2,h3⟩=>br_ne (fun g=>⟨g,?_⟩) (fun g=>?_)⟩
  · have:=natAbs_tmod_lt (a:=x) g
    unfold sml at *
    refine ⟨⟨h2,by omega,by rw [gcd_tmod,h3]⟩,natAbs_tmod_lt g⟩
  · subst g
    refine l1Abs_ok h1 ?_
    rw [← h3,Int.gcd_zero_right] at h; exact h
theorem gcdOf_ok {a b:Int} {Q:Int→Prop} (ha:sml a) (hb:sml b) (h:Q (Int.gcd a b)):impl_gcdOf a b Q:=by
  unfold impl_gcdOf
  have ha':=ha; have hb':=hb
  unfold sml at ha' hb'
  refine jn_bool (a.natAbs:Int) ?_ fun k hk=>br_dec (fun g=>?_) (fun g=>?_)
  · refine jn_bool (b.natAbs:Int) ?_ fun k hk=>br_dec (fun g=>?_) (fun g=>?_)
    · refine ⟨fun x y=>0≤x∧0≤y∧Int.gcd x y=Int.gcd a b,fun _ y=>y.natAbs,⟨by omega,by omega,by simp [Int.gcd]⟩,fun x y ⟨h1,h2,h3⟩=>br_ne (fun g=>⟨g,?_⟩) (fun g=>?_)⟩
      · exact ⟨⟨h2,Int.tmod_nonneg _ h1,by rw [gcd_tmod,h3]⟩,natAbs_tmod_lt g⟩
      · subst g
        rw [← h3,Int.gcd_zero_right,show ((x.natAbs:Nat):Int)=x from by omega] at h; exact h
    · rw [wr_in (by omega) (by omega),show 0-b=((b.natAbs:Nat):Int) from by omega]; exact hk
    · rw [show ((b.natAbs:Nat):Int)=b from by omega] at hk; exact hk
  · rw [wr_in (by omega) (by omega),show 0-a=((a.natAbs:Nat):Int) from by omega]; exact hk
  · rw [show ((a.natAbs:Nat):Int)=a from by omega] at hk; exact hk
def frNum (n d:Int):Int:=if d<0 then -(n.tdiv (Int.gcd n d)) else n.tdiv (Int.gcd n d)
def frDen (n d:Int):Int:=(d.natAbs:Int).tdiv (Int.gcd n d)
def frIn (n d:Int):Bool:=decide (-1000000000≤frNum n d∧frNum n d≤1000000000∧frDen n d≤1000000000)
def frOf (n d:Int):Frac:=if frIn n d then ⟨frNum n d,frDen n d⟩ else ⟨0,0⟩
theorem tdiv_abs_le {n g:Int} (hg:0<g):(n.tdiv g).natAbs≤n.natAbs:=by
  rw [Int.natAbs_tdiv]; exact Nat.div_le_self _ _
theorem gcd_pos' {n d:Int} (hd:d≠0):(0:Int)<(Int.gcd n d:Int):=by
  have:=Int.gcd_pos_of_ne_zero_right n hd; omega
theorem frDen_neg {n d:Int} (h:d<0):frDen n d = -(d.tdiv (Int.gcd n d)):=by
  unfold frDen
  rw [show ((d.natAbs:Nat):Int) = -d from by omega,Int.neg_tdiv]
theorem frDen_pos {n d:Int} (h:0<d):frDen n d=d.tdiv (Int.gcd n d):=by
  unfold frDen
  rw [show ((d.natAbs:Nat):Int)=d from by omega]
theorem frDen_ge {n d:Int} (hd:d≠0):1≤frDen n d:=by
  unfold frDen
  have hg:=gcd_pos' (n:=n) hd
  have hdv:((Int.gcd n d:Nat):Int) ∣ ((d.natAbs:Nat):Int):=by
    rw [Int.dvd_natAbs]; exact Int.gcd_dvd_right _ _
  obtain ⟨c,hc⟩:=hdv
  rw [hc,Int.mul_tdiv_cancel_left _ (by omega)]
  have:((d.natAbs:Nat):Int)>0:=by omega
  rw [hc] at this
  have:=Int.pos_of_mul_pos_right this (by omega)
  omega
theorem coprime {n d:Int} (hd:d≠0):Int.gcd (n.tdiv (Int.gcd n d)) (d.tdiv (Int.gcd n d))=1:=by
  have hg:=Int.gcd_pos_of_ne_zero_right n hd
  have e1:n.tdiv (Int.gcd n d)=n / (Int.gcd n d):=Int.tdiv_eq_ediv_of_dvd (Int.gcd_dvd_left _ _)
  have e2:d.tdiv (Int.gcd n d)=d / (Int.gcd n d):=Int.tdiv_eq_ediv_of_dvd (Int.gcd_dvd_right _ _)
  rw [e1,e2]
  exact Int.gcd_ediv_gcd_ediv_gcd hg
theorem reduced_ok {n d:Int} {Q:Frac→Bool→Prop} (hn:sml n) (hd:sml d) (hd0:d≠0) (h:Q (frOf n d) (frIn n d)):impl_reduced n d Q:=by
  unfold impl_reduced
  have hg:=gcd_pos' (n:=n) hd0
  refine gcdOf_ok hn hd ⟨by omega,by omega,?_⟩
  have b1:=tdiv_abs_le (n:=n) hg
  have b2:=tdiv_abs_le (n:=d) hg
  unfold sml at hn hd
  rw [wr_in (x:=n.tdiv _) (by omega) (by omega),wr_in (x:=d.tdiv _) (by omega) (by omega),wr_in (x:=0-n.tdiv _) (by omega) (by omega),wr_in (x:=0-d.tdiv _) (by omega) (by omega)]
  have hge:=frDen_ge (n:=n) hd0
  have key:∀ k:Int→Int→Prop,k (frNum n d) (frDen n d)→br (decide (d.tdiv (Int.gcd n d)<0)) (k (0-n.tdiv (Int.gcd n d)) (0-d.tdiv (Int.gcd n d))) (k (n.tdiv (Int.gcd n d)) (d.tdiv (Int.gcd n d))):=by
    intro k hk
    refine br_dec (fun g=>?_) (fun g=>?_)
    · have hneg:d<0:=by
        refine Classical.byContradiction fun c=>?_
        have:=frDen_pos (n:=n) (show 0<d by omega); omega
      rw [frDen_neg hneg] at hk
      unfold frNum at hk; rw [if_pos hneg] at hk
      rw [Int.zero_sub,Int.zero_sub]; exact hk
    · have hpos:¬ d<0:=by
        intro c
        have:=frDen_neg (n:=n) c; omega
      rw [frDen_pos (by omega)] at hk
      unfold frNum at hk; rw [if_neg hpos] at hk; exact hk
  refine jn2 (frNum n d) (frDen n d) ?_ key
  refine jn_bool (!frIn n d) ?_ fun k hk=>br_dec (fun g=>?_) (fun g=>br_dec (fun g1=>?_) (fun g1=>?_))
  · refine br_nb (fun g=>?_) (fun g=>?_)
    · unfold frOf at h; rw [g] at h; simpa using h
    · unfold frOf at h; rw [g] at h; simpa using h
  · rw [show frIn n d=false from decide_eq_false (by omega)] at hk; exact hk
  · rw [show frIn n d=false from decide_eq_false (by omega)] at hk; exact hk
  · have:(!frIn n d)=decide (frDen n d>1000000000):=by
      unfold frIn; rw [← decide_not]; congr 1; rw [eq_iff_iff]; omega
    rw [this] at hk; exact hk
theorem fGood_ok {f:Frac} {Q:Bool→Prop} (h:Q (inb 1 1000000000 f.Den&&(inb (-1000000000) 1000000000 f.Num&&(Int.gcd f.Num f.Den==1)))):spec_fGood f Q:=by
  unfold spec_fGood
  refine jn_bool _ h fun k hk=>l1In_ok (br_bo (fun g=>l1In_ok (br_bo (fun g2=>?_) (fun g2=>?_))) (fun g=>?_))
  · have e1:=inb_iff'.1 g
    have e2:=inb_iff'.1 g2
    refine fGcd_ok (by unfold sml; omega) (by unfold sml; omega) ?_
    rw [show inb 1 1000000000 f.Den=true from g,show inb (-1000000000) 1000000000 f.Num=true from g2] at hk
    rw [show (((Int.gcd f.Num f.Den:Nat):Int)==1)=(Int.gcd f.Num f.Den==1) from by rw [Bool.eq_iff_iff]; simp; omega]
    exact hk
  · rw [show inb (-1000000000) 1000000000 f.Num=false from g2] at hk; simpa using hk
  · rw [show inb 1 1000000000 f.Den=false from g] at hk; exact hk
theorem fMake_ok {n d:Int} {Q:Frac→Bool→Prop} (hn:sml n) (hd:sml d) (h:Q (if d=0 then ⟨0,0⟩ else frOf n d) (if d=0 then false else frIn n d)):spec_fMake n d Q:=by
  unfold spec_fMake
  refine br_eq (fun g=>?_) (fun hd0=>?_)
  · rw [if_pos g,if_pos g] at h; exact h
  · rw [if_neg hd0,if_neg hd0] at h
    have hg:=gcd_pos' (n:=n) hd0
    refine fGcd_ok hn hd ?_
    have b1:=tdiv_abs_le (n:=n) hg
    have b2:=tdiv_abs_le (n:=d) hg
    have b3:(Int.gcd n d:Int)≤d.natAbs:=by
      have:=Int.gcd_le_natAbs_right n hd0; omega
    have hge:=frDen_ge (n:=n) hd0
    unfold sml at hn hd
    rw [wr_in (x:=0-_) (by omega) (by omega)]
    refine jn_bool (if d<0 then -(Int.gcd n d:Int) else Int.gcd n d) ?_ fun k hk=>br_dec (fun g=>?_) (fun g=>?_)
    · have e1:n.tdiv (if d<0 then -(Int.gcd n d:Int) else Int.gcd n d)=frNum n d:=by
        unfold frNum; split <;> simp
      have e2:d.tdiv (if d<0 then -(Int.gcd n d:Int) else Int.gcd n d)=frDen n d:=by
        split
        · rename_i c; rw [frDen_neg c]; simp
        · rw [frDen_pos (by omega)]
      have e3:(frNum n d).natAbs≤n.natAbs:=by unfold frNum; split <;> omega
      have e4:frDen n d≤d.natAbs:=by
        by_cases c:d<0
        · rw [frDen_neg c]; omega
        · rw [frDen_pos (by omega)]; omega
      have hc:Int.gcd (frNum n d) (frDen n d)=1:=by
        have:=coprime (n:=n) hd0
        unfold frNum
        by_cases c:d<0
        · rw [if_pos c,frDen_neg c,Int.gcd_neg,Int.neg_gcd]; exact this
        · rw [if_neg c,frDen_pos (by omega)]; exact this
      refine ⟨by split <;> omega,by split <;> omega,?_⟩
      have w1:wr (frNum n d)=frNum n d:=wr_in (by omega) (by omega)
      have w2:wr (frDen n d)=frDen n d:=wr_in (by omega) (by omega)
      rw [e1,e2,w1,w2]
      refine fGood_ok ?_
      have:(inb 1 1000000000 (Frac.mk (frNum n d) (frDen n d)).Den&&(inb (-1000000000) 1000000000 (Frac.mk (frNum n d) (frDen n d)).Num&&(Int.gcd (Frac.mk (frNum n d) (frDen n d)).Num (Frac.mk (frNum n d) (frDen n d)).Den==1)))=frIn n d:=by
        simp only [hc]
        unfold inb frIn
        rw [Bool.eq_iff_iff]; simp; omega
      rw [this]
      refine br_nb (fun g=>?_) (fun g=>?_)
      · unfold frOf at h; rw [g] at h; simpa using h
      · unfold frOf at h; rw [g] at h; simpa using h
    · rw [if_pos g,← Int.zero_sub] at hk; exact hk
    · rw [if_neg g] at hk; exact hk
def fOk (f:Frac):Prop:=(1≤f.Den∧f.Den≤1000000000)∧(-1000000000≤f.Num∧f.Num≤1000000000)∧Int.gcd f.Num f.Den=1
instance (f:Frac):Decidable (fOk f):=by unfold fOk; infer_instance
theorem fOk_of {n d:Int} (hd:d≠0) (h:frIn n d=true):fOk (frOf n d):=by
  have hi:=of_decide_eq_true h
  have hge:=frDen_ge (n:=n) hd
  have hc:Int.gcd (frNum n d) (frDen n d)=1:=by
    have:=coprime (n:=n) hd
    unfold frNum
    by_cases c:d<0
    · rw [if_pos c,frDen_neg c,Int.gcd_neg,Int.neg_gcd]; exact this
    · rw [if_neg c,frDen_pos (by omega)]; exact this
  unfold frOf; rw [h]
  exact ⟨⟨hge,hi.2.2⟩,⟨hi.1,hi.2.1⟩,hc⟩
theorem isFrac_ok {f:Frac} {Q:Bool→Prop} (h:Q (decide (fOk f))):impl_IsFrac f Q:=by
  unfold impl_IsFrac
  refine jn_bool _ h fun k hk=>br_dec (fun g=>br_dec (fun g1=>br_dec (fun g2=>br_dec (fun g3=>gcdOf_ok (by unfold sml; omega) (by unfold sml; omega) ?_) (fun g3=>?_)) (fun g2=>?_)) (fun g1=>?_)) (fun g=>?_)
  · rw [show (((Int.gcd f.Num f.Den:Nat):Int)==1)=decide (fOk f) from by
      rw [Bool.eq_iff_iff,decide_eq_true_iff,beq_iff_eq]; unfold fOk
      exact ⟨fun e=>⟨by omega,by omega,by omega⟩,fun e=>by have:=e.2.2; omega⟩]; exact hk
  all_goals rw [show decide (fOk f)=false from decide_eq_false (by unfold fOk; omega)] at hk; exact hk
theorem isFrac_yes {f:Frac} {Q:Bool→Prop} (hf:fOk f) (h:Q true):impl_IsFrac f Q:=isFrac_ok (by rw [decide_eq_true hf]; exact h)
theorem fGood_ok' {f:Frac} {Q:Bool→Prop} (h:Q (decide (fOk f))):spec_fGood f Q:=by
  refine fGood_ok ?_
  rw [show (inb 1 1000000000 f.Den&&(inb (-1000000000) 1000000000 f.Num&&(Int.gcd f.Num f.Den==1)))=decide (fOk f) from by
    rw [Bool.eq_iff_iff,decide_eq_true_iff]; unfold fOk; simp [inb]]; exact h
theorem mul_le9 {a b:Int} (ha : -1000000000≤a∧a≤1000000000) (hb : -1000000000≤b∧b≤1000000000) : -1000000000000000000≤a * b∧a * b≤1000000000000000000:=by
  have h:(a * b).natAbs≤1000000000 * 1000000000:=by
    rw [Int.natAbs_mul]; exact Nat.mul_le_mul (by omega) (by omega)
  omega
theorem den_pos {a b:Frac} (ha:fOk a) (hb:fOk b):0<a.Den * b.Den:=Int.mul_pos (by have:=ha.1; omega) (by have:=hb.1; omega)
section
variable {a b:Frac} {Q:Frac→Bool→Prop} (ha:fOk a) (hb:fOk b)
include ha hb
theorem nums:(-1000000000000000000≤a.Num * b.Den∧a.Num * b.Den≤1000000000000000000)∧(-1000000000000000000≤b.Num * a.Den∧b.Num * a.Den≤1000000000000000000)∧(0<a.Den * b.Den∧a.Den * b.Den≤1000000000000000000) ∧
    (-1000000000000000000≤a.Num * b.Num∧a.Num * b.Num≤1000000000000000000)∧(-1000000000000000000≤a.Den * b.Num∧a.Den * b.Num≤1000000000000000000):=by
  have d:=den_pos ha hb
  obtain ⟨a1,a2,_⟩:=ha
  obtain ⟨b1,b2,_⟩:=hb
  exact ⟨mul_le9 a2 (by omega),mul_le9 b2 (by omega),⟨d,(mul_le9 (a:=a.Den) (b:=b.Den) (by omega) (by omega)).2⟩,mul_le9 a2 b2,mul_le9 (by omega) b2⟩
end
def cmpF (a b:Frac):Int:=if a.Num * b.Den<b.Num * a.Den then -1 else if a.Num * b.Den>b.Num * a.Den then 1 else 0
theorem cmpFrac_ok {a b:Frac} {Q:Int→Prop} (ha:fOk a) (hb:fOk b) (h:Q (cmpF a b)):impl_cmpFrac a b Q:=by
  obtain ⟨n1,n2,n3,n4,n5⟩:=nums ha hb
  unfold impl_cmpFrac
  rw [wr_in (x:=a.Num * b.Den) (by omega) (by omega),wr_in (x:=b.Num * a.Den) (by omega) (by omega)]
  unfold cmpF at h
  refine br_dec (fun g=>?_) (fun g=>br_dec (fun g2=>?_) (fun g2=>?_))
  · rw [if_pos g] at h; exact h
  · rw [if_neg g,if_pos g2] at h; exact h
  · rw [if_neg g,if_neg g2] at h; exact h
theorem fCmp_ok {a b:Frac} {Q:Int→Prop} (ha:fOk a) (hb:fOk b) (h:Q (cmpF a b)):spec_fCmp a b Q:=by
  obtain ⟨n1,n2,n3,n4,n5⟩:=nums ha hb
  unfold spec_fCmp spec_l1Sign
  rw [wr_in (x:=a.Num * b.Den) (by omega) (by omega),wr_in (x:=b.Num * a.Den) (by omega) (by omega),wr_in (x:=_-_) (by omega) (by omega)]
  unfold cmpF at h
  refine br_dec (fun g=>?_) (fun g=>br_dec (fun g2=>?_) (fun g2=>?_))
  · rw [if_pos (by omega)] at h; exact h
  · rw [if_neg (by omega),if_pos (by omega)] at h; exact h
  · rw [if_neg (by omega),if_neg (by omega)] at h; exact h
end Go.Proofs.YtfnmhknnliahoaaGreatDoor
