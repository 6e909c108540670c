/- What each Go function means: a definition over numbers and lists; Q: what is to hold of its results. -/
import Derived.Test.YtbgnaamdlcggjaaLib
set_option linter.unusedVariables false
set_option autoImplicit false
namespace Go.Proofs.Ytbgnaamdlcggjaa
open Go Go.RowKit Go.Gv
structure Frac where
  Num:Int
  Den:Int
instance:Wf Frac:=⟨fun x=>Wf.wf x.Num∧Wf.wf x.Den⟩
instance:Flat Frac where
  n:=2
  agg:=true
  rd _ cs x:=cs=[I x.Num,I x.Den]
  enc x:=[I x.Num,I x.Den]
  len h:=by subst h; rfl
  le _ h:=h
  one h c hc:=by subst h; simp at hc; rcases hc with rfl | rfl <;> rfl
  sing h:=by cases h
  flat:=Iff.rfl
theorem Frac_rv {h:PH} {v:Value} {x:Frac} (r:RV h v x):v = .agg #[I x.Num,I x.Den]:=by obtain ⟨cs,rfl,rfl⟩:=r; rfl
def laws_szFracS (a:List Frac) (left:Int) (Q:Int→Prop):Prop :=
  br (decide ((wr (left-(ln a)))<0)) (Q ((-1))) <|
  Q (wr (left-(ln a)))
def laws_toFrac (a:Frac) (Q:Frac→Prop):Prop :=
  Q ((Frac.mk a.Num a.Den))
def laws_toFracS (a:List Frac) (Q:(List Frac)→Prop):Prop :=
  (0:Int)≤(ln a)∧16 * (ln a)≤140737488355328∧(
  Loop2 (fun (out:List Frac) (i:Int) nx =>
  br (decide (i<(ln a))) (idx a i fun x14 =>
  laws_toFrac x14 fun r21 =>
  (0:Int)≤i∧Int.toNat i<List.length out∧(
  nx (List.set out (Int.toNat i) r21) (wr (i+1)))) <|
  Q out) (List.replicate (Int.toNat (ln a)) ((Frac.mk ((0:Int)) ((0:Int))))) 0)
def spec_l1In (n:Int) (lo:Int) (hi:Int) (Q:Bool→Prop):Prop :=
  jn (fun (k:Bool→Prop)=>br (decide (n≥lo)) (k (decide (n≤hi))) <|
  k false) <|
  fun (x:Bool) =>
  Q x
def spec_l1Most (a:Int) (b:Int) (Q:Int→Prop):Prop :=
  br (decide (a>b)) (Q a) <|
  Q b
def spec_l1Abs (n:Int) (Q:Int→Prop):Prop :=
  spec_l1Most n (wr (0-n)) fun r =>
  Q r
def spec_fGcd (a:Int) (b:Int) (Q:Int→Prop):Prop :=
  Loop2 (fun (a1:Int) (b2:Int) nx =>
  br (b2 != 0) (b2≠0∧(
  nx b2 (Int.tmod a1 b2))) <|
  spec_l1Abs a1 fun r =>
  Q r) a b
def spec_fGood (f:Frac) (Q:Bool→Prop):Prop :=
  jn (fun (k:Bool→Prop)=>spec_l1In f.Den 1 1000000000 fun r =>
  br (r) (spec_l1In f.Num ((-1000000000)) 1000000000 fun r10 =>
  br (r10) (spec_fGcd f.Num f.Den fun r15 =>
  k (r15==1)) <|
  k false) <|
  k false) <|
  fun (x4:Bool) =>
  Q x4
def spec_oFracs (l:List Frac) (most:Int) (Q:Bool→Prop):Prop :=
  Loop1 (fun (x:Int) nx =>
  br (decide (x<(ln l))) (idx l x fun x2 =>
  spec_fGood ((Frac.mk x2.Num x2.Den)) fun r14 =>
  br (!r14) (Q false) <|
  nx (wr (x+1))) <|
  Q (decide ((ln l)≤most))) 0
def spec_l1Sign (n:Int) (Q:Int→Prop):Prop :=
  br (decide (n<0)) (Q ((-1))) <|
  br (decide (n>0)) (Q 1) <|
  Q 0
def spec_fCmp (a:Frac) (b:Frac) (Q:Int→Prop):Prop :=
  spec_l1Sign (wr ((wr (a.Num * b.Den))-(wr (b.Num * a.Den)))) fun r =>
  Q r
def spec_oSorted (l:List Frac) (Q:(List Frac)→Prop):Prop :=
  (ln (([]:List Frac))+ln l) * 16≤140737488355328∧(
  Loop2 (fun (out:List Frac) (x19:Int) nx =>
  br (decide (x19<(ln ((([]:List Frac))++l)))) (Loop2 (fun (out22:List Frac) (k:Int) nx33 =>
  jn (fun (k48:Bool→Prop)=>br (decide (k>0)) (idx out22 (wr (k-1)) fun x50 =>
  idx out22 k fun x56 =>
  det1 (spec_fCmp x50 x56) fun r65 =>
  k48 (decide (r65>0))) <|
  k48 false) <|
  fun (x45:Bool) =>
  br (x45) (idx out22 k fun x73 =>
  idx out22 (wr (k-1)) fun x90 =>
  (0:Int)≤k∧Int.toNat k<List.length out22∧(
  (0:Int)≤(wr (k-1))∧Int.toNat (wr (k-1))<List.length (List.set out22 (Int.toNat k) x90)∧(
  nx33 (List.set (List.set out22 (Int.toNat k) x90) (Int.toNat (wr (k-1))) ((Frac.mk x73.Num x73.Den))) (wr (k-1))))) <|
  nx out22 (wr (x19+1))) out x19) <|
  Q out) ((([]:List Frac))++l) 0)
def spec_EqualBreaks (values:List Frac) (k:Int) (Q:(List Frac)→Bool→Prop):Prop :=
  jn (fun (k2:Bool→Prop)=>spec_oFracs values 100 fun r3 =>
  br (!r3) (k2 true) <|
  br ((ln values)==0) (k2 true) <|
  spec_l1In k 2 8 fun r7 =>
  k2 (!r7)) <|
  fun (x:Bool) =>
  br (x) (Q ([]) false) <|
  spec_oSorted values fun r12 =>
  Loop2 (fun (out:List Frac) (i:Int) nx =>
  br (decide (i<k)) (k≠0∧(
  idx r12 (wr (Int.tdiv (wr (i * (ln r12))) k)) fun x31 =>
  (ln out+ln ([x31])) * 16≤140737488355328∧(
  nx (out++([x31])) (wr (i+1))))) <|
  Q out true) ([]) 1
def impl_gcdOf (a:Int) (b:Int) (Q:Int→Prop):Prop :=
  jn (fun (k:Int→Prop)=>br (decide (a<0)) (k (wr (0-a))) <|
  k a) <|
  fun (a1:Int) =>
  jn (fun (k4:Int→Prop)=>br (decide (b<0)) (k4 (wr (0-b))) <|
  k4 b) <|
  fun (b2:Int) =>
  Loop2 (fun (a7:Int) (b8:Int) nx =>
  br (b8 != 0) (b8≠0∧(
  nx b8 (Int.tmod a7 b8))) <|
  Q a7) a1 b2
def impl_IsFrac (f:Frac) (Q:Bool→Prop):Prop :=
  jn (fun (k:Bool→Prop)=>br (decide (f.Den≥1)) (br (decide (f.Den≤1000000000)) (br (decide (f.Num≥((-1000000000)))) (br (decide (f.Num≤1000000000)) (impl_gcdOf f.Num f.Den fun r =>
  k (r==1)) <|
  k false) <|
  k false) <|
  k false) <|
  k false) <|
  fun (x4:Bool) =>
  Q x4
def impl_areFracs (l:List Frac) (Q:Bool→Prop):Prop :=
  Loop1 (fun (x:Int) nx =>
  br (decide (x<(ln l))) (idx l x fun x2 =>
  impl_IsFrac ((Frac.mk x2.Num x2.Den)) fun r14 =>
  br (!r14) (Q false) <|
  nx (wr (x+1))) <|
  Q true) 0
def slices_Clone_impl_Frac_impl_Frac (sx:List Frac) (Q:(List Frac)→Prop):Prop :=
  nilq sx fun z =>
  br (z) (Q ([])) <|
  (ln (([]:List Frac))+ln sx) * 16≤140737488355328∧(
  Q ((([]:List Frac))++sx))
def impl_cmpFrac (a:Frac) (b:Frac) (Q:Int→Prop):Prop :=
  br (decide ((wr (a.Num * b.Den))<(wr (b.Num * a.Den)))) (Q ((-1))) <|
  br (decide ((wr (a.Num * b.Den))>(wr (b.Num * a.Den)))) (Q 1) <|
  Q 0
def impl_EqualBreaks (values:List Frac) (k:Int) (Q:(List Frac)→Bool→Prop):Prop :=
  jn (fun (k2:Bool→Prop)=>br (decide ((ln values)<1)) (k2 true) <|
  br (decide ((ln values)>100)) (k2 true) <|
  impl_areFracs values fun r4 =>
  br (!r4) (k2 true) <|
  br (decide (k<2)) (k2 true) <|
  k2 (decide (k>8))) <|
  fun (x:Bool) =>
  br (x) (Q ([]) false) <|
  slices_Clone_impl_Frac_impl_Frac values fun r11 =>
  sortq (fun x y K=>impl_cmpFrac x y K) r11 fun ys =>
  (0:Int)≤(wr (k-1))∧16 * (wr (k-1))≤140737488355328∧(
  Loop2 (fun (breaks:List Frac) (x38:Int) nx =>
  br (decide (x38<(ln (List.replicate (Int.toNat (wr (k-1))) ((Frac.mk ((0:Int)) ((0:Int)))))))) (k≠0∧(
  idx ys (wr (Int.tdiv (wr ((wr (x38+1)) * (ln r11))) k)) fun x42 =>
  (0:Int)≤x38∧Int.toNat x38<List.length breaks∧(
  nx (List.set breaks (Int.toNat x38) x42) (wr (x38+1))))) <|
  Q breaks true) (List.replicate (Int.toNat (wr (k-1))) ((Frac.mk ((0:Int)) ((0:Int))))) 0)
def laws_eqFrac (a:Frac) (b:Frac) (Q:Bool→Prop):Prop :=
  br (a.Num != b.Num) (Q false) <|
  br (a.Den != b.Den) (Q false) <|
  Q true
def laws_eqFracS (a:List Frac) (b:List Frac) (Q:Bool→Prop):Prop :=
  br ((ln a)!=(ln b)) (Q false) <|
  Loop1 (fun (i:Int) nx =>
  br (decide (i<(ln a))) (idx a i fun x =>
  idx b i fun x16 =>
  det1 (laws_eqFrac x x16) fun r26 =>
  br (!r26) (Q false) <|
  nx (wr (i+1))) <|
  Q true) 0
def laws_markFracS (a:List Frac) (k:Int) (Q:Int→(List Frac)→Prop):Prop :=
  Loop3 (fun (a2:List Frac) (k6:Int) (i:Int) nx =>
  br (decide (i<(ln a))) (idx a2 i fun x =>
  idx (List.set a2 (Int.toNat i) ({x with Num:=k6}:Frac)) i fun x14 =>
  nx (List.set (List.set a2 (Int.toNat i) ({x with Num:=k6}:Frac)) (Int.toNat i) ({x14 with Den:=wr (k6+1)}:Frac)) (wr ((wr (k6+1))+1)) (wr (i+1))) <|
  Q k6 a2) a k 0
def laws_heldFracS (a:List Frac) (k:Int) (Q:Int→Prop):Prop :=
  Loop2 (fun (k2:Int) (i:Int) nx =>
  br (decide (i<(ln a))) (idx a i fun x =>
  br (x.Num != k2) (Q ((-1))) <|
  idx a i fun x7 =>
  br (x7.Den != (wr (k2+1))) (Q ((-1))) <|
  nx (wr ((wr (k2+1))+1)) (wr (i+1))) <|
  Q k2) k 0
def laws_FnExactEqualBreaks (aValues:List Frac) (aK:Int) (Q:Bool→Prop):Prop :=
  laws_szFracS aValues 1048576 fun r1 =>
  br (decide (r1<0)) (Q true) <|
  laws_toFracS aValues fun r3 =>
  spec_EqualBreaks r3 aK fun r12 r13 =>
  laws_toFracS aValues fun r23 =>
  impl_EqualBreaks r23 aK fun r34 r35 =>
  jn (fun (k:Bool→Prop)=>laws_eqFracS r34 r12 fun r61 =>
  br (!r61) (k true) <|
  k (r35 != r13)) <|
  fun (x58:Bool) =>
  br (x58) (Q false) <|
  laws_toFracS aValues fun r67 =>
  laws_eqFracS r23 r67 fun r78 =>
  br (!r78) (Q false) <|
  laws_markFracS r23 1 fun r86 r87 =>
  jn (fun (k104:Bool→Prop)=>br (decide (r86<0)) (k104 true) <|
  laws_eqFracS r34 r12 fun r107 =>
  br (!r107) (k104 true) <|
  k104 (r35 != r13)) <|
  fun (x101:Bool) =>
  br (x101) (Q false) <|
  laws_markFracS r34 1 fun r113 r114 =>
  laws_heldFracS r114 1 fun r122 =>
  br (decide (r122<0)) (Q false) <|
  br (r122 != r113) (Q false) <|
  laws_toFracS aValues fun r129 =>
  impl_EqualBreaks r129 aK fun r142 r143 =>
  jn (fun (k167:Bool→Prop)=>laws_eqFracS r142 r12 fun r169 =>
  br (!r169) (k167 true) <|
  k167 (r143 != r13)) <|
  fun (x164:Bool) =>
  br (x164) (Q false) <|
  laws_heldFracS r114 1 fun r175 =>
  br (decide (r175<0)) (Q false) <|
  br (r175 != r113) (Q false) <|
  Q true
end Go.Proofs.Ytbgnaamdlcggjaa
