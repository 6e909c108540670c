/- What each Go function means: a definition over numbers and lists; Q: what is to hold of its results. -/
import Derived.Test.YtfnmhknnliahoaaDoorBld
set_option linter.unusedVariables false
set_option autoImplicit false
namespace Go.Proofs.YtfnmhknnliahoaaDoor
open Go Go.RowKit Go.Gv
structure Geo where
  Parents:List Int
instance:Wf Geo:=⟨fun x=>Wf.wf x.Parents⟩
instance:Deep Geo:=Deep.via (fun x=>x.Parents)
theorem Geo_rd {h:PH} {cs:List Value} {x:Geo} (r:Enc.rd h cs x):∃ u0,cs=[u0]∧RS h u0 x.Parents:=by
  obtain ⟨u0,rfl,r0⟩:=r; exact ⟨_,rfl,r0⟩
theorem Geo_rv {h:PH} {v:Value} {x:Geo} (r:RV h v x):∃ u0,v = .agg #[u0]∧RS h u0 x.Parents:=by
  obtain ⟨cs,hr,rfl⟩:=r; obtain ⟨u0,rfl,r0⟩:=Geo_rd hr; exact ⟨_,rfl,r0⟩
def laws_szIntS (a:List Int) (left:Int) (Q:Int→Prop):Prop :=
  br (decide ((wr (left-(ln a)))<0)) (Q ((-1))) <|
  Q (wr (left-(ln a)))
def laws_szGeo (a:Geo) (left:Int) (Q:Int→Prop):Prop :=
  laws_szIntS a.Parents left fun r3 =>
  br (decide (r3<0)) (Q ((-1))) <|
  Q r3
def laws_toIntS (a:List Int) (Q:(List Int)→Prop):Prop :=
  (0:Int)≤(ln a)∧8 * (ln a)≤140737488355328∧(
  Loop2 (fun (out:List Int) (i:Int) nx =>
  br (decide (i<(ln a))) (idx a i fun x14 =>
  (0:Int)≤i∧Int.toNat i<List.length out∧(
  nx (List.set out (Int.toNat i) x14) (wr (i+1)))) <|
  Q out) (List.replicate (Int.toNat (ln a)) ((0:Int))) 0)
def laws_toGeo (a:Geo) (Q:Geo→Prop):Prop :=
  laws_toIntS a.Parents fun r14 =>
  Q ((Geo.mk r14))
def spec_l1In (n:Int) (lo:Int) (hi:Int) (Q:Bool→Prop):Prop :=
  jn (fun (k:Bool→Prop)=>br (decide (n≥lo)) (k (decide (n≤hi))) <|
  k false) <|
  fun (x:Bool) =>
  Q x
def spec_gGood (g:Geo) (Q:Bool→Prop):Prop :=
  jn (fun (k:Bool→Prop)=>spec_l1In (ln g.Parents) 1 30 fun r8 =>
  br (!r8) (k true) <|
  idx g.Parents 0 fun x12 =>
  k (x12 != ((-1)))) <|
  fun (x5:Bool) =>
  br (x5) (Q false) <|
  Loop1 (fun (x22:Int) nx =>
  br (decide (x22<(ln g.Parents))) (idx g.Parents x22 fun x26 =>
  jn (fun (k40:Bool→Prop)=>br (decide (x22>0)) (spec_l1In x26 0 (wr (x22-1)) fun r43 =>
  k40 (!r43)) <|
  k40 false) <|
  fun (x37:Bool) =>
  br (x37) (Q false) <|
  nx (wr (x22+1))) <|
  Q true) 0
def spec_l1All (l:List Int) (lo:Int) (hi:Int) (Q:Bool→Prop):Prop :=
  Loop1 (fun (x:Int) nx =>
  br (decide (x<(ln l))) (idx l x fun x2 =>
  spec_l1In x2 lo hi fun r10 =>
  br (!r10) (Q false) <|
  nx (wr (x+1))) <|
  Q true) 0
def spec_gDepth (g:Geo) (i:Int) (Q:Int→Prop):Prop :=
  Loop2 (fun (i2:Int) (n:Int) nx =>
  idx g.Parents i2 fun x4 =>
  br (decide (x4≥0)) (idx g.Parents i2 fun x11 =>
  nx x11 (wr (n+1))) <|
  Q n) i 0
def spec_l1Num (n:Int) (Q:ByteArray→Prop):Prop :=
  Rec1 (fun (self:Int→(ByteArray→Prop)→Prop) (n:Int) (Q:ByteArray→Prop) =>
  br (decide (n<10)) (Q (b2s ([(B8.mk (IntKind.u8.wrap (wr (48+n))))]))) <|
  det1 (self (wr (Int.tdiv n 10))) fun r =>
  sln r+sln (b2s ([(B8.mk (IntKind.u8.wrap (wr (48+(Int.tmod n 10)))))]))≤9223372036854775807∧(
  Q (r++(b2s ([(B8.mk (IntKind.u8.wrap (wr (48+(Int.tmod n 10)))))]))))) n Q
def spec_MapText (g:Geo) (classes:List Int) (Q:ByteArray→Bool→Prop):Prop :=
  jn (fun (k:Bool→Prop)=>spec_gGood ((Geo.mk g.Parents)) fun r15 =>
  br (!r15) (k true) <|
  br ((ln classes)!=(ln g.Parents)) (k true) <|
  spec_l1All classes 0 8 fun r20 =>
  k (!r20)) <|
  fun (x12:Bool) =>
  br (x12) (Q ((ByteArray.mk #[])) false) <|
  Loop2 (fun (out:ByteArray) (x26:Int) nx =>
  br (decide (x26<(ln classes))) (idx classes x26 fun x30 =>
  spec_gDepth ((Geo.mk g.Parents)) x26 fun r39 =>
  Loop2 (fun (out43:ByteArray) (d44:Int) nx49 =>
  br (decide (d44>0)) (sln out43+sln ((ByteArray.mk #[32,32]))≤9223372036854775807∧(
  nx49 (out43++((ByteArray.mk #[32,32]))) (wr (d44-1)))) <|
  spec_l1Num x26 fun r51 =>
  sln out43+sln r51≤9223372036854775807∧(
  jn (fun (k63:ByteArray→Prop)=>br (decide (x30>0)) (sln (out43++r51)+sln ((ByteArray.mk #[32]))≤9223372036854775807∧(
  k63 ((out43++r51)++((ByteArray.mk #[32]))))) <|
  k63 (out43++r51)) <|
  fun (out61:ByteArray) =>
  Loop2 (fun (out67:ByteArray) (k68:Int) nx73 =>
  br (decide (k68>0)) (sln out67+sln ((ByteArray.mk #[35]))≤9223372036854775807∧(
  nx73 (out67++((ByteArray.mk #[35]))) (wr (k68-1)))) <|
  sln out67+sln ((ByteArray.mk #[10]))≤9223372036854775807∧(
  nx (out67++((ByteArray.mk #[10]))) (wr (x26+1)))) out61 x30)) out r39) <|
  Q out true) ((ByteArray.mk #[])) 0
def impl_IsGeo (g:Geo) (Q:Bool→Prop):Prop :=
  jn (fun (k:Bool→Prop)=>br (decide ((ln g.Parents)<1)) (k true) <|
  br (decide ((ln g.Parents)>30)) (k true) <|
  idx g.Parents 0 fun x8 =>
  k (x8 != ((-1)))) <|
  fun (x5:Bool) =>
  br (x5) (Q false) <|
  Loop1 (fun (i:Int) nx =>
  br (decide (i<(ln g.Parents))) (jn (fun (k19:Bool→Prop)=>idx g.Parents i fun x21 =>
  br (decide (x21<0)) (k19 true) <|
  idx g.Parents i fun x31 =>
  k19 (decide (x31≥i))) <|
  fun (x17:Bool) =>
  br (x17) (Q false) <|
  nx (wr (i+1))) <|
  Q true) 1
def impl_areWithin (l:List Int) (lo:Int) (hi:Int) (Q:Bool→Prop):Prop :=
  Loop1 (fun (x:Int) nx =>
  br (decide (x<(ln l))) (idx l x fun x1 =>
  jn (fun (k:Bool→Prop)=>br (decide (x1<lo)) (k true) <|
  k (decide (x1>hi))) <|
  fun (x8:Bool) =>
  br (x8) (Q false) <|
  nx (wr (x+1))) <|
  Q true) 0
def impl_depthOf (g:Geo) (i:Int) (Q:Int→Prop):Prop :=
  Loop2 (fun (i2:Int) (d:Int) nx =>
  br (decide (i2>0)) (idx g.Parents i2 fun x4 =>
  nx x4 (wr (d+1))) <|
  Q d) i 0
def strings_Repeat (s:ByteArray) (c:Int) (Q:ByteArray→Prop):Prop:=repeatM s c Q
def strconv_Itoa (n:Int) (Q:ByteArray→Prop):Prop:=itoaM n Q
def impl_MapText (g:Geo) (classes:List Int) (Q:ByteArray→Bool→Prop):Prop :=
  jn (fun (k:Bool→Prop)=>impl_IsGeo ((Geo.mk g.Parents)) fun r15 =>
  br (!r15) (k true) <|
  br ((ln classes)!=(ln g.Parents)) (k true) <|
  impl_areWithin classes 0 8 fun r20 =>
  k (!r20)) <|
  fun (x12:Bool) =>
  br (x12) (Q ((ByteArray.mk #[])) false) <|
  Loop2 (fun (bs:ByteArray) (x30:Int) nx =>
  br (decide (x30<(ln classes))) (idx classes x30 fun x34 =>
  impl_depthOf ((Geo.mk g.Parents)) x30 fun r45 =>
  strings_Repeat ((ByteArray.mk #[32,32])) r45 fun r50 =>
  strconv_Itoa x30 fun r53 =>
  sln r50+sln r53≤9223372036854775807∧(
  sln bs+sln (r50++r53)≤140737488355328∧(
  jn (fun (k75:ByteArray→Prop)=>br (decide (x34>0)) (strings_Repeat ((ByteArray.mk #[35])) x34 fun r78 =>
  sln ((ByteArray.mk #[32]))+sln r78≤9223372036854775807∧(
  sln (bs++(r50++r53))+sln (((ByteArray.mk #[32]))++r78)≤140737488355328∧(
  k75 ((bs++(r50++r53))++(((ByteArray.mk #[32]))++r78))))) <|
  k75 (bs++(r50++r53))) <|
  fun (bs71:ByteArray) =>
  sln bs71+1≤140737488355328∧(
  nx (bs71++ByteArray.mk #[10]) (wr (x30+1)))))) <|
  Q bs true) ((ByteArray.mk #[])) 0
def laws_eqIntS (a:List Int) (b:List Int) (Q:Bool→Prop):Prop :=
  br ((ln a)!=(ln b)) (Q false) <|
  Loop1 (fun (i:Int) nx =>
  br (decide (i<(ln a))) (idx a i fun x =>
  idx b i fun x16 =>
  br (x != x16) (Q false) <|
  nx (wr (i+1))) <|
  Q true) 0
def laws_eqGeo (a:Geo) (b:Geo) (Q:Bool→Prop):Prop :=
  laws_eqIntS a.Parents b.Parents fun r16 =>
  br (!r16) (Q false) <|
  Q true
def laws_FnExactMapText (aG:Geo) (aClasses:List Int) (Q:Bool→Prop):Prop :=
  br (decide ((ln aClasses)>1048576)) (Q true) <|
  laws_szGeo ((Geo.mk aG.Parents)) 1048576 fun r9 =>
  br (decide (r9<0)) (Q true) <|
  laws_toGeo ((Geo.mk aG.Parents)) fun r16 =>
  laws_toIntS aClasses fun r26 =>
  spec_MapText ((Geo.mk r16.Parents)) r26 fun r38 r39 =>
  laws_toGeo ((Geo.mk aG.Parents)) fun r45 =>
  laws_toIntS aClasses fun r63 =>
  impl_MapText ((Geo.mk r45.Parents)) r63 fun r78 r79 =>
  jn (fun (k:Bool→Prop)=>br (!streq r78 r38) (k true) <|
  k (r79 != r39)) <|
  fun (x110:Bool) =>
  br (x110) (Q false) <|
  laws_toGeo ((Geo.mk aG.Parents)) fun r120 =>
  laws_eqGeo ((Geo.mk r45.Parents)) ((Geo.mk r120.Parents)) fun r136 =>
  br (!r136) (Q false) <|
  laws_toIntS aClasses fun r145 =>
  laws_eqIntS r63 r145 fun r157 =>
  br (!r157) (Q false) <|
  Q true
end Go.Proofs.YtfnmhknnliahoaaDoor
