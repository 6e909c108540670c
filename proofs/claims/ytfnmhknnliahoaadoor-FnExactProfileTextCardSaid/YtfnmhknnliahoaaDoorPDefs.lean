/- What each Go function means: a definition over numbers and lists; Q: what is to hold of its results. -/
import Derived.Test.YtfnmhknnliahoaaDoorBld
set_option linter.unusedVariables false
set_option autoImplicit false
namespace Go.Proofs.YtfnmhknnliahoaaDoor
open Go Go.RowKit Go.Gv
structure Geo where
  Parents:List Int
instance:Wf Geo:=⟨fun x=>Wf.wf x.Parents⟩
instance:Deep Geo:=Deep.via (fun x=>x.Parents)
theorem Geo_rd {h:PH} {cs:List Value} {x:Geo} (r:Enc.rd h cs x):∃ u0,cs=[u0]∧RS h u0 x.Parents:=by
  obtain ⟨u0,rfl,r0⟩:=r; exact ⟨_,rfl,r0⟩
theorem Geo_rv {h:PH} {v:Value} {x:Geo} (r:RV h v x):∃ u0,v = .agg #[u0]∧RS h u0 x.Parents:=by
  obtain ⟨cs,hr,rfl⟩:=r; obtain ⟨u0,rfl,r0⟩:=Geo_rd hr; exact ⟨_,rfl,r0⟩
structure Variable where
  Name:ByteArray
  Levels:Int
instance:Wf Variable:=⟨fun x=>Wf.wf x.Name∧Wf.wf x.Levels⟩
instance:Flat Variable where
  n:=2
  agg:=true
  rd _ cs x:=cs=[.string x.Name,I x.Levels]
  enc x:=[.string x.Name,I x.Levels]
  len h:=by subst h; rfl
  le _ h:=h
  one h c hc:=by subst h; simp at hc; rcases hc with rfl | rfl <;> rfl
  sing h:=by cases h
  flat:=Iff.rfl
theorem Variable_rv {h:PH} {v:Value} {x:Variable} (r:RV h v x):v = .agg #[.string x.Name,I x.Levels]:=by obtain ⟨cs,rfl,rfl⟩:=r; rfl
structure Table where
  Level:Int
  Vars:List Int
  Where:List Int
  Sum:Int
instance:Wf Table:=⟨fun x=>Wf.wf x.Level∧Wf.wf x.Vars∧Wf.wf x.Where∧Wf.wf x.Sum⟩
instance:Deep Table:=Deep.via (fun x=>(x.Level,x.Vars,x.Where,x.Sum))
theorem Table_rd {h:PH} {cs:List Value} {x:Table} (r:Enc.rd h cs x):∃ u0 u1,cs=[I x.Level,u0,u1,I x.Sum]∧RS h u0 x.Vars∧RS h u1 x.Where:=by
  obtain ⟨_,_,rfl,rfl,⟨_,_,rfl,⟨u0,rfl,r0⟩,⟨_,_,rfl,⟨u1,rfl,r1⟩,rfl⟩⟩⟩:=r; exact ⟨_,_,rfl,r0,r1⟩
theorem Table_rv {h:PH} {v:Value} {x:Table} (r:RV h v x):∃ u0 u1,v = .agg #[I x.Level,u0,u1,I x.Sum]∧RS h u0 x.Vars∧RS h u1 x.Where:=by
  obtain ⟨cs,hr,rfl⟩:=r; obtain ⟨u0,u1,rfl,r0,r1⟩:=Table_rd hr; exact ⟨_,_,rfl,r0,r1⟩
structure Frac where
  Num:Int
  Den:Int
instance:Wf Frac:=⟨fun x=>Wf.wf x.Num∧Wf.wf x.Den⟩
instance:Flat Frac where
  n:=2
  agg:=true
  rd _ cs x:=cs=[I x.Num,I x.Den]
  enc x:=[I x.Num,I x.Den]
  len h:=by subst h; rfl
  le _ h:=h
  one h c hc:=by subst h; simp at hc; rcases hc with rfl | rfl <;> rfl
  sing h:=by cases h
  flat:=Iff.rfl
def laws_szIntS (a:List Int) (left:Int) (Q:Int→Prop):Prop :=
  br (decide ((wr (left-(ln a)))<0)) (Q ((-1))) <|
  Q (wr (left-(ln a)))
def laws_szGeo (a:Geo) (left:Int) (Q:Int→Prop):Prop :=
  laws_szIntS a.Parents left fun r3 =>
  br (decide (r3<0)) (Q ((-1))) <|
  Q r3
def laws_szVariable (a:Variable) (left:Int) (Q:Int→Prop):Prop :=
  br (decide ((wr (left-(sln a.Name)))<0)) (Q ((-1))) <|
  Q (wr (left-(sln a.Name)))
def laws_szVariableS (a:List Variable) (left:Int) (Q:Int→Prop):Prop :=
  br (decide ((wr (left-(ln a)))<0)) (Q ((-1))) <|
  Loop2 (fun (left2:Int) (i:Int) nx =>
  br (decide (i<(ln a))) (idx a i fun x =>
  laws_szVariable x left2 fun r11 =>
  br (decide (r11<0)) (Q ((-1))) <|
  nx r11 (wr (i+1))) <|
  Q left2) (wr (left-(ln a))) 0
def laws_szTable (a:Table) (left:Int) (Q:Int→Prop):Prop :=
  laws_szIntS a.Vars left fun r9 =>
  br (decide (r9<0)) (Q ((-1))) <|
  laws_szIntS a.Where r9 fun r15 =>
  br (decide (r15<0)) (Q ((-1))) <|
  Q r15
def laws_toIntS (a:List Int) (Q:(List Int)→Prop):Prop :=
  (0:Int)≤(ln a)∧8 * (ln a)≤140737488355328∧(
  Loop2 (fun (out:List Int) (i:Int) nx =>
  br (decide (i<(ln a))) (idx a i fun x14 =>
  (0:Int)≤i∧Int.toNat i<List.length out∧(
  nx (List.set out (Int.toNat i) x14) (wr (i+1)))) <|
  Q out) (List.replicate (Int.toNat (ln a)) ((0:Int))) 0)
def laws_toGeo (a:Geo) (Q:Geo→Prop):Prop :=
  laws_toIntS a.Parents fun r14 =>
  Q ((Geo.mk r14))
def laws_toVariable (a:Variable) (Q:Variable→Prop):Prop :=
  Q ((Variable.mk a.Name a.Levels))
def laws_toVariableS (a:List Variable) (Q:(List Variable)→Prop):Prop :=
  (0:Int)≤(ln a)∧24 * (ln a)≤140737488355328∧(
  Loop2 (fun (out:List Variable) (i:Int) nx =>
  br (decide (i<(ln a))) (idx a i fun x14 =>
  laws_toVariable x14 fun r21 =>
  (0:Int)≤i∧Int.toNat i<List.length out∧(
  nx (List.set out (Int.toNat i) r21) (wr (i+1)))) <|
  Q out) (List.replicate (Int.toNat (ln a)) ((Variable.mk ((ByteArray.mk #[])) ((0:Int))))) 0)
def laws_toTable (a:Table) (Q:Table→Prop):Prop :=
  laws_toIntS a.Vars fun r24 =>
  laws_toIntS a.Where fun r44 =>
  Q ((Table.mk a.Level r24 r44 a.Sum))
def spec_l1In (n:Int) (lo:Int) (hi:Int) (Q:Bool→Prop):Prop :=
  jn (fun (k:Bool→Prop)=>br (decide (n≥lo)) (k (decide (n≤hi))) <|
  k false) <|
  fun (x:Bool) =>
  Q x
def spec_gGood (g:Geo) (Q:Bool→Prop):Prop :=
  jn (fun (k:Bool→Prop)=>spec_l1In (ln g.Parents) 1 30 fun r8 =>
  br (!r8) (k true) <|
  idx g.Parents 0 fun x12 =>
  k (x12 != ((-1)))) <|
  fun (x5:Bool) =>
  br (x5) (Q false) <|
  Loop1 (fun (x22:Int) nx =>
  br (decide (x22<(ln g.Parents))) (idx g.Parents x22 fun x26 =>
  jn (fun (k40:Bool→Prop)=>br (decide (x22>0)) (spec_l1In x26 0 (wr (x22-1)) fun r43 =>
  k40 (!r43)) <|
  k40 false) <|
  fun (x37:Bool) =>
  br (x37) (Q false) <|
  nx (wr (x22+1))) <|
  Q true) 0
def spec_sName (sx:ByteArray) (Q:Bool→Prop):Prop :=
  Loop1 (fun (i:Int) nx =>
  br (decide (i<(sln sx))) (jn (fun (k:Bool→Prop)=>sidx sx i fun c =>
  br (decide ((c)<97)) (k true) <|
  sidx sx i fun c3 =>
  k (decide ((c3)>122))) <|
  fun (x:Bool) =>
  br (x) (Q false) <|
  nx (wr (i+1))) <|
  spec_l1In (sln sx) 1 8 fun r =>
  Q r) 0
def spec_sFind (sx:List Variable) (name:ByteArray) (Q:Int→Prop):Prop :=
  Loop1 (fun (x:Int) nx =>
  br (decide (x<(ln sx))) (idx sx x fun x2 =>
  br (streq x2.Name name) (Q x) <|
  nx (wr (x+1))) <|
  Q ((-1))) 0
def spec_sGood (sx:List Variable) (Q:Bool→Prop):Prop :=
  spec_l1In (ln sx) 1 6 fun r1 =>
  br (!r1) (Q false) <|
  Loop1 (fun (x3:Int) nx =>
  br (decide (x3<(ln sx))) (idx sx x3 fun x7 =>
  jn (fun (k:Bool→Prop)=>det1 (spec_sName x7.Name) fun r27 =>
  br (!r27) (k true) <|
  det1 (spec_l1In x7.Levels 2 8) fun r33 =>
  br (!r33) (k true) <|
  (0:Int)≤0∧0≤x3∧x3≤ln sx∧(
  det1 (spec_sFind (List.take (Int.toNat x3-Int.toNat 0) (List.drop (Int.toNat 0) sx)) x7.Name) fun r44 =>
  k (decide (r44≥0)))) <|
  fun (x24:Bool) =>
  br (x24) (Q false) <|
  nx (wr (x3+1))) <|
  Q true) 0
def spec_gDepth (g:Geo) (i:Int) (Q:Int→Prop):Prop :=
  Loop2 (fun (i2:Int) (n:Int) nx =>
  idx g.Parents i2 fun x4 =>
  br (decide (x4≥0)) (idx g.Parents i2 fun x11 =>
  nx x11 (wr (n+1))) <|
  Q n) i 0
def spec_gLevel (g:Geo) (level:Int) (Q:(List Int)→Prop):Prop :=
  Loop2 (fun (out:List Int) (x6:Int) nx =>
  br (decide (x6<(ln g.Parents))) (jn (fun (k:(List Int)→Prop)=>spec_gDepth ((Geo.mk g.Parents)) x6 fun r27 =>
  br (r27==level) ((ln out+ln ([x6])) * 8≤140737488355328∧(
  k (out++([x6])))) <|
  k out) <|
  fun (out17:List Int) =>
  nx out17 (wr (x6+1))) <|
  Q out) ([]) 0
def spec_l1Rising (l:List Int) (lo:Int) (hi:Int) (Q:Bool→Prop):Prop :=
  Loop1 (fun (x:Int) nx =>
  br (decide (x<(ln l))) (idx l x fun x2 =>
  jn (fun (k:Bool→Prop)=>spec_l1In x2 lo hi fun r14 =>
  br (!r14) (k true) <|
  br (decide (x>0)) (idx l (wr (x-1)) fun x19 =>
  k (decide (x19≥x2))) <|
  k false) <|
  fun (x11:Bool) =>
  br (x11) (Q false) <|
  nx (wr (x+1))) <|
  Q true) 0
def spec_uWhere (sx:List Variable) (wherex:List Int) (Q:Bool→Prop):Prop :=
  br ((ln wherex)!=(ln sx)) (Q false) <|
  Loop1 (fun (x:Int) nx =>
  br (decide (x<(ln sx))) (idx sx x fun x9 =>
  idx wherex x fun x21 =>
  (0:Int)≤(IntKind.u64.wrap (x9.Levels))∧(
  det1 (spec_l1In x21 0 (wr ((shl .i64 1 (IntKind.u64.wrap (x9.Levels)))-1))) fun r32 =>
  br (!r32) (Q false) <|
  nx (wr (x+1)))) <|
  Q true) 0
def spec_sPart (sx:List Variable) (vars:List Int) (Q:(List Variable)→Prop):Prop :=
  Loop2 (fun (out:List Variable) (x:Int) nx =>
  br (decide (x<(ln vars))) (idx vars x fun x13 =>
  idx sx x13 fun x20 =>
  (ln out+ln ([x20])) * 24≤140737488355328∧(
  nx (out++([x20])) (wr (x+1)))) <|
  Q out) ([]) 0
def spec_sCount (sx:List Variable) (Q:Int→Prop):Prop :=
  Loop2 (fun (n:Int) (x:Int) nx =>
  br (decide (x<(ln sx))) (idx sx x fun x2 =>
  nx (wr (n * x2.Levels)) (wr (x+1))) <|
  Q n) 1 0
def spec_uCount (g:Geo) (sx:List Variable) (t:Table) (Q:Int→Prop):Prop :=
  spec_gLevel ((Geo.mk g.Parents)) t.Level fun r31 =>
  spec_sPart sx t.Vars fun r46 =>
  det1 (spec_sCount r46) fun r59 =>
  Q (wr ((ln r31) * r59))
def spec_uGood (g:Geo) (sx:List Variable) (t:Table) (Q:Bool→Prop):Prop :=
  jn (fun (k:Bool→Prop)=>spec_gGood ((Geo.mk g.Parents)) fun r37 =>
  br (!r37) (k true) <|
  spec_sGood sx fun r40 =>
  br (!r40) (k true) <|
  spec_gLevel ((Geo.mk g.Parents)) t.Level fun r49 =>
  br ((ln r49)==0) (k true) <|
  spec_l1Rising t.Vars 0 (wr ((ln sx)-1)) fun r62 =>
  br (!r62) (k true) <|
  spec_uWhere sx t.Where fun r70 =>
  br (!r70) (k true) <|
  spec_l1In t.Sum ((-1)) (wr ((ln sx)-1)) fun r80 =>
  k (!r80)) <|
  fun (x34:Bool) =>
  br (x34) (Q false) <|
  spec_uCount ((Geo.mk g.Parents)) sx ((Table.mk t.Level t.Vars t.Where t.Sum)) fun r88 =>
  Q (decide (r88≤600))
def spec_l1All (l:List Int) (lo:Int) (hi:Int) (Q:Bool→Prop):Prop :=
  Loop1 (fun (x:Int) nx =>
  br (decide (x<(ln l))) (idx l x fun x2 =>
  spec_l1In x2 lo hi fun r10 =>
  br (!r10) (Q false) <|
  nx (wr (x+1))) <|
  Q true) 0
def spec_tSum (l:List Int) (Q:Int→Prop):Prop :=
  Loop2 (fun (sum:Int) (x:Int) nx =>
  br (decide (x<(ln l))) (idx l x fun x1 =>
  nx (wr (sum+x1)) (wr (x+1))) <|
  Q sum) 0 0
def spec_l1Num (n:Int) (Q:ByteArray→Prop):Prop :=
  Rec1 (fun (self:Int→(ByteArray→Prop)→Prop) (n:Int) (Q:ByteArray→Prop) =>
  br (decide (n<10)) (Q (b2s ([(B8.mk (IntKind.u8.wrap (wr (48+n))))]))) <|
  det1 (self (wr (Int.tdiv n 10))) fun r =>
  sln r+sln (b2s ([(B8.mk (IntKind.u8.wrap (wr (48+(Int.tmod n 10)))))]))≤9223372036854775807∧(
  Q (r++(b2s ([(B8.mk (IntKind.u8.wrap (wr (48+(Int.tmod n 10)))))]))))) n Q
def spec_l1Most (a:Int) (b:Int) (Q:Int→Prop):Prop :=
  br (decide (a>b)) (Q a) <|
  Q b
def spec_l1Abs (n:Int) (Q:Int→Prop):Prop :=
  spec_l1Most n (wr (0-n)) fun r =>
  Q r
def spec_fGcd (a:Int) (b:Int) (Q:Int→Prop):Prop :=
  Loop2 (fun (a1:Int) (b2:Int) nx =>
  br (b2 != 0) (b2≠0∧(
  nx b2 (Int.tmod a1 b2))) <|
  spec_l1Abs a1 fun r =>
  Q r) a b
def spec_fGood (f:Frac) (Q:Bool→Prop):Prop :=
  jn (fun (k:Bool→Prop)=>spec_l1In f.Den 1 1000000000 fun r =>
  br (r) (spec_l1In f.Num ((-1000000000)) 1000000000 fun r10 =>
  br (r10) (spec_fGcd f.Num f.Den fun r15 =>
  k (r15==1)) <|
  k false) <|
  k false) <|
  fun (x4:Bool) =>
  Q x4
def spec_fMake (n:Int) (d:Int) (Q:Frac→Bool→Prop):Prop :=
  br (d==0) (Q ((Frac.mk 0 0)) false) <|
  spec_fGcd n d fun r =>
  jn (fun (k:Int→Prop)=>br (decide (d<0)) (k (wr (0-r))) <|
  k r) <|
  fun (g:Int) =>
  g≠0∧(
  g≠0∧(
  spec_fGood ((Frac.mk (wr (Int.tdiv n g)) (wr (Int.tdiv d g)))) fun r28 =>
  br (!r28) (Q ((Frac.mk 0 0)) false) <|
  Q ((Frac.mk (wr (Int.tdiv n g)) (wr (Int.tdiv d g)))) true))
def spec_l1Int (n:Int) (Q:ByteArray→Prop):Prop :=
  br (decide (n<0)) (spec_l1Num (wr (0-n)) fun r =>
  sln ((ByteArray.mk #[45]))+sln r≤9223372036854775807∧(
  Q (((ByteArray.mk #[45]))++r))) <|
  spec_l1Num n fun r2 =>
  Q r2
def spec_fText (f:Frac) (Q:ByteArray→Prop):Prop :=
  br (f.Den==1) (spec_l1Int f.Num fun r =>
  Q r) <|
  det1 (spec_l1Int f.Num) fun r5 =>
  sln r5+sln ((ByteArray.mk #[47]))≤9223372036854775807∧(
  det1 (spec_l1Num f.Den) fun r8 =>
  sln (r5++((ByteArray.mk #[47])))+sln r8≤9223372036854775807∧(
  Q ((r5++((ByteArray.mk #[47])))++r8)))
def spec_ProfileText (g:Geo) (sx:List Variable) (t:Table) (cells:List Int) (Q:ByteArray→Bool→Prop):Prop :=
  jn (fun (k:Bool→Prop)=>spec_uGood ((Geo.mk g.Parents)) sx ((Table.mk t.Level t.Vars t.Where t.Sum)) fun r44 =>
  br (!r44) (k true) <|
  spec_uCount ((Geo.mk g.Parents)) sx ((Table.mk t.Level t.Vars t.Where t.Sum)) fun r49 =>
  br ((ln cells)!=r49) (k true) <|
  spec_l1All cells 0 10000 fun r58 =>
  k (!r58)) <|
  fun (x41:Bool) =>
  br (x41) (Q ((ByteArray.mk #[])) false) <|
  spec_sPart sx t.Vars fun r67 =>
  spec_sCount r67 fun r78 =>
  spec_gLevel ((Geo.mk g.Parents)) t.Level fun r85 =>
  Loop2 (fun (out:ByteArray) (x96:Int) nx =>
  br (decide (x96<(ln r85))) (idx r85 x96 fun x100 =>
  (0:Int)≤(wr (x96 * r78))∧(wr (x96 * r78))≤(wr ((wr (x96+1)) * r78))∧(wr ((wr (x96+1)) * r78))≤ln cells∧(
  spec_tSum (List.take (Int.toNat (wr ((wr (x96+1)) * r78))-Int.toNat (wr (x96 * r78))) (List.drop (Int.toNat (wr (x96 * r78))) cells)) fun r111 =>
  spec_l1Num x100 fun r116 =>
  sln r116+sln ((ByteArray.mk #[58,32]))≤9223372036854775807∧(
  spec_l1Num r111 fun r119 =>
  sln (r116++((ByteArray.mk #[58,32])))+sln r119≤9223372036854775807∧(
  sln out+sln ((r116++((ByteArray.mk #[58,32])))++r119)≤9223372036854775807∧(
  Loop2 (fun (out124:ByteArray) (x125:Int) nx131 =>
  br (decide (x125<(ln (List.take (Int.toNat (wr ((wr (x96+1)) * r78))-Int.toNat (wr (x96 * r78))) (List.drop (Int.toNat (wr (x96 * r78))) cells))))) (jn (fun (k143:ByteArray→Prop)=>idx (List.take (Int.toNat (wr ((wr (x96+1)) * r78))-Int.toNat (wr (x96 * r78))) (List.drop (Int.toNat (wr (x96 * r78))) cells)) x125 fun x145 =>
  br (r111==0) (sln out124+sln ((ByteArray.mk #[32,45]))≤9223372036854775807∧(
  k143 (out124++((ByteArray.mk #[32,45]))))) <|
  spec_fMake x145 r111 fun r156 r157 =>
  spec_fText ((Frac.mk r156.Num r156.Den)) fun r167 =>
  sln ((ByteArray.mk #[32]))+sln r167≤9223372036854775807∧(
  sln out124+sln (((ByteArray.mk #[32]))++r167)≤9223372036854775807∧(
  k143 (out124++(((ByteArray.mk #[32]))++r167))))) <|
  fun (out140:ByteArray) =>
  nx131 out140 (wr (x125+1))) <|
  sln out124+sln ((ByteArray.mk #[10]))≤9223372036854775807∧(
  nx (out124++((ByteArray.mk #[10]))) (wr (x96+1)))) (out++((r116++((ByteArray.mk #[58,32])))++r119)) 0))))) <|
  Q out true) ((ByteArray.mk #[])) 0
def impl_IsGeo (g:Geo) (Q:Bool→Prop):Prop :=
  jn (fun (k:Bool→Prop)=>br (decide ((ln g.Parents)<1)) (k true) <|
  br (decide ((ln g.Parents)>30)) (k true) <|
  idx g.Parents 0 fun x8 =>
  k (x8 != ((-1)))) <|
  fun (x5:Bool) =>
  br (x5) (Q false) <|
  Loop1 (fun (i:Int) nx =>
  br (decide (i<(ln g.Parents))) (jn (fun (k19:Bool→Prop)=>idx g.Parents i fun x21 =>
  br (decide (x21<0)) (k19 true) <|
  idx g.Parents i fun x31 =>
  k19 (decide (x31≥i))) <|
  fun (x17:Bool) =>
  br (x17) (Q false) <|
  nx (wr (i+1))) <|
  Q true) 1
def impl_isWord (sx:ByteArray) (Q:Bool→Prop):Prop :=
  jn (fun (k:Bool→Prop)=>br (decide ((sln sx)<1)) (k true) <|
  k (decide ((sln sx)>8))) <|
  fun (x:Bool) =>
  br (x) (Q false) <|
  Loop1 (fun (x2:Int) nx =>
  br (decide (x2<(sln sx))) (jn (fun (k7:Bool→Prop)=>sidx sx x2 fun c =>
  br (decide ((c)<97)) (k7 true) <|
  sidx sx x2 fun c10 =>
  k7 (decide ((c10)>122))) <|
  fun (x5:Bool) =>
  br (x5) (Q false) <|
  nx (wr (x2+1))) <|
  Q true) 0
def impl_IsSchema (sx:List Variable) (Q:Bool→Prop):Prop :=
  jn (fun (k:Bool→Prop)=>br (decide ((ln sx)<1)) (k true) <|
  k (decide ((ln sx)>6))) <|
  fun (x:Bool) =>
  br (x) (Q false) <|
  Loop1 (fun (x2:Int) nx =>
  br (decide (x2<(ln sx))) (idx sx x2 fun x6 =>
  jn (fun (k25:Bool→Prop)=>impl_isWord x6.Name fun r27 =>
  br (!r27) (k25 true) <|
  br (decide (x6.Levels<2)) (k25 true) <|
  k25 (decide (x6.Levels>8))) <|
  fun (x22:Bool) =>
  br (x22) (Q false) <|
  (0:Int)≤0∧0≤x2∧x2≤ln sx∧(
  Loop1 (fun (x39:Int) nx45 =>
  br (decide (x39<(ln (List.take (Int.toNat x2-Int.toNat 0) (List.drop (Int.toNat 0) sx))))) (idx (List.take (Int.toNat x2-Int.toNat 0) (List.drop (Int.toNat 0) sx)) x39 fun x47 =>
  br (streq x47.Name x6.Name) (Q false) <|
  nx45 (wr (x39+1))) <|
  nx (wr (x2+1))) 0)) <|
  Q true) 0
def impl_areVars (sx:List Variable) (vars:List Int) (Q:Bool→Prop):Prop :=
  Loop2 (fun (last:Int) (x:Int) nx =>
  br (decide (x<(ln vars))) (idx vars x fun x7 =>
  jn (fun (k:Bool→Prop)=>br (decide (x7≤last)) (k true) <|
  k (decide (x7≥(ln sx)))) <|
  fun (x13:Bool) =>
  br (x13) (Q false) <|
  nx x7 (wr (x+1))) <|
  Q true) ((-1)) 0
def impl_fullSet (vx:Variable) (Q:Int→Prop):Prop :=
  (0:Int)≤vx.Levels∧(
  Q (wr ((shl .i64 1 vx.Levels)-1)))
def impl_isWhere (sx:List Variable) (wherex:List Int) (Q:Bool→Prop):Prop :=
  br ((ln wherex)!=(ln sx)) (Q false) <|
  Loop1 (fun (x:Int) nx =>
  br (decide (x<(ln wherex))) (idx wherex x fun x9 =>
  jn (fun (k:Bool→Prop)=>br (decide (x9<0)) (k true) <|
  idx sx x fun x22 =>
  impl_fullSet x22 fun r31 =>
  k (decide (x9>r31))) <|
  fun (x18:Bool) =>
  br (x18) (Q false) <|
  nx (wr (x+1))) <|
  Q true) 0
def impl_depthOf (g:Geo) (i:Int) (Q:Int→Prop):Prop :=
  Loop2 (fun (i2:Int) (d:Int) nx =>
  br (decide (i2>0)) (idx g.Parents i2 fun x4 =>
  nx x4 (wr (d+1))) <|
  Q d) i 0
def impl_areasAt (g:Geo) (level:Int) (Q:(List Int)→Prop):Prop :=
  Loop2 (fun (list:List Int) (x6:Int) nx =>
  br (decide (x6<(ln g.Parents))) (jn (fun (k:(List Int)→Prop)=>impl_depthOf ((Geo.mk g.Parents)) x6 fun r27 =>
  br (r27==level) ((ln list+ln ([x6])) * 8≤140737488355328∧(
  k (list++([x6])))) <|
  k list) <|
  fun (list17:List Int) =>
  nx list17 (wr (x6+1))) <|
  Q list) ([]) 0
def impl_crossed (sx:List Variable) (t:Table) (Q:(List Variable)→Prop):Prop :=
  (0:Int)≤(ln t.Vars)∧24 * (ln t.Vars)≤140737488355328∧(
  Loop2 (fun (out:List Variable) (x28:Int) nx =>
  br (decide (x28<(ln t.Vars))) (idx t.Vars x28 fun x31 =>
  idx sx x31 fun x39 =>
  (0:Int)≤x28∧Int.toNat x28<List.length out∧(
  nx (List.set out (Int.toNat x28) x39) (wr (x28+1)))) <|
  Q out) (List.replicate (Int.toNat (ln t.Vars)) ((Variable.mk ((ByteArray.mk #[])) ((0:Int))))) 0)
def impl_combinations (sx:List Variable) (Q:Int→Prop):Prop :=
  Loop2 (fun (n:Int) (x:Int) nx =>
  br (decide (x<(ln sx))) (idx sx x fun x2 =>
  nx (wr (n * x2.Levels)) (wr (x+1))) <|
  Q n) 1 0
def impl_cellCount (g:Geo) (sx:List Variable) (t:Table) (Q:Int→Prop):Prop :=
  impl_areasAt ((Geo.mk g.Parents)) t.Level fun r31 =>
  impl_crossed sx ((Table.mk t.Level t.Vars t.Where t.Sum)) fun r46 =>
  det1 (impl_combinations r46) fun r60 =>
  Q (wr ((ln r31) * r60))
def impl_isTable (g:Geo) (sx:List Variable) (t:Table) (Q:Bool→Prop):Prop :=
  jn (fun (k:Bool→Prop)=>impl_areVars sx t.Vars fun r37 =>
  br (!r37) (k true) <|
  impl_isWhere sx t.Where fun r41 =>
  br (!r41) (k true) <|
  br (decide (t.Sum<((-1)))) (k true) <|
  k (decide (t.Sum≥(ln sx)))) <|
  fun (x34:Bool) =>
  br (x34) (Q false) <|
  impl_cellCount ((Geo.mk g.Parents)) sx ((Table.mk t.Level t.Vars t.Where t.Sum)) fun r56 =>
  jn (fun (k67:Bool→Prop)=>br (decide (r56>0)) (k67 (decide (r56≤600))) <|
  k67 false) <|
  fun (x65:Bool) =>
  Q x65
def impl_areTabled (g:Geo) (sx:List Variable) (t:Table) (Q:Bool→Prop):Prop :=
  jn (fun (k:Bool→Prop)=>impl_IsGeo ((Geo.mk g.Parents)) fun r37 =>
  br (r37) (impl_IsSchema sx fun r40 =>
  br (r40) (impl_isTable ((Geo.mk g.Parents)) sx ((Table.mk t.Level t.Vars t.Where t.Sum)) fun r48 =>
  k r48) <|
  k false) <|
  k false) <|
  fun (x34:Bool) =>
  Q x34
def impl_areWithin (l:List Int) (lo:Int) (hi:Int) (Q:Bool→Prop):Prop :=
  Loop1 (fun (x:Int) nx =>
  br (decide (x<(ln l))) (idx l x fun x1 =>
  jn (fun (k:Bool→Prop)=>br (decide (x1<lo)) (k true) <|
  k (decide (x1>hi))) <|
  fun (x8:Bool) =>
  br (x8) (Q false) <|
  nx (wr (x+1))) <|
  Q true) 0
def impl_total (l:List Int) (Q:Int→Prop):Prop :=
  Loop2 (fun (sum:Int) (x:Int) nx =>
  br (decide (x<(ln l))) (idx l x fun x1 =>
  nx (wr (sum+x1)) (wr (x+1))) <|
  Q sum) 0 0
def strconv_Itoa (n:Int) (Q:ByteArray→Prop):Prop:=itoaM n Q
def impl_gcdOf (a:Int) (b:Int) (Q:Int→Prop):Prop :=
  jn (fun (k:Int→Prop)=>br (decide (a<0)) (k (wr (0-a))) <|
  k a) <|
  fun (a1:Int) =>
  jn (fun (k4:Int→Prop)=>br (decide (b<0)) (k4 (wr (0-b))) <|
  k4 b) <|
  fun (b2:Int) =>
  Loop2 (fun (a7:Int) (b8:Int) nx =>
  br (b8 != 0) (b8≠0∧(
  nx b8 (Int.tmod a7 b8))) <|
  Q a7) a1 b2
def impl_reduced (n:Int) (d:Int) (Q:Frac→Bool→Prop):Prop :=
  impl_gcdOf n d fun r =>
  r≠0∧(
  r≠0∧(
  jn (fun (k:Int→Int→Prop)=>br (decide ((wr (Int.tdiv d r))<0)) (k (wr (0-(wr (Int.tdiv n r)))) (wr (0-(wr (Int.tdiv d r))))) <|
  k (wr (Int.tdiv n r)) (wr (Int.tdiv d r))) <|
  fun (n10:Int) (d11:Int) =>
  jn (fun (k15:Bool→Prop)=>br (decide (n10>1000000000)) (k15 true) <|
  br (decide (n10<((-1000000000)))) (k15 true) <|
  k15 (decide (d11>1000000000))) <|
  fun (x13:Bool) =>
  br (x13) (Q ((Frac.mk 0 0)) false) <|
  Q ((Frac.mk n10 d11)) true))
def impl_IsFrac (f:Frac) (Q:Bool→Prop):Prop :=
  jn (fun (k:Bool→Prop)=>br (decide (f.Den≥1)) (br (decide (f.Den≤1000000000)) (br (decide (f.Num≥((-1000000000)))) (br (decide (f.Num≤1000000000)) (impl_gcdOf f.Num f.Den fun r =>
  k (r==1)) <|
  k false) <|
  k false) <|
  k false) <|
  k false) <|
  fun (x4:Bool) =>
  Q x4
def impl_FracText (f:Frac) (Q:ByteArray→Bool→Prop):Prop :=
  impl_IsFrac ((Frac.mk f.Num f.Den)) fun r =>
  br (!r) (Q ((ByteArray.mk #[])) false) <|
  strconv_Itoa f.Num fun r6 =>
  jn (fun (k:ByteArray→Prop)=>br (f.Den != 1) (strconv_Itoa f.Den fun r18 =>
  sln ((ByteArray.mk #[47]))+sln r18≤9223372036854775807∧(
  sln r6+sln (((ByteArray.mk #[47]))++r18)≤9223372036854775807∧(
  k (r6++(((ByteArray.mk #[47]))++r18))))) <|
  k r6) <|
  fun (text:ByteArray) =>
  Q text true
def impl_fracText (f:Frac) (Q:ByteArray→Prop):Prop :=
  impl_FracText ((Frac.mk f.Num f.Den)) fun r r2 =>
  Q r
def impl_ProfileText (g:Geo) (sx:List Variable) (t:Table) (cells:List Int) (Q:ByteArray→Bool→Prop):Prop :=
  jn (fun (k:Bool→Prop)=>impl_areTabled ((Geo.mk g.Parents)) sx ((Table.mk t.Level t.Vars t.Where t.Sum)) fun r44 =>
  br (!r44) (k true) <|
  impl_cellCount ((Geo.mk g.Parents)) sx ((Table.mk t.Level t.Vars t.Where t.Sum)) fun r49 =>
  br ((ln cells)!=r49) (k true) <|
  impl_areWithin cells 0 10000 fun r58 =>
  k (!r58)) <|
  fun (x41:Bool) =>
  br (x41) (Q ((ByteArray.mk #[])) false) <|
  impl_areasAt ((Geo.mk g.Parents)) t.Level fun r68 =>
  (ln r68)≠0∧(
  Loop2 (fun (bs:ByteArray) (x83:Int) nx =>
  br (decide (x83<(ln r68))) (idx r68 x83 fun x87 =>
  (0:Int)≤(wr (x83 * (wr (Int.tdiv (ln cells) (ln r68)))))∧(wr (x83 * (wr (Int.tdiv (ln cells) (ln r68)))))≤(wr ((wr (x83+1)) * (wr (Int.tdiv (ln cells) (ln r68)))))∧(wr ((wr (x83+1)) * (wr (Int.tdiv (ln cells) (ln r68)))))≤ln cells∧(
  impl_total (List.take (Int.toNat (wr ((wr (x83+1)) * (wr (Int.tdiv (ln cells) (ln r68)))))-Int.toNat (wr (x83 * (wr (Int.tdiv (ln cells) (ln r68)))))) (List.drop (Int.toNat (wr (x83 * (wr (Int.tdiv (ln cells) (ln r68)))))) cells)) fun r98 =>
  strconv_Itoa x87 fun r105 =>
  sln r105+sln ((ByteArray.mk #[58,32]))≤9223372036854775807∧(
  strconv_Itoa r98 fun r113 =>
  sln (r105++((ByteArray.mk #[58,32])))+sln r113≤9223372036854775807∧(
  sln bs+sln ((r105++((ByteArray.mk #[58,32])))++r113)≤140737488355328∧(
  Loop2 (fun (bs123:ByteArray) (x125:Int) nx131 =>
  br (decide (x125<(ln (List.take (Int.toNat (wr ((wr (x83+1)) * (wr (Int.tdiv (ln cells) (ln r68)))))-Int.toNat (wr (x83 * (wr (Int.tdiv (ln cells) (ln r68)))))) (List.drop (Int.toNat (wr (x83 * (wr (Int.tdiv (ln cells) (ln r68)))))) cells))))) (idx (List.take (Int.toNat (wr ((wr (x83+1)) * (wr (Int.tdiv (ln cells) (ln r68)))))-Int.toNat (wr (x83 * (wr (Int.tdiv (ln cells) (ln r68)))))) (List.drop (Int.toNat (wr (x83 * (wr (Int.tdiv (ln cells) (ln r68)))))) cells)) x125 fun x133 =>
  jn (fun (k152:ByteArray→Prop)=>br (decide (r98>0)) (impl_reduced x133 r98 fun r155 r156 =>
  br (!r156) (Q ((ByteArray.mk #[])) false) <|
  impl_fracText ((Frac.mk r155.Num r155.Den)) fun r172 =>
  k152 r172) <|
  k152 ((ByteArray.mk #[45]))) <|
  fun (text:ByteArray) =>
  sln ((ByteArray.mk #[32]))+sln text≤9223372036854775807∧(
  sln bs123+sln (((ByteArray.mk #[32]))++text)≤140737488355328∧(
  nx131 (bs123++(((ByteArray.mk #[32]))++text)) (wr (x125+1))))) <|
  sln bs123+1≤140737488355328∧(
  nx (bs123++ByteArray.mk #[10]) (wr (x83+1)))) (bs++((r105++((ByteArray.mk #[58,32])))++r113)) 0))))) <|
  Q bs true) ((ByteArray.mk #[])) 0)
def laws_eqIntS (a:List Int) (b:List Int) (Q:Bool→Prop):Prop :=
  br ((ln a)!=(ln b)) (Q false) <|
  Loop1 (fun (i:Int) nx =>
  br (decide (i<(ln a))) (idx a i fun x =>
  idx b i fun x16 =>
  br (x != x16) (Q false) <|
  nx (wr (i+1))) <|
  Q true) 0
def laws_eqGeo (a:Geo) (b:Geo) (Q:Bool→Prop):Prop :=
  laws_eqIntS a.Parents b.Parents fun r16 =>
  br (!r16) (Q false) <|
  Q true
def laws_eqVariable (a:Variable) (b:Variable) (Q:Bool→Prop):Prop :=
  br (!streq a.Name b.Name) (Q false) <|
  br (a.Levels != b.Levels) (Q false) <|
  Q true
def laws_eqVariableS (a:List Variable) (b:List Variable) (Q:Bool→Prop):Prop :=
  br ((ln a)!=(ln b)) (Q false) <|
  Loop1 (fun (i:Int) nx =>
  br (decide (i<(ln a))) (idx a i fun x =>
  idx b i fun x16 =>
  det1 (laws_eqVariable x x16) fun r26 =>
  br (!r26) (Q false) <|
  nx (wr (i+1))) <|
  Q true) 0
def laws_eqTable (a:Table) (b:Table) (Q:Bool→Prop):Prop :=
  br (a.Level != b.Level) (Q false) <|
  laws_eqIntS a.Vars b.Vars fun r29 =>
  br (!r29) (Q false) <|
  laws_eqIntS a.Where b.Where fun r40 =>
  br (!r40) (Q false) <|
  br (a.Sum != b.Sum) (Q false) <|
  Q true
def laws_FnExactProfileText (aG:Geo) (aS:List Variable) (aT:Table) (aCells:List Int) (Q:Bool→Prop):Prop :=
  br (decide ((ln aCells)>1048576)) (Q true) <|
  laws_szGeo ((Geo.mk aG.Parents)) 1048576 fun r33 =>
  br (decide (r33<0)) (Q true) <|
  laws_szVariableS aS r33 fun r41 =>
  br (decide (r41<0)) (Q true) <|
  laws_szTable ((Table.mk aT.Level aT.Vars aT.Where aT.Sum)) r41 fun r51 =>
  br (decide (r51<0)) (Q true) <|
  laws_toGeo ((Geo.mk aG.Parents)) fun r68 =>
  laws_toVariableS aS fun r83 =>
  laws_toTable ((Table.mk aT.Level aT.Vars aT.Where aT.Sum)) fun r99 =>
  laws_toIntS aCells fun r121 =>
  det2 (spec_ProfileText ((Geo.mk r68.Parents)) r83 ((Table.mk r99.Level r99.Vars r99.Where r99.Sum)) r121) fun r133 r134 =>
  laws_toGeo ((Geo.mk aG.Parents)) fun r146 =>
  laws_toVariableS aS fun r165 =>
  laws_toTable ((Table.mk aT.Level aT.Vars aT.Where aT.Sum)) fun r184 =>
  laws_toIntS aCells fun r218 =>
  impl_ProfileText ((Geo.mk r146.Parents)) r165 ((Table.mk r184.Level r184.Vars r184.Where r184.Sum)) r218 fun r241 r242 =>
  jn (fun (k:Bool→Prop)=>br (!streq r241 r133) (k true) <|
  k (r242 != r134)) <|
  fun (x314:Bool) =>
  br (x314) (Q false) <|
  laws_toGeo ((Geo.mk aG.Parents)) fun r324 =>
  laws_eqGeo ((Geo.mk r146.Parents)) ((Geo.mk r324.Parents)) fun r341 =>
  br (!r341) (Q false) <|
  laws_toVariableS aS fun r350 =>
  laws_eqVariableS r165 r350 fun r362 =>
  br (!r362) (Q false) <|
  laws_toTable ((Table.mk aT.Level aT.Vars aT.Where aT.Sum)) fun r377 =>
  laws_eqTable ((Table.mk r184.Level r184.Vars r184.Where r184.Sum)) ((Table.mk r377.Level r377.Vars r377.Where r377.Sum)) fun r403 =>
  br (!r403) (Q false) <|
  laws_toIntS aCells fun r414 =>
  laws_eqIntS r218 r414 fun r426 =>
  br (!r426) (Q false) <|
  Q true
end Go.Proofs.YtfnmhknnliahoaaDoor
