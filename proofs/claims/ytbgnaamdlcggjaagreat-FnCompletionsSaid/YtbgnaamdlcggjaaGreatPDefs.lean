/- What each Go function means: a definition over numbers and lists; Q: what is to hold of its results. -/
import Derived.Test.YtbgnaamdlcggjaaGreatLib
set_option linter.unusedVariables false
set_option autoImplicit false
namespace Go.Proofs.YtbgnaamdlcggjaaGreat
open Go Go.RowKit Go.Gv
structure Variable where
  Name:ByteArray
  Levels:Int
instance:Wf Variable:=⟨fun x=>Wf.wf x.Name∧Wf.wf x.Levels⟩
instance:Flat Variable where
  n:=2
  agg:=true
  rd _ cs x:=cs=[.string x.Name,I x.Levels]
  enc x:=[.string x.Name,I x.Levels]
  len h:=by subst h; rfl
  le _ h:=h
  one h c hc:=by subst h; simp at hc; rcases hc with rfl | rfl <;> rfl
  sing h:=by cases h
  flat:=Iff.rfl
theorem Variable_rv {h:PH} {v:Value} {x:Variable} (r:RV h v x):v = .agg #[.string x.Name,I x.Levels]:=by obtain ⟨cs,rfl,rfl⟩:=r; rfl
structure Edit where
  Sets:List Int
instance:Wf Edit:=⟨fun x=>Wf.wf x.Sets⟩
instance:Deep Edit:=Deep.via (fun x=>x.Sets)
theorem Edit_rd {h:PH} {cs:List Value} {x:Edit} (r:Enc.rd h cs x):∃ u0,cs=[u0]∧RS h u0 x.Sets:=by
  obtain ⟨u0,rfl,r0⟩:=r; exact ⟨_,rfl,r0⟩
theorem Edit_rv {h:PH} {v:Value} {x:Edit} (r:RV h v x):∃ u0,v = .agg #[u0]∧RS h u0 x.Sets:=by
  obtain ⟨cs,hr,rfl⟩:=r; obtain ⟨u0,rfl,r0⟩:=Edit_rd hr; exact ⟨_,rfl,r0⟩
theorem Edit_tk {h:PH} {c:List Value} {x:Edit} (b:Deep.own h c x):∃ u,c=[u]∧OD h u x.Sets:=by
  have o:=b
  obtain ⟨u,rfl,q⟩:=o
  refine ⟨u,rfl,?_⟩
  simpa only [emp_un,un_emp] using q
structure L1Cur where
  Code:List B8
  At:Int
  Seed:Int
structure ESearch where
  S:List Variable
  Passing:List (List Int)
  V:Int
  Out:List Edit
instance:Wf ESearch:=⟨fun x=>Wf.wf x.S∧Wf.wf x.Passing∧Wf.wf x.V∧Wf.wf x.Out⟩
instance:Deep ESearch:=Deep.via (fun x=>(x.S,x.Passing,x.V,x.Out))
def laws_big (code:List B8) (more:List B8) (Q:Bool→Prop):Prop :=
  jn (fun (k:Bool→Prop)=>br (decide ((ln code)>1048576)) (k true) <|
  k (decide ((ln more)>(wr (1048576-(ln code)))))) <|
  fun (x:Bool) =>
  Q x
def spec_l1Cur_next (c:L1Cur) (Q:Int→Int→Int→Prop):Prop :=
  jn (fun (k:Int→Prop)=>br (decide (c.At<(ln c.Code))) (idx c.Code c.At fun x7 =>
  k (wr (x7.v))) <|
  k 0) <|
  fun (b3:Int) =>
  br (decide ((wr (c.At+1))≤(ln c.Code))) (Q b3 (wr (c.At+1)) (IntKind.u64.wrap ((IntKind.u64.wrap ((IntKind.u64.wrap (c.Seed * 6364136223846793005))+(IntKind.u64.wrap (b3))))+1442695040888963407))) <|
  Q (wr (bits .and .u64 (Int.fdiv (IntKind.u64.wrap ((IntKind.u64.wrap ((IntKind.u64.wrap (c.Seed * 6364136223846793005))+(IntKind.u64.wrap (b3))))+1442695040888963407)) (2 ^ 40)) 255)) (wr (c.At+1)) (IntKind.u64.wrap ((IntKind.u64.wrap ((IntKind.u64.wrap (c.Seed * 6364136223846793005))+(IntKind.u64.wrap (b3))))+1442695040888963407))
def spec_l1Cur_pick (c:L1Cur) (n:Int) (Q:Int→Int→Int→Prop):Prop :=
  br (decide (n≤1)) (Q 0 c.At c.Seed) <|
  spec_l1Cur_next ((L1Cur.mk c.Code c.At c.Seed)) fun r3 r4 r5 =>
  jn (fun (k:Int→Int→Int→Prop)=>br (decide (n>200)) (spec_l1Cur_next ((L1Cur.mk c.Code r4 r5)) fun r14 r15 r16 =>
  k (wr ((wr (r3 * 256))+r14)) r15 r16) <|
  k r3 r4 r5) <|
  fun (x9:Int) (atx:Int) (seed:Int) =>
  n≠0∧(
  Q (Int.tmod x9 n) atx seed)
def spec_l1Cur_schema (c:L1Cur) (Q:(List Variable)→Int→Int→Prop):Prop :=
  Loop4 (fun (out:List Variable) (k:Int) (atx:Int) (seed:Int) nx =>
  spec_l1Cur_pick ((L1Cur.mk c.Code atx seed)) 3 fun r21 r22 r23 =>
  br (decide (k<(wr (1+r21)))) (idx ([(ByteArray.mk #[115,101,120]),(ByteArray.mk #[97,103,101]),(ByteArray.mk #[106,111,98]),(ByteArray.mk #[104,111,109,101]),(ByteArray.mk #[115,105,122,101]),(ByteArray.mk #[108,97,110,103])]) k fun x30 =>
  spec_l1Cur_pick ((L1Cur.mk c.Code r22 r23)) 3 fun r42 r43 r44 =>
  (ln out+ln ([(Variable.mk x30 (wr (2+r42)))])) * 24≤140737488355328∧(
  nx (out++([(Variable.mk x30 (wr (2+r42)))])) (wr (k+1)) r43 r44)) <|
  Q out r22 r23) ([]) 0 c.At c.Seed
def spec_l1Cur_among (c:L1Cur) (list:List Int) (Q:Int→Int→Int→Prop):Prop :=
  spec_l1Cur_pick ((L1Cur.mk c.Code c.At c.Seed)) (ln list) fun r10 r11 r12 =>
  idx list r10 fun x14 =>
  Q x14 r11 r12
def spec_l1Cur_of (c:L1Cur) (list:List ByteArray) (Q:ByteArray→Int→Int→Prop):Prop :=
  spec_l1Cur_pick ((L1Cur.mk c.Code c.At c.Seed)) (ln list) fun r10 r11 r12 =>
  idx list r10 fun x14 =>
  Q x14 r11 r12
def spec_l1Cur_anySchema (c:L1Cur) (Q:(List Variable)→Int→Int→Prop):Prop :=
  spec_l1Cur_schema ((L1Cur.mk c.Code c.At c.Seed)) fun r3 r4 r5 =>
  jn (fun (k:(List Variable)→Int→Int→Prop)=>spec_l1Cur_pick ((L1Cur.mk c.Code r4 r5)) 24 fun r30 r31 r32 =>
  br (r30==0) (spec_l1Cur_among ((L1Cur.mk c.Code r31 r32)) ([1,8,9]) fun r45 r46 r47 =>
  idx r3 0 fun x53 =>
  k (List.set r3 (Int.toNat 0) ({x53 with Levels:=r45}:Variable)) r46 r47) <|
  br (r30==1) (spec_l1Cur_of ((L1Cur.mk c.Code r31 r32)) ([(ByteArray.mk #[]),(ByteArray.mk #[65,103,101]),(ByteArray.mk #[97,98,99,100,101,102,103,104,105]),(ByteArray.mk #[97,103,101]),(ByteArray.mk #[97,98,32,99,100])]) fun r75 r76 r77 =>
  idx r3 0 fun x83 =>
  k (List.set r3 (Int.toNat 0) ({x83 with Name:=r75}:Variable)) r76 r77) <|
  br (r30==2) (Q ([]) r31 r32) <|
  br (r30==3) (Loop3 (fun (sx105:List Variable) (atx111:Int) (seed112:Int) nx =>
  spec_l1Cur_pick ((L1Cur.mk c.Code atx111 seed112)) 2 fun r125 r126 r127 =>
  br (decide ((ln sx105)<(wr (6+r125)))) (sln ((ByteArray.mk #[120]))+sln (b2s ([(B8.mk (IntKind.u8.wrap (wr (97+(ln sx105)))))]))≤9223372036854775807∧(
  (ln sx105+ln ([(Variable.mk (((ByteArray.mk #[120]))++(b2s ([(B8.mk (IntKind.u8.wrap (wr (97+(ln sx105)))))]))) 2)])) * 24≤140737488355328∧(
  nx (sx105++([(Variable.mk (((ByteArray.mk #[120]))++(b2s ([(B8.mk (IntKind.u8.wrap (wr (97+(ln sx105)))))]))) 2)])) r126 r127))) <|
  k sx105 r126 r127) r3 r31 r32) <|
  k r3 r31 r32) <|
  fun (sx:List Variable) (atx:Int) (seed:Int) =>
  Q sx atx seed
def spec_l1In (n:Int) (lo:Int) (hi:Int) (Q:Bool→Prop):Prop :=
  jn (fun (k:Bool→Prop)=>br (decide (n≥lo)) (k (decide (n≤hi))) <|
  k false) <|
  fun (x:Bool) =>
  Q x
def spec_sName (sx:ByteArray) (Q:Bool→Prop):Prop :=
  Loop1 (fun (i:Int) nx =>
  br (decide (i<(sln sx))) (jn (fun (k:Bool→Prop)=>sidx sx i fun c =>
  br (decide ((c)<97)) (k true) <|
  sidx sx i fun c3 =>
  k (decide ((c3)>122))) <|
  fun (x:Bool) =>
  br (x) (Q false) <|
  nx (wr (i+1))) <|
  spec_l1In (sln sx) 1 8 fun r =>
  Q r) 0
def spec_sFind (sx:List Variable) (name:ByteArray) (Q:Int→Prop):Prop :=
  Loop1 (fun (x:Int) nx =>
  br (decide (x<(ln sx))) (idx sx x fun x2 =>
  br (streq x2.Name name) (Q x) <|
  nx (wr (x+1))) <|
  Q ((-1))) 0
def spec_sGood (sx:List Variable) (Q:Bool→Prop):Prop :=
  spec_l1In (ln sx) 1 6 fun r1 =>
  br (!r1) (Q false) <|
  Loop1 (fun (x3:Int) nx =>
  br (decide (x3<(ln sx))) (idx sx x3 fun x7 =>
  jn (fun (k:Bool→Prop)=>det1 (spec_sName x7.Name) fun r27 =>
  br (!r27) (k true) <|
  det1 (spec_l1In x7.Levels 2 8) fun r33 =>
  br (!r33) (k true) <|
  (0:Int)≤0∧0≤x3∧x3≤ln sx∧(
  det1 (spec_sFind (List.take (Int.toNat x3-Int.toNat 0) (List.drop (Int.toNat 0) sx)) x7.Name) fun r44 =>
  k (decide (r44≥0)))) <|
  fun (x24:Bool) =>
  br (x24) (Q false) <|
  nx (wr (x3+1))) <|
  Q true) 0
def spec_eFull (sx:List Variable) (vx1:Int) (Q:Int→Prop):Prop :=
  idx sx vx1 fun x =>
  (0:Int)≤(IntKind.u64.wrap (x.Levels))∧(
  Q (wr ((shl .i64 1 (IntKind.u64.wrap (x.Levels)))-1)))
def spec_l1Cur_one (c:L1Cur) (n:Int) (Q:Bool→Int→Int→Prop):Prop :=
  spec_l1Cur_pick ((L1Cur.mk c.Code c.At c.Seed)) n fun r3 r4 r5 =>
  Q (r3==0) r4 r5
def spec_l1Cur_edit (c:L1Cur) (sx:List Variable) (Q:Edit→Int→Int→Prop):Prop :=
  Loop4 (fun (x19:Int) (atx:Int) (seed:Int) (sets:List Int) nx =>
  br (decide (x19<(ln sx))) (spec_eFull sx x19 fun r37 =>
  jn (fun (k:Int→Int→Int→Prop)=>spec_l1Cur_one ((L1Cur.mk c.Code atx seed)) 3 fun r70 r71 r72 =>
  br (!r70) (spec_l1Cur_pick ((L1Cur.mk c.Code r71 r72)) r37 fun r77 r78 r79 =>
  k (wr (1+r77)) r78 r79) <|
  k r37 r71 r72) <|
  fun (x64:Int) (atx65:Int) (seed66:Int) =>
  (ln sets+ln ([x64])) * 8≤140737488355328∧(
  nx (wr (x19+1)) atx65 seed66 (sets++([x64])))) <|
  Q ((Edit.mk sets)) atx seed) 0 c.At c.Seed ([])
def spec_l1Cur_anyEdit (c:L1Cur) (sx:List Variable) (Q:Edit→Int→Int→Prop):Prop :=
  spec_sGood sx fun r12 =>
  br (!r12) (Q ((Edit.mk ([1]))) c.At c.Seed) <|
  spec_l1Cur_edit ((L1Cur.mk c.Code c.At c.Seed)) sx fun r38 r39 r40 =>
  jn (fun (k:Int→Int→(List Int)→Prop)=>spec_l1Cur_pick ((L1Cur.mk c.Code r39 r40)) 24 fun r97 r98 r99 =>
  br (r97==0) ((
  spec_l1Cur_pick ((L1Cur.mk c.Code r98 r99)) (ln r38.Sets) fun r116 r117 r118 =>
  spec_l1Cur_among ((L1Cur.mk c.Code r117 r118)) ([0,(-1),256,4]) fun r144 r145 r146 =>
  (0:Int)≤r116∧Int.toNat r116<List.length r38.Sets∧(
  k r145 r146 (List.set r38.Sets (Int.toNat r116) r144)))∧(
  spec_l1Cur_pick ((L1Cur.mk c.Code r98 r99)) (ln r38.Sets) fun r193 r194 r195 =>
  spec_l1Cur_among ((L1Cur.mk c.Code r194 r195)) ([0,(-1),256,4]) fun r208 r209 r210 =>
  (0:Int)≤r193∧Int.toNat r193<List.length r38.Sets∧(
  k r209 r210 (List.set r38.Sets (Int.toNat r193) r208)))) <|
  br (r97==1) ((ln r38.Sets+ln ([1])) * 8≤140737488355328∧(
  k r98 r99 (r38.Sets++([1])))) <|
  k r98 r99 r38.Sets) <|
  fun (atx:Int) (seed:Int) (sets:List Int) =>
  Q ((Edit.mk sets)) atx seed
def spec_l1Own (l:List Int) (Q:(List Int)→Prop):Prop :=
  (ln (([]:List Int))+ln l) * 8≤140737488355328∧(
  Q ((([]:List Int))++l))
def spec_l1Cur_edits (c:L1Cur) (sx:List Variable) (Q:(List Edit)→Int→Int→Prop):Prop :=
  spec_l1Cur_pick ((L1Cur.mk c.Code c.At c.Seed)) 6 fun r10 r11 r12 =>
  Loop4 (fun (l:List Edit) (k:Int) (atx:Int) (seed:Int) nx =>
  br (decide (k>0)) (spec_l1Cur_anyEdit ((L1Cur.mk c.Code atx seed)) sx fun r24 r25 r26 =>
  (ln l+ln ([((Edit.mk r24.Sets):Edit)])) * 24≤140737488355328∧(
  nx (l++([((Edit.mk r24.Sets):Edit)])) (wr (k-1)) r25 r26)) <|
  jn (fun (k93:(List Edit)→Int→Int→Prop)=>spec_l1Cur_one ((L1Cur.mk c.Code atx seed)) 40 fun r94 r95 r96 =>
  br (r94) (spec_l1Cur_anyEdit ((L1Cur.mk c.Code r95 r96)) sx fun r101 r102 r103 =>
  spec_l1Cur_pick ((L1Cur.mk c.Code r102 r103)) 2 fun r125 r126 r127 =>
  Loop1 (fun (l136:List Edit) nx152 =>
  br (decide ((ln l136)<(wr (40+r125)))) (spec_l1Own r101.Sets fun r158 =>
  (ln l136+ln ([((Edit.mk r158):Edit)])) * 24≤140737488355328∧(
  nx152 (l136++([((Edit.mk r158):Edit)])))) <|
  k93 l136 r126 r127) l) <|
  k93 l r95 r96) <|
  fun (l76:List Edit) (atx82:Int) (seed83:Int) =>
  Q l76 atx82 seed83) ([]) r10 r11 r12
def spec_l1Cur_fixed (c:L1Cur) (sx:List Variable) (Q:(List Int)→Int→Int→Prop):Prop :=
  Loop4 (fun (out:List Int) (x:Int) (atx:Int) (seed:Int) nx =>
  br (decide (x<(ln sx))) (jn (fun (k:(List Int)→Int→Int→Prop)=>spec_l1Cur_one ((L1Cur.mk c.Code atx seed)) 2 fun r39 r40 r41 =>
  br (r39) ((ln out+ln ([x])) * 8≤140737488355328∧(
  k (out++([x])) r40 r41)) <|
  k out r40 r41) <|
  fun (out22:List Int) (atx28:Int) (seed29:Int) =>
  nx out22 (wr (x+1)) atx28 seed29) <|
  jn (fun (k95:(List Int)→Int→Int→Prop)=>spec_l1Cur_one ((L1Cur.mk c.Code atx seed)) 20 fun r97 r98 r99 =>
  br (r97) ((ln out+ln ([ln sx])) * 8≤140737488355328∧(
  k95 (out++([ln sx])) r98 r99)) <|
  k95 out r98 r99) <|
  fun (out76:List Int) (atx82:Int) (seed83:Int) =>
  Q out76 atx82 seed83) ([]) 0 c.At c.Seed
def spec_l1Cur_values (c:L1Cur) (sx:List Variable) (Q:(List Int)→Int→Int→Prop):Prop :=
  Loop4 (fun (out:List Int) (x:Int) (atx:Int) (seed:Int) nx =>
  br (decide (x<(ln sx))) (idx sx x fun x19 =>
  spec_l1Cur_pick ((L1Cur.mk c.Code atx seed)) x19.Levels fun r34 r35 r36 =>
  (ln out+ln ([r34])) * 8≤140737488355328∧(
  nx (out++([r34])) (wr (x+1)) r35 r36)) <|
  Q out atx seed) ([]) 0 c.At c.Seed
def spec_l1Cur_anyValues (c:L1Cur) (sx:List Variable) (Q:(List Int)→Int→Int→Prop):Prop :=
  spec_l1Cur_values ((L1Cur.mk c.Code c.At c.Seed)) sx fun r10 r11 r12 =>
  jn (fun (k:(List Int)→Int→Int→Prop)=>jn (fun (k41:Bool→Int→Int→Prop)=>br (decide ((ln r10)>0)) (spec_l1Cur_one ((L1Cur.mk c.Code r11 r12)) 16 fun r43 r44 r45 =>
  k41 r43 r44 r45) <|
  k41 false r11 r12) <|
  fun (x35:Bool) (atx36:Int) (seed37:Int) =>
  br (x35) (spec_l1Cur_pick ((L1Cur.mk c.Code atx36 seed37)) (ln r10) fun r51 r52 r53 =>
  spec_l1Cur_among ((L1Cur.mk c.Code r52 r53)) ([(-1),2,8]) fun r67 r68 r69 =>
  (0:Int)≤r51∧Int.toNat r51<List.length r10∧(
  k (List.set r10 (Int.toNat r51) r67) r68 r69)) <|
  spec_l1Cur_one ((L1Cur.mk c.Code atx36 seed37)) 24 fun r85 r86 r87 =>
  br (r85) ((ln r10+ln ([0])) * 8≤140737488355328∧(
  Q (r10++([0])) r86 r87)) <|
  k r10 r86 r87) <|
  fun (out:List Int) (atx:Int) (seed:Int) =>
  Q out atx seed
def spec_DrawCanComplete (code:List B8) (Q:(List Variable)→(List Edit)→(List Int)→(List Int)→Prop):Prop :=
  spec_l1Cur_anySchema ((L1Cur.mk code 0 0)) fun r2 r3 r4 =>
  spec_l1Cur_edits ((L1Cur.mk code r3 r4)) r2 fun r15 r16 r17 =>
  spec_l1Cur_fixed ((L1Cur.mk code r16 r17)) r2 fun r31 r32 r33 =>
  spec_l1Cur_anyValues ((L1Cur.mk code r32 r33)) r2 fun r48 r49 r50 =>
  Q r2 r15 r31 r48
def spec_DrawCompletionOf (code:List B8) (Q:(List Variable)→(List Edit)→(List Int)→(List Int)→Prop):Prop :=
  spec_DrawCanComplete code fun r1 r2 r3 r4 =>
  Q r1 r2 r3 r4
def impl_isWord (sx:ByteArray) (Q:Bool→Prop):Prop :=
  jn (fun (k:Bool→Prop)=>br (decide ((sln sx)<1)) (k true) <|
  k (decide ((sln sx)>8))) <|
  fun (x:Bool) =>
  br (x) (Q false) <|
  Loop1 (fun (x2:Int) nx =>
  br (decide (x2<(sln sx))) (jn (fun (k7:Bool→Prop)=>sidx sx x2 fun c =>
  br (decide ((c)<97)) (k7 true) <|
  sidx sx x2 fun c10 =>
  k7 (decide ((c10)>122))) <|
  fun (x5:Bool) =>
  br (x5) (Q false) <|
  nx (wr (x2+1))) <|
  Q true) 0
def impl_IsSchema (sx:List Variable) (Q:Bool→Prop):Prop :=
  jn (fun (k:Bool→Prop)=>br (decide ((ln sx)<1)) (k true) <|
  k (decide ((ln sx)>6))) <|
  fun (x:Bool) =>
  br (x) (Q false) <|
  Loop1 (fun (x2:Int) nx =>
  br (decide (x2<(ln sx))) (idx sx x2 fun x6 =>
  jn (fun (k25:Bool→Prop)=>impl_isWord x6.Name fun r27 =>
  br (!r27) (k25 true) <|
  br (decide (x6.Levels<2)) (k25 true) <|
  k25 (decide (x6.Levels>8))) <|
  fun (x22:Bool) =>
  br (x22) (Q false) <|
  (0:Int)≤0∧0≤x2∧x2≤ln sx∧(
  Loop1 (fun (x39:Int) nx45 =>
  br (decide (x39<(ln (List.take (Int.toNat x2-Int.toNat 0) (List.drop (Int.toNat 0) sx))))) (idx (List.take (Int.toNat x2-Int.toNat 0) (List.drop (Int.toNat 0) sx)) x39 fun x47 =>
  br (streq x47.Name x6.Name) (Q false) <|
  nx45 (wr (x39+1))) <|
  nx (wr (x2+1))) 0)) <|
  Q true) 0
def impl_combinations (sx:List Variable) (Q:Int→Prop):Prop :=
  Loop2 (fun (n:Int) (x:Int) nx =>
  br (decide (x<(ln sx))) (idx sx x fun x2 =>
  nx (wr (n * x2.Levels)) (wr (x+1))) <|
  Q n) 1 0
def impl_isSmall (sx:List Variable) (Q:Bool→Prop):Prop :=
  jn (fun (k:Bool→Prop)=>impl_IsSchema sx fun r2 =>
  br (r2) (impl_combinations sx fun r5 =>
  k (decide (r5≤100))) <|
  k false) <|
  fun (x:Bool) =>
  Q x
def impl_fullSet (vx:Variable) (Q:Int→Prop):Prop :=
  (0:Int)≤vx.Levels∧(
  Q (wr ((shl .i64 1 vx.Levels)-1)))
def impl_isEdit (sx:List Variable) (ex1:Edit) (Q:Bool→Prop):Prop :=
  br ((ln ex1.Sets)!=(ln sx)) (Q false) <|
  Loop1 (fun (x10:Int) nx =>
  br (decide (x10<(ln ex1.Sets))) (idx ex1.Sets x10 fun x14 =>
  jn (fun (k:Bool→Prop)=>br (decide (x14<1)) (k true) <|
  idx sx x10 fun x27 =>
  impl_fullSet x27 fun r36 =>
  k (decide (x14>r36))) <|
  fun (x23:Bool) =>
  br (x23) (Q false) <|
  nx (wr (x10+1))) <|
  Q true) 0
def impl_areEdits (sx:List Variable) (l:List Edit) (Q:Bool→Prop):Prop :=
  br (decide ((ln l)>40)) (Q false) <|
  Loop1 (fun (x:Int) nx =>
  br (decide (x<(ln l))) (idx l x fun x9 =>
  impl_isEdit sx ((Edit.mk x9.Sets)) fun r29 =>
  br (!r29) (Q false) <|
  nx (wr (x+1))) <|
  Q true) 0
def impl_areVars (sx:List Variable) (vars:List Int) (Q:Bool→Prop):Prop :=
  Loop2 (fun (last:Int) (x:Int) nx =>
  br (decide (x<(ln vars))) (idx vars x fun x7 =>
  jn (fun (k:Bool→Prop)=>br (decide (x7≤last)) (k true) <|
  k (decide (x7≥(ln sx)))) <|
  fun (x13:Bool) =>
  br (x13) (Q false) <|
  nx x7 (wr (x+1))) <|
  Q true) ((-1)) 0
def impl_areValues (sx:List Variable) (values:List Int) (Q:Bool→Prop):Prop :=
  br ((ln values)!=(ln sx)) (Q false) <|
  Loop1 (fun (x:Int) nx =>
  br (decide (x<(ln values))) (idx values x fun x8 =>
  jn (fun (k:Bool→Prop)=>br (decide (x8<0)) (k true) <|
  idx sx x fun x17 =>
  k (decide (x8≥x17.Levels))) <|
  fun (x14:Bool) =>
  br (x14) (Q false) <|
  nx (wr (x+1))) <|
  Q true) 0
def impl_valuesAt (sx:List Variable) (i:Int) (Q:(List Int)→Prop):Prop :=
  (0:Int)≤(ln sx)∧8 * (ln sx)≤140737488355328∧(
  Loop3 (fun (i6:Int) (values:List Int) (k:Int) nx =>
  br (decide (k≥0)) (idx sx k fun x14 =>
  x14.Levels≠0∧(
  (0:Int)≤k∧Int.toNat k<List.length values∧(
  idx sx k fun x25 =>
  x25.Levels≠0∧(
  nx (wr (Int.tdiv i6 x25.Levels)) (List.set values (Int.toNat k) (Int.tmod i6 x14.Levels)) (wr (k-1)))))) <|
  Q values) i (List.replicate (Int.toNat (ln sx)) ((0:Int))) (wr ((ln sx)-1)))
def impl_fails (ex:Edit) (values:List Int) (Q:Bool→Prop):Prop :=
  Loop1 (fun (x9:Int) nx =>
  br (decide (x9<(ln values))) (idx values x9 fun x11 =>
  idx ex.Sets x9 fun x18 =>
  (0:Int)≤x11∧(
  br ((bits .and .i64 (shr .i64 x18 x11) 1)==0) (Q false) <|
  nx (wr (x9+1)))) <|
  Q true) 0
def impl_failsOne (l:List Edit) (values:List Int) (Q:Bool→Prop):Prop :=
  Loop1 (fun (x:Int) nx =>
  br (decide (x<(ln l))) (idx l x fun x8 =>
  impl_fails ((Edit.mk x8.Sets)) values fun r28 =>
  br (r28) (Q true) <|
  nx (wr (x+1))) <|
  Q false) 0
def impl_completionOf_1 (c:List Int) (c2:List Int) (c10:List Int) (c19:List Int) (Q:Bool→(List Int)→Prop):Prop :=
  Loop1 (fun (x:Int) nx =>
  br (decide (x<(ln c2))) (idx c2 x fun x45 =>
  idx c x45 fun x53 =>
  idx c10 x45 fun x64 =>
  br (x53 != x64) (Q true c19) <|
  nx (wr (x+1))) <|
  (0:Int)<ln c∧Q false c) 0
def impl_passing_impl_completionOf_1 (sx:List Variable) (l:List Edit) (c7:List Int) (c15:List Int) (c24:List Int) (Q:(List Int)→Prop):Prop :=
  impl_combinations sx fun r46 =>
  Loop2 (fun (x47:Int) (x48:List Int) nx =>
  br (decide (x47<r46)) (impl_valuesAt sx x47 fun r63 =>
  jn (fun (k:Bool→(List Int)→Prop)=>impl_failsOne l r63 fun r109 =>
  br (!r109) (impl_completionOf_1 r63 c7 c15 x48 fun r131 r132 =>
  k (!r131) r132) <|
  k false x48) <|
  fun (x90:Bool) (x91:List Int) =>
  br (x90) (Q x91) <|
  nx (wr (x47+1)) x91) <|
  Q x48) 0 c24
def impl_completionOf (sx:List Variable) (l:List Edit) (fixed:List Int) (values:List Int) (Q:(List Int)→Prop):Prop :=
  impl_passing_impl_completionOf_1 sx l fixed values ([]) fun r40 =>
  Q r40
def impl_CompletionOf (sx:List Variable) (l:List Edit) (fixed:List Int) (values:List Int) (Q:(List Int)→Bool→Prop):Prop :=
  jn (fun (k:Bool→Prop)=>impl_isSmall sx fun r20 =>
  br (!r20) (k true) <|
  impl_areEdits sx l fun r23 =>
  br (!r23) (k true) <|
  impl_areVars sx fixed fun r29 =>
  br (!r29) (k true) <|
  impl_areValues sx values fun r37 =>
  k (!r37)) <|
  fun (x:Bool) =>
  br (x) (Q ([]) false) <|
  impl_completionOf sx l fixed values fun r46 =>
  Q r46 (!(ln r46==0))
def spec_eGood (sx:List Variable) (ex1:Edit) (Q:Bool→Prop):Prop :=
  br ((ln ex1.Sets)!=(ln sx)) (Q false) <|
  Loop1 (fun (x10:Int) nx =>
  br (decide (x10<(ln ex1.Sets))) (idx ex1.Sets x10 fun x14 =>
  spec_eFull sx x10 fun r21 =>
  spec_l1In x14 1 r21 fun r25 =>
  br (!r25) (Q false) <|
  nx (wr (x10+1))) <|
  Q true) 0
def spec_eList (sx:List Variable) (l:List Edit) (Q:Bool→Prop):Prop :=
  jn (fun (k:Bool→Prop)=>spec_sGood sx fun r8 =>
  br (!r8) (k true) <|
  k (decide ((ln l)>40))) <|
  fun (x:Bool) =>
  br (x) (Q false) <|
  Loop1 (fun (x13:Int) nx =>
  br (decide (x13<(ln l))) (idx l x13 fun x17 =>
  spec_eGood sx ((Edit.mk x17.Sets)) fun r37 =>
  br (!r37) (Q false) <|
  nx (wr (x13+1))) <|
  Q true) 0
def spec_sCount (sx:List Variable) (Q:Int→Prop):Prop :=
  Loop2 (fun (n:Int) (x:Int) nx =>
  br (decide (x<(ln sx))) (idx sx x fun x2 =>
  nx (wr (n * x2.Levels)) (wr (x+1))) <|
  Q n) 1 0
def spec_eSmall (sx:List Variable) (l:List Edit) (Q:Bool→Prop):Prop :=
  jn (fun (k:Bool→Prop)=>spec_eList sx l fun r8 =>
  br (r8) (spec_sCount sx fun r11 =>
  k (decide (r11≤100))) <|
  k false) <|
  fun (x:Bool) =>
  Q x
def spec_l1Rising (l:List Int) (lo:Int) (hi:Int) (Q:Bool→Prop):Prop :=
  Loop1 (fun (x:Int) nx =>
  br (decide (x<(ln l))) (idx l x fun x2 =>
  jn (fun (k:Bool→Prop)=>spec_l1In x2 lo hi fun r14 =>
  br (!r14) (k true) <|
  br (decide (x>0)) (idx l (wr (x-1)) fun x19 =>
  k (decide (x19≥x2))) <|
  k false) <|
  fun (x11:Bool) =>
  br (x11) (Q false) <|
  nx (wr (x+1))) <|
  Q true) 0
def spec_sFits (sx:List Variable) (values:List Int) (Q:Bool→Prop):Prop :=
  br ((ln values)!=(ln sx)) (Q false) <|
  Loop1 (fun (x:Int) nx =>
  br (decide (x<(ln sx))) (idx sx x fun x9 =>
  idx values x fun x21 =>
  det1 (spec_l1In x21 0 (wr (x9.Levels-1))) fun r32 =>
  br (!r32) (Q false) <|
  nx (wr (x+1))) <|
  Q true) 0
def spec_eAsked (sx:List Variable) (l:List Edit) (fixed:List Int) (values:List Int) (Q:Bool→Prop):Prop :=
  jn (fun (k:Bool→Prop)=>spec_eSmall sx l fun r20 =>
  br (r20) (spec_l1Rising fixed 0 (wr ((ln sx)-1)) fun r23 =>
  br (r23) (spec_sFits sx values fun r28 =>
  k r28) <|
  k false) <|
  k false) <|
  fun (x:Bool) =>
  Q x
def spec_sAt (sx:List Variable) (i:Int) (Q:(List Int)→Prop):Prop :=
  (0:Int)≤(ln sx)∧8 * (ln sx)≤140737488355328∧(
  Loop3 (fun (i6:Int) (out:List Int) (k:Int) nx =>
  br (decide (k≥0)) (idx sx k fun x14 =>
  x14.Levels≠0∧(
  (0:Int)≤k∧Int.toNat k<List.length out∧(
  idx sx k fun x25 =>
  x25.Levels≠0∧(
  nx (wr (Int.tdiv i6 x25.Levels)) (List.set out (Int.toNat k) (Int.tmod i6 x14.Levels)) (wr (k-1)))))) <|
  Q out) i (List.replicate (Int.toNat (ln sx)) ((0:Int))) (wr ((ln sx)-1)))
def spec_eFails (ex:Edit) (values:List Int) (Q:Bool→Prop):Prop :=
  Loop1 (fun (x9:Int) nx =>
  br (decide (x9<(ln values))) (idx values x9 fun x11 =>
  idx ex.Sets x9 fun x18 =>
  (0:Int)≤(IntKind.u64.wrap (x11))∧(
  br ((bits .and .i64 (shr .i64 x18 (IntKind.u64.wrap (x11))) 1)==0) (Q false) <|
  nx (wr (x9+1)))) <|
  Q true) 0
def spec_eFailed (l:List Edit) (values:List Int) (Q:(List Int)→Prop):Prop :=
  Loop2 (fun (out:List Int) (x:Int) nx =>
  br (decide (x<(ln l))) (jn (fun (k:(List Int)→Prop)=>idx l x fun x27 =>
  spec_eFails ((Edit.mk x27.Sets)) values fun r47 =>
  br (r47) ((ln out+ln ([x])) * 8≤140737488355328∧(
  k (out++([x])))) <|
  k out) <|
  fun (out17:List Int) =>
  nx out17 (wr (x+1))) <|
  Q out) ([]) 0
def spec_eComplete (sx:List Variable) (l:List Edit) (fixed:List Int) (values:List Int) (Q:(List Int)→Bool→Prop):Prop :=
  Loop1 (fun (i:Int) nx =>
  spec_sCount sx fun r20 =>
  br (decide (i<r20)) (spec_sAt sx i fun r23 =>
  spec_eFailed l r23 fun r32 =>
  Loop2 (fun (fits:Bool) (x43:Int) nx49 =>
  br (decide (x43<(ln fixed))) (jn (fun (k:Bool→Prop)=>idx fixed x43 fun x66 =>
  br (fits) (idx r23 x66 fun x73 =>
  idx values x66 fun x82 =>
  k (x73==x82)) <|
  k false) <|
  fun (fits63:Bool) =>
  nx49 fits63 (wr (x43+1))) <|
  br (fits) (Q r23 true) <|
  nx (wr (i+1))) ((ln r32)==0) 0) <|
  Q ([]) false) 0
def spec_CompletionOf (sx:List Variable) (l:List Edit) (fixed:List Int) (values:List Int) (Q:(List Int)→Bool→Prop):Prop :=
  spec_eAsked sx l fixed values fun r19 =>
  br (!r19) (Q ([]) false) <|
  spec_eComplete sx l fixed values fun r21 r22 =>
  Q r21 r22
def impl_CanComplete (sx:List Variable) (l:List Edit) (fixed:List Int) (values:List Int) (Q:Bool→Bool→Prop):Prop :=
  jn (fun (k:Bool→Prop)=>impl_isSmall sx fun r20 =>
  br (!r20) (k true) <|
  impl_areEdits sx l fun r23 =>
  br (!r23) (k true) <|
  impl_areVars sx fixed fun r29 =>
  br (!r29) (k true) <|
  impl_areValues sx values fun r37 =>
  k (!r37)) <|
  fun (x:Bool) =>
  br (x) (Q false false) <|
  impl_completionOf sx l fixed values fun r46 =>
  Q (!(ln r46==0)) true
def laws_sameInts (a:List Int) (b:List Int) (Q:Bool→Prop):Prop :=
  br ((ln a)!=(ln b)) (Q false) <|
  Loop1 (fun (x:Int) nx =>
  br (decide (x<(ln a))) (idx a x fun x10 =>
  idx b x fun x17 =>
  br (x10 != x17) (Q false) <|
  nx (wr (x+1))) <|
  Q true) 0
def impl_FailedEdits (sx:List Variable) (l:List Edit) (values:List Int) (Q:(List Int)→Bool→Prop):Prop :=
  jn (fun (k:Bool→Prop)=>impl_IsSchema sx fun r14 =>
  br (!r14) (k true) <|
  impl_areEdits sx l fun r17 =>
  br (!r17) (k true) <|
  impl_areValues sx values fun r23 =>
  k (!r23)) <|
  fun (x:Bool) =>
  br (x) (Q ([]) false) <|
  Loop2 (fun (failed:List Int) (x35:Int) nx =>
  br (decide (x35<(ln l))) (jn (fun (k57:(List Int)→Prop)=>idx l x35 fun x59 =>
  impl_fails ((Edit.mk x59.Sets)) values fun r79 =>
  br (r79) ((ln failed+ln ([x35])) * 8≤140737488355328∧(
  k57 (failed++([x35])))) <|
  k57 failed) <|
  fun (failed47:List Int) =>
  nx failed47 (wr (x35+1))) <|
  Q failed true) ([]) 0
def impl_failing (sx:List Variable) (l:List Edit) (Q:(List Bool)→Prop):Prop :=
  impl_combinations sx fun r7 =>
  (0:Int)≤r7∧1 * r7≤140737488355328∧(
  Loop2 (fun (out:List Bool) (x20:Int) nx =>
  br (decide (x20<(ln (List.replicate (Int.toNat r7) false)))) (impl_valuesAt sx x20 fun r23 =>
  impl_failsOne l r23 fun r35 =>
  (0:Int)≤x20∧Int.toNat x20<List.length out∧(
  nx (List.set out (Int.toNat x20) r35) (wr (x20+1)))) <|
  Q out) (List.replicate (Int.toNat r7) false) 0)
def slices_Index_bool_bool (sx:List Bool) (vx1:Bool) (Q:Int→Prop):Prop :=
  Loop1 (fun (x:Int) nx =>
  br (decide (x<(ln sx))) (idx sx x fun x2 =>
  br (vx1==x2) (Q x) <|
  nx (wr (x+1))) <|
  Q ((-1))) 0
def slices_Contains_bool_bool (sx:List Bool) (vx1:Bool) (Q:Bool→Prop):Prop :=
  slices_Index_bool_bool sx vx1 fun r2 =>
  Q (decide (r2≥0))
def impl_IsContradictory (sx:List Variable) (l:List Edit) (Q:Bool→Bool→Prop):Prop :=
  jn (fun (k:Bool→Prop)=>impl_isSmall sx fun r8 =>
  br (!r8) (k true) <|
  impl_areEdits sx l fun r11 =>
  k (!r11)) <|
  fun (x:Bool) =>
  br (x) (Q false false) <|
  impl_failing sx l fun r18 =>
  slices_Contains_bool_bool r18 false fun r28 =>
  Q (!r28) true
def spec_DrawCountPassing (code:List B8) (Q:(List Variable)→(List Edit)→Prop):Prop :=
  spec_l1Cur_anySchema ((L1Cur.mk code 0 0)) fun r2 r3 r4 =>
  spec_l1Cur_edits ((L1Cur.mk code r3 r4)) r2 fun r15 r16 r17 =>
  Q r2 r15
def spec_DrawWithoutContained (code:List B8) (Q:(List Variable)→(List Edit)→Prop):Prop :=
  spec_DrawCountPassing code fun r1 r2 =>
  Q r1 r2
def cmp_isNaN_int (x:Int) (Q:Bool→Prop):Prop :=
  Q (x != x)
def cmp_Compare_int (x:Int) (y:Int) (Q:Int→Prop):Prop :=
  cmp_isNaN_int x fun r =>
  cmp_isNaN_int y fun r2 =>
  br (r) (br (r2) (Q 0) <|
  Q ((-1))) <|
  br (r2) (Q 1) <|
  br (decide (x<y)) (Q ((-1))) <|
  br (decide (x>y)) (Q 1) <|
  Q 0
def slices_Compare_int_int (sx:List Int) (sx1:List Int) (Q:Int→Prop):Prop :=
  Loop1 (fun (x:Int) nx =>
  br (decide (x<(ln sx))) (idx sx x fun x9 =>
  br (decide (x≥(ln sx1))) (Q 1) <|
  idx sx1 x fun x18 =>
  cmp_Compare_int x9 x18 fun r28 =>
  br (r28 != 0) (Q r28) <|
  nx (wr (x+1))) <|
  br (decide ((ln sx)<(ln sx1))) (Q ((-1))) <|
  Q 0) 0
def impl_compareEdits (ex:Edit) (f:Edit) (Q:Int→Prop):Prop :=
  slices_Compare_int_int ex.Sets f.Sets fun r16 =>
  Q r16
def impl_contains (ex:Edit) (f:Edit) (Q:Bool→Prop):Prop :=
  Loop1 (fun (x15:Int) nx =>
  br (decide (x15<(ln f.Sets))) (idx f.Sets x15 fun x17 =>
  idx ex.Sets x15 fun x25 =>
  br ((bits .andNot .i64 x17 x25)!=0) (Q false) <|
  nx (wr (x15+1))) <|
  Q true) 0
def slices_Clone_int_int (sx:List Int) (Q:(List Int)→Prop):Prop :=
  nilq sx fun z =>
  br (z) (Q ([])) <|
  (ln (([]:List Int))+ln sx) * 8≤140737488355328∧(
  Q ((([]:List Int))++sx))
def impl_WithoutContained (sx:List Variable) (l:List Edit) (Q:(List Edit)→Bool→Prop):Prop :=
  jn (fun (k:Bool→Prop)=>impl_isSmall sx fun r8 =>
  br (!r8) (k true) <|
  impl_areEdits sx l fun r11 =>
  k (!r11)) <|
  fun (x:Bool) =>
  br (x) (Q ([]) false) <|
  Loop2 (fun (out:List Edit) (x21:Int) nx =>
  br (decide (x21<(ln l))) (jn (fun (k42:(List Edit)→Prop)=>idx l x21 fun x44 =>
  Loop2 (fun (kept:Bool) (x64:Int) nx70 =>
  br (decide (x64<(ln l))) (jn (fun (k81:Bool→Prop)=>idx l x64 fun x83 =>
  impl_compareEdits ((Edit.mk x44.Sets)) ((Edit.mk x83.Sets)) fun r111 =>
  jn (fun (k126:Bool→Prop)=>br (r111==0) (br (decide (x64<x21)) (k126 true) <|
  br (!(r111==0)) (impl_contains ((Edit.mk x83.Sets)) ((Edit.mk x44.Sets)) fun r131 =>
  k126 r131) <|
  k126 false) <|
  br (!(r111==0)) (impl_contains ((Edit.mk x83.Sets)) ((Edit.mk x44.Sets)) fun r135 =>
  k126 r135) <|
  k126 false) <|
  fun (x123:Bool) =>
  br (x123) (k81 false) <|
  k81 kept) <|
  fun (kept78:Bool) =>
  nx70 kept78 (wr (x64+1))) <|
  br (kept) (slices_Clone_int_int x44.Sets fun r147 =>
  (ln out+ln ([((Edit.mk r147):Edit)])) * 24≤140737488355328∧(
  k42 (out++([((Edit.mk r147):Edit)])))) <|
  k42 out) true 0) <|
  fun (out32:List Edit) =>
  nx out32 (wr (x21+1))) <|
  sortq (fun x y K=>impl_compareEdits x y K) out fun ys =>
  Q ys true) ([]) 0
def spec_l1Same (a:List Int) (b:List Int) (Q:Bool→Prop):Prop :=
  br ((ln a)!=(ln b)) (Q false) <|
  Loop1 (fun (x:Int) nx =>
  br (decide (x<(ln a))) (idx a x fun x10 =>
  idx b x fun x17 =>
  br (x10 != x17) (Q false) <|
  nx (wr (x+1))) <|
  Q true) 0
def spec_eContains (ex:Edit) (f:Edit) (Q:Bool→Prop):Prop :=
  Loop1 (fun (x15:Int) nx =>
  br (decide (x15<(ln f.Sets))) (idx f.Sets x15 fun x17 =>
  idx ex.Sets x15 fun x25 =>
  br ((bits .and .i64 x17 x25)!=x17) (Q false) <|
  nx (wr (x15+1))) <|
  Q true) 0
def spec_l1Sign (n:Int) (Q:Int→Prop):Prop :=
  br (decide (n<0)) (Q ((-1))) <|
  br (decide (n>0)) (Q 1) <|
  Q 0
def spec_l1Less (a:List Int) (b:List Int) (Q:Int→Prop):Prop :=
  Loop1 (fun (i:Int) nx =>
  jn (fun (k:Bool→Prop)=>br (decide (i<(ln a))) (k (decide (i<(ln b)))) <|
  k false) <|
  fun (x:Bool) =>
  br (x) (idx a i fun x14 =>
  idx b i fun x20 =>
  br (x14 != x20) (idx a i fun x32 =>
  idx b i fun x42 =>
  br (decide (x32<x42)) (Q ((-1))) <|
  Q 1) <|
  nx (wr (i+1))) <|
  spec_l1Sign (wr ((ln a)-(ln b))) fun r59 =>
  Q r59) 0
def spec_eAdd (l:List Edit) (ex1:Edit) (Q:(List Edit)→Prop):Prop :=
  Loop1 (fun (k:Int) nx =>
  jn (fun (k20:Bool→Prop)=>br (decide (k<(ln l))) (idx l k fun x21 =>
  det1 (spec_l1Less x21.Sets ex1.Sets) fun r29 =>
  k20 (decide (r29<0))) <|
  k20 false) <|
  fun (x17:Bool) =>
  br (x17) (nx (wr (k+1))) <|
  jn (fun (k45:Bool→Prop)=>br (decide (k<(ln l))) (idx l k fun x48 =>
  det1 (spec_l1Same x48.Sets ex1.Sets) fun r60 =>
  k45 r60) <|
  k45 false) <|
  fun (x42:Bool) =>
  br (x42) (Q l) <|
  (0:Int)≤0∧0≤k∧k≤ln l∧(
  (ln (([]:List Edit))+ln (List.take (Int.toNat k-Int.toNat 0) (List.drop (Int.toNat 0) l))) * 24≤140737488355328∧(
  spec_l1Own ex1.Sets fun r94 =>
  (ln ((([]:List Edit))++(List.take (Int.toNat k-Int.toNat 0) (List.drop (Int.toNat 0) l)))+ln ([((Edit.mk r94):Edit)])) * 24≤140737488355328∧(
  (0:Int)≤k∧k≤((List.length l:Int))∧((List.length l:Int))≤ln l∧(
  (ln (((([]:List Edit))++(List.take (Int.toNat k-Int.toNat 0) (List.drop (Int.toNat 0) l)))++([((Edit.mk r94):Edit)]))+ln (List.take (Int.toNat ((List.length l:Int))-Int.toNat k) (List.drop (Int.toNat k) l))) * 24≤140737488355328∧(
  Q ((((([]:List Edit))++(List.take (Int.toNat k-Int.toNat 0) (List.drop (Int.toNat 0) l)))++([((Edit.mk r94):Edit)]))++(List.take (Int.toNat ((List.length l:Int))-Int.toNat k) (List.drop (Int.toNat k) l))))))))) 0
def spec_eWithout (l:List Edit) (Q:(List Edit)→Prop):Prop :=
  Loop2 (fun (out:List Edit) (x:Int) nx =>
  br (decide (x<(ln l))) (jn (fun (k:(List Edit)→Prop)=>idx l x fun x20 =>
  Loop2 (fun (inside:Bool) (x40:Int) nx46 =>
  br (decide (x40<(ln l))) (jn (fun (k57:Bool→Prop)=>idx l x40 fun x59 =>
  br (inside) (k57 true) <|
  spec_l1Same x20.Sets x59.Sets fun r89 =>
  br (!r89) (spec_eContains ((Edit.mk x59.Sets)) ((Edit.mk x20.Sets)) fun r97 =>
  k57 r97) <|
  k57 false) <|
  fun (inside54:Bool) =>
  nx46 inside54 (wr (x40+1))) <|
  br (!inside) (spec_eAdd out ((Edit.mk x20.Sets)) fun r108 =>
  k r108) <|
  k out) false 0) <|
  fun (out10:List Edit) =>
  nx out10 (wr (x+1))) <|
  Q out) ([]) 0
def spec_WithoutContained (sx:List Variable) (l:List Edit) (Q:(List Edit)→Bool→Prop):Prop :=
  spec_eSmall sx l fun r8 =>
  br (!r8) (Q ([]) false) <|
  spec_eWithout l fun r10 =>
  Q r10 true
def laws_pSameEdits (a:List Edit) (b:List Edit) (Q:Bool→Prop):Prop :=
  br ((ln a)!=(ln b)) (Q false) <|
  Loop1 (fun (x:Int) nx =>
  br (decide (x<(ln a))) (idx a x fun x10 =>
  idx b x fun x19 =>
  det1 (laws_sameInts x10.Sets x19.Sets) fun r32 =>
  br (!r32) (Q false) <|
  nx (wr (x+1))) <|
  Q true) 0
def spec_DrawEditsOnly (code:List B8) (Q:(List Variable)→(List Edit)→(List Int)→Prop):Prop :=
  spec_l1Cur_anySchema ((L1Cur.mk code 0 0)) fun r2 r3 r4 =>
  spec_l1Cur_edits ((L1Cur.mk code r3 r4)) r2 fun r15 r16 r17 =>
  spec_l1Cur_fixed ((L1Cur.mk code r16 r17)) r2 fun r31 r32 r33 =>
  Q r2 r15 r31
def impl_editKey (sx:List Variable) (sets:List Int) (Q:Int→Prop):Prop :=
  Loop2 (fun (key:Int) (x:Int) nx =>
  br (decide (x<(ln sets))) (idx sets x fun x7 =>
  idx sx x fun x13 =>
  (0:Int)≤x13.Levels∧(
  nx (bits .or .i64 (shl .i64 key x13.Levels) x7) (wr (x+1)))) <|
  Q key) 0 0
def impl_maximalEdits_1 (sets:List Int) (c1:List (Int×Bool)) (c8:List Variable) (c17:List Edit) (Q:(List (Int×Bool))→(List Edit)→Prop):Prop :=
  det1 (impl_editKey c8 sets) fun r44 =>
  slices_Clone_int_int sets fun r58 =>
  (ln c17+ln ([((Edit.mk r58):Edit)])) * 24≤140737488355328∧(
  Q (mput c1 r44 true) (c17++([((Edit.mk r58):Edit)])))
def impl_impliedIn_impl_maximalEdits_1 (sx:List Variable) (inx:List Bool) (vx7:Int) (sets:List Int) (c14:List (Int×Bool)) (c21:List Variable) (c30:List Edit) (Q:(List (Int×Bool))→(List Edit)→Prop):Prop :=
  Rec7 (fun (self:(List Variable)→(List Bool)→Int→(List Int)→(List (Int×Bool))→(List Variable)→(List Edit)→((List (Int×Bool))→(List Edit)→Prop)→Prop) (sx:List Variable) (inx:List Bool) (vx7:Int) (sets:List Int) (c14:List (Int×Bool)) (c21:List Variable) (c30:List Edit) (Q:(List (Int×Bool))→(List Edit)→Prop) =>
  br ((ln sets)==(ln sx)) (jn (fun (k:(List (Int×Bool))→(List Edit)→Prop)=>idx inx 0 fun x84 =>
  br (x84) (impl_maximalEdits_1 sets c14 c21 c30 fun r92 r93 =>
  k r92 r93) <|
  k c14 c30) <|
  fun (mp:List (Int×Bool)) (x:List Edit) =>
  Q mp x) <|
  idx sx (ln sets) fun x118 =>
  x118.Levels≠0∧(
  jn (fun (k127:Int→Prop)=>br ((ln sets)==vx7) (idx sx (ln sets) fun x130 =>
  impl_fullSet x130 fun r139 =>
  k127 r139) <|
  k127 1) <|
  fun (least:Int) =>
  Loop3 (fun (setx:Int) (mp147:List (Int×Bool)) (x152:List Edit) nx =>
  idx sx (ln sets) fun x180 =>
  impl_fullSet x180 fun r193 =>
  br (decide (setx≤r193)) (jn (fun (k255:(List (Int×Bool))→(List Edit)→Prop)=>(0:Int)≤(wr (Int.tdiv (ln inx) x118.Levels))∧1 * (wr (Int.tdiv (ln inx) x118.Levels))≤140737488355328∧(
  Loop3 (fun (rest:List Bool) (any:Bool) (x271:Int) nx277 =>
  br (decide (x271<(ln (List.replicate (Int.toNat (wr (Int.tdiv (ln inx) x118.Levels))) false)))) (jn (fun (k310:(List Bool)→Bool→Prop)=>(0:Int)≤x271∧Int.toNat x271<List.length rest∧(
  idx sx (ln sets) fun x319 =>
  Loop2 (fun (rest329:List Bool) (x335:Int) nx341 =>
  br (decide (x335<x319.Levels)) (jn (fun (k389:(List Bool)→Prop)=>idx rest329 x271 fun x391 =>
  br (x391) ((0:Int)≤x335∧(
  br ((bits .and .i64 (shr .i64 setx x335) 1)==0) ((0:Int)≤x271∧Int.toNat x271<List.length rest329∧(
  k389 (List.set rest329 (Int.toNat x271) true))) <|
  idx inx (wr ((wr (x335 * (wr (Int.tdiv (ln inx) x118.Levels))))+x271)) fun x415 =>
  (0:Int)≤x271∧Int.toNat x271<List.length rest329∧(
  k389 (List.set rest329 (Int.toNat x271) x415)))) <|
  (0:Int)≤x271∧Int.toNat x271<List.length rest329∧(
  k389 (List.set rest329 (Int.toNat x271) false))) <|
  fun (rest381:List Bool) =>
  nx341 rest381 (wr (x335+1))) <|
  br (any) (k310 rest329 true) <|
  idx rest329 x271 fun x454 =>
  k310 rest329 x454) (List.set rest (Int.toNat x271) true) 0)) <|
  fun (rest301:List Bool) (any307:Bool) =>
  nx277 rest301 any307 (wr (x271+1))) <|
  br (any) ((ln sets+ln ([setx])) * 8≤140737488355328∧(
  self sx rest vx7 (sets++([setx])) mp147 c21 x152 fun r540 r541 =>
  k255 r540 r541)) <|
  k255 mp147 x152) (List.replicate (Int.toNat (wr (Int.tdiv (ln inx) x118.Levels))) false) false 0)) <|
  fun (mp225:List (Int×Bool)) (x230:List Edit) =>
  nx (wr (setx+1)) mp225 x230) <|
  Q mp147 x152) least c14 c30)) sx inx vx7 sets c14 c21 c30 Q
def impl_canGrow (sx:List Variable) (implied:List (Int×Bool)) (ex5:Edit) (Q:Bool→Prop):Prop :=
  slices_Clone_int_int ex5.Sets fun r14 =>
  Loop2 (fun (sets:List Int) (x29:Int) nx =>
  br (decide (x29<(ln r14))) (idx sx x29 fun x32 =>
  Loop2 (fun (sets38:List Int) (x44:Int) nx50 =>
  br (decide (x44<x32.Levels)) (jn (fun (k:(List Int)→Prop)=>idx sets38 x29 fun x75 =>
  (0:Int)≤x44∧(
  br ((bits .and .i64 (shr .i64 x75 x44) 1)==1) (k sets38) <|
  idx sets38 x29 fun x87 =>
  (0:Int)≤x44∧(
  (0:Int)≤x29∧Int.toNat x29<List.length sets38∧(
  impl_editKey sx (List.set sets38 (Int.toNat x29) (bits .or .i64 x87 (shl .i64 1 x44))) fun r109 =>
  idx (List.set sets38 (Int.toNat x29) (bits .or .i64 x87 (shl .i64 1 x44))) x29 fun x120 =>
  (0:Int)≤x44∧(
  (0:Int)≤x29∧Int.toNat x29<List.length (List.set sets38 (Int.toNat x29) (bits .or .i64 x87 (shl .i64 1 x44)))∧(
  br (mget implied r109 false) (Q true) <|
  k (List.set (List.set sets38 (Int.toNat x29) (bits .or .i64 x87 (shl .i64 1 x44))) (Int.toNat x29) (bits .andNot .i64 x120 (shl .i64 1 x44))))))))) <|
  fun (sets67:List Int) =>
  nx50 sets67 (wr (x44+1))) <|
  nx sets38 (wr (x29+1))) sets 0) <|
  Q false) r14 0
def impl_maximalEdits (sx:List Variable) (l:List Edit) (vx7:Int) (Q:(List Edit)→Prop):Prop :=
  impl_failing sx l fun r34 =>
  impl_impliedIn_impl_maximalEdits_1 sx r34 vx7 ([]) (([]:List (Int×Bool))) sx ([]) fun r71 r72 =>
  Loop2 (fun (out:List Edit) (x113:Int) nx =>
  br (decide (x113<(ln r72))) (jn (fun (k:(List Edit)→Prop)=>idx r72 x113 fun x158 =>
  impl_canGrow sx r71 ((Edit.mk x158.Sets)) fun r187 =>
  br (!r187) ((ln out+ln ([((Edit.mk x158.Sets):Edit)])) * 24≤140737488355328∧(
  k (out++([((Edit.mk x158.Sets):Edit)])))) <|
  k out) <|
  fun (out142:List Edit) =>
  nx out142 (wr (x113+1))) <|
  Q out) ([]) 0
def impl_involvedIn (sx:List Variable) (ex1:Edit) (Q:(List Int)→Prop):Prop :=
  Loop2 (fun (vars:List Int) (x13:Int) nx =>
  br (decide (x13<(ln ex1.Sets))) (jn (fun (k:(List Int)→Prop)=>idx ex1.Sets x13 fun x33 =>
  idx sx x13 fun x39 =>
  impl_fullSet x39 fun r48 =>
  br (x33 != r48) ((ln vars+ln ([x13])) * 8≤140737488355328∧(
  k (vars++([x13])))) <|
  k vars) <|
  fun (vars23:List Int) =>
  nx vars23 (wr (x13+1))) <|
  Q vars) ([]) 0
def slices_Index_int_int (sx:List Int) (vx1:Int) (Q:Int→Prop):Prop :=
  Loop1 (fun (x:Int) nx =>
  br (decide (x<(ln sx))) (idx sx x fun x2 =>
  br (vx1==x2) (Q x) <|
  nx (wr (x+1))) <|
  Q ((-1))) 0
def slices_Contains_int_int (sx:List Int) (vx1:Int) (Q:Bool→Prop):Prop :=
  slices_Index_int_int sx vx1 fun r2 =>
  Q (decide (r2≥0))
def impl_EditsOnly (sx:List Variable) (l:List Edit) (vars:List Int) (Q:(List Edit)→Bool→Prop):Prop :=
  jn (fun (k:Bool→Prop)=>impl_isSmall sx fun r14 =>
  br (!r14) (k true) <|
  impl_areEdits sx l fun r17 =>
  br (!r17) (k true) <|
  impl_areVars sx vars fun r23 =>
  k (!r23)) <|
  fun (x:Bool) =>
  br (x) (Q ([]) false) <|
  impl_maximalEdits sx l ((-1)) fun r32 =>
  Loop2 (fun (out:List Edit) (x51:Int) nx =>
  br (decide (x51<(ln r32))) (jn (fun (k84:(List Edit)→Prop)=>idx r32 x51 fun x86 =>
  impl_involvedIn sx ((Edit.mk x86.Sets)) fun r109 =>
  Loop2 (fun (only:Bool) (x123:Int) nx129 =>
  br (decide (x123<(ln r109))) (jn (fun (k151:Bool→Prop)=>idx r109 x123 fun x153 =>
  br (only) (slices_Contains_int_int vars x153 fun r162 =>
  k151 r162) <|
  k151 false) <|
  fun (only148:Bool) =>
  nx129 only148 (wr (x123+1))) <|
  br (only) ((ln out+ln ([((Edit.mk x86.Sets):Edit)])) * 24≤140737488355328∧(
  k84 (out++([((Edit.mk x86.Sets):Edit)])))) <|
  k84 out) true 0) <|
  fun (out68:List Edit) =>
  nx out68 (wr (x51+1))) <|
  Q out true) ([]) 0
def spec_eSearch_free (x:ESearch) (sets:List Int) (Q:Bool→Prop):Prop :=
  Loop1 (fun (x20:Int) nx =>
  br (decide (x20<(ln x.Passing))) (idx x.Passing x20 fun x22 =>
  spec_eFails ((Edit.mk sets)) x22 fun r32 =>
  br (r32) (Q false) <|
  nx (wr (x20+1))) <|
  Q true) 0
def spec_eSearch_grows (x:ESearch) (sets:List Int) (Q:Bool→Prop):Prop :=
  Loop1 (fun (x20:Int) nx =>
  br (decide (x20<(ln sets))) (Loop1 (fun (level:Int) nx27 =>
  idx x.S x20 fun x29 =>
  br (decide (level<x29.Levels)) (jn (fun (k:Prop)=>idx sets x20 fun x41 =>
  (0:Int)≤(IntKind.u64.wrap (level))∧(
  br ((bits .and .i64 (shr .i64 x41 (IntKind.u64.wrap (level))) 1)==1) (k) <|
  spec_l1Own sets fun r51 =>
  idx r51 x20 fun x59 =>
  (0:Int)≤(IntKind.u64.wrap (level))∧(
  (0:Int)≤x20∧Int.toNat x20<List.length r51∧(
  spec_eSearch_free ((ESearch.mk x.S x.Passing x.V x.Out)) (List.set r51 (Int.toNat x20) (bits .or .i64 x59 (shl .i64 1 (IntKind.u64.wrap (level))))) fun r75 =>
  br (r75) (Q true) <|
  k)))) <|
  nx27 (wr (level+1))) <|
  nx (wr (x20+1))) 0) <|
  Q false) 0
def spec_eSearch_run (x:ESearch) (k:Int) (sets:List Int) (Q:(List Edit)→Int→Prop):Prop :=
  Rec3 (fun (self:ESearch→Int→(List Int)→((List Edit)→Int→Prop)→Prop) (x:ESearch) (k:Int) (sets:List Int) (Q:(List Edit)→Int→Prop) =>
  br (k==(ln x.S)) (jn (fun (k37:(List Edit)→Prop)=>jn (fun (k41:Bool→Prop)=>spec_eSearch_free ((ESearch.mk x.S x.Passing x.V x.Out)) sets fun r43 =>
  br (r43) (spec_eSearch_grows ((ESearch.mk x.S x.Passing x.V x.Out)) sets fun r47 =>
  k41 (!r47)) <|
  k41 false) <|
  fun (x38:Bool) =>
  br (x38) (spec_l1Own sets fun r62 =>
  (ln x.Out+ln ([((Edit.mk r62):Edit)])) * 24≤140737488355328∧(
  k37 (x.Out++([((Edit.mk r62):Edit)])))) <|
  k37 x.Out) <|
  fun (out:List Edit) =>
  Q out x.V) <|
  jn (fun (k133:Int→Prop)=>br (k==x.V) (spec_eFull x.S k fun r136 =>
  k133 r136) <|
  k133 1) <|
  fun (first:Int) =>
  Loop3 (fun (setx:Int) (vx139:Int) (out140:List Edit) nx =>
  spec_eFull x.S k fun r159 =>
  br (decide (setx≤r159)) (spec_l1Own sets fun r165 =>
  (ln r165+ln ([setx])) * 8≤140737488355328∧(
  self ((ESearch.mk x.S x.Passing vx139 out140)) (wr (k+1)) (r165++([setx])) fun r211 r212 =>
  nx (wr (setx+1)) r212 r211)) <|
  Q out140 vx139) first x.V x.Out) x k sets Q
def spec_eMaximal (sx:List Variable) (l:List Edit) (vx7:Int) (Q:(List Edit)→Prop):Prop :=
  Loop2 (fun (i:Int) (passing:List (List Int)) nx =>
  spec_sCount sx fun r18 =>
  br (decide (i<r18)) (jn (fun (k:(List (List Int))→Prop)=>spec_sAt sx i fun r44 =>
  spec_eFailed l r44 fun r54 =>
  br ((ln r54)==0) ((ln passing+ln ([r44])) * 24≤140737488355328∧(
  k (passing++([r44])))) <|
  k passing) <|
  fun (passing31:List (List Int)) =>
  nx (wr (i+1)) passing31) <|
  spec_eSearch_run ((ESearch.mk sx passing vx7 ([]))) 0 ([]) fun r110 r111 =>
  Q r110) 0 ([])
def spec_eInvolved (sx:List Variable) (ex1:Edit) (Q:(List Int)→Prop):Prop :=
  Loop2 (fun (out:List Int) (x13:Int) nx =>
  br (decide (x13<(ln ex1.Sets))) (jn (fun (k:(List Int)→Prop)=>idx ex1.Sets x13 fun x33 =>
  spec_eFull sx x13 fun r39 =>
  br (x33 != r39) ((ln out+ln ([x13])) * 8≤140737488355328∧(
  k (out++([x13])))) <|
  k out) <|
  fun (out23:List Int) =>
  nx out23 (wr (x13+1))) <|
  Q out) ([]) 0
def spec_l1Has (l:List Int) (n:Int) (Q:Bool→Prop):Prop :=
  Loop1 (fun (x:Int) nx =>
  br (decide (x<(ln l))) (idx l x fun x1 =>
  br (x1==n) (Q true) <|
  nx (wr (x+1))) <|
  Q false) 0
def spec_EditsOnly (sx:List Variable) (l:List Edit) (vars:List Int) (Q:(List Edit)→Bool→Prop):Prop :=
  jn (fun (k:Bool→Prop)=>spec_eSmall sx l fun r14 =>
  br (!r14) (k true) <|
  spec_l1Rising vars 0 (wr ((ln sx)-1)) fun r17 =>
  k (!r17)) <|
  fun (x:Bool) =>
  br (x) (Q ([]) false) <|
  spec_eMaximal sx l ((-1)) fun r23 =>
  Loop2 (fun (out:List Edit) (x42:Int) nx =>
  br (decide (x42<(ln r23))) (jn (fun (k75:(List Edit)→Prop)=>idx r23 x42 fun x77 =>
  spec_eInvolved sx ((Edit.mk x77.Sets)) fun r100 =>
  Loop2 (fun (inx:Bool) (x114:Int) nx120 =>
  br (decide (x114<(ln r100))) (jn (fun (k142:Bool→Prop)=>idx r100 x114 fun x144 =>
  br (inx) (spec_l1Has vars x144 fun r153 =>
  k142 r153) <|
  k142 false) <|
  fun (inx139:Bool) =>
  nx120 inx139 (wr (x114+1))) <|
  br (inx) ((ln out+ln ([((Edit.mk x77.Sets):Edit)])) * 24≤140737488355328∧(
  k75 (out++([((Edit.mk x77.Sets):Edit)])))) <|
  k75 out) true 0) <|
  fun (out59:List Edit) =>
  nx out59 (wr (x42+1))) <|
  Q out true) ([]) 0
def laws_FnCompletions (code:List B8) (more:List B8) (Q:Bool→Prop):Prop :=
  laws_big code more fun r7 =>
  br (r7) (Q true) <|
  spec_DrawCompletionOf code fun r9 r10 r11 r12 =>
  impl_CompletionOf r9 r10 r11 r12 fun r47 r48 =>
  spec_CompletionOf r9 r10 r11 r12 fun r58 r59 =>
  impl_CanComplete r9 r10 r11 r12 fun r73 r74 =>
  jn (fun (k:Bool→Prop)=>br (r48 != r59) (k true) <|
  laws_sameInts r47 r58 fun r103 =>
  br (!r103) (k true) <|
  br (r74) (k (r73 != r48)) <|
  k false) <|
  fun (x99:Bool) =>
  br (x99) (Q false) <|
  jn (fun (k120:Prop)=>br (r48) (Loop1 (fun (x123:Int) nx =>
  br (decide (x123<(ln r11))) (idx r11 x123 fun x127 =>
  idx r58 x127 fun x135 =>
  idx r12 x127 fun x145 =>
  br (x135 != x145) (Q false) <|
  nx (wr (x123+1))) <|
  impl_FailedEdits r9 r10 r47 fun r161 r162 =>
  impl_IsContradictory r9 r10 fun r175 r176 =>
  jn (fun (k189:Bool→Prop)=>br (!r162) (k189 true) <|
  br (decide ((ln r161)>0)) (k189 true) <|
  br (!r176) (k189 true) <|
  k189 r175) <|
  fun (x187:Bool) =>
  br (x187) (Q false) <|
  k120) 0) <|
  k120) <|
  spec_DrawWithoutContained more fun r195 r196 =>
  impl_WithoutContained r195 r196 fun r215 r216 =>
  spec_WithoutContained r195 r196 fun r226 r227 =>
  jn (fun (k255:Bool→Prop)=>br (r216 != r227) (k255 true) <|
  laws_pSameEdits r215 r226 fun r258 =>
  k255 (!r258)) <|
  fun (x252:Bool) =>
  br (x252) (Q false) <|
  spec_DrawEditsOnly more fun r263 r264 r265 =>
  impl_EditsOnly r263 r264 r265 fun r293 r294 =>
  spec_EditsOnly r263 r264 r265 fun r304 r305 =>
  jn (fun (k329:Bool→Prop)=>br (r294==r305) (laws_pSameEdits r293 r304 fun r332 =>
  k329 r332) <|
  k329 false) <|
  fun (x326:Bool) =>
  Q x326
end Go.Proofs.YtbgnaamdlcggjaaGreat
