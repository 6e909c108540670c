/- What each Go function means: a definition over numbers and lists; Q: what is to hold of its results. -/
import Derived.Test.YtbgnaamdlcggjaaGreatLib
set_option linter.unusedVariables false
set_option autoImplicit false
namespace Go.Proofs.YtbgnaamdlcggjaaGreat
open Go Go.RowKit Go.Gv
structure Geo where
  Parents:List Int
instance:Wf Geo:=⟨fun x=>Wf.wf x.Parents⟩
instance:Deep Geo:=Deep.via (fun x=>x.Parents)
structure Variable where
  Name:ByteArray
  Levels:Int
instance:Wf Variable:=⟨fun x=>Wf.wf x.Name∧Wf.wf x.Levels⟩
instance:Flat Variable where
  n:=2
  agg:=true
  rd _ cs x:=cs=[.string x.Name,I x.Levels]
  enc x:=[.string x.Name,I x.Levels]
  len h:=by subst h; rfl
  le _ h:=h
  one h c hc:=by subst h; simp at hc; rcases hc with rfl | rfl <;> rfl
  sing h:=by cases h
  flat:=Iff.rfl
theorem Variable_rv {h:PH} {v:Value} {x:Variable} (r:RV h v x):v = .agg #[.string x.Name,I x.Levels]:=by obtain ⟨cs,rfl,rfl⟩:=r; rfl
structure Table where
  Level:Int
  Vars:List Int
  Where:List Int
  Sum:Int
instance:Wf Table:=⟨fun x=>Wf.wf x.Level∧Wf.wf x.Vars∧Wf.wf x.Where∧Wf.wf x.Sum⟩
instance:Deep Table:=Deep.via (fun x=>(x.Level,x.Vars,x.Where,x.Sum))
structure Record where
  Area:Int
  House:Int
  Values:List Int
instance:Wf Record:=⟨fun x=>Wf.wf x.Area∧Wf.wf x.House∧Wf.wf x.Values⟩
instance:Deep Record:=Deep.via (fun x=>(x.Area,x.House,x.Values))
theorem Record_rd {h:PH} {cs:List Value} {x:Record} (r:Enc.rd h cs x):∃ u0,cs=[I x.Area,I x.House,u0]∧RS h u0 x.Values:=by
  obtain ⟨_,_,rfl,rfl,⟨_,_,rfl,rfl,⟨u0,rfl,r0⟩⟩⟩:=r; exact ⟨_,rfl,r0⟩
theorem Record_rv {h:PH} {v:Value} {x:Record} (r:RV h v x):∃ u0,v = .agg #[I x.Area,I x.House,u0]∧RS h u0 x.Values:=by
  obtain ⟨cs,hr,rfl⟩:=r; obtain ⟨u0,rfl,r0⟩:=Record_rd hr; exact ⟨_,rfl,r0⟩
structure L1Cur where
  Code:List B8
  At:Int
  Seed:Int
def laws_big (code:List B8) (more:List B8) (Q:Bool→Prop):Prop :=
  jn (fun (k:Bool→Prop)=>br (decide ((ln code)>1048576)) (k true) <|
  k (decide ((ln more)>(wr (1048576-(ln code)))))) <|
  fun (x:Bool) =>
  Q x
def spec_l1Cur_next (c:L1Cur) (Q:Int→Int→Int→Prop):Prop :=
  jn (fun (k:Int→Prop)=>br (decide (c.At<(ln c.Code))) (idx c.Code c.At fun x7 =>
  k (wr (x7.v))) <|
  k 0) <|
  fun (b3:Int) =>
  br (decide ((wr (c.At+1))≤(ln c.Code))) (Q b3 (wr (c.At+1)) (IntKind.u64.wrap ((IntKind.u64.wrap ((IntKind.u64.wrap (c.Seed * 6364136223846793005))+(IntKind.u64.wrap (b3))))+1442695040888963407))) <|
  Q (wr (bits .and .u64 (Int.fdiv (IntKind.u64.wrap ((IntKind.u64.wrap ((IntKind.u64.wrap (c.Seed * 6364136223846793005))+(IntKind.u64.wrap (b3))))+1442695040888963407)) (2 ^ 40)) 255)) (wr (c.At+1)) (IntKind.u64.wrap ((IntKind.u64.wrap ((IntKind.u64.wrap (c.Seed * 6364136223846793005))+(IntKind.u64.wrap (b3))))+1442695040888963407))
def spec_l1Cur_pick (c:L1Cur) (n:Int) (Q:Int→Int→Int→Prop):Prop :=
  br (decide (n≤1)) (Q 0 c.At c.Seed) <|
  spec_l1Cur_next ((L1Cur.mk c.Code c.At c.Seed)) fun r3 r4 r5 =>
  jn (fun (k:Int→Int→Int→Prop)=>br (decide (n>200)) (spec_l1Cur_next ((L1Cur.mk c.Code r4 r5)) fun r14 r15 r16 =>
  k (wr ((wr (r3 * 256))+r14)) r15 r16) <|
  k r3 r4 r5) <|
  fun (x9:Int) (atx:Int) (seed:Int) =>
  n≠0∧(
  Q (Int.tmod x9 n) atx seed)
def spec_l1Own (l:List Int) (Q:(List Int)→Prop):Prop :=
  (ln (([]:List Int))+ln l) * 8≤140737488355328∧(
  Q ((([]:List Int))++l))
def spec_l1Cur_geo (c:L1Cur) (Q:Geo→Int→Int→Prop):Prop :=
  spec_l1Cur_pick ((L1Cur.mk c.Code c.At c.Seed)) (ln ([[(-1),0,0],[(-1),0,0,1,1,2,2],[(-1),0,0,0,1,1,2,3],[(-1),0,0,1,1],[(-1)],[(-1),0,1,2]])) fun r84 r85 r86 =>
  idx ([[(-1),0,0],[(-1),0,0,1,1,2,2],[(-1),0,0,0,1,1,2,3],[(-1),0,0,1,1],[(-1)],[(-1),0,1,2]]) r84 fun x93 =>
  spec_l1Own x93 fun r117 =>
  spec_l1Cur_pick ((L1Cur.mk c.Code r85 r86)) 4 fun r134 r135 r136 =>
  Loop4 (fun (k:Int) (atx:Int) (seed:Int) (parents:List Int) nx =>
  br (decide (k>0)) (spec_l1Cur_pick ((L1Cur.mk c.Code atx seed)) (ln parents) fun r177 r178 r179 =>
  (ln parents+ln ([r177])) * 8≤140737488355328∧(
  nx (wr (k-1)) r178 r179 (parents++([r177])))) <|
  Q ((Geo.mk parents)) atx seed) r134 r135 r136 r117
def spec_l1Cur_schema (c:L1Cur) (Q:(List Variable)→Int→Int→Prop):Prop :=
  Loop4 (fun (out:List Variable) (k:Int) (atx:Int) (seed:Int) nx =>
  spec_l1Cur_pick ((L1Cur.mk c.Code atx seed)) 3 fun r21 r22 r23 =>
  br (decide (k<(wr (1+r21)))) (idx ([(ByteArray.mk #[115,101,120]),(ByteArray.mk #[97,103,101]),(ByteArray.mk #[106,111,98]),(ByteArray.mk #[104,111,109,101]),(ByteArray.mk #[115,105,122,101]),(ByteArray.mk #[108,97,110,103])]) k fun x30 =>
  spec_l1Cur_pick ((L1Cur.mk c.Code r22 r23)) 3 fun r42 r43 r44 =>
  (ln out+ln ([(Variable.mk x30 (wr (2+r42)))])) * 24≤140737488355328∧(
  nx (out++([(Variable.mk x30 (wr (2+r42)))])) (wr (k+1)) r43 r44)) <|
  Q out r22 r23) ([]) 0 c.At c.Seed
def spec_gChildren (g:Geo) (i:Int) (Q:(List Int)→Prop):Prop :=
  Loop2 (fun (out:List Int) (x6:Int) nx =>
  br (decide (x6<(ln g.Parents))) (jn (fun (k:(List Int)→Prop)=>idx g.Parents x6 fun x25 =>
  br (x25==i) ((ln out+ln ([x6])) * 8≤140737488355328∧(
  k (out++([x6])))) <|
  k out) <|
  fun (out15:List Int) =>
  nx out15 (wr (x6+1))) <|
  Q out) ([]) 0
def spec_gLeaves (g:Geo) (Q:(List Int)→Prop):Prop :=
  Loop2 (fun (out:List Int) (x6:Int) nx =>
  br (decide (x6<(ln g.Parents))) (jn (fun (k:(List Int)→Prop)=>spec_gChildren ((Geo.mk g.Parents)) x6 fun r27 =>
  br ((ln r27)==0) ((ln out+ln ([x6])) * 8≤140737488355328∧(
  k (out++([x6])))) <|
  k out) <|
  fun (out17:List Int) =>
  nx out17 (wr (x6+1))) <|
  Q out) ([]) 0
def spec_l1Cur_among (c:L1Cur) (list:List Int) (Q:Int→Int→Int→Prop):Prop :=
  spec_l1Cur_pick ((L1Cur.mk c.Code c.At c.Seed)) (ln list) fun r10 r11 r12 =>
  idx list r10 fun x14 =>
  Q x14 r11 r12
def spec_l1Cur_values (c:L1Cur) (sx:List Variable) (Q:(List Int)→Int→Int→Prop):Prop :=
  Loop4 (fun (out:List Int) (x:Int) (atx:Int) (seed:Int) nx =>
  br (decide (x<(ln sx))) (idx sx x fun x19 =>
  spec_l1Cur_pick ((L1Cur.mk c.Code atx seed)) x19.Levels fun r34 r35 r36 =>
  (ln out+ln ([r34])) * 8≤140737488355328∧(
  nx (out++([r34])) (wr (x+1)) r35 r36)) <|
  Q out atx seed) ([]) 0 c.At c.Seed
def spec_l1Cur_record (c:L1Cur) (sx:List Variable) (areas:List Int) (Q:Record→Int→Int→Prop):Prop :=
  spec_l1Cur_among ((L1Cur.mk c.Code c.At c.Seed)) areas fun r19 r20 r21 =>
  spec_l1Cur_pick ((L1Cur.mk c.Code r20 r21)) 6 fun r28 r29 r30 =>
  spec_l1Cur_values ((L1Cur.mk c.Code r29 r30)) sx fun r35 r36 r37 =>
  Q ((Record.mk r19 r28 r35)) r36 r37
def spec_l1Cur_one (c:L1Cur) (n:Int) (Q:Bool→Int→Int→Prop):Prop :=
  spec_l1Cur_pick ((L1Cur.mk c.Code c.At c.Seed)) n fun r3 r4 r5 =>
  Q (r3==0) r4 r5
def spec_rOwn (r:Record) (Q:Record→Prop):Prop :=
  spec_l1Own r.Values fun r13 =>
  Q ((Record.mk r.Area r.House r13))
def spec_l1Cur_data (c:L1Cur) (sx:List Variable) (areas:List Int) (Q:(List Record)→Int→Int→Prop):Prop :=
  spec_l1Cur_pick ((L1Cur.mk c.Code c.At c.Seed)) 12 fun r17 r18 r19 =>
  Loop4 (fun (out:List Record) (k:Int) (atx:Int) (seed:Int) nx =>
  br (decide (k>0)) (jn (fun (k52:(List Record)→Int→Int→Prop)=>spec_l1Cur_record ((L1Cur.mk c.Code atx seed)) sx areas fun r53 r54 r55 =>
  (ln out+ln ([((Record.mk r53.Area r53.House r53.Values):Record)])) * 40≤140737488355328∧(
  spec_l1Cur_one ((L1Cur.mk c.Code r54 r55)) 4 fun r98 r99 r100 =>
  br (r98) (spec_rOwn ((Record.mk r53.Area r53.House r53.Values)) fun r115 =>
  (ln (out++([((Record.mk r53.Area r53.House r53.Values):Record)]))+ln ([((Record.mk r115.Area r115.House r115.Values):Record)])) * 40≤140737488355328∧(
  k52 ((out++([((Record.mk r53.Area r53.House r53.Values):Record)]))++([((Record.mk r115.Area r115.House r115.Values):Record)])) r99 r100)) <|
  k52 (out++([((Record.mk r53.Area r53.House r53.Values):Record)])) r99 r100)) <|
  fun (out35:List Record) (atx41:Int) (seed42:Int) =>
  nx out35 (wr (k-1)) atx41 seed42) <|
  Q out atx seed) ([]) r17 r18 r19
def spec_l1Cur_survey (c:L1Cur) (Q:Geo→(List Variable)→(List Record)→Int→Int→Prop):Prop :=
  spec_l1Cur_geo ((L1Cur.mk c.Code c.At c.Seed)) fun r5 r6 r7 =>
  spec_l1Cur_schema ((L1Cur.mk c.Code r6 r7)) fun r27 r28 r29 =>
  spec_gLeaves ((Geo.mk r5.Parents)) fun r51 =>
  spec_l1Cur_data ((L1Cur.mk c.Code r28 r29)) r27 r51 fun r68 r69 r70 =>
  Q ((Geo.mk r5.Parents)) r27 r68 r69 r70
def spec_l1Cur_anyGeo (c:L1Cur) (Q:Geo→Int→Int→Prop):Prop :=
  spec_l1Cur_geo ((L1Cur.mk c.Code c.At c.Seed)) fun r5 r6 r7 =>
  jn (fun (k:Int→Int→(List Int)→Prop)=>spec_l1Cur_pick ((L1Cur.mk c.Code r6 r7)) 24 fun r59 r60 r61 =>
  br (r59==0) ((0:Int)≤0∧Int.toNat 0<List.length r5.Parents∧(
  k r60 r61 (List.set r5.Parents (Int.toNat 0) 0))) <|
  br (r59==1) (spec_l1Cur_among ((L1Cur.mk c.Code r60 r61)) ([(-1),ln r5.Parents,0]) fun r103 r104 r105 =>
  (ln r5.Parents+ln ([r103])) * 8≤140737488355328∧(
  k r104 r105 (r5.Parents++([r103])))) <|
  br (r59==2) (Q ((Geo.mk ([]))) r60 r61) <|
  br (r59==3) (spec_l1Cur_pick ((L1Cur.mk c.Code r60 r61)) 2 fun r177 r178 r179 =>
  (0:Int)≤(wr ((wr (30-(ln r5.Parents)))+r177))∧(ln r5.Parents+(wr ((wr (30-(ln r5.Parents)))+r177))) * 8≤140737488355328∧(
  k r178 r179 (r5.Parents++List.replicate (Int.toNat (wr ((wr (30-(ln r5.Parents)))+r177))) ((0:Int))))) <|
  k r60 r61 r5.Parents) <|
  fun (atx:Int) (seed:Int) (parents:List Int) =>
  Q ((Geo.mk parents)) atx seed
def spec_l1Cur_of (c:L1Cur) (list:List ByteArray) (Q:ByteArray→Int→Int→Prop):Prop :=
  spec_l1Cur_pick ((L1Cur.mk c.Code c.At c.Seed)) (ln list) fun r10 r11 r12 =>
  idx list r10 fun x14 =>
  Q x14 r11 r12
def spec_l1Cur_anySchema (c:L1Cur) (Q:(List Variable)→Int→Int→Prop):Prop :=
  spec_l1Cur_schema ((L1Cur.mk c.Code c.At c.Seed)) fun r3 r4 r5 =>
  jn (fun (k:(List Variable)→Int→Int→Prop)=>spec_l1Cur_pick ((L1Cur.mk c.Code r4 r5)) 24 fun r30 r31 r32 =>
  br (r30==0) (spec_l1Cur_among ((L1Cur.mk c.Code r31 r32)) ([1,8,9]) fun r45 r46 r47 =>
  idx r3 0 fun x53 =>
  k (List.set r3 (Int.toNat 0) ({x53 with Levels:=r45}:Variable)) r46 r47) <|
  br (r30==1) (spec_l1Cur_of ((L1Cur.mk c.Code r31 r32)) ([(ByteArray.mk #[]),(ByteArray.mk #[65,103,101]),(ByteArray.mk #[97,98,99,100,101,102,103,104,105]),(ByteArray.mk #[97,103,101]),(ByteArray.mk #[97,98,32,99,100])]) fun r75 r76 r77 =>
  idx r3 0 fun x83 =>
  k (List.set r3 (Int.toNat 0) ({x83 with Name:=r75}:Variable)) r76 r77) <|
  br (r30==2) (Q ([]) r31 r32) <|
  br (r30==3) (Loop3 (fun (sx105:List Variable) (atx111:Int) (seed112:Int) nx =>
  spec_l1Cur_pick ((L1Cur.mk c.Code atx111 seed112)) 2 fun r125 r126 r127 =>
  br (decide ((ln sx105)<(wr (6+r125)))) (sln ((ByteArray.mk #[120]))+sln (b2s ([(B8.mk (IntKind.u8.wrap (wr (97+(ln sx105)))))]))≤9223372036854775807∧(
  (ln sx105+ln ([(Variable.mk (((ByteArray.mk #[120]))++(b2s ([(B8.mk (IntKind.u8.wrap (wr (97+(ln sx105)))))]))) 2)])) * 24≤140737488355328∧(
  nx (sx105++([(Variable.mk (((ByteArray.mk #[120]))++(b2s ([(B8.mk (IntKind.u8.wrap (wr (97+(ln sx105)))))]))) 2)])) r126 r127))) <|
  k sx105 r126 r127) r3 r31 r32) <|
  k r3 r31 r32) <|
  fun (sx:List Variable) (atx:Int) (seed:Int) =>
  Q sx atx seed
def spec_l1Cur_anySurvey (c:L1Cur) (Q:Geo→(List Variable)→(List Record)→Int→Int→Prop):Prop :=
  spec_l1Cur_survey ((L1Cur.mk c.Code c.At c.Seed)) fun r5 r6 r7 r8 r9 =>
  jn (fun (k:(List Record)→Int→Int→Prop)=>spec_l1Cur_pick ((L1Cur.mk c.Code r8 r9)) 20 fun r83 r84 r85 =>
  br (r83==0) (spec_l1Cur_anyGeo ((L1Cur.mk c.Code r84 r85)) fun r89 r90 r91 =>
  Q ((Geo.mk r89.Parents)) r6 r7 r90 r91) <|
  br (r83==1) (spec_l1Cur_anySchema ((L1Cur.mk c.Code r84 r85)) fun r130 r131 r132 =>
  Q ((Geo.mk r5.Parents)) r130 r7 r131 r132) <|
  br (r83==2) (spec_l1Cur_among ((L1Cur.mk c.Code r84 r85)) ([0,29,(-1)]) fun r183 r184 r185 =>
  spec_l1Cur_values ((L1Cur.mk c.Code r184 r185)) r6 fun r191 r192 r193 =>
  (ln r7+ln ([((Record.mk r183 0 r191):Record)])) * 40≤140737488355328∧(
  k (r7++([((Record.mk r183 0 r191):Record)])) r192 r193)) <|
  k r7 r84 r85) <|
  fun (l:List Record) (atx:Int) (seed:Int) =>
  Q ((Geo.mk r5.Parents)) r6 l atx seed
def spec_l1In (n:Int) (lo:Int) (hi:Int) (Q:Bool→Prop):Prop :=
  jn (fun (k:Bool→Prop)=>br (decide (n≥lo)) (k (decide (n≤hi))) <|
  k false) <|
  fun (x:Bool) =>
  Q x
def spec_gGood (g:Geo) (Q:Bool→Prop):Prop :=
  jn (fun (k:Bool→Prop)=>spec_l1In (ln g.Parents) 1 30 fun r8 =>
  br (!r8) (k true) <|
  idx g.Parents 0 fun x12 =>
  k (x12 != ((-1)))) <|
  fun (x5:Bool) =>
  br (x5) (Q false) <|
  Loop1 (fun (x22:Int) nx =>
  br (decide (x22<(ln g.Parents))) (idx g.Parents x22 fun x26 =>
  jn (fun (k40:Bool→Prop)=>br (decide (x22>0)) (spec_l1In x26 0 (wr (x22-1)) fun r43 =>
  k40 (!r43)) <|
  k40 false) <|
  fun (x37:Bool) =>
  br (x37) (Q false) <|
  nx (wr (x22+1))) <|
  Q true) 0
def spec_l1Cur_where (c:L1Cur) (sx:List Variable) (Q:(List Int)→Int→Int→Prop):Prop :=
  Loop4 (fun (out:List Int) (x:Int) (atx:Int) (seed:Int) nx =>
  br (decide (x<(ln sx))) (idx sx x fun x19 =>
  jn (fun (k:Int→Int→Int→Prop)=>spec_l1Cur_one ((L1Cur.mk c.Code atx seed)) 3 fun r50 r51 r52 =>
  br (r50) ((0:Int)≤(IntKind.u64.wrap (x19.Levels))∧(
  spec_l1Cur_pick ((L1Cur.mk c.Code r51 r52)) (wr ((shl .i64 1 (IntKind.u64.wrap (x19.Levels)))-1)) fun r59 r60 r61 =>
  k (wr (1+r59)) r60 r61)) <|
  k 0 r51 r52) <|
  fun (setx:Int) (atx45:Int) (seed46:Int) =>
  (ln out+ln ([setx])) * 8≤140737488355328∧(
  nx (out++([setx])) (wr (x+1)) atx45 seed46)) <|
  Q out atx seed) ([]) 0 c.At c.Seed
def spec_gDepth (g:Geo) (i:Int) (Q:Int→Prop):Prop :=
  Loop2 (fun (i2:Int) (n:Int) nx =>
  idx g.Parents i2 fun x4 =>
  br (decide (x4≥0)) (idx g.Parents i2 fun x11 =>
  nx x11 (wr (n+1))) <|
  Q n) i 0
def spec_gLevel (g:Geo) (level:Int) (Q:(List Int)→Prop):Prop :=
  Loop2 (fun (out:List Int) (x6:Int) nx =>
  br (decide (x6<(ln g.Parents))) (jn (fun (k:(List Int)→Prop)=>spec_gDepth ((Geo.mk g.Parents)) x6 fun r27 =>
  br (r27==level) ((ln out+ln ([x6])) * 8≤140737488355328∧(
  k (out++([x6])))) <|
  k out) <|
  fun (out17:List Int) =>
  nx out17 (wr (x6+1))) <|
  Q out) ([]) 0
def spec_l1Cur_table (c:L1Cur) (g:Geo) (sx:List Variable) (Q:Table→Int→Int→Prop):Prop :=
  spec_l1Cur_where ((L1Cur.mk c.Code c.At c.Seed)) sx fun r24 r25 r26 =>
  Loop4 (fun (x47:Int) (atx:Int) (seed:Int) (vars:List Int) nx =>
  br (decide (x47<(ln sx))) (jn (fun (k:Int→Int→(List Int)→Prop)=>spec_l1Cur_one ((L1Cur.mk c.Code atx seed)) 2 fun r129 r130 r131 =>
  br (r129) ((ln vars+ln ([x47])) * 8≤140737488355328∧(
  k r130 r131 (vars++([x47])))) <|
  k r130 r131 vars) <|
  fun (atx107:Int) (seed108:Int) (vars109:List Int) =>
  nx (wr (x47+1)) atx107 seed108 vars109) <|
  jn (fun (k232:Int→Int→Int→Prop)=>spec_gGood ((Geo.mk g.Parents)) fun r234 =>
  br (r234) (spec_l1Cur_pick ((L1Cur.mk c.Code atx seed)) 3 fun r238 r239 r240 =>
  spec_gLevel ((Geo.mk g.Parents)) r238 fun r254 =>
  br ((ln r254)==0) (k232 r239 r240 0) <|
  k232 r239 r240 r238) <|
  k232 atx seed 0) <|
  fun (atx222:Int) (seed223:Int) (level:Int) =>
  jn (fun (k309:Int→Int→Int→Prop)=>jn (fun (k317:Bool→Int→Int→Prop)=>spec_l1Cur_one ((L1Cur.mk c.Code atx222 seed223)) 3 fun r319 r320 r321 =>
  br (r319) (k317 (decide ((ln sx)>0)) r320 r321) <|
  k317 false r320 r321) <|
  fun (x311:Bool) (atx312:Int) (seed313:Int) =>
  br (x311) (spec_l1Cur_pick ((L1Cur.mk c.Code atx312 seed313)) (ln sx) fun r329 r330 r331 =>
  k309 r330 r331 r329) <|
  k309 atx312 seed313 ((-1))) <|
  fun (atx299:Int) (seed300:Int) (sum:Int) =>
  Q ((Table.mk level vars r24 sum)) atx299 seed300) 0 r25 r26 ([])
def spec_l1Cur_anyTable (c:L1Cur) (g:Geo) (sx:List Variable) (Q:Table→Int→Int→Prop):Prop :=
  spec_l1Cur_table ((L1Cur.mk c.Code c.At c.Seed)) ((Geo.mk g.Parents)) sx fun r25 r26 r27 =>
  jn (fun (k:Int→Int→Int→(List Int)→(List Int)→Int→Prop)=>spec_l1Cur_pick ((L1Cur.mk c.Code r26 r27)) 24 fun r107 r108 r109 =>
  br (r107==0) (spec_l1Cur_among ((L1Cur.mk c.Code r108 r109)) ([(-1),3,4]) fun r123 r124 r125 =>
  k r124 r125 r123 r25.Vars r25.Where r25.Sum) <|
  br (r107==1) (spec_l1Cur_among ((L1Cur.mk c.Code r108 r109)) ([(-1),0,6]) fun r169 r170 r171 =>
  (ln r25.Vars+ln ([r169])) * 8≤140737488355328∧(
  k r170 r171 r25.Level (r25.Vars++([r169])) r25.Where r25.Sum)) <|
  br (r107==2) ((ln r25.Where+ln ([0])) * 8≤140737488355328∧(
  k r108 r109 r25.Level r25.Vars (r25.Where++([0])) r25.Sum)) <|
  br (r107==3) (spec_l1Cur_among ((L1Cur.mk c.Code r108 r109)) ([(-2),3,6]) fun r286 r287 r288 =>
  k r287 r288 r25.Level r25.Vars r25.Where r286) <|
  br (r107==4) (br (decide ((ln r25.Where)>0)) (spec_l1Cur_among ((L1Cur.mk c.Code r108 r109)) ([(-1),255,256]) fun r334 r335 r336 =>
  (0:Int)≤0∧Int.toNat 0<List.length r25.Where∧(
  k r335 r336 r25.Level r25.Vars (List.set r25.Where (Int.toNat 0) r334) r25.Sum)) <|
  k r108 r109 r25.Level r25.Vars r25.Where r25.Sum) <|
  k r108 r109 r25.Level r25.Vars r25.Where r25.Sum) <|
  fun (atx:Int) (seed:Int) (level:Int) (vars:List Int) (wherex:List Int) (sum:Int) =>
  Q ((Table.mk level vars wherex sum)) atx seed
def spec_DrawSiteCells (code:List B8) (Q:Geo→(List Variable)→Table→(List (List Record))→Prop):Prop :=
  spec_l1Cur_anySurvey ((L1Cur.mk code 0 0)) fun r13 r14 r15 r16 r17 =>
  jn (fun (k:(List (List Record))→Int→Int→Prop)=>spec_gGood ((Geo.mk r13.Parents)) fun r111 =>
  br (r111) (spec_l1Cur_among ((L1Cur.mk code r16 r17)) ([1,1,2,3,0,8]) fun r126 r127 r128 =>
  Loop4 (fun (sites135:List (List Record)) (k141:Int) (atx142:Int) (seed143:Int) nx =>
  br (decide (k141>0)) (spec_gLeaves ((Geo.mk r13.Parents)) fun r165 =>
  spec_l1Cur_data ((L1Cur.mk code atx142 seed143)) r14 r165 fun r181 r182 r183 =>
  (ln sites135+ln ([r181])) * 24≤140737488355328∧(
  nx (sites135++([r181])) (wr (k141-1)) r182 r183)) <|
  k sites135 atx142 seed143) ([r15]) r126 r127 r128) <|
  k ([r15]) r16 r17) <|
  fun (sites:List (List Record)) (atx:Int) (seed:Int) =>
  spec_l1Cur_anyTable ((L1Cur.mk code atx seed)) ((Geo.mk r13.Parents)) r14 fun r255 r256 r257 =>
  Q ((Geo.mk r13.Parents)) r14 ((Table.mk r255.Level r255.Vars r255.Where r255.Sum)) sites
def spec_l1Cur_seed0 (c:L1Cur) (Q:Int→Int→Int→Prop):Prop :=
  spec_l1Cur_pick ((L1Cur.mk c.Code c.At c.Seed)) 12 fun r3 r4 r5 =>
  br (r3==0) (Q 0 r4 r5) <|
  br (r3==1) (spec_l1Cur_among ((L1Cur.mk c.Code r4 r5)) ([4611686016279904236,123456789012]) fun r16 r17 r18 =>
  Q r16 r17 r18) <|
  spec_l1Cur_pick ((L1Cur.mk c.Code r4 r5)) 60000 fun r25 r26 r27 =>
  Q r25 r26 r27
def spec_l1Cur_pairSeeds (c:L1Cur) (n:Int) (Q:(List (List Int))→Int→Int→Prop):Prop :=
  (0:Int)≤n∧24 * n≤140737488355328∧(
  Loop4 (fun (out:List (List Int)) (x13:Int) (atx:Int) (seed:Int) nx =>
  br (decide (x13<(ln (List.replicate (Int.toNat n) (([]:List Int)))))) ((0:Int)≤n∧8 * n≤140737488355328∧(
  (0:Int)≤x13∧Int.toNat x13<List.length out∧(
  Loop4 (fun (out41:List (List Int)) (k:Int) (atx47:Int) (seed48:Int) nx68 =>
  br (decide (k<x13)) (idx out41 x13 fun x72 =>
  spec_l1Cur_seed0 ((L1Cur.mk c.Code atx47 seed48)) fun r87 r88 r89 =>
  (0:Int)≤k∧Int.toNat k<List.length x72∧(
  idx (List.set out41 (Int.toNat x13) (List.set x72 (Int.toNat k) r87)) k fun x125 =>
  idx (List.set out41 (Int.toNat x13) (List.set x72 (Int.toNat k) r87)) x13 fun x141 =>
  idx x141 k fun x154 =>
  (0:Int)≤x13∧Int.toNat x13<List.length x125∧(
  nx68 (List.set (List.set out41 (Int.toNat x13) (List.set x72 (Int.toNat k) r87)) (Int.toNat k) (List.set x125 (Int.toNat x13) x154)) (wr (k+1)) r88 r89))) <|
  nx out41 (wr (x13+1)) atx47 seed48) (List.set out (Int.toNat x13) (List.replicate (Int.toNat n) ((0:Int)))) 0 atx seed))) <|
  jn (fun (k227:(List (List Int))→Int→Int→Prop)=>spec_l1Cur_pick ((L1Cur.mk c.Code atx seed)) 24 fun r228 r229 r230 =>
  br (r228==0) (br (decide (n>1)) (idx out 1 fun x236 =>
  idx x236 0 fun x251 =>
  (0:Int)≤0∧Int.toNat 0<List.length x236∧(
  k227 (List.set out (Int.toNat 1) (List.set x236 (Int.toNat 0) (wr (x251+1)))) r229 r230)) <|
  k227 out r229 r230) <|
  br (r228==1) ((0:Int)≤1∧1≤((List.length out:Int))∧((List.length out:Int))≤ln out∧(
  Q (List.take (Int.toNat ((List.length out:Int))-Int.toNat 1) (List.drop (Int.toNat 1) out)) r229 r230)) <|
  k227 out r229 r230) <|
  fun (out210:List (List Int)) (atx216:Int) (seed217:Int) =>
  Q out210 atx216 seed217) (List.replicate (Int.toNat n) (([]:List Int))) 0 c.At c.Seed)
def spec_l1Cur_modulus (c:L1Cur) (Q:Int→Int→Int→Prop):Prop :=
  spec_l1Cur_among ((L1Cur.mk c.Code c.At c.Seed)) ([2,10,10,97,1000,1000000007,1000000008,1]) fun r8 r9 r10 =>
  Q r8 r9 r10
def spec_DrawFederatedCells (code:List B8) (Q:Geo→(List Variable)→Table→(List (List Record))→(List (List Int))→Int→Int→Prop):Prop :=
  spec_DrawSiteCells code fun r12 r13 r14 r15 =>
  jn (fun (k:Int→Int→Int→Prop)=>spec_l1Cur_one ((L1Cur.mk code 0 0)) 12 fun r150 r151 r152 =>
  br (r150) (k (wr ((ln r15)+1)) r151 r152) <|
  k (ln r15) r151 r152) <|
  fun (n:Int) (atx:Int) (seed:Int) =>
  spec_l1Cur_pairSeeds ((L1Cur.mk code atx seed)) n fun r169 r170 r171 =>
  spec_l1Cur_pick ((L1Cur.mk code r170 r171)) 20 fun r194 r195 r196 =>
  spec_l1Cur_modulus ((L1Cur.mk code r195 r196)) fun r209 r210 r211 =>
  Q ((Geo.mk r12.Parents)) r13 ((Table.mk r14.Level r14.Vars r14.Where r14.Sum)) r15 r169 r194 r209
def impl_IsGeo (g:Geo) (Q:Bool→Prop):Prop :=
  jn (fun (k:Bool→Prop)=>br (decide ((ln g.Parents)<1)) (k true) <|
  br (decide ((ln g.Parents)>30)) (k true) <|
  idx g.Parents 0 fun x8 =>
  k (x8 != ((-1)))) <|
  fun (x5:Bool) =>
  br (x5) (Q false) <|
  Loop1 (fun (i:Int) nx =>
  br (decide (i<(ln g.Parents))) (jn (fun (k19:Bool→Prop)=>idx g.Parents i fun x21 =>
  br (decide (x21<0)) (k19 true) <|
  idx g.Parents i fun x31 =>
  k19 (decide (x31≥i))) <|
  fun (x17:Bool) =>
  br (x17) (Q false) <|
  nx (wr (i+1))) <|
  Q true) 1
def impl_isWord (sx:ByteArray) (Q:Bool→Prop):Prop :=
  jn (fun (k:Bool→Prop)=>br (decide ((sln sx)<1)) (k true) <|
  k (decide ((sln sx)>8))) <|
  fun (x:Bool) =>
  br (x) (Q false) <|
  Loop1 (fun (x2:Int) nx =>
  br (decide (x2<(sln sx))) (jn (fun (k7:Bool→Prop)=>sidx sx x2 fun c =>
  br (decide ((c)<97)) (k7 true) <|
  sidx sx x2 fun c10 =>
  k7 (decide ((c10)>122))) <|
  fun (x5:Bool) =>
  br (x5) (Q false) <|
  nx (wr (x2+1))) <|
  Q true) 0
def impl_IsSchema (sx:List Variable) (Q:Bool→Prop):Prop :=
  jn (fun (k:Bool→Prop)=>br (decide ((ln sx)<1)) (k true) <|
  k (decide ((ln sx)>6))) <|
  fun (x:Bool) =>
  br (x) (Q false) <|
  Loop1 (fun (x2:Int) nx =>
  br (decide (x2<(ln sx))) (idx sx x2 fun x6 =>
  jn (fun (k25:Bool→Prop)=>impl_isWord x6.Name fun r27 =>
  br (!r27) (k25 true) <|
  br (decide (x6.Levels<2)) (k25 true) <|
  k25 (decide (x6.Levels>8))) <|
  fun (x22:Bool) =>
  br (x22) (Q false) <|
  (0:Int)≤0∧0≤x2∧x2≤ln sx∧(
  Loop1 (fun (x39:Int) nx45 =>
  br (decide (x39<(ln (List.take (Int.toNat x2-Int.toNat 0) (List.drop (Int.toNat 0) sx))))) (idx (List.take (Int.toNat x2-Int.toNat 0) (List.drop (Int.toNat 0) sx)) x39 fun x47 =>
  br (streq x47.Name x6.Name) (Q false) <|
  nx45 (wr (x39+1))) <|
  nx (wr (x2+1))) 0)) <|
  Q true) 0
def impl_areVars (sx:List Variable) (vars:List Int) (Q:Bool→Prop):Prop :=
  Loop2 (fun (last:Int) (x:Int) nx =>
  br (decide (x<(ln vars))) (idx vars x fun x7 =>
  jn (fun (k:Bool→Prop)=>br (decide (x7≤last)) (k true) <|
  k (decide (x7≥(ln sx)))) <|
  fun (x13:Bool) =>
  br (x13) (Q false) <|
  nx x7 (wr (x+1))) <|
  Q true) ((-1)) 0
def impl_fullSet (vx:Variable) (Q:Int→Prop):Prop :=
  (0:Int)≤vx.Levels∧(
  Q (wr ((shl .i64 1 vx.Levels)-1)))
def impl_isWhere (sx:List Variable) (wherex:List Int) (Q:Bool→Prop):Prop :=
  br ((ln wherex)!=(ln sx)) (Q false) <|
  Loop1 (fun (x:Int) nx =>
  br (decide (x<(ln wherex))) (idx wherex x fun x9 =>
  jn (fun (k:Bool→Prop)=>br (decide (x9<0)) (k true) <|
  idx sx x fun x22 =>
  impl_fullSet x22 fun r31 =>
  k (decide (x9>r31))) <|
  fun (x18:Bool) =>
  br (x18) (Q false) <|
  nx (wr (x+1))) <|
  Q true) 0
def impl_depthOf (g:Geo) (i:Int) (Q:Int→Prop):Prop :=
  Loop2 (fun (i2:Int) (d:Int) nx =>
  br (decide (i2>0)) (idx g.Parents i2 fun x4 =>
  nx x4 (wr (d+1))) <|
  Q d) i 0
def impl_areasAt (g:Geo) (level:Int) (Q:(List Int)→Prop):Prop :=
  Loop2 (fun (list:List Int) (x6:Int) nx =>
  br (decide (x6<(ln g.Parents))) (jn (fun (k:(List Int)→Prop)=>impl_depthOf ((Geo.mk g.Parents)) x6 fun r27 =>
  br (r27==level) ((ln list+ln ([x6])) * 8≤140737488355328∧(
  k (list++([x6])))) <|
  k list) <|
  fun (list17:List Int) =>
  nx list17 (wr (x6+1))) <|
  Q list) ([]) 0
def impl_crossed (sx:List Variable) (t:Table) (Q:(List Variable)→Prop):Prop :=
  (0:Int)≤(ln t.Vars)∧24 * (ln t.Vars)≤140737488355328∧(
  Loop2 (fun (out:List Variable) (x28:Int) nx =>
  br (decide (x28<(ln t.Vars))) (idx t.Vars x28 fun x31 =>
  idx sx x31 fun x39 =>
  (0:Int)≤x28∧Int.toNat x28<List.length out∧(
  nx (List.set out (Int.toNat x28) x39) (wr (x28+1)))) <|
  Q out) (List.replicate (Int.toNat (ln t.Vars)) ((Variable.mk ((ByteArray.mk #[])) ((0:Int))))) 0)
def impl_combinations (sx:List Variable) (Q:Int→Prop):Prop :=
  Loop2 (fun (n:Int) (x:Int) nx =>
  br (decide (x<(ln sx))) (idx sx x fun x2 =>
  nx (wr (n * x2.Levels)) (wr (x+1))) <|
  Q n) 1 0
def impl_cellCount (g:Geo) (sx:List Variable) (t:Table) (Q:Int→Prop):Prop :=
  impl_areasAt ((Geo.mk g.Parents)) t.Level fun r31 =>
  impl_crossed sx ((Table.mk t.Level t.Vars t.Where t.Sum)) fun r46 =>
  det1 (impl_combinations r46) fun r60 =>
  Q (wr ((ln r31) * r60))
def impl_isTable (g:Geo) (sx:List Variable) (t:Table) (Q:Bool→Prop):Prop :=
  jn (fun (k:Bool→Prop)=>impl_areVars sx t.Vars fun r37 =>
  br (!r37) (k true) <|
  impl_isWhere sx t.Where fun r41 =>
  br (!r41) (k true) <|
  br (decide (t.Sum<((-1)))) (k true) <|
  k (decide (t.Sum≥(ln sx)))) <|
  fun (x34:Bool) =>
  br (x34) (Q false) <|
  impl_cellCount ((Geo.mk g.Parents)) sx ((Table.mk t.Level t.Vars t.Where t.Sum)) fun r56 =>
  jn (fun (k67:Bool→Prop)=>br (decide (r56>0)) (k67 (decide (r56≤600))) <|
  k67 false) <|
  fun (x65:Bool) =>
  Q x65
def impl_areTabled (g:Geo) (sx:List Variable) (t:Table) (Q:Bool→Prop):Prop :=
  jn (fun (k:Bool→Prop)=>impl_IsGeo ((Geo.mk g.Parents)) fun r37 =>
  br (r37) (impl_IsSchema sx fun r40 =>
  br (r40) (impl_isTable ((Geo.mk g.Parents)) sx ((Table.mk t.Level t.Vars t.Where t.Sum)) fun r48 =>
  k r48) <|
  k false) <|
  k false) <|
  fun (x34:Bool) =>
  Q x34
def impl_areValues (sx:List Variable) (values:List Int) (Q:Bool→Prop):Prop :=
  br ((ln values)!=(ln sx)) (Q false) <|
  Loop1 (fun (x:Int) nx =>
  br (decide (x<(ln values))) (idx values x fun x8 =>
  jn (fun (k:Bool→Prop)=>br (decide (x8<0)) (k true) <|
  idx sx x fun x17 =>
  k (decide (x8≥x17.Levels))) <|
  fun (x14:Bool) =>
  br (x14) (Q false) <|
  nx (wr (x+1))) <|
  Q true) 0
def impl_isRecord (sx:List Variable) (r1:Record) (Q:Bool→Prop):Prop :=
  jn (fun (k:Bool→Prop)=>br (decide (r1.Area≥0)) (br (decide (r1.Area≤29)) (br (decide (r1.House≥0)) (br (decide (r1.House≤999)) (impl_areValues sx r1.Values fun r19 =>
  k r19) <|
  k false) <|
  k false) <|
  k false) <|
  k false) <|
  fun (x13:Bool) =>
  Q x13
def impl_isData (sx:List Variable) (l:List Record) (Q:Bool→Prop):Prop :=
  br (decide ((ln l)>40)) (Q false) <|
  Loop1 (fun (x:Int) nx =>
  br (decide (x<(ln l))) (idx l x fun x9 =>
  impl_isRecord sx ((Record.mk x9.Area x9.House x9.Values)) fun r29 =>
  br (!r29) (Q false) <|
  nx (wr (x+1))) <|
  Q true) 0
def impl_isArea (g:Geo) (i:Int) (Q:Bool→Prop):Prop :=
  jn (fun (k:Bool→Prop)=>br (decide (i≥0)) (k (decide (i<(ln g.Parents)))) <|
  k false) <|
  fun (x5:Bool) =>
  Q x5
def slices_Index_int_int (sx:List Int) (vx1:Int) (Q:Int→Prop):Prop :=
  Loop1 (fun (x:Int) nx =>
  br (decide (x<(ln sx))) (idx sx x fun x2 =>
  br (vx1==x2) (Q x) <|
  nx (wr (x+1))) <|
  Q ((-1))) 0
def slices_Contains_int_int (sx:List Int) (vx1:Int) (Q:Bool→Prop):Prop :=
  slices_Index_int_int sx vx1 fun r2 =>
  Q (decide (r2≥0))
def impl_isLeaf (g:Geo) (i:Int) (Q:Bool→Prop):Prop :=
  slices_Contains_int_int g.Parents i fun r2 =>
  Q (!r2)
def impl_isSurvey (g:Geo) (sx:List Variable) (l:List Record) (Q:Bool→Prop):Prop :=
  impl_isData sx l fun r14 =>
  br (!r14) (Q false) <|
  Loop1 (fun (x20:Int) nx =>
  br (decide (x20<(ln l))) (idx l x20 fun x24 =>
  jn (fun (k:Bool→Prop)=>impl_isArea ((Geo.mk g.Parents)) x24.Area fun r64 =>
  br (!r64) (k true) <|
  impl_isLeaf ((Geo.mk g.Parents)) x24.Area fun r70 =>
  k (!r70)) <|
  fun (x61:Bool) =>
  br (x61) (Q false) <|
  nx (wr (x20+1))) <|
  Q true) 0
def impl_ancestorAt (g:Geo) (i:Int) (level:Int) (Q:Int→Prop):Prop :=
  impl_depthOf ((Geo.mk g.Parents)) i fun r2 =>
  jn (fun (k:Bool→Prop)=>br (decide (level<0)) (k true) <|
  k (decide (r2<level))) <|
  fun (x10:Bool) =>
  br (x10) (Q ((-1))) <|
  Loop2 (fun (i13:Int) (d:Int) nx =>
  br (decide (d>level)) (idx g.Parents i13 fun x16 =>
  nx x16 (wr (d-1))) <|
  Q i13) i r2
def impl_meetsWhere (t:Table) (r7:Record) (Q:Bool→Prop):Prop :=
  Loop1 (fun (x21:Int) nx =>
  br (decide (x21<(ln t.Where))) (idx t.Where x21 fun x23 =>
  jn (fun (k:Bool→Prop)=>br (x23 != 0) (idx r7.Values x21 fun x37 =>
  (0:Int)≤x37∧(
  k ((bits .and .i64 (shr .i64 x23 x37) 1)==0))) <|
  k false) <|
  fun (x34:Bool) =>
  br (x34) (Q false) <|
  nx (wr (x21+1))) <|
  Q true) 0
def cmp_isNaN_int (x:Int) (Q:Bool→Prop):Prop :=
  Q (x != x)
def cmp_Less_int (x:Int) (y:Int) (Q:Bool→Prop):Prop :=
  jn (fun (k:Bool→Prop)=>cmp_isNaN_int x fun r =>
  br (r) (cmp_isNaN_int y fun r5 =>
  br (!r5) (k true) <|
  k (decide (x<y))) <|
  k (decide (x<y))) <|
  fun (x1:Bool) =>
  Q x1
def slices_isNaN_int (x:Int) (Q:Bool→Prop):Prop :=
  Q (x != x)
def slices_BinarySearch_int_int (x:List Int) (target:Int) (Q:Int→Bool→Prop):Prop :=
  Loop2 (fun (i:Int) (j:Int) nx =>
  br (decide (i<j)) (idx x (wr (Int.fdiv (IntKind.u64.wrap (wr (i+j))) (2 ^ 1))) fun x2 =>
  cmp_Less_int x2 target fun r9 =>
  br (r9) (nx (wr ((wr (Int.fdiv (IntKind.u64.wrap (wr (i+j))) (2 ^ 1)))+1)) j) <|
  nx i (wr (Int.fdiv (IntKind.u64.wrap (wr (i+j))) (2 ^ 1)))) <|
  jn (fun (k:Int→Bool→Prop)=>br (decide (i<(ln x))) (idx x i fun x21 =>
  br (x21==target) (k i true) <|
  idx x i fun x31 =>
  slices_isNaN_int x31 fun r40 =>
  br (r40) (slices_isNaN_int target fun r44 =>
  k i r44) <|
  k i false) <|
  k i false) <|
  fun (x16:Int) (x17:Bool) =>
  Q x16 x17) 0 (ln x)
def impl_indexOfValues (sx:List Variable) (values:List Int) (Q:Int→Prop):Prop :=
  Loop2 (fun (i:Int) (x:Int) nx =>
  br (decide (x<(ln values))) (idx values x fun x7 =>
  idx sx x fun x13 =>
  nx (wr ((wr (i * x13.Levels))+x7)) (wr (x+1))) <|
  Q i) 0 0
def impl_cellIndex (g:Geo) (sx:List Variable) (t:Table) (area:Int) (values:List Int) (Q:Int→Prop):Prop :=
  impl_areasAt ((Geo.mk g.Parents)) t.Level fun r32 =>
  slices_BinarySearch_int_int r32 area fun r42 r43 =>
  br (!r43) (Q ((-1))) <|
  impl_crossed sx ((Table.mk t.Level t.Vars t.Where t.Sum)) fun r50 =>
  impl_combinations r50 fun r64 =>
  impl_indexOfValues r50 values fun r67 =>
  Q (wr ((wr (r42 * r64))+r67))
def impl_contribution (g:Geo) (sx:List Variable) (t:Table) (r19:Record) (Q:Int→Int→Prop):Prop :=
  impl_ancestorAt ((Geo.mk g.Parents)) r19.Area t.Level fun r39 =>
  jn (fun (k:Bool→Prop)=>br (decide (r39<0)) (k true) <|
  impl_meetsWhere ((Table.mk t.Level t.Vars t.Where t.Sum)) ((Record.mk r19.Area r19.House r19.Values)) fun r62 =>
  k (!r62)) <|
  fun (x59:Bool) =>
  br (x59) (Q ((-1)) 0) <|
  (0:Int)≤(ln t.Vars)∧8 * (ln t.Vars)≤140737488355328∧(
  Loop2 (fun (values:List Int) (x82:Int) nx =>
  br (decide (x82<(ln t.Vars))) (idx t.Vars x82 fun x86 =>
  idx r19.Values x86 fun x98 =>
  (0:Int)≤x82∧Int.toNat x82<List.length values∧(
  nx (List.set values (Int.toNat x82) x98) (wr (x82+1)))) <|
  jn (fun (k147:Int→Prop)=>br (decide (t.Sum≥0)) (idx r19.Values t.Sum fun x150 =>
  k147 x150) <|
  k147 1) <|
  fun (amount:Int) =>
  impl_cellIndex ((Geo.mk g.Parents)) sx ((Table.mk t.Level t.Vars t.Where t.Sum)) r39 values fun r159 =>
  Q r159 amount) (List.replicate (Int.toNat (ln t.Vars)) ((0:Int))) 0)
def impl_tableOf (g:Geo) (sx:List Variable) (t:Table) (l:List Record) (Q:(List Int)→Prop):Prop :=
  impl_cellCount ((Geo.mk g.Parents)) sx ((Table.mk t.Level t.Vars t.Where t.Sum)) fun r32 =>
  (0:Int)≤r32∧8 * r32≤140737488355328∧(
  Loop2 (fun (cells:List Int) (x52:Int) nx =>
  br (decide (x52<(ln l))) (jn (fun (k:(List Int)→Prop)=>idx l x52 fun x94 =>
  impl_contribution ((Geo.mk g.Parents)) sx ((Table.mk t.Level t.Vars t.Where t.Sum)) ((Record.mk x94.Area x94.House x94.Values)) fun r119 r120 =>
  br (decide (r119≥0)) (idx cells r119 fun x134 =>
  (0:Int)≤r119∧Int.toNat r119<List.length cells∧(
  k (List.set cells (Int.toNat r119) (wr (x134+r120))))) <|
  k cells) <|
  fun (cells86:List Int) =>
  nx cells86 (wr (x52+1))) <|
  Q cells) (List.replicate (Int.toNat r32) ((0:Int))) 0)
def impl_siteCells (g:Geo) (sx:List Variable) (t:Table) (sites:List (List Record)) (Q:(List (List Int))→Bool→Prop):Prop :=
  jn (fun (k:Bool→Prop)=>impl_areTabled ((Geo.mk g.Parents)) sx ((Table.mk t.Level t.Vars t.Where t.Sum)) fun r44 =>
  br (!r44) (k true) <|
  br (decide ((ln sites)<2)) (k true) <|
  k (decide ((ln sites)>8))) <|
  fun (x41:Bool) =>
  br (x41) (Q ([]) false) <|
  (0:Int)≤(ln sites)∧24 * (ln sites)≤140737488355328∧(
  Loop2 (fun (out:List (List Int)) (x63:Int) nx =>
  br (decide (x63<(ln sites))) (idx sites x63 fun x67 =>
  impl_isSurvey ((Geo.mk g.Parents)) sx x67 fun r82 =>
  br (!r82) (Q ([]) false) <|
  impl_tableOf ((Geo.mk g.Parents)) sx ((Table.mk t.Level t.Vars t.Where t.Sum)) x67 fun r99 =>
  (0:Int)≤x63∧Int.toNat x63<List.length out∧(
  nx (List.set out (Int.toNat x63) r99) (wr (x63+1)))) <|
  Q out true) (List.replicate (Int.toNat (ln sites)) (([]:List Int))) 0)
def impl_isSeed (n:Int) (Q:Bool→Prop):Prop :=
  jn (fun (k:Bool→Prop)=>br (decide (n≥0)) (k (decide (n≤4611686016279904236))) <|
  k false) <|
  fun (x:Bool) =>
  Q x
def impl_areSeeds (l:List Int) (Q:Bool→Prop):Prop :=
  br (decide ((ln l)>392)) (Q false) <|
  Loop1 (fun (x:Int) nx =>
  br (decide (x<(ln l))) (idx l x fun x3 =>
  impl_isSeed x3 fun r10 =>
  br (!r10) (Q false) <|
  nx (wr (x+1))) <|
  Q true) 0
def impl_areSeedRows (seeds:List (List Int)) (Q:Bool→Prop):Prop :=
  jn (fun (k:Bool→Prop)=>br (decide ((ln seeds)<2)) (k true) <|
  k (decide ((ln seeds)>8))) <|
  fun (x:Bool) =>
  br (x) (Q false) <|
  Loop1 (fun (x2:Int) nx =>
  br (decide (x2<(ln seeds))) (idx seeds x2 fun x6 =>
  jn (fun (k20:Bool→Prop)=>br ((ln x6)!=(ln seeds)) (k20 true) <|
  impl_areSeeds x6 fun r23 =>
  k20 (!r23)) <|
  fun (x17:Bool) =>
  br (x17) (Q false) <|
  Loop1 (fun (x28:Int) nx34 =>
  br (decide (x28<x2)) (idx x6 x28 fun x36 =>
  idx seeds x28 fun x46 =>
  idx x46 x2 fun x58 =>
  br (x36 != x58) (Q false) <|
  nx34 (wr (x28+1))) <|
  nx (wr (x2+1))) 0) <|
  Q true) 0
def impl_isRound (round:Int) (Q:Bool→Prop):Prop :=
  jn (fun (k:Bool→Prop)=>br (decide (round≥0)) (k (decide (round≤1000000))) <|
  k false) <|
  fun (x:Bool) =>
  Q x
def impl_isModulus (m:Int) (Q:Bool→Prop):Prop :=
  jn (fun (k:Bool→Prop)=>br (decide (m≥2)) (k (decide (m≤1000000007))) <|
  k false) <|
  fun (x:Bool) =>
  Q x
def impl_areWithin (l:List Int) (lo:Int) (hi:Int) (Q:Bool→Prop):Prop :=
  Loop1 (fun (x:Int) nx =>
  br (decide (x<(ln l))) (idx l x fun x1 =>
  jn (fun (k:Bool→Prop)=>br (decide (x1<lo)) (k true) <|
  k (decide (x1>hi))) <|
  fun (x8:Bool) =>
  br (x8) (Q false) <|
  nx (wr (x+1))) <|
  Q true) 0
def impl_areResidues (values:List Int) (m:Int) (Q:Bool→Prop):Prop :=
  jn (fun (k:Bool→Prop)=>br (decide ((ln values)≤600)) (impl_areWithin values 0 (wr (m-1)) fun r2 =>
  k r2) <|
  k false) <|
  fun (x:Bool) =>
  Q x
def impl_step (factor:Int) (n:Int) (x:Int) (more:Int) (p:Int) (Q:Int→Prop):Prop :=
  p≠0∧(
  jn (fun (k:Int→Prop)=>br (decide ((Int.tmod x p)<0)) (k (wr ((Int.tmod x p)+p))) <|
  k (Int.tmod x p)) <|
  fun (x1:Int) =>
  p≠0∧(
  Q (Int.tmod (wr ((wr ((wr (factor * n))+x1))+more)) p)))
def impl_digest (l:List Int) (Q:Int→Prop):Prop :=
  Loop3 (fun (a1:Int) (b:Int) (x:Int) nx =>
  br (decide (x<(wr ((ln l)+4)))) (jn (fun (k:Int→Prop)=>br (decide (x<(ln l))) (idx l x fun x8 =>
  k x8) <|
  k 0) <|
  fun (x5:Int) =>
  impl_step 48271 a1 x5 1 2147483647 fun r14 =>
  impl_step 69621 b x5 (Int.tmod r14 2147483629) 2147483629 fun r17 =>
  nx r14 r17 (wr (x+1))) <|
  Q (wr ((wr (a1 * 2 ^ 31))+b))) (Int.tmod (ln l) 2147483647) 1 0
def impl_pairMask (seed:Int) (i:Int) (k:Int) (round:Int) (n:Int) (m:Int) (Q:(List Int)→Prop):Prop :=
  (0:Int)≤n∧8 * n≤140737488355328∧(
  Loop2 (fun (out:List Int) (x6:Int) nx =>
  br (decide (x6<(ln (List.replicate (Int.toNat n) ((0:Int)))))) (impl_digest ([5,seed,i,k,round,x6]) fun r =>
  m≠0∧(
  (0:Int)≤x6∧Int.toNat x6<List.length out∧(
  nx (List.set out (Int.toNat x6) (Int.tmod r m)) (wr (x6+1))))) <|
  Q out) (List.replicate (Int.toNat n) ((0:Int))) 0)
def impl_combine (sum:List Int) (l:List Int) (sign:Int) (m:Int) (Q:(List Int)→Prop):Prop :=
  Loop2 (fun (sum7:List Int) (x:Int) nx =>
  br (decide (x<(ln l))) (idx l x fun x13 =>
  idx sum7 x fun x21 =>
  m≠0∧(
  (0:Int)≤x∧Int.toNat x<List.length sum7∧(
  nx (List.set sum7 (Int.toNat x) (Int.tmod (wr ((wr (x21+(wr (sign * x13))))+m)) m)) (wr (x+1))))) <|
  Q sum7) sum 0
def impl_maskOf (seeds:List (List Int)) (i:Int) (round:Int) (n:Int) (m:Int) (Q:(List Int)→Prop):Prop :=
  (0:Int)≤n∧8 * n≤140737488355328∧(
  Loop2 (fun (out:List Int) (x11:Int) nx =>
  br (decide (x11<(ln seeds))) (jn (fun (k:(List Int)→Prop)=>br (decide (x11>i)) (idx seeds i fun x29 =>
  idx x29 x11 fun x38 =>
  impl_pairMask x38 i x11 round n m fun r47 =>
  impl_combine out r47 1 m fun r57 =>
  k r57) <|
  br (decide (x11<i)) (idx seeds i fun x66 =>
  idx x66 x11 fun x78 =>
  impl_pairMask x78 x11 i round n m fun r87 =>
  impl_combine out r87 ((-1)) m fun r97 =>
  k r97) <|
  k out) <|
  fun (out20:List Int) =>
  nx out20 (wr (x11+1))) <|
  Q out) (List.replicate (Int.toNat n) ((0:Int))) 0)
def impl_shareOf (seeds:List (List Int)) (i:Int) (round:Int) (m:Int) (values:List Int) (Q:(List Int)→Prop):Prop :=
  impl_maskOf seeds i round (ln values) m fun r7 =>
  impl_combine r7 values 1 m fun r13 =>
  Q r13
def impl_sumOfShares (m:Int) (shares:List (List Int)) (Q:(List Int)→Prop):Prop :=
  idx shares 0 fun x =>
  (0:Int)≤(ln x)∧8 * (ln x)≤140737488355328∧(
  Loop2 (fun (out:List Int) (x20:Int) nx =>
  br (decide (x20<(ln shares))) (idx shares x20 fun x24 =>
  impl_combine out x24 1 m fun r38 =>
  nx r38 (wr (x20+1))) <|
  Q out) (List.replicate (Int.toNat (ln x)) ((0:Int))) 0)
def impl_FederatedCells (g:Geo) (sx:List Variable) (t:Table) (sites:List (List Record)) (seeds:List (List Int)) (round:Int) (m:Int) (Q:(List Int)→Bool→Prop):Prop :=
  impl_siteCells ((Geo.mk g.Parents)) sx ((Table.mk t.Level t.Vars t.Where t.Sum)) sites fun r38 r39 =>
  jn (fun (k:Bool→Prop)=>br (!r39) (k true) <|
  impl_areSeedRows seeds fun r62 =>
  br (!r62) (k true) <|
  br ((ln seeds)!=(ln sites)) (k true) <|
  impl_isRound round fun r67 =>
  br (!r67) (k true) <|
  impl_isModulus m fun r72 =>
  k (!r72)) <|
  fun (x59:Bool) =>
  br (x59) (Q ([]) false) <|
  (0:Int)≤(ln r38)∧24 * (ln r38)≤140737488355328∧(
  Loop2 (fun (shares:List (List Int)) (x92:Int) nx =>
  br (decide (x92<(ln r38))) (idx r38 x92 fun x97 =>
  impl_areResidues x97 m fun r109 =>
  br (!r109) (Q ([]) false) <|
  impl_shareOf seeds x92 round m x97 fun r116 =>
  (0:Int)≤x92∧Int.toNat x92<List.length shares∧(
  nx (List.set shares (Int.toNat x92) r116) (wr (x92+1)))) <|
  impl_sumOfShares m shares fun r143 =>
  Q r143 true) (List.replicate (Int.toNat (ln r38)) (([]:List Int))) 0)
def spec_sName (sx:ByteArray) (Q:Bool→Prop):Prop :=
  Loop1 (fun (i:Int) nx =>
  br (decide (i<(sln sx))) (jn (fun (k:Bool→Prop)=>sidx sx i fun c =>
  br (decide ((c)<97)) (k true) <|
  sidx sx i fun c3 =>
  k (decide ((c3)>122))) <|
  fun (x:Bool) =>
  br (x) (Q false) <|
  nx (wr (i+1))) <|
  spec_l1In (sln sx) 1 8 fun r =>
  Q r) 0
def spec_sFind (sx:List Variable) (name:ByteArray) (Q:Int→Prop):Prop :=
  Loop1 (fun (x:Int) nx =>
  br (decide (x<(ln sx))) (idx sx x fun x2 =>
  br (streq x2.Name name) (Q x) <|
  nx (wr (x+1))) <|
  Q ((-1))) 0
def spec_sGood (sx:List Variable) (Q:Bool→Prop):Prop :=
  spec_l1In (ln sx) 1 6 fun r1 =>
  br (!r1) (Q false) <|
  Loop1 (fun (x3:Int) nx =>
  br (decide (x3<(ln sx))) (idx sx x3 fun x7 =>
  jn (fun (k:Bool→Prop)=>det1 (spec_sName x7.Name) fun r27 =>
  br (!r27) (k true) <|
  det1 (spec_l1In x7.Levels 2 8) fun r33 =>
  br (!r33) (k true) <|
  (0:Int)≤0∧0≤x3∧x3≤ln sx∧(
  det1 (spec_sFind (List.take (Int.toNat x3-Int.toNat 0) (List.drop (Int.toNat 0) sx)) x7.Name) fun r44 =>
  k (decide (r44≥0)))) <|
  fun (x24:Bool) =>
  br (x24) (Q false) <|
  nx (wr (x3+1))) <|
  Q true) 0
def spec_l1Rising (l:List Int) (lo:Int) (hi:Int) (Q:Bool→Prop):Prop :=
  Loop1 (fun (x:Int) nx =>
  br (decide (x<(ln l))) (idx l x fun x2 =>
  jn (fun (k:Bool→Prop)=>spec_l1In x2 lo hi fun r14 =>
  br (!r14) (k true) <|
  br (decide (x>0)) (idx l (wr (x-1)) fun x19 =>
  k (decide (x19≥x2))) <|
  k false) <|
  fun (x11:Bool) =>
  br (x11) (Q false) <|
  nx (wr (x+1))) <|
  Q true) 0
def spec_uWhere (sx:List Variable) (wherex:List Int) (Q:Bool→Prop):Prop :=
  br ((ln wherex)!=(ln sx)) (Q false) <|
  Loop1 (fun (x:Int) nx =>
  br (decide (x<(ln sx))) (idx sx x fun x9 =>
  idx wherex x fun x21 =>
  (0:Int)≤(IntKind.u64.wrap (x9.Levels))∧(
  det1 (spec_l1In x21 0 (wr ((shl .i64 1 (IntKind.u64.wrap (x9.Levels)))-1))) fun r32 =>
  br (!r32) (Q false) <|
  nx (wr (x+1)))) <|
  Q true) 0
def spec_sPart (sx:List Variable) (vars:List Int) (Q:(List Variable)→Prop):Prop :=
  Loop2 (fun (out:List Variable) (x:Int) nx =>
  br (decide (x<(ln vars))) (idx vars x fun x13 =>
  idx sx x13 fun x20 =>
  (ln out+ln ([x20])) * 24≤140737488355328∧(
  nx (out++([x20])) (wr (x+1)))) <|
  Q out) ([]) 0
def spec_sCount (sx:List Variable) (Q:Int→Prop):Prop :=
  Loop2 (fun (n:Int) (x:Int) nx =>
  br (decide (x<(ln sx))) (idx sx x fun x2 =>
  nx (wr (n * x2.Levels)) (wr (x+1))) <|
  Q n) 1 0
def spec_uCount (g:Geo) (sx:List Variable) (t:Table) (Q:Int→Prop):Prop :=
  spec_gLevel ((Geo.mk g.Parents)) t.Level fun r31 =>
  spec_sPart sx t.Vars fun r46 =>
  det1 (spec_sCount r46) fun r59 =>
  Q (wr ((ln r31) * r59))
def spec_uGood (g:Geo) (sx:List Variable) (t:Table) (Q:Bool→Prop):Prop :=
  jn (fun (k:Bool→Prop)=>spec_gGood ((Geo.mk g.Parents)) fun r37 =>
  br (!r37) (k true) <|
  spec_sGood sx fun r40 =>
  br (!r40) (k true) <|
  spec_gLevel ((Geo.mk g.Parents)) t.Level fun r49 =>
  br ((ln r49)==0) (k true) <|
  spec_l1Rising t.Vars 0 (wr ((ln sx)-1)) fun r62 =>
  br (!r62) (k true) <|
  spec_uWhere sx t.Where fun r70 =>
  br (!r70) (k true) <|
  spec_l1In t.Sum ((-1)) (wr ((ln sx)-1)) fun r80 =>
  k (!r80)) <|
  fun (x34:Bool) =>
  br (x34) (Q false) <|
  spec_uCount ((Geo.mk g.Parents)) sx ((Table.mk t.Level t.Vars t.Where t.Sum)) fun r88 =>
  Q (decide (r88≤600))
def spec_sFits (sx:List Variable) (values:List Int) (Q:Bool→Prop):Prop :=
  br ((ln values)!=(ln sx)) (Q false) <|
  Loop1 (fun (x:Int) nx =>
  br (decide (x<(ln sx))) (idx sx x fun x9 =>
  idx values x fun x21 =>
  det1 (spec_l1In x21 0 (wr (x9.Levels-1))) fun r32 =>
  br (!r32) (Q false) <|
  nx (wr (x+1))) <|
  Q true) 0
def spec_rGood (sx:List Variable) (r1:Record) (Q:Bool→Prop):Prop :=
  jn (fun (k:Bool→Prop)=>spec_l1In r1.Area 0 29 fun r16 =>
  br (r16) (spec_l1In r1.House 0 999 fun r20 =>
  br (r20) (spec_sFits sx r1.Values fun r25 =>
  k r25) <|
  k false) <|
  k false) <|
  fun (x13:Bool) =>
  Q x13
def spec_dGood (sx:List Variable) (l:List Record) (Q:Bool→Prop):Prop :=
  Loop1 (fun (x:Int) nx =>
  br (decide (x<(ln l))) (idx l x fun x8 =>
  spec_rGood sx ((Record.mk x8.Area x8.House x8.Values)) fun r28 =>
  br (!r28) (Q false) <|
  nx (wr (x+1))) <|
  Q (decide ((ln l)≤40))) 0
def spec_dInput (sx:List Variable) (l:List Record) (Q:Bool→Prop):Prop :=
  jn (fun (k:Bool→Prop)=>spec_sGood sx fun r8 =>
  br (r8) (spec_dGood sx l fun r11 =>
  k r11) <|
  k false) <|
  fun (x:Bool) =>
  Q x
def spec_l1Has (l:List Int) (n:Int) (Q:Bool→Prop):Prop :=
  Loop1 (fun (x:Int) nx =>
  br (decide (x<(ln l))) (idx l x fun x1 =>
  br (x1==n) (Q true) <|
  nx (wr (x+1))) <|
  Q false) 0
def spec_uSurvey (g:Geo) (sx:List Variable) (l:List Record) (Q:Bool→Prop):Prop :=
  jn (fun (k:Bool→Prop)=>spec_gGood ((Geo.mk g.Parents)) fun r22 =>
  br (!r22) (k true) <|
  spec_dInput sx l fun r25 =>
  k (!r25)) <|
  fun (x19:Bool) =>
  br (x19) (Q false) <|
  spec_gLeaves ((Geo.mk g.Parents)) fun r33 =>
  Loop1 (fun (x43:Int) nx =>
  br (decide (x43<(ln l))) (idx l x43 fun x47 =>
  spec_l1Has r33 x47.Area fun r70 =>
  br (!r70) (Q false) <|
  nx (wr (x43+1))) <|
  Q true) 0
def spec_zeSites (g:Geo) (sx:List Variable) (t:Table) (sites:List (List Record)) (Q:Bool→Prop):Prop :=
  jn (fun (k:Bool→Prop)=>spec_uGood ((Geo.mk g.Parents)) sx ((Table.mk t.Level t.Vars t.Where t.Sum)) fun r44 =>
  br (!r44) (k true) <|
  spec_l1In (ln sites) 2 8 fun r47 =>
  k (!r47)) <|
  fun (x41:Bool) =>
  br (x41) (Q false) <|
  Loop1 (fun (x53:Int) nx =>
  br (decide (x53<(ln sites))) (idx sites x53 fun x57 =>
  spec_uSurvey ((Geo.mk g.Parents)) sx x57 fun r69 =>
  br (!r69) (Q false) <|
  nx (wr (x53+1))) <|
  Q true) 0
def spec_gUp (g:Geo) (i:Int) (level:Int) (Q:Int→Prop):Prop :=
  spec_gDepth ((Geo.mk g.Parents)) i fun r2 =>
  br (decide (level<0)) (Q ((-1))) <|
  Loop2 (fun (i7:Int) (d:Int) nx =>
  br (decide (d>level)) (idx g.Parents i7 fun x11 =>
  nx x11 (wr (d-1))) <|
  br (decide (d<level)) (Q ((-1))) <|
  Q i7) i r2
def spec_uMeets (t:Table) (values:List Int) (Q:Bool→Prop):Prop :=
  Loop1 (fun (x14:Int) nx =>
  br (decide (x14<(ln t.Where))) (idx t.Where x14 fun x16 =>
  jn (fun (k:Bool→Prop)=>br (x16 != 0) (idx values x14 fun x28 =>
  (0:Int)≤(IntKind.u64.wrap (x28))∧(
  k ((bits .and .i64 (shr .i64 x16 (IntKind.u64.wrap (x28))) 1)==0))) <|
  k false) <|
  fun (x25:Bool) =>
  br (x25) (Q false) <|
  nx (wr (x14+1))) <|
  Q true) 0
def spec_l1Find (l:List Int) (n:Int) (Q:Int→Prop):Prop :=
  Loop1 (fun (x:Int) nx =>
  br (decide (x<(ln l))) (idx l x fun x1 =>
  br (x1==n) (Q x) <|
  nx (wr (x+1))) <|
  Q ((-1))) 0
def spec_sPick (values:List Int) (vars:List Int) (Q:(List Int)→Prop):Prop :=
  Loop2 (fun (out:List Int) (x:Int) nx =>
  br (decide (x<(ln vars))) (idx vars x fun x13 =>
  idx values x13 fun x20 =>
  (ln out+ln ([x20])) * 8≤140737488355328∧(
  nx (out++([x20])) (wr (x+1)))) <|
  Q out) ([]) 0
def spec_sIndex (sx:List Variable) (values:List Int) (Q:Int→Prop):Prop :=
  Loop2 (fun (n:Int) (x:Int) nx =>
  br (decide (x<(ln sx))) (idx sx x fun x8 =>
  idx values x fun x20 =>
  nx (wr ((wr (n * x8.Levels))+x20)) (wr (x+1))) <|
  Q n) 0 0
def spec_uCell (g:Geo) (sx:List Variable) (t:Table) (r19:Record) (Q:Int→Int→Prop):Prop :=
  spec_gUp ((Geo.mk g.Parents)) r19.Area t.Level fun r39 =>
  jn (fun (k:Bool→Prop)=>br (decide (r39<0)) (k true) <|
  spec_uMeets ((Table.mk t.Level t.Vars t.Where t.Sum)) r19.Values fun r62 =>
  k (!r62)) <|
  fun (x59:Bool) =>
  br (x59) (Q ((-1)) 0) <|
  spec_sPart sx t.Vars fun r68 =>
  spec_gLevel ((Geo.mk g.Parents)) t.Level fun r88 =>
  det1 (spec_l1Find r88 r39) fun r103 =>
  det1 (spec_sCount r68) fun r104 =>
  spec_sPick r19.Values t.Vars fun r110 =>
  det1 (spec_sIndex r68 r110) fun r124 =>
  br (decide (t.Sum<0)) (Q (wr ((wr (r103 * r104))+r124)) 1) <|
  idx r19.Values t.Sum fun x136 =>
  Q (wr ((wr (r103 * r104))+r124)) x136
def spec_uTable (g:Geo) (sx:List Variable) (t:Table) (l:List Record) (Q:(List Int)→Prop):Prop :=
  spec_uCount ((Geo.mk g.Parents)) sx ((Table.mk t.Level t.Vars t.Where t.Sum)) fun r32 =>
  (0:Int)≤r32∧8 * r32≤140737488355328∧(
  Loop2 (fun (out:List Int) (x52:Int) nx =>
  br (decide (x52<(ln l))) (jn (fun (k:(List Int)→Prop)=>idx l x52 fun x94 =>
  spec_uCell ((Geo.mk g.Parents)) sx ((Table.mk t.Level t.Vars t.Where t.Sum)) ((Record.mk x94.Area x94.House x94.Values)) fun r119 r120 =>
  br (decide (r119≥0)) (idx out r119 fun x134 =>
  (0:Int)≤r119∧Int.toNat r119<List.length out∧(
  k (List.set out (Int.toNat r119) (wr (x134+r120))))) <|
  k out) <|
  fun (out86:List Int) =>
  nx out86 (wr (x52+1))) <|
  Q out) (List.replicate (Int.toNat r32) ((0:Int))) 0)
def spec_SiteCells (g:Geo) (sx:List Variable) (t:Table) (sites:List (List Record)) (Q:(List (List Int))→Bool→Prop):Prop :=
  spec_zeSites ((Geo.mk g.Parents)) sx ((Table.mk t.Level t.Vars t.Where t.Sum)) sites fun r32 =>
  br (!r32) (Q ([]) false) <|
  Loop2 (fun (out:List (List Int)) (x46:Int) nx =>
  br (decide (x46<(ln sites))) (idx sites x46 fun x52 =>
  spec_uTable ((Geo.mk g.Parents)) sx ((Table.mk t.Level t.Vars t.Where t.Sum)) x52 fun r65 =>
  (ln out+ln ([r65])) * 24≤140737488355328∧(
  nx (out++([r65])) (wr (x46+1)))) <|
  Q out true) ([]) 0
def spec_l1All (l:List Int) (lo:Int) (hi:Int) (Q:Bool→Prop):Prop :=
  Loop1 (fun (x:Int) nx =>
  br (decide (x<(ln l))) (idx l x fun x2 =>
  spec_l1In x2 lo hi fun r10 =>
  br (!r10) (Q false) <|
  nx (wr (x+1))) <|
  Q true) 0
def spec_hDigest (l:List Int) (Q:Bool→Prop):Prop :=
  spec_l1All l 0 4611686016279904236 fun r1 =>
  Q r1
def spec_zeSeeds (seeds:List (List Int)) (Q:Bool→Prop):Prop :=
  spec_l1In (ln seeds) 2 8 fun r1 =>
  br (!r1) (Q false) <|
  Loop1 (fun (x3:Int) nx =>
  br (decide (x3<(ln seeds))) (idx seeds x3 fun x7 =>
  jn (fun (k:Bool→Prop)=>br ((ln x7)!=(ln seeds)) (k true) <|
  spec_hDigest x7 fun r22 =>
  k (!r22)) <|
  fun (x18:Bool) =>
  br (x18) (Q false) <|
  Loop1 (fun (k27:Int) nx33 =>
  br (decide (k27<x3)) (idx x7 k27 fun x35 =>
  idx seeds k27 fun x46 =>
  idx x46 x3 fun x58 =>
  br (x35 != x58) (Q false) <|
  nx33 (wr (k27+1))) <|
  nx (wr (x3+1))) 0) <|
  Q true) 0
def spec_zeModulus (m:Int) (Q:Bool→Prop):Prop :=
  spec_l1In m 2 1000000007 fun r =>
  Q r
def spec_zeRound (round:Int) (n:Int) (m:Int) (Q:Bool→Prop):Prop :=
  jn (fun (k:Bool→Prop)=>spec_l1In round 0 1000000 fun r =>
  br (r) (spec_l1In n 0 600 fun r4 =>
  br (r4) (spec_zeModulus m fun r8 =>
  k r8) <|
  k false) <|
  k false) <|
  fun (x:Bool) =>
  Q x
def spec_zeValues (m:Int) (l:List Int) (Q:Bool→Prop):Prop :=
  jn (fun (k:Bool→Prop)=>br (decide ((ln l)≤600)) (spec_l1All l 0 (wr (m-1)) fun r2 =>
  k r2) <|
  k false) <|
  fun (x:Bool) =>
  Q x
def spec_hMod (x:Int) (m:Int) (Q:Int→Prop):Prop :=
  m≠0∧(
  m≠0∧(
  Q (Int.tmod (wr ((Int.tmod x m)+m)) m)))
def spec_hInts (l:List Int) (Q:Int→Prop):Prop :=
  Loop3 (fun (a1:Int) (b:Int) (i:Int) nx =>
  br (decide (i<(wr ((ln l)+4)))) (jn (fun (k:Int→Prop)=>br (decide (i<(ln l))) (idx l i fun x7 =>
  k x7) <|
  k 0) <|
  fun (x:Int) =>
  spec_hMod x 2147483647 fun r13 =>
  spec_hMod x 2147483629 fun r16 =>
  nx (Int.tmod (wr ((wr ((wr (48271 * a1))+r13))+1)) 2147483647) (Int.tmod (wr ((wr ((wr (69621 * b))+r16))+(Int.tmod (wr ((wr ((wr (48271 * a1))+r13))+1)) 2147483647))) 2147483629) (wr (i+1))) <|
  Q (wr ((wr (a1 * 2 ^ 31))+b))) (ln l) 1 0
def spec_zeMask (seed:Int) (i:Int) (k:Int) (round:Int) (n:Int) (m:Int) (Q:(List Int)→Prop):Prop :=
  Loop2 (fun (out:List Int) (j:Int) nx =>
  br (decide (j<n)) (spec_hInts ([5,seed,i,k,round,j]) fun r =>
  m≠0∧(
  (ln out+ln ([Int.tmod r m])) * 8≤140737488355328∧(
  nx (out++([Int.tmod r m])) (wr (j+1))))) <|
  Q out) ([]) 0
def spec_zeAdd (a:List Int) (b:List Int) (sign:Int) (m:Int) (Q:(List Int)→Prop):Prop :=
  (0:Int)≤(ln a)∧8 * (ln a)≤140737488355328∧(
  Loop2 (fun (out:List Int) (x18:Int) nx =>
  br (decide (x18<(ln a))) (idx a x18 fun x24 =>
  idx b x18 fun x33 =>
  det1 (spec_hMod (wr (x24+(wr (sign * x33)))) m) fun r45 =>
  (0:Int)≤x18∧Int.toNat x18<List.length out∧(
  nx (List.set out (Int.toNat x18) r45) (wr (x18+1)))) <|
  Q out) (List.replicate (Int.toNat (ln a)) ((0:Int))) 0)
def spec_zeMaskOf (seeds:List (List Int)) (i:Int) (round:Int) (n:Int) (m:Int) (Q:(List Int)→Prop):Prop :=
  (0:Int)≤n∧8 * n≤140737488355328∧(
  Loop2 (fun (out:List Int) (x11:Int) nx =>
  br (decide (x11<(ln seeds))) (jn (fun (k:(List Int)→Prop)=>br (decide (x11>i)) (idx seeds i fun x33 =>
  idx x33 x11 fun x42 =>
  spec_zeMask x42 i x11 round n m fun r51 =>
  spec_zeAdd out r51 1 m fun r61 =>
  k r61) <|
  br (decide (x11<i)) (idx seeds i fun x74 =>
  idx x74 x11 fun x86 =>
  spec_zeMask x86 x11 i round n m fun r95 =>
  spec_zeAdd out r95 ((-1)) m fun r105 =>
  k r105) <|
  k out) <|
  fun (out22:List Int) =>
  nx out22 (wr (x11+1))) <|
  Q out) (List.replicate (Int.toNat n) ((0:Int))) 0)
def spec_zeShare (seeds:List (List Int)) (i:Int) (round:Int) (m:Int) (values:List Int) (Q:(List Int)→Prop):Prop :=
  spec_zeMaskOf seeds i round (ln values) m fun r7 =>
  spec_zeAdd values r7 1 m fun r13 =>
  Q r13
def spec_zeSum (m:Int) (shares:List (List Int)) (Q:(List Int)→Prop):Prop :=
  idx shares 0 fun x =>
  (0:Int)≤(ln x)∧8 * (ln x)≤140737488355328∧(
  Loop2 (fun (out:List Int) (x20:Int) nx =>
  br (decide (x20<(ln shares))) (idx shares x20 fun x26 =>
  spec_zeAdd out x26 1 m fun r39 =>
  nx r39 (wr (x20+1))) <|
  Q out) (List.replicate (Int.toNat (ln x)) ((0:Int))) 0)
def spec_FederatedCells (g:Geo) (sx:List Variable) (t:Table) (sites:List (List Record)) (seeds:List (List Int)) (round:Int) (m:Int) (Q:(List Int)→Bool→Prop):Prop :=
  spec_SiteCells ((Geo.mk g.Parents)) sx ((Table.mk t.Level t.Vars t.Where t.Sum)) sites fun r38 r39 =>
  jn (fun (k:Bool→Prop)=>br (!r39) (k true) <|
  spec_zeSeeds seeds fun r62 =>
  br (!r62) (k true) <|
  br ((ln seeds)!=(ln sites)) (k true) <|
  spec_zeRound round 0 m fun r67 =>
  k (!r67)) <|
  fun (x59:Bool) =>
  br (x59) (Q ([]) false) <|
  Loop2 (fun (shares:List (List Int)) (x78:Int) nx =>
  br (decide (x78<(ln r38))) (idx r38 x78 fun x85 =>
  spec_zeValues m x85 fun r96 =>
  br (!r96) (Q ([]) false) <|
  spec_zeShare seeds x78 round m x85 fun r102 =>
  (ln shares+ln ([r102])) * 24≤140737488355328∧(
  nx (shares++([r102])) (wr (x78+1)))) <|
  spec_zeSum m shares fun r142 =>
  Q r142 true) ([]) 0
def laws_sameInts (a:List Int) (b:List Int) (Q:Bool→Prop):Prop :=
  br ((ln a)!=(ln b)) (Q false) <|
  Loop1 (fun (x:Int) nx =>
  br (decide (x<(ln a))) (idx a x fun x10 =>
  idx b x fun x17 =>
  br (x10 != x17) (Q false) <|
  nx (wr (x+1))) <|
  Q true) 0
def impl_SiteCells (g:Geo) (sx:List Variable) (t:Table) (sites:List (List Record)) (Q:(List (List Int))→Bool→Prop):Prop :=
  impl_siteCells ((Geo.mk g.Parents)) sx ((Table.mk t.Level t.Vars t.Where t.Sum)) sites fun r32 r33 =>
  Q r32 r33
def laws_sameLists (a:List (List Int)) (b:List (List Int)) (Q:Bool→Prop):Prop :=
  br ((ln a)!=(ln b)) (Q false) <|
  Loop1 (fun (x:Int) nx =>
  br (decide (x<(ln a))) (idx a x fun x10 =>
  idx b x fun x20 =>
  det1 (laws_sameInts x10 x20) fun r33 =>
  br (!r33) (Q false) <|
  nx (wr (x+1))) <|
  Q true) 0
def spec_l1Cur_siteCount (c:L1Cur) (Q:Int→Int→Int→Prop):Prop :=
  spec_l1Cur_among ((L1Cur.mk c.Code c.At c.Seed)) ([2,2,3,4,8,9,1]) fun r8 r9 r10 =>
  Q r8 r9 r10
def spec_DrawMaskOf (code:List B8) (Q:(List (List Int))→Int→Int→Int→Int→Prop):Prop :=
  spec_l1Cur_siteCount ((L1Cur.mk code 0 0)) fun r2 r3 r4 =>
  spec_l1Cur_pairSeeds ((L1Cur.mk code r3 r4)) r2 fun r9 r10 r11 =>
  spec_l1Cur_pick ((L1Cur.mk code r10 r11)) (wr (r2+1)) fun r23 r24 r25 =>
  spec_l1Cur_among ((L1Cur.mk code r24 r25)) ([0,1,7,1000000,1000001]) fun r40 r41 r42 =>
  spec_l1Cur_pick ((L1Cur.mk code r41 r42)) 5 fun r49 r50 r51 =>
  spec_l1Cur_modulus ((L1Cur.mk code r50 r51)) fun r57 r58 r59 =>
  Q r9 r23 r40 r49 r57
def spec_l1Least (a:Int) (b:Int) (Q:Int→Prop):Prop :=
  br (decide (a<b)) (Q a) <|
  Q b
def spec_l1Most (a:Int) (b:Int) (Q:Int→Prop):Prop :=
  br (decide (a>b)) (Q a) <|
  Q b
def spec_l1Cur_valuesBelow (c:L1Cur) (m:Int) (n:Int) (Q:(List Int)→Int→Int→Prop):Prop :=
  Loop4 (fun (n3:Int) (l:List Int) (atx:Int) (seed:Int) nx =>
  br (decide (n3>0)) (spec_l1Least m 60000 fun r14 =>
  spec_l1Most 1 r14 fun r16 =>
  spec_l1Cur_pick ((L1Cur.mk c.Code atx seed)) r16 fun r19 r20 r21 =>
  (ln l+ln ([r19])) * 8≤140737488355328∧(
  nx (wr (n3-1)) (l++([r19])) r20 r21)) <|
  Q l atx seed) n ([]) c.At c.Seed
def spec_DrawShareOf (code:List B8) (Q:(List (List Int))→Int→Int→Int→(List Int)→Prop):Prop :=
  spec_DrawMaskOf code fun r2 r3 r4 r5 r6 =>
  spec_l1Cur_valuesBelow ((L1Cur.mk code 0 0)) r6 r5 fun r16 r17 r18 =>
  jn (fun (k:(List Int)→Prop)=>spec_l1Cur_one ((L1Cur.mk code r17 r18)) 20 fun r49 r50 r51 =>
  br (r49) (spec_l1Cur_among ((L1Cur.mk code r50 r51)) ([r6,(-1)]) fun r65 r66 r67 =>
  (ln r16+ln ([r65])) * 8≤140737488355328∧(
  k (r16++([r65])))) <|
  k r16) <|
  fun (l:List Int) =>
  Q r2 r3 r4 r6 l
def impl_ShareOf (seeds:List (List Int)) (i:Int) (round:Int) (m:Int) (values:List Int) (Q:(List Int)→Bool→Prop):Prop :=
  jn (fun (k:Bool→Prop)=>impl_areSeedRows seeds fun r8 =>
  br (!r8) (k true) <|
  br (decide (i<0)) (k true) <|
  br (decide (i≥(ln seeds))) (k true) <|
  impl_isRound round fun r13 =>
  br (!r13) (k true) <|
  impl_isModulus m fun r17 =>
  br (!r17) (k true) <|
  impl_areResidues values m fun r22 =>
  k (!r22)) <|
  fun (x:Bool) =>
  br (x) (Q ([]) false) <|
  impl_shareOf seeds i round m values fun r30 =>
  Q r30 true
def spec_ShareOf (seeds:List (List Int)) (i:Int) (round:Int) (m:Int) (values:List Int) (Q:(List Int)→Bool→Prop):Prop :=
  jn (fun (k:Bool→Prop)=>spec_zeSeeds seeds fun r8 =>
  br (!r8) (k true) <|
  spec_l1In i 0 (wr ((ln seeds)-1)) fun r11 =>
  br (!r11) (k true) <|
  spec_zeRound round 0 m fun r15 =>
  br (!r15) (k true) <|
  spec_zeValues m values fun r20 =>
  k (!r20)) <|
  fun (x:Bool) =>
  br (x) (Q ([]) false) <|
  spec_zeShare seeds i round m values fun r28 =>
  Q r28 true
def impl_areIndices (l:List Int) (n:Int) (Q:Bool→Prop):Prop :=
  Loop2 (fun (last:Int) (x:Int) nx =>
  br (decide (x<(ln l))) (idx l x fun x1 =>
  jn (fun (k:Bool→Prop)=>br (decide (x1≤last)) (k true) <|
  k (decide (x1≥n))) <|
  fun (x7:Bool) =>
  br (x7) (Q false) <|
  nx x1 (wr (x+1))) <|
  Q true) ((-1)) 0
def impl_arePresent (seeds:List (List Int)) (present:List Int) (Q:Bool→Prop):Prop :=
  jn (fun (k:Bool→Prop)=>br (decide ((ln present)>0)) (impl_areIndices present (ln seeds) fun r8 =>
  k r8) <|
  k false) <|
  fun (x:Bool) =>
  Q x
def impl_areShares (m:Int) (shares:List (List Int)) (Q:Bool→Prop):Prop :=
  jn (fun (k:Bool→Prop)=>impl_isModulus m fun r2 =>
  br (!r2) (k true) <|
  br (decide ((ln shares)<1)) (k true) <|
  k (decide ((ln shares)>8))) <|
  fun (x:Bool) =>
  br (x) (Q false) <|
  Loop1 (fun (x8:Int) nx =>
  br (decide (x8<(ln shares))) (idx shares x8 fun x13 =>
  jn (fun (k27:Bool→Prop)=>idx shares 0 fun x29 =>
  br ((ln x13)!=(ln x29)) (k27 true) <|
  impl_areResidues x13 m fun r42 =>
  k27 (!r42)) <|
  fun (x24:Bool) =>
  br (x24) (Q false) <|
  nx (wr (x8+1))) <|
  Q true) 0
def impl_maskRepair (seeds:List (List Int)) (present:List Int) (round:Int) (n:Int) (m:Int) (Q:(List Int)→Prop):Prop :=
  (0:Int)≤n∧8 * n≤140737488355328∧(
  Loop2 (fun (out:List Int) (x17:Int) nx =>
  br (decide (x17<(ln present))) (idx present x17 fun x21 =>
  impl_maskOf seeds x21 round n m fun r28 =>
  impl_combine out r28 1 m fun r39 =>
  nx r39 (wr (x17+1))) <|
  Q out) (List.replicate (Int.toNat n) ((0:Int))) 0)
def impl_SumPresent (seeds:List (List Int)) (present:List Int) (round:Int) (m:Int) (shares:List (List Int)) (Q:(List Int)→Bool→Prop):Prop :=
  jn (fun (k:Bool→Prop)=>impl_areSeedRows seeds fun r14 =>
  br (!r14) (k true) <|
  impl_arePresent seeds present fun r17 =>
  br (!r17) (k true) <|
  impl_isRound round fun r23 =>
  br (!r23) (k true) <|
  impl_areShares m shares fun r28 =>
  br (!r28) (k true) <|
  k ((ln shares)!=(ln present))) <|
  fun (x:Bool) =>
  br (x) (Q ([]) false) <|
  impl_sumOfShares m shares fun r38 =>
  impl_maskRepair seeds present round (ln r38) m fun r47 =>
  impl_combine r38 r47 ((-1)) m fun r60 =>
  Q r60 true
def spec_DrawSignedValues (code:List B8) (Q:Int→(List Int)→Prop):Prop :=
  spec_l1Cur_modulus ((L1Cur.mk code 0 0)) fun r2 r3 r4 =>
  spec_l1Cur_pick ((L1Cur.mk code r3 r4)) 5 fun r9 r10 r11 =>
  spec_l1Cur_valuesBelow ((L1Cur.mk code r10 r11)) r2 r9 fun r17 r18 r19 =>
  jn (fun (k:(List Int)→Prop)=>spec_l1Cur_one ((L1Cur.mk code r18 r19)) 12 fun r46 r47 r48 =>
  br (r46) (spec_l1Cur_among ((L1Cur.mk code r47 r48)) ([r2,(-1),0]) fun r62 r63 r64 =>
  (ln r17+ln ([r62])) * 8≤140737488355328∧(
  k (r17++([r62])))) <|
  k r17) <|
  fun (l:List Int) =>
  Q r2 l
def impl_SignedValues (m:Int) (l:List Int) (Q:(List Int)→Bool→Prop):Prop :=
  jn (fun (k:Bool→Prop)=>impl_isModulus m fun r2 =>
  br (!r2) (k true) <|
  impl_areResidues l m fun r5 =>
  k (!r5)) <|
  fun (x:Bool) =>
  br (x) (Q ([]) false) <|
  (0:Int)≤(ln l)∧8 * (ln l)≤140737488355328∧(
  Loop2 (fun (out:List Int) (x23:Int) nx =>
  br (decide (x23<(ln l))) (idx l x23 fun x28 =>
  jn (fun (k44:Int→Prop)=>br (decide ((wr (2 * x28))>m)) (k44 (wr (x28-m))) <|
  k44 x28) <|
  fun (x42:Int) =>
  (0:Int)≤x23∧Int.toNat x23<List.length out∧(
  nx (List.set out (Int.toNat x23) x42) (wr (x23+1)))) <|
  Q out true) (List.replicate (Int.toNat (ln l)) ((0:Int))) 0)
def spec_SignedValues (m:Int) (l:List Int) (Q:(List Int)→Bool→Prop):Prop :=
  jn (fun (k:Bool→Prop)=>spec_zeModulus m fun r2 =>
  br (!r2) (k true) <|
  spec_zeValues m l fun r5 =>
  k (!r5)) <|
  fun (x:Bool) =>
  br (x) (Q ([]) false) <|
  Loop2 (fun (out:List Int) (x14:Int) nx =>
  br (decide (x14<(ln l))) (idx l x14 fun x21 =>
  jn (fun (k34:Int→Prop)=>br (decide ((wr (2 * x21))>m)) (k34 (wr (x21-m))) <|
  k34 x21) <|
  fun (x32:Int) =>
  (ln out+ln ([x32])) * 8≤140737488355328∧(
  nx (out++([x32])) (wr (x14+1)))) <|
  Q out true) ([]) 0
def laws_FnFederated (code:List B8) (more:List B8) (Q:Bool→Prop):Prop :=
  laws_big code more fun r7 =>
  br (r7) (Q true) <|
  spec_DrawFederatedCells code fun r9 r10 r11 r12 r13 r14 r15 =>
  impl_FederatedCells ((Geo.mk r9.Parents)) r10 ((Table.mk r11.Level r11.Vars r11.Where r11.Sum)) r12 r13 r14 r15 fun r90 r91 =>
  spec_FederatedCells ((Geo.mk r9.Parents)) r10 ((Table.mk r11.Level r11.Vars r11.Where r11.Sum)) r12 r13 r14 r15 fun r127 r128 =>
  jn (fun (k:Bool→Prop)=>br (r91 != r128) (k true) <|
  laws_sameInts r90 r127 fun r179 =>
  k (!r179)) <|
  fun (x175:Bool) =>
  br (x175) (Q false) <|
  impl_SiteCells ((Geo.mk r9.Parents)) r10 ((Table.mk r11.Level r11.Vars r11.Where r11.Sum)) r12 fun r186 r187 =>
  spec_SiteCells ((Geo.mk r9.Parents)) r10 ((Table.mk r11.Level r11.Vars r11.Where r11.Sum)) r12 fun r204 r205 =>
  jn (fun (k232:Bool→Prop)=>br (r187 != r205) (k232 true) <|
  laws_sameLists r186 r204 fun r235 =>
  k232 (!r235)) <|
  fun (x229:Bool) =>
  br (x229) (Q false) <|
  jn (fun (k246:Prop)=>br (r91) (Loop1 (fun (x249:Int) nx =>
  br (decide (x249<(ln r127))) (Loop2 (fun (sum:Int) (x253:Int) nx258 =>
  br (decide (x253<(ln r204))) (idx r204 x253 fun x260 =>
  idx x260 x249 fun x271 =>
  nx258 (wr (sum+x271)) (wr (x253+1))) <|
  idx r127 x249 fun x280 =>
  r15≠0∧(
  br (x280 != (Int.tmod sum r15)) (Q false) <|
  nx (wr (x249+1)))) 0 0) <|
  k246) 0) <|
  k246) <|
  spec_DrawShareOf more fun r296 r297 r298 r299 r300 =>
  impl_ShareOf r296 r297 r298 r299 r300 fun r319 r320 =>
  spec_ShareOf r296 r297 r298 r299 r300 fun r330 r331 =>
  jn (fun (k360:Bool→Prop)=>br (r320 != r331) (k360 true) <|
  laws_sameInts r319 r330 fun r363 =>
  k360 (!r363)) <|
  fun (x357:Bool) =>
  br (x357) (Q false) <|
  jn (fun (k375:Prop)=>br (r320) (impl_SumPresent r296 ([r297]) r298 r299 ([r319]) fun r396 r397 =>
  jn (fun (k419:Bool→Prop)=>br (!r397) (k419 true) <|
  laws_sameInts r396 r300 fun r422 =>
  k419 (!r422)) <|
  fun (x416:Bool) =>
  br (x416) (Q false) <|
  k375) <|
  k375) <|
  spec_DrawSignedValues more fun r428 r429 =>
  impl_SignedValues r428 r429 fun r440 r441 =>
  spec_SignedValues r428 r429 fun r451 r452 =>
  jn (fun (k474:Bool→Prop)=>br (r441==r452) (laws_sameInts r440 r451 fun r477 =>
  k474 r477) <|
  k474 false) <|
  fun (x471:Bool) =>
  Q x471
end Go.Proofs.YtbgnaamdlcggjaaGreat
