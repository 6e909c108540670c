/- What each Go function means: a definition over numbers and lists; Q: what is to hold of its results. -/
import Derived.Test.YtbgnaamdlcggjaaGreatLib
set_option linter.unusedVariables false
set_option autoImplicit false
namespace Go.Proofs.YtbgnaamdlcggjaaGreat
open Go Go.RowKit Go.Gv
structure Geo where
  Parents:List Int
instance:Wf Geo:=⟨fun x=>Wf.wf x.Parents⟩
instance:Deep Geo:=Deep.via (fun x=>x.Parents)
structure Variable where
  Name:ByteArray
  Levels:Int
instance:Wf Variable:=⟨fun x=>Wf.wf x.Name∧Wf.wf x.Levels⟩
instance:Flat Variable where
  n:=2
  agg:=true
  rd _ cs x:=cs=[.string x.Name,I x.Levels]
  enc x:=[.string x.Name,I x.Levels]
  len h:=by subst h; rfl
  le _ h:=h
  one h c hc:=by subst h; simp at hc; rcases hc with rfl | rfl <;> rfl
  sing h:=by cases h
  flat:=Iff.rfl
theorem Variable_rv {h:PH} {v:Value} {x:Variable} (r:RV h v x):v = .agg #[.string x.Name,I x.Levels]:=by obtain ⟨cs,rfl,rfl⟩:=r; rfl
structure Table where
  Level:Int
  Vars:List Int
  Where:List Int
  Sum:Int
instance:Wf Table:=⟨fun x=>Wf.wf x.Level∧Wf.wf x.Vars∧Wf.wf x.Where∧Wf.wf x.Sum⟩
instance:Deep Table:=Deep.via (fun x=>(x.Level,x.Vars,x.Where,x.Sum))
theorem Table_rd {h:PH} {cs:List Value} {x:Table} (r:Enc.rd h cs x):∃ u0 u1,cs=[I x.Level,u0,u1,I x.Sum]∧RS h u0 x.Vars∧RS h u1 x.Where:=by
  obtain ⟨_,_,rfl,rfl,⟨_,_,rfl,⟨u0,rfl,r0⟩,⟨_,_,rfl,⟨u1,rfl,r1⟩,rfl⟩⟩⟩:=r; exact ⟨_,_,rfl,r0,r1⟩
theorem Table_rv {h:PH} {v:Value} {x:Table} (r:RV h v x):∃ u0 u1,v = .agg #[I x.Level,u0,u1,I x.Sum]∧RS h u0 x.Vars∧RS h u1 x.Where:=by
  obtain ⟨cs,hr,rfl⟩:=r; obtain ⟨u0,u1,rfl,r0,r1⟩:=Table_rd hr; exact ⟨_,_,rfl,r0,r1⟩
structure Published where
  Table:Table
  Cells:List Int
instance:Wf Published:=⟨fun x=>Wf.wf x.Table∧Wf.wf x.Cells⟩
instance:Deep Published:=Deep.via (fun x=>(x.Table,x.Cells))
theorem Published_rd {h:PH} {cs:List Value} {x:Published} (r:Enc.rd h cs x):∃ u0 u1 u2,cs=[I x.Table.Level,u0,u1,I x.Table.Sum,u2]∧RS h u0 x.Table.Vars∧RS h u1 x.Table.Where∧RS h u2 x.Cells:=by
  obtain ⟨_,_,rfl,⟨_,_,rfl,rfl,⟨_,_,rfl,⟨u0,rfl,r0⟩,⟨_,_,rfl,⟨u1,rfl,r1⟩,rfl⟩⟩⟩,⟨u2,rfl,r2⟩⟩:=r; exact ⟨_,_,_,rfl,r0,r1,r2⟩
theorem Published_rv {h:PH} {v:Value} {x:Published} (r:RV h v x):∃ u0 u1 u2,v = .agg #[I x.Table.Level,u0,u1,I x.Table.Sum,u2]∧RS h u0 x.Table.Vars∧RS h u1 x.Table.Where∧RS h u2 x.Cells:=by
  obtain ⟨cs,hr,rfl⟩:=r; obtain ⟨u0,u1,u2,rfl,r0,r1,r2⟩:=Published_rd hr; exact ⟨_,_,_,rfl,r0,r1,r2⟩
theorem Published_ft3 {x:Published} {k:Int}:FTurn x {x with Table.Sum:=k} 3 [I k]:=by
  intro _ _ o
  obtain ⟨_,_,_,_,rfl,rfl,d0,p0,n0⟩:=o
  obtain ⟨_,_,_,_,rfl,rfl,d1,p1,n1⟩:=p0
  obtain ⟨rfl,rfl⟩:=own_flat p1
  obtain ⟨_,_,_,_,rfl,rfl,d2,p2,n2⟩:=n1
  obtain ⟨u0,rfl,q0⟩:=p2
  obtain ⟨_,_,_,_,rfl,rfl,d3,p3,n3⟩:=n2
  obtain ⟨u1,rfl,q1⟩:=p3
  obtain ⟨rfl,rfl⟩:=own_flat n3
  obtain ⟨u2,rfl,q2⟩:=n0
  exact ⟨[I x.Table.Level,u0,u1,I k],[u2],_,_,rfl,rfl,d0,⟨[I x.Table.Level],[u0,u1,I k],_,_,rfl,rfl,d1,(flat_own x.Table.Level),⟨[u0],[u1,I k],_,_,rfl,rfl,d2,⟨u0,rfl,q0⟩,⟨[u1],[I k],_,_,rfl,rfl,d3,⟨u1,rfl,q1⟩,(flat_own k)⟩⟩⟩,⟨u2,rfl,q2⟩⟩
theorem Published_bw4 {h hi rest:PH} {v:Value} {xs:List Published} {i:Nat} {c:List Value} {x:Published} (b:Bw h v xs i hi rest c x):∃ u0 u1 u2 hl rs,c=[I x.Table.Level,u0,u1,I x.Table.Sum,u2]∧BwG h v xs hl rs u2 x.Cells (fun y=>xs.set i {x with Cells:=y}):=by
  have o:=b.own
  obtain ⟨_,_,_,_,rfl,rfl,d0,p0,n0⟩:=o
  obtain ⟨_,_,_,_,rfl,rfl,d1,p1,n1⟩:=p0
  obtain ⟨rfl,rfl⟩:=own_flat p1
  obtain ⟨_,_,_,_,rfl,rfl,d2,p2,n2⟩:=n1
  obtain ⟨u0,rfl,q0⟩:=p2
  obtain ⟨_,_,_,_,rfl,rfl,d3,p3,n3⟩:=n2
  obtain ⟨u1,rfl,q1⟩:=p3
  obtain ⟨rfl,rfl⟩:=own_flat n3
  obtain ⟨u2,rfl,q2⟩:=n0
  exact ⟨_,_,_,_,_,rfl,b.fc (Fc.via (fun x:Published=>(x.Table,x.Cells)) (Fc.right ⟨[I x.Table.Level],[u0,u1,I x.Table.Sum],_,_,rfl,rfl,d1,(flat_own x.Table.Level),⟨[u0],[u1,I x.Table.Sum],_,_,rfl,rfl,d2,⟨u0,rfl,q0⟩,⟨[u1],[I x.Table.Sum],_,_,rfl,rfl,d3,⟨u1,rfl,q1⟩,(flat_own x.Table.Sum)⟩⟩⟩ (Fc.here q2) d0) fun _=>rfl)⟩
theorem Published_hb4 {hi:PH} {c:List Value} {x:Published} (o:Deep.own hi c x):∃ u0 u1 u2 hl rs,c=[I x.Table.Level,u0,u1,I x.Table.Sum,u2]∧Fs hi c x hl rs u2 x.Cells 4 (fun y=>{x with Cells:=y}):=by
  obtain ⟨_,_,_,_,rfl,rfl,d0,p0,n0⟩:=o
  obtain ⟨_,_,_,_,rfl,rfl,d1,p1,n1⟩:=p0
  obtain ⟨rfl,rfl⟩:=own_flat p1
  obtain ⟨_,_,_,_,rfl,rfl,d2,p2,n2⟩:=n1
  obtain ⟨u0,rfl,q0⟩:=p2
  obtain ⟨_,_,_,_,rfl,rfl,d3,p3,n3⟩:=n2
  obtain ⟨u1,rfl,q1⟩:=p3
  obtain ⟨rfl,rfl⟩:=own_flat n3
  obtain ⟨u2,rfl,q2⟩:=n0
  exact ⟨_,_,_,_,_,rfl,Fs.via (fun x:Published=>(x.Table,x.Cells)) (Fs.right (x1:=x.Table) (by exact ⟨[I x.Table.Level],[u0,u1,I x.Table.Sum],_,_,rfl,rfl,d1,(flat_own x.Table.Level),⟨[u0],[u1,I x.Table.Sum],_,_,rfl,rfl,d2,⟨u0,rfl,q0⟩,⟨[u1],[I x.Table.Sum],_,_,rfl,rfl,d3,⟨u1,rfl,q1⟩,(flat_own x.Table.Sum)⟩⟩⟩) (Fs.here q2) d0 rfl) fun _=>rfl⟩
structure L1Cur where
  Code:List B8
  At:Int
  Seed:Int
structure Record where
  Area:Int
  House:Int
  Values:List Int
instance:Wf Record:=⟨fun x=>Wf.wf x.Area∧Wf.wf x.House∧Wf.wf x.Values⟩
instance:Deep Record:=Deep.via (fun x=>(x.Area,x.House,x.Values))
theorem Record_rd {h:PH} {cs:List Value} {x:Record} (r:Enc.rd h cs x):∃ u0,cs=[I x.Area,I x.House,u0]∧RS h u0 x.Values:=by
  obtain ⟨_,_,rfl,rfl,⟨_,_,rfl,rfl,⟨u0,rfl,r0⟩⟩⟩:=r; exact ⟨_,rfl,r0⟩
theorem Record_rv {h:PH} {v:Value} {x:Record} (r:RV h v x):∃ u0,v = .agg #[I x.Area,I x.House,u0]∧RS h u0 x.Values:=by
  obtain ⟨cs,hr,rfl⟩:=r; obtain ⟨u0,rfl,r0⟩:=Record_rd hr; exact ⟨_,rfl,r0⟩
structure Condition where
  Amounts:List Int
  Value:Int
instance:Wf Condition:=⟨fun x=>Wf.wf x.Amounts∧Wf.wf x.Value⟩
instance:Deep Condition:=Deep.via (fun x=>(x.Amounts,x.Value))
theorem Condition_rd {h:PH} {cs:List Value} {x:Condition} (r:Enc.rd h cs x):∃ u0,cs=[u0,I x.Value]∧RS h u0 x.Amounts:=by
  obtain ⟨_,_,rfl,⟨u0,rfl,r0⟩,rfl⟩:=r; exact ⟨_,rfl,r0⟩
theorem Condition_rv {h:PH} {v:Value} {x:Condition} (r:RV h v x):∃ u0,v = .agg #[u0,I x.Value]∧RS h u0 x.Amounts:=by
  obtain ⟨cs,hr,rfl⟩:=r; obtain ⟨u0,rfl,r0⟩:=Condition_rd hr; exact ⟨_,rfl,r0⟩
theorem Condition_bw0 {h hi rest:PH} {v:Value} {xs:List Condition} {i:Nat} {c:List Value} {x:Condition} (b:Bw h v xs i hi rest c x):∃ u0 hl rs,c=[u0,I x.Value]∧BwG h v xs hl rs u0 x.Amounts (fun y=>xs.set i {x with Amounts:=y}):=by
  have o:=b.own
  obtain ⟨_,_,_,_,rfl,rfl,d0,p0,n0⟩:=o
  obtain ⟨u0,rfl,q0⟩:=p0
  obtain ⟨rfl,rfl⟩:=own_flat n0
  exact ⟨_,_,_,rfl,b.fc (Fc.via (fun x:Condition=>(x.Amounts,x.Value)) (Fc.left (Fc.here q0) (flat_own x.Value) d0) fun _=>rfl)⟩
structure Search where
  Conditions:List Condition
  Counts:List Int
  Sums:List Int
structure ARule where
  Amounts:List Int
  Sum:Int
instance:Wf ARule:=⟨fun x=>Wf.wf x.Amounts∧Wf.wf x.Sum⟩
instance:Deep ARule:=Deep.via (fun x=>(x.Amounts,x.Sum))
theorem ARule_rd {h:PH} {cs:List Value} {x:ARule} (r:Enc.rd h cs x):∃ u0,cs=[u0,I x.Sum]∧RS h u0 x.Amounts:=by
  obtain ⟨_,_,rfl,⟨u0,rfl,r0⟩,rfl⟩:=r; exact ⟨_,rfl,r0⟩
theorem ARule_rv {h:PH} {v:Value} {x:ARule} (r:RV h v x):∃ u0,v = .agg #[u0,I x.Sum]∧RS h u0 x.Amounts:=by
  obtain ⟨cs,hr,rfl⟩:=r; obtain ⟨u0,rfl,r0⟩:=ARule_rd hr; exact ⟨_,rfl,r0⟩
structure ASearch where
  Rules:List ARule
  Types:Int
  Most:Int
  Out:List (List Int)
instance:Wf ASearch:=⟨fun x=>Wf.wf x.Rules∧Wf.wf x.Types∧Wf.wf x.Most∧Wf.wf x.Out⟩
instance:Deep ASearch:=Deep.via (fun x=>(x.Rules,x.Types,x.Most,x.Out))
def spec_l1Cur_next (c:L1Cur) (Q:Int→Int→Int→Prop):Prop :=
  jn (fun (k:Int→Prop)=>br (decide (c.At<(ln c.Code))) (idx c.Code c.At fun x7 =>
  k (wr (x7.v))) <|
  k 0) <|
  fun (b3:Int) =>
  br (decide ((wr (c.At+1))≤(ln c.Code))) (Q b3 (wr (c.At+1)) (IntKind.u64.wrap ((IntKind.u64.wrap ((IntKind.u64.wrap (c.Seed * 6364136223846793005))+(IntKind.u64.wrap (b3))))+1442695040888963407))) <|
  Q (wr (bits .and .u64 (Int.fdiv (IntKind.u64.wrap ((IntKind.u64.wrap ((IntKind.u64.wrap (c.Seed * 6364136223846793005))+(IntKind.u64.wrap (b3))))+1442695040888963407)) (2 ^ 40)) 255)) (wr (c.At+1)) (IntKind.u64.wrap ((IntKind.u64.wrap ((IntKind.u64.wrap (c.Seed * 6364136223846793005))+(IntKind.u64.wrap (b3))))+1442695040888963407))
def spec_l1Cur_pick (c:L1Cur) (n:Int) (Q:Int→Int→Int→Prop):Prop :=
  br (decide (n≤1)) (Q 0 c.At c.Seed) <|
  spec_l1Cur_next ((L1Cur.mk c.Code c.At c.Seed)) fun r3 r4 r5 =>
  jn (fun (k:Int→Int→Int→Prop)=>br (decide (n>200)) (spec_l1Cur_next ((L1Cur.mk c.Code r4 r5)) fun r14 r15 r16 =>
  k (wr ((wr (r3 * 256))+r14)) r15 r16) <|
  k r3 r4 r5) <|
  fun (x9:Int) (atx:Int) (seed:Int) =>
  n≠0∧(
  Q (Int.tmod x9 n) atx seed)
def spec_gChildren (g:Geo) (i:Int) (Q:(List Int)→Prop):Prop :=
  Loop2 (fun (out:List Int) (x6:Int) nx =>
  br (decide (x6<(ln g.Parents))) (jn (fun (k:(List Int)→Prop)=>idx g.Parents x6 fun x25 =>
  br (x25==i) ((ln out+ln ([x6])) * 8≤140737488355328∧(
  k (out++([x6])))) <|
  k out) <|
  fun (out15:List Int) =>
  nx out15 (wr (x6+1))) <|
  Q out) ([]) 0
def spec_gLeaves (g:Geo) (Q:(List Int)→Prop):Prop :=
  Loop2 (fun (out:List Int) (x6:Int) nx =>
  br (decide (x6<(ln g.Parents))) (jn (fun (k:(List Int)→Prop)=>spec_gChildren ((Geo.mk g.Parents)) x6 fun r27 =>
  br ((ln r27)==0) ((ln out+ln ([x6])) * 8≤140737488355328∧(
  k (out++([x6])))) <|
  k out) <|
  fun (out17:List Int) =>
  nx out17 (wr (x6+1))) <|
  Q out) ([]) 0
def spec_l1Cur_one (c:L1Cur) (n:Int) (Q:Bool→Int→Int→Prop):Prop :=
  spec_l1Cur_pick ((L1Cur.mk c.Code c.At c.Seed)) n fun r3 r4 r5 =>
  Q (r3==0) r4 r5
def spec_l1Cur_schema (c:L1Cur) (Q:(List Variable)→Int→Int→Prop):Prop :=
  Loop4 (fun (out:List Variable) (k:Int) (atx:Int) (seed:Int) nx =>
  spec_l1Cur_pick ((L1Cur.mk c.Code atx seed)) 3 fun r21 r22 r23 =>
  br (decide (k<(wr (1+r21)))) (idx ([(ByteArray.mk #[115,101,120]),(ByteArray.mk #[97,103,101]),(ByteArray.mk #[106,111,98]),(ByteArray.mk #[104,111,109,101]),(ByteArray.mk #[115,105,122,101]),(ByteArray.mk #[108,97,110,103])]) k fun x30 =>
  spec_l1Cur_pick ((L1Cur.mk c.Code r22 r23)) 3 fun r42 r43 r44 =>
  (ln out+ln ([(Variable.mk x30 (wr (2+r42)))])) * 24≤140737488355328∧(
  nx (out++([(Variable.mk x30 (wr (2+r42)))])) (wr (k+1)) r43 r44)) <|
  Q out r22 r23) ([]) 0 c.At c.Seed
def spec_l1Cur_among (c:L1Cur) (list:List Int) (Q:Int→Int→Int→Prop):Prop :=
  spec_l1Cur_pick ((L1Cur.mk c.Code c.At c.Seed)) (ln list) fun r10 r11 r12 =>
  idx list r10 fun x14 =>
  Q x14 r11 r12
def spec_l1Cur_of (c:L1Cur) (list:List ByteArray) (Q:ByteArray→Int→Int→Prop):Prop :=
  spec_l1Cur_pick ((L1Cur.mk c.Code c.At c.Seed)) (ln list) fun r10 r11 r12 =>
  idx list r10 fun x14 =>
  Q x14 r11 r12
def spec_l1Cur_anySchema (c:L1Cur) (Q:(List Variable)→Int→Int→Prop):Prop :=
  spec_l1Cur_schema ((L1Cur.mk c.Code c.At c.Seed)) fun r3 r4 r5 =>
  jn (fun (k:(List Variable)→Int→Int→Prop)=>spec_l1Cur_pick ((L1Cur.mk c.Code r4 r5)) 24 fun r30 r31 r32 =>
  br (r30==0) (spec_l1Cur_among ((L1Cur.mk c.Code r31 r32)) ([1,8,9]) fun r45 r46 r47 =>
  idx r3 0 fun x53 =>
  k (List.set r3 (Int.toNat 0) ({x53 with Levels:=r45}:Variable)) r46 r47) <|
  br (r30==1) (spec_l1Cur_of ((L1Cur.mk c.Code r31 r32)) ([(ByteArray.mk #[]),(ByteArray.mk #[65,103,101]),(ByteArray.mk #[97,98,99,100,101,102,103,104,105]),(ByteArray.mk #[97,103,101]),(ByteArray.mk #[97,98,32,99,100])]) fun r75 r76 r77 =>
  idx r3 0 fun x83 =>
  k (List.set r3 (Int.toNat 0) ({x83 with Name:=r75}:Variable)) r76 r77) <|
  br (r30==2) (Q ([]) r31 r32) <|
  br (r30==3) (Loop3 (fun (sx105:List Variable) (atx111:Int) (seed112:Int) nx =>
  spec_l1Cur_pick ((L1Cur.mk c.Code atx111 seed112)) 2 fun r125 r126 r127 =>
  br (decide ((ln sx105)<(wr (6+r125)))) (sln ((ByteArray.mk #[120]))+sln (b2s ([(B8.mk (IntKind.u8.wrap (wr (97+(ln sx105)))))]))≤9223372036854775807∧(
  (ln sx105+ln ([(Variable.mk (((ByteArray.mk #[120]))++(b2s ([(B8.mk (IntKind.u8.wrap (wr (97+(ln sx105)))))]))) 2)])) * 24≤140737488355328∧(
  nx (sx105++([(Variable.mk (((ByteArray.mk #[120]))++(b2s ([(B8.mk (IntKind.u8.wrap (wr (97+(ln sx105)))))]))) 2)])) r126 r127))) <|
  k sx105 r126 r127) r3 r31 r32) <|
  k r3 r31 r32) <|
  fun (sx:List Variable) (atx:Int) (seed:Int) =>
  Q sx atx seed
def spec_l1Cur_values (c:L1Cur) (sx:List Variable) (Q:(List Int)→Int→Int→Prop):Prop :=
  Loop4 (fun (out:List Int) (x:Int) (atx:Int) (seed:Int) nx =>
  br (decide (x<(ln sx))) (idx sx x fun x19 =>
  spec_l1Cur_pick ((L1Cur.mk c.Code atx seed)) x19.Levels fun r34 r35 r36 =>
  (ln out+ln ([r34])) * 8≤140737488355328∧(
  nx (out++([r34])) (wr (x+1)) r35 r36)) <|
  Q out atx seed) ([]) 0 c.At c.Seed
def spec_l1Cur_record (c:L1Cur) (sx:List Variable) (areas:List Int) (Q:Record→Int→Int→Prop):Prop :=
  spec_l1Cur_among ((L1Cur.mk c.Code c.At c.Seed)) areas fun r19 r20 r21 =>
  spec_l1Cur_pick ((L1Cur.mk c.Code r20 r21)) 6 fun r28 r29 r30 =>
  spec_l1Cur_values ((L1Cur.mk c.Code r29 r30)) sx fun r35 r36 r37 =>
  Q ((Record.mk r19 r28 r35)) r36 r37
def spec_l1Cur_attacked (c:L1Cur) (Q:Geo→(List Variable)→(List Record)→Int→Int→Prop):Prop :=
  spec_l1Cur_pick ((L1Cur.mk c.Code c.At c.Seed)) 4 fun r55 r56 r57 =>
  idx ([[(-1)],[(-1),0,0],[(-1),0,0,0],[(-1),0,0,1,1]]) r55 fun x64 =>
  jn (fun (k:(List Variable)→Int→Int→Prop)=>jn (fun (k148:Bool→Int→Int→Prop)=>spec_gLeaves ((Geo.mk x64)) fun r150 =>
  br (decide ((ln r150)<3)) (spec_l1Cur_one ((L1Cur.mk c.Code r56 r57)) 2 fun r160 r161 r162 =>
  k148 r160 r161 r162) <|
  k148 false r56 r57) <|
  fun (x142:Bool) (atx143:Int) (seed144:Int) =>
  br (x142) (spec_l1Cur_pick ((L1Cur.mk c.Code atx143 seed144)) 2 fun r172 r173 r174 =>
  (ln ([(Variable.mk ((ByteArray.mk #[115,101,120])) 2)])+ln ([(Variable.mk ((ByteArray.mk #[97,103,101])) (wr (2+r172)))])) * 24≤140737488355328∧(
  k (([(Variable.mk ((ByteArray.mk #[115,101,120])) 2)])++([(Variable.mk ((ByteArray.mk #[97,103,101])) (wr (2+r172)))])) r173 r174)) <|
  k ([(Variable.mk ((ByteArray.mk #[115,101,120])) 2)]) atx143 seed144) <|
  fun (sx:List Variable) (atx:Int) (seed:Int) =>
  jn (fun (k252:(List Variable)→Int→Int→Prop)=>spec_l1Cur_one ((L1Cur.mk c.Code atx seed)) 24 fun r254 r255 r256 =>
  br (r254) (spec_l1Cur_anySchema ((L1Cur.mk c.Code r255 r256)) fun r261 r262 r263 =>
  k252 r261 r262 r263) <|
  k252 sx r255 r256) <|
  fun (sx233:List Variable) (atx239:Int) (seed240:Int) =>
  spec_l1Cur_pick ((L1Cur.mk c.Code atx239 seed240)) 6 fun r281 r282 r283 =>
  Loop4 (fun (l:List Record) (k295:Int) (atx296:Int) (seed297:Int) nx =>
  br (decide (k295>0)) (spec_gLeaves ((Geo.mk x64)) fun r312 =>
  spec_l1Cur_record ((L1Cur.mk c.Code atx296 seed297)) sx233 r312 fun r329 r330 r331 =>
  (ln l+ln ([((Record.mk r329.Area r329.House r329.Values):Record)])) * 40≤140737488355328∧(
  nx (l++([((Record.mk r329.Area r329.House r329.Values):Record)])) (wr (k295-1)) r330 r331)) <|
  Q ((Geo.mk x64)) sx233 l atx296 seed297) ([]) r281 r282 r283
def spec_l1Cur_where (c:L1Cur) (sx:List Variable) (Q:(List Int)→Int→Int→Prop):Prop :=
  Loop4 (fun (out:List Int) (x:Int) (atx:Int) (seed:Int) nx =>
  br (decide (x<(ln sx))) (idx sx x fun x19 =>
  jn (fun (k:Int→Int→Int→Prop)=>spec_l1Cur_one ((L1Cur.mk c.Code atx seed)) 3 fun r50 r51 r52 =>
  br (r50) ((0:Int)≤(IntKind.u64.wrap (x19.Levels))∧(
  spec_l1Cur_pick ((L1Cur.mk c.Code r51 r52)) (wr ((shl .i64 1 (IntKind.u64.wrap (x19.Levels)))-1)) fun r59 r60 r61 =>
  k (wr (1+r59)) r60 r61)) <|
  k 0 r51 r52) <|
  fun (setx:Int) (atx45:Int) (seed46:Int) =>
  (ln out+ln ([setx])) * 8≤140737488355328∧(
  nx (out++([setx])) (wr (x+1)) atx45 seed46)) <|
  Q out atx seed) ([]) 0 c.At c.Seed
def spec_l1In (n:Int) (lo:Int) (hi:Int) (Q:Bool→Prop):Prop :=
  jn (fun (k:Bool→Prop)=>br (decide (n≥lo)) (k (decide (n≤hi))) <|
  k false) <|
  fun (x:Bool) =>
  Q x
def spec_gGood (g:Geo) (Q:Bool→Prop):Prop :=
  jn (fun (k:Bool→Prop)=>spec_l1In (ln g.Parents) 1 30 fun r8 =>
  br (!r8) (k true) <|
  idx g.Parents 0 fun x12 =>
  k (x12 != ((-1)))) <|
  fun (x5:Bool) =>
  br (x5) (Q false) <|
  Loop1 (fun (x22:Int) nx =>
  br (decide (x22<(ln g.Parents))) (idx g.Parents x22 fun x26 =>
  jn (fun (k40:Bool→Prop)=>br (decide (x22>0)) (spec_l1In x26 0 (wr (x22-1)) fun r43 =>
  k40 (!r43)) <|
  k40 false) <|
  fun (x37:Bool) =>
  br (x37) (Q false) <|
  nx (wr (x22+1))) <|
  Q true) 0
def spec_gDepth (g:Geo) (i:Int) (Q:Int→Prop):Prop :=
  Loop2 (fun (i2:Int) (n:Int) nx =>
  idx g.Parents i2 fun x4 =>
  br (decide (x4≥0)) (idx g.Parents i2 fun x11 =>
  nx x11 (wr (n+1))) <|
  Q n) i 0
def spec_gLevel (g:Geo) (level:Int) (Q:(List Int)→Prop):Prop :=
  Loop2 (fun (out:List Int) (x6:Int) nx =>
  br (decide (x6<(ln g.Parents))) (jn (fun (k:(List Int)→Prop)=>spec_gDepth ((Geo.mk g.Parents)) x6 fun r27 =>
  br (r27==level) ((ln out+ln ([x6])) * 8≤140737488355328∧(
  k (out++([x6])))) <|
  k out) <|
  fun (out17:List Int) =>
  nx out17 (wr (x6+1))) <|
  Q out) ([]) 0
def spec_l1Cur_table (c:L1Cur) (g:Geo) (sx:List Variable) (Q:Table→Int→Int→Prop):Prop :=
  spec_l1Cur_where ((L1Cur.mk c.Code c.At c.Seed)) sx fun r24 r25 r26 =>
  Loop4 (fun (x47:Int) (atx:Int) (seed:Int) (vars:List Int) nx =>
  br (decide (x47<(ln sx))) (jn (fun (k:Int→Int→(List Int)→Prop)=>spec_l1Cur_one ((L1Cur.mk c.Code atx seed)) 2 fun r129 r130 r131 =>
  br (r129) ((ln vars+ln ([x47])) * 8≤140737488355328∧(
  k r130 r131 (vars++([x47])))) <|
  k r130 r131 vars) <|
  fun (atx107:Int) (seed108:Int) (vars109:List Int) =>
  nx (wr (x47+1)) atx107 seed108 vars109) <|
  jn (fun (k232:Int→Int→Int→Prop)=>spec_gGood ((Geo.mk g.Parents)) fun r234 =>
  br (r234) (spec_l1Cur_pick ((L1Cur.mk c.Code atx seed)) 3 fun r238 r239 r240 =>
  spec_gLevel ((Geo.mk g.Parents)) r238 fun r254 =>
  br ((ln r254)==0) (k232 r239 r240 0) <|
  k232 r239 r240 r238) <|
  k232 atx seed 0) <|
  fun (atx222:Int) (seed223:Int) (level:Int) =>
  jn (fun (k309:Int→Int→Int→Prop)=>jn (fun (k317:Bool→Int→Int→Prop)=>spec_l1Cur_one ((L1Cur.mk c.Code atx222 seed223)) 3 fun r319 r320 r321 =>
  br (r319) (k317 (decide ((ln sx)>0)) r320 r321) <|
  k317 false r320 r321) <|
  fun (x311:Bool) (atx312:Int) (seed313:Int) =>
  br (x311) (spec_l1Cur_pick ((L1Cur.mk c.Code atx312 seed313)) (ln sx) fun r329 r330 r331 =>
  k309 r330 r331 r329) <|
  k309 atx312 seed313 ((-1))) <|
  fun (atx299:Int) (seed300:Int) (sum:Int) =>
  Q ((Table.mk level vars r24 sum)) atx299 seed300) 0 r25 r26 ([])
def spec_sName (sx:ByteArray) (Q:Bool→Prop):Prop :=
  Loop1 (fun (i:Int) nx =>
  br (decide (i<(sln sx))) (jn (fun (k:Bool→Prop)=>sidx sx i fun c =>
  br (decide ((c)<97)) (k true) <|
  sidx sx i fun c3 =>
  k (decide ((c3)>122))) <|
  fun (x:Bool) =>
  br (x) (Q false) <|
  nx (wr (i+1))) <|
  spec_l1In (sln sx) 1 8 fun r =>
  Q r) 0
def spec_sFind (sx:List Variable) (name:ByteArray) (Q:Int→Prop):Prop :=
  Loop1 (fun (x:Int) nx =>
  br (decide (x<(ln sx))) (idx sx x fun x2 =>
  br (streq x2.Name name) (Q x) <|
  nx (wr (x+1))) <|
  Q ((-1))) 0
def spec_sGood (sx:List Variable) (Q:Bool→Prop):Prop :=
  spec_l1In (ln sx) 1 6 fun r1 =>
  br (!r1) (Q false) <|
  Loop1 (fun (x3:Int) nx =>
  br (decide (x3<(ln sx))) (idx sx x3 fun x7 =>
  jn (fun (k:Bool→Prop)=>det1 (spec_sName x7.Name) fun r27 =>
  br (!r27) (k true) <|
  det1 (spec_l1In x7.Levels 2 8) fun r33 =>
  br (!r33) (k true) <|
  (0:Int)≤0∧0≤x3∧x3≤ln sx∧(
  det1 (spec_sFind (List.take (Int.toNat x3-Int.toNat 0) (List.drop (Int.toNat 0) sx)) x7.Name) fun r44 =>
  k (decide (r44≥0)))) <|
  fun (x24:Bool) =>
  br (x24) (Q false) <|
  nx (wr (x3+1))) <|
  Q true) 0
def spec_sFits (sx:List Variable) (values:List Int) (Q:Bool→Prop):Prop :=
  br ((ln values)!=(ln sx)) (Q false) <|
  Loop1 (fun (x:Int) nx =>
  br (decide (x<(ln sx))) (idx sx x fun x9 =>
  idx values x fun x21 =>
  det1 (spec_l1In x21 0 (wr (x9.Levels-1))) fun r32 =>
  br (!r32) (Q false) <|
  nx (wr (x+1))) <|
  Q true) 0
def spec_rGood (sx:List Variable) (r1:Record) (Q:Bool→Prop):Prop :=
  jn (fun (k:Bool→Prop)=>spec_l1In r1.Area 0 29 fun r16 =>
  br (r16) (spec_l1In r1.House 0 999 fun r20 =>
  br (r20) (spec_sFits sx r1.Values fun r25 =>
  k r25) <|
  k false) <|
  k false) <|
  fun (x13:Bool) =>
  Q x13
def spec_dGood (sx:List Variable) (l:List Record) (Q:Bool→Prop):Prop :=
  Loop1 (fun (x:Int) nx =>
  br (decide (x<(ln l))) (idx l x fun x8 =>
  spec_rGood sx ((Record.mk x8.Area x8.House x8.Values)) fun r28 =>
  br (!r28) (Q false) <|
  nx (wr (x+1))) <|
  Q (decide ((ln l)≤40))) 0
def spec_dInput (sx:List Variable) (l:List Record) (Q:Bool→Prop):Prop :=
  jn (fun (k:Bool→Prop)=>spec_sGood sx fun r8 =>
  br (r8) (spec_dGood sx l fun r11 =>
  k r11) <|
  k false) <|
  fun (x:Bool) =>
  Q x
def spec_l1Has (l:List Int) (n:Int) (Q:Bool→Prop):Prop :=
  Loop1 (fun (x:Int) nx =>
  br (decide (x<(ln l))) (idx l x fun x1 =>
  br (x1==n) (Q true) <|
  nx (wr (x+1))) <|
  Q false) 0
def spec_uSurvey (g:Geo) (sx:List Variable) (l:List Record) (Q:Bool→Prop):Prop :=
  jn (fun (k:Bool→Prop)=>spec_gGood ((Geo.mk g.Parents)) fun r22 =>
  br (!r22) (k true) <|
  spec_dInput sx l fun r25 =>
  k (!r25)) <|
  fun (x19:Bool) =>
  br (x19) (Q false) <|
  spec_gLeaves ((Geo.mk g.Parents)) fun r33 =>
  Loop1 (fun (x43:Int) nx =>
  br (decide (x43<(ln l))) (idx l x43 fun x47 =>
  spec_l1Has r33 x47.Area fun r70 =>
  br (!r70) (Q false) <|
  nx (wr (x43+1))) <|
  Q true) 0
def spec_l1Rising (l:List Int) (lo:Int) (hi:Int) (Q:Bool→Prop):Prop :=
  Loop1 (fun (x:Int) nx =>
  br (decide (x<(ln l))) (idx l x fun x2 =>
  jn (fun (k:Bool→Prop)=>spec_l1In x2 lo hi fun r14 =>
  br (!r14) (k true) <|
  br (decide (x>0)) (idx l (wr (x-1)) fun x19 =>
  k (decide (x19≥x2))) <|
  k false) <|
  fun (x11:Bool) =>
  br (x11) (Q false) <|
  nx (wr (x+1))) <|
  Q true) 0
def spec_uWhere (sx:List Variable) (wherex:List Int) (Q:Bool→Prop):Prop :=
  br ((ln wherex)!=(ln sx)) (Q false) <|
  Loop1 (fun (x:Int) nx =>
  br (decide (x<(ln sx))) (idx sx x fun x9 =>
  idx wherex x fun x21 =>
  (0:Int)≤(IntKind.u64.wrap (x9.Levels))∧(
  det1 (spec_l1In x21 0 (wr ((shl .i64 1 (IntKind.u64.wrap (x9.Levels)))-1))) fun r32 =>
  br (!r32) (Q false) <|
  nx (wr (x+1)))) <|
  Q true) 0
def spec_sPart (sx:List Variable) (vars:List Int) (Q:(List Variable)→Prop):Prop :=
  Loop2 (fun (out:List Variable) (x:Int) nx =>
  br (decide (x<(ln vars))) (idx vars x fun x13 =>
  idx sx x13 fun x20 =>
  (ln out+ln ([x20])) * 24≤140737488355328∧(
  nx (out++([x20])) (wr (x+1)))) <|
  Q out) ([]) 0
def spec_sCount (sx:List Variable) (Q:Int→Prop):Prop :=
  Loop2 (fun (n:Int) (x:Int) nx =>
  br (decide (x<(ln sx))) (idx sx x fun x2 =>
  nx (wr (n * x2.Levels)) (wr (x+1))) <|
  Q n) 1 0
def spec_uCount (g:Geo) (sx:List Variable) (t:Table) (Q:Int→Prop):Prop :=
  spec_gLevel ((Geo.mk g.Parents)) t.Level fun r31 =>
  spec_sPart sx t.Vars fun r46 =>
  det1 (spec_sCount r46) fun r59 =>
  Q (wr ((ln r31) * r59))
def spec_uGood (g:Geo) (sx:List Variable) (t:Table) (Q:Bool→Prop):Prop :=
  jn (fun (k:Bool→Prop)=>spec_gGood ((Geo.mk g.Parents)) fun r37 =>
  br (!r37) (k true) <|
  spec_sGood sx fun r40 =>
  br (!r40) (k true) <|
  spec_gLevel ((Geo.mk g.Parents)) t.Level fun r49 =>
  br ((ln r49)==0) (k true) <|
  spec_l1Rising t.Vars 0 (wr ((ln sx)-1)) fun r62 =>
  br (!r62) (k true) <|
  spec_uWhere sx t.Where fun r70 =>
  br (!r70) (k true) <|
  spec_l1In t.Sum ((-1)) (wr ((ln sx)-1)) fun r80 =>
  k (!r80)) <|
  fun (x34:Bool) =>
  br (x34) (Q false) <|
  spec_uCount ((Geo.mk g.Parents)) sx ((Table.mk t.Level t.Vars t.Where t.Sum)) fun r88 =>
  Q (decide (r88≤600))
def spec_l1Own (l:List Int) (Q:(List Int)→Prop):Prop :=
  (ln (([]:List Int))+ln l) * 8≤140737488355328∧(
  Q ((([]:List Int))++l))
def spec_gUp (g:Geo) (i:Int) (level:Int) (Q:Int→Prop):Prop :=
  spec_gDepth ((Geo.mk g.Parents)) i fun r2 =>
  br (decide (level<0)) (Q ((-1))) <|
  Loop2 (fun (i7:Int) (d:Int) nx =>
  br (decide (d>level)) (idx g.Parents i7 fun x11 =>
  nx x11 (wr (d-1))) <|
  br (decide (d<level)) (Q ((-1))) <|
  Q i7) i r2
def spec_uMeets (t:Table) (values:List Int) (Q:Bool→Prop):Prop :=
  Loop1 (fun (x14:Int) nx =>
  br (decide (x14<(ln t.Where))) (idx t.Where x14 fun x16 =>
  jn (fun (k:Bool→Prop)=>br (x16 != 0) (idx values x14 fun x28 =>
  (0:Int)≤(IntKind.u64.wrap (x28))∧(
  k ((bits .and .i64 (shr .i64 x16 (IntKind.u64.wrap (x28))) 1)==0))) <|
  k false) <|
  fun (x25:Bool) =>
  br (x25) (Q false) <|
  nx (wr (x14+1))) <|
  Q true) 0
def spec_l1Find (l:List Int) (n:Int) (Q:Int→Prop):Prop :=
  Loop1 (fun (x:Int) nx =>
  br (decide (x<(ln l))) (idx l x fun x1 =>
  br (x1==n) (Q x) <|
  nx (wr (x+1))) <|
  Q ((-1))) 0
def spec_sPick (values:List Int) (vars:List Int) (Q:(List Int)→Prop):Prop :=
  Loop2 (fun (out:List Int) (x:Int) nx =>
  br (decide (x<(ln vars))) (idx vars x fun x13 =>
  idx values x13 fun x20 =>
  (ln out+ln ([x20])) * 8≤140737488355328∧(
  nx (out++([x20])) (wr (x+1)))) <|
  Q out) ([]) 0
def spec_sIndex (sx:List Variable) (values:List Int) (Q:Int→Prop):Prop :=
  Loop2 (fun (n:Int) (x:Int) nx =>
  br (decide (x<(ln sx))) (idx sx x fun x8 =>
  idx values x fun x20 =>
  nx (wr ((wr (n * x8.Levels))+x20)) (wr (x+1))) <|
  Q n) 0 0
def spec_uCell (g:Geo) (sx:List Variable) (t:Table) (r19:Record) (Q:Int→Int→Prop):Prop :=
  spec_gUp ((Geo.mk g.Parents)) r19.Area t.Level fun r39 =>
  jn (fun (k:Bool→Prop)=>br (decide (r39<0)) (k true) <|
  spec_uMeets ((Table.mk t.Level t.Vars t.Where t.Sum)) r19.Values fun r62 =>
  k (!r62)) <|
  fun (x59:Bool) =>
  br (x59) (Q ((-1)) 0) <|
  spec_sPart sx t.Vars fun r68 =>
  spec_gLevel ((Geo.mk g.Parents)) t.Level fun r88 =>
  det1 (spec_l1Find r88 r39) fun r103 =>
  det1 (spec_sCount r68) fun r104 =>
  spec_sPick r19.Values t.Vars fun r110 =>
  det1 (spec_sIndex r68 r110) fun r124 =>
  br (decide (t.Sum<0)) (Q (wr ((wr (r103 * r104))+r124)) 1) <|
  idx r19.Values t.Sum fun x136 =>
  Q (wr ((wr (r103 * r104))+r124)) x136
def spec_uTable (g:Geo) (sx:List Variable) (t:Table) (l:List Record) (Q:(List Int)→Prop):Prop :=
  spec_uCount ((Geo.mk g.Parents)) sx ((Table.mk t.Level t.Vars t.Where t.Sum)) fun r32 =>
  (0:Int)≤r32∧8 * r32≤140737488355328∧(
  Loop2 (fun (out:List Int) (x52:Int) nx =>
  br (decide (x52<(ln l))) (jn (fun (k:(List Int)→Prop)=>idx l x52 fun x94 =>
  spec_uCell ((Geo.mk g.Parents)) sx ((Table.mk t.Level t.Vars t.Where t.Sum)) ((Record.mk x94.Area x94.House x94.Values)) fun r119 r120 =>
  br (decide (r119≥0)) (idx out r119 fun x134 =>
  (0:Int)≤r119∧Int.toNat r119<List.length out∧(
  k (List.set out (Int.toNat r119) (wr (x134+r120))))) <|
  k out) <|
  fun (out86:List Int) =>
  nx out86 (wr (x52+1))) <|
  Q out) (List.replicate (Int.toNat r32) ((0:Int))) 0)
def spec_PublishTables (g:Geo) (sx:List Variable) (l:List Record) (tables:List Table) (Q:(List Published)→Bool→Prop):Prop :=
  jn (fun (k:Bool→Prop)=>spec_uSurvey ((Geo.mk g.Parents)) sx l fun r29 =>
  br (!r29) (k true) <|
  k (decide ((ln tables)>20))) <|
  fun (x26:Bool) =>
  br (x26) (Q ([]) false) <|
  Loop2 (fun (out:List Published) (x38:Int) nx =>
  br (decide (x38<(ln tables))) (idx tables x38 fun x44 =>
  spec_uGood ((Geo.mk g.Parents)) sx ((Table.mk x44.Level x44.Vars x44.Where x44.Sum)) fun r77 =>
  br (!r77) (Q ([]) false) <|
  jn (fun (k129:Int→(List Int)→(List Int)→Int→Prop)=>(
  spec_l1Own x44.Vars fun r143 =>
  (
  spec_l1Own x44.Where fun r160 =>
  k129 x44.Level r143 r160 x44.Sum)∧(
  spec_l1Own x44.Where fun r228 =>
  k129 x44.Level r143 r228 x44.Sum))∧(
  spec_l1Own x44.Vars fun r283 =>
  spec_l1Own x44.Where fun r301 =>
  k129 x44.Level r283 r301 x44.Sum)) <|
  fun (level:Int) (vars:List Int) (wherex:List Int) (sum:Int) =>
  spec_uTable ((Geo.mk g.Parents)) sx ((Table.mk x44.Level x44.Vars x44.Where x44.Sum)) l fun r349 =>
  (ln out+ln ([((Published.mk ((Table.mk level vars wherex sum)) r349):Published)])) * 88≤140737488355328∧(
  nx (out++([((Published.mk ((Table.mk level vars wherex sum)) r349):Published)])) (wr (x38+1)))) <|
  Q out true) ([]) 0
def spec_l1All (l:List Int) (lo:Int) (hi:Int) (Q:Bool→Prop):Prop :=
  Loop1 (fun (x:Int) nx =>
  br (decide (x<(ln l))) (idx l x fun x2 =>
  spec_l1In x2 lo hi fun r10 =>
  br (!r10) (Q false) <|
  nx (wr (x+1))) <|
  Q true) 0
def spec_HideCells (p:Published) (t:Int) (Q:Published→Bool→Prop):Prop :=
  jn (fun (k:Bool→Prop)=>br (decide ((ln p.Cells)>600)) (k true) <|
  spec_l1All p.Cells ((-1)) 1000000 fun r30 =>
  br (!r30) (k true) <|
  spec_l1In t 0 1000000 fun r34 =>
  k (!r34)) <|
  fun (x27:Bool) =>
  br (x27) (Q ((Published.mk ((Table.mk 0 ([]) ([]) 0)) ([]))) false) <|
  jn (fun (k69:Int→(List Int)→(List Int)→Int→Prop)=>(
  spec_l1Own p.Table.Vars fun r81 =>
  (
  spec_l1Own p.Table.Where fun r98 =>
  k69 p.Table.Level r81 r98 p.Table.Sum)∧(
  spec_l1Own p.Table.Where fun r165 =>
  k69 p.Table.Level r81 r165 p.Table.Sum))∧(
  spec_l1Own p.Table.Vars fun r220 =>
  spec_l1Own p.Table.Where fun r238 =>
  k69 p.Table.Level r220 r238 p.Table.Sum)) <|
  fun (level:Int) (vars:List Int) (wherex:List Int) (sum:Int) =>
  Loop2 (fun (x291:Int) (cells:List Int) nx =>
  br (decide (x291<(ln p.Cells))) (idx p.Cells x291 fun x304 =>
  jn (fun (k334:Int→Prop)=>jn (fun (k338:Bool→Prop)=>br (decide (x304>0)) (k338 (decide (x304<t))) <|
  k338 false) <|
  fun (x336:Bool) =>
  br (x336) (k334 ((-1))) <|
  k334 x304) <|
  fun (n:Int) =>
  (ln cells+ln ([n])) * 8≤140737488355328∧(
  nx (wr (x291+1)) (cells++([n])))) <|
  Q ((Published.mk ((Table.mk level vars wherex sum)) cells)) true) 0 ([])
def spec_l1Cur_published (c:L1Cur) (g:Geo) (sx:List Variable) (l:List Record) (Q:(List Published)→Int→Int→Prop):Prop :=
  spec_l1Cur_pick ((L1Cur.mk c.Code c.At c.Seed)) 4 fun r26 r27 r28 =>
  Loop4 (fun (out:List Published) (k:Int) (atx:Int) (seed:Int) nx =>
  br (decide (k>0)) (jn (fun (k69:(List Published)→Int→Int→Prop)=>spec_l1Cur_table ((L1Cur.mk c.Code atx seed)) ((Geo.mk g.Parents)) sx fun r75 r76 r77 =>
  spec_PublishTables ((Geo.mk g.Parents)) sx l ([((Table.mk r75.Level r75.Vars r75.Where r75.Sum):Table)]) fun r120 r121 =>
  br (!r121) (k69 out r76 r77) <|
  jn (fun (k198:Int→(List Int)→(List Int)→Int→(List Int)→Int→Int→Prop)=>idx r120 0 fun x210 =>
  (
  spec_l1Cur_pick ((L1Cur.mk c.Code r76 r77)) 4 fun r246 r247 r248 =>
  (
  spec_HideCells x210 r246 fun r259 r260 =>
  k198 r259.Table.Level r259.Table.Vars r259.Table.Where r259.Table.Sum r259.Cells r247 r248)∧(
  spec_HideCells x210 r246 fun r347 r348 =>
  k198 r347.Table.Level r347.Table.Vars r347.Table.Where r347.Table.Sum r347.Cells r247 r248))∧(
  spec_l1Cur_pick ((L1Cur.mk c.Code r76 r77)) 4 fun r427 r428 r429 =>
  spec_HideCells x210 r427 fun r441 r442 =>
  k198 r441.Table.Level r441.Table.Vars r441.Table.Where r441.Table.Sum r441.Cells r428 r429)) <|
  fun (level:Int) (vars:List Int) (wherex:List Int) (sum:Int) (cells:List Int) (atx174:Int) (seed175:Int) =>
  (ln out+ln ([((Published.mk ((Table.mk level vars wherex sum)) cells):Published)])) * 88≤140737488355328∧(
  k69 (out++([((Published.mk ((Table.mk level vars wherex sum)) cells):Published)])) atx174 seed175)) <|
  fun (out52:List Published) (atx58:Int) (seed59:Int) =>
  nx out52 (wr (k-1)) atx58 seed59) <|
  jn (fun (k571:(List Published)→Int→Int→Prop)=>jn (fun (k579:Bool→Int→Int→Prop)=>br (decide ((ln out)>0)) (spec_l1Cur_one ((L1Cur.mk c.Code atx seed)) 12 fun r582 r583 r584 =>
  k579 r582 r583 r584) <|
  k579 false atx seed) <|
  fun (x573:Bool) (atx574:Int) (seed575:Int) =>
  br (x573) (spec_l1Cur_pick ((L1Cur.mk c.Code atx574 seed575)) (ln out) fun r590 r591 r592 =>
  spec_l1Cur_pick ((L1Cur.mk c.Code r591 r592)) 3 fun r597 r598 r599 =>
  br (r597==0) (idx out r590 fun x605 =>
  (ln x605.Cells+ln ([0])) * 8≤140737488355328∧(
  k571 (List.set out (Int.toNat r590) ({x605 with Cells:=(x605.Cells++([0]))}:Published)) r598 r599)) <|
  br (r597==1) (idx out r590 fun x676 =>
  spec_l1Cur_among ((L1Cur.mk c.Code r598 r599)) ([(-2),1000001,1000000,3]) fun r715 r716 r717 =>
  (0:Int)≤0∧Int.toNat 0<List.length x676.Cells∧(
  k571 (List.set out (Int.toNat r590) ({x676 with Cells:=List.set x676.Cells (Int.toNat 0) r715}:Published)) r716 r717)) <|
  idx out r590 fun x752 =>
  k571 (List.set out (Int.toNat r590) ({x752 with Table.Sum:=9}:Published)) r598 r599) <|
  k571 out atx574 seed575) <|
  fun (out554:List Published) (atx560:Int) (seed561:Int) =>
  Q out554 atx560 seed561) ([]) r26 r27 r28
def spec_aTypes (g:Geo) (sx:List Variable) (Q:Int→Prop):Prop :=
  spec_gLeaves ((Geo.mk g.Parents)) fun r8 =>
  spec_sCount sx fun r18 =>
  Q (wr ((ln r8) * r18))
def spec_l1Cur_attack (c:L1Cur) (Q:Geo→(List Variable)→(List Published)→Int→Int→Int→Prop):Prop :=
  spec_l1Cur_attacked ((L1Cur.mk c.Code c.At c.Seed)) fun r5 r6 r7 r8 r9 =>
  spec_l1Cur_published ((L1Cur.mk c.Code r8 r9)) ((Geo.mk r5.Parents)) r6 r7 fun r48 r49 r50 =>
  jn (fun (k:Int→Int→Int→Prop)=>spec_l1Cur_one ((L1Cur.mk c.Code r49 r50)) 6 fun r93 r94 r95 =>
  br (r93) (spec_l1Cur_among ((L1Cur.mk c.Code r94 r95)) ([0,1,2,8,9,(-1)]) fun r108 r109 r110 =>
  k r108 r109 r110) <|
  k (ln r7) r94 r95) <|
  fun (n:Int) (atx:Int) (seed:Int) =>
  jn (fun (k130:Int→Prop)=>jn (fun (k135:Bool→Prop)=>spec_aTypes ((Geo.mk r5.Parents)) r6 fun r137 =>
  br (decide (r137>8)) (br ((ln r48)==0) (k135 (decide (n>5))) <|
  k135 false) <|
  k135 false) <|
  fun (x132:Bool) =>
  br (x132) (k130 5) <|
  k130 n) <|
  fun (n127:Int) =>
  Q ((Geo.mk r5.Parents)) r6 r48 n127 atx seed
def spec_DrawCountSurveys (code:List B8) (Q:Geo→(List Variable)→(List Published)→Int→Prop):Prop :=
  spec_l1Cur_attack ((L1Cur.mk code 0 0)) fun r8 r9 r10 r11 r12 r13 =>
  Q ((Geo.mk r8.Parents)) r9 r10 r11
def impl_IsGeo (g:Geo) (Q:Bool→Prop):Prop :=
  jn (fun (k:Bool→Prop)=>br (decide ((ln g.Parents)<1)) (k true) <|
  br (decide ((ln g.Parents)>30)) (k true) <|
  idx g.Parents 0 fun x8 =>
  k (x8 != ((-1)))) <|
  fun (x5:Bool) =>
  br (x5) (Q false) <|
  Loop1 (fun (i:Int) nx =>
  br (decide (i<(ln g.Parents))) (jn (fun (k19:Bool→Prop)=>idx g.Parents i fun x21 =>
  br (decide (x21<0)) (k19 true) <|
  idx g.Parents i fun x31 =>
  k19 (decide (x31≥i))) <|
  fun (x17:Bool) =>
  br (x17) (Q false) <|
  nx (wr (i+1))) <|
  Q true) 1
def impl_isWord (sx:ByteArray) (Q:Bool→Prop):Prop :=
  jn (fun (k:Bool→Prop)=>br (decide ((sln sx)<1)) (k true) <|
  k (decide ((sln sx)>8))) <|
  fun (x:Bool) =>
  br (x) (Q false) <|
  Loop1 (fun (x2:Int) nx =>
  br (decide (x2<(sln sx))) (jn (fun (k7:Bool→Prop)=>sidx sx x2 fun c =>
  br (decide ((c)<97)) (k7 true) <|
  sidx sx x2 fun c10 =>
  k7 (decide ((c10)>122))) <|
  fun (x5:Bool) =>
  br (x5) (Q false) <|
  nx (wr (x2+1))) <|
  Q true) 0
def impl_IsSchema (sx:List Variable) (Q:Bool→Prop):Prop :=
  jn (fun (k:Bool→Prop)=>br (decide ((ln sx)<1)) (k true) <|
  k (decide ((ln sx)>6))) <|
  fun (x:Bool) =>
  br (x) (Q false) <|
  Loop1 (fun (x2:Int) nx =>
  br (decide (x2<(ln sx))) (idx sx x2 fun x6 =>
  jn (fun (k25:Bool→Prop)=>impl_isWord x6.Name fun r27 =>
  br (!r27) (k25 true) <|
  br (decide (x6.Levels<2)) (k25 true) <|
  k25 (decide (x6.Levels>8))) <|
  fun (x22:Bool) =>
  br (x22) (Q false) <|
  (0:Int)≤0∧0≤x2∧x2≤ln sx∧(
  Loop1 (fun (x39:Int) nx45 =>
  br (decide (x39<(ln (List.take (Int.toNat x2-Int.toNat 0) (List.drop (Int.toNat 0) sx))))) (idx (List.take (Int.toNat x2-Int.toNat 0) (List.drop (Int.toNat 0) sx)) x39 fun x47 =>
  br (streq x47.Name x6.Name) (Q false) <|
  nx45 (wr (x39+1))) <|
  nx (wr (x2+1))) 0)) <|
  Q true) 0
def slices_Index_int_int (sx:List Int) (vx1:Int) (Q:Int→Prop):Prop :=
  Loop1 (fun (x:Int) nx =>
  br (decide (x<(ln sx))) (idx sx x fun x2 =>
  br (vx1==x2) (Q x) <|
  nx (wr (x+1))) <|
  Q ((-1))) 0
def slices_Contains_int_int (sx:List Int) (vx1:Int) (Q:Bool→Prop):Prop :=
  slices_Index_int_int sx vx1 fun r2 =>
  Q (decide (r2≥0))
def impl_isLeaf (g:Geo) (i:Int) (Q:Bool→Prop):Prop :=
  slices_Contains_int_int g.Parents i fun r2 =>
  Q (!r2)
def impl_leavesOf (g:Geo) (Q:(List Int)→Prop):Prop :=
  Loop2 (fun (list:List Int) (x6:Int) nx =>
  br (decide (x6<(ln g.Parents))) (jn (fun (k:(List Int)→Prop)=>impl_isLeaf ((Geo.mk g.Parents)) x6 fun r27 =>
  br (r27) ((ln list+ln ([x6])) * 8≤140737488355328∧(
  k (list++([x6])))) <|
  k list) <|
  fun (list17:List Int) =>
  nx list17 (wr (x6+1))) <|
  Q list) ([]) 0
def impl_combinations (sx:List Variable) (Q:Int→Prop):Prop :=
  Loop2 (fun (n:Int) (x:Int) nx =>
  br (decide (x<(ln sx))) (idx sx x fun x2 =>
  nx (wr (n * x2.Levels)) (wr (x+1))) <|
  Q n) 1 0
def impl_typeCount (g:Geo) (sx:List Variable) (Q:Int→Prop):Prop :=
  impl_leavesOf ((Geo.mk g.Parents)) fun r8 =>
  impl_combinations sx fun r18 =>
  Q (wr ((ln r8) * r18))
def impl_areTyped (g:Geo) (sx:List Variable) (Q:Bool→Prop):Prop :=
  jn (fun (k:Bool→Prop)=>impl_IsGeo ((Geo.mk g.Parents)) fun r15 =>
  br (r15) (impl_IsSchema sx fun r18 =>
  br (r18) (impl_typeCount ((Geo.mk g.Parents)) sx fun r24 =>
  k (decide (r24≤12))) <|
  k false) <|
  k false) <|
  fun (x12:Bool) =>
  Q x12
def impl_areVars (sx:List Variable) (vars:List Int) (Q:Bool→Prop):Prop :=
  Loop2 (fun (last:Int) (x:Int) nx =>
  br (decide (x<(ln vars))) (idx vars x fun x7 =>
  jn (fun (k:Bool→Prop)=>br (decide (x7≤last)) (k true) <|
  k (decide (x7≥(ln sx)))) <|
  fun (x13:Bool) =>
  br (x13) (Q false) <|
  nx x7 (wr (x+1))) <|
  Q true) ((-1)) 0
def impl_fullSet (vx:Variable) (Q:Int→Prop):Prop :=
  (0:Int)≤vx.Levels∧(
  Q (wr ((shl .i64 1 vx.Levels)-1)))
def impl_isWhere (sx:List Variable) (wherex:List Int) (Q:Bool→Prop):Prop :=
  br ((ln wherex)!=(ln sx)) (Q false) <|
  Loop1 (fun (x:Int) nx =>
  br (decide (x<(ln wherex))) (idx wherex x fun x9 =>
  jn (fun (k:Bool→Prop)=>br (decide (x9<0)) (k true) <|
  idx sx x fun x22 =>
  impl_fullSet x22 fun r31 =>
  k (decide (x9>r31))) <|
  fun (x18:Bool) =>
  br (x18) (Q false) <|
  nx (wr (x+1))) <|
  Q true) 0
def impl_depthOf (g:Geo) (i:Int) (Q:Int→Prop):Prop :=
  Loop2 (fun (i2:Int) (d:Int) nx =>
  br (decide (i2>0)) (idx g.Parents i2 fun x4 =>
  nx x4 (wr (d+1))) <|
  Q d) i 0
def impl_areasAt (g:Geo) (level:Int) (Q:(List Int)→Prop):Prop :=
  Loop2 (fun (list:List Int) (x6:Int) nx =>
  br (decide (x6<(ln g.Parents))) (jn (fun (k:(List Int)→Prop)=>impl_depthOf ((Geo.mk g.Parents)) x6 fun r27 =>
  br (r27==level) ((ln list+ln ([x6])) * 8≤140737488355328∧(
  k (list++([x6])))) <|
  k list) <|
  fun (list17:List Int) =>
  nx list17 (wr (x6+1))) <|
  Q list) ([]) 0
def impl_crossed (sx:List Variable) (t:Table) (Q:(List Variable)→Prop):Prop :=
  (0:Int)≤(ln t.Vars)∧24 * (ln t.Vars)≤140737488355328∧(
  Loop2 (fun (out:List Variable) (x28:Int) nx =>
  br (decide (x28<(ln t.Vars))) (idx t.Vars x28 fun x31 =>
  idx sx x31 fun x39 =>
  (0:Int)≤x28∧Int.toNat x28<List.length out∧(
  nx (List.set out (Int.toNat x28) x39) (wr (x28+1)))) <|
  Q out) (List.replicate (Int.toNat (ln t.Vars)) ((Variable.mk ((ByteArray.mk #[])) ((0:Int))))) 0)
def impl_cellCount (g:Geo) (sx:List Variable) (t:Table) (Q:Int→Prop):Prop :=
  impl_areasAt ((Geo.mk g.Parents)) t.Level fun r31 =>
  impl_crossed sx ((Table.mk t.Level t.Vars t.Where t.Sum)) fun r46 =>
  det1 (impl_combinations r46) fun r60 =>
  Q (wr ((ln r31) * r60))
def impl_isTable (g:Geo) (sx:List Variable) (t:Table) (Q:Bool→Prop):Prop :=
  jn (fun (k:Bool→Prop)=>impl_areVars sx t.Vars fun r37 =>
  br (!r37) (k true) <|
  impl_isWhere sx t.Where fun r41 =>
  br (!r41) (k true) <|
  br (decide (t.Sum<((-1)))) (k true) <|
  k (decide (t.Sum≥(ln sx)))) <|
  fun (x34:Bool) =>
  br (x34) (Q false) <|
  impl_cellCount ((Geo.mk g.Parents)) sx ((Table.mk t.Level t.Vars t.Where t.Sum)) fun r56 =>
  jn (fun (k67:Bool→Prop)=>br (decide (r56>0)) (k67 (decide (r56≤600))) <|
  k67 false) <|
  fun (x65:Bool) =>
  Q x65
def impl_areWithin (l:List Int) (lo:Int) (hi:Int) (Q:Bool→Prop):Prop :=
  Loop1 (fun (x:Int) nx =>
  br (decide (x<(ln l))) (idx l x fun x1 =>
  jn (fun (k:Bool→Prop)=>br (decide (x1<lo)) (k true) <|
  k (decide (x1>hi))) <|
  fun (x8:Bool) =>
  br (x8) (Q false) <|
  nx (wr (x+1))) <|
  Q true) 0
def impl_arePublished (g:Geo) (sx:List Variable) (pubs:List Published) (Q:Bool→Prop):Prop :=
  br (decide ((ln pubs)>20)) (Q false) <|
  Loop1 (fun (x15:Int) nx =>
  br (decide (x15<(ln pubs))) (idx pubs x15 fun x19 =>
  jn (fun (k:Bool→Prop)=>det1 (impl_isTable ((Geo.mk g.Parents)) sx ((Table.mk x19.Table.Level x19.Table.Vars x19.Table.Where x19.Table.Sum))) fun r76 =>
  br (!r76) (k true) <|
  det1 (impl_cellCount ((Geo.mk g.Parents)) sx ((Table.mk x19.Table.Level x19.Table.Vars x19.Table.Where x19.Table.Sum))) fun r82 =>
  br ((ln x19.Cells)!=r82) (k true) <|
  det1 (impl_areWithin x19.Cells ((-1)) 1000000) fun r89 =>
  k (!r89)) <|
  fun (x73:Bool) =>
  br (x73) (Q false) <|
  nx (wr (x15+1))) <|
  Q true) 0
def impl_areAttacked (g:Geo) (sx:List Variable) (pubs:List Published) (Q:Bool→Prop):Prop :=
  jn (fun (k:Bool→Prop)=>impl_areTyped ((Geo.mk g.Parents)) sx fun r22 =>
  br (r22) (impl_arePublished ((Geo.mk g.Parents)) sx pubs fun r26 =>
  k r26) <|
  k false) <|
  fun (x19:Bool) =>
  Q x19
def impl_isPersons (n:Int) (Q:Bool→Prop):Prop :=
  jn (fun (k:Bool→Prop)=>br (decide (n≥0)) (k (decide (n≤8))) <|
  k false) <|
  fun (x:Bool) =>
  Q x
def impl_valuesAt (sx:List Variable) (i:Int) (Q:(List Int)→Prop):Prop :=
  (0:Int)≤(ln sx)∧8 * (ln sx)≤140737488355328∧(
  Loop3 (fun (i6:Int) (values:List Int) (k:Int) nx =>
  br (decide (k≥0)) (idx sx k fun x14 =>
  x14.Levels≠0∧(
  (0:Int)≤k∧Int.toNat k<List.length values∧(
  idx sx k fun x25 =>
  x25.Levels≠0∧(
  nx (wr (Int.tdiv i6 x25.Levels)) (List.set values (Int.toNat k) (Int.tmod i6 x14.Levels)) (wr (k-1)))))) <|
  Q values) i (List.replicate (Int.toNat (ln sx)) ((0:Int))) (wr ((ln sx)-1)))
def impl_typeAt (g:Geo) (sx:List Variable) (i:Int) (Q:Record→Prop):Prop :=
  impl_combinations sx fun r13 =>
  r13≠0∧(
  r13≠0∧(
  impl_leavesOf ((Geo.mk g.Parents)) fun r24 =>
  idx r24 (wr (Int.tdiv i r13)) fun x35 =>
  impl_valuesAt sx (Int.tmod i r13) fun r45 =>
  Q ((Record.mk x35 0 r45))))
def impl_ancestorAt (g:Geo) (i:Int) (level:Int) (Q:Int→Prop):Prop :=
  impl_depthOf ((Geo.mk g.Parents)) i fun r2 =>
  jn (fun (k:Bool→Prop)=>br (decide (level<0)) (k true) <|
  k (decide (r2<level))) <|
  fun (x10:Bool) =>
  br (x10) (Q ((-1))) <|
  Loop2 (fun (i13:Int) (d:Int) nx =>
  br (decide (d>level)) (idx g.Parents i13 fun x16 =>
  nx x16 (wr (d-1))) <|
  Q i13) i r2
def impl_meetsWhere (t:Table) (r7:Record) (Q:Bool→Prop):Prop :=
  Loop1 (fun (x21:Int) nx =>
  br (decide (x21<(ln t.Where))) (idx t.Where x21 fun x23 =>
  jn (fun (k:Bool→Prop)=>br (x23 != 0) (idx r7.Values x21 fun x37 =>
  (0:Int)≤x37∧(
  k ((bits .and .i64 (shr .i64 x23 x37) 1)==0))) <|
  k false) <|
  fun (x34:Bool) =>
  br (x34) (Q false) <|
  nx (wr (x21+1))) <|
  Q true) 0
def cmp_isNaN_int (x:Int) (Q:Bool→Prop):Prop :=
  Q (x != x)
def cmp_Less_int (x:Int) (y:Int) (Q:Bool→Prop):Prop :=
  jn (fun (k:Bool→Prop)=>cmp_isNaN_int x fun r =>
  br (r) (cmp_isNaN_int y fun r5 =>
  br (!r5) (k true) <|
  k (decide (x<y))) <|
  k (decide (x<y))) <|
  fun (x1:Bool) =>
  Q x1
def slices_isNaN_int (x:Int) (Q:Bool→Prop):Prop :=
  Q (x != x)
def slices_BinarySearch_int_int (x:List Int) (target:Int) (Q:Int→Bool→Prop):Prop :=
  Loop2 (fun (i:Int) (j:Int) nx =>
  br (decide (i<j)) (idx x (wr (Int.fdiv (IntKind.u64.wrap (wr (i+j))) (2 ^ 1))) fun x2 =>
  cmp_Less_int x2 target fun r9 =>
  br (r9) (nx (wr ((wr (Int.fdiv (IntKind.u64.wrap (wr (i+j))) (2 ^ 1)))+1)) j) <|
  nx i (wr (Int.fdiv (IntKind.u64.wrap (wr (i+j))) (2 ^ 1)))) <|
  jn (fun (k:Int→Bool→Prop)=>br (decide (i<(ln x))) (idx x i fun x21 =>
  br (x21==target) (k i true) <|
  idx x i fun x31 =>
  slices_isNaN_int x31 fun r40 =>
  br (r40) (slices_isNaN_int target fun r44 =>
  k i r44) <|
  k i false) <|
  k i false) <|
  fun (x16:Int) (x17:Bool) =>
  Q x16 x17) 0 (ln x)
def impl_indexOfValues (sx:List Variable) (values:List Int) (Q:Int→Prop):Prop :=
  Loop2 (fun (i:Int) (x:Int) nx =>
  br (decide (x<(ln values))) (idx values x fun x7 =>
  idx sx x fun x13 =>
  nx (wr ((wr (i * x13.Levels))+x7)) (wr (x+1))) <|
  Q i) 0 0
def impl_cellIndex (g:Geo) (sx:List Variable) (t:Table) (area:Int) (values:List Int) (Q:Int→Prop):Prop :=
  impl_areasAt ((Geo.mk g.Parents)) t.Level fun r32 =>
  slices_BinarySearch_int_int r32 area fun r42 r43 =>
  br (!r43) (Q ((-1))) <|
  impl_crossed sx ((Table.mk t.Level t.Vars t.Where t.Sum)) fun r50 =>
  impl_combinations r50 fun r64 =>
  impl_indexOfValues r50 values fun r67 =>
  Q (wr ((wr (r42 * r64))+r67))
def impl_contribution (g:Geo) (sx:List Variable) (t:Table) (r19:Record) (Q:Int→Int→Prop):Prop :=
  impl_ancestorAt ((Geo.mk g.Parents)) r19.Area t.Level fun r39 =>
  jn (fun (k:Bool→Prop)=>br (decide (r39<0)) (k true) <|
  impl_meetsWhere ((Table.mk t.Level t.Vars t.Where t.Sum)) ((Record.mk r19.Area r19.House r19.Values)) fun r62 =>
  k (!r62)) <|
  fun (x59:Bool) =>
  br (x59) (Q ((-1)) 0) <|
  (0:Int)≤(ln t.Vars)∧8 * (ln t.Vars)≤140737488355328∧(
  Loop2 (fun (values:List Int) (x82:Int) nx =>
  br (decide (x82<(ln t.Vars))) (idx t.Vars x82 fun x86 =>
  idx r19.Values x86 fun x98 =>
  (0:Int)≤x82∧Int.toNat x82<List.length values∧(
  nx (List.set values (Int.toNat x82) x98) (wr (x82+1)))) <|
  jn (fun (k147:Int→Prop)=>br (decide (t.Sum≥0)) (idx r19.Values t.Sum fun x150 =>
  k147 x150) <|
  k147 1) <|
  fun (amount:Int) =>
  impl_cellIndex ((Geo.mk g.Parents)) sx ((Table.mk t.Level t.Vars t.Where t.Sum)) r39 values fun r159 =>
  Q r159 amount) (List.replicate (Int.toNat (ln t.Vars)) ((0:Int))) 0)
def impl_conditionsOf (g:Geo) (sx:List Variable) (pubs:List Published) (Q:(List Condition)→Prop):Prop :=
  impl_typeCount ((Geo.mk g.Parents)) sx fun r14 =>
  Loop2 (fun (out:List Condition) (x23:Int) nx =>
  br (decide (x23<(ln pubs))) (idx pubs x23 fun x28 =>
  (0:Int)≤(ln x28.Cells)∧8 * (ln x28.Cells)≤140737488355328∧(
  Loop3 (fun (out76:List Condition) (atx:List Int) (x87:Int) nx100 =>
  br (decide (x87<(ln x28.Cells))) (jn (fun (k:(List Condition)→(List Int)→Prop)=>idx x28.Cells x87 fun x173 =>
  (0:Int)≤x87∧Int.toNat x87<List.length atx∧(
  br (decide (x173≥0)) ((0:Int)≤x87∧Int.toNat x87<List.length (List.set atx (Int.toNat x87) ((-1)))∧(
  (0:Int)≤r14∧8 * r14≤140737488355328∧(
  (ln out76+ln ([((Condition.mk (List.replicate (Int.toNat r14) ((0:Int))) x173):Condition)])) * 32≤140737488355328∧(
  k (out76++([((Condition.mk (List.replicate (Int.toNat r14) ((0:Int))) x173):Condition)])) (List.set (List.set atx (Int.toNat x87) ((-1))) (Int.toNat x87) (ln out76)))))) <|
  k out76 (List.set atx (Int.toNat x87) ((-1))))) <|
  fun (out152:List Condition) (atx158:List Int) =>
  nx100 out152 atx158 (wr (x87+1))) <|
  Loop2 (fun (out261:List Condition) (x267:Int) nx273 =>
  br (decide (x267<r14)) (jn (fun (k348:(List Condition)→Prop)=>impl_typeAt ((Geo.mk g.Parents)) sx x267 fun r356 =>
  det2 (impl_contribution ((Geo.mk g.Parents)) sx ((Table.mk x28.Table.Level x28.Table.Vars x28.Table.Where x28.Table.Sum)) ((Record.mk r356.Area r356.House r356.Values))) fun r372 r373 =>
  jn (fun (k393:Bool→Prop)=>br (decide (r372≥0)) (idx atx r372 fun x396 =>
  k393 (decide (x396≥0))) <|
  k393 false) <|
  fun (x391:Bool) =>
  br (x391) (idx atx r372 fun x406 =>
  idx out261 x406 fun x415 =>
  (0:Int)≤x267∧Int.toNat x267<List.length x415.Amounts∧(
  k348 (List.set out261 (Int.toNat x406) ({x415 with Amounts:=List.set x415.Amounts (Int.toNat x267) r373}:Condition)))) <|
  k348 out261) <|
  fun (out340:List Condition) =>
  nx273 out340 (wr (x267+1))) <|
  nx out261 (wr (x23+1))) out76 0) out (List.replicate (Int.toNat (ln x28.Cells)) ((0:Int))) 0)) <|
  Q out) ([]) 0
def impl_CountSurveys_1 (p:List Int) (Q:Prop):Prop :=
  Q
def impl_solutions_1_impl_CountSurveys_1 (counts:List Int) (c1:Int) (c5:Int) (Q:Bool→Int→Prop):Prop :=
  impl_CountSurveys_1 counts <|
  Q (decide ((wr (c1+1))<c5)) (wr (c1+1))
def impl_search_add_impl_solutions_1_impl_CountSurveys_1 (x:Search) (c13:Int) (c17:Int) (k:Int) (n:Int) (Q:(List Int)→(List Int)→Prop):Prop :=
  idx x.Counts k fun x38 =>
  (0:Int)≤k∧Int.toNat k<List.length x.Counts∧(
  Loop2 (fun (x50:Int) (sums:List Int) nx =>
  br (decide (x50<(ln x.Conditions))) (idx x.Conditions x50 fun x62 =>
  idx sums x50 fun x92 =>
  idx x62.Amounts k fun x106 =>
  (0:Int)≤x50∧Int.toNat x50<List.length sums∧(
  nx (wr (x50+1)) (List.set sums (Int.toNat x50) (wr (x92+(wr (n * x106))))))) <|
  Q (List.set x.Counts (Int.toNat k) (wr (x38+n))) sums) 0 x.Sums)
def impl_search_from_impl_solutions_1_impl_CountSurveys_1 (x:Search) (c13:Int) (c17:Int) (k:Int) (left:Int) (Q:Bool→(List Int)→(List Int)→Int→Prop):Prop :=
  Rec5 (fun (self:Search→Int→Int→Int→Int→(Bool→(List Int)→(List Int)→Int→Prop)→Prop) (x:Search) (c13:Int) (c17:Int) (k:Int) (left:Int) (Q:Bool→(List Int)→(List Int)→Int→Prop) =>
  br (k==(ln x.Counts)) (br (decide (left>0)) (Q true x.Counts x.Sums c13) <|
  Loop1 (fun (x43:Int) nx =>
  br (decide (x43<(ln x.Conditions))) (idx x.Conditions x43 fun x47 =>
  idx x.Sums x43 fun x71 =>
  br (x71 != x47.Value) (Q true x.Counts x.Sums c13) <|
  nx (wr (x43+1))) <|
  impl_solutions_1_impl_CountSurveys_1 x.Counts c13 c17 fun r104 r105 =>
  Q r104 x.Counts x.Sums r105) 0) <|
  jn (fun (k145:Int→(List Int)→(List Int)→Prop)=>Loop4 (fun (n:Int) (x146:Int) (counts147:List Int) (sums153:List Int) nx181 =>
  br (decide (n≤left)) (Loop2 (fun (fits:Bool) (x183:Int) nx189 =>
  br (decide (x183<(ln x.Conditions))) (jn (fun (k211:Bool→Prop)=>idx x.Conditions x183 fun x213 =>
  br (fits) (idx sums153 x183 fun x242 =>
  idx x213.Amounts k fun x253 =>
  k211 (decide ((wr (x242+(wr (n * x253))))≤x213.Value))) <|
  k211 false) <|
  fun (fits208:Bool) =>
  nx189 fits208 (wr (x183+1))) <|
  br (!fits) (k145 x146 counts147 sums153) <|
  impl_search_add_impl_solutions_1_impl_CountSurveys_1 ((Search.mk x.Conditions counts147 sums153)) x146 c17 k n fun r298 r299 =>
  self ((Search.mk x.Conditions r298 r299)) x146 c17 (wr (k+1)) (wr (left-n)) fun r337 r338 r339 r340 =>
  impl_search_add_impl_solutions_1_impl_CountSurveys_1 ((Search.mk x.Conditions r338 r339)) r340 c17 k (wr (0-n)) fun r375 r376 =>
  br (!r337) (Q false r375 r376 r340) <|
  nx181 (wr (n+1)) r340 r375 r376) true 0) <|
  k145 x146 counts147 sums153) 0 c13 x.Counts x.Sums) <|
  fun (x118:Int) (counts:List Int) (sums:List Int) =>
  Q true counts sums x118) x c13 c17 k left Q
def impl_solutions_impl_CountSurveys_1 (g:Geo) (sx:List Variable) (pubs:List Published) (n:Int) (most:Int) (Q:Int→Prop):Prop :=
  impl_conditionsOf ((Geo.mk g.Parents)) sx pubs fun r25 =>
  det1 (impl_typeCount ((Geo.mk g.Parents)) sx) fun r56 =>
  (0:Int)≤r56∧8 * r56≤140737488355328∧(
  (0:Int)≤(ln r25)∧8 * (ln r25)≤140737488355328∧(
  impl_search_from_impl_solutions_1_impl_CountSurveys_1 ((Search.mk r25 (List.replicate (Int.toNat r56) ((0:Int))) (List.replicate (Int.toNat (ln r25)) ((0:Int))))) 0 most 0 n fun r130 r131 r132 r133 =>
  Q r133))
def impl_CountSurveys (g:Geo) (sx:List Variable) (pubs:List Published) (n:Int) (Q:Int→Bool→Prop):Prop :=
  jn (fun (k:Bool→Prop)=>impl_areAttacked ((Geo.mk g.Parents)) sx pubs fun r22 =>
  br (!r22) (k true) <|
  impl_isPersons n fun r25 =>
  k (!r25)) <|
  fun (x19:Bool) =>
  br (x19) (Q 0 false) <|
  impl_solutions_impl_CountSurveys_1 ((Geo.mk g.Parents)) sx pubs n 20001 fun r31 =>
  br (decide (r31>20000)) (Q 0 false) <|
  Q r31 true
def spec_aGood (g:Geo) (sx:List Variable) (Q:Bool→Prop):Prop :=
  jn (fun (k:Bool→Prop)=>spec_gGood ((Geo.mk g.Parents)) fun r15 =>
  br (r15) (spec_sGood sx fun r18 =>
  br (r18) (spec_aTypes ((Geo.mk g.Parents)) sx fun r24 =>
  k (decide (r24≤12))) <|
  k false) <|
  k false) <|
  fun (x12:Bool) =>
  Q x12
def spec_aPublished (g:Geo) (sx:List Variable) (pubs:List Published) (Q:Bool→Prop):Prop :=
  Loop1 (fun (x14:Int) nx =>
  br (decide (x14<(ln pubs))) (idx pubs x14 fun x17 =>
  jn (fun (k:Bool→Prop)=>det1 (spec_uGood ((Geo.mk g.Parents)) sx ((Table.mk x17.Table.Level x17.Table.Vars x17.Table.Where x17.Table.Sum))) fun r74 =>
  br (!r74) (k true) <|
  det1 (spec_uCount ((Geo.mk g.Parents)) sx ((Table.mk x17.Table.Level x17.Table.Vars x17.Table.Where x17.Table.Sum))) fun r80 =>
  br ((ln x17.Cells)!=r80) (k true) <|
  det1 (spec_l1All x17.Cells ((-1)) 1000000) fun r87 =>
  k (!r87)) <|
  fun (x71:Bool) =>
  br (x71) (Q false) <|
  nx (wr (x14+1))) <|
  Q (decide ((ln pubs)≤20))) 0
def spec_aAsked (g:Geo) (sx:List Variable) (pubs:List Published) (n:Int) (Q:Bool→Prop):Prop :=
  jn (fun (k:Bool→Prop)=>spec_aGood ((Geo.mk g.Parents)) sx fun r22 =>
  br (r22) (spec_aPublished ((Geo.mk g.Parents)) sx pubs fun r26 =>
  br (r26) (spec_l1In n 0 8 fun r33 =>
  k r33) <|
  k false) <|
  k false) <|
  fun (x19:Bool) =>
  Q x19
def spec_sAt (sx:List Variable) (i:Int) (Q:(List Int)→Prop):Prop :=
  (0:Int)≤(ln sx)∧8 * (ln sx)≤140737488355328∧(
  Loop3 (fun (i6:Int) (out:List Int) (k:Int) nx =>
  br (decide (k≥0)) (idx sx k fun x14 =>
  x14.Levels≠0∧(
  (0:Int)≤k∧Int.toNat k<List.length out∧(
  idx sx k fun x25 =>
  x25.Levels≠0∧(
  nx (wr (Int.tdiv i6 x25.Levels)) (List.set out (Int.toNat k) (Int.tmod i6 x14.Levels)) (wr (k-1)))))) <|
  Q out) i (List.replicate (Int.toNat (ln sx)) ((0:Int))) (wr ((ln sx)-1)))
def spec_aRecord (g:Geo) (sx:List Variable) (i:Int) (Q:Record→Prop):Prop :=
  spec_sCount sx fun r13 =>
  r13≠0∧(
  r13≠0∧(
  spec_gLeaves ((Geo.mk g.Parents)) fun r24 =>
  idx r24 (wr (Int.tdiv i r13)) fun x35 =>
  spec_sAt sx (Int.tmod i r13) fun r45 =>
  Q ((Record.mk x35 0 r45))))
def spec_aRules (g:Geo) (sx:List Variable) (pubs:List Published) (Q:(List ARule)→Prop):Prop :=
  Loop2 (fun (out:List ARule) (x18:Int) nx =>
  br (decide (x18<(ln pubs))) (idx pubs x18 fun x23 =>
  Loop2 (fun (out61:List ARule) (x67:Int) nx76 =>
  br (decide (x67<(ln x23.Cells))) (jn (fun (k:(List ARule)→Prop)=>idx x23.Cells x67 fun x118 =>
  br (decide (x118<0)) (k out61) <|
  spec_aTypes ((Geo.mk g.Parents)) sx fun r128 =>
  (0:Int)≤r128∧8 * r128≤140737488355328∧(
  Loop2 (fun (x148:Int) (amounts:List Int) nx165 =>
  br (decide (x148<(ln (List.replicate (Int.toNat r128) ((0:Int)))))) (jn (fun (k233:(List Int)→Prop)=>spec_aRecord ((Geo.mk g.Parents)) sx x148 fun r241 =>
  det2 (spec_uCell ((Geo.mk g.Parents)) sx ((Table.mk x23.Table.Level x23.Table.Vars x23.Table.Where x23.Table.Sum)) ((Record.mk r241.Area r241.House r241.Values))) fun r257 r258 =>
  br (r257==x67) ((0:Int)≤x148∧Int.toNat x148<List.length amounts∧(
  k233 (List.set amounts (Int.toNat x148) r258))) <|
  k233 amounts) <|
  fun (amounts219:List Int) =>
  nx165 (wr (x148+1)) amounts219) <|
  (ln out61+ln ([((ARule.mk amounts x118):ARule)])) * 32≤140737488355328∧(
  k (out61++([((ARule.mk amounts x118):ARule)])))) 0 (List.replicate (Int.toNat r128) ((0:Int))))) <|
  fun (out108:List ARule) =>
  nx76 out108 (wr (x67+1))) <|
  nx out61 (wr (x18+1))) out 0) <|
  Q out) ([]) 0
def spec_aSum (amounts:List Int) (counts:List Int) (Q:Int→Prop):Prop :=
  Loop2 (fun (n:Int) (x:Int) nx =>
  br (decide (x<(ln counts))) (idx counts x fun x7 =>
  idx amounts x fun x13 =>
  nx (wr (n+(wr (x13 * x7)))) (wr (x+1))) <|
  Q n) 0 0
def spec_aSearch_run (x:ASearch) (counts:List Int) (left:Int) (Q:(List (List Int))→Int→Int→Prop):Prop :=
  Rec3 (fun (self:ASearch→(List Int)→Int→((List (List Int))→Int→Int→Prop)→Prop) (x:ASearch) (counts:List Int) (left:Int) (Q:(List (List Int))→Int→Int→Prop) =>
  br (decide ((ln x.Out)>x.Most)) (Q x.Out x.Types x.Most) <|
  Loop1 (fun (x24:Int) nx =>
  br (decide (x24<(ln x.Rules))) (idx x.Rules x24 fun x29 =>
  spec_aSum x29.Amounts counts fun r51 =>
  jn (fun (k:Bool→Prop)=>br (decide (r51>x29.Sum)) (k true) <|
  br ((ln counts)==x.Types) (k (decide (r51<x29.Sum))) <|
  k false) <|
  fun (x72:Bool) =>
  br (x72) (Q x.Out x.Types x.Most) <|
  nx (wr (x24+1))) <|
  br ((ln counts)==x.Types) (jn (fun (k97:(List (List Int))→Prop)=>br (left==0) (spec_l1Own counts fun r105 =>
  (ln x.Out+ln ([r105])) * 24≤140737488355328∧(
  k97 (x.Out++([r105])))) <|
  k97 x.Out) <|
  fun (out:List (List Int)) =>
  Q out x.Types x.Most) <|
  jn (fun (k181:Int→Prop)=>br ((ln counts)==(wr (x.Types-1))) (k181 left) <|
  k181 0) <|
  fun (least:Int) =>
  Loop4 (fun (k184:Int) (types:Int) (most:Int) (out185:List (List Int)) nx204 =>
  br (decide (k184≤left)) (spec_l1Own counts fun r206 =>
  (ln r206+ln ([k184])) * 8≤140737488355328∧(
  self ((ASearch.mk x.Rules types most out185)) (r206++([k184])) (wr (left-k184)) fun r247 r248 r249 =>
  nx204 (wr (k184+1)) r248 r249 r247)) <|
  Q out185 types most) least x.Types x.Most x.Out) 0) x counts left Q
def spec_aSolve (g:Geo) (sx:List Variable) (pubs:List Published) (n:Int) (most:Int) (Q:(List (List Int))→Prop):Prop :=
  spec_aRules ((Geo.mk g.Parents)) sx pubs fun r19 =>
  det1 (spec_aTypes ((Geo.mk g.Parents)) sx) fun r33 =>
  spec_aSearch_run ((ASearch.mk r19 r33 most ([]))) ([]) n fun r44 r45 r46 =>
  Q r44
def spec_CountSurveys (g:Geo) (sx:List Variable) (pubs:List Published) (n:Int) (Q:Int→Bool→Prop):Prop :=
  spec_aAsked ((Geo.mk g.Parents)) sx pubs n fun r14 =>
  br (!r14) (Q 0 false) <|
  spec_aSolve ((Geo.mk g.Parents)) sx pubs n 20000 fun r22 =>
  br (decide ((ln r22)>20000)) (Q 0 false) <|
  Q (ln r22) true
def spec_DrawIsSafeRelease (code:List B8) (Q:Geo→(List Variable)→(List Published)→Int→Int→Prop):Prop :=
  spec_l1Cur_attack ((L1Cur.mk code 0 0)) fun r8 r9 r10 r11 r12 r13 =>
  spec_l1Cur_among ((L1Cur.mk code r12 r13)) ([0,1,2,5,20,100,20000,20001,(-1)]) fun r71 r72 r73 =>
  Q ((Geo.mk r8.Parents)) r9 r10 r11 r71
def impl_IsSafeRelease_1 (p:List Int) (Q:Prop):Prop :=
  Q
def impl_solutions_1_impl_IsSafeRelease_1 (counts:List Int) (c1:Int) (c5:Int) (Q:Bool→Int→Prop):Prop :=
  impl_IsSafeRelease_1 counts <|
  Q (decide ((wr (c1+1))<c5)) (wr (c1+1))
def impl_search_add_impl_solutions_1_impl_IsSafeRelease_1 (x:Search) (c13:Int) (c17:Int) (k:Int) (n:Int) (Q:(List Int)→(List Int)→Prop):Prop :=
  idx x.Counts k fun x38 =>
  (0:Int)≤k∧Int.toNat k<List.length x.Counts∧(
  Loop2 (fun (x50:Int) (sums:List Int) nx =>
  br (decide (x50<(ln x.Conditions))) (idx x.Conditions x50 fun x62 =>
  idx sums x50 fun x92 =>
  idx x62.Amounts k fun x106 =>
  (0:Int)≤x50∧Int.toNat x50<List.length sums∧(
  nx (wr (x50+1)) (List.set sums (Int.toNat x50) (wr (x92+(wr (n * x106))))))) <|
  Q (List.set x.Counts (Int.toNat k) (wr (x38+n))) sums) 0 x.Sums)
def impl_search_from_impl_solutions_1_impl_IsSafeRelease_1 (x:Search) (c13:Int) (c17:Int) (k:Int) (left:Int) (Q:Bool→(List Int)→(List Int)→Int→Prop):Prop :=
  Rec5 (fun (self:Search→Int→Int→Int→Int→(Bool→(List Int)→(List Int)→Int→Prop)→Prop) (x:Search) (c13:Int) (c17:Int) (k:Int) (left:Int) (Q:Bool→(List Int)→(List Int)→Int→Prop) =>
  br (k==(ln x.Counts)) (br (decide (left>0)) (Q true x.Counts x.Sums c13) <|
  Loop1 (fun (x43:Int) nx =>
  br (decide (x43<(ln x.Conditions))) (idx x.Conditions x43 fun x47 =>
  idx x.Sums x43 fun x71 =>
  br (x71 != x47.Value) (Q true x.Counts x.Sums c13) <|
  nx (wr (x43+1))) <|
  impl_solutions_1_impl_IsSafeRelease_1 x.Counts c13 c17 fun r104 r105 =>
  Q r104 x.Counts x.Sums r105) 0) <|
  jn (fun (k145:Int→(List Int)→(List Int)→Prop)=>Loop4 (fun (n:Int) (x146:Int) (counts147:List Int) (sums153:List Int) nx181 =>
  br (decide (n≤left)) (Loop2 (fun (fits:Bool) (x183:Int) nx189 =>
  br (decide (x183<(ln x.Conditions))) (jn (fun (k211:Bool→Prop)=>idx x.Conditions x183 fun x213 =>
  br (fits) (idx sums153 x183 fun x242 =>
  idx x213.Amounts k fun x253 =>
  k211 (decide ((wr (x242+(wr (n * x253))))≤x213.Value))) <|
  k211 false) <|
  fun (fits208:Bool) =>
  nx189 fits208 (wr (x183+1))) <|
  br (!fits) (k145 x146 counts147 sums153) <|
  impl_search_add_impl_solutions_1_impl_IsSafeRelease_1 ((Search.mk x.Conditions counts147 sums153)) x146 c17 k n fun r298 r299 =>
  self ((Search.mk x.Conditions r298 r299)) x146 c17 (wr (k+1)) (wr (left-n)) fun r337 r338 r339 r340 =>
  impl_search_add_impl_solutions_1_impl_IsSafeRelease_1 ((Search.mk x.Conditions r338 r339)) r340 c17 k (wr (0-n)) fun r375 r376 =>
  br (!r337) (Q false r375 r376 r340) <|
  nx181 (wr (n+1)) r340 r375 r376) true 0) <|
  k145 x146 counts147 sums153) 0 c13 x.Counts x.Sums) <|
  fun (x118:Int) (counts:List Int) (sums:List Int) =>
  Q true counts sums x118) x c13 c17 k left Q
def impl_solutions_impl_IsSafeRelease_1 (g:Geo) (sx:List Variable) (pubs:List Published) (n:Int) (most:Int) (Q:Int→Prop):Prop :=
  impl_conditionsOf ((Geo.mk g.Parents)) sx pubs fun r25 =>
  det1 (impl_typeCount ((Geo.mk g.Parents)) sx) fun r56 =>
  (0:Int)≤r56∧8 * r56≤140737488355328∧(
  (0:Int)≤(ln r25)∧8 * (ln r25)≤140737488355328∧(
  impl_search_from_impl_solutions_1_impl_IsSafeRelease_1 ((Search.mk r25 (List.replicate (Int.toNat r56) ((0:Int))) (List.replicate (Int.toNat (ln r25)) ((0:Int))))) 0 most 0 n fun r130 r131 r132 r133 =>
  Q r133))
def impl_IsSafeRelease (g:Geo) (sx:List Variable) (pubs:List Published) (n:Int) (floor:Int) (Q:Bool→Bool→Prop):Prop :=
  jn (fun (k:Bool→Prop)=>impl_areAttacked ((Geo.mk g.Parents)) sx pubs fun r22 =>
  br (!r22) (k true) <|
  impl_isPersons n fun r25 =>
  br (!r25) (k true) <|
  br (decide (floor<0)) (k true) <|
  k (decide (floor>20000))) <|
  fun (x19:Bool) =>
  br (x19) (Q false false) <|
  br (floor==0) (Q true true) <|
  impl_solutions_impl_IsSafeRelease_1 ((Geo.mk g.Parents)) sx pubs n floor fun r37 =>
  Q (decide (r37≥floor)) true
def spec_IsSafeRelease (g:Geo) (sx:List Variable) (pubs:List Published) (n:Int) (floor:Int) (Q:Bool→Bool→Prop):Prop :=
  jn (fun (k:Bool→Prop)=>spec_aAsked ((Geo.mk g.Parents)) sx pubs n fun r22 =>
  br (!r22) (k true) <|
  spec_l1In floor 0 20000 fun r25 =>
  k (!r25)) <|
  fun (x19:Bool) =>
  br (x19) (Q false false) <|
  jn (fun (k38:Bool→Prop)=>br (floor==0) (k38 true) <|
  spec_aSolve ((Geo.mk g.Parents)) sx pubs n (wr (floor-1)) fun r41 =>
  k38 (decide ((ln r41)≥floor))) <|
  fun (x35:Bool) =>
  Q x35 true
def impl_FirstSurvey_1 (counts:List Int) (c1:List Int) (Q:(List Int)→Prop):Prop :=
  (ln c1+ln counts) * 8≤140737488355328∧(
  (0:Int)<ln (c1++counts)∧Q (c1++counts))
def impl_solutions_1_impl_FirstSurvey_1 (counts:List Int) (c1:Int) (c3:List Int) (c14:Int) (Q:Bool→Int→(List Int)→Prop):Prop :=
  impl_FirstSurvey_1 counts c3 fun r32 =>
  Q (decide ((wr (c1+1))<c14)) (wr (c1+1)) r32
def impl_search_add_impl_solutions_1_impl_FirstSurvey_1 (x:Search) (c13:Int) (c15:List Int) (c26:Int) (k:Int) (n:Int) (Q:(List Int)→(List Int)→Prop):Prop :=
  idx x.Counts k fun x53 =>
  (0:Int)≤k∧Int.toNat k<List.length x.Counts∧(
  Loop2 (fun (x65:Int) (sums:List Int) nx =>
  br (decide (x65<(ln x.Conditions))) (idx x.Conditions x65 fun x77 =>
  idx sums x65 fun x107 =>
  idx x77.Amounts k fun x121 =>
  (0:Int)≤x65∧Int.toNat x65<List.length sums∧(
  nx (wr (x65+1)) (List.set sums (Int.toNat x65) (wr (x107+(wr (n * x121))))))) <|
  Q (List.set x.Counts (Int.toNat k) (wr (x53+n))) sums) 0 x.Sums)
def impl_search_from_impl_solutions_1_impl_FirstSurvey_1 (x:Search) (c13:Int) (c15:List Int) (c26:Int) (k:Int) (left:Int) (Q:Bool→(List Int)→(List Int)→Int→(List Int)→Prop):Prop :=
  Rec6 (fun (self:Search→Int→(List Int)→Int→Int→Int→(Bool→(List Int)→(List Int)→Int→(List Int)→Prop)→Prop) (x:Search) (c13:Int) (c15:List Int) (c26:Int) (k:Int) (left:Int) (Q:Bool→(List Int)→(List Int)→Int→(List Int)→Prop) =>
  br (k==(ln x.Counts)) (br (decide (left>0)) (Q true x.Counts x.Sums c13 c15) <|
  Loop1 (fun (x69:Int) nx =>
  br (decide (x69<(ln x.Conditions))) (idx x.Conditions x69 fun x73 =>
  idx x.Sums x69 fun x97 =>
  br (x97 != x73.Value) (Q true x.Counts x.Sums c13 c15) <|
  nx (wr (x69+1))) <|
  impl_solutions_1_impl_FirstSurvey_1 x.Counts c13 c15 c26 fun r136 r137 r138 =>
  Q r136 x.Counts x.Sums r137 r138) 0) <|
  jn (fun (k221:Int→(List Int)→(List Int)→(List Int)→Prop)=>Loop5 (fun (n:Int) (x222:Int) (x223:List Int) (counts229:List Int) (sums235:List Int) nx276 =>
  br (decide (n≤left)) (Loop2 (fun (fits:Bool) (x278:Int) nx284 =>
  br (decide (x278<(ln x.Conditions))) (jn (fun (k315:Bool→Prop)=>idx x.Conditions x278 fun x317 =>
  br (fits) (idx sums235 x278 fun x346 =>
  idx x317.Amounts k fun x357 =>
  k315 (decide ((wr (x346+(wr (n * x357))))≤x317.Value))) <|
  k315 false) <|
  fun (fits312:Bool) =>
  nx284 fits312 (wr (x278+1))) <|
  br (!fits) (k221 x222 x223 counts229 sums235) <|
  impl_search_add_impl_solutions_1_impl_FirstSurvey_1 ((Search.mk x.Conditions counts229 sums235)) x222 x223 c26 k n fun r412 r413 =>
  self ((Search.mk x.Conditions r412 r413)) x222 x223 c26 (wr (k+1)) (wr (left-n)) fun r467 r468 r469 r470 r471 =>
  impl_search_add_impl_solutions_1_impl_FirstSurvey_1 ((Search.mk x.Conditions r468 r469)) r470 r471 c26 k (wr (0-n)) fun r525 r526 =>
  br (!r467) (Q false r525 r526 r470 r471) <|
  nx276 (wr (n+1)) r470 r471 r525 r526) true 0) <|
  k221 x222 x223 counts229 sums235) 0 c13 c15 x.Counts x.Sums) <|
  fun (x174:Int) (x175:List Int) (counts:List Int) (sums:List Int) =>
  Q true counts sums x174 x175) x c13 c15 c26 k left Q
def impl_solutions_impl_FirstSurvey_1 (g:Geo) (sx:List Variable) (pubs:List Published) (n:Int) (most:Int) (c13:List Int) (Q:Int→(List Int)→Prop):Prop :=
  impl_conditionsOf ((Geo.mk g.Parents)) sx pubs fun r41 =>
  det1 (impl_typeCount ((Geo.mk g.Parents)) sx) fun r78 =>
  (0:Int)≤r78∧8 * r78≤140737488355328∧(
  (0:Int)≤(ln r41)∧8 * (ln r41)≤140737488355328∧(
  impl_search_from_impl_solutions_1_impl_FirstSurvey_1 ((Search.mk r41 (List.replicate (Int.toNat r78) ((0:Int))) (List.replicate (Int.toNat (ln r41)) ((0:Int))))) 0 c13 most 0 n fun r168 r169 r170 r171 r172 =>
  Q r171 r172))
def impl_FirstSurvey (g:Geo) (sx:List Variable) (pubs:List Published) (n:Int) (Q:(List Int)→Bool→Prop):Prop :=
  jn (fun (k:Bool→Prop)=>impl_areAttacked ((Geo.mk g.Parents)) sx pubs fun r22 =>
  br (!r22) (k true) <|
  impl_isPersons n fun r25 =>
  k (!r25)) <|
  fun (x19:Bool) =>
  br (x19) (Q ([]) false) <|
  impl_solutions_impl_FirstSurvey_1 ((Geo.mk g.Parents)) sx pubs n 1 ([]) fun r42 r43 =>
  Q r43 (!(ln r43==0))
def spec_FirstSurvey (g:Geo) (sx:List Variable) (pubs:List Published) (n:Int) (Q:(List Int)→Bool→Prop):Prop :=
  spec_aAsked ((Geo.mk g.Parents)) sx pubs n fun r14 =>
  br (!r14) (Q ([]) false) <|
  spec_aSolve ((Geo.mk g.Parents)) sx pubs n 0 fun r22 =>
  br ((ln r22)==0) (Q ([]) false) <|
  idx r22 0 fun x37 =>
  Q x37 true
def impl_agree (conditions:List Condition) (counts:List Int) (Q:Bool→Prop):Prop :=
  Loop1 (fun (x:Int) nx =>
  br (decide (x<(ln conditions))) (idx conditions x fun x8 =>
  Loop2 (fun (sum:Int) (x28:Int) nx33 =>
  br (decide (x28<(ln counts))) (idx counts x28 fun x35 =>
  idx x8.Amounts x28 fun x46 =>
  nx33 (wr (sum+(wr (x35 * x46)))) (wr (x28+1))) <|
  br (sum != x8.Value) (Q false) <|
  nx (wr (x+1))) 0 0) <|
  Q true) 0
def impl_Agrees (g:Geo) (sx:List Variable) (pubs:List Published) (counts:List Int) (Q:Bool→Bool→Prop):Prop :=
  jn (fun (k:Bool→Prop)=>impl_areAttacked ((Geo.mk g.Parents)) sx pubs fun r29 =>
  br (!r29) (k true) <|
  impl_typeCount ((Geo.mk g.Parents)) sx fun r33 =>
  br ((ln counts)!=r33) (k true) <|
  impl_areWithin counts 0 40 fun r39 =>
  k (!r39)) <|
  fun (x26:Bool) =>
  br (x26) (Q false false) <|
  impl_conditionsOf ((Geo.mk g.Parents)) sx pubs fun r48 =>
  impl_agree r48 counts fun r60 =>
  Q r60 true
def impl_TypeRanges_1 (counts:List Int) (Q:(List Int)→Prop):Prop :=
  Q counts
def impl_ranges_1_impl_TypeRanges_1 (counts:List Int) (c2:List Int) (c11:List Int) (Q:(List Int)→(List Int)→Prop):Prop :=
  impl_TypeRanges_1 counts fun r36 =>
  jn (fun (k:(List Int)→(List Int)→Prop)=>br (ln c2==0) ((ln (([]:List Int))+ln r36) * 8≤140737488355328∧(
  (ln (([]:List Int))+ln r36) * 8≤140737488355328∧(
  (0:Int)<ln ((([]:List Int))++r36)∧k ((([]:List Int))++r36) ((([]:List Int))++r36)))) <|
  k c2 c11) <|
  fun (x47:List Int) (x53:List Int) =>
  Loop3 (fun (x151:Int) (x152:List Int) (x158:List Int) nx =>
  br (decide (x151<(ln r36))) (idx r36 x151 fun x181 =>
  idx x152 x151 fun x207 =>
  idx x158 x151 fun x219 =>
  (0:Int)≤x151∧Int.toNat x151<List.length x152∧(
  (0:Int)≤x151∧Int.toNat x151<List.length x158∧(
  nx (wr (x151+1)) (List.set x152 (Int.toNat x151) (mn x207 x181)) (List.set x158 (Int.toNat x151) (mx x219 x181))))) <|
  Q x152 x158) 0 x47 x53
def impl_solutions_1_impl_ranges_1_impl_TypeRanges_1 (counts:List Int) (c1:Int) (c5:List Int) (c14:List Int) (c25:Int) (Q:Bool→Int→(List Int)→(List Int)→Prop):Prop :=
  impl_ranges_1_impl_TypeRanges_1 counts c5 c14 fun r63 r64 =>
  Q (decide ((wr (c1+1))<c25)) (wr (c1+1)) r63 r64
def impl_search_add_impl_solutions_1_impl_ranges_1_impl_TypeRanges_1 (x:Search) (c13:Int) (c17:List Int) (c26:List Int) (c37:Int) (k:Int) (n:Int) (Q:(List Int)→(List Int)→Prop):Prop :=
  idx x.Counts k fun x73 =>
  (0:Int)≤k∧Int.toNat k<List.length x.Counts∧(
  Loop2 (fun (x85:Int) (sums:List Int) nx =>
  br (decide (x85<(ln x.Conditions))) (idx x.Conditions x85 fun x97 =>
  idx sums x85 fun x127 =>
  idx x97.Amounts k fun x141 =>
  (0:Int)≤x85∧Int.toNat x85<List.length sums∧(
  nx (wr (x85+1)) (List.set sums (Int.toNat x85) (wr (x127+(wr (n * x141))))))) <|
  Q (List.set x.Counts (Int.toNat k) (wr (x73+n))) sums) 0 x.Sums)
def impl_search_from_impl_solutions_1_impl_ranges_1_impl_TypeRanges_1 (x:Search) (c13:Int) (c17:List Int) (c26:List Int) (c37:Int) (k:Int) (left:Int) (Q:Bool→(List Int)→(List Int)→Int→(List Int)→(List Int)→Prop):Prop :=
  Rec7 (fun (self:Search→Int→(List Int)→(List Int)→Int→Int→Int→(Bool→(List Int)→(List Int)→Int→(List Int)→(List Int)→Prop)→Prop) (x:Search) (c13:Int) (c17:List Int) (c26:List Int) (c37:Int) (k:Int) (left:Int) (Q:Bool→(List Int)→(List Int)→Int→(List Int)→(List Int)→Prop) =>
  br (k==(ln x.Counts)) (br (decide (left>0)) (Q true x.Counts x.Sums c13 c17 c26) <|
  Loop1 (fun (x109:Int) nx =>
  br (decide (x109<(ln x.Conditions))) (idx x.Conditions x109 fun x113 =>
  idx x.Sums x109 fun x137 =>
  br (x137 != x113.Value) (Q true x.Counts x.Sums c13 c17 c26) <|
  nx (wr (x109+1))) <|
  impl_solutions_1_impl_ranges_1_impl_TypeRanges_1 x.Counts c13 c17 c26 c37 fun r182 r183 r184 r185 =>
  Q r182 x.Counts x.Sums r183 r184 r185) 0) <|
  jn (fun (k315:Int→(List Int)→(List Int)→(List Int)→(List Int)→Prop)=>Loop6 (fun (n:Int) (x316:Int) (x317:List Int) (x323:List Int) (counts329:List Int) (sums335:List Int) nx391 =>
  br (decide (n≤left)) (Loop2 (fun (fits:Bool) (x393:Int) nx399 =>
  br (decide (x393<(ln x.Conditions))) (jn (fun (k446:Bool→Prop)=>idx x.Conditions x393 fun x448 =>
  br (fits) (idx sums335 x393 fun x477 =>
  idx x448.Amounts k fun x488 =>
  k446 (decide ((wr (x477+(wr (n * x488))))≤x448.Value))) <|
  k446 false) <|
  fun (fits443:Bool) =>
  nx399 fits443 (wr (x393+1))) <|
  br (!fits) (k315 x316 x317 x323 counts329 sums335) <|
  impl_search_add_impl_solutions_1_impl_ranges_1_impl_TypeRanges_1 ((Search.mk x.Conditions counts329 sums335)) x316 x317 x323 c37 k n fun r562 r563 =>
  self ((Search.mk x.Conditions r562 r563)) x316 x317 x323 c37 (wr (k+1)) (wr (left-n)) fun r638 r639 r640 r641 r642 r643 =>
  impl_search_add_impl_solutions_1_impl_ranges_1_impl_TypeRanges_1 ((Search.mk x.Conditions r639 r640)) r641 r642 r643 c37 k (wr (0-n)) fun r721 r722 =>
  br (!r638) (Q false r721 r722 r641 r642 r643) <|
  nx391 (wr (n+1)) r641 r642 r643 r721 r722) true 0) <|
  k315 x316 x317 x323 counts329 sums335) 0 c13 c17 c26 x.Counts x.Sums) <|
  fun (x247:Int) (x248:List Int) (x254:List Int) (counts:List Int) (sums:List Int) =>
  Q true counts sums x247 x248 x254) x c13 c17 c26 c37 k left Q
def impl_solutions_impl_ranges_1_impl_TypeRanges_1 (g:Geo) (sx:List Variable) (pubs:List Published) (n:Int) (most:Int) (c14:List Int) (c23:List Int) (Q:Int→(List Int)→(List Int)→Prop):Prop :=
  impl_conditionsOf ((Geo.mk g.Parents)) sx pubs fun r69 =>
  det1 (impl_typeCount ((Geo.mk g.Parents)) sx) fun r112 =>
  (0:Int)≤r112∧8 * r112≤140737488355328∧(
  (0:Int)≤(ln r69)∧8 * (ln r69)≤140737488355328∧(
  impl_search_from_impl_solutions_1_impl_ranges_1_impl_TypeRanges_1 ((Search.mk r69 (List.replicate (Int.toNat r112) ((0:Int))) (List.replicate (Int.toNat (ln r69)) ((0:Int))))) 0 c14 c23 most 0 n fun r223 r224 r225 r226 r227 r228 =>
  Q r226 r227 r228))
def impl_ranges_impl_TypeRanges_1 (g:Geo) (sx:List Variable) (pubs:List Published) (n:Int) (Q:(List Int)→(List Int)→Bool→Prop):Prop :=
  impl_solutions_impl_ranges_1_impl_TypeRanges_1 ((Geo.mk g.Parents)) sx pubs n 20001 ([]) ([]) fun r45 r46 r47 =>
  jn (fun (k:Bool→Prop)=>br (r45==0) (k true) <|
  k (decide (r45>20000))) <|
  fun (x82:Bool) =>
  br (x82) (Q ([]) ([]) false) <|
  Q r46 r47 true
def impl_TypeRanges (g:Geo) (sx:List Variable) (pubs:List Published) (n:Int) (Q:(List Int)→(List Int)→Bool→Prop):Prop :=
  jn (fun (k:Bool→Prop)=>impl_areAttacked ((Geo.mk g.Parents)) sx pubs fun r22 =>
  br (!r22) (k true) <|
  impl_isPersons n fun r25 =>
  k (!r25)) <|
  fun (x19:Bool) =>
  br (x19) (Q ([]) ([]) false) <|
  impl_ranges_impl_TypeRanges_1 ((Geo.mk g.Parents)) sx pubs n fun r31 r32 r33 =>
  Q r31 r32 r33
def spec_aAll (g:Geo) (sx:List Variable) (pubs:List Published) (n:Int) (Q:(List (List Int))→Bool→Prop):Prop :=
  spec_aAsked ((Geo.mk g.Parents)) sx pubs n fun r14 =>
  br (!r14) (Q ([]) false) <|
  spec_aSolve ((Geo.mk g.Parents)) sx pubs n 20000 fun r22 =>
  spec_l1In (ln r22) 1 20000 fun r34 =>
  Q r22 r34
def spec_l1Least (a:Int) (b:Int) (Q:Int→Prop):Prop :=
  br (decide (a<b)) (Q a) <|
  Q b
def spec_l1Most (a:Int) (b:Int) (Q:Int→Prop):Prop :=
  br (decide (a>b)) (Q a) <|
  Q b
def spec_TypeRanges (g:Geo) (sx:List Variable) (pubs:List Published) (n:Int) (Q:(List Int)→(List Int)→Bool→Prop):Prop :=
  spec_aAll ((Geo.mk g.Parents)) sx pubs n fun r14 r15 =>
  br (!r15) (Q ([]) ([]) false) <|
  idx r14 0 fun x30 =>
  idx r14 0 fun x42 =>
  spec_l1Own x30 fun r58 =>
  spec_l1Own x42 fun r73 =>
  Loop3 (fun (lo:List Int) (hi90:List Int) (x96:Int) nx =>
  br (decide (x96<(ln r14))) (idx r14 x96 fun x105 =>
  Loop3 (fun (lo121:List Int) (hi127:List Int) (x133:Int) nx144 =>
  br (decide (x133<(ln x105))) (idx x105 x133 fun x146 =>
  idx lo121 x133 fun x160 =>
  spec_l1Least x160 x146 fun r169 =>
  (0:Int)≤x133∧Int.toNat x133<List.length lo121∧(
  idx hi127 x133 fun x179 =>
  spec_l1Most x179 x146 fun r189 =>
  (0:Int)≤x133∧Int.toNat x133<List.length hi127∧(
  nx144 (List.set lo121 (Int.toNat x133) r169) (List.set hi127 (Int.toNat x133) r189) (wr (x133+1))))) <|
  nx lo121 hi127 (wr (x96+1))) lo hi90 0) <|
  Q lo hi90 true) r58 r73 0
def laws_qInts (a:List Int) (b:List Int) (Q:Bool→Prop):Prop :=
  br ((ln a)!=(ln b)) (Q false) <|
  Loop1 (fun (x:Int) nx =>
  br (decide (x<(ln a))) (idx a x fun x10 =>
  idx b x fun x17 =>
  br (x10 != x17) (Q false) <|
  nx (wr (x+1))) <|
  Q true) 0
def laws_qSum (l:List Int) (Q:Int→Prop):Prop :=
  Loop2 (fun (n:Int) (x:Int) nx =>
  br (decide (x<(ln l))) (idx l x fun x1 =>
  nx (wr (n+x1)) (wr (x+1))) <|
  Q n) 0 0
def laws_FnAttacks (code:List B8) (more:List B8) (Q:Bool→Prop):Prop :=
  br (decide ((wr ((ln code)+(ln more)))>1048576)) (Q true) <|
  spec_DrawCountSurveys code fun r7 r8 r9 r10 =>
  impl_CountSurveys ((Geo.mk r7.Parents)) r8 r9 r10 fun r38 r39 =>
  spec_CountSurveys ((Geo.mk r7.Parents)) r8 r9 r10 fun r48 r49 =>
  spec_DrawIsSafeRelease more fun r55 r56 r57 r58 r59 =>
  impl_IsSafeRelease ((Geo.mk r55.Parents)) r56 r57 r58 r59 fun r98 r99 =>
  spec_IsSafeRelease ((Geo.mk r55.Parents)) r56 r57 r58 r59 fun r109 r110 =>
  jn (fun (k:Bool→Prop)=>br (r39 != r49) (k true) <|
  br (r38 != r48) (k true) <|
  br (r99 != r110) (k true) <|
  k (r98 != r109)) <|
  fun (x149:Bool) =>
  br (x149) (Q false) <|
  jn (fun (k157:Prop)=>br (r99) (impl_CountSurveys ((Geo.mk r55.Parents)) r56 r57 r58 fun r160 r161 =>
  jn (fun (k171:Bool→Prop)=>br (r161) (k171 (r98 != (decide (r160≥r59)))) <|
  k171 false) <|
  fun (x169:Bool) =>
  br (x169) (Q false) <|
  k157) <|
  k157) <|
  br (!r39) (Q true) <|
  impl_FirstSurvey ((Geo.mk r7.Parents)) r8 r9 r10 fun r178 r179 =>
  br (r179 != (decide (r38>0))) (Q false) <|
  br (!r179) (Q true) <|
  spec_FirstSurvey ((Geo.mk r7.Parents)) r8 r9 r10 fun r199 r200 =>
  impl_Agrees ((Geo.mk r7.Parents)) r8 r9 r178 fun r214 r215 =>
  impl_TypeRanges ((Geo.mk r7.Parents)) r8 r9 r10 fun r223 r224 r225 =>
  spec_TypeRanges ((Geo.mk r7.Parents)) r8 r9 r10 fun r247 r248 r249 =>
  jn (fun (k291:Bool→Prop)=>br (!r200) (k291 true) <|
  laws_qInts r178 r199 fun r294 =>
  br (!r294) (k291 true) <|
  br (!r215) (k291 true) <|
  br (!r214) (k291 true) <|
  br (!r225) (k291 true) <|
  br (!r249) (k291 true) <|
  laws_qInts r223 r247 fun r302 =>
  br (!r302) (k291 true) <|
  laws_qInts r224 r248 fun r309 =>
  k291 (!r309)) <|
  fun (x288:Bool) =>
  br (x288) (Q false) <|
  Loop1 (fun (x318:Int) nx =>
  br (decide (x318<(ln r178))) (idx r178 x318 fun x321 =>
  jn (fun (k334:Bool→Prop)=>idx r223 x318 fun x336 =>
  br (decide (x321<x336)) (k334 true) <|
  idx r224 x318 fun x346 =>
  k334 (decide (x321>x346))) <|
  fun (x332:Bool) =>
  br (x332) (Q false) <|
  nx (wr (x318+1))) <|
  laws_qSum r178 fun r356 =>
  Q (r356==r10)) 0
end Go.Proofs.YtbgnaamdlcggjaaGreat
