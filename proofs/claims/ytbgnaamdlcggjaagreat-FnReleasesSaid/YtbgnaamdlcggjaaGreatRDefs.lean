import Derived.Test.YtbgnaamdlcggjaaGreatLib
set_option linter.unusedVariables false
set_option autoImplicit false
namespace Go.Proofs.YtbgnaamdlcggjaaGreat
open Go Go.RowKit Go.Gv
structure Geo where
  Parents:List Int
instance:Wf Geo:=⟨fun x=>Wf.wf x.Parents⟩
instance:Deep Geo:=Deep.via (fun x=>x.Parents)
structure A0 where
  Name:ByteArray
  Levels:Int
instance:Wf A0:=⟨fun x=>Wf.wf x.Name/\Wf.wf x.Levels⟩
instance:Flat A0 where
  n:=2
  agg:=true
  rd _ cs x:=cs=[.string x.Name,I x.Levels]
  enc x:=[.string x.Name,I x.Levels]
  len h:=by subst h; rfl
  le _ h:=h
  one h c hc:=by subst h; simp at hc; rcases hc with rfl | rfl <;> rfl
  sing h:=by cases h
  flat:=Iff.rfl
theorem K6{h:PH}{v:Value}{x:A0}(r:RV h v x):v = .agg #[.string x.Name,I x.Levels]:=by obtain ⟨cs,rfl,rfl⟩:=r; rfl
structure Record where
  Area:Int
  House:Int
  Values:List Int
instance:Wf Record:=⟨fun x=>Wf.wf x.Area/\Wf.wf x.House/\Wf.wf x.Values⟩
instance:Deep Record:=Deep.via (fun x=>(x.Area,x.House,x.Values))
theorem AF3{h:PH}{cs:List Value}{x:Record}(r:Enc.rd h cs x):∃ u0,cs=[I x.Area,I x.House,u0]/\RS h u0 x.Values:=by
  obtain ⟨_,_,rfl,rfl,⟨_,_,rfl,rfl,⟨u0,rfl,r0⟩⟩⟩:=r; exact ⟨_,rfl,r0⟩
theorem AK1{h:PH}{v:Value}{x:Record}(r:RV h v x):∃ u0,v = .agg #[I x.Area,I x.House,u0]/\RS h u0 x.Values:=by
  obtain ⟨cs,hr,rfl⟩:=r; obtain ⟨u0,rfl,r0⟩:=AF3 hr; exact ⟨_,rfl,r0⟩
structure Table where
  Level:Int
  Vars:List Int
  Where:List Int
  Sum:Int
instance:Wf Table:=⟨fun x=>Wf.wf x.Level/\Wf.wf x.Vars/\Wf.wf x.Where/\Wf.wf x.Sum⟩
instance:Deep Table:=Deep.via (fun x=>(x.Level,x.Vars,x.Where,x.Sum))
theorem BN4{h:PH}{cs:List Value}{x:Table}(r:Enc.rd h cs x):∃ u0 u1,cs=[I x.Level,u0,u1,I x.Sum]/\RS h u0 x.Vars/\RS h u1 x.Where:=by
  obtain ⟨_,_,rfl,rfl,⟨_,_,rfl,⟨u0,rfl,r0⟩,⟨_,_,rfl,⟨u1,rfl,r1⟩,rfl⟩⟩⟩:=r; exact ⟨_,_,rfl,r0,r1⟩
theorem CD1{h:PH}{v:Value}{x:Table}(r:RV h v x):∃ u0 u1,v = .agg #[I x.Level,u0,u1,I x.Sum]/\RS h u0 x.Vars/\RS h u1 x.Where:=by
  obtain ⟨cs,hr,rfl⟩:=r; obtain ⟨u0,u1,rfl,r0,r1⟩:=BN4 hr; exact ⟨_,_,rfl,r0,r1⟩
structure D9 where
  Code:List B8
  At:Int
  Seed:Int
structure B0 where
  Table:Table
  Cells:List Int
instance:Wf B0:=⟨fun x=>Wf.wf x.Table/\Wf.wf x.Cells⟩
instance:Deep B0:=Deep.via (fun x=>(x.Table,x.Cells))
theorem M4{h:PH}{cs:List Value}{x:B0}(r:Enc.rd h cs x):∃ u0 u1 u2,cs=[I x.Table.Level,u0,u1,I x.Table.Sum,u2]/\RS h u0 x.Table.Vars/\RS h u1 x.Table.Where/\RS h u2 x.Cells:=by
  obtain ⟨_,_,rfl,⟨_,_,rfl,rfl,⟨_,_,rfl,⟨u0,rfl,r0⟩,⟨_,_,rfl,⟨u1,rfl,r1⟩,rfl⟩⟩⟩,⟨u2,rfl,r2⟩⟩:=r; exact ⟨_,_,_,rfl,r0,r1,r2⟩
theorem AB8{h:PH}{v:Value}{x:B0}(r:RV h v x):∃ u0 u1 u2,v = .agg #[I x.Table.Level,u0,u1,I x.Table.Sum,u2]/\RS h u0 x.Table.Vars/\RS h u1 x.Table.Where/\RS h u2 x.Cells:=by
  obtain ⟨cs,hr,rfl⟩:=r; obtain ⟨u0,u1,u2,rfl,r0,r1,r2⟩:=M4 hr; exact ⟨_,_,_,rfl,r0,r1,r2⟩
theorem CE8{x:B0}{k:Int}:DF3 x {x with Table.Sum:=k} 3 [I k]:=by
  intro _ _ o
  obtain ⟨_,_,_,_,rfl,rfl,d0,p0,n0⟩:=o
  obtain ⟨_,_,_,_,rfl,rfl,d1,p1,n1⟩:=p0
  obtain ⟨rfl,rfl⟩:=AQ9 p1
  obtain ⟨_,_,_,_,rfl,rfl,d2,p2,n2⟩:=n1
  obtain ⟨u0,rfl,q0⟩:=p2
  obtain ⟨_,_,_,_,rfl,rfl,d3,p3,n3⟩:=n2
  obtain ⟨u1,rfl,q1⟩:=p3
  obtain ⟨rfl,rfl⟩:=AQ9 n3
  obtain ⟨u2,rfl,q2⟩:=n0
  exact ⟨[I x.Table.Level,u0,u1,I k],[u2],_,_,rfl,rfl,d0,⟨[I x.Table.Level],[u0,u1,I k],_,_,rfl,rfl,d1,(AR1 x.Table.Level),⟨[u0],[u1,I k],_,_,rfl,rfl,d2,⟨u0,rfl,q0⟩,⟨[u1],[I k],_,_,rfl,rfl,d3,⟨u1,rfl,q1⟩,(AR1 k)⟩⟩⟩,⟨u2,rfl,q2⟩⟩
theorem CG3{h hi rest:PH}{v:Value}{xs:List B0}{i:Nat}{c:List Value}{x:B0}(b:Bw h v xs i hi rest c x):∃ u0 u1 u2 hl rs,c=[I x.Table.Level,u0,u1,I x.Table.Sum,u2]/\BwG h v xs hl rs u2 x.Cells (fun y=>xs.set i {x with Cells:=y}):=by
  have o:=b.own
  obtain ⟨_,_,_,_,rfl,rfl,d0,p0,n0⟩:=o
  obtain ⟨_,_,_,_,rfl,rfl,d1,p1,n1⟩:=p0
  obtain ⟨rfl,rfl⟩:=AQ9 p1
  obtain ⟨_,_,_,_,rfl,rfl,d2,p2,n2⟩:=n1
  obtain ⟨u0,rfl,q0⟩:=p2
  obtain ⟨_,_,_,_,rfl,rfl,d3,p3,n3⟩:=n2
  obtain ⟨u1,rfl,q1⟩:=p3
  obtain ⟨rfl,rfl⟩:=AQ9 n3
  obtain ⟨u2,rfl,q2⟩:=n0
  exact ⟨_,_,_,_,_,rfl,b.fc (Fc.via (fun x:B0=>(x.Table,x.Cells)) (Fc.right ⟨[I x.Table.Level],[u0,u1,I x.Table.Sum],_,_,rfl,rfl,d1,(AR1 x.Table.Level),⟨[u0],[u1,I x.Table.Sum],_,_,rfl,rfl,d2,⟨u0,rfl,q0⟩,⟨[u1],[I x.Table.Sum],_,_,rfl,rfl,d3,⟨u1,rfl,q1⟩,(AR1 x.Table.Sum)⟩⟩⟩ (Fc.here q2) d0) fun _=>rfl)⟩
theorem CF5{hi:PH}{c:List Value}{x:B0}(o:Deep.own hi c x):∃ u0 u1 u2 hl rs,c=[I x.Table.Level,u0,u1,I x.Table.Sum,u2]/\Fs hi c x hl rs u2 x.Cells 4 (fun y=>{x with Cells:=y}):=by
  obtain ⟨_,_,_,_,rfl,rfl,d0,p0,n0⟩:=o
  obtain ⟨_,_,_,_,rfl,rfl,d1,p1,n1⟩:=p0
  obtain ⟨rfl,rfl⟩:=AQ9 p1
  obtain ⟨_,_,_,_,rfl,rfl,d2,p2,n2⟩:=n1
  obtain ⟨u0,rfl,q0⟩:=p2
  obtain ⟨_,_,_,_,rfl,rfl,d3,p3,n3⟩:=n2
  obtain ⟨u1,rfl,q1⟩:=p3
  obtain ⟨rfl,rfl⟩:=AQ9 n3
  obtain ⟨u2,rfl,q2⟩:=n0
  exact ⟨_,_,_,_,_,rfl,Fs.via (fun x:B0=>(x.Table,x.Cells)) (Fs.right (x1:=x.Table) (by exact ⟨[I x.Table.Level],[u0,u1,I x.Table.Sum],_,_,rfl,rfl,d1,(AR1 x.Table.Level),⟨[u0],[u1,I x.Table.Sum],_,_,rfl,rfl,d2,⟨u0,rfl,q0⟩,⟨[u1],[I x.Table.Sum],_,_,rfl,rfl,d3,⟨u1,rfl,q1⟩,(AR1 x.Table.Sum)⟩⟩⟩) (Fs.here q2) d0 rfl) fun _=>rfl⟩
structure E0 where
  Amounts:List Int
  Value:Int
instance:Wf E0:=⟨fun x=>Wf.wf x.Amounts/\Wf.wf x.Value⟩
instance:Deep E0:=Deep.via (fun x=>(x.Amounts,x.Value))
theorem T4{h:PH}{cs:List Value}{x:E0}(r:Enc.rd h cs x):∃ u0,cs=[u0,I x.Value]/\RS h u0 x.Amounts:=by
  obtain ⟨_,_,rfl,⟨u0,rfl,r0⟩,rfl⟩:=r; exact ⟨_,rfl,r0⟩
theorem W3{h:PH}{v:Value}{x:E0}(r:RV h v x):∃ u0,v = .agg #[u0,I x.Value]/\RS h u0 x.Amounts:=by
  obtain ⟨cs,hr,rfl⟩:=r; obtain ⟨u0,rfl,r0⟩:=T4 hr; exact ⟨_,rfl,r0⟩
theorem CF0{h hi rest:PH}{v:Value}{xs:List E0}{i:Nat}{c:List Value}{x:E0}(b:Bw h v xs i hi rest c x):∃ u0 hl rs,c=[u0,I x.Value]/\BwG h v xs hl rs u0 x.Amounts (fun y=>xs.set i {x with Amounts:=y}):=by
  have o:=b.own
  obtain ⟨_,_,_,_,rfl,rfl,d0,p0,n0⟩:=o
  obtain ⟨u0,rfl,q0⟩:=p0
  obtain ⟨rfl,rfl⟩:=AQ9 n0
  exact ⟨_,_,_,rfl,b.fc (Fc.via (fun x:E0=>(x.Amounts,x.Value)) (Fc.left (Fc.here q0) (AR1 x.Value) d0) fun _=>rfl)⟩
structure S3 where
  Conditions:List E0
  Counts:List Int
  Sums:List Int
structure Q9 where
  Amounts:List Int
  Sum:Int
instance:Wf Q9:=⟨fun x=>Wf.wf x.Amounts/\Wf.wf x.Sum⟩
instance:Deep Q9:=Deep.via (fun x=>(x.Amounts,x.Sum))
theorem CQ6{h:PH}{cs:List Value}{x:Q9}(r:Enc.rd h cs x):∃ u0,cs=[u0,I x.Sum]/\RS h u0 x.Amounts:=by
  obtain ⟨_,_,rfl,⟨u0,rfl,r0⟩,rfl⟩:=r; exact ⟨_,rfl,r0⟩
theorem DQ3{h:PH}{v:Value}{x:Q9}(r:RV h v x):∃ u0,v = .agg #[u0,I x.Sum]/\RS h u0 x.Amounts:=by
  obtain ⟨cs,hr,rfl⟩:=r; obtain ⟨u0,rfl,r0⟩:=CQ6 hr; exact ⟨_,rfl,r0⟩
structure AL1 where
  Rules:List Q9
  Types:Int
  Most:Int
  Out:List (List Int)
instance:Wf AL1:=⟨fun x=>Wf.wf x.Rules/\Wf.wf x.Types/\Wf.wf x.Most/\Wf.wf x.Out⟩
instance:Deep AL1:=Deep.via (fun x=>(x.Rules,x.Types,x.Most,x.Out))
def W8(c:D9)(Q:Int->Int->Int->Prop):Prop :=
  jn (fun (k:Int->Prop)=>br (decide (c.At<(ln c.Code))) (idx c.Code c.At fun x7 =>
  k (wr (x7.v))) <|
  k 0) <|
  fun (b3:Int) =>
  br (decide ((wr (c.At+1))<=(ln c.Code))) (Q b3 (wr (c.At+1)) (IntKind.u64.wrap ((IntKind.u64.wrap ((IntKind.u64.wrap (c.Seed * 6364136223846793005))+(IntKind.u64.wrap (b3))))+1442695040888963407))) <|
  Q (wr (bits .and .u64 (Int.fdiv (IntKind.u64.wrap ((IntKind.u64.wrap ((IntKind.u64.wrap (c.Seed * 6364136223846793005))+(IntKind.u64.wrap (b3))))+1442695040888963407)) (2 ^ 40)) 255)) (wr (c.At+1)) (IntKind.u64.wrap ((IntKind.u64.wrap ((IntKind.u64.wrap (c.Seed * 6364136223846793005))+(IntKind.u64.wrap (b3))))+1442695040888963407))
def C7(c:D9)(n:Int)(Q:Int->Int->Int->Prop):Prop :=
  br (decide (n<=1)) (Q 0 c.At c.Seed) <|
  W8 ((D9.mk c.Code c.At c.Seed)) fun r3 r4 r5 =>
  jn (fun (k:Int->Int->Int->Prop)=>br (decide (n>200)) (W8 ((D9.mk c.Code r4 r5)) fun r14 r15 r16 =>
  k (wr ((wr (r3 * 256))+r14)) r15 r16) <|
  k r3 r4 r5) <|
  fun (x9:Int) (atx:Int) (seed:Int) =>
  n≠0/\(
  Q (Int.tmod x9 n) atx seed)
def N4(l:List Int)(Q:(List Int)->Prop):Prop :=
  (ln (([]:List Int))+ln l) * 8<=140737488355328/\(
  Q ((([]:List Int))++l))
def AA7(c:D9)(Q:Geo->Int->Int->Prop):Prop :=
  C7 ((D9.mk c.Code c.At c.Seed)) (ln ([[(-1),0,0],[(-1),0,0,1,1,2,2],[(-1),0,0,0,1,1,2,3],[(-1),0,0,1,1],[(-1)],[(-1),0,1,2]])) fun r84 r85 r86 =>
  idx ([[(-1),0,0],[(-1),0,0,1,1,2,2],[(-1),0,0,0,1,1,2,3],[(-1),0,0,1,1],[(-1)],[(-1),0,1,2]]) r84 fun x93 =>
  N4 x93 fun r117 =>
  C7 ((D9.mk c.Code r85 r86)) 4 fun r134 r135 r136 =>
  BE7 (fun (k:Int) (atx:Int) (seed:Int) (parents:List Int) nx =>
  br (decide (k>0)) (C7 ((D9.mk c.Code atx seed)) (ln parents) fun r177 r178 r179 =>
  (ln parents+ln ([r177])) * 8<=140737488355328/\(
  nx (wr (k-1)) r178 r179 (parents++([r177])))) <|
  Q ((Geo.mk parents)) atx seed) r134 r135 r136 r117
def S7(c:D9)(Q:(List A0)->Int->Int->Prop):Prop :=
  BE7 (fun (out:List A0) (k:Int) (atx:Int) (seed:Int) nx =>
  C7 ((D9.mk c.Code atx seed)) 3 fun r21 r22 r23 =>
  br (decide (k<(wr (1+r21)))) (idx ([(ByteArray.mk #[115,101,120]),(ByteArray.mk #[97,103,101]),(ByteArray.mk #[106,111,98]),(ByteArray.mk #[104,111,109,101]),(ByteArray.mk #[115,105,122,101]),(ByteArray.mk #[108,97,110,103])]) k fun x30 =>
  C7 ((D9.mk c.Code r22 r23)) 3 fun r42 r43 r44 =>
  (ln out+ln ([(A0.mk x30 (wr (2+r42)))])) * 24<=140737488355328/\(
  nx (out++([(A0.mk x30 (wr (2+r42)))])) (wr (k+1)) r43 r44)) <|
  Q out r22 r23) ([]) 0 c.At c.Seed
def AG6(g:Geo)(i:Int)(Q:(List Int)->Prop):Prop :=
  J6 (fun (out:List Int) (x6:Int) nx =>
  br (decide (x6<(ln g.Parents))) (jn (fun (k:(List Int)->Prop)=>idx g.Parents x6 fun x25 =>
  br (x25==i) ((ln out+ln ([x6])) * 8<=140737488355328/\(
  k (out++([x6])))) <|
  k out) <|
  fun (out15:List Int) =>
  nx out15 (wr (x6+1))) <|
  Q out) ([]) 0
def Q6(g:Geo)(Q:(List Int)->Prop):Prop :=
  J6 (fun (out:List Int) (x6:Int) nx =>
  br (decide (x6<(ln g.Parents))) (jn (fun (k:(List Int)->Prop)=>AG6 ((Geo.mk g.Parents)) x6 fun r27 =>
  br ((ln r27)==0) ((ln out+ln ([x6])) * 8<=140737488355328/\(
  k (out++([x6])))) <|
  k out) <|
  fun (out17:List Int) =>
  nx out17 (wr (x6+1))) <|
  Q out) ([]) 0
def G1(c:D9)(list:List Int)(Q:Int->Int->Int->Prop):Prop :=
  C7 ((D9.mk c.Code c.At c.Seed)) (ln list) fun r10 r11 r12 =>
  idx list r10 fun x14 =>
  Q x14 r11 r12
def T3(c:D9)(sx:List A0)(Q:(List Int)->Int->Int->Prop):Prop :=
  BE7 (fun (out:List Int) (x:Int) (atx:Int) (seed:Int) nx =>
  br (decide (x<(ln sx))) (idx sx x fun x19 =>
  C7 ((D9.mk c.Code atx seed)) x19.Levels fun r34 r35 r36 =>
  (ln out+ln ([r34])) * 8<=140737488355328/\(
  nx (out++([r34])) (wr (x+1)) r35 r36)) <|
  Q out atx seed) ([]) 0 c.At c.Seed
def S6(c:D9)(sx:List A0)(areas:List Int)(Q:Record->Int->Int->Prop):Prop :=
  G1 ((D9.mk c.Code c.At c.Seed)) areas fun r19 r20 r21 =>
  C7 ((D9.mk c.Code r20 r21)) 6 fun r28 r29 r30 =>
  T3 ((D9.mk c.Code r29 r30)) sx fun r35 r36 r37 =>
  Q ((Record.mk r19 r28 r35)) r36 r37
def J3(c:D9)(n:Int)(Q:Bool->Int->Int->Prop):Prop :=
  C7 ((D9.mk c.Code c.At c.Seed)) n fun r3 r4 r5 =>
  Q (r3==0) r4 r5
def BF1(r:Record)(Q:Record->Prop):Prop :=
  N4 r.Values fun r13 =>
  Q ((Record.mk r.Area r.House r13))
def AD8(c:D9)(sx:List A0)(areas:List Int)(Q:(List Record)->Int->Int->Prop):Prop :=
  C7 ((D9.mk c.Code c.At c.Seed)) 12 fun r17 r18 r19 =>
  BE7 (fun (out:List Record) (k:Int) (atx:Int) (seed:Int) nx =>
  br (decide (k>0)) (jn (fun (k52:(List Record)->Int->Int->Prop)=>S6 ((D9.mk c.Code atx seed)) sx areas fun r53 r54 r55 =>
  (ln out+ln ([((Record.mk r53.Area r53.House r53.Values):Record)])) * 40<=140737488355328/\(
  J3 ((D9.mk c.Code r54 r55)) 4 fun r98 r99 r100 =>
  br (r98) (BF1 ((Record.mk r53.Area r53.House r53.Values)) fun r115 =>
  (ln (out++([((Record.mk r53.Area r53.House r53.Values):Record)]))+ln ([((Record.mk r115.Area r115.House r115.Values):Record)])) * 40<=140737488355328/\(
  k52 ((out++([((Record.mk r53.Area r53.House r53.Values):Record)]))++([((Record.mk r115.Area r115.House r115.Values):Record)])) r99 r100)) <|
  k52 (out++([((Record.mk r53.Area r53.House r53.Values):Record)])) r99 r100)) <|
  fun (out35:List Record) (atx41:Int) (seed42:Int) =>
  nx out35 (wr (k-1)) atx41 seed42) <|
  Q out atx seed) ([]) r17 r18 r19
def AA2(c:D9)(Q:Geo->(List A0)->(List Record)->Int->Int->Prop):Prop :=
  AA7 ((D9.mk c.Code c.At c.Seed)) fun r5 r6 r7 =>
  S7 ((D9.mk c.Code r6 r7)) fun r27 r28 r29 =>
  Q6 ((Geo.mk r5.Parents)) fun r51 =>
  AD8 ((D9.mk c.Code r28 r29)) r27 r51 fun r68 r69 r70 =>
  Q ((Geo.mk r5.Parents)) r27 r68 r69 r70
def AA1(c:D9)(Q:Geo->Int->Int->Prop):Prop :=
  AA7 ((D9.mk c.Code c.At c.Seed)) fun r5 r6 r7 =>
  jn (fun (k:Int->Int->(List Int)->Prop)=>C7 ((D9.mk c.Code r6 r7)) 24 fun r59 r60 r61 =>
  br (r59==0) ((0:Int)<=0/\Int.toNat 0<List.length r5.Parents/\(
  k r60 r61 (List.set r5.Parents (Int.toNat 0) 0))) <|
  br (r59==1) (G1 ((D9.mk c.Code r60 r61)) ([(-1),ln r5.Parents,0]) fun r103 r104 r105 =>
  (ln r5.Parents+ln ([r103])) * 8<=140737488355328/\(
  k r104 r105 (r5.Parents++([r103])))) <|
  br (r59==2) (Q ((Geo.mk ([]))) r60 r61) <|
  br (r59==3) (C7 ((D9.mk c.Code r60 r61)) 2 fun r177 r178 r179 =>
  (0:Int)<=(wr ((wr (30-(ln r5.Parents)))+r177))/\(ln r5.Parents+(wr ((wr (30-(ln r5.Parents)))+r177))) * 8<=140737488355328/\(
  k r178 r179 (r5.Parents++List.replicate (Int.toNat (wr ((wr (30-(ln r5.Parents)))+r177))) ((0:Int))))) <|
  k r60 r61 r5.Parents) <|
  fun (atx:Int) (seed:Int) (parents:List Int) =>
  Q ((Geo.mk parents)) atx seed
def AK7(c:D9)(list:List ByteArray)(Q:ByteArray->Int->Int->Prop):Prop :=
  C7 ((D9.mk c.Code c.At c.Seed)) (ln list) fun r10 r11 r12 =>
  idx list r10 fun x14 =>
  Q x14 r11 r12
def N7(c:D9)(Q:(List A0)->Int->Int->Prop):Prop :=
  S7 ((D9.mk c.Code c.At c.Seed)) fun r3 r4 r5 =>
  jn (fun (k:(List A0)->Int->Int->Prop)=>C7 ((D9.mk c.Code r4 r5)) 24 fun r30 r31 r32 =>
  br (r30==0) (G1 ((D9.mk c.Code r31 r32)) ([1,8,9]) fun r45 r46 r47 =>
  idx r3 0 fun x53 =>
  k (List.set r3 (Int.toNat 0) ({x53 with Levels:=r45}:A0)) r46 r47) <|
  br (r30==1) (AK7 ((D9.mk c.Code r31 r32)) ([(ByteArray.mk #[]),(ByteArray.mk #[65,103,101]),(ByteArray.mk #[97,98,99,100,101,102,103,104,105]),(ByteArray.mk #[97,103,101]),(ByteArray.mk #[97,98,32,99,100])]) fun r75 r76 r77 =>
  idx r3 0 fun x83 =>
  k (List.set r3 (Int.toNat 0) ({x83 with Name:=r75}:A0)) r76 r77) <|
  br (r30==2) (Q ([]) r31 r32) <|
  br (r30==3) (BC8 (fun (sx105:List A0) (atx111:Int) (seed112:Int) nx =>
  C7 ((D9.mk c.Code atx111 seed112)) 2 fun r125 r126 r127 =>
  br (decide ((ln sx105)<(wr (6+r125)))) (sln ((ByteArray.mk #[120]))+sln (b2s ([(B8.mk (IntKind.u8.wrap (wr (97+(ln sx105)))))]))<=9223372036854775807/\(
  (ln sx105+ln ([(A0.mk (((ByteArray.mk #[120]))++(b2s ([(B8.mk (IntKind.u8.wrap (wr (97+(ln sx105)))))]))) 2)])) * 24<=140737488355328/\(
  nx (sx105++([(A0.mk (((ByteArray.mk #[120]))++(b2s ([(B8.mk (IntKind.u8.wrap (wr (97+(ln sx105)))))]))) 2)])) r126 r127))) <|
  k sx105 r126 r127) r3 r31 r32) <|
  k r3 r31 r32) <|
  fun (sx:List A0) (atx:Int) (seed:Int) =>
  Q sx atx seed
def S9(c:D9)(Q:Geo->(List A0)->(List Record)->Int->Int->Prop):Prop :=
  AA2 ((D9.mk c.Code c.At c.Seed)) fun r5 r6 r7 r8 r9 =>
  jn (fun (k:(List Record)->Int->Int->Prop)=>C7 ((D9.mk c.Code r8 r9)) 20 fun r83 r84 r85 =>
  br (r83==0) (AA1 ((D9.mk c.Code r84 r85)) fun r89 r90 r91 =>
  Q ((Geo.mk r89.Parents)) r6 r7 r90 r91) <|
  br (r83==1) (N7 ((D9.mk c.Code r84 r85)) fun r130 r131 r132 =>
  Q ((Geo.mk r5.Parents)) r130 r7 r131 r132) <|
  br (r83==2) (G1 ((D9.mk c.Code r84 r85)) ([0,29,(-1)]) fun r183 r184 r185 =>
  T3 ((D9.mk c.Code r184 r185)) r6 fun r191 r192 r193 =>
  (ln r7+ln ([((Record.mk r183 0 r191):Record)])) * 40<=140737488355328/\(
  k (r7++([((Record.mk r183 0 r191):Record)])) r192 r193)) <|
  k r7 r84 r85) <|
  fun (l:List Record) (atx:Int) (seed:Int) =>
  Q ((Geo.mk r5.Parents)) r6 l atx seed
def AB9(c:D9)(sx:List A0)(Q:(List Int)->Int->Int->Prop):Prop :=
  BE7 (fun (out:List Int) (x:Int) (atx:Int) (seed:Int) nx =>
  br (decide (x<(ln sx))) (idx sx x fun x19 =>
  jn (fun (k:Int->Int->Int->Prop)=>J3 ((D9.mk c.Code atx seed)) 3 fun r50 r51 r52 =>
  br (r50) ((0:Int)<=(IntKind.u64.wrap (x19.Levels))/\(
  C7 ((D9.mk c.Code r51 r52)) (wr ((shl .i64 1 (IntKind.u64.wrap (x19.Levels)))-1)) fun r59 r60 r61 =>
  k (wr (1+r59)) r60 r61)) <|
  k 0 r51 r52) <|
  fun (setx:Int) (atx45:Int) (seed46:Int) =>
  (ln out+ln ([setx])) * 8<=140737488355328/\(
  nx (out++([setx])) (wr (x+1)) atx45 seed46)) <|
  Q out atx seed) ([]) 0 c.At c.Seed
def K2(n:Int)(lo:Int)(hi:Int)(Q:Bool->Prop):Prop :=
  jn (fun (k:Bool->Prop)=>br (decide (n>=lo)) (k (decide (n<=hi))) <|
  k false) <|
  fun (x:Bool) =>
  Q x
def AE1(g:Geo)(Q:Bool->Prop):Prop :=
  jn (fun (k:Bool->Prop)=>K2 (ln g.Parents) 1 30 fun r8 =>
  br (!r8) (k true) <|
  idx g.Parents 0 fun x12 =>
  k (x12 != ((-1)))) <|
  fun (x5:Bool) =>
  br (x5) (Q false) <|
  N5 (fun (x22:Int) nx =>
  br (decide (x22<(ln g.Parents))) (idx g.Parents x22 fun x26 =>
  jn (fun (k40:Bool->Prop)=>br (decide (x22>0)) (K2 x26 0 (wr (x22-1)) fun r43 =>
  k40 (!r43)) <|
  k40 false) <|
  fun (x37:Bool) =>
  br (x37) (Q false) <|
  nx (wr (x22+1))) <|
  Q true) 0
def AM1(g:Geo)(i:Int)(Q:Int->Prop):Prop :=
  J6 (fun (i2:Int) (n:Int) nx =>
  idx g.Parents i2 fun x4 =>
  br (decide (x4>=0)) (idx g.Parents i2 fun x11 =>
  nx x11 (wr (n+1))) <|
  Q n) i 0
def U8(g:Geo)(level:Int)(Q:(List Int)->Prop):Prop :=
  J6 (fun (out:List Int) (x6:Int) nx =>
  br (decide (x6<(ln g.Parents))) (jn (fun (k:(List Int)->Prop)=>AM1 ((Geo.mk g.Parents)) x6 fun r27 =>
  br (r27==level) ((ln out+ln ([x6])) * 8<=140737488355328/\(
  k (out++([x6])))) <|
  k out) <|
  fun (out17:List Int) =>
  nx out17 (wr (x6+1))) <|
  Q out) ([]) 0
def L9(c:D9)(g:Geo)(sx:List A0)(Q:Table->Int->Int->Prop):Prop :=
  AB9 ((D9.mk c.Code c.At c.Seed)) sx fun r24 r25 r26 =>
  BE7 (fun (x47:Int) (atx:Int) (seed:Int) (vars:List Int) nx =>
  br (decide (x47<(ln sx))) (jn (fun (k:Int->Int->(List Int)->Prop)=>J3 ((D9.mk c.Code atx seed)) 2 fun r129 r130 r131 =>
  br (r129) ((ln vars+ln ([x47])) * 8<=140737488355328/\(
  k r130 r131 (vars++([x47])))) <|
  k r130 r131 vars) <|
  fun (atx107:Int) (seed108:Int) (vars109:List Int) =>
  nx (wr (x47+1)) atx107 seed108 vars109) <|
  jn (fun (k232:Int->Int->Int->Prop)=>AE1 ((Geo.mk g.Parents)) fun r234 =>
  br (r234) (C7 ((D9.mk c.Code atx seed)) 3 fun r238 r239 r240 =>
  U8 ((Geo.mk g.Parents)) r238 fun r254 =>
  br ((ln r254)==0) (k232 r239 r240 0) <|
  k232 r239 r240 r238) <|
  k232 atx seed 0) <|
  fun (atx222:Int) (seed223:Int) (level:Int) =>
  jn (fun (k309:Int->Int->Int->Prop)=>jn (fun (k317:Bool->Int->Int->Prop)=>J3 ((D9.mk c.Code atx222 seed223)) 3 fun r319 r320 r321 =>
  br (r319) (k317 (decide ((ln sx)>0)) r320 r321) <|
  k317 false r320 r321) <|
  fun (x311:Bool) (atx312:Int) (seed313:Int) =>
  br (x311) (C7 ((D9.mk c.Code atx312 seed313)) (ln sx) fun r329 r330 r331 =>
  k309 r330 r331 r329) <|
  k309 atx312 seed313 ((-1))) <|
  fun (atx299:Int) (seed300:Int) (sum:Int) =>
  Q ((Table.mk level vars r24 sum)) atx299 seed300) 0 r25 r26 ([])
def T9(c:D9)(g:Geo)(sx:List A0)(Q:Table->Int->Int->Prop):Prop :=
  L9 ((D9.mk c.Code c.At c.Seed)) ((Geo.mk g.Parents)) sx fun r25 r26 r27 =>
  jn (fun (k:Int->Int->Int->(List Int)->(List Int)->Int->Prop)=>C7 ((D9.mk c.Code r26 r27)) 24 fun r107 r108 r109 =>
  br (r107==0) (G1 ((D9.mk c.Code r108 r109)) ([(-1),3,4]) fun r123 r124 r125 =>
  k r124 r125 r123 r25.Vars r25.Where r25.Sum) <|
  br (r107==1) (G1 ((D9.mk c.Code r108 r109)) ([(-1),0,6]) fun r169 r170 r171 =>
  (ln r25.Vars+ln ([r169])) * 8<=140737488355328/\(
  k r170 r171 r25.Level (r25.Vars++([r169])) r25.Where r25.Sum)) <|
  br (r107==2) ((ln r25.Where+ln ([0])) * 8<=140737488355328/\(
  k r108 r109 r25.Level r25.Vars (r25.Where++([0])) r25.Sum)) <|
  br (r107==3) (G1 ((D9.mk c.Code r108 r109)) ([(-2),3,6]) fun r286 r287 r288 =>
  k r287 r288 r25.Level r25.Vars r25.Where r286) <|
  br (r107==4) (br (decide ((ln r25.Where)>0)) (G1 ((D9.mk c.Code r108 r109)) ([(-1),255,256]) fun r334 r335 r336 =>
  (0:Int)<=0/\Int.toNat 0<List.length r25.Where/\(
  k r335 r336 r25.Level r25.Vars (List.set r25.Where (Int.toNat 0) r334) r25.Sum)) <|
  k r108 r109 r25.Level r25.Vars r25.Where r25.Sum) <|
  k r108 r109 r25.Level r25.Vars r25.Where r25.Sum) <|
  fun (atx:Int) (seed:Int) (level:Int) (vars:List Int) (wherex:List Int) (sum:Int) =>
  Q ((Table.mk level vars wherex sum)) atx seed
def Q4(code:List B8)(Q:Geo->(List A0)->(List Record)->(List Table)->Prop):Prop :=
  S9 ((D9.mk code 0 0)) fun r8 r9 r10 r11 r12 =>
  C7 ((D9.mk code r11 r12)) 4 fun r50 r51 r52 =>
  BE7 (fun (tables:List Table) (k:Int) (atx:Int) (seed:Int) nx =>
  br (decide (k>0)) (L9 ((D9.mk code atx seed)) ((Geo.mk r8.Parents)) r9 fun r76 r77 r78 =>
  (ln tables+ln ([((Table.mk r76.Level r76.Vars r76.Where r76.Sum):Table)])) * 64<=140737488355328/\(
  nx (tables++([((Table.mk r76.Level r76.Vars r76.Where r76.Sum):Table)])) (wr (k-1)) r77 r78)) <|
  jn (fun (k177:(List Table)->Prop)=>J3 ((D9.mk code atx seed)) 12 fun r179 r180 r181 =>
  br (r179) (T9 ((D9.mk code r180 r181)) ((Geo.mk r8.Parents)) r9 fun r189 r190 r191 =>
  (ln tables+ln ([((Table.mk r189.Level r189.Vars r189.Where r189.Sum):Table)])) * 64<=140737488355328/\(
  k177 (tables++([((Table.mk r189.Level r189.Vars r189.Where r189.Sum):Table)])))) <|
  k177 tables) <|
  fun (tables166:List Table) =>
  Q ((Geo.mk r8.Parents)) r9 r10 tables166) ([]) r50 r51 r52
def AR4(g:Geo)(Q:Bool->Prop):Prop :=
  jn (fun (k:Bool->Prop)=>br (decide ((ln g.Parents)<1)) (k true) <|
  br (decide ((ln g.Parents)>30)) (k true) <|
  idx g.Parents 0 fun x8 =>
  k (x8 != ((-1)))) <|
  fun (x5:Bool) =>
  br (x5) (Q false) <|
  N5 (fun (i:Int) nx =>
  br (decide (i<(ln g.Parents))) (jn (fun (k19:Bool->Prop)=>idx g.Parents i fun x21 =>
  br (decide (x21<0)) (k19 true) <|
  idx g.Parents i fun x31 =>
  k19 (decide (x31>=i))) <|
  fun (x17:Bool) =>
  br (x17) (Q false) <|
  nx (wr (i+1))) <|
  Q true) 1
def AT7(sx:ByteArray)(Q:Bool->Prop):Prop :=
  jn (fun (k:Bool->Prop)=>br (decide ((sln sx)<1)) (k true) <|
  k (decide ((sln sx)>8))) <|
  fun (x:Bool) =>
  br (x) (Q false) <|
  N5 (fun (x2:Int) nx =>
  br (decide (x2<(sln sx))) (jn (fun (k7:Bool->Prop)=>DQ1 sx x2 fun c =>
  br (decide ((c)<97)) (k7 true) <|
  DQ1 sx x2 fun c10 =>
  k7 (decide ((c10)>122))) <|
  fun (x5:Bool) =>
  br (x5) (Q false) <|
  nx (wr (x2+1))) <|
  Q true) 0
def AD0(sx:List A0)(Q:Bool->Prop):Prop :=
  jn (fun (k:Bool->Prop)=>br (decide ((ln sx)<1)) (k true) <|
  k (decide ((ln sx)>6))) <|
  fun (x:Bool) =>
  br (x) (Q false) <|
  N5 (fun (x2:Int) nx =>
  br (decide (x2<(ln sx))) (idx sx x2 fun x6 =>
  jn (fun (k25:Bool->Prop)=>AT7 x6.Name fun r27 =>
  br (!r27) (k25 true) <|
  br (decide (x6.Levels<2)) (k25 true) <|
  k25 (decide (x6.Levels>8))) <|
  fun (x22:Bool) =>
  br (x22) (Q false) <|
  (0:Int)<=0/\0<=x2/\x2<=ln sx/\(
  N5 (fun (x39:Int) nx45 =>
  br (decide (x39<(ln (List.take (Int.toNat x2-Int.toNat 0) (List.drop (Int.toNat 0) sx))))) (idx (List.take (Int.toNat x2-Int.toNat 0) (List.drop (Int.toNat 0) sx)) x39 fun x47 =>
  br (BT3 x47.Name x6.Name) (Q false) <|
  nx45 (wr (x39+1))) <|
  nx (wr (x2+1))) 0)) <|
  Q true) 0
def AN8(sx:List A0)(vars:List Int)(Q:Bool->Prop):Prop :=
  J6 (fun (last:Int) (x:Int) nx =>
  br (decide (x<(ln vars))) (idx vars x fun x7 =>
  jn (fun (k:Bool->Prop)=>br (decide (x7<=last)) (k true) <|
  k (decide (x7>=(ln sx)))) <|
  fun (x13:Bool) =>
  br (x13) (Q false) <|
  nx x7 (wr (x+1))) <|
  Q true) ((-1)) 0
def AP6(vx:A0)(Q:Int->Prop):Prop :=
  (0:Int)<=vx.Levels/\(
  Q (wr ((shl .i64 1 vx.Levels)-1)))
def AN9(sx:List A0)(wherex:List Int)(Q:Bool->Prop):Prop :=
  br ((ln wherex)!=(ln sx)) (Q false) <|
  N5 (fun (x:Int) nx =>
  br (decide (x<(ln wherex))) (idx wherex x fun x9 =>
  jn (fun (k:Bool->Prop)=>br (decide (x9<0)) (k true) <|
  idx sx x fun x22 =>
  AP6 x22 fun r31 =>
  k (decide (x9>r31))) <|
  fun (x18:Bool) =>
  br (x18) (Q false) <|
  nx (wr (x+1))) <|
  Q true) 0
def AF7(g:Geo)(i:Int)(Q:Int->Prop):Prop :=
  J6 (fun (i2:Int) (d:Int) nx =>
  br (decide (i2>0)) (idx g.Parents i2 fun x4 =>
  nx x4 (wr (d+1))) <|
  Q d) i 0
def AH6(g:Geo)(level:Int)(Q:(List Int)->Prop):Prop :=
  J6 (fun (list:List Int) (x6:Int) nx =>
  br (decide (x6<(ln g.Parents))) (jn (fun (k:(List Int)->Prop)=>AF7 ((Geo.mk g.Parents)) x6 fun r27 =>
  br (r27==level) ((ln list+ln ([x6])) * 8<=140737488355328/\(
  k (list++([x6])))) <|
  k list) <|
  fun (list17:List Int) =>
  nx list17 (wr (x6+1))) <|
  Q list) ([]) 0
def AG2(sx:List A0)(t:Table)(Q:(List A0)->Prop):Prop :=
  (0:Int)<=(ln t.Vars)/\24 * (ln t.Vars)<=140737488355328/\(
  J6 (fun (out:List A0) (x28:Int) nx =>
  br (decide (x28<(ln t.Vars))) (idx t.Vars x28 fun x31 =>
  idx sx x31 fun x39 =>
  (0:Int)<=x28/\Int.toNat x28<List.length out/\(
  nx (List.set out (Int.toNat x28) x39) (wr (x28+1)))) <|
  Q out) (List.replicate (Int.toNat (ln t.Vars)) ((A0.mk ((ByteArray.mk #[])) ((0:Int))))) 0)
def K9(sx:List A0)(Q:Int->Prop):Prop :=
  J6 (fun (n:Int) (x:Int) nx =>
  br (decide (x<(ln sx))) (idx sx x fun x2 =>
  nx (wr (n * x2.Levels)) (wr (x+1))) <|
  Q n) 1 0
def U4(g:Geo)(sx:List A0)(t:Table)(Q:Int->Prop):Prop :=
  AH6 ((Geo.mk g.Parents)) t.Level fun r31 =>
  AG2 sx ((Table.mk t.Level t.Vars t.Where t.Sum)) fun r46 =>
  AS2 (K9 r46) fun r60 =>
  Q (wr ((ln r31) * r60))
def AH1(g:Geo)(sx:List A0)(t:Table)(Q:Bool->Prop):Prop :=
  jn (fun (k:Bool->Prop)=>AN8 sx t.Vars fun r37 =>
  br (!r37) (k true) <|
  AN9 sx t.Where fun r41 =>
  br (!r41) (k true) <|
  br (decide (t.Sum<((-1)))) (k true) <|
  k (decide (t.Sum>=(ln sx)))) <|
  fun (x34:Bool) =>
  br (x34) (Q false) <|
  U4 ((Geo.mk g.Parents)) sx ((Table.mk t.Level t.Vars t.Where t.Sum)) fun r56 =>
  jn (fun (k67:Bool->Prop)=>br (decide (r56>0)) (k67 (decide (r56<=600))) <|
  k67 false) <|
  fun (x65:Bool) =>
  Q x65
def BE1(g:Geo)(sx:List A0)(l:List Table)(Q:Bool->Prop):Prop :=
  jn (fun (k:Bool->Prop)=>AR4 ((Geo.mk g.Parents)) fun r22 =>
  br (!r22) (k true) <|
  AD0 sx fun r25 =>
  br (!r25) (k true) <|
  k (decide ((ln l)>20))) <|
  fun (x19:Bool) =>
  br (x19) (Q false) <|
  N5 (fun (x33:Int) nx =>
  br (decide (x33<(ln l))) (idx l x33 fun x37 =>
  AH1 ((Geo.mk g.Parents)) sx ((Table.mk x37.Level x37.Vars x37.Where x37.Sum)) fun r71 =>
  br (!r71) (Q false) <|
  nx (wr (x33+1))) <|
  Q true) 0
def AG8(g:Geo)(sx:List A0)(l:List Table)(Q:Bool->Prop):Prop :=
  jn (fun (k:Bool->Prop)=>br (decide ((ln l)<=20)) (BE1 ((Geo.mk g.Parents)) sx l fun r22 =>
  k r22) <|
  k false) <|
  fun (x19:Bool) =>
  Q x19
def AF8(sx:List A0)(values:List Int)(Q:Bool->Prop):Prop :=
  br ((ln values)!=(ln sx)) (Q false) <|
  N5 (fun (x:Int) nx =>
  br (decide (x<(ln values))) (idx values x fun x8 =>
  jn (fun (k:Bool->Prop)=>br (decide (x8<0)) (k true) <|
  idx sx x fun x17 =>
  k (decide (x8>=x17.Levels))) <|
  fun (x14:Bool) =>
  br (x14) (Q false) <|
  nx (wr (x+1))) <|
  Q true) 0
def AL2(sx:List A0)(r1:Record)(Q:Bool->Prop):Prop :=
  jn (fun (k:Bool->Prop)=>br (decide (r1.Area>=0)) (br (decide (r1.Area<=29)) (br (decide (r1.House>=0)) (br (decide (r1.House<=999)) (AF8 sx r1.Values fun r19 =>
  k r19) <|
  k false) <|
  k false) <|
  k false) <|
  k false) <|
  fun (x13:Bool) =>
  Q x13
def AT4(sx:List A0)(l:List Record)(Q:Bool->Prop):Prop :=
  br (decide ((ln l)>40)) (Q false) <|
  N5 (fun (x:Int) nx =>
  br (decide (x<(ln l))) (idx l x fun x9 =>
  AL2 sx ((Record.mk x9.Area x9.House x9.Values)) fun r29 =>
  br (!r29) (Q false) <|
  nx (wr (x+1))) <|
  Q true) 0
def AT6(g:Geo)(i:Int)(Q:Bool->Prop):Prop :=
  jn (fun (k:Bool->Prop)=>br (decide (i>=0)) (k (decide (i<(ln g.Parents)))) <|
  k false) <|
  fun (x5:Bool) =>
  Q x5
def AB4(sx:List Int)(vx1:Int)(Q:Int->Prop):Prop :=
  N5 (fun (x:Int) nx =>
  br (decide (x<(ln sx))) (idx sx x fun x2 =>
  br (vx1==x2) (Q x) <|
  nx (wr (x+1))) <|
  Q ((-1))) 0
def P9(sx:List Int)(vx1:Int)(Q:Bool->Prop):Prop :=
  AB4 sx vx1 fun r2 =>
  Q (decide (r2>=0))
def AM5(g:Geo)(i:Int)(Q:Bool->Prop):Prop :=
  P9 g.Parents i fun r2 =>
  Q (!r2)
def AC9(g:Geo)(sx:List A0)(l:List Record)(Q:Bool->Prop):Prop :=
  AT4 sx l fun r14 =>
  br (!r14) (Q false) <|
  N5 (fun (x20:Int) nx =>
  br (decide (x20<(ln l))) (idx l x20 fun x24 =>
  jn (fun (k:Bool->Prop)=>AT6 ((Geo.mk g.Parents)) x24.Area fun r64 =>
  br (!r64) (k true) <|
  AM5 ((Geo.mk g.Parents)) x24.Area fun r70 =>
  k (!r70)) <|
  fun (x61:Bool) =>
  br (x61) (Q false) <|
  nx (wr (x20+1))) <|
  Q true) 0
def P2(sx:List Int)(Q:(List Int)->Prop):Prop :=
  FB6 sx fun z =>
  br (z) (Q ([])) <|
  (ln (([]:List Int))+ln sx) * 8<=140737488355328/\(
  Q ((([]:List Int))++sx))
def AF9(t:Table)(Q:Table->Prop):Prop :=
  P2 t.Vars fun r18 =>
  P2 t.Where fun r33 =>
  Q ((Table.mk t.Level r18 r33 t.Sum))
def AD7(g:Geo)(i:Int)(level:Int)(Q:Int->Prop):Prop :=
  AF7 ((Geo.mk g.Parents)) i fun r2 =>
  jn (fun (k:Bool->Prop)=>br (decide (level<0)) (k true) <|
  k (decide (r2<level))) <|
  fun (x10:Bool) =>
  br (x10) (Q ((-1))) <|
  J6 (fun (i13:Int) (d:Int) nx =>
  br (decide (d>level)) (idx g.Parents i13 fun x16 =>
  nx x16 (wr (d-1))) <|
  Q i13) i r2
def AD9(t:Table)(r7:Record)(Q:Bool->Prop):Prop :=
  N5 (fun (x21:Int) nx =>
  br (decide (x21<(ln t.Where))) (idx t.Where x21 fun x23 =>
  jn (fun (k:Bool->Prop)=>br (x23 != 0) (idx r7.Values x21 fun x37 =>
  (0:Int)<=x37/\(
  k ((bits .and .i64 (shr .i64 x23 x37) 1)==0))) <|
  k false) <|
  fun (x34:Bool) =>
  br (x34) (Q false) <|
  nx (wr (x21+1))) <|
  Q true) 0
def AK5(x:Int)(Q:Bool->Prop):Prop :=
  Q (x != x)
def AQ1(x:Int)(y:Int)(Q:Bool->Prop):Prop :=
  jn (fun (k:Bool->Prop)=>AK5 x fun r =>
  br (r) (AK5 y fun r5 =>
  br (!r5) (k true) <|
  k (decide (x<y))) <|
  k (decide (x<y))) <|
  fun (x1:Bool) =>
  Q x1
def AJ3(x:Int)(Q:Bool->Prop):Prop :=
  Q (x != x)
def M0(x:List Int)(target:Int)(Q:Int->Bool->Prop):Prop :=
  J6 (fun (i:Int) (j:Int) nx =>
  br (decide (i<j)) (idx x (wr (Int.fdiv (IntKind.u64.wrap (wr (i+j))) (2 ^ 1))) fun x2 =>
  AQ1 x2 target fun r9 =>
  br (r9) (nx (wr ((wr (Int.fdiv (IntKind.u64.wrap (wr (i+j))) (2 ^ 1)))+1)) j) <|
  nx i (wr (Int.fdiv (IntKind.u64.wrap (wr (i+j))) (2 ^ 1)))) <|
  jn (fun (k:Int->Bool->Prop)=>br (decide (i<(ln x))) (idx x i fun x21 =>
  br (x21==target) (k i true) <|
  idx x i fun x31 =>
  AJ3 x31 fun r40 =>
  br (r40) (AJ3 target fun r44 =>
  k i r44) <|
  k i false) <|
  k i false) <|
  fun (x16:Int) (x17:Bool) =>
  Q x16 x17) 0 (ln x)
def R8(sx:List A0)(values:List Int)(Q:Int->Prop):Prop :=
  J6 (fun (i:Int) (x:Int) nx =>
  br (decide (x<(ln values))) (idx values x fun x7 =>
  idx sx x fun x13 =>
  nx (wr ((wr (i * x13.Levels))+x7)) (wr (x+1))) <|
  Q i) 0 0
def AS0(g:Geo)(sx:List A0)(t:Table)(area:Int)(values:List Int)(Q:Int->Prop):Prop :=
  AH6 ((Geo.mk g.Parents)) t.Level fun r32 =>
  M0 r32 area fun r42 r43 =>
  br (!r43) (Q ((-1))) <|
  AG2 sx ((Table.mk t.Level t.Vars t.Where t.Sum)) fun r50 =>
  K9 r50 fun r64 =>
  R8 r50 values fun r67 =>
  Q (wr ((wr (r42 * r64))+r67))
def P4(g:Geo)(sx:List A0)(t:Table)(r19:Record)(Q:Int->Int->Prop):Prop :=
  AD7 ((Geo.mk g.Parents)) r19.Area t.Level fun r39 =>
  jn (fun (k:Bool->Prop)=>br (decide (r39<0)) (k true) <|
  AD9 ((Table.mk t.Level t.Vars t.Where t.Sum)) ((Record.mk r19.Area r19.House r19.Values)) fun r62 =>
  k (!r62)) <|
  fun (x59:Bool) =>
  br (x59) (Q ((-1)) 0) <|
  (0:Int)<=(ln t.Vars)/\8 * (ln t.Vars)<=140737488355328/\(
  J6 (fun (values:List Int) (x82:Int) nx =>
  br (decide (x82<(ln t.Vars))) (idx t.Vars x82 fun x86 =>
  idx r19.Values x86 fun x98 =>
  (0:Int)<=x82/\Int.toNat x82<List.length values/\(
  nx (List.set values (Int.toNat x82) x98) (wr (x82+1)))) <|
  jn (fun (k147:Int->Prop)=>br (decide (t.Sum>=0)) (idx r19.Values t.Sum fun x150 =>
  k147 x150) <|
  k147 1) <|
  fun (amount:Int) =>
  AS0 ((Geo.mk g.Parents)) sx ((Table.mk t.Level t.Vars t.Where t.Sum)) r39 values fun r159 =>
  Q r159 amount) (List.replicate (Int.toNat (ln t.Vars)) ((0:Int))) 0)
def AP2(g:Geo)(sx:List A0)(t:Table)(l:List Record)(Q:(List Int)->Prop):Prop :=
  U4 ((Geo.mk g.Parents)) sx ((Table.mk t.Level t.Vars t.Where t.Sum)) fun r32 =>
  (0:Int)<=r32/\8 * r32<=140737488355328/\(
  J6 (fun (cells:List Int) (x52:Int) nx =>
  br (decide (x52<(ln l))) (jn (fun (k:(List Int)->Prop)=>idx l x52 fun x94 =>
  P4 ((Geo.mk g.Parents)) sx ((Table.mk t.Level t.Vars t.Where t.Sum)) ((Record.mk x94.Area x94.House x94.Values)) fun r119 r120 =>
  br (decide (r119>=0)) (idx cells r119 fun x134 =>
  (0:Int)<=r119/\Int.toNat r119<List.length cells/\(
  k (List.set cells (Int.toNat r119) (wr (x134+r120))))) <|
  k cells) <|
  fun (cells86:List Int) =>
  nx cells86 (wr (x52+1))) <|
  Q cells) (List.replicate (Int.toNat r32) ((0:Int))) 0)
def AE5(g:Geo)(sx:List A0)(l:List Record)(tables:List Table)(Q:(List B0)->Prop):Prop :=
  (0:Int)<=(ln tables)/\88 * (ln tables)<=140737488355328/\(
  J6 (fun (out:List B0) (x33:Int) nx =>
  br (decide (x33<(ln tables))) (idx tables x33 fun x36 =>
  AF9 ((Table.mk x36.Level x36.Vars x36.Where x36.Sum)) fun r76 =>
  AP2 ((Geo.mk g.Parents)) sx ((Table.mk x36.Level x36.Vars x36.Where x36.Sum)) l fun r102 =>
  (0:Int)<=x33/\Int.toNat x33<List.length out/\(
  nx (List.set out (Int.toNat x33) (((B0.mk ((Table.mk r76.Level r76.Vars r76.Where r76.Sum)) r102):B0))) (wr (x33+1)))) <|
  Q out) (List.replicate (Int.toNat (ln tables)) ((B0.mk ((Table.mk ((0:Int)) (([]:List Int)) (([]:List Int)) ((0:Int)))) (([]:List Int))))) 0)
def W0(g:Geo)(sx:List A0)(l:List Record)(tables:List Table)(Q:(List B0)->Bool->Prop):Prop :=
  jn (fun (k:Bool->Prop)=>AG8 ((Geo.mk g.Parents)) sx tables fun r29 =>
  br (!r29) (k true) <|
  AC9 ((Geo.mk g.Parents)) sx l fun r33 =>
  k (!r33)) <|
  fun (x26:Bool) =>
  br (x26) (Q ([]) false) <|
  AE5 ((Geo.mk g.Parents)) sx l tables fun r42 =>
  Q r42 true
def BB0(sx:ByteArray)(Q:Bool->Prop):Prop :=
  N5 (fun (i:Int) nx =>
  br (decide (i<(sln sx))) (jn (fun (k:Bool->Prop)=>DQ1 sx i fun c =>
  br (decide ((c)<97)) (k true) <|
  DQ1 sx i fun c3 =>
  k (decide ((c3)>122))) <|
  fun (x:Bool) =>
  br (x) (Q false) <|
  nx (wr (i+1))) <|
  K2 (sln sx) 1 8 fun r =>
  Q r) 0
def BA2(sx:List A0)(name:ByteArray)(Q:Int->Prop):Prop :=
  N5 (fun (x:Int) nx =>
  br (decide (x<(ln sx))) (idx sx x fun x2 =>
  br (BT3 x2.Name name) (Q x) <|
  nx (wr (x+1))) <|
  Q ((-1))) 0
def AJ8(sx:List A0)(Q:Bool->Prop):Prop :=
  K2 (ln sx) 1 6 fun r1 =>
  br (!r1) (Q false) <|
  N5 (fun (x3:Int) nx =>
  br (decide (x3<(ln sx))) (idx sx x3 fun x7 =>
  jn (fun (k:Bool->Prop)=>AS2 (BB0 x7.Name) fun r27 =>
  br (!r27) (k true) <|
  AS2 (K2 x7.Levels 2 8) fun r33 =>
  br (!r33) (k true) <|
  (0:Int)<=0/\0<=x3/\x3<=ln sx/\(
  AS2 (BA2 (List.take (Int.toNat x3-Int.toNat 0) (List.drop (Int.toNat 0) sx)) x7.Name) fun r44 =>
  k (decide (r44>=0)))) <|
  fun (x24:Bool) =>
  br (x24) (Q false) <|
  nx (wr (x3+1))) <|
  Q true) 0
def BA0(sx:List A0)(values:List Int)(Q:Bool->Prop):Prop :=
  br ((ln values)!=(ln sx)) (Q false) <|
  N5 (fun (x:Int) nx =>
  br (decide (x<(ln sx))) (idx sx x fun x9 =>
  idx values x fun x21 =>
  AS2 (K2 x21 0 (wr (x9.Levels-1))) fun r32 =>
  br (!r32) (Q false) <|
  nx (wr (x+1))) <|
  Q true) 0
def BB6(sx:List A0)(r1:Record)(Q:Bool->Prop):Prop :=
  jn (fun (k:Bool->Prop)=>K2 r1.Area 0 29 fun r16 =>
  br (r16) (K2 r1.House 0 999 fun r20 =>
  br (r20) (BA0 sx r1.Values fun r25 =>
  k r25) <|
  k false) <|
  k false) <|
  fun (x13:Bool) =>
  Q x13
def BB4(sx:List A0)(l:List Record)(Q:Bool->Prop):Prop :=
  N5 (fun (x:Int) nx =>
  br (decide (x<(ln l))) (idx l x fun x8 =>
  BB6 sx ((Record.mk x8.Area x8.House x8.Values)) fun r28 =>
  br (!r28) (Q false) <|
  nx (wr (x+1))) <|
  Q (decide ((ln l)<=40))) 0
def AS9(sx:List A0)(l:List Record)(Q:Bool->Prop):Prop :=
  jn (fun (k:Bool->Prop)=>AJ8 sx fun r8 =>
  br (r8) (BB4 sx l fun r11 =>
  k r11) <|
  k false) <|
  fun (x:Bool) =>
  Q x
def BA5(l:List Int)(n:Int)(Q:Bool->Prop):Prop :=
  N5 (fun (x:Int) nx =>
  br (decide (x<(ln l))) (idx l x fun x1 =>
  br (x1==n) (Q true) <|
  nx (wr (x+1))) <|
  Q false) 0
def AP4(g:Geo)(sx:List A0)(l:List Record)(Q:Bool->Prop):Prop :=
  jn (fun (k:Bool->Prop)=>AE1 ((Geo.mk g.Parents)) fun r22 =>
  br (!r22) (k true) <|
  AS9 sx l fun r25 =>
  k (!r25)) <|
  fun (x19:Bool) =>
  br (x19) (Q false) <|
  Q6 ((Geo.mk g.Parents)) fun r33 =>
  N5 (fun (x43:Int) nx =>
  br (decide (x43<(ln l))) (idx l x43 fun x47 =>
  BA5 r33 x47.Area fun r70 =>
  br (!r70) (Q false) <|
  nx (wr (x43+1))) <|
  Q true) 0
def AK9(l:List Int)(lo:Int)(hi:Int)(Q:Bool->Prop):Prop :=
  N5 (fun (x:Int) nx =>
  br (decide (x<(ln l))) (idx l x fun x2 =>
  jn (fun (k:Bool->Prop)=>K2 x2 lo hi fun r14 =>
  br (!r14) (k true) <|
  br (decide (x>0)) (idx l (wr (x-1)) fun x19 =>
  k (decide (x19>=x2))) <|
  k false) <|
  fun (x11:Bool) =>
  br (x11) (Q false) <|
  nx (wr (x+1))) <|
  Q true) 0
def AU2(sx:List A0)(wherex:List Int)(Q:Bool->Prop):Prop :=
  br ((ln wherex)!=(ln sx)) (Q false) <|
  N5 (fun (x:Int) nx =>
  br (decide (x<(ln sx))) (idx sx x fun x9 =>
  idx wherex x fun x21 =>
  (0:Int)<=(IntKind.u64.wrap (x9.Levels))/\(
  AS2 (K2 x21 0 (wr ((shl .i64 1 (IntKind.u64.wrap (x9.Levels)))-1))) fun r32 =>
  br (!r32) (Q false) <|
  nx (wr (x+1)))) <|
  Q true) 0
def AR5(sx:List A0)(vars:List Int)(Q:(List A0)->Prop):Prop :=
  J6 (fun (out:List A0) (x:Int) nx =>
  br (decide (x<(ln vars))) (idx vars x fun x13 =>
  idx sx x13 fun x20 =>
  (ln out+ln ([x20])) * 24<=140737488355328/\(
  nx (out++([x20])) (wr (x+1)))) <|
  Q out) ([]) 0
def T7(sx:List A0)(Q:Int->Prop):Prop :=
  J6 (fun (n:Int) (x:Int) nx =>
  br (decide (x<(ln sx))) (idx sx x fun x2 =>
  nx (wr (n * x2.Levels)) (wr (x+1))) <|
  Q n) 1 0
def AF5(g:Geo)(sx:List A0)(t:Table)(Q:Int->Prop):Prop :=
  U8 ((Geo.mk g.Parents)) t.Level fun r31 =>
  AR5 sx t.Vars fun r46 =>
  AS2 (T7 r46) fun r59 =>
  Q (wr ((ln r31) * r59))
def AR6(g:Geo)(sx:List A0)(t:Table)(Q:Bool->Prop):Prop :=
  jn (fun (k:Bool->Prop)=>AE1 ((Geo.mk g.Parents)) fun r37 =>
  br (!r37) (k true) <|
  AJ8 sx fun r40 =>
  br (!r40) (k true) <|
  U8 ((Geo.mk g.Parents)) t.Level fun r49 =>
  br ((ln r49)==0) (k true) <|
  AK9 t.Vars 0 (wr ((ln sx)-1)) fun r62 =>
  br (!r62) (k true) <|
  AU2 sx t.Where fun r70 =>
  br (!r70) (k true) <|
  K2 t.Sum ((-1)) (wr ((ln sx)-1)) fun r80 =>
  k (!r80)) <|
  fun (x34:Bool) =>
  br (x34) (Q false) <|
  AF5 ((Geo.mk g.Parents)) sx ((Table.mk t.Level t.Vars t.Where t.Sum)) fun r88 =>
  Q (decide (r88<=600))
def BM6(g:Geo)(i:Int)(level:Int)(Q:Int->Prop):Prop :=
  AM1 ((Geo.mk g.Parents)) i fun r2 =>
  br (decide (level<0)) (Q ((-1))) <|
  J6 (fun (i7:Int) (d:Int) nx =>
  br (decide (d>level)) (idx g.Parents i7 fun x11 =>
  nx x11 (wr (d-1))) <|
  br (decide (d<level)) (Q ((-1))) <|
  Q i7) i r2
def AU0(t:Table)(values:List Int)(Q:Bool->Prop):Prop :=
  N5 (fun (x14:Int) nx =>
  br (decide (x14<(ln t.Where))) (idx t.Where x14 fun x16 =>
  jn (fun (k:Bool->Prop)=>br (x16 != 0) (idx values x14 fun x28 =>
  (0:Int)<=(IntKind.u64.wrap (x28))/\(
  k ((bits .and .i64 (shr .i64 x16 (IntKind.u64.wrap (x28))) 1)==0))) <|
  k false) <|
  fun (x25:Bool) =>
  br (x25) (Q false) <|
  nx (wr (x14+1))) <|
  Q true) 0
def AS7(l:List Int)(n:Int)(Q:Int->Prop):Prop :=
  N5 (fun (x:Int) nx =>
  br (decide (x<(ln l))) (idx l x fun x1 =>
  br (x1==n) (Q x) <|
  nx (wr (x+1))) <|
  Q ((-1))) 0
def BA3(values:List Int)(vars:List Int)(Q:(List Int)->Prop):Prop :=
  J6 (fun (out:List Int) (x:Int) nx =>
  br (decide (x<(ln vars))) (idx vars x fun x13 =>
  idx values x13 fun x20 =>
  (ln out+ln ([x20])) * 8<=140737488355328/\(
  nx (out++([x20])) (wr (x+1)))) <|
  Q out) ([]) 0
def AS6(sx:List A0)(values:List Int)(Q:Int->Prop):Prop :=
  J6 (fun (n:Int) (x:Int) nx =>
  br (decide (x<(ln sx))) (idx sx x fun x8 =>
  idx values x fun x20 =>
  nx (wr ((wr (n * x8.Levels))+x20)) (wr (x+1))) <|
  Q n) 0 0
def AK0(g:Geo)(sx:List A0)(t:Table)(r19:Record)(Q:Int->Int->Prop):Prop :=
  BM6 ((Geo.mk g.Parents)) r19.Area t.Level fun r39 =>
  jn (fun (k:Bool->Prop)=>br (decide (r39<0)) (k true) <|
  AU0 ((Table.mk t.Level t.Vars t.Where t.Sum)) r19.Values fun r62 =>
  k (!r62)) <|
  fun (x59:Bool) =>
  br (x59) (Q ((-1)) 0) <|
  AR5 sx t.Vars fun r68 =>
  U8 ((Geo.mk g.Parents)) t.Level fun r88 =>
  AS2 (AS7 r88 r39) fun r103 =>
  AS2 (T7 r68) fun r104 =>
  BA3 r19.Values t.Vars fun r110 =>
  AS2 (AS6 r68 r110) fun r124 =>
  br (decide (t.Sum<0)) (Q (wr ((wr (r103 * r104))+r124)) 1) <|
  idx r19.Values t.Sum fun x136 =>
  Q (wr ((wr (r103 * r104))+r124)) x136
def AT9(g:Geo)(sx:List A0)(t:Table)(l:List Record)(Q:(List Int)->Prop):Prop :=
  AF5 ((Geo.mk g.Parents)) sx ((Table.mk t.Level t.Vars t.Where t.Sum)) fun r32 =>
  (0:Int)<=r32/\8 * r32<=140737488355328/\(
  J6 (fun (out:List Int) (x52:Int) nx =>
  br (decide (x52<(ln l))) (jn (fun (k:(List Int)->Prop)=>idx l x52 fun x94 =>
  AK0 ((Geo.mk g.Parents)) sx ((Table.mk t.Level t.Vars t.Where t.Sum)) ((Record.mk x94.Area x94.House x94.Values)) fun r119 r120 =>
  br (decide (r119>=0)) (idx out r119 fun x134 =>
  (0:Int)<=r119/\Int.toNat r119<List.length out/\(
  k (List.set out (Int.toNat r119) (wr (x134+r120))))) <|
  k out) <|
  fun (out86:List Int) =>
  nx out86 (wr (x52+1))) <|
  Q out) (List.replicate (Int.toNat r32) ((0:Int))) 0)
def L4(g:Geo)(sx:List A0)(l:List Record)(tables:List Table)(Q:(List B0)->Bool->Prop):Prop :=
  jn (fun (k:Bool->Prop)=>AP4 ((Geo.mk g.Parents)) sx l fun r29 =>
  br (!r29) (k true) <|
  k (decide ((ln tables)>20))) <|
  fun (x26:Bool) =>
  br (x26) (Q ([]) false) <|
  J6 (fun (out:List B0) (x38:Int) nx =>
  br (decide (x38<(ln tables))) (idx tables x38 fun x44 =>
  AR6 ((Geo.mk g.Parents)) sx ((Table.mk x44.Level x44.Vars x44.Where x44.Sum)) fun r77 =>
  br (!r77) (Q ([]) false) <|
  N4 x44.Vars fun r121 =>
  N4 x44.Where fun r159 =>
  AT9 ((Geo.mk g.Parents)) sx ((Table.mk x44.Level x44.Vars x44.Where x44.Sum)) l fun r215 =>
  (ln out+ln ([((B0.mk ((Table.mk x44.Level r121 r159 x44.Sum)) r215):B0)])) * 88<=140737488355328/\(
  nx (out++([((B0.mk ((Table.mk x44.Level r121 r159 x44.Sum)) r215):B0)])) (wr (x38+1)))) <|
  Q out true) ([]) 0
def Q3(c:D9)(Q:Geo->(List A0)->(List Record)->Int->Int->Prop):Prop :=
  C7 ((D9.mk c.Code c.At c.Seed)) 4 fun r55 r56 r57 =>
  idx ([[(-1)],[(-1),0,0],[(-1),0,0,0],[(-1),0,0,1,1]]) r55 fun x64 =>
  jn (fun (k:(List A0)->Int->Int->Prop)=>jn (fun (k148:Bool->Int->Int->Prop)=>Q6 ((Geo.mk x64)) fun r150 =>
  br (decide ((ln r150)<3)) (J3 ((D9.mk c.Code r56 r57)) 2 fun r160 r161 r162 =>
  k148 r160 r161 r162) <|
  k148 false r56 r57) <|
  fun (x142:Bool) (atx143:Int) (seed144:Int) =>
  br (x142) (C7 ((D9.mk c.Code atx143 seed144)) 2 fun r172 r173 r174 =>
  (ln ([(A0.mk ((ByteArray.mk #[115,101,120])) 2)])+ln ([(A0.mk ((ByteArray.mk #[97,103,101])) (wr (2+r172)))])) * 24<=140737488355328/\(
  k (([(A0.mk ((ByteArray.mk #[115,101,120])) 2)])++([(A0.mk ((ByteArray.mk #[97,103,101])) (wr (2+r172)))])) r173 r174)) <|
  k ([(A0.mk ((ByteArray.mk #[115,101,120])) 2)]) atx143 seed144) <|
  fun (sx:List A0) (atx:Int) (seed:Int) =>
  jn (fun (k252:(List A0)->Int->Int->Prop)=>J3 ((D9.mk c.Code atx seed)) 24 fun r254 r255 r256 =>
  br (r254) (N7 ((D9.mk c.Code r255 r256)) fun r261 r262 r263 =>
  k252 r261 r262 r263) <|
  k252 sx r255 r256) <|
  fun (sx233:List A0) (atx239:Int) (seed240:Int) =>
  C7 ((D9.mk c.Code atx239 seed240)) 6 fun r281 r282 r283 =>
  BE7 (fun (l:List Record) (k295:Int) (atx296:Int) (seed297:Int) nx =>
  br (decide (k295>0)) (Q6 ((Geo.mk x64)) fun r312 =>
  S6 ((D9.mk c.Code atx296 seed297)) sx233 r312 fun r329 r330 r331 =>
  (ln l+ln ([((Record.mk r329.Area r329.House r329.Values):Record)])) * 40<=140737488355328/\(
  nx (l++([((Record.mk r329.Area r329.House r329.Values):Record)])) (wr (k295-1)) r330 r331)) <|
  Q ((Geo.mk x64)) sx233 l atx296 seed297) ([]) r281 r282 r283
def AE7(l:List Int)(lo:Int)(hi:Int)(Q:Bool->Prop):Prop :=
  N5 (fun (x:Int) nx =>
  br (decide (x<(ln l))) (idx l x fun x2 =>
  K2 x2 lo hi fun r10 =>
  br (!r10) (Q false) <|
  nx (wr (x+1))) <|
  Q true) 0
def R6(p:B0)(t:Int)(Q:B0->Bool->Prop):Prop :=
  jn (fun (k:Bool->Prop)=>br (decide ((ln p.Cells)>600)) (k true) <|
  AE7 p.Cells ((-1)) 1000000 fun r30 =>
  br (!r30) (k true) <|
  K2 t 0 1000000 fun r34 =>
  k (!r34)) <|
  fun (x27:Bool) =>
  br (x27) (Q ((B0.mk ((Table.mk 0 ([]) ([]) 0)) ([]))) false) <|
  N4 p.Table.Vars fun r60 =>
  N4 p.Table.Where fun r92 =>
  J6 (fun (x146:Int) (cells:List Int) nx =>
  br (decide (x146<(ln p.Cells))) (idx p.Cells x146 fun x159 =>
  jn (fun (k196:Int->Prop)=>jn (fun (k200:Bool->Prop)=>br (decide (x159>0)) (k200 (decide (x159<t))) <|
  k200 false) <|
  fun (x198:Bool) =>
  br (x198) (k196 ((-1))) <|
  k196 x159) <|
  fun (n:Int) =>
  (ln cells+ln ([n])) * 8<=140737488355328/\(
  nx (wr (x146+1)) (cells++([n])))) <|
  Q ((B0.mk ((Table.mk p.Table.Level r60 r92 p.Table.Sum)) cells)) true) 0 ([])
def N8(c:D9)(g:Geo)(sx:List A0)(l:List Record)(Q:(List B0)->Int->Int->Prop):Prop :=
  C7 ((D9.mk c.Code c.At c.Seed)) 4 fun r26 r27 r28 =>
  BE7 (fun (out:List B0) (k:Int) (atx:Int) (seed:Int) nx =>
  br (decide (k>0)) (jn (fun (k69:(List B0)->Int->Int->Prop)=>L9 ((D9.mk c.Code atx seed)) ((Geo.mk g.Parents)) sx fun r75 r76 r77 =>
  L4 ((Geo.mk g.Parents)) sx l ([((Table.mk r75.Level r75.Vars r75.Where r75.Sum):Table)]) fun r120 r121 =>
  br (!r121) (k69 out r76 r77) <|
  idx r120 0 fun x155 =>
  C7 ((D9.mk c.Code r76 r77)) 4 fun r202 r203 r204 =>
  R6 x155 r202 fun r235 r236 =>
  (ln out+ln ([((B0.mk ((Table.mk r235.Table.Level r235.Table.Vars r235.Table.Where r235.Table.Sum)) r235.Cells):B0)])) * 88<=140737488355328/\(
  k69 (out++([((B0.mk ((Table.mk r235.Table.Level r235.Table.Vars r235.Table.Where r235.Table.Sum)) r235.Cells):B0)])) r203 r204)) <|
  fun (out52:List B0) (atx58:Int) (seed59:Int) =>
  nx out52 (wr (k-1)) atx58 seed59) <|
  jn (fun (k386:(List B0)->Int->Int->Prop)=>jn (fun (k394:Bool->Int->Int->Prop)=>br (decide ((ln out)>0)) (J3 ((D9.mk c.Code atx seed)) 12 fun r397 r398 r399 =>
  k394 r397 r398 r399) <|
  k394 false atx seed) <|
  fun (x388:Bool) (atx389:Int) (seed390:Int) =>
  br (x388) (C7 ((D9.mk c.Code atx389 seed390)) (ln out) fun r405 r406 r407 =>
  C7 ((D9.mk c.Code r406 r407)) 3 fun r412 r413 r414 =>
  br (r412==0) (idx out r405 fun x420 =>
  (ln x420.Cells+ln ([0])) * 8<=140737488355328/\(
  k386 (List.set out (Int.toNat r405) ({x420 with Cells:=(x420.Cells++([0]))}:B0)) r413 r414)) <|
  br (r412==1) (idx out r405 fun x491 =>
  G1 ((D9.mk c.Code r413 r414)) ([(-2),1000001,1000000,3]) fun r530 r531 r532 =>
  (0:Int)<=0/\Int.toNat 0<List.length x491.Cells/\(
  k386 (List.set out (Int.toNat r405) ({x491 with Cells:=List.set x491.Cells (Int.toNat 0) r530}:B0)) r531 r532)) <|
  idx out r405 fun x567 =>
  k386 (List.set out (Int.toNat r405) ({x567 with Table.Sum:=9}:B0)) r413 r414) <|
  k386 out atx389 seed390) <|
  fun (out369:List B0) (atx375:Int) (seed376:Int) =>
  Q out369 atx375 seed376) ([]) r26 r27 r28
def U7(g:Geo)(sx:List A0)(Q:Int->Prop):Prop :=
  Q6 ((Geo.mk g.Parents)) fun r8 =>
  T7 sx fun r18 =>
  Q (wr ((ln r8) * r18))
def AA3(c:D9)(Q:Geo->(List A0)->(List B0)->Int->Int->Int->Prop):Prop :=
  Q3 ((D9.mk c.Code c.At c.Seed)) fun r5 r6 r7 r8 r9 =>
  N8 ((D9.mk c.Code r8 r9)) ((Geo.mk r5.Parents)) r6 r7 fun r48 r49 r50 =>
  jn (fun (k:Int->Int->Int->Prop)=>J3 ((D9.mk c.Code r49 r50)) 6 fun r93 r94 r95 =>
  br (r93) (G1 ((D9.mk c.Code r94 r95)) ([0,1,2,8,9,(-1)]) fun r108 r109 r110 =>
  k r108 r109 r110) <|
  k (ln r7) r94 r95) <|
  fun (n:Int) (atx:Int) (seed:Int) =>
  jn (fun (k130:Int->Prop)=>jn (fun (k135:Bool->Prop)=>U7 ((Geo.mk r5.Parents)) r6 fun r137 =>
  br (decide (r137>8)) (br ((ln r48)==0) (k135 (decide (n>5))) <|
  k135 false) <|
  k135 false) <|
  fun (x132:Bool) =>
  br (x132) (k130 5) <|
  k130 n) <|
  fun (n127:Int) =>
  Q ((Geo.mk r5.Parents)) r6 r48 n127 atx seed
def Z3(code:List B8)(Q:Geo->(List A0)->(List B0)->Int->Prop):Prop :=
  AA3 ((D9.mk code 0 0)) fun r8 r9 r10 r11 r12 r13 =>
  Q ((Geo.mk r8.Parents)) r9 r10 r11
def S0(code:List B8)(Q:Geo->(List A0)->(List B0)->Int->Prop):Prop :=
  Z3 code fun r2 r3 r4 r5 =>
  Q ((Geo.mk r2.Parents)) r3 r4 r5
def Z0(g:Geo)(Q:(List Int)->Prop):Prop :=
  J6 (fun (list:List Int) (x6:Int) nx =>
  br (decide (x6<(ln g.Parents))) (jn (fun (k:(List Int)->Prop)=>AM5 ((Geo.mk g.Parents)) x6 fun r27 =>
  br (r27) ((ln list+ln ([x6])) * 8<=140737488355328/\(
  k (list++([x6])))) <|
  k list) <|
  fun (list17:List Int) =>
  nx list17 (wr (x6+1))) <|
  Q list) ([]) 0
def M5(g:Geo)(sx:List A0)(Q:Int->Prop):Prop :=
  Z0 ((Geo.mk g.Parents)) fun r8 =>
  K9 sx fun r18 =>
  Q (wr ((ln r8) * r18))
def AD1(g:Geo)(sx:List A0)(Q:Bool->Prop):Prop :=
  jn (fun (k:Bool->Prop)=>AR4 ((Geo.mk g.Parents)) fun r15 =>
  br (r15) (AD0 sx fun r18 =>
  br (r18) (M5 ((Geo.mk g.Parents)) sx fun r24 =>
  k (decide (r24<=12))) <|
  k false) <|
  k false) <|
  fun (x12:Bool) =>
  Q x12
def U6(l:List Int)(lo:Int)(hi:Int)(Q:Bool->Prop):Prop :=
  N5 (fun (x:Int) nx =>
  br (decide (x<(ln l))) (idx l x fun x1 =>
  jn (fun (k:Bool->Prop)=>br (decide (x1<lo)) (k true) <|
  k (decide (x1>hi))) <|
  fun (x8:Bool) =>
  br (x8) (Q false) <|
  nx (wr (x+1))) <|
  Q true) 0
def Z4(g:Geo)(sx:List A0)(pubs:List B0)(Q:Bool->Prop):Prop :=
  br (decide ((ln pubs)>20)) (Q false) <|
  N5 (fun (x15:Int) nx =>
  br (decide (x15<(ln pubs))) (idx pubs x15 fun x19 =>
  jn (fun (k:Bool->Prop)=>AS2 (AH1 ((Geo.mk g.Parents)) sx ((Table.mk x19.Table.Level x19.Table.Vars x19.Table.Where x19.Table.Sum))) fun r76 =>
  br (!r76) (k true) <|
  AS2 (U4 ((Geo.mk g.Parents)) sx ((Table.mk x19.Table.Level x19.Table.Vars x19.Table.Where x19.Table.Sum))) fun r82 =>
  br ((ln x19.Cells)!=r82) (k true) <|
  AS2 (U6 x19.Cells ((-1)) 1000000) fun r89 =>
  k (!r89)) <|
  fun (x73:Bool) =>
  br (x73) (Q false) <|
  nx (wr (x15+1))) <|
  Q true) 0
def R0(g:Geo)(sx:List A0)(pubs:List B0)(Q:Bool->Prop):Prop :=
  jn (fun (k:Bool->Prop)=>AD1 ((Geo.mk g.Parents)) sx fun r22 =>
  br (r22) (Z4 ((Geo.mk g.Parents)) sx pubs fun r26 =>
  k r26) <|
  k false) <|
  fun (x19:Bool) =>
  Q x19
def AB2(n:Int)(Q:Bool->Prop):Prop :=
  jn (fun (k:Bool->Prop)=>br (decide (n>=0)) (k (decide (n<=8))) <|
  k false) <|
  fun (x:Bool) =>
  Q x
def AU5(sx:List A0)(i:Int)(Q:(List Int)->Prop):Prop :=
  (0:Int)<=(ln sx)/\8 * (ln sx)<=140737488355328/\(
  BC8 (fun (i6:Int) (values:List Int) (k:Int) nx =>
  br (decide (k>=0)) (idx sx k fun x14 =>
  x14.Levels≠0/\(
  (0:Int)<=k/\Int.toNat k<List.length values/\(
  idx sx k fun x25 =>
  x25.Levels≠0/\(
  nx (wr (Int.tdiv i6 x25.Levels)) (List.set values (Int.toNat k) (Int.tmod i6 x14.Levels)) (wr (k-1)))))) <|
  Q values) i (List.replicate (Int.toNat (ln sx)) ((0:Int))) (wr ((ln sx)-1)))
def AT2(g:Geo)(sx:List A0)(i:Int)(Q:Record->Prop):Prop :=
  K9 sx fun r13 =>
  r13≠0/\(
  r13≠0/\(
  Z0 ((Geo.mk g.Parents)) fun r24 =>
  idx r24 (wr (Int.tdiv i r13)) fun x35 =>
  AU5 sx (Int.tmod i r13) fun r45 =>
  Q ((Record.mk x35 0 r45))))
def P7(g:Geo)(sx:List A0)(pubs:List B0)(Q:(List E0)->Prop):Prop :=
  M5 ((Geo.mk g.Parents)) sx fun r14 =>
  J6 (fun (out:List E0) (x23:Int) nx =>
  br (decide (x23<(ln pubs))) (idx pubs x23 fun x28 =>
  (0:Int)<=(ln x28.Cells)/\8 * (ln x28.Cells)<=140737488355328/\(
  BC8 (fun (out76:List E0) (atx:List Int) (x87:Int) nx100 =>
  br (decide (x87<(ln x28.Cells))) (jn (fun (k:(List E0)->(List Int)->Prop)=>idx x28.Cells x87 fun x173 =>
  (0:Int)<=x87/\Int.toNat x87<List.length atx/\(
  br (decide (x173>=0)) ((0:Int)<=x87/\Int.toNat x87<List.length (List.set atx (Int.toNat x87) ((-1)))/\(
  (0:Int)<=r14/\8 * r14<=140737488355328/\(
  (ln out76+ln ([((E0.mk (List.replicate (Int.toNat r14) ((0:Int))) x173):E0)])) * 32<=140737488355328/\(
  k (out76++([((E0.mk (List.replicate (Int.toNat r14) ((0:Int))) x173):E0)])) (List.set (List.set atx (Int.toNat x87) ((-1))) (Int.toNat x87) (ln out76)))))) <|
  k out76 (List.set atx (Int.toNat x87) ((-1))))) <|
  fun (out152:List E0) (atx158:List Int) =>
  nx100 out152 atx158 (wr (x87+1))) <|
  J6 (fun (out261:List E0) (x267:Int) nx273 =>
  br (decide (x267<r14)) (jn (fun (k348:(List E0)->Prop)=>AT2 ((Geo.mk g.Parents)) sx x267 fun r356 =>
  EQ4 (P4 ((Geo.mk g.Parents)) sx ((Table.mk x28.Table.Level x28.Table.Vars x28.Table.Where x28.Table.Sum)) ((Record.mk r356.Area r356.House r356.Values))) fun r372 r373 =>
  jn (fun (k393:Bool->Prop)=>br (decide (r372>=0)) (idx atx r372 fun x396 =>
  k393 (decide (x396>=0))) <|
  k393 false) <|
  fun (x391:Bool) =>
  br (x391) (idx atx r372 fun x406 =>
  idx out261 x406 fun x415 =>
  (0:Int)<=x267/\Int.toNat x267<List.length x415.Amounts/\(
  k348 (List.set out261 (Int.toNat x406) ({x415 with Amounts:=List.set x415.Amounts (Int.toNat x267) r373}:E0)))) <|
  k348 out261) <|
  fun (out340:List E0) =>
  nx273 out340 (wr (x267+1))) <|
  nx out261 (wr (x23+1))) out76 0) out (List.replicate (Int.toNat (ln x28.Cells)) ((0:Int))) 0)) <|
  Q out) ([]) 0
def AH4(counts:List Int)(Q:(List Int)->Prop):Prop :=
  Q counts
def N1(counts:List Int)(c2:List Int)(c11:List Int)(Q:(List Int)->(List Int)->Prop):Prop :=
  AH4 counts fun r36 =>
  jn (fun (k:(List Int)->(List Int)->Prop)=>br (ln c2==0) ((ln (([]:List Int))+ln r36) * 8<=140737488355328/\(
  (ln (([]:List Int))+ln r36) * 8<=140737488355328/\(
  (0:Int)<ln ((([]:List Int))++r36)/\k ((([]:List Int))++r36) ((([]:List Int))++r36)))) <|
  k c2 c11) <|
  fun (x47:List Int) (x53:List Int) =>
  BC8 (fun (x151:Int) (x152:List Int) (x158:List Int) nx =>
  br (decide (x151<(ln r36))) (idx r36 x151 fun x181 =>
  idx x152 x151 fun x207 =>
  idx x158 x151 fun x219 =>
  (0:Int)<=x151/\Int.toNat x151<List.length x152/\(
  (0:Int)<=x151/\Int.toNat x151<List.length x158/\(
  nx (wr (x151+1)) (List.set x152 (Int.toNat x151) (mn x207 x181)) (List.set x158 (Int.toNat x151) (mx x219 x181))))) <|
  Q x152 x158) 0 x47 x53
def E7(counts:List Int)(c1:Int)(c5:List Int)(c14:List Int)(c25:Int)(Q:Bool->Int->(List Int)->(List Int)->Prop):Prop :=
  N1 counts c5 c14 fun r63 r64 =>
  Q (decide ((wr (c1+1))<c25)) (wr (c1+1)) r63 r64
def D6(x:S3)(c13:Int)(c17:List Int)(c26:List Int)(c37:Int)(k:Int)(n:Int)(Q:(List Int)->(List Int)->Prop):Prop :=
  idx x.Counts k fun x73 =>
  (0:Int)<=k/\Int.toNat k<List.length x.Counts/\(
  J6 (fun (x85:Int) (sums:List Int) nx =>
  br (decide (x85<(ln x.Conditions))) (idx x.Conditions x85 fun x97 =>
  idx sums x85 fun x127 =>
  idx x97.Amounts k fun x141 =>
  (0:Int)<=x85/\Int.toNat x85<List.length sums/\(
  nx (wr (x85+1)) (List.set sums (Int.toNat x85) (wr (x127+(wr (n * x141))))))) <|
  Q (List.set x.Counts (Int.toNat k) (wr (x73+n))) sums) 0 x.Sums)
def D4(x:S3)(c13:Int)(c17:List Int)(c26:List Int)(c37:Int)(k:Int)(left:Int)(Q:Bool->(List Int)->(List Int)->Int->(List Int)->(List Int)->Prop):Prop :=
  FB8 (fun (self:S3->Int->(List Int)->(List Int)->Int->Int->Int->(Bool->(List Int)->(List Int)->Int->(List Int)->(List Int)->Prop)->Prop) (x:S3) (c13:Int) (c17:List Int) (c26:List Int) (c37:Int) (k:Int) (left:Int) (Q:Bool->(List Int)->(List Int)->Int->(List Int)->(List Int)->Prop) =>
  br (k==(ln x.Counts)) (br (decide (left>0)) (Q true x.Counts x.Sums c13 c17 c26) <|
  N5 (fun (x109:Int) nx =>
  br (decide (x109<(ln x.Conditions))) (idx x.Conditions x109 fun x113 =>
  idx x.Sums x109 fun x137 =>
  br (x137 != x113.Value) (Q true x.Counts x.Sums c13 c17 c26) <|
  nx (wr (x109+1))) <|
  E7 x.Counts c13 c17 c26 c37 fun r182 r183 r184 r185 =>
  Q r182 x.Counts x.Sums r183 r184 r185) 0) <|
  jn (fun (k315:Int->(List Int)->(List Int)->(List Int)->(List Int)->Prop)=>FA0 (fun (n:Int) (x316:Int) (x317:List Int) (x323:List Int) (counts329:List Int) (sums335:List Int) nx391 =>
  br (decide (n<=left)) (J6 (fun (fits:Bool) (x393:Int) nx399 =>
  br (decide (x393<(ln x.Conditions))) (jn (fun (k446:Bool->Prop)=>idx x.Conditions x393 fun x448 =>
  br (fits) (idx sums335 x393 fun x477 =>
  idx x448.Amounts k fun x488 =>
  k446 (decide ((wr (x477+(wr (n * x488))))<=x448.Value))) <|
  k446 false) <|
  fun (fits443:Bool) =>
  nx399 fits443 (wr (x393+1))) <|
  br (!fits) (k315 x316 x317 x323 counts329 sums335) <|
  D6 ((S3.mk x.Conditions counts329 sums335)) x316 x317 x323 c37 k n fun r562 r563 =>
  self ((S3.mk x.Conditions r562 r563)) x316 x317 x323 c37 (wr (k+1)) (wr (left-n)) fun r638 r639 r640 r641 r642 r643 =>
  D6 ((S3.mk x.Conditions r639 r640)) r641 r642 r643 c37 k (wr (0-n)) fun r721 r722 =>
  br (!r638) (Q false r721 r722 r641 r642 r643) <|
  nx391 (wr (n+1)) r641 r642 r643 r721 r722) true 0) <|
  k315 x316 x317 x323 counts329 sums335) 0 c13 c17 c26 x.Counts x.Sums) <|
  fun (x247:Int) (x248:List Int) (x254:List Int) (counts:List Int) (sums:List Int) =>
  Q true counts sums x247 x248 x254) x c13 c17 c26 c37 k left Q
def E8(g:Geo)(sx:List A0)(pubs:List B0)(n:Int)(most:Int)(c14:List Int)(c23:List Int)(Q:Int->(List Int)->(List Int)->Prop):Prop :=
  P7 ((Geo.mk g.Parents)) sx pubs fun r69 =>
  AS2 (M5 ((Geo.mk g.Parents)) sx) fun r112 =>
  (0:Int)<=r112/\8 * r112<=140737488355328/\(
  (0:Int)<=(ln r69)/\8 * (ln r69)<=140737488355328/\(
  D4 ((S3.mk r69 (List.replicate (Int.toNat r112) ((0:Int))) (List.replicate (Int.toNat (ln r69)) ((0:Int))))) 0 c14 c23 most 0 n fun r223 r224 r225 r226 r227 r228 =>
  Q r226 r227 r228))
def K8(g:Geo)(sx:List A0)(pubs:List B0)(n:Int)(Q:(List Int)->(List Int)->Bool->Prop):Prop :=
  E8 ((Geo.mk g.Parents)) sx pubs n 20001 ([]) ([]) fun r45 r46 r47 =>
  jn (fun (k:Bool->Prop)=>br (r45==0) (k true) <|
  k (decide (r45>20000))) <|
  fun (x82:Bool) =>
  br (x82) (Q ([]) ([]) false) <|
  Q r46 r47 true
def AD5(g:Geo)(sx:List A0)(pubs:List B0)(n:Int)(Q:(List Int)->(List Int)->Bool->Prop):Prop :=
  jn (fun (k:Bool->Prop)=>R0 ((Geo.mk g.Parents)) sx pubs fun r22 =>
  br (!r22) (k true) <|
  AB2 n fun r25 =>
  k (!r25)) <|
  fun (x19:Bool) =>
  br (x19) (Q ([]) ([]) false) <|
  K8 ((Geo.mk g.Parents)) sx pubs n fun r31 r32 r33 =>
  Q r31 r32 r33
def Z6(g:Geo)(sx:List A0)(pubs:List B0)(n:Int)(Q:(List Int)->Bool->Prop):Prop :=
  AD5 ((Geo.mk g.Parents)) sx pubs n fun r14 r15 r16 =>
  br (!r16) (Q ([]) false) <|
  J6 (fun (out:List Int) (x41:Int) nx =>
  br (decide (x41<(ln r14))) (jn (fun (k:(List Int)->Prop)=>idx r14 x41 fun x66 =>
  jn (fun (k75:Bool->Prop)=>br (decide (x66>0)) (idx r15 x41 fun x78 =>
  k75 (x66==x78)) <|
  k75 false) <|
  fun (x73:Bool) =>
  br (x73) ((ln out+ln ([x41])) * 8<=140737488355328/\(
  k (out++([x41])))) <|
  k out) <|
  fun (out56:List Int) =>
  nx out56 (wr (x41+1))) <|
  Q out true) ([]) 0
def BA9(g:Geo)(sx:List A0)(Q:Bool->Prop):Prop :=
  jn (fun (k:Bool->Prop)=>AE1 ((Geo.mk g.Parents)) fun r15 =>
  br (r15) (AJ8 sx fun r18 =>
  br (r18) (U7 ((Geo.mk g.Parents)) sx fun r24 =>
  k (decide (r24<=12))) <|
  k false) <|
  k false) <|
  fun (x12:Bool) =>
  Q x12
def AD6(g:Geo)(sx:List A0)(pubs:List B0)(Q:Bool->Prop):Prop :=
  N5 (fun (x14:Int) nx =>
  br (decide (x14<(ln pubs))) (idx pubs x14 fun x17 =>
  jn (fun (k:Bool->Prop)=>AS2 (AR6 ((Geo.mk g.Parents)) sx ((Table.mk x17.Table.Level x17.Table.Vars x17.Table.Where x17.Table.Sum))) fun r74 =>
  br (!r74) (k true) <|
  AS2 (AF5 ((Geo.mk g.Parents)) sx ((Table.mk x17.Table.Level x17.Table.Vars x17.Table.Where x17.Table.Sum))) fun r80 =>
  br ((ln x17.Cells)!=r80) (k true) <|
  AS2 (AE7 x17.Cells ((-1)) 1000000) fun r87 =>
  k (!r87)) <|
  fun (x71:Bool) =>
  br (x71) (Q false) <|
  nx (wr (x14+1))) <|
  Q (decide ((ln pubs)<=20))) 0
def AT3(g:Geo)(sx:List A0)(pubs:List B0)(n:Int)(Q:Bool->Prop):Prop :=
  jn (fun (k:Bool->Prop)=>BA9 ((Geo.mk g.Parents)) sx fun r22 =>
  br (r22) (AD6 ((Geo.mk g.Parents)) sx pubs fun r26 =>
  br (r26) (K2 n 0 8 fun r33 =>
  k r33) <|
  k false) <|
  k false) <|
  fun (x19:Bool) =>
  Q x19
def BM5(sx:List A0)(i:Int)(Q:(List Int)->Prop):Prop :=
  (0:Int)<=(ln sx)/\8 * (ln sx)<=140737488355328/\(
  BC8 (fun (i6:Int) (out:List Int) (k:Int) nx =>
  br (decide (k>=0)) (idx sx k fun x14 =>
  x14.Levels≠0/\(
  (0:Int)<=k/\Int.toNat k<List.length out/\(
  idx sx k fun x25 =>
  x25.Levels≠0/\(
  nx (wr (Int.tdiv i6 x25.Levels)) (List.set out (Int.toNat k) (Int.tmod i6 x14.Levels)) (wr (k-1)))))) <|
  Q out) i (List.replicate (Int.toNat (ln sx)) ((0:Int))) (wr ((ln sx)-1)))
def AP9(g:Geo)(sx:List A0)(i:Int)(Q:Record->Prop):Prop :=
  T7 sx fun r13 =>
  r13≠0/\(
  r13≠0/\(
  Q6 ((Geo.mk g.Parents)) fun r24 =>
  idx r24 (wr (Int.tdiv i r13)) fun x35 =>
  BM5 sx (Int.tmod i r13) fun r45 =>
  Q ((Record.mk x35 0 r45))))
def AS8(g:Geo)(sx:List A0)(pubs:List B0)(Q:(List Q9)->Prop):Prop :=
  J6 (fun (out:List Q9) (x18:Int) nx =>
  br (decide (x18<(ln pubs))) (idx pubs x18 fun x23 =>
  J6 (fun (out61:List Q9) (x67:Int) nx76 =>
  br (decide (x67<(ln x23.Cells))) (jn (fun (k:(List Q9)->Prop)=>idx x23.Cells x67 fun x118 =>
  br (decide (x118<0)) (k out61) <|
  U7 ((Geo.mk g.Parents)) sx fun r128 =>
  (0:Int)<=r128/\8 * r128<=140737488355328/\(
  J6 (fun (x148:Int) (amounts:List Int) nx165 =>
  br (decide (x148<(ln (List.replicate (Int.toNat r128) ((0:Int)))))) (jn (fun (k233:(List Int)->Prop)=>AP9 ((Geo.mk g.Parents)) sx x148 fun r241 =>
  EQ4 (AK0 ((Geo.mk g.Parents)) sx ((Table.mk x23.Table.Level x23.Table.Vars x23.Table.Where x23.Table.Sum)) ((Record.mk r241.Area r241.House r241.Values))) fun r257 r258 =>
  br (r257==x67) ((0:Int)<=x148/\Int.toNat x148<List.length amounts/\(
  k233 (List.set amounts (Int.toNat x148) r258))) <|
  k233 amounts) <|
  fun (amounts219:List Int) =>
  nx165 (wr (x148+1)) amounts219) <|
  (ln out61+ln ([((Q9.mk amounts x118):Q9)])) * 32<=140737488355328/\(
  k (out61++([((Q9.mk amounts x118):Q9)])))) 0 (List.replicate (Int.toNat r128) ((0:Int))))) <|
  fun (out108:List Q9) =>
  nx76 out108 (wr (x67+1))) <|
  nx out61 (wr (x18+1))) out 0) <|
  Q out) ([]) 0
def BF4(amounts:List Int)(counts:List Int)(Q:Int->Prop):Prop :=
  J6 (fun (n:Int) (x:Int) nx =>
  br (decide (x<(ln counts))) (idx counts x fun x7 =>
  idx amounts x fun x13 =>
  nx (wr (n+(wr (x13 * x7)))) (wr (x+1))) <|
  Q n) 0 0
def AC3(x:AL1)(counts:List Int)(left:Int)(Q:(List (List Int))->Int->Int->Prop):Prop :=
  FB2 (fun (self:AL1->(List Int)->Int->((List (List Int))->Int->Int->Prop)->Prop) (x:AL1) (counts:List Int) (left:Int) (Q:(List (List Int))->Int->Int->Prop) =>
  br (decide ((ln x.Out)>x.Most)) (Q x.Out x.Types x.Most) <|
  N5 (fun (x24:Int) nx =>
  br (decide (x24<(ln x.Rules))) (idx x.Rules x24 fun x29 =>
  BF4 x29.Amounts counts fun r51 =>
  jn (fun (k:Bool->Prop)=>br (decide (r51>x29.Sum)) (k true) <|
  br ((ln counts)==x.Types) (k (decide (r51<x29.Sum))) <|
  k false) <|
  fun (x72:Bool) =>
  br (x72) (Q x.Out x.Types x.Most) <|
  nx (wr (x24+1))) <|
  br ((ln counts)==x.Types) (jn (fun (k97:(List (List Int))->Prop)=>br (left==0) (N4 counts fun r105 =>
  (ln x.Out+ln ([r105])) * 24<=140737488355328/\(
  k97 (x.Out++([r105])))) <|
  k97 x.Out) <|
  fun (out:List (List Int)) =>
  Q out x.Types x.Most) <|
  jn (fun (k181:Int->Prop)=>br ((ln counts)==(wr (x.Types-1))) (k181 left) <|
  k181 0) <|
  fun (least:Int) =>
  BE7 (fun (k184:Int) (types:Int) (most:Int) (out185:List (List Int)) nx204 =>
  br (decide (k184<=left)) (N4 counts fun r206 =>
  (ln r206+ln ([k184])) * 8<=140737488355328/\(
  self ((AL1.mk x.Rules types most out185)) (r206++([k184])) (wr (left-k184)) fun r247 r248 r249 =>
  nx204 (wr (k184+1)) r248 r249 r247)) <|
  Q out185 types most) least x.Types x.Most x.Out) 0) x counts left Q
def AM6(g:Geo)(sx:List A0)(pubs:List B0)(n:Int)(most:Int)(Q:(List (List Int))->Prop):Prop :=
  AS8 ((Geo.mk g.Parents)) sx pubs fun r19 =>
  AS2 (U7 ((Geo.mk g.Parents)) sx) fun r33 =>
  AC3 ((AL1.mk r19 r33 most ([]))) ([]) n fun r44 r45 r46 =>
  Q r44
def BG0(g:Geo)(sx:List A0)(pubs:List B0)(n:Int)(Q:(List (List Int))->Bool->Prop):Prop :=
  AT3 ((Geo.mk g.Parents)) sx pubs n fun r14 =>
  br (!r14) (Q ([]) false) <|
  AM6 ((Geo.mk g.Parents)) sx pubs n 20000 fun r22 =>
  K2 (ln r22) 1 20000 fun r34 =>
  Q r22 r34
def AQ0(a:Int)(b:Int)(Q:Int->Prop):Prop :=
  br (decide (a<b)) (Q a) <|
  Q b
def AU1(a:Int)(b:Int)(Q:Int->Prop):Prop :=
  br (decide (a>b)) (Q a) <|
  Q b
def AD4(g:Geo)(sx:List A0)(pubs:List B0)(n:Int)(Q:(List Int)->(List Int)->Bool->Prop):Prop :=
  BG0 ((Geo.mk g.Parents)) sx pubs n fun r14 r15 =>
  br (!r15) (Q ([]) ([]) false) <|
  idx r14 0 fun x30 =>
  idx r14 0 fun x42 =>
  N4 x30 fun r58 =>
  N4 x42 fun r73 =>
  BC8 (fun (lo:List Int) (hi90:List Int) (x96:Int) nx =>
  br (decide (x96<(ln r14))) (idx r14 x96 fun x105 =>
  BC8 (fun (lo121:List Int) (hi127:List Int) (x133:Int) nx144 =>
  br (decide (x133<(ln x105))) (idx x105 x133 fun x146 =>
  idx lo121 x133 fun x160 =>
  AQ0 x160 x146 fun r169 =>
  (0:Int)<=x133/\Int.toNat x133<List.length lo121/\(
  idx hi127 x133 fun x179 =>
  AU1 x179 x146 fun r189 =>
  (0:Int)<=x133/\Int.toNat x133<List.length hi127/\(
  nx144 (List.set lo121 (Int.toNat x133) r169) (List.set hi127 (Int.toNat x133) r189) (wr (x133+1))))) <|
  nx lo121 hi127 (wr (x96+1))) lo hi90 0) <|
  Q lo hi90 true) r58 r73 0
def Z8(g:Geo)(sx:List A0)(pubs:List B0)(n:Int)(Q:(List Int)->Bool->Prop):Prop :=
  AD4 ((Geo.mk g.Parents)) sx pubs n fun r14 r15 r16 =>
  br (!r16) (Q ([]) false) <|
  J6 (fun (out:List Int) (x41:Int) nx =>
  br (decide (x41<(ln r14))) (jn (fun (k:(List Int)->Prop)=>idx r14 x41 fun x66 =>
  jn (fun (k75:Bool->Prop)=>br (decide (x66>0)) (idx r15 x41 fun x78 =>
  k75 (x78==x66)) <|
  k75 false) <|
  fun (x73:Bool) =>
  br (x73) ((ln out+ln ([x41])) * 8<=140737488355328/\(
  k (out++([x41])))) <|
  k out) <|
  fun (out56:List Int) =>
  nx out56 (wr (x41+1))) <|
  Q out true) ([]) 0
def W2(code:List B8)(Q:B0->Int->Prop):Prop :=
  Q3 ((D9.mk code 0 0)) fun r8 r9 r10 r11 r12 =>
  N8 ((D9.mk code r11 r12)) ((Geo.mk r8.Parents)) r9 r10 fun r50 r51 r52 =>
  G1 ((D9.mk code r51 r52)) ([0,1,2,3,5,1000000,1000001,(-1)]) fun r85 r86 r87 =>
  br (decide ((ln r50)>0)) (idx r50 0 fun x93 =>
  Q ((B0.mk ((Table.mk x93.Table.Level x93.Table.Vars x93.Table.Where x93.Table.Sum)) x93.Cells)) r85) <|
  C7 ((D9.mk code r86 r87)) 4 fun r145 r146 r147 =>
  C7 ((D9.mk code r146 r147)) 9 fun r153 r154 r155 =>
  Q ((B0.mk ((Table.mk 0 ([]) ([]) 0)) ([r145,(-1),0,r153]))) r85
def AQ8(p:B0)(t:Int)(Q:B0->Prop):Prop :=
  jn (fun (k:Int->(List Int)->(List Int)->Int->(List Int)->Prop)=>(
  AF9 ((Table.mk p.Table.Level p.Table.Vars p.Table.Where p.Table.Sum)) fun r74 =>
  (0:Int)<=(ln p.Cells)/\8 * (ln p.Cells)<=140737488355328/\(
  k r74.Level r74.Vars r74.Where r74.Sum (List.replicate (Int.toNat (ln p.Cells)) ((0:Int)))))/\(
  (0:Int)<=(ln p.Cells)/\8 * (ln p.Cells)<=140737488355328/\(
  AF9 ((Table.mk p.Table.Level p.Table.Vars p.Table.Where p.Table.Sum)) fun r212 =>
  k r212.Level r212.Vars r212.Where r212.Sum (List.replicate (Int.toNat (ln p.Cells)) ((0:Int)))))) <|
  fun (level:Int) (vars:List Int) (wherex:List Int) (sum:Int) (cells:List Int) =>
  J6 (fun (x281:Int) (cells282:List Int) nx =>
  br (decide (x281<(ln p.Cells))) (idx p.Cells x281 fun x293 =>
  jn (fun (k322:Int->Prop)=>jn (fun (k326:Bool->Prop)=>br (decide (x293>=1)) (k326 (decide (x293<t))) <|
  k326 false) <|
  fun (x324:Bool) =>
  br (x324) (k322 ((-1))) <|
  k322 x293) <|
  fun (vx320:Int) =>
  (0:Int)<=x281/\Int.toNat x281<List.length cells282/\(
  nx (wr (x281+1)) (List.set cells282 (Int.toNat x281) vx320))) <|
  Q ((B0.mk ((Table.mk level vars wherex sum)) cells282))) 0 cells
def AG4(p:B0)(t:Int)(Q:B0->Bool->Prop):Prop :=
  jn (fun (k:Bool->Prop)=>br (decide ((ln p.Cells)>600)) (k true) <|
  U6 p.Cells ((-1)) 1000000 fun r30 =>
  br (!r30) (k true) <|
  br (decide (t<0)) (k true) <|
  k (decide (t>1000000))) <|
  fun (x27:Bool) =>
  br (x27) (Q ((B0.mk ((Table.mk 0 ([]) ([]) 0)) ([]))) false) <|
  AQ8 ((B0.mk ((Table.mk p.Table.Level p.Table.Vars p.Table.Where p.Table.Sum)) p.Cells)) t fun r41 =>
  Q ((B0.mk ((Table.mk r41.Table.Level r41.Table.Vars r41.Table.Where r41.Table.Sum)) r41.Cells)) true
def AB1(a:List Int)(b:List Int)(Q:Bool->Prop):Prop :=
  br ((ln a)!=(ln b)) (Q false) <|
  N5 (fun (x:Int) nx =>
  br (decide (x<(ln a))) (idx a x fun x10 =>
  idx b x fun x17 =>
  br (x10 != x17) (Q false) <|
  nx (wr (x+1))) <|
  Q true) 0
def AL7(a:Table)(b:Table)(Q:Bool->Prop):Prop :=
  jn (fun (k:Bool->Prop)=>br (a.Level==b.Level) (AB1 a.Vars b.Vars fun r39 =>
  br (r39) (AB1 a.Where b.Where fun r45 =>
  br (r45) (k (a.Sum==b.Sum)) <|
  k false) <|
  k false) <|
  k false) <|
  fun (x36:Bool) =>
  Q x36
def BB1(a:List B0)(b:List B0)(Q:Bool->Prop):Prop :=
  br ((ln a)!=(ln b)) (Q false) <|
  N5 (fun (x:Int) nx =>
  br (decide (x<(ln a))) (jn (fun (k:Bool->Prop)=>idx a x fun x16 =>
  idx b x fun x32 =>
  AS2 (AL7 ((Table.mk x16.Table.Level x16.Table.Vars x16.Table.Where x16.Table.Sum)) ((Table.mk x32.Table.Level x32.Table.Vars x32.Table.Where x32.Table.Sum))) fun r52 =>
  br (!r52) (k true) <|
  idx a x fun x58 =>
  idx b x fun x78 =>
  AS2 (AB1 x58.Cells x78.Cells) fun r98 =>
  k (!r98)) <|
  fun (x13:Bool) =>
  br (x13) (Q false) <|
  nx (wr (x+1))) <|
  Q true) 0
def AC8(p:List Int)(Q:Prop):Prop :=
  Q
def K5(counts:List Int)(c1:Int)(c5:Int)(Q:Bool->Int->Prop):Prop :=
  AC8 counts <|
  Q (decide ((wr (c1+1))<c5)) (wr (c1+1))
def E4(x:S3)(c13:Int)(c17:Int)(k:Int)(n:Int)(Q:(List Int)->(List Int)->Prop):Prop :=
  idx x.Counts k fun x38 =>
  (0:Int)<=k/\Int.toNat k<List.length x.Counts/\(
  J6 (fun (x50:Int) (sums:List Int) nx =>
  br (decide (x50<(ln x.Conditions))) (idx x.Conditions x50 fun x62 =>
  idx sums x50 fun x92 =>
  idx x62.Amounts k fun x106 =>
  (0:Int)<=x50/\Int.toNat x50<List.length sums/\(
  nx (wr (x50+1)) (List.set sums (Int.toNat x50) (wr (x92+(wr (n * x106))))))) <|
  Q (List.set x.Counts (Int.toNat k) (wr (x38+n))) sums) 0 x.Sums)
def E3(x:S3)(c13:Int)(c17:Int)(k:Int)(left:Int)(Q:Bool->(List Int)->(List Int)->Int->Prop):Prop :=
  FB9 (fun (self:S3->Int->Int->Int->Int->(Bool->(List Int)->(List Int)->Int->Prop)->Prop) (x:S3) (c13:Int) (c17:Int) (k:Int) (left:Int) (Q:Bool->(List Int)->(List Int)->Int->Prop) =>
  br (k==(ln x.Counts)) (br (decide (left>0)) (Q true x.Counts x.Sums c13) <|
  N5 (fun (x43:Int) nx =>
  br (decide (x43<(ln x.Conditions))) (idx x.Conditions x43 fun x47 =>
  idx x.Sums x43 fun x71 =>
  br (x71 != x47.Value) (Q true x.Counts x.Sums c13) <|
  nx (wr (x43+1))) <|
  K5 x.Counts c13 c17 fun r104 r105 =>
  Q r104 x.Counts x.Sums r105) 0) <|
  jn (fun (k145:Int->(List Int)->(List Int)->Prop)=>BE7 (fun (n:Int) (x146:Int) (counts147:List Int) (sums153:List Int) nx181 =>
  br (decide (n<=left)) (J6 (fun (fits:Bool) (x183:Int) nx189 =>
  br (decide (x183<(ln x.Conditions))) (jn (fun (k211:Bool->Prop)=>idx x.Conditions x183 fun x213 =>
  br (fits) (idx sums153 x183 fun x242 =>
  idx x213.Amounts k fun x253 =>
  k211 (decide ((wr (x242+(wr (n * x253))))<=x213.Value))) <|
  k211 false) <|
  fun (fits208:Bool) =>
  nx189 fits208 (wr (x183+1))) <|
  br (!fits) (k145 x146 counts147 sums153) <|
  E4 ((S3.mk x.Conditions counts147 sums153)) x146 c17 k n fun r298 r299 =>
  self ((S3.mk x.Conditions r298 r299)) x146 c17 (wr (k+1)) (wr (left-n)) fun r337 r338 r339 r340 =>
  E4 ((S3.mk x.Conditions r338 r339)) r340 c17 k (wr (0-n)) fun r375 r376 =>
  br (!r337) (Q false r375 r376 r340) <|
  nx181 (wr (n+1)) r340 r375 r376) true 0) <|
  k145 x146 counts147 sums153) 0 c13 x.Counts x.Sums) <|
  fun (x118:Int) (counts:List Int) (sums:List Int) =>
  Q true counts sums x118) x c13 c17 k left Q
def G6(g:Geo)(sx:List A0)(pubs:List B0)(n:Int)(most:Int)(Q:Int->Prop):Prop :=
  P7 ((Geo.mk g.Parents)) sx pubs fun r25 =>
  AS2 (M5 ((Geo.mk g.Parents)) sx) fun r56 =>
  (0:Int)<=r56/\8 * r56<=140737488355328/\(
  (0:Int)<=(ln r25)/\8 * (ln r25)<=140737488355328/\(
  E3 ((S3.mk r25 (List.replicate (Int.toNat r56) ((0:Int))) (List.replicate (Int.toNat (ln r25)) ((0:Int))))) 0 most 0 n fun r130 r131 r132 r133 =>
  Q r133))
def S8(g:Geo)(sx:List A0)(pubs:List B0)(n:Int)(Q:Int->Bool->Prop):Prop :=
  jn (fun (k:Bool->Prop)=>R0 ((Geo.mk g.Parents)) sx pubs fun r22 =>
  br (!r22) (k true) <|
  AB2 n fun r25 =>
  k (!r25)) <|
  fun (x19:Bool) =>
  br (x19) (Q 0 false) <|
  G6 ((Geo.mk g.Parents)) sx pubs n 20001 fun r31 =>
  br (decide (r31>20000)) (Q 0 false) <|
  Q r31 true
def AE0(g:Geo)(sx:List A0)(l:List Record)(Q:(List Int)->Bool->Prop):Prop :=
  jn (fun (k:Bool->Prop)=>AD1 ((Geo.mk g.Parents)) sx fun r22 =>
  br (!r22) (k true) <|
  AC9 ((Geo.mk g.Parents)) sx l fun r26 =>
  k (!r26)) <|
  fun (x19:Bool) =>
  br (x19) (Q ([]) false) <|
  M5 ((Geo.mk g.Parents)) sx fun r35 =>
  (0:Int)<=r35/\8 * r35<=140737488355328/\(
  K9 sx fun r48 =>
  J6 (fun (counts:List Int) (x58:Int) nx =>
  br (decide (x58<(ln l))) (idx l x58 fun x63 =>
  Z0 ((Geo.mk g.Parents)) fun r95 =>
  J6 (fun (counts110:List Int) (x116:Int) nx124 =>
  br (decide (x116<(ln r95))) (jn (fun (k168:(List Int)->Prop)=>idx r95 x116 fun x170 =>
  br (x170==x63.Area) (R8 sx x63.Values fun r180 =>
  idx counts110 (wr ((wr (x116 * r48))+r180)) fun x183 =>
  (0:Int)<=(wr ((wr (x116 * r48))+r180))/\Int.toNat (wr ((wr (x116 * r48))+r180))<List.length counts110/\(
  k168 (List.set counts110 (Int.toNat (wr ((wr (x116 * r48))+r180))) (wr (x183+1))))) <|
  k168 counts110) <|
  fun (counts160:List Int) =>
  nx124 counts160 (wr (x116+1))) <|
  nx counts110 (wr (x58+1))) counts 0) <|
  Q counts true) (List.replicate (Int.toNat r35) ((0:Int))) 0)
def BA8(conditions:List E0)(counts:List Int)(Q:Bool->Prop):Prop :=
  N5 (fun (x:Int) nx =>
  br (decide (x<(ln conditions))) (idx conditions x fun x8 =>
  J6 (fun (sum:Int) (x28:Int) nx33 =>
  br (decide (x28<(ln counts))) (idx counts x28 fun x35 =>
  idx x8.Amounts x28 fun x46 =>
  nx33 (wr (sum+(wr (x35 * x46)))) (wr (x28+1))) <|
  br (sum != x8.Value) (Q false) <|
  nx (wr (x+1))) 0 0) <|
  Q true) 0
def AT0(g:Geo)(sx:List A0)(pubs:List B0)(counts:List Int)(Q:Bool->Bool->Prop):Prop :=
  jn (fun (k:Bool->Prop)=>R0 ((Geo.mk g.Parents)) sx pubs fun r29 =>
  br (!r29) (k true) <|
  M5 ((Geo.mk g.Parents)) sx fun r33 =>
  br ((ln counts)!=r33) (k true) <|
  U6 counts 0 40 fun r39 =>
  k (!r39)) <|
  fun (x26:Bool) =>
  br (x26) (Q false false) <|
  P7 ((Geo.mk g.Parents)) sx pubs fun r48 =>
  BA8 r48 counts fun r60 =>
  Q r60 true
def BG1(l:List Int)(Q:Int->Prop):Prop :=
  J6 (fun (n:Int) (x:Int) nx =>
  br (decide (x<(ln l))) (idx l x fun x1 =>
  nx (wr (n+x1)) (wr (x+1))) <|
  Q n) 0 0
def AM9(code:List B8)(more:List B8)(Q:Bool->Prop):Prop :=
  br (decide ((wr ((ln code)+(ln more)))>1048576)) (Q true) <|
  Q4 code fun r7 r8 r9 r10 =>
  W0 ((Geo.mk r7.Parents)) r8 r9 r10 fun r48 r49 =>
  L4 ((Geo.mk r7.Parents)) r8 r9 r10 fun r67 r68 =>
  S0 more fun r82 r83 r84 r85 =>
  Z6 ((Geo.mk r82.Parents)) r83 r84 r85 fun r124 r125 =>
  Z8 ((Geo.mk r82.Parents)) r83 r84 r85 fun r142 r143 =>
  W2 more fun r156 r157 =>
  AG4 ((B0.mk ((Table.mk r156.Table.Level r156.Table.Vars r156.Table.Where r156.Table.Sum)) r156.Cells)) r157 fun r194 r195 =>
  R6 ((B0.mk ((Table.mk r156.Table.Level r156.Table.Vars r156.Table.Where r156.Table.Sum)) r156.Cells)) r157 fun r240 r241 =>
  jn (fun (k:Bool->Prop)=>br (r49 != r68) (k true) <|
  BB1 r48 r67 fun r450 =>
  br (!r450) (k true) <|
  br (r125 != r143) (k true) <|
  AB1 r124 r142 fun r455 =>
  br (!r455) (k true) <|
  br (r195 != r241) (k true) <|
  AB1 r194.Cells r240.Cells fun r467 =>
  br (!r467) (k true) <|
  AL7 ((Table.mk r194.Table.Level r194.Table.Vars r194.Table.Where r194.Table.Sum)) ((Table.mk r240.Table.Level r240.Table.Vars r240.Table.Where r240.Table.Sum)) fun r476 =>
  k (!r476)) <|
  fun (x446:Bool) =>
  br (x446) (Q false) <|
  jn (fun (k499:Prop)=>jn (fun (k503:Bool->Prop)=>br (r125) (k503 (decide ((ln r84)>0))) <|
  k503 false) <|
  fun (x501:Bool) =>
  br (x501) (S8 ((Geo.mk r82.Parents)) r83 r84 r85 fun r507 r508 =>
  (0:Int)<=1/\1<=((List.length r84:Int))/\((List.length r84:Int))<=ln r84/\(
  EQ4 (S8 ((Geo.mk r82.Parents)) r83 (List.take (Int.toNat ((List.length r84:Int))-Int.toNat 1) (List.drop (Int.toNat 1) r84)) r85) fun r516 r517 =>
  jn (fun (k534:Bool->Prop)=>br (!r508) (k534 true) <|
  br (r517) (k534 (decide (r516<r507))) <|
  k534 false) <|
  fun (x532:Bool) =>
  br (x532) (Q false) <|
  k499)) <|
  k499) <|
  br (!r49) (Q true) <|
  AE0 ((Geo.mk r7.Parents)) r8 r9 fun r542 r543 =>
  br (!r543) (Q true) <|
  AT0 ((Geo.mk r7.Parents)) r8 r48 r542 fun r560 r561 =>
  jn (fun (k578:Bool->Prop)=>br (r561) (br (r560) (BG1 r542 fun r582 =>
  k578 (r582==(ln r9))) <|
  k578 false) <|
  k578 false) <|
  fun (x575:Bool) =>
  Q x575
end Go.Proofs.YtbgnaamdlcggjaaGreat
