/- What each Go function means: a definition over numbers and lists; Q: what is to hold of its results. -/
import Derived.Test.YtfkblhplgnbppaaGreatLib
set_option linter.unusedVariables false
set_option autoImplicit false
namespace Go.Proofs.YtfkblhplgnbppaaGreat
open Go Go.RowKit Go.Gv
structure Geo where
  Parents:List Int
instance:Wf Geo:=⟨fun x=>Wf.wf x.Parents⟩
instance:Deep Geo:=Deep.via (fun x=>x.Parents)
structure Variable where
  Name:ByteArray
  Levels:Int
instance:Wf Variable:=⟨fun x=>Wf.wf x.Name∧Wf.wf x.Levels⟩
instance:Flat Variable where
  n:=2
  agg:=true
  rd _ cs x:=cs=[.string x.Name,I x.Levels]
  enc x:=[.string x.Name,I x.Levels]
  len h:=by subst h; rfl
  le _ h:=h
  one h c hc:=by subst h; simp at hc; rcases hc with rfl | rfl <;> rfl
  sing h:=by cases h
  flat:=Iff.rfl
theorem Variable_rv {h:PH} {v:Value} {x:Variable} (r:RV h v x):v = .agg #[.string x.Name,I x.Levels]:=by obtain ⟨cs,rfl,rfl⟩:=r; rfl
structure Record where
  Area:Int
  House:Int
  Values:List Int
instance:Wf Record:=⟨fun x=>Wf.wf x.Area∧Wf.wf x.House∧Wf.wf x.Values⟩
instance:Deep Record:=Deep.via (fun x=>(x.Area,x.House,x.Values))
theorem Record_rd {h:PH} {cs:List Value} {x:Record} (r:Enc.rd h cs x):∃ u0,cs=[I x.Area,I x.House,u0]∧RS h u0 x.Values:=by
  obtain ⟨_,_,rfl,rfl,⟨_,_,rfl,rfl,⟨u0,rfl,r0⟩⟩⟩:=r; exact ⟨_,rfl,r0⟩
theorem Record_rv {h:PH} {v:Value} {x:Record} (r:RV h v x):∃ u0,v = .agg #[I x.Area,I x.House,u0]∧RS h u0 x.Values:=by
  obtain ⟨cs,hr,rfl⟩:=r; obtain ⟨u0,rfl,r0⟩:=Record_rd hr; exact ⟨_,rfl,r0⟩
theorem Record_ft0 {x:Record} {k:Int}:FTurn x {x with Area:=k} 0 [I k]:=by
  intro _ _ o
  obtain ⟨_,_,_,_,rfl,rfl,d0,p0,n0⟩:=o
  obtain ⟨rfl,rfl⟩:=own_flat p0
  obtain ⟨_,_,_,_,rfl,rfl,d1,p1,n1⟩:=n0
  obtain ⟨rfl,rfl⟩:=own_flat p1
  obtain ⟨u0,rfl,q0⟩:=n1
  exact ⟨[I k],[I x.House,u0],_,_,rfl,rfl,d0,(flat_own k),⟨[I x.House],[u0],_,_,rfl,rfl,d1,(flat_own x.House),⟨u0,rfl,q0⟩⟩⟩
theorem Record_ft1 {x:Record} {k:Int}:FTurn x {x with House:=k} 1 [I k]:=by
  intro _ _ o
  obtain ⟨_,_,_,_,rfl,rfl,d0,p0,n0⟩:=o
  obtain ⟨rfl,rfl⟩:=own_flat p0
  obtain ⟨_,_,_,_,rfl,rfl,d1,p1,n1⟩:=n0
  obtain ⟨rfl,rfl⟩:=own_flat p1
  obtain ⟨u0,rfl,q0⟩:=n1
  exact ⟨[I x.Area],[I k,u0],_,_,rfl,rfl,d0,(flat_own x.Area),⟨[I k],[u0],_,_,rfl,rfl,d1,(flat_own k),⟨u0,rfl,q0⟩⟩⟩
theorem Record_bw2 {h hi rest:PH} {v:Value} {xs:List Record} {i:Nat} {c:List Value} {x:Record} (b:Bw h v xs i hi rest c x):∃ u0 hl rs,c=[I x.Area,I x.House,u0]∧BwG h v xs hl rs u0 x.Values (fun y=>xs.set i {x with Values:=y}):=by
  have o:=b.own
  obtain ⟨_,_,_,_,rfl,rfl,d0,p0,n0⟩:=o
  obtain ⟨rfl,rfl⟩:=own_flat p0
  obtain ⟨_,_,_,_,rfl,rfl,d1,p1,n1⟩:=n0
  obtain ⟨rfl,rfl⟩:=own_flat p1
  obtain ⟨u0,rfl,q0⟩:=n1
  exact ⟨_,_,_,rfl,b.fc (Fc.via (fun x:Record=>(x.Area,x.House,x.Values)) (Fc.right (flat_own x.Area) (Fc.right (flat_own x.House) (Fc.here q0) d1) d0) fun _=>rfl)⟩
structure Table where
  Level:Int
  Vars:List Int
  Where:List Int
  Sum:Int
instance:Wf Table:=⟨fun x=>Wf.wf x.Level∧Wf.wf x.Vars∧Wf.wf x.Where∧Wf.wf x.Sum⟩
instance:Deep Table:=Deep.via (fun x=>(x.Level,x.Vars,x.Where,x.Sum))
theorem Table_rd {h:PH} {cs:List Value} {x:Table} (r:Enc.rd h cs x):∃ u0 u1,cs=[I x.Level,u0,u1,I x.Sum]∧RS h u0 x.Vars∧RS h u1 x.Where:=by
  obtain ⟨_,_,rfl,rfl,⟨_,_,rfl,⟨u0,rfl,r0⟩,⟨_,_,rfl,⟨u1,rfl,r1⟩,rfl⟩⟩⟩:=r; exact ⟨_,_,rfl,r0,r1⟩
theorem Table_rv {h:PH} {v:Value} {x:Table} (r:RV h v x):∃ u0 u1,v = .agg #[I x.Level,u0,u1,I x.Sum]∧RS h u0 x.Vars∧RS h u1 x.Where:=by
  obtain ⟨cs,hr,rfl⟩:=r; obtain ⟨u0,u1,rfl,r0,r1⟩:=Table_rd hr; exact ⟨_,_,rfl,r0,r1⟩
theorem Table_ft0 {x:Table} {k:Int}:FTurn x {x with Level:=k} 0 [I k]:=by
  intro _ _ o
  obtain ⟨_,_,_,_,rfl,rfl,d0,p0,n0⟩:=o
  obtain ⟨rfl,rfl⟩:=own_flat p0
  obtain ⟨_,_,_,_,rfl,rfl,d1,p1,n1⟩:=n0
  obtain ⟨u0,rfl,q0⟩:=p1
  obtain ⟨_,_,_,_,rfl,rfl,d2,p2,n2⟩:=n1
  obtain ⟨u1,rfl,q1⟩:=p2
  obtain ⟨rfl,rfl⟩:=own_flat n2
  exact ⟨[I k],[u0,u1,I x.Sum],_,_,rfl,rfl,d0,(flat_own k),⟨[u0],[u1,I x.Sum],_,_,rfl,rfl,d1,⟨u0,rfl,q0⟩,⟨[u1],[I x.Sum],_,_,rfl,rfl,d2,⟨u1,rfl,q1⟩,(flat_own x.Sum)⟩⟩⟩
theorem Table_bw1 {h hi rest:PH} {v:Value} {xs:List Table} {i:Nat} {c:List Value} {x:Table} (b:Bw h v xs i hi rest c x):∃ u0 u1 hl rs,c=[I x.Level,u0,u1,I x.Sum]∧BwG h v xs hl rs u0 x.Vars (fun y=>xs.set i {x with Vars:=y}):=by
  have o:=b.own
  obtain ⟨_,_,_,_,rfl,rfl,d0,p0,n0⟩:=o
  obtain ⟨rfl,rfl⟩:=own_flat p0
  obtain ⟨_,_,_,_,rfl,rfl,d1,p1,n1⟩:=n0
  obtain ⟨u0,rfl,q0⟩:=p1
  obtain ⟨_,_,_,_,rfl,rfl,d2,p2,n2⟩:=n1
  obtain ⟨u1,rfl,q1⟩:=p2
  obtain ⟨rfl,rfl⟩:=own_flat n2
  exact ⟨_,_,_,_,rfl,b.fc (Fc.via (fun x:Table=>(x.Level,x.Vars,x.Where,x.Sum)) (Fc.right (flat_own x.Level) (Fc.left (Fc.here q0) ⟨[u1],[I x.Sum],_,_,rfl,rfl,d2,⟨u1,rfl,q1⟩,(flat_own x.Sum)⟩ d1) d0) fun _=>rfl)⟩
theorem Table_bw2 {h hi rest:PH} {v:Value} {xs:List Table} {i:Nat} {c:List Value} {x:Table} (b:Bw h v xs i hi rest c x):∃ u0 u1 hl rs,c=[I x.Level,u0,u1,I x.Sum]∧BwG h v xs hl rs u1 x.Where (fun y=>xs.set i {x with Where:=y}):=by
  have o:=b.own
  obtain ⟨_,_,_,_,rfl,rfl,d0,p0,n0⟩:=o
  obtain ⟨rfl,rfl⟩:=own_flat p0
  obtain ⟨_,_,_,_,rfl,rfl,d1,p1,n1⟩:=n0
  obtain ⟨u0,rfl,q0⟩:=p1
  obtain ⟨_,_,_,_,rfl,rfl,d2,p2,n2⟩:=n1
  obtain ⟨u1,rfl,q1⟩:=p2
  obtain ⟨rfl,rfl⟩:=own_flat n2
  exact ⟨_,_,_,_,rfl,b.fc (Fc.via (fun x:Table=>(x.Level,x.Vars,x.Where,x.Sum)) (Fc.right (flat_own x.Level) (Fc.right ⟨u0,rfl,q0⟩ (Fc.left (Fc.here q1) (flat_own x.Sum) d2) d1) d0) fun _=>rfl)⟩
theorem Table_ft3 {x:Table} {k:Int}:FTurn x {x with Sum:=k} 3 [I k]:=by
  intro _ _ o
  obtain ⟨_,_,_,_,rfl,rfl,d0,p0,n0⟩:=o
  obtain ⟨rfl,rfl⟩:=own_flat p0
  obtain ⟨_,_,_,_,rfl,rfl,d1,p1,n1⟩:=n0
  obtain ⟨u0,rfl,q0⟩:=p1
  obtain ⟨_,_,_,_,rfl,rfl,d2,p2,n2⟩:=n1
  obtain ⟨u1,rfl,q1⟩:=p2
  obtain ⟨rfl,rfl⟩:=own_flat n2
  exact ⟨[I x.Level],[u0,u1,I k],_,_,rfl,rfl,d0,(flat_own x.Level),⟨[u0],[u1,I k],_,_,rfl,rfl,d1,⟨u0,rfl,q0⟩,⟨[u1],[I k],_,_,rfl,rfl,d2,⟨u1,rfl,q1⟩,(flat_own k)⟩⟩⟩
structure Frac where
  Num:Int
  Den:Int
instance:Wf Frac:=⟨fun x=>Wf.wf x.Num∧Wf.wf x.Den⟩
instance:Flat Frac where
  n:=2
  agg:=true
  rd _ cs x:=cs=[I x.Num,I x.Den]
  enc x:=[I x.Num,I x.Den]
  len h:=by subst h; rfl
  le _ h:=h
  one h c hc:=by subst h; simp at hc; rcases hc with rfl | rfl <;> rfl
  sing h:=by cases h
  flat:=Iff.rfl
structure Loss where
  Ratio:Frac
  Rho:Frac
instance:Wf Loss:=⟨fun x=>Wf.wf x.Ratio∧Wf.wf x.Rho⟩
instance:Flat Loss where
  n:=4
  agg:=true
  rd _ cs x:=cs=[I x.Ratio.Num,I x.Ratio.Den,I x.Rho.Num,I x.Rho.Den]
  enc x:=[I x.Ratio.Num,I x.Ratio.Den,I x.Rho.Num,I x.Rho.Den]
  len h:=by subst h; rfl
  le _ h:=h
  one h c hc:=by subst h; simp at hc; rcases hc with rfl | rfl | rfl | rfl <;> rfl
  sing h:=by cases h
  flat:=Iff.rfl
structure Server where
  G:Geo
  S:List Variable
  Data:List Record
  Plan:List Table
  Cost:Loss
  Budget:Loss
  Floor:Int
  Asked:List Table
instance:Wf Server:=⟨fun x=>Wf.wf x.G∧Wf.wf x.S∧Wf.wf x.Data∧Wf.wf x.Plan∧Wf.wf x.Cost∧Wf.wf x.Budget∧Wf.wf x.Floor∧Wf.wf x.Asked⟩
instance:Deep Server:=Deep.via (fun x=>(x.G,x.S,x.Data,x.Plan,x.Cost,x.Budget,x.Floor,x.Asked))
theorem Server_rd {h:PH} {cs:List Value} {x:Server} (r:Enc.rd h cs x):∃ u0 u1 u2 u3 u4,cs=[u0,u1,u2,u3,I x.Cost.Ratio.Num,I x.Cost.Ratio.Den,I x.Cost.Rho.Num,I x.Cost.Rho.Den,I x.Budget.Ratio.Num,I x.Budget.Ratio.Den,I x.Budget.Rho.Num,I x.Budget.Rho.Den,I x.Floor,u4]∧RS h u0 x.G.Parents∧RS h u1 x.S∧RS h u2 x.Data∧RS h u3 x.Plan∧RS h u4 x.Asked:=by
  obtain ⟨_,_,rfl,⟨u0,rfl,r0⟩,⟨_,_,rfl,⟨u1,rfl,r1⟩,⟨_,_,rfl,⟨u2,rfl,r2⟩,⟨_,_,rfl,⟨u3,rfl,r3⟩,⟨_,_,rfl,rfl,⟨_,_,rfl,rfl,⟨_,_,rfl,rfl,⟨u4,rfl,r4⟩⟩⟩⟩⟩⟩⟩⟩:=r; exact ⟨_,_,_,_,_,rfl,r0,r1,r2,r3,r4⟩
theorem Server_rv {h:PH} {v:Value} {x:Server} (r:RV h v x):∃ u0 u1 u2 u3 u4,v = .agg #[u0,u1,u2,u3,I x.Cost.Ratio.Num,I x.Cost.Ratio.Den,I x.Cost.Rho.Num,I x.Cost.Rho.Den,I x.Budget.Ratio.Num,I x.Budget.Ratio.Den,I x.Budget.Rho.Num,I x.Budget.Rho.Den,I x.Floor,u4]∧RS h u0 x.G.Parents∧RS h u1 x.S∧RS h u2 x.Data∧RS h u3 x.Plan∧RS h u4 x.Asked:=by
  obtain ⟨cs,hr,rfl⟩:=r; obtain ⟨u0,u1,u2,u3,u4,rfl,r0,r1,r2,r3,r4⟩:=Server_rd hr; exact ⟨_,_,_,_,_,rfl,r0,r1,r2,r3,r4⟩
def laws_szIntS (a:List Int) (left:Int) (Q:Int→Prop):Prop :=
  br (decide ((wr (left-(ln a)))<0)) (Q ((-1))) <|
  Q (wr (left-(ln a)))
def laws_szGeo (a:Geo) (left:Int) (Q:Int→Prop):Prop :=
  laws_szIntS a.Parents left fun r3 =>
  br (decide (r3<0)) (Q ((-1))) <|
  Q r3
def laws_szVariable (a:Variable) (left:Int) (Q:Int→Prop):Prop :=
  br (decide ((wr (left-(sln a.Name)))<0)) (Q ((-1))) <|
  Q (wr (left-(sln a.Name)))
def laws_szVariableS (a:List Variable) (left:Int) (Q:Int→Prop):Prop :=
  br (decide ((wr (left-(ln a)))<0)) (Q ((-1))) <|
  Loop2 (fun (left2:Int) (i:Int) nx =>
  br (decide (i<(ln a))) (idx a i fun x =>
  laws_szVariable x left2 fun r11 =>
  br (decide (r11<0)) (Q ((-1))) <|
  nx r11 (wr (i+1))) <|
  Q left2) (wr (left-(ln a))) 0
def laws_szRecord (a:Record) (left:Int) (Q:Int→Prop):Prop :=
  laws_szIntS a.Values left fun r3 =>
  br (decide (r3<0)) (Q ((-1))) <|
  Q r3
def laws_szRecordS (a:List Record) (left:Int) (Q:Int→Prop):Prop :=
  br (decide ((wr (left-(ln a)))<0)) (Q ((-1))) <|
  Loop2 (fun (left2:Int) (i:Int) nx =>
  br (decide (i<(ln a))) (idx a i fun x =>
  laws_szRecord x left2 fun r19 =>
  br (decide (r19<0)) (Q ((-1))) <|
  nx r19 (wr (i+1))) <|
  Q left2) (wr (left-(ln a))) 0
def laws_szTable (a:Table) (left:Int) (Q:Int→Prop):Prop :=
  laws_szIntS a.Vars left fun r9 =>
  br (decide (r9<0)) (Q ((-1))) <|
  laws_szIntS a.Where r9 fun r15 =>
  br (decide (r15<0)) (Q ((-1))) <|
  Q r15
def laws_szTableS (a:List Table) (left:Int) (Q:Int→Prop):Prop :=
  br (decide ((wr (left-(ln a)))<0)) (Q ((-1))) <|
  Loop2 (fun (left2:Int) (i:Int) nx =>
  br (decide (i<(ln a))) (idx a i fun x =>
  laws_szTable x left2 fun r27 =>
  br (decide (r27<0)) (Q ((-1))) <|
  nx r27 (wr (i+1))) <|
  Q left2) (wr (left-(ln a))) 0
def laws_szServer (a:Server) (left:Int) (Q:Int→Prop):Prop :=
  laws_szGeo ((Geo.mk a.G.Parents)) left fun r27 =>
  br (decide (r27<0)) (Q ((-1))) <|
  laws_szVariableS a.S r27 fun r33 =>
  br (decide (r33<0)) (Q ((-1))) <|
  laws_szRecordS a.Data r33 fun r42 =>
  br (decide (r42<0)) (Q ((-1))) <|
  laws_szTableS a.Plan r42 fun r51 =>
  br (decide (r51<0)) (Q ((-1))) <|
  laws_szTableS a.Asked r51 fun r60 =>
  br (decide (r60<0)) (Q ((-1))) <|
  Q r60
def laws_toIntS (a:List Int) (Q:(List Int)→Prop):Prop :=
  (0:Int)≤(ln a)∧8 * (ln a)≤140737488355328∧(
  Loop2 (fun (out:List Int) (i:Int) nx =>
  br (decide (i<(ln a))) (idx a i fun x14 =>
  (0:Int)≤i∧Int.toNat i<List.length out∧(
  nx (List.set out (Int.toNat i) x14) (wr (i+1)))) <|
  Q out) (List.replicate (Int.toNat (ln a)) ((0:Int))) 0)
def laws_toGeo (a:Geo) (Q:Geo→Prop):Prop :=
  laws_toIntS a.Parents fun r14 =>
  Q ((Geo.mk r14))
def laws_toVariable (a:Variable) (Q:Variable→Prop):Prop :=
  Q ((Variable.mk a.Name a.Levels))
def laws_toVariableS (a:List Variable) (Q:(List Variable)→Prop):Prop :=
  (0:Int)≤(ln a)∧24 * (ln a)≤140737488355328∧(
  Loop2 (fun (out:List Variable) (i:Int) nx =>
  br (decide (i<(ln a))) (idx a i fun x14 =>
  laws_toVariable x14 fun r21 =>
  (0:Int)≤i∧Int.toNat i<List.length out∧(
  nx (List.set out (Int.toNat i) r21) (wr (i+1)))) <|
  Q out) (List.replicate (Int.toNat (ln a)) ((Variable.mk ((ByteArray.mk #[])) ((0:Int))))) 0)
def laws_toRecord (a:Record) (Q:Record→Prop):Prop :=
  laws_toIntS a.Values fun r23 =>
  Q ((Record.mk a.Area a.House r23))
def laws_toRecordS (a:List Record) (Q:(List Record)→Prop):Prop :=
  (0:Int)≤(ln a)∧40 * (ln a)≤140737488355328∧(
  Loop2 (fun (out:List Record) (i:Int) nx =>
  br (decide (i<(ln a))) (idx a i fun x14 =>
  laws_toRecord x14 fun r29 =>
  (0:Int)≤i∧Int.toNat i<List.length out∧(
  nx (List.set out (Int.toNat i) (((Record.mk r29.Area r29.House r29.Values):Record))) (wr (i+1)))) <|
  Q out) (List.replicate (Int.toNat (ln a)) ((Record.mk ((0:Int)) ((0:Int)) (([]:List Int))))) 0)
def laws_toTable (a:Table) (Q:Table→Prop):Prop :=
  laws_toIntS a.Vars fun r24 =>
  laws_toIntS a.Where fun r44 =>
  Q ((Table.mk a.Level r24 r44 a.Sum))
def laws_toTableS (a:List Table) (Q:(List Table)→Prop):Prop :=
  (0:Int)≤(ln a)∧64 * (ln a)≤140737488355328∧(
  Loop2 (fun (out:List Table) (i:Int) nx =>
  br (decide (i<(ln a))) (idx a i fun x14 =>
  laws_toTable x14 fun r37 =>
  (0:Int)≤i∧Int.toNat i<List.length out∧(
  nx (List.set out (Int.toNat i) (((Table.mk r37.Level r37.Vars r37.Where r37.Sum):Table))) (wr (i+1)))) <|
  Q out) (List.replicate (Int.toNat (ln a)) ((Table.mk ((0:Int)) (([]:List Int)) (([]:List Int)) ((0:Int))))) 0)
def laws_toFrac (a:Frac) (Q:Frac→Prop):Prop :=
  Q ((Frac.mk a.Num a.Den))
def laws_toLoss (a:Loss) (Q:Loss→Prop):Prop :=
  laws_toFrac ((Frac.mk a.Ratio.Num a.Ratio.Den)) fun r =>
  laws_toFrac ((Frac.mk a.Rho.Num a.Rho.Den)) fun r19 =>
  Q ((Loss.mk ((Frac.mk r.Num r.Den)) ((Frac.mk r19.Num r19.Den))))
def laws_toServer (a:Server) (Q:Server→Prop):Prop :=
  laws_toGeo ((Geo.mk a.G.Parents)) fun r38 =>
  laws_toVariableS a.S fun r54 =>
  laws_toRecordS a.Data fun r75 =>
  laws_toTableS a.Plan fun r95 =>
  laws_toLoss ((Loss.mk ((Frac.mk a.Cost.Ratio.Num a.Cost.Ratio.Den)) ((Frac.mk a.Cost.Rho.Num a.Cost.Rho.Den)))) fun r116 =>
  laws_toLoss ((Loss.mk ((Frac.mk a.Budget.Ratio.Num a.Budget.Ratio.Den)) ((Frac.mk a.Budget.Rho.Num a.Budget.Rho.Den)))) fun r125 =>
  laws_toTableS a.Asked fun r139 =>
  Q ((Server.mk ((Geo.mk r38.Parents)) r54 r75 r95 ((Loss.mk ((Frac.mk r116.Ratio.Num r116.Ratio.Den)) ((Frac.mk r116.Rho.Num r116.Rho.Den)))) ((Loss.mk ((Frac.mk r125.Ratio.Num r125.Ratio.Den)) ((Frac.mk r125.Rho.Num r125.Rho.Den)))) a.Floor r139))
def spec_l1In (n:Int) (lo:Int) (hi:Int) (Q:Bool→Prop):Prop :=
  jn (fun (k:Bool→Prop)=>br (decide (n≥lo)) (k (decide (n≤hi))) <|
  k false) <|
  fun (x:Bool) =>
  Q x
def spec_gGood (g:Geo) (Q:Bool→Prop):Prop :=
  jn (fun (k:Bool→Prop)=>spec_l1In (ln g.Parents) 1 30 fun r8 =>
  br (!r8) (k true) <|
  idx g.Parents 0 fun x12 =>
  k (x12 != ((-1)))) <|
  fun (x5:Bool) =>
  br (x5) (Q false) <|
  Loop1 (fun (x22:Int) nx =>
  br (decide (x22<(ln g.Parents))) (idx g.Parents x22 fun x26 =>
  jn (fun (k40:Bool→Prop)=>br (decide (x22>0)) (spec_l1In x26 0 (wr (x22-1)) fun r43 =>
  k40 (!r43)) <|
  k40 false) <|
  fun (x37:Bool) =>
  br (x37) (Q false) <|
  nx (wr (x22+1))) <|
  Q true) 0
def spec_sName (sx:ByteArray) (Q:Bool→Prop):Prop :=
  Loop1 (fun (i:Int) nx =>
  br (decide (i<(sln sx))) (jn (fun (k:Bool→Prop)=>sidx sx i fun c =>
  br (decide ((c)<97)) (k true) <|
  sidx sx i fun c3 =>
  k (decide ((c3)>122))) <|
  fun (x:Bool) =>
  br (x) (Q false) <|
  nx (wr (i+1))) <|
  spec_l1In (sln sx) 1 8 fun r =>
  Q r) 0
def spec_sFind (sx:List Variable) (name:ByteArray) (Q:Int→Prop):Prop :=
  Loop1 (fun (x:Int) nx =>
  br (decide (x<(ln sx))) (idx sx x fun x2 =>
  br (streq x2.Name name) (Q x) <|
  nx (wr (x+1))) <|
  Q ((-1))) 0
def spec_sGood (sx:List Variable) (Q:Bool→Prop):Prop :=
  spec_l1In (ln sx) 1 6 fun r1 =>
  br (!r1) (Q false) <|
  Loop1 (fun (x3:Int) nx =>
  br (decide (x3<(ln sx))) (idx sx x3 fun x7 =>
  jn (fun (k:Bool→Prop)=>det1 (spec_sName x7.Name) fun r27 =>
  br (!r27) (k true) <|
  det1 (spec_l1In x7.Levels 2 8) fun r33 =>
  br (!r33) (k true) <|
  (0:Int)≤0∧0≤x3∧x3≤ln sx∧(
  det1 (spec_sFind (List.take (Int.toNat x3-Int.toNat 0) (List.drop (Int.toNat 0) sx)) x7.Name) fun r44 =>
  k (decide (r44≥0)))) <|
  fun (x24:Bool) =>
  br (x24) (Q false) <|
  nx (wr (x3+1))) <|
  Q true) 0
def spec_sFits (sx:List Variable) (values:List Int) (Q:Bool→Prop):Prop :=
  br ((ln values)!=(ln sx)) (Q false) <|
  Loop1 (fun (x:Int) nx =>
  br (decide (x<(ln sx))) (idx sx x fun x9 =>
  idx values x fun x21 =>
  det1 (spec_l1In x21 0 (wr (x9.Levels-1))) fun r32 =>
  br (!r32) (Q false) <|
  nx (wr (x+1))) <|
  Q true) 0
def spec_rGood (sx:List Variable) (r1:Record) (Q:Bool→Prop):Prop :=
  jn (fun (k:Bool→Prop)=>spec_l1In r1.Area 0 29 fun r16 =>
  br (r16) (spec_l1In r1.House 0 999 fun r20 =>
  br (r20) (spec_sFits sx r1.Values fun r25 =>
  k r25) <|
  k false) <|
  k false) <|
  fun (x13:Bool) =>
  Q x13
def spec_dGood (sx:List Variable) (l:List Record) (Q:Bool→Prop):Prop :=
  Loop1 (fun (x:Int) nx =>
  br (decide (x<(ln l))) (idx l x fun x8 =>
  spec_rGood sx ((Record.mk x8.Area x8.House x8.Values)) fun r28 =>
  br (!r28) (Q false) <|
  nx (wr (x+1))) <|
  Q (decide ((ln l)≤40))) 0
def spec_dInput (sx:List Variable) (l:List Record) (Q:Bool→Prop):Prop :=
  jn (fun (k:Bool→Prop)=>spec_sGood sx fun r8 =>
  br (r8) (spec_dGood sx l fun r11 =>
  k r11) <|
  k false) <|
  fun (x:Bool) =>
  Q x
def spec_gChildren (g:Geo) (i:Int) (Q:(List Int)→Prop):Prop :=
  Loop2 (fun (out:List Int) (x6:Int) nx =>
  br (decide (x6<(ln g.Parents))) (jn (fun (k:(List Int)→Prop)=>idx g.Parents x6 fun x25 =>
  br (x25==i) ((ln out+ln ([x6])) * 8≤140737488355328∧(
  k (out++([x6])))) <|
  k out) <|
  fun (out15:List Int) =>
  nx out15 (wr (x6+1))) <|
  Q out) ([]) 0
def spec_gLeaves (g:Geo) (Q:(List Int)→Prop):Prop :=
  Loop2 (fun (out:List Int) (x6:Int) nx =>
  br (decide (x6<(ln g.Parents))) (jn (fun (k:(List Int)→Prop)=>spec_gChildren ((Geo.mk g.Parents)) x6 fun r27 =>
  br ((ln r27)==0) ((ln out+ln ([x6])) * 8≤140737488355328∧(
  k (out++([x6])))) <|
  k out) <|
  fun (out17:List Int) =>
  nx out17 (wr (x6+1))) <|
  Q out) ([]) 0
def spec_l1Has (l:List Int) (n:Int) (Q:Bool→Prop):Prop :=
  Loop1 (fun (x:Int) nx =>
  br (decide (x<(ln l))) (idx l x fun x1 =>
  br (x1==n) (Q true) <|
  nx (wr (x+1))) <|
  Q false) 0
def spec_uSurvey (g:Geo) (sx:List Variable) (l:List Record) (Q:Bool→Prop):Prop :=
  jn (fun (k:Bool→Prop)=>spec_gGood ((Geo.mk g.Parents)) fun r22 =>
  br (!r22) (k true) <|
  spec_dInput sx l fun r25 =>
  k (!r25)) <|
  fun (x19:Bool) =>
  br (x19) (Q false) <|
  spec_gLeaves ((Geo.mk g.Parents)) fun r33 =>
  Loop1 (fun (x43:Int) nx =>
  br (decide (x43<(ln l))) (idx l x43 fun x47 =>
  spec_l1Has r33 x47.Area fun r70 =>
  br (!r70) (Q false) <|
  nx (wr (x43+1))) <|
  Q true) 0
def spec_l1Most (a:Int) (b:Int) (Q:Int→Prop):Prop :=
  br (decide (a>b)) (Q a) <|
  Q b
def spec_l1Abs (n:Int) (Q:Int→Prop):Prop :=
  spec_l1Most n (wr (0-n)) fun r =>
  Q r
def spec_fGcd (a:Int) (b:Int) (Q:Int→Prop):Prop :=
  Loop2 (fun (a1:Int) (b2:Int) nx =>
  br (b2 != 0) (b2≠0∧(
  nx b2 (Int.tmod a1 b2))) <|
  spec_l1Abs a1 fun r =>
  Q r) a b
def spec_fGood (f:Frac) (Q:Bool→Prop):Prop :=
  jn (fun (k:Bool→Prop)=>spec_l1In f.Den 1 1000000000 fun r =>
  br (r) (spec_l1In f.Num ((-1000000000)) 1000000000 fun r10 =>
  br (r10) (spec_fGcd f.Num f.Den fun r15 =>
  k (r15==1)) <|
  k false) <|
  k false) <|
  fun (x4:Bool) =>
  Q x4
def spec_pGood (x:Loss) (Q:Bool→Prop):Prop :=
  jn (fun (k:Bool→Prop)=>spec_fGood ((Frac.mk x.Ratio.Num x.Ratio.Den)) fun r =>
  br (r) (spec_fGood ((Frac.mk x.Rho.Num x.Rho.Den)) fun r10 =>
  br (r10) (br (decide (x.Ratio.Num≥x.Ratio.Den)) (k (decide (x.Rho.Num≥0))) <|
  k false) <|
  k false) <|
  k false) <|
  fun (x4:Bool) =>
  Q x4
def spec_gDepth (g:Geo) (i:Int) (Q:Int→Prop):Prop :=
  Loop2 (fun (i2:Int) (n:Int) nx =>
  idx g.Parents i2 fun x4 =>
  br (decide (x4≥0)) (idx g.Parents i2 fun x11 =>
  nx x11 (wr (n+1))) <|
  Q n) i 0
def spec_gLevel (g:Geo) (level:Int) (Q:(List Int)→Prop):Prop :=
  Loop2 (fun (out:List Int) (x6:Int) nx =>
  br (decide (x6<(ln g.Parents))) (jn (fun (k:(List Int)→Prop)=>spec_gDepth ((Geo.mk g.Parents)) x6 fun r27 =>
  br (r27==level) ((ln out+ln ([x6])) * 8≤140737488355328∧(
  k (out++([x6])))) <|
  k out) <|
  fun (out17:List Int) =>
  nx out17 (wr (x6+1))) <|
  Q out) ([]) 0
def spec_l1Rising (l:List Int) (lo:Int) (hi:Int) (Q:Bool→Prop):Prop :=
  Loop1 (fun (x:Int) nx =>
  br (decide (x<(ln l))) (idx l x fun x2 =>
  jn (fun (k:Bool→Prop)=>spec_l1In x2 lo hi fun r14 =>
  br (!r14) (k true) <|
  br (decide (x>0)) (idx l (wr (x-1)) fun x19 =>
  k (decide (x19≥x2))) <|
  k false) <|
  fun (x11:Bool) =>
  br (x11) (Q false) <|
  nx (wr (x+1))) <|
  Q true) 0
def spec_uWhere (sx:List Variable) (wherex:List Int) (Q:Bool→Prop):Prop :=
  br ((ln wherex)!=(ln sx)) (Q false) <|
  Loop1 (fun (x:Int) nx =>
  br (decide (x<(ln sx))) (idx sx x fun x9 =>
  idx wherex x fun x21 =>
  (0:Int)≤(IntKind.u64.wrap (x9.Levels))∧(
  det1 (spec_l1In x21 0 (wr ((shl .i64 1 (IntKind.u64.wrap (x9.Levels)))-1))) fun r32 =>
  br (!r32) (Q false) <|
  nx (wr (x+1)))) <|
  Q true) 0
def spec_sPart (sx:List Variable) (vars:List Int) (Q:(List Variable)→Prop):Prop :=
  Loop2 (fun (out:List Variable) (x:Int) nx =>
  br (decide (x<(ln vars))) (idx vars x fun x13 =>
  idx sx x13 fun x20 =>
  (ln out+ln ([x20])) * 24≤140737488355328∧(
  nx (out++([x20])) (wr (x+1)))) <|
  Q out) ([]) 0
def spec_sCount (sx:List Variable) (Q:Int→Prop):Prop :=
  Loop2 (fun (n:Int) (x:Int) nx =>
  br (decide (x<(ln sx))) (idx sx x fun x2 =>
  nx (wr (n * x2.Levels)) (wr (x+1))) <|
  Q n) 1 0
def spec_uCount (g:Geo) (sx:List Variable) (t:Table) (Q:Int→Prop):Prop :=
  spec_gLevel ((Geo.mk g.Parents)) t.Level fun r31 =>
  spec_sPart sx t.Vars fun r46 =>
  det1 (spec_sCount r46) fun r59 =>
  Q (wr ((ln r31) * r59))
def spec_uGood (g:Geo) (sx:List Variable) (t:Table) (Q:Bool→Prop):Prop :=
  jn (fun (k:Bool→Prop)=>spec_gGood ((Geo.mk g.Parents)) fun r37 =>
  br (!r37) (k true) <|
  spec_sGood sx fun r40 =>
  br (!r40) (k true) <|
  spec_gLevel ((Geo.mk g.Parents)) t.Level fun r49 =>
  br ((ln r49)==0) (k true) <|
  spec_l1Rising t.Vars 0 (wr ((ln sx)-1)) fun r62 =>
  br (!r62) (k true) <|
  spec_uWhere sx t.Where fun r70 =>
  br (!r70) (k true) <|
  spec_l1In t.Sum ((-1)) (wr ((ln sx)-1)) fun r80 =>
  k (!r80)) <|
  fun (x34:Bool) =>
  br (x34) (Q false) <|
  spec_uCount ((Geo.mk g.Parents)) sx ((Table.mk t.Level t.Vars t.Where t.Sum)) fun r88 =>
  Q (decide (r88≤600))
def spec_l1Same (a:List Int) (b:List Int) (Q:Bool→Prop):Prop :=
  br ((ln a)!=(ln b)) (Q false) <|
  Loop1 (fun (x:Int) nx =>
  br (decide (x<(ln a))) (idx a x fun x10 =>
  idx b x fun x17 =>
  br (x10 != x17) (Q false) <|
  nx (wr (x+1))) <|
  Q true) 0
def spec_jSame (a:Table) (b:Table) (Q:Bool→Prop):Prop :=
  jn (fun (k:Bool→Prop)=>br (a.Level==b.Level) (spec_l1Same a.Vars b.Vars fun r39 =>
  br (r39) (spec_l1Same a.Where b.Where fun r45 =>
  br (r45) (k (a.Sum==b.Sum)) <|
  k false) <|
  k false) <|
  k false) <|
  fun (x36:Bool) =>
  Q x36
def spec_jFind (l:List Table) (t:Table) (Q:Int→Prop):Prop :=
  Loop1 (fun (x14:Int) nx =>
  br (decide (x14<(ln l))) (idx l x14 fun x17 =>
  spec_jSame ((Table.mk x17.Level x17.Vars x17.Where x17.Sum)) ((Table.mk t.Level t.Vars t.Where t.Sum)) fun r50 =>
  br (r50) (Q x14) <|
  nx (wr (x14+1))) <|
  Q ((-1))) 0
def spec_fInt (n:Int) (Q:Frac→Prop):Prop :=
  Q ((Frac.mk n 1))
def spec_pNone  (Q:Loss→Prop):Prop :=
  spec_fInt 1 fun r =>
  spec_fInt 0 fun r3 =>
  Q ((Loss.mk ((Frac.mk r.Num r.Den)) ((Frac.mk r3.Num r3.Den))))
def spec_fMake (n:Int) (d:Int) (Q:Frac→Bool→Prop):Prop :=
  br (d==0) (Q ((Frac.mk 0 0)) false) <|
  spec_fGcd n d fun r =>
  jn (fun (k:Int→Prop)=>br (decide (d<0)) (k (wr (0-r))) <|
  k r) <|
  fun (g:Int) =>
  g≠0∧(
  g≠0∧(
  spec_fGood ((Frac.mk (wr (Int.tdiv n g)) (wr (Int.tdiv d g)))) fun r28 =>
  br (!r28) (Q ((Frac.mk 0 0)) false) <|
  Q ((Frac.mk (wr (Int.tdiv n g)) (wr (Int.tdiv d g)))) true))
def spec_fMul (a:Frac) (b:Frac) (Q:Frac→Bool→Prop):Prop :=
  spec_fMake (wr (a.Num * b.Num)) (wr (a.Den * b.Den)) fun r r14 =>
  Q ((Frac.mk r.Num r.Den)) r14
def spec_fAdd (a:Frac) (b:Frac) (Q:Frac→Bool→Prop):Prop :=
  spec_fMake (wr ((wr (a.Num * b.Den))+(wr (b.Num * a.Den)))) (wr (a.Den * b.Den)) fun r r14 =>
  Q ((Frac.mk r.Num r.Den)) r14
def spec_pTwo (a:Loss) (b:Loss) (Q:Loss→Bool→Prop):Prop :=
  spec_fMul ((Frac.mk a.Ratio.Num a.Ratio.Den)) ((Frac.mk b.Ratio.Num b.Ratio.Den)) fun r r14 =>
  spec_fAdd ((Frac.mk a.Rho.Num a.Rho.Den)) ((Frac.mk b.Rho.Num b.Rho.Den)) fun r30 r31 =>
  jn (fun (k:Bool→Prop)=>br (!r14) (k true) <|
  k (!r31)) <|
  fun (x61:Bool) =>
  br (x61) (Q ((Loss.mk ((Frac.mk 0 0)) ((Frac.mk 0 0)))) false) <|
  Q ((Loss.mk ((Frac.mk r.Num r.Den)) ((Frac.mk r30.Num r30.Den)))) true
def spec_jSpent (x:Server) (n:Int) (Q:Loss→Bool→Prop):Prop :=
  spec_pNone fun r32 =>
  Loop5 (fun (n42:Int) (num:Int) (den:Int) (num43:Int) (den44:Int) nx =>
  br (decide (n42>0)) (spec_pTwo ((Loss.mk ((Frac.mk num den)) ((Frac.mk num43 den44)))) ((Loss.mk ((Frac.mk x.Cost.Ratio.Num x.Cost.Ratio.Den)) ((Frac.mk x.Cost.Rho.Num x.Cost.Rho.Den)))) fun r52 r53 =>
  br (!r53) (Q ((Loss.mk ((Frac.mk 0 0)) ((Frac.mk 0 0)))) false) <|
  nx (wr (n42-1)) r52.Ratio.Num r52.Ratio.Den r52.Rho.Num r52.Rho.Den) <|
  Q ((Loss.mk ((Frac.mk num den)) ((Frac.mk num43 den44)))) true) n r32.Ratio.Num r32.Ratio.Den r32.Rho.Num r32.Rho.Den
def spec_l1Sign (n:Int) (Q:Int→Prop):Prop :=
  br (decide (n<0)) (Q ((-1))) <|
  br (decide (n>0)) (Q 1) <|
  Q 0
def spec_fCmp (a:Frac) (b:Frac) (Q:Int→Prop):Prop :=
  spec_l1Sign (wr ((wr (a.Num * b.Den))-(wr (b.Num * a.Den)))) fun r =>
  Q r
def spec_pWithin (budget:Loss) (x:Loss) (Q:Bool→Prop):Prop :=
  jn (fun (k:Bool→Prop)=>spec_fCmp ((Frac.mk x.Ratio.Num x.Ratio.Den)) ((Frac.mk budget.Ratio.Num budget.Ratio.Den)) fun r =>
  br (decide (r≤0)) (spec_fCmp ((Frac.mk x.Rho.Num x.Rho.Den)) ((Frac.mk budget.Rho.Num budget.Rho.Den)) fun r19 =>
  k (decide (r19≤0))) <|
  k false) <|
  fun (x12:Bool) =>
  Q x12
def spec_jFits (x:Server) (n:Int) (Q:Bool→Prop):Prop :=
  spec_jSpent ((Server.mk ((Geo.mk x.G.Parents)) x.S x.Data x.Plan ((Loss.mk ((Frac.mk x.Cost.Ratio.Num x.Cost.Ratio.Den)) ((Frac.mk x.Cost.Rho.Num x.Cost.Rho.Den)))) ((Loss.mk ((Frac.mk x.Budget.Ratio.Num x.Budget.Ratio.Den)) ((Frac.mk x.Budget.Rho.Num x.Budget.Rho.Den)))) x.Floor x.Asked)) n fun r27 r28 =>
  jn (fun (k:Bool→Prop)=>br (r28) (spec_pWithin ((Loss.mk ((Frac.mk x.Budget.Ratio.Num x.Budget.Ratio.Den)) ((Frac.mk x.Budget.Rho.Num x.Budget.Rho.Den)))) ((Loss.mk ((Frac.mk r27.Ratio.Num r27.Ratio.Den)) ((Frac.mk r27.Rho.Num r27.Rho.Den)))) fun r69 =>
  k r69) <|
  k false) <|
  fun (x66:Bool) =>
  Q x66
def spec_gUp (g:Geo) (i:Int) (level:Int) (Q:Int→Prop):Prop :=
  spec_gDepth ((Geo.mk g.Parents)) i fun r2 =>
  br (decide (level<0)) (Q ((-1))) <|
  Loop2 (fun (i7:Int) (d:Int) nx =>
  br (decide (d>level)) (idx g.Parents i7 fun x11 =>
  nx x11 (wr (d-1))) <|
  br (decide (d<level)) (Q ((-1))) <|
  Q i7) i r2
def spec_uMeets (t:Table) (values:List Int) (Q:Bool→Prop):Prop :=
  Loop1 (fun (x14:Int) nx =>
  br (decide (x14<(ln t.Where))) (idx t.Where x14 fun x16 =>
  jn (fun (k:Bool→Prop)=>br (x16 != 0) (idx values x14 fun x28 =>
  (0:Int)≤(IntKind.u64.wrap (x28))∧(
  k ((bits .and .i64 (shr .i64 x16 (IntKind.u64.wrap (x28))) 1)==0))) <|
  k false) <|
  fun (x25:Bool) =>
  br (x25) (Q false) <|
  nx (wr (x14+1))) <|
  Q true) 0
def spec_l1Find (l:List Int) (n:Int) (Q:Int→Prop):Prop :=
  Loop1 (fun (x:Int) nx =>
  br (decide (x<(ln l))) (idx l x fun x1 =>
  br (x1==n) (Q x) <|
  nx (wr (x+1))) <|
  Q ((-1))) 0
def spec_sPick (values:List Int) (vars:List Int) (Q:(List Int)→Prop):Prop :=
  Loop2 (fun (out:List Int) (x:Int) nx =>
  br (decide (x<(ln vars))) (idx vars x fun x13 =>
  idx values x13 fun x20 =>
  (ln out+ln ([x20])) * 8≤140737488355328∧(
  nx (out++([x20])) (wr (x+1)))) <|
  Q out) ([]) 0
def spec_sIndex (sx:List Variable) (values:List Int) (Q:Int→Prop):Prop :=
  Loop2 (fun (n:Int) (x:Int) nx =>
  br (decide (x<(ln sx))) (idx sx x fun x8 =>
  idx values x fun x20 =>
  nx (wr ((wr (n * x8.Levels))+x20)) (wr (x+1))) <|
  Q n) 0 0
def spec_uCell (g:Geo) (sx:List Variable) (t:Table) (r19:Record) (Q:Int→Int→Prop):Prop :=
  spec_gUp ((Geo.mk g.Parents)) r19.Area t.Level fun r39 =>
  jn (fun (k:Bool→Prop)=>br (decide (r39<0)) (k true) <|
  spec_uMeets ((Table.mk t.Level t.Vars t.Where t.Sum)) r19.Values fun r62 =>
  k (!r62)) <|
  fun (x59:Bool) =>
  br (x59) (Q ((-1)) 0) <|
  spec_sPart sx t.Vars fun r68 =>
  spec_gLevel ((Geo.mk g.Parents)) t.Level fun r88 =>
  det1 (spec_l1Find r88 r39) fun r103 =>
  det1 (spec_sCount r68) fun r104 =>
  spec_sPick r19.Values t.Vars fun r110 =>
  det1 (spec_sIndex r68 r110) fun r124 =>
  br (decide (t.Sum<0)) (Q (wr ((wr (r103 * r104))+r124)) 1) <|
  idx r19.Values t.Sum fun x136 =>
  Q (wr ((wr (r103 * r104))+r124)) x136
def spec_uTable (g:Geo) (sx:List Variable) (t:Table) (l:List Record) (Q:(List Int)→Prop):Prop :=
  spec_uCount ((Geo.mk g.Parents)) sx ((Table.mk t.Level t.Vars t.Where t.Sum)) fun r32 =>
  (0:Int)≤r32∧8 * r32≤140737488355328∧(
  Loop2 (fun (out:List Int) (x52:Int) nx =>
  br (decide (x52<(ln l))) (jn (fun (k:(List Int)→Prop)=>idx l x52 fun x94 =>
  spec_uCell ((Geo.mk g.Parents)) sx ((Table.mk t.Level t.Vars t.Where t.Sum)) ((Record.mk x94.Area x94.House x94.Values)) fun r119 r120 =>
  br (decide (r119≥0)) (idx out r119 fun x134 =>
  (0:Int)≤r119∧Int.toNat r119<List.length out∧(
  k (List.set out (Int.toNat r119) (wr (x134+r120))))) <|
  k out) <|
  fun (out86:List Int) =>
  nx out86 (wr (x52+1))) <|
  Q out) (List.replicate (Int.toNat r32) ((0:Int))) 0)
def spec_jFewest (cells:List Int) (Q:Int→Prop):Prop :=
  Loop2 (fun (best:Int) (x:Int) nx =>
  br (decide (x<(ln cells))) (jn (fun (k:Int→Prop)=>idx cells x fun x3 =>
  jn (fun (k11:Bool→Prop)=>br (decide (x3>0)) (br (best==0) (k11 true) <|
  k11 (decide (x3<best))) <|
  k11 false) <|
  fun (x9:Bool) =>
  br (x9) (k x3) <|
  k best) <|
  fun (best1:Int) =>
  nx best1 (wr (x+1))) <|
  Q best) 0 0
def spec_jGap (x:Server) (asked:List Table) (t:Table) (Q:Int→Prop):Prop :=
  spec_uTable ((Geo.mk x.G.Parents)) x.S ((Table.mk t.Level t.Vars t.Where t.Sum)) x.Data fun r51 =>
  Loop2 (fun (best:Int) (x65:Int) nx =>
  br (decide (x65<(ln asked))) (jn (fun (k:Int→Prop)=>idx asked x65 fun x90 =>
  jn (fun (k145:Bool→Prop)=>br (x90.Level != t.Level) (k145 true) <|
  spec_l1Same x90.Vars t.Vars fun r148 =>
  br (!r148) (k145 true) <|
  k145 (x90.Sum != t.Sum)) <|
  fun (x142:Bool) =>
  br (x142) (k best) <|
  spec_uTable ((Geo.mk x.G.Parents)) x.S ((Table.mk x90.Level x90.Vars x90.Where x90.Sum)) x.Data fun r158 =>
  Loop2 (fun (best172:Int) (x173:Int) nx179 =>
  br (decide (x173<(ln r158))) (jn (fun (k201:Int→Prop)=>idx r158 x173 fun x203 =>
  idx r51 x173 fun x212 =>
  spec_l1Abs (wr (x203-x212)) fun r221 =>
  jn (fun (k239:Bool→Prop)=>br (decide (r221>0)) (br (best172==0) (k239 true) <|
  k239 (decide (r221<best172))) <|
  k239 false) <|
  fun (x237:Bool) =>
  br (x237) (k201 r221) <|
  k201 best172) <|
  fun (best198:Int) =>
  nx179 best198 (wr (x173+1))) <|
  k best172) best 0) <|
  fun (best87:Int) =>
  nx best87 (wr (x65+1))) <|
  Q best) 0 0
def spec_jCode (x:Server) (asked:List Table) (t:Table) (Q:Int→Prop):Prop :=
  spec_uGood ((Geo.mk x.G.Parents)) x.S ((Table.mk t.Level t.Vars t.Where t.Sum)) fun r51 =>
  br (!r51) (Q 1) <|
  spec_jFind x.Plan ((Table.mk t.Level t.Vars t.Where t.Sum)) fun r62 =>
  br (decide (r62<0)) (Q 2) <|
  spec_jFind asked ((Table.mk t.Level t.Vars t.Where t.Sum)) fun r73 =>
  br (decide (r73≥0)) (Q 0) <|
  spec_jFits ((Server.mk ((Geo.mk x.G.Parents)) x.S x.Data x.Plan ((Loss.mk ((Frac.mk x.Cost.Ratio.Num x.Cost.Ratio.Den)) ((Frac.mk x.Cost.Rho.Num x.Cost.Rho.Den)))) ((Loss.mk ((Frac.mk x.Budget.Ratio.Num x.Budget.Ratio.Den)) ((Frac.mk x.Budget.Rho.Num x.Budget.Rho.Den)))) x.Floor x.Asked)) (wr ((ln asked)+1)) fun r85 =>
  br (!r85) (Q 3) <|
  br (decide (t.Sum≥0)) (Q 0) <|
  spec_uTable ((Geo.mk x.G.Parents)) x.S ((Table.mk t.Level t.Vars t.Where t.Sum)) x.Data fun r104 =>
  spec_jFewest r104 fun r118 =>
  jn (fun (k:Bool→Prop)=>br (decide (r118>0)) (k (decide (r118<x.Floor))) <|
  k false) <|
  fun (x139:Bool) =>
  br (x139) (Q 4) <|
  spec_jGap ((Server.mk ((Geo.mk x.G.Parents)) x.S x.Data x.Plan ((Loss.mk ((Frac.mk x.Cost.Ratio.Num x.Cost.Ratio.Den)) ((Frac.mk x.Cost.Rho.Num x.Cost.Rho.Den)))) ((Loss.mk ((Frac.mk x.Budget.Ratio.Num x.Budget.Ratio.Den)) ((Frac.mk x.Budget.Rho.Num x.Budget.Rho.Den)))) x.Floor x.Asked)) asked ((Table.mk t.Level t.Vars t.Where t.Sum)) fun r143 =>
  jn (fun (k155:Bool→Prop)=>br (decide (r143>0)) (k155 (decide (r143<x.Floor))) <|
  k155 false) <|
  fun (x153:Bool) =>
  br (x153) (Q 5) <|
  Q 0
def spec_jGood (x:Server) (Q:Bool→Prop):Prop :=
  jn (fun (k:Bool→Prop)=>spec_uSurvey ((Geo.mk x.G.Parents)) x.S x.Data fun r37 =>
  br (!r37) (k true) <|
  br (decide ((ln x.Plan)>20)) (k true) <|
  spec_pGood ((Loss.mk ((Frac.mk x.Cost.Ratio.Num x.Cost.Ratio.Den)) ((Frac.mk x.Cost.Rho.Num x.Cost.Rho.Den)))) fun r42 =>
  br (!r42) (k true) <|
  spec_pGood ((Loss.mk ((Frac.mk x.Budget.Ratio.Num x.Budget.Ratio.Den)) ((Frac.mk x.Budget.Rho.Num x.Budget.Rho.Den)))) fun r47 =>
  br (!r47) (k true) <|
  spec_l1In x.Floor 0 40 fun r53 =>
  k (!r53)) <|
  fun (x34:Bool) =>
  br (x34) (Q false) <|
  Loop1 (fun (x60:Int) nx =>
  br (decide (x60<(ln x.Plan))) (idx x.Plan x60 fun x64 =>
  jn (fun (k119:Bool→Prop)=>det1 (spec_uGood ((Geo.mk x.G.Parents)) x.S ((Table.mk x64.Level x64.Vars x64.Where x64.Sum))) fun r121 =>
  br (!r121) (k119 true) <|
  (0:Int)≤0∧0≤x60∧x60≤ln x.Plan∧(
  det1 (spec_jFind (List.take (Int.toNat x60-Int.toNat 0) (List.drop (Int.toNat 0) x.Plan)) ((Table.mk x64.Level x64.Vars x64.Where x64.Sum))) fun r131 =>
  k119 (decide (r131≥0)))) <|
  fun (x116:Bool) =>
  br (x116) (Q false) <|
  nx (wr (x60+1))) <|
  Loop1 (fun (x141:Int) nx147 =>
  br (decide (x141<(ln x.Asked))) (idx x.Asked x141 fun x149 =>
  jn (fun (k210:Bool→Prop)=>(0:Int)≤0∧0≤x141∧x141≤ln x.Asked∧(
  det1 (spec_jFind (List.take (Int.toNat x141-Int.toNat 0) (List.drop (Int.toNat 0) x.Asked)) ((Table.mk x149.Level x149.Vars x149.Where x149.Sum))) fun r219 =>
  br (decide (r219≥0)) (k210 true) <|
  (0:Int)≤0∧0≤x141∧x141≤ln x.Asked∧(
  det1 (spec_jCode ((Server.mk ((Geo.mk x.G.Parents)) x.S x.Data x.Plan ((Loss.mk ((Frac.mk x.Cost.Ratio.Num x.Cost.Ratio.Den)) ((Frac.mk x.Cost.Rho.Num x.Cost.Rho.Den)))) ((Loss.mk ((Frac.mk x.Budget.Ratio.Num x.Budget.Ratio.Den)) ((Frac.mk x.Budget.Rho.Num x.Budget.Rho.Den)))) x.Floor x.Asked)) (List.take (Int.toNat x141-Int.toNat 0) (List.drop (Int.toNat 0) x.Asked)) ((Table.mk x149.Level x149.Vars x149.Where x149.Sum))) fun r233 =>
  k210 (r233 != 0)))) <|
  fun (x207:Bool) =>
  br (x207) (Q false) <|
  nx147 (wr (x141+1))) <|
  Q true) 0) 0
def spec_l1Own (l:List Int) (Q:(List Int)→Prop):Prop :=
  (ln (([]:List Int))+ln l) * 8≤140737488355328∧(
  Q ((([]:List Int))++l))
def spec_jTable (t:Table) (Q:Table→Prop):Prop :=
  spec_l1Own t.Vars fun r18 =>
  spec_l1Own t.Where fun r35 =>
  Q ((Table.mk t.Level r18 r35 t.Sum))
def spec_jTables (l:List Table) (Q:(List Table)→Prop):Prop :=
  Loop2 (fun (out:List Table) (x:Int) nx =>
  br (decide (x<(ln l))) (idx l x fun x7 =>
  spec_jTable ((Table.mk x7.Level x7.Vars x7.Where x7.Sum)) fun r36 =>
  (ln out+ln ([((Table.mk r36.Level r36.Vars r36.Where r36.Sum):Table)])) * 64≤140737488355328∧(
  nx (out++([((Table.mk r36.Level r36.Vars r36.Where r36.Sum):Table)])) (wr (x+1)))) <|
  Q out) ([]) 0
def spec_rOwn (r:Record) (Q:Record→Prop):Prop :=
  spec_l1Own r.Values fun r13 =>
  Q ((Record.mk r.Area r.House r13))
def spec_jOwn (x:Server) (Q:Server→Prop):Prop :=
  jn (fun (k:(List Int)→(List Variable)→(List Table)→Int→Int→Int→Int→Int→Int→Int→Int→Int→(List Table)→Prop)=>(
  spec_l1Own x.G.Parents fun r110 =>
  (ln (([]:List Variable))+ln x.S) * 24≤140737488355328∧(
  spec_jTables x.Plan fun r248 =>
  spec_jTables x.Asked fun r294 =>
  k r110 ((([]:List Variable))++x.S) r248 x.Cost.Ratio.Num x.Cost.Ratio.Den x.Cost.Rho.Num x.Cost.Rho.Den x.Budget.Ratio.Num x.Budget.Ratio.Den x.Budget.Rho.Num x.Budget.Rho.Den x.Floor r294))∧(
  spec_l1Own x.G.Parents fun r430 =>
  (ln (([]:List Variable))+ln x.S) * 24≤140737488355328∧(
  spec_jTables x.Plan fun r535 =>
  spec_jTables x.Asked fun r581 =>
  k r430 ((([]:List Variable))++x.S) r535 x.Cost.Ratio.Num x.Cost.Ratio.Den x.Cost.Rho.Num x.Cost.Rho.Den x.Budget.Ratio.Num x.Budget.Ratio.Den x.Budget.Rho.Num x.Budget.Rho.Den x.Floor r581))) <|
  fun (parents:List Int) (sx:List Variable) (plan:List Table) (num:Int) (den:Int) (num59:Int) (den60:Int) (num61:Int) (den62:Int) (num63:Int) (den64:Int) (floor:Int) (asked:List Table) =>
  Loop2 (fun (x669:Int) (data:List Record) nx =>
  br (decide (x669<(ln x.Data))) (idx x.Data x669 fun x681 =>
  spec_rOwn ((Record.mk x681.Area x681.House x681.Values)) fun r713 =>
  (ln data+ln ([((Record.mk r713.Area r713.House r713.Values):Record)])) * 40≤140737488355328∧(
  nx (wr (x669+1)) (data++([((Record.mk r713.Area r713.House r713.Values):Record)])))) <|
  Q ((Server.mk ((Geo.mk parents)) sx data plan ((Loss.mk ((Frac.mk num den)) ((Frac.mk num59 den60)))) ((Loss.mk ((Frac.mk num61 den62)) ((Frac.mk num63 den64)))) floor asked))) 0 ([])
def spec_jAsk (x:Server) (t:Table) (Q:Server→(List Int)→Int→Prop):Prop :=
  spec_jCode ((Server.mk ((Geo.mk x.G.Parents)) x.S x.Data x.Plan ((Loss.mk ((Frac.mk x.Cost.Ratio.Num x.Cost.Ratio.Den)) ((Frac.mk x.Cost.Rho.Num x.Cost.Rho.Den)))) ((Loss.mk ((Frac.mk x.Budget.Ratio.Num x.Budget.Ratio.Den)) ((Frac.mk x.Budget.Rho.Num x.Budget.Rho.Den)))) x.Floor x.Asked)) x.Asked ((Table.mk t.Level t.Vars t.Where t.Sum)) fun r57 =>
  br (r57 != 0) (Q ((Server.mk ((Geo.mk x.G.Parents)) x.S x.Data x.Plan ((Loss.mk ((Frac.mk x.Cost.Ratio.Num x.Cost.Ratio.Den)) ((Frac.mk x.Cost.Rho.Num x.Cost.Rho.Den)))) ((Loss.mk ((Frac.mk x.Budget.Ratio.Num x.Budget.Ratio.Den)) ((Frac.mk x.Budget.Rho.Num x.Budget.Rho.Den)))) x.Floor x.Asked)) ([]) r57) <|
  jn (fun (k:(List Table)→Prop)=>spec_jFind x.Asked ((Table.mk t.Level t.Vars t.Where t.Sum)) fun r120 =>
  br (decide (r120<0)) (spec_jTables x.Asked fun r131 =>
  spec_jTable ((Table.mk t.Level t.Vars t.Where t.Sum)) fun r146 =>
  (ln r131+ln ([((Table.mk r146.Level r146.Vars r146.Where r146.Sum):Table)])) * 64≤140737488355328∧(
  k (r131++([((Table.mk r146.Level r146.Vars r146.Where r146.Sum):Table)])))) <|
  k x.Asked) <|
  fun (asked:List Table) =>
  spec_uTable ((Geo.mk x.G.Parents)) x.S ((Table.mk t.Level t.Vars t.Where t.Sum)) x.Data fun r251 =>
  Q ((Server.mk ((Geo.mk x.G.Parents)) x.S x.Data x.Plan ((Loss.mk ((Frac.mk x.Cost.Ratio.Num x.Cost.Ratio.Den)) ((Frac.mk x.Cost.Rho.Num x.Cost.Rho.Den)))) ((Loss.mk ((Frac.mk x.Budget.Ratio.Num x.Budget.Ratio.Den)) ((Frac.mk x.Budget.Rho.Num x.Budget.Rho.Den)))) x.Floor asked)) r251 r57
def spec_AskAll (x:Server) (l:List Table) (Q:(List Int)→Server→Bool→Prop):Prop :=
  jn (fun (k:Bool→Prop)=>spec_jGood ((Server.mk ((Geo.mk x.G.Parents)) x.S x.Data x.Plan ((Loss.mk ((Frac.mk x.Cost.Ratio.Num x.Cost.Ratio.Den)) ((Frac.mk x.Cost.Rho.Num x.Cost.Rho.Den)))) ((Loss.mk ((Frac.mk x.Budget.Ratio.Num x.Budget.Ratio.Den)) ((Frac.mk x.Budget.Rho.Num x.Budget.Rho.Den)))) x.Floor x.Asked)) fun r52 =>
  br (!r52) (k true) <|
  k (decide ((ln l)>20))) <|
  fun (x49:Bool) =>
  br (x49) (Q ([]) ((Server.mk ((Geo.mk ([]))) ([]) ([]) ([]) ((Loss.mk ((Frac.mk 0 0)) ((Frac.mk 0 0)))) ((Loss.mk ((Frac.mk 0 0)) ((Frac.mk 0 0)))) 0 ([]))) false) <|
  spec_jOwn ((Server.mk ((Geo.mk x.G.Parents)) x.S x.Data x.Plan ((Loss.mk ((Frac.mk x.Cost.Ratio.Num x.Cost.Ratio.Den)) ((Frac.mk x.Cost.Rho.Num x.Cost.Rho.Den)))) ((Loss.mk ((Frac.mk x.Budget.Ratio.Num x.Budget.Ratio.Den)) ((Frac.mk x.Budget.Rho.Num x.Budget.Rho.Den)))) x.Floor x.Asked)) fun r61 =>
  Loop16 (fun (codes:List Int) (x125:Int) (parents:List Int) (sx:List Variable) (data:List Record) (plan:List Table) (num:Int) (den:Int) (num146:Int) (den147:Int) (num148:Int) (den149:Int) (num150:Int) (den151:Int) (floor:Int) (asked:List Table) nx =>
  br (decide (x125<(ln l))) (idx l x125 fun x215 =>
  spec_jAsk ((Server.mk ((Geo.mk parents)) sx data plan ((Loss.mk ((Frac.mk num den)) ((Frac.mk num146 den147)))) ((Loss.mk ((Frac.mk num148 den149)) ((Frac.mk num150 den151)))) floor asked)) ((Table.mk x215.Level x215.Vars x215.Where x215.Sum)) fun r254 r255 r256 =>
  (ln codes+ln ([r256])) * 8≤140737488355328∧(
  nx (codes++([r256])) (wr (x125+1)) r254.G.Parents r254.S r254.Data r254.Plan r254.Cost.Ratio.Num r254.Cost.Ratio.Den r254.Cost.Rho.Num r254.Cost.Rho.Den r254.Budget.Ratio.Num r254.Budget.Ratio.Den r254.Budget.Rho.Num r254.Budget.Rho.Den r254.Floor r254.Asked)) <|
  Q codes ((Server.mk ((Geo.mk parents)) sx data plan ((Loss.mk ((Frac.mk num den)) ((Frac.mk num146 den147)))) ((Loss.mk ((Frac.mk num148 den149)) ((Frac.mk num150 den151)))) floor asked)) true) ([]) 0 r61.G.Parents r61.S r61.Data r61.Plan r61.Cost.Ratio.Num r61.Cost.Ratio.Den r61.Cost.Rho.Num r61.Cost.Rho.Den r61.Budget.Ratio.Num r61.Budget.Ratio.Den r61.Budget.Rho.Num r61.Budget.Rho.Den r61.Floor r61.Asked
def impl_IsGeo (g:Geo) (Q:Bool→Prop):Prop :=
  jn (fun (k:Bool→Prop)=>br (decide ((ln g.Parents)<1)) (k true) <|
  br (decide ((ln g.Parents)>30)) (k true) <|
  idx g.Parents 0 fun x8 =>
  k (x8 != ((-1)))) <|
  fun (x5:Bool) =>
  br (x5) (Q false) <|
  Loop1 (fun (i:Int) nx =>
  br (decide (i<(ln g.Parents))) (jn (fun (k19:Bool→Prop)=>idx g.Parents i fun x21 =>
  br (decide (x21<0)) (k19 true) <|
  idx g.Parents i fun x31 =>
  k19 (decide (x31≥i))) <|
  fun (x17:Bool) =>
  br (x17) (Q false) <|
  nx (wr (i+1))) <|
  Q true) 1
def impl_isWord (sx:ByteArray) (Q:Bool→Prop):Prop :=
  jn (fun (k:Bool→Prop)=>br (decide ((sln sx)<1)) (k true) <|
  k (decide ((sln sx)>8))) <|
  fun (x:Bool) =>
  br (x) (Q false) <|
  Loop1 (fun (x2:Int) nx =>
  br (decide (x2<(sln sx))) (jn (fun (k7:Bool→Prop)=>sidx sx x2 fun c =>
  br (decide ((c)<97)) (k7 true) <|
  sidx sx x2 fun c10 =>
  k7 (decide ((c10)>122))) <|
  fun (x5:Bool) =>
  br (x5) (Q false) <|
  nx (wr (x2+1))) <|
  Q true) 0
def impl_IsSchema (sx:List Variable) (Q:Bool→Prop):Prop :=
  jn (fun (k:Bool→Prop)=>br (decide ((ln sx)<1)) (k true) <|
  k (decide ((ln sx)>6))) <|
  fun (x:Bool) =>
  br (x) (Q false) <|
  Loop1 (fun (x2:Int) nx =>
  br (decide (x2<(ln sx))) (idx sx x2 fun x6 =>
  jn (fun (k25:Bool→Prop)=>impl_isWord x6.Name fun r27 =>
  br (!r27) (k25 true) <|
  br (decide (x6.Levels<2)) (k25 true) <|
  k25 (decide (x6.Levels>8))) <|
  fun (x22:Bool) =>
  br (x22) (Q false) <|
  (0:Int)≤0∧0≤x2∧x2≤ln sx∧(
  Loop1 (fun (x39:Int) nx45 =>
  br (decide (x39<(ln (List.take (Int.toNat x2-Int.toNat 0) (List.drop (Int.toNat 0) sx))))) (idx (List.take (Int.toNat x2-Int.toNat 0) (List.drop (Int.toNat 0) sx)) x39 fun x47 =>
  br (streq x47.Name x6.Name) (Q false) <|
  nx45 (wr (x39+1))) <|
  nx (wr (x2+1))) 0)) <|
  Q true) 0
def impl_areValues (sx:List Variable) (values:List Int) (Q:Bool→Prop):Prop :=
  br ((ln values)!=(ln sx)) (Q false) <|
  Loop1 (fun (x:Int) nx =>
  br (decide (x<(ln values))) (idx values x fun x8 =>
  jn (fun (k:Bool→Prop)=>br (decide (x8<0)) (k true) <|
  idx sx x fun x17 =>
  k (decide (x8≥x17.Levels))) <|
  fun (x14:Bool) =>
  br (x14) (Q false) <|
  nx (wr (x+1))) <|
  Q true) 0
def impl_isRecord (sx:List Variable) (r1:Record) (Q:Bool→Prop):Prop :=
  jn (fun (k:Bool→Prop)=>br (decide (r1.Area≥0)) (br (decide (r1.Area≤29)) (br (decide (r1.House≥0)) (br (decide (r1.House≤999)) (impl_areValues sx r1.Values fun r19 =>
  k r19) <|
  k false) <|
  k false) <|
  k false) <|
  k false) <|
  fun (x13:Bool) =>
  Q x13
def impl_isData (sx:List Variable) (l:List Record) (Q:Bool→Prop):Prop :=
  br (decide ((ln l)>40)) (Q false) <|
  Loop1 (fun (x:Int) nx =>
  br (decide (x<(ln l))) (idx l x fun x9 =>
  impl_isRecord sx ((Record.mk x9.Area x9.House x9.Values)) fun r29 =>
  br (!r29) (Q false) <|
  nx (wr (x+1))) <|
  Q true) 0
def impl_isArea (g:Geo) (i:Int) (Q:Bool→Prop):Prop :=
  jn (fun (k:Bool→Prop)=>br (decide (i≥0)) (k (decide (i<(ln g.Parents)))) <|
  k false) <|
  fun (x5:Bool) =>
  Q x5
def slices_Index_int_int (sx:List Int) (vx1:Int) (Q:Int→Prop):Prop :=
  Loop1 (fun (x:Int) nx =>
  br (decide (x<(ln sx))) (idx sx x fun x2 =>
  br (vx1==x2) (Q x) <|
  nx (wr (x+1))) <|
  Q ((-1))) 0
def slices_Contains_int_int (sx:List Int) (vx1:Int) (Q:Bool→Prop):Prop :=
  slices_Index_int_int sx vx1 fun r2 =>
  Q (decide (r2≥0))
def impl_isLeaf (g:Geo) (i:Int) (Q:Bool→Prop):Prop :=
  slices_Contains_int_int g.Parents i fun r2 =>
  Q (!r2)
def impl_isSurvey (g:Geo) (sx:List Variable) (l:List Record) (Q:Bool→Prop):Prop :=
  impl_isData sx l fun r14 =>
  br (!r14) (Q false) <|
  Loop1 (fun (x20:Int) nx =>
  br (decide (x20<(ln l))) (idx l x20 fun x24 =>
  jn (fun (k:Bool→Prop)=>impl_isArea ((Geo.mk g.Parents)) x24.Area fun r64 =>
  br (!r64) (k true) <|
  impl_isLeaf ((Geo.mk g.Parents)) x24.Area fun r70 =>
  k (!r70)) <|
  fun (x61:Bool) =>
  br (x61) (Q false) <|
  nx (wr (x20+1))) <|
  Q true) 0
def impl_areVars (sx:List Variable) (vars:List Int) (Q:Bool→Prop):Prop :=
  Loop2 (fun (last:Int) (x:Int) nx =>
  br (decide (x<(ln vars))) (idx vars x fun x7 =>
  jn (fun (k:Bool→Prop)=>br (decide (x7≤last)) (k true) <|
  k (decide (x7≥(ln sx)))) <|
  fun (x13:Bool) =>
  br (x13) (Q false) <|
  nx x7 (wr (x+1))) <|
  Q true) ((-1)) 0
def impl_fullSet (vx:Variable) (Q:Int→Prop):Prop :=
  (0:Int)≤vx.Levels∧(
  Q (wr ((shl .i64 1 vx.Levels)-1)))
def impl_isWhere (sx:List Variable) (wherex:List Int) (Q:Bool→Prop):Prop :=
  br ((ln wherex)!=(ln sx)) (Q false) <|
  Loop1 (fun (x:Int) nx =>
  br (decide (x<(ln wherex))) (idx wherex x fun x9 =>
  jn (fun (k:Bool→Prop)=>br (decide (x9<0)) (k true) <|
  idx sx x fun x22 =>
  impl_fullSet x22 fun r31 =>
  k (decide (x9>r31))) <|
  fun (x18:Bool) =>
  br (x18) (Q false) <|
  nx (wr (x+1))) <|
  Q true) 0
def impl_depthOf (g:Geo) (i:Int) (Q:Int→Prop):Prop :=
  Loop2 (fun (i2:Int) (d:Int) nx =>
  br (decide (i2>0)) (idx g.Parents i2 fun x4 =>
  nx x4 (wr (d+1))) <|
  Q d) i 0
def impl_areasAt (g:Geo) (level:Int) (Q:(List Int)→Prop):Prop :=
  Loop2 (fun (list:List Int) (x6:Int) nx =>
  br (decide (x6<(ln g.Parents))) (jn (fun (k:(List Int)→Prop)=>impl_depthOf ((Geo.mk g.Parents)) x6 fun r27 =>
  br (r27==level) ((ln list+ln ([x6])) * 8≤140737488355328∧(
  k (list++([x6])))) <|
  k list) <|
  fun (list17:List Int) =>
  nx list17 (wr (x6+1))) <|
  Q list) ([]) 0
def impl_crossed (sx:List Variable) (t:Table) (Q:(List Variable)→Prop):Prop :=
  (0:Int)≤(ln t.Vars)∧24 * (ln t.Vars)≤140737488355328∧(
  Loop2 (fun (out:List Variable) (x28:Int) nx =>
  br (decide (x28<(ln t.Vars))) (idx t.Vars x28 fun x31 =>
  idx sx x31 fun x39 =>
  (0:Int)≤x28∧Int.toNat x28<List.length out∧(
  nx (List.set out (Int.toNat x28) x39) (wr (x28+1)))) <|
  Q out) (List.replicate (Int.toNat (ln t.Vars)) ((Variable.mk ((ByteArray.mk #[])) ((0:Int))))) 0)
def impl_combinations (sx:List Variable) (Q:Int→Prop):Prop :=
  Loop2 (fun (n:Int) (x:Int) nx =>
  br (decide (x<(ln sx))) (idx sx x fun x2 =>
  nx (wr (n * x2.Levels)) (wr (x+1))) <|
  Q n) 1 0
def impl_cellCount (g:Geo) (sx:List Variable) (t:Table) (Q:Int→Prop):Prop :=
  impl_areasAt ((Geo.mk g.Parents)) t.Level fun r31 =>
  impl_crossed sx ((Table.mk t.Level t.Vars t.Where t.Sum)) fun r46 =>
  det1 (impl_combinations r46) fun r60 =>
  Q (wr ((ln r31) * r60))
def impl_isTable (g:Geo) (sx:List Variable) (t:Table) (Q:Bool→Prop):Prop :=
  jn (fun (k:Bool→Prop)=>impl_areVars sx t.Vars fun r37 =>
  br (!r37) (k true) <|
  impl_isWhere sx t.Where fun r41 =>
  br (!r41) (k true) <|
  br (decide (t.Sum<((-1)))) (k true) <|
  k (decide (t.Sum≥(ln sx)))) <|
  fun (x34:Bool) =>
  br (x34) (Q false) <|
  impl_cellCount ((Geo.mk g.Parents)) sx ((Table.mk t.Level t.Vars t.Where t.Sum)) fun r56 =>
  jn (fun (k67:Bool→Prop)=>br (decide (r56>0)) (k67 (decide (r56≤600))) <|
  k67 false) <|
  fun (x65:Bool) =>
  Q x65
def impl_isPlan (g:Geo) (sx:List Variable) (l:List Table) (Q:Bool→Prop):Prop :=
  jn (fun (k:Bool→Prop)=>impl_IsGeo ((Geo.mk g.Parents)) fun r22 =>
  br (!r22) (k true) <|
  impl_IsSchema sx fun r25 =>
  br (!r25) (k true) <|
  k (decide ((ln l)>20))) <|
  fun (x19:Bool) =>
  br (x19) (Q false) <|
  Loop1 (fun (x33:Int) nx =>
  br (decide (x33<(ln l))) (idx l x33 fun x37 =>
  impl_isTable ((Geo.mk g.Parents)) sx ((Table.mk x37.Level x37.Vars x37.Where x37.Sum)) fun r71 =>
  br (!r71) (Q false) <|
  nx (wr (x33+1))) <|
  Q true) 0
def slices_Equal_int_int (sx:List Int) (sx1:List Int) (Q:Bool→Prop):Prop :=
  br ((ln sx)!=(ln sx1)) (Q false) <|
  Loop1 (fun (x:Int) nx =>
  br (decide (x<(ln sx))) (idx sx x fun x10 =>
  idx sx1 x fun x17 =>
  br (x10 != x17) (Q false) <|
  nx (wr (x+1))) <|
  Q true) 0
def impl_equalTables (a:Table) (b:Table) (Q:Bool→Prop):Prop :=
  jn (fun (k:Bool→Prop)=>br (a.Level==b.Level) (br (a.Sum==b.Sum) (slices_Equal_int_int a.Vars b.Vars fun r40 =>
  br (r40) (slices_Equal_int_int a.Where b.Where fun r46 =>
  k r46) <|
  k false) <|
  k false) <|
  k false) <|
  fun (x36:Bool) =>
  Q x36
def impl_indexOfTable_1 (u:Table) (c7:Table) (Q:Bool→Prop):Prop :=
  impl_equalTables ((Table.mk c7.Level c7.Vars c7.Where c7.Sum)) ((Table.mk u.Level u.Vars u.Where u.Sum)) fun r24 =>
  Q r24
def slices_IndexFunc_impl_Table_impl_Table_impl_indexOfTable_1 (sx:List Table) (c1:Table) (Q:Int→Prop):Prop :=
  Loop1 (fun (x:Int) nx =>
  br (decide (x<(ln sx))) (idx sx x fun x16 =>
  impl_indexOfTable_1 x16 ((Table.mk c1.Level c1.Vars c1.Where c1.Sum)) fun r39 =>
  br (r39) (Q x) <|
  nx (wr (x+1))) <|
  Q ((-1))) 0
def impl_indexOfTable (l:List Table) (t:Table) (Q:Int→Prop):Prop :=
  slices_IndexFunc_impl_Table_impl_Table_impl_indexOfTable_1 l ((Table.mk t.Level t.Vars t.Where t.Sum)) fun r14 =>
  Q r14
def impl_areDifferent (l:List Table) (Q:Bool→Prop):Prop :=
  Loop1 (fun (x:Int) nx =>
  br (decide (x<(ln l))) (idx l x fun x2 =>
  impl_indexOfTable l ((Table.mk x2.Level x2.Vars x2.Where x2.Sum)) fun r30 =>
  br (r30 != x) (Q false) <|
  nx (wr (x+1))) <|
  Q true) 0
def impl_gcdOf (a:Int) (b:Int) (Q:Int→Prop):Prop :=
  jn (fun (k:Int→Prop)=>br (decide (a<0)) (k (wr (0-a))) <|
  k a) <|
  fun (a1:Int) =>
  jn (fun (k4:Int→Prop)=>br (decide (b<0)) (k4 (wr (0-b))) <|
  k4 b) <|
  fun (b2:Int) =>
  Loop2 (fun (a7:Int) (b8:Int) nx =>
  br (b8 != 0) (b8≠0∧(
  nx b8 (Int.tmod a7 b8))) <|
  Q a7) a1 b2
def impl_IsFrac (f:Frac) (Q:Bool→Prop):Prop :=
  jn (fun (k:Bool→Prop)=>br (decide (f.Den≥1)) (br (decide (f.Den≤1000000000)) (br (decide (f.Num≥((-1000000000)))) (br (decide (f.Num≤1000000000)) (impl_gcdOf f.Num f.Den fun r =>
  k (r==1)) <|
  k false) <|
  k false) <|
  k false) <|
  k false) <|
  fun (x4:Bool) =>
  Q x4
def impl_IsLoss (x:Loss) (Q:Bool→Prop):Prop :=
  jn (fun (k:Bool→Prop)=>impl_IsFrac ((Frac.mk x.Ratio.Num x.Ratio.Den)) fun r =>
  br (r) (impl_IsFrac ((Frac.mk x.Rho.Num x.Rho.Den)) fun r10 =>
  br (r10) (br (decide (x.Ratio.Num≥x.Ratio.Den)) (k (decide (x.Rho.Num≥0))) <|
  k false) <|
  k false) <|
  k false) <|
  fun (x4:Bool) =>
  Q x4
def impl_NoLoss  (Q:Loss→Prop):Prop :=
  Q ((Loss.mk ((Frac.mk 1 1)) ((Frac.mk 0 1))))
def impl_reduced (n:Int) (d:Int) (Q:Frac→Bool→Prop):Prop :=
  impl_gcdOf n d fun r =>
  r≠0∧(
  r≠0∧(
  jn (fun (k:Int→Int→Prop)=>br (decide ((wr (Int.tdiv d r))<0)) (k (wr (0-(wr (Int.tdiv n r)))) (wr (0-(wr (Int.tdiv d r))))) <|
  k (wr (Int.tdiv n r)) (wr (Int.tdiv d r))) <|
  fun (n10:Int) (d11:Int) =>
  jn (fun (k15:Bool→Prop)=>br (decide (n10>1000000000)) (k15 true) <|
  br (decide (n10<((-1000000000)))) (k15 true) <|
  k15 (decide (d11>1000000000))) <|
  fun (x13:Bool) =>
  br (x13) (Q ((Frac.mk 0 0)) false) <|
  Q ((Frac.mk n10 d11)) true))
def impl_MulFrac (a:Frac) (b:Frac) (Q:Frac→Bool→Prop):Prop :=
  jn (fun (k:Bool→Prop)=>impl_IsFrac ((Frac.mk a.Num a.Den)) fun r =>
  br (!r) (k true) <|
  impl_IsFrac ((Frac.mk b.Num b.Den)) fun r27 =>
  k (!r27)) <|
  fun (x21:Bool) =>
  br (x21) (Q ((Frac.mk 0 0)) false) <|
  impl_reduced (wr (a.Num * b.Num)) (wr (a.Den * b.Den)) fun r38 r39 =>
  Q ((Frac.mk r38.Num r38.Den)) r39
def impl_AddFrac (a:Frac) (b:Frac) (Q:Frac→Bool→Prop):Prop :=
  jn (fun (k:Bool→Prop)=>impl_IsFrac ((Frac.mk a.Num a.Den)) fun r =>
  br (!r) (k true) <|
  impl_IsFrac ((Frac.mk b.Num b.Den)) fun r27 =>
  k (!r27)) <|
  fun (x21:Bool) =>
  br (x21) (Q ((Frac.mk 0 0)) false) <|
  impl_reduced (wr ((wr (a.Num * b.Den))+(wr (b.Num * a.Den)))) (wr (a.Den * b.Den)) fun r38 r39 =>
  Q ((Frac.mk r38.Num r38.Den)) r39
def impl_composed (a:Loss) (b:Loss) (Q:Loss→Bool→Prop):Prop :=
  impl_MulFrac ((Frac.mk a.Ratio.Num a.Ratio.Den)) ((Frac.mk b.Ratio.Num b.Ratio.Den)) fun r r14 =>
  br (!r14) (Q ((Loss.mk ((Frac.mk 0 0)) ((Frac.mk 0 0)))) false) <|
  impl_AddFrac ((Frac.mk a.Rho.Num a.Rho.Den)) ((Frac.mk b.Rho.Num b.Rho.Den)) fun r45 r46 =>
  br (!r46) (Q ((Loss.mk ((Frac.mk 0 0)) ((Frac.mk 0 0)))) false) <|
  Q ((Loss.mk ((Frac.mk r.Num r.Den)) ((Frac.mk r45.Num r45.Den)))) true
def impl_costOf (cost:Loss) (n:Int) (Q:Loss→Bool→Prop):Prop :=
  impl_NoLoss fun r =>
  Loop5 (fun (x15:Int) (num:Int) (den:Int) (num16:Int) (den17:Int) nx =>
  br (decide (x15<n)) (impl_composed ((Loss.mk ((Frac.mk num den)) ((Frac.mk num16 den17)))) ((Loss.mk ((Frac.mk cost.Ratio.Num cost.Ratio.Den)) ((Frac.mk cost.Rho.Num cost.Rho.Den)))) fun r25 r26 =>
  br (!r26) (Q ((Loss.mk ((Frac.mk 0 0)) ((Frac.mk 0 0)))) false) <|
  nx (wr (x15+1)) r25.Ratio.Num r25.Ratio.Den r25.Rho.Num r25.Rho.Den) <|
  Q ((Loss.mk ((Frac.mk num den)) ((Frac.mk num16 den17)))) true) 0 r.Ratio.Num r.Ratio.Den r.Rho.Num r.Rho.Den
def impl_cmpFrac (a:Frac) (b:Frac) (Q:Int→Prop):Prop :=
  br (decide ((wr (a.Num * b.Den))<(wr (b.Num * a.Den)))) (Q ((-1))) <|
  br (decide ((wr (a.Num * b.Den))>(wr (b.Num * a.Den)))) (Q 1) <|
  Q 0
def impl_isWithin (budget:Loss) (x:Loss) (Q:Bool→Prop):Prop :=
  jn (fun (k:Bool→Prop)=>impl_cmpFrac ((Frac.mk x.Ratio.Num x.Ratio.Den)) ((Frac.mk budget.Ratio.Num budget.Ratio.Den)) fun r =>
  br (decide (r≤0)) (impl_cmpFrac ((Frac.mk x.Rho.Num x.Rho.Den)) ((Frac.mk budget.Rho.Num budget.Rho.Den)) fun r19 =>
  k (decide (r19≤0))) <|
  k false) <|
  fun (x12:Bool) =>
  Q x12
def impl_ancestorAt (g:Geo) (i:Int) (level:Int) (Q:Int→Prop):Prop :=
  impl_depthOf ((Geo.mk g.Parents)) i fun r2 =>
  jn (fun (k:Bool→Prop)=>br (decide (level<0)) (k true) <|
  k (decide (r2<level))) <|
  fun (x10:Bool) =>
  br (x10) (Q ((-1))) <|
  Loop2 (fun (i13:Int) (d:Int) nx =>
  br (decide (d>level)) (idx g.Parents i13 fun x16 =>
  nx x16 (wr (d-1))) <|
  Q i13) i r2
def impl_meetsWhere (t:Table) (r7:Record) (Q:Bool→Prop):Prop :=
  Loop1 (fun (x21:Int) nx =>
  br (decide (x21<(ln t.Where))) (idx t.Where x21 fun x23 =>
  jn (fun (k:Bool→Prop)=>br (x23 != 0) (idx r7.Values x21 fun x37 =>
  (0:Int)≤x37∧(
  k ((bits .and .i64 (shr .i64 x23 x37) 1)==0))) <|
  k false) <|
  fun (x34:Bool) =>
  br (x34) (Q false) <|
  nx (wr (x21+1))) <|
  Q true) 0
def cmp_isNaN_int (x:Int) (Q:Bool→Prop):Prop :=
  Q (x != x)
def cmp_Less_int (x:Int) (y:Int) (Q:Bool→Prop):Prop :=
  jn (fun (k:Bool→Prop)=>cmp_isNaN_int x fun r =>
  br (r) (cmp_isNaN_int y fun r5 =>
  br (!r5) (k true) <|
  k (decide (x<y))) <|
  k (decide (x<y))) <|
  fun (x1:Bool) =>
  Q x1
def slices_isNaN_int (x:Int) (Q:Bool→Prop):Prop :=
  Q (x != x)
def slices_BinarySearch_int_int (x:List Int) (target:Int) (Q:Int→Bool→Prop):Prop :=
  Loop2 (fun (i:Int) (j:Int) nx =>
  br (decide (i<j)) (idx x (wr (Int.fdiv (IntKind.u64.wrap (wr (i+j))) (2 ^ 1))) fun x2 =>
  cmp_Less_int x2 target fun r9 =>
  br (r9) (nx (wr ((wr (Int.fdiv (IntKind.u64.wrap (wr (i+j))) (2 ^ 1)))+1)) j) <|
  nx i (wr (Int.fdiv (IntKind.u64.wrap (wr (i+j))) (2 ^ 1)))) <|
  jn (fun (k:Int→Bool→Prop)=>br (decide (i<(ln x))) (idx x i fun x21 =>
  br (x21==target) (k i true) <|
  idx x i fun x31 =>
  slices_isNaN_int x31 fun r40 =>
  br (r40) (slices_isNaN_int target fun r44 =>
  k i r44) <|
  k i false) <|
  k i false) <|
  fun (x16:Int) (x17:Bool) =>
  Q x16 x17) 0 (ln x)
def impl_indexOfValues (sx:List Variable) (values:List Int) (Q:Int→Prop):Prop :=
  Loop2 (fun (i:Int) (x:Int) nx =>
  br (decide (x<(ln values))) (idx values x fun x7 =>
  idx sx x fun x13 =>
  nx (wr ((wr (i * x13.Levels))+x7)) (wr (x+1))) <|
  Q i) 0 0
def impl_cellIndex (g:Geo) (sx:List Variable) (t:Table) (area:Int) (values:List Int) (Q:Int→Prop):Prop :=
  impl_areasAt ((Geo.mk g.Parents)) t.Level fun r32 =>
  slices_BinarySearch_int_int r32 area fun r42 r43 =>
  br (!r43) (Q ((-1))) <|
  impl_crossed sx ((Table.mk t.Level t.Vars t.Where t.Sum)) fun r50 =>
  impl_combinations r50 fun r64 =>
  impl_indexOfValues r50 values fun r67 =>
  Q (wr ((wr (r42 * r64))+r67))
def impl_contribution (g:Geo) (sx:List Variable) (t:Table) (r19:Record) (Q:Int→Int→Prop):Prop :=
  impl_ancestorAt ((Geo.mk g.Parents)) r19.Area t.Level fun r39 =>
  jn (fun (k:Bool→Prop)=>br (decide (r39<0)) (k true) <|
  impl_meetsWhere ((Table.mk t.Level t.Vars t.Where t.Sum)) ((Record.mk r19.Area r19.House r19.Values)) fun r62 =>
  k (!r62)) <|
  fun (x59:Bool) =>
  br (x59) (Q ((-1)) 0) <|
  (0:Int)≤(ln t.Vars)∧8 * (ln t.Vars)≤140737488355328∧(
  Loop2 (fun (values:List Int) (x82:Int) nx =>
  br (decide (x82<(ln t.Vars))) (idx t.Vars x82 fun x86 =>
  idx r19.Values x86 fun x98 =>
  (0:Int)≤x82∧Int.toNat x82<List.length values∧(
  nx (List.set values (Int.toNat x82) x98) (wr (x82+1)))) <|
  jn (fun (k147:Int→Prop)=>br (decide (t.Sum≥0)) (idx r19.Values t.Sum fun x150 =>
  k147 x150) <|
  k147 1) <|
  fun (amount:Int) =>
  impl_cellIndex ((Geo.mk g.Parents)) sx ((Table.mk t.Level t.Vars t.Where t.Sum)) r39 values fun r159 =>
  Q r159 amount) (List.replicate (Int.toNat (ln t.Vars)) ((0:Int))) 0)
def impl_tableOf (g:Geo) (sx:List Variable) (t:Table) (l:List Record) (Q:(List Int)→Prop):Prop :=
  impl_cellCount ((Geo.mk g.Parents)) sx ((Table.mk t.Level t.Vars t.Where t.Sum)) fun r32 =>
  (0:Int)≤r32∧8 * r32≤140737488355328∧(
  Loop2 (fun (cells:List Int) (x52:Int) nx =>
  br (decide (x52<(ln l))) (jn (fun (k:(List Int)→Prop)=>idx l x52 fun x94 =>
  impl_contribution ((Geo.mk g.Parents)) sx ((Table.mk t.Level t.Vars t.Where t.Sum)) ((Record.mk x94.Area x94.House x94.Values)) fun r119 r120 =>
  br (decide (r119≥0)) (idx cells r119 fun x134 =>
  (0:Int)≤r119∧Int.toNat r119<List.length cells∧(
  k (List.set cells (Int.toNat r119) (wr (x134+r120))))) <|
  k cells) <|
  fun (cells86:List Int) =>
  nx cells86 (wr (x52+1))) <|
  Q cells) (List.replicate (Int.toNat r32) ((0:Int))) 0)
def impl_fewest (cells:List Int) (Q:Int→Prop):Prop :=
  Loop2 (fun (least:Int) (x:Int) nx =>
  br (decide (x<(ln cells))) (jn (fun (k:Int→Prop)=>idx cells x fun x3 =>
  jn (fun (k11:Bool→Prop)=>br (decide (x3>0)) (br (least==0) (k11 true) <|
  k11 (decide (x3<least))) <|
  k11 false) <|
  fun (x9:Bool) =>
  br (x9) (k x3) <|
  k least) <|
  fun (least1:Int) =>
  nx least1 (wr (x+1))) <|
  Q least) 0 0
def impl_isFew (n:Int) (floor:Int) (Q:Bool→Prop):Prop :=
  jn (fun (k:Bool→Prop)=>br (decide (n>0)) (k (decide (n<floor))) <|
  k false) <|
  fun (x:Bool) =>
  Q x
def impl_leastGap (x:Server) (t:Table) (Q:Int→Prop):Prop :=
  impl_tableOf ((Geo.mk x.G.Parents)) x.S ((Table.mk t.Level t.Vars t.Where t.Sum)) x.Data fun r45 =>
  Loop2 (fun (least:Int) (x60:Int) nx =>
  br (decide (x60<(ln x.Asked))) (jn (fun (k:Int→Prop)=>idx x.Asked x60 fun x84 =>
  jn (fun (k137:Bool→Prop)=>br (x84.Level != t.Level) (k137 true) <|
  br (x84.Sum != t.Sum) (k137 true) <|
  slices_Equal_int_int x84.Vars t.Vars fun r141 =>
  k137 (!r141)) <|
  fun (x134:Bool) =>
  br (x134) (k least) <|
  impl_tableOf ((Geo.mk x.G.Parents)) x.S ((Table.mk x84.Level x84.Vars x84.Where x84.Sum)) x.Data fun r148 =>
  Loop2 (fun (least162:Int) (x163:Int) nx169 =>
  br (decide (x163<(ln r148))) (jn (fun (k190:Int→Prop)=>idx r148 x163 fun x192 =>
  idx r45 x163 fun x203 =>
  idx r45 x163 fun x215 =>
  jn (fun (k243:Bool→Prop)=>br (decide ((mx (wr (x192-x203)) (wr (x215-x192)))>0)) (br (least162==0) (k243 true) <|
  k243 (decide ((mx (wr (x192-x203)) (wr (x215-x192)))<least162))) <|
  k243 false) <|
  fun (x241:Bool) =>
  br (x241) (k190 (mx (wr (x192-x203)) (wr (x215-x192)))) <|
  k190 least162) <|
  fun (least187:Int) =>
  nx169 least187 (wr (x163+1))) <|
  k least162) least 0) <|
  fun (least81:Int) =>
  nx least81 (wr (x60+1))) <|
  Q least) 0 0
def impl_queryCode (x:Server) (t:Table) (Q:Int→Prop):Prop :=
  impl_isTable ((Geo.mk x.G.Parents)) x.S ((Table.mk t.Level t.Vars t.Where t.Sum)) fun r45 =>
  br (!r45) (Q 1) <|
  impl_indexOfTable x.Plan ((Table.mk t.Level t.Vars t.Where t.Sum)) fun r56 =>
  br (decide (r56<0)) (Q 2) <|
  impl_indexOfTable x.Asked ((Table.mk t.Level t.Vars t.Where t.Sum)) fun r68 =>
  br (decide (r68≥0)) (Q 0) <|
  impl_costOf ((Loss.mk ((Frac.mk x.Cost.Ratio.Num x.Cost.Ratio.Den)) ((Frac.mk x.Cost.Rho.Num x.Cost.Rho.Den)))) (wr ((ln x.Asked)+1)) fun r79 r80 =>
  jn (fun (k:Bool→Prop)=>br (!r80) (k true) <|
  impl_isWithin ((Loss.mk ((Frac.mk x.Budget.Ratio.Num x.Budget.Ratio.Den)) ((Frac.mk x.Budget.Rho.Num x.Budget.Rho.Den)))) ((Loss.mk ((Frac.mk r79.Ratio.Num r79.Ratio.Den)) ((Frac.mk r79.Rho.Num r79.Rho.Den)))) fun r135 =>
  k (!r135)) <|
  fun (x131:Bool) =>
  br (x131) (Q 3) <|
  jn (fun (k153:Bool→Prop)=>br (t.Sum==((-1))) (impl_tableOf ((Geo.mk x.G.Parents)) x.S ((Table.mk t.Level t.Vars t.Where t.Sum)) x.Data fun r165 =>
  det1 (impl_fewest r165) fun r182 =>
  det1 (impl_isFew r182 x.Floor) fun r183 =>
  k153 r183) <|
  k153 false) <|
  fun (x150:Bool) =>
  br (x150) (Q 4) <|
  jn (fun (k204:Bool→Prop)=>br (t.Sum==((-1))) (det1 (impl_leastGap ((Server.mk ((Geo.mk x.G.Parents)) x.S x.Data x.Plan ((Loss.mk ((Frac.mk x.Cost.Ratio.Num x.Cost.Ratio.Den)) ((Frac.mk x.Cost.Rho.Num x.Cost.Rho.Den)))) ((Loss.mk ((Frac.mk x.Budget.Ratio.Num x.Budget.Ratio.Den)) ((Frac.mk x.Budget.Rho.Num x.Budget.Rho.Den)))) x.Floor x.Asked)) ((Table.mk t.Level t.Vars t.Where t.Sum))) fun r207 =>
  det1 (impl_isFew r207 x.Floor) fun r211 =>
  k204 r211) <|
  k204 false) <|
  fun (x201:Bool) =>
  br (x201) (Q 5) <|
  Q 0
def impl_IsServer (x:Server) (Q:Bool→Prop):Prop :=
  jn (fun (k:Bool→Prop)=>impl_IsGeo ((Geo.mk x.G.Parents)) fun r37 =>
  br (!r37) (k true) <|
  impl_IsSchema x.S fun r41 =>
  br (!r41) (k true) <|
  impl_isSurvey ((Geo.mk x.G.Parents)) x.S x.Data fun r47 =>
  br (!r47) (k true) <|
  br (decide ((ln x.Plan)>20)) (k true) <|
  impl_isPlan ((Geo.mk x.G.Parents)) x.S x.Plan fun r59 =>
  br (!r59) (k true) <|
  impl_areDifferent x.Plan fun r69 =>
  k (!r69)) <|
  fun (x34:Bool) =>
  br (x34) (Q false) <|
  jn (fun (k86:Bool→Prop)=>impl_IsLoss ((Loss.mk ((Frac.mk x.Cost.Ratio.Num x.Cost.Ratio.Den)) ((Frac.mk x.Cost.Rho.Num x.Cost.Rho.Den)))) fun r88 =>
  br (!r88) (k86 true) <|
  impl_IsLoss ((Loss.mk ((Frac.mk x.Budget.Ratio.Num x.Budget.Ratio.Den)) ((Frac.mk x.Budget.Rho.Num x.Budget.Rho.Den)))) fun r93 =>
  br (!r93) (k86 true) <|
  br (decide (x.Floor<0)) (k86 true) <|
  br (decide (x.Floor>40)) (k86 true) <|
  impl_areDifferent x.Asked fun r103 =>
  k86 (!r103)) <|
  fun (x83:Bool) =>
  br (x83) (Q false) <|
  Loop1 (fun (x112:Int) nx =>
  br (decide (x112<(ln x.Asked))) (idx x.Asked x112 fun x116 =>
  impl_indexOfTable x.Plan ((Table.mk x116.Level x116.Vars x116.Where x116.Sum)) fun r150 =>
  br (decide (r150<0)) (Q false) <|
  (0:Int)≤0∧0≤x112∧x112≤ln x.Asked∧(
  impl_queryCode ((Server.mk ((Geo.mk x.G.Parents)) x.S x.Data x.Plan ((Loss.mk ((Frac.mk x.Cost.Ratio.Num x.Cost.Ratio.Den)) ((Frac.mk x.Cost.Rho.Num x.Cost.Rho.Den)))) ((Loss.mk ((Frac.mk x.Budget.Ratio.Num x.Budget.Ratio.Den)) ((Frac.mk x.Budget.Rho.Num x.Budget.Rho.Den)))) x.Floor (List.take (Int.toNat x112-Int.toNat 0) (List.drop (Int.toNat 0) x.Asked)))) ((Table.mk x116.Level x116.Vars x116.Where x116.Sum)) fun r186 =>
  br (r186 != 0) (Q false) <|
  nx (wr (x112+1)))) <|
  Q true) 0
def slices_Clone_int_int (sx:List Int) (Q:(List Int)→Prop):Prop :=
  nilq sx fun z =>
  br (z) (Q ([])) <|
  (ln (([]:List Int))+ln sx) * 8≤140737488355328∧(
  Q ((([]:List Int))++sx))
def slices_Clone_impl_Variable_impl_Variable (sx:List Variable) (Q:(List Variable)→Prop):Prop :=
  nilq sx fun z =>
  br (z) (Q ([])) <|
  (ln (([]:List Variable))+ln sx) * 24≤140737488355328∧(
  Q ((([]:List Variable))++sx))
def impl_copyRecord (r:Record) (Q:Record→Prop):Prop :=
  slices_Clone_int_int r.Values fun r9 =>
  Q ((Record.mk r.Area r.House r9))
def impl_copyRecords (l:List Record) (Q:(List Record)→Prop):Prop :=
  (0:Int)≤(ln l)∧40 * (ln l)≤140737488355328∧(
  Loop2 (fun (c6:List Record) (x12:Int) nx =>
  br (decide (x12<(ln l))) (idx l x12 fun x15 =>
  impl_copyRecord ((Record.mk x15.Area x15.House x15.Values)) fun r36 =>
  (0:Int)≤x12∧Int.toNat x12<List.length c6∧(
  nx (List.set c6 (Int.toNat x12) (((Record.mk r36.Area r36.House r36.Values):Record))) (wr (x12+1)))) <|
  Q c6) (List.replicate (Int.toNat (ln l)) ((Record.mk ((0:Int)) ((0:Int)) (([]:List Int))))) 0)
def impl_copyTable (t:Table) (Q:Table→Prop):Prop :=
  slices_Clone_int_int t.Vars fun r18 =>
  slices_Clone_int_int t.Where fun r33 =>
  Q ((Table.mk t.Level r18 r33 t.Sum))
def impl_copyTables (l:List Table) (Q:(List Table)→Prop):Prop :=
  (0:Int)≤(ln l)∧64 * (ln l)≤140737488355328∧(
  Loop2 (fun (out:List Table) (x11:Int) nx =>
  br (decide (x11<(ln l))) (idx l x11 fun x14 =>
  impl_copyTable ((Table.mk x14.Level x14.Vars x14.Where x14.Sum)) fun r43 =>
  (0:Int)≤x11∧Int.toNat x11<List.length out∧(
  nx (List.set out (Int.toNat x11) (((Table.mk r43.Level r43.Vars r43.Where r43.Sum):Table))) (wr (x11+1)))) <|
  Q out) (List.replicate (Int.toNat (ln l)) ((Table.mk ((0:Int)) (([]:List Int)) (([]:List Int)) ((0:Int))))) 0)
def impl_copyServer (x:Server) (Q:Server→Prop):Prop :=
  slices_Clone_int_int x.G.Parents fun r33 =>
  slices_Clone_impl_Variable_impl_Variable x.S fun r46 =>
  impl_copyRecords x.Data fun r62 =>
  impl_copyTables x.Plan fun r79 =>
  impl_copyTables x.Asked fun r97 =>
  Q ((Server.mk ((Geo.mk r33)) r46 r62 r79 ((Loss.mk ((Frac.mk x.Cost.Ratio.Num x.Cost.Ratio.Den)) ((Frac.mk x.Cost.Rho.Num x.Cost.Rho.Den)))) ((Loss.mk ((Frac.mk x.Budget.Ratio.Num x.Budget.Ratio.Den)) ((Frac.mk x.Budget.Rho.Num x.Budget.Rho.Den)))) x.Floor r97))
def impl_askTable (x:Server) (t:Table) (Q:Server→(List Int)→Int→Prop):Prop :=
  impl_queryCode ((Server.mk ((Geo.mk x.G.Parents)) x.S x.Data x.Plan ((Loss.mk ((Frac.mk x.Cost.Ratio.Num x.Cost.Ratio.Den)) ((Frac.mk x.Cost.Rho.Num x.Cost.Rho.Den)))) ((Loss.mk ((Frac.mk x.Budget.Ratio.Num x.Budget.Ratio.Den)) ((Frac.mk x.Budget.Rho.Num x.Budget.Rho.Den)))) x.Floor x.Asked)) ((Table.mk t.Level t.Vars t.Where t.Sum)) fun r74 =>
  br (r74 != 0) (Q ((Server.mk ((Geo.mk x.G.Parents)) x.S x.Data x.Plan ((Loss.mk ((Frac.mk x.Cost.Ratio.Num x.Cost.Ratio.Den)) ((Frac.mk x.Cost.Rho.Num x.Cost.Rho.Den)))) ((Loss.mk ((Frac.mk x.Budget.Ratio.Num x.Budget.Ratio.Den)) ((Frac.mk x.Budget.Rho.Num x.Budget.Rho.Den)))) x.Floor x.Asked)) ([]) r74) <|
  jn (fun (k:(List Table)→Prop)=>impl_indexOfTable x.Asked ((Table.mk t.Level t.Vars t.Where t.Sum)) fun r137 =>
  br (decide (r137<0)) (impl_copyTables x.Asked fun r148 =>
  impl_copyTable ((Table.mk t.Level t.Vars t.Where t.Sum)) fun r164 =>
  (ln r148+ln ([((Table.mk r164.Level r164.Vars r164.Where r164.Sum):Table)])) * 64≤140737488355328∧(
  k (r148++([((Table.mk r164.Level r164.Vars r164.Where r164.Sum):Table)])))) <|
  k x.Asked) <|
  fun (asked:List Table) =>
  impl_tableOf ((Geo.mk x.G.Parents)) x.S ((Table.mk t.Level t.Vars t.Where t.Sum)) x.Data fun r242 =>
  Q ((Server.mk ((Geo.mk x.G.Parents)) x.S x.Data x.Plan ((Loss.mk ((Frac.mk x.Cost.Ratio.Num x.Cost.Ratio.Den)) ((Frac.mk x.Cost.Rho.Num x.Cost.Rho.Den)))) ((Loss.mk ((Frac.mk x.Budget.Ratio.Num x.Budget.Ratio.Den)) ((Frac.mk x.Budget.Rho.Num x.Budget.Rho.Den)))) x.Floor asked)) r242 r74
def impl_AskAll (x:Server) (l:List Table) (Q:(List Int)→Server→Bool→Prop):Prop :=
  jn (fun (k:Bool→Prop)=>impl_IsServer ((Server.mk ((Geo.mk x.G.Parents)) x.S x.Data x.Plan ((Loss.mk ((Frac.mk x.Cost.Ratio.Num x.Cost.Ratio.Den)) ((Frac.mk x.Cost.Rho.Num x.Cost.Rho.Den)))) ((Loss.mk ((Frac.mk x.Budget.Ratio.Num x.Budget.Ratio.Den)) ((Frac.mk x.Budget.Rho.Num x.Budget.Rho.Den)))) x.Floor x.Asked)) fun r52 =>
  br (!r52) (k true) <|
  k (decide ((ln l)>20))) <|
  fun (x49:Bool) =>
  br (x49) (Q ([]) ((Server.mk ((Geo.mk ([]))) ([]) ([]) ([]) ((Loss.mk ((Frac.mk 0 0)) ((Frac.mk 0 0)))) ((Loss.mk ((Frac.mk 0 0)) ((Frac.mk 0 0)))) 0 ([]))) false) <|
  impl_copyServer ((Server.mk ((Geo.mk x.G.Parents)) x.S x.Data x.Plan ((Loss.mk ((Frac.mk x.Cost.Ratio.Num x.Cost.Ratio.Den)) ((Frac.mk x.Cost.Rho.Num x.Cost.Rho.Den)))) ((Loss.mk ((Frac.mk x.Budget.Ratio.Num x.Budget.Ratio.Den)) ((Frac.mk x.Budget.Rho.Num x.Budget.Rho.Den)))) x.Floor x.Asked)) fun r61 =>
  (0:Int)≤(ln l)∧8 * (ln l)≤140737488355328∧(
  Loop16 (fun (codes:List Int) (x130:Int) (parents:List Int) (sx:List Variable) (data:List Record) (plan:List Table) (num:Int) (den:Int) (num151:Int) (den152:Int) (num153:Int) (den154:Int) (num155:Int) (den156:Int) (floor:Int) (asked:List Table) nx =>
  br (decide (x130<(ln l))) (idx l x130 fun x224 =>
  impl_askTable ((Server.mk ((Geo.mk parents)) sx data plan ((Loss.mk ((Frac.mk num den)) ((Frac.mk num151 den152)))) ((Loss.mk ((Frac.mk num153 den154)) ((Frac.mk num155 den156)))) floor asked)) ((Table.mk x224.Level x224.Vars x224.Where x224.Sum)) fun r281 r282 r283 =>
  (0:Int)≤x130∧Int.toNat x130<List.length codes∧(
  nx (List.set codes (Int.toNat x130) r283) (wr (x130+1)) r281.G.Parents r281.S r281.Data r281.Plan r281.Cost.Ratio.Num r281.Cost.Ratio.Den r281.Cost.Rho.Num r281.Cost.Rho.Den r281.Budget.Ratio.Num r281.Budget.Ratio.Den r281.Budget.Rho.Num r281.Budget.Rho.Den r281.Floor r281.Asked)) <|
  Q codes ((Server.mk ((Geo.mk parents)) sx data plan ((Loss.mk ((Frac.mk num den)) ((Frac.mk num151 den152)))) ((Loss.mk ((Frac.mk num153 den154)) ((Frac.mk num155 den156)))) floor asked)) true) (List.replicate (Int.toNat (ln l)) ((0:Int))) 0 r61.G.Parents r61.S r61.Data r61.Plan r61.Cost.Ratio.Num r61.Cost.Ratio.Den r61.Cost.Rho.Num r61.Cost.Rho.Den r61.Budget.Ratio.Num r61.Budget.Ratio.Den r61.Budget.Rho.Num r61.Budget.Rho.Den r61.Floor r61.Asked)
def laws_eqIntS (a:List Int) (b:List Int) (Q:Bool→Prop):Prop :=
  br ((ln a)!=(ln b)) (Q false) <|
  Loop1 (fun (i:Int) nx =>
  br (decide (i<(ln a))) (idx a i fun x =>
  idx b i fun x16 =>
  br (x != x16) (Q false) <|
  nx (wr (i+1))) <|
  Q true) 0
def laws_eqGeo (a:Geo) (b:Geo) (Q:Bool→Prop):Prop :=
  laws_eqIntS a.Parents b.Parents fun r16 =>
  br (!r16) (Q false) <|
  Q true
def laws_eqVariable (a:Variable) (b:Variable) (Q:Bool→Prop):Prop :=
  br (!streq a.Name b.Name) (Q false) <|
  br (a.Levels != b.Levels) (Q false) <|
  Q true
def laws_eqVariableS (a:List Variable) (b:List Variable) (Q:Bool→Prop):Prop :=
  br ((ln a)!=(ln b)) (Q false) <|
  Loop1 (fun (i:Int) nx =>
  br (decide (i<(ln a))) (idx a i fun x =>
  idx b i fun x16 =>
  det1 (laws_eqVariable x x16) fun r26 =>
  br (!r26) (Q false) <|
  nx (wr (i+1))) <|
  Q true) 0
def laws_eqRecord (a:Record) (b:Record) (Q:Bool→Prop):Prop :=
  br (a.Area != b.Area) (Q false) <|
  br (a.House != b.House) (Q false) <|
  laws_eqIntS a.Values b.Values fun r20 =>
  br (!r20) (Q false) <|
  Q true
def laws_eqRecordS (a:List Record) (b:List Record) (Q:Bool→Prop):Prop :=
  br ((ln a)!=(ln b)) (Q false) <|
  Loop1 (fun (i:Int) nx =>
  br (decide (i<(ln a))) (idx a i fun x =>
  idx b i fun x24 =>
  det1 (laws_eqRecord x x24) fun r43 =>
  br (!r43) (Q false) <|
  nx (wr (i+1))) <|
  Q true) 0
def laws_eqTable (a:Table) (b:Table) (Q:Bool→Prop):Prop :=
  br (a.Level != b.Level) (Q false) <|
  laws_eqIntS a.Vars b.Vars fun r29 =>
  br (!r29) (Q false) <|
  laws_eqIntS a.Where b.Where fun r40 =>
  br (!r40) (Q false) <|
  br (a.Sum != b.Sum) (Q false) <|
  Q true
def laws_eqTableS (a:List Table) (b:List Table) (Q:Bool→Prop):Prop :=
  br ((ln a)!=(ln b)) (Q false) <|
  Loop1 (fun (i:Int) nx =>
  br (decide (i<(ln a))) (idx a i fun x =>
  idx b i fun x32 =>
  det1 (laws_eqTable x x32) fun r59 =>
  br (!r59) (Q false) <|
  nx (wr (i+1))) <|
  Q true) 0
def laws_eqFrac (a:Frac) (b:Frac) (Q:Bool→Prop):Prop :=
  br (a.Num != b.Num) (Q false) <|
  br (a.Den != b.Den) (Q false) <|
  Q true
def laws_eqLoss (a:Loss) (b:Loss) (Q:Bool→Prop):Prop :=
  laws_eqFrac ((Frac.mk a.Ratio.Num a.Ratio.Den)) ((Frac.mk b.Ratio.Num b.Ratio.Den)) fun r =>
  br (!r) (Q false) <|
  laws_eqFrac ((Frac.mk a.Rho.Num a.Rho.Den)) ((Frac.mk b.Rho.Num b.Rho.Den)) fun r13 =>
  br (!r13) (Q false) <|
  Q true
def laws_eqServer (a:Server) (b:Server) (Q:Bool→Prop):Prop :=
  laws_eqGeo ((Geo.mk a.G.Parents)) ((Geo.mk b.G.Parents)) fun r64 =>
  br (!r64) (Q false) <|
  laws_eqVariableS a.S b.S fun r73 =>
  br (!r73) (Q false) <|
  laws_eqRecordS a.Data b.Data fun r84 =>
  br (!r84) (Q false) <|
  laws_eqTableS a.Plan b.Plan fun r95 =>
  br (!r95) (Q false) <|
  laws_eqLoss ((Loss.mk ((Frac.mk a.Cost.Ratio.Num a.Cost.Ratio.Den)) ((Frac.mk a.Cost.Rho.Num a.Cost.Rho.Den)))) ((Loss.mk ((Frac.mk b.Cost.Ratio.Num b.Cost.Ratio.Den)) ((Frac.mk b.Cost.Rho.Num b.Cost.Rho.Den)))) fun r106 =>
  br (!r106) (Q false) <|
  laws_eqLoss ((Loss.mk ((Frac.mk a.Budget.Ratio.Num a.Budget.Ratio.Den)) ((Frac.mk a.Budget.Rho.Num a.Budget.Rho.Den)))) ((Loss.mk ((Frac.mk b.Budget.Ratio.Num b.Budget.Ratio.Den)) ((Frac.mk b.Budget.Rho.Num b.Budget.Rho.Den)))) fun r114 =>
  br (!r114) (Q false) <|
  br (a.Floor != b.Floor) (Q false) <|
  laws_eqTableS a.Asked b.Asked fun r125 =>
  br (!r125) (Q false) <|
  Q true
def laws_markIntS (a:List Int) (k:Int) (Q:Int→(List Int)→Prop):Prop :=
  Loop3 (fun (a2:List Int) (k6:Int) (i:Int) nx =>
  br (decide (i<(ln a))) ((0:Int)≤i∧Int.toNat i<List.length a2∧(
  nx (List.set a2 (Int.toNat i) k6) (wr (k6+1)) (wr (i+1)))) <|
  Q k6 a2) a k 0
def laws_markGeo (a:Geo) (k:Int) (Q:Int→(List Int)→Prop):Prop :=
  laws_markIntS a.Parents k fun r3 r4 =>
  Q r3 r4
def laws_markText (k:Int) (Q:ByteArray→Prop):Prop :=
  br (decide (k≤0)) (Q ((ByteArray.mk #[109,48]))) <|
  Loop2 (fun (k1:Int) (out:ByteArray) nx =>
  br (decide (k1>0)) (sln (b2s ([(B8.mk (IntKind.u8.wrap (wr (48+(Int.tmod k1 10)))))]))+sln out≤9223372036854775807∧(
  nx (wr (Int.tdiv k1 10)) ((b2s ([(B8.mk (IntKind.u8.wrap (wr (48+(Int.tmod k1 10)))))]))++out))) <|
  sln ((ByteArray.mk #[109]))+sln out≤9223372036854775807∧(
  Q (((ByteArray.mk #[109]))++out))) k ((ByteArray.mk #[]))
def laws_markVariableS (a:List Variable) (k:Int) (Q:Int→(List Variable)→Prop):Prop :=
  Loop3 (fun (a2:List Variable) (k6:Int) (i:Int) nx =>
  br (decide (i<(ln a))) (laws_markText k6 fun r8 =>
  idx a2 i fun x10 =>
  idx (List.set a2 (Int.toNat i) ({x10 with Name:=r8}:Variable)) i fun x18 =>
  nx (List.set (List.set a2 (Int.toNat i) ({x10 with Name:=r8}:Variable)) (Int.toNat i) ({x18 with Levels:=wr (k6+1)}:Variable)) (wr ((wr (k6+1))+1)) (wr (i+1))) <|
  Q k6 a2) a k 0
def laws_markRecordS (a:List Record) (k:Int) (Q:Int→(List Record)→Prop):Prop :=
  Loop3 (fun (a2:List Record) (k6:Int) (i:Int) nx =>
  br (decide (i<(ln a))) (idx a2 i fun x =>
  idx (List.set a2 (Int.toNat i) ({x with Area:=k6}:Record)) i fun x14 =>
  idx (List.set (List.set a2 (Int.toNat i) ({x with Area:=k6}:Record)) (Int.toNat i) ({x14 with House:=wr (k6+1)}:Record)) i fun x25 =>
  laws_markIntS x25.Values (wr ((wr (k6+1))+1)) fun r40 r41 =>
  nx (List.set (List.set (List.set a2 (Int.toNat i) ({x with Area:=k6}:Record)) (Int.toNat i) ({x14 with House:=wr (k6+1)}:Record)) (Int.toNat i) ({x25 with Values:=r41}:Record)) r40 (wr (i+1))) <|
  Q k6 a2) a k 0
def laws_markTableS (a:List Table) (k:Int) (Q:Int→(List Table)→Prop):Prop :=
  Loop3 (fun (a2:List Table) (k6:Int) (i:Int) nx =>
  br (decide (i<(ln a))) (idx a2 i fun x =>
  idx (List.set a2 (Int.toNat i) ({x with Level:=k6}:Table)) i fun x14 =>
  laws_markIntS x14.Vars (wr (k6+1)) fun r30 r31 =>
  idx (List.set (List.set a2 (Int.toNat i) ({x with Level:=k6}:Table)) (Int.toNat i) ({x14 with Vars:=r31}:Table)) i fun x42 =>
  laws_markIntS x42.Where r30 fun r61 r62 =>
  idx (List.set (List.set (List.set a2 (Int.toNat i) ({x with Level:=k6}:Table)) (Int.toNat i) ({x14 with Vars:=r31}:Table)) (Int.toNat i) ({x42 with Where:=r62}:Table)) i fun x74 =>
  nx (List.set (List.set (List.set (List.set a2 (Int.toNat i) ({x with Level:=k6}:Table)) (Int.toNat i) ({x14 with Vars:=r31}:Table)) (Int.toNat i) ({x42 with Where:=r62}:Table)) (Int.toNat i) ({x74 with Sum:=r61}:Table)) (wr (r61+1)) (wr (i+1))) <|
  Q k6 a2) a k 0
def laws_markServer (a:Server) (k:Int) (Q:Int→(List Int)→(List Variable)→(List Record)→(List Table)→(List Table)→Prop):Prop :=
  laws_markGeo ((Geo.mk a.G.Parents)) k fun r40 r41 =>
  laws_markVariableS a.S r40 fun r48 r49 =>
  laws_markRecordS a.Data r48 fun r58 r59 =>
  laws_markTableS a.Plan r58 fun r68 r69 =>
  laws_markTableS a.Asked r68 fun r78 r79 =>
  Q r78 r41 r49 r59 r69 r79
def laws_heldIntS (a:List Int) (k:Int) (Q:Int→Prop):Prop :=
  Loop2 (fun (k2:Int) (i:Int) nx =>
  br (decide (i<(ln a))) (idx a i fun x =>
  br (x != k2) (Q ((-1))) <|
  nx (wr (k2+1)) (wr (i+1))) <|
  Q k2) k 0
def laws_heldGeo (a:Geo) (k:Int) (Q:Int→Prop):Prop :=
  laws_heldIntS a.Parents k fun r3 =>
  br (decide (r3<0)) (Q ((-1))) <|
  Q r3
def laws_heldVariableS (a:List Variable) (k:Int) (Q:Int→Prop):Prop :=
  Loop2 (fun (k2:Int) (i:Int) nx =>
  br (decide (i<(ln a))) (idx a i fun x =>
  det1 (laws_markText k2) fun r8 =>
  br (!streq x.Name r8) (Q ((-1))) <|
  idx a i fun x15 =>
  br (x15.Levels != (wr (k2+1))) (Q ((-1))) <|
  nx (wr ((wr (k2+1))+1)) (wr (i+1))) <|
  Q k2) k 0
def laws_heldRecordS (a:List Record) (k:Int) (Q:Int→Prop):Prop :=
  Loop2 (fun (k2:Int) (i:Int) nx =>
  br (decide (i<(ln a))) (idx a i fun x =>
  br (x.Area != k2) (Q ((-1))) <|
  idx a i fun x14 =>
  br (x14.House != (wr (k2+1))) (Q ((-1))) <|
  idx a i fun x28 =>
  laws_heldIntS x28.Values (wr ((wr (k2+1))+1)) fun r40 =>
  br (decide (r40<0)) (Q ((-1))) <|
  nx r40 (wr (i+1))) <|
  Q k2) k 0
def laws_heldTableS (a:List Table) (k:Int) (Q:Int→Prop):Prop :=
  Loop2 (fun (k2:Int) (i:Int) nx =>
  br (decide (i<(ln a))) (idx a i fun x =>
  br (x.Level != k2) (Q ((-1))) <|
  idx a i fun x18 =>
  laws_heldIntS x18.Vars (wr (k2+1)) fun r34 =>
  br (decide (r34<0)) (Q ((-1))) <|
  idx a i fun x39 =>
  laws_heldIntS x39.Where r34 fun r56 =>
  br (decide (r56<0)) (Q ((-1))) <|
  idx a i fun x62 =>
  br (x62.Sum != r56) (Q ((-1))) <|
  nx (wr (r56+1)) (wr (i+1))) <|
  Q k2) k 0
def laws_heldServer (a:Server) (k:Int) (Q:Int→Prop):Prop :=
  laws_heldGeo ((Geo.mk a.G.Parents)) k fun r27 =>
  br (decide (r27<0)) (Q ((-1))) <|
  laws_heldVariableS a.S r27 fun r33 =>
  br (decide (r33<0)) (Q ((-1))) <|
  laws_heldRecordS a.Data r33 fun r42 =>
  br (decide (r42<0)) (Q ((-1))) <|
  laws_heldTableS a.Plan r42 fun r51 =>
  br (decide (r51<0)) (Q ((-1))) <|
  laws_heldTableS a.Asked r51 fun r60 =>
  br (decide (r60<0)) (Q ((-1))) <|
  Q r60
def laws_FnExactAskAll (aX:Server) (aL:List Table) (Q:Bool→Prop):Prop :=
  laws_szServer ((Server.mk ((Geo.mk aX.G.Parents)) aX.S aX.Data aX.Plan ((Loss.mk ((Frac.mk aX.Cost.Ratio.Num aX.Cost.Ratio.Den)) ((Frac.mk aX.Cost.Rho.Num aX.Cost.Rho.Den)))) ((Loss.mk ((Frac.mk aX.Budget.Ratio.Num aX.Budget.Ratio.Den)) ((Frac.mk aX.Budget.Rho.Num aX.Budget.Rho.Den)))) aX.Floor aX.Asked)) 1048576 fun r32 =>
  br (decide (r32<0)) (Q true) <|
  laws_szTableS aL r32 fun r41 =>
  br (decide (r41<0)) (Q true) <|
  laws_toServer ((Server.mk ((Geo.mk aX.G.Parents)) aX.S aX.Data aX.Plan ((Loss.mk ((Frac.mk aX.Cost.Ratio.Num aX.Cost.Ratio.Den)) ((Frac.mk aX.Cost.Rho.Num aX.Cost.Rho.Den)))) ((Loss.mk ((Frac.mk aX.Budget.Ratio.Num aX.Budget.Ratio.Den)) ((Frac.mk aX.Budget.Rho.Num aX.Budget.Rho.Den)))) aX.Floor aX.Asked)) fun r51 =>
  laws_toTableS aL fun r102 =>
  spec_AskAll ((Server.mk ((Geo.mk r51.G.Parents)) r51.S r51.Data r51.Plan ((Loss.mk ((Frac.mk r51.Cost.Ratio.Num r51.Cost.Ratio.Den)) ((Frac.mk r51.Cost.Rho.Num r51.Cost.Rho.Den)))) ((Loss.mk ((Frac.mk r51.Budget.Ratio.Num r51.Budget.Ratio.Den)) ((Frac.mk r51.Budget.Rho.Num r51.Budget.Rho.Den)))) r51.Floor r51.Asked)) r102 fun r114 r115 r116 =>
  laws_toServer ((Server.mk ((Geo.mk aX.G.Parents)) aX.S aX.Data aX.Plan ((Loss.mk ((Frac.mk aX.Cost.Ratio.Num aX.Cost.Ratio.Den)) ((Frac.mk aX.Cost.Rho.Num aX.Cost.Rho.Den)))) ((Loss.mk ((Frac.mk aX.Budget.Ratio.Num aX.Budget.Ratio.Den)) ((Frac.mk aX.Budget.Rho.Num aX.Budget.Rho.Den)))) aX.Floor aX.Asked)) fun r182 =>
  laws_toTableS aL fun r253 =>
  impl_AskAll ((Server.mk ((Geo.mk r182.G.Parents)) r182.S r182.Data r182.Plan ((Loss.mk ((Frac.mk r182.Cost.Ratio.Num r182.Cost.Ratio.Den)) ((Frac.mk r182.Cost.Rho.Num r182.Cost.Rho.Den)))) ((Loss.mk ((Frac.mk r182.Budget.Ratio.Num r182.Budget.Ratio.Den)) ((Frac.mk r182.Budget.Rho.Num r182.Budget.Rho.Den)))) r182.Floor r182.Asked)) r253 fun r272 r273 r274 =>
  jn (fun (k:Bool→Prop)=>laws_eqIntS r272 r114 fun r498 =>
  br (!r498) (k true) <|
  laws_eqServer ((Server.mk ((Geo.mk r273.G.Parents)) r273.S r273.Data r273.Plan ((Loss.mk ((Frac.mk r273.Cost.Ratio.Num r273.Cost.Ratio.Den)) ((Frac.mk r273.Cost.Rho.Num r273.Cost.Rho.Den)))) ((Loss.mk ((Frac.mk r273.Budget.Ratio.Num r273.Budget.Ratio.Den)) ((Frac.mk r273.Budget.Rho.Num r273.Budget.Rho.Den)))) r273.Floor r273.Asked)) ((Server.mk ((Geo.mk r115.G.Parents)) r115.S r115.Data r115.Plan ((Loss.mk ((Frac.mk r115.Cost.Ratio.Num r115.Cost.Ratio.Den)) ((Frac.mk r115.Cost.Rho.Num r115.Cost.Rho.Den)))) ((Loss.mk ((Frac.mk r115.Budget.Ratio.Num r115.Budget.Ratio.Den)) ((Frac.mk r115.Budget.Rho.Num r115.Budget.Rho.Den)))) r115.Floor r115.Asked)) fun r504 =>
  br (!r504) (k true) <|
  k (r274 != r116)) <|
  fun (x495:Bool) =>
  br (x495) (Q false) <|
  laws_toServer ((Server.mk ((Geo.mk aX.G.Parents)) aX.S aX.Data aX.Plan ((Loss.mk ((Frac.mk aX.Cost.Ratio.Num aX.Cost.Ratio.Den)) ((Frac.mk aX.Cost.Rho.Num aX.Cost.Rho.Den)))) ((Loss.mk ((Frac.mk aX.Budget.Ratio.Num aX.Budget.Ratio.Den)) ((Frac.mk aX.Budget.Rho.Num aX.Budget.Rho.Den)))) aX.Floor aX.Asked)) fun r529 =>
  laws_eqServer ((Server.mk ((Geo.mk r182.G.Parents)) r182.S r182.Data r182.Plan ((Loss.mk ((Frac.mk r182.Cost.Ratio.Num r182.Cost.Ratio.Den)) ((Frac.mk r182.Cost.Rho.Num r182.Cost.Rho.Den)))) ((Loss.mk ((Frac.mk r182.Budget.Ratio.Num r182.Budget.Ratio.Den)) ((Frac.mk r182.Budget.Rho.Num r182.Budget.Rho.Den)))) r182.Floor r182.Asked)) ((Server.mk ((Geo.mk r529.G.Parents)) r529.S r529.Data r529.Plan ((Loss.mk ((Frac.mk r529.Cost.Ratio.Num r529.Cost.Ratio.Den)) ((Frac.mk r529.Cost.Rho.Num r529.Cost.Rho.Den)))) ((Loss.mk ((Frac.mk r529.Budget.Ratio.Num r529.Budget.Ratio.Den)) ((Frac.mk r529.Budget.Rho.Num r529.Budget.Rho.Den)))) r529.Floor r529.Asked)) fun r587 =>
  br (!r587) (Q false) <|
  laws_toTableS aL fun r604 =>
  laws_eqTableS r253 r604 fun r616 =>
  br (!r616) (Q false) <|
  laws_markServer ((Server.mk ((Geo.mk r182.G.Parents)) r182.S r182.Data r182.Plan ((Loss.mk ((Frac.mk r182.Cost.Ratio.Num r182.Cost.Ratio.Den)) ((Frac.mk r182.Cost.Rho.Num r182.Cost.Rho.Den)))) ((Loss.mk ((Frac.mk r182.Budget.Ratio.Num r182.Budget.Ratio.Den)) ((Frac.mk r182.Budget.Rho.Num r182.Budget.Rho.Den)))) r182.Floor r182.Asked)) 1 fun r626 r627 r628 r629 r630 r631 =>
  laws_markTableS r253 r626 fun r669 r670 =>
  jn (fun (k950:Bool→Prop)=>br (decide (r669<0)) (k950 true) <|
  laws_eqIntS r272 r114 fun r953 =>
  br (!r953) (k950 true) <|
  laws_eqServer ((Server.mk ((Geo.mk r273.G.Parents)) r273.S r273.Data r273.Plan ((Loss.mk ((Frac.mk r273.Cost.Ratio.Num r273.Cost.Ratio.Den)) ((Frac.mk r273.Cost.Rho.Num r273.Cost.Rho.Den)))) ((Loss.mk ((Frac.mk r273.Budget.Ratio.Num r273.Budget.Ratio.Den)) ((Frac.mk r273.Budget.Rho.Num r273.Budget.Rho.Den)))) r273.Floor r273.Asked)) ((Server.mk ((Geo.mk r115.G.Parents)) r115.S r115.Data r115.Plan ((Loss.mk ((Frac.mk r115.Cost.Ratio.Num r115.Cost.Ratio.Den)) ((Frac.mk r115.Cost.Rho.Num r115.Cost.Rho.Den)))) ((Loss.mk ((Frac.mk r115.Budget.Ratio.Num r115.Budget.Ratio.Den)) ((Frac.mk r115.Budget.Rho.Num r115.Budget.Rho.Den)))) r115.Floor r115.Asked)) fun r959 =>
  br (!r959) (k950 true) <|
  k950 (r274 != r116)) <|
  fun (x947:Bool) =>
  br (x947) (Q false) <|
  laws_markIntS r272 1 fun r977 r978 =>
  laws_markServer ((Server.mk ((Geo.mk r273.G.Parents)) r273.S r273.Data r273.Plan ((Loss.mk ((Frac.mk r273.Cost.Ratio.Num r273.Cost.Ratio.Den)) ((Frac.mk r273.Cost.Rho.Num r273.Cost.Rho.Den)))) ((Loss.mk ((Frac.mk r273.Budget.Ratio.Num r273.Budget.Ratio.Den)) ((Frac.mk r273.Budget.Rho.Num r273.Budget.Rho.Den)))) r273.Floor r273.Asked)) r977 fun r988 r989 r990 r991 r992 r993 =>
  laws_heldIntS r978 1 fun r1031 =>
  br (decide (r1031<0)) (Q false) <|
  laws_heldServer ((Server.mk ((Geo.mk r989)) r990 r991 r992 ((Loss.mk ((Frac.mk r273.Cost.Ratio.Num r273.Cost.Ratio.Den)) ((Frac.mk r273.Cost.Rho.Num r273.Cost.Rho.Den)))) ((Loss.mk ((Frac.mk r273.Budget.Ratio.Num r273.Budget.Ratio.Den)) ((Frac.mk r273.Budget.Rho.Num r273.Budget.Rho.Den)))) r273.Floor r993)) r1031 fun r1061 =>
  br (decide (r1061<0)) (Q false) <|
  br (r1061 != r988) (Q false) <|
  laws_toServer ((Server.mk ((Geo.mk aX.G.Parents)) aX.S aX.Data aX.Plan ((Loss.mk ((Frac.mk aX.Cost.Ratio.Num aX.Cost.Ratio.Den)) ((Frac.mk aX.Cost.Rho.Num aX.Cost.Rho.Den)))) ((Loss.mk ((Frac.mk aX.Budget.Ratio.Num aX.Budget.Ratio.Den)) ((Frac.mk aX.Budget.Rho.Num aX.Budget.Rho.Den)))) aX.Floor aX.Asked)) fun r1088 =>
  laws_toTableS aL fun r1196 =>
  impl_AskAll ((Server.mk ((Geo.mk r1088.G.Parents)) r1088.S r1088.Data r1088.Plan ((Loss.mk ((Frac.mk r1088.Cost.Ratio.Num r1088.Cost.Ratio.Den)) ((Frac.mk r1088.Cost.Rho.Num r1088.Cost.Rho.Den)))) ((Loss.mk ((Frac.mk r1088.Budget.Ratio.Num r1088.Budget.Ratio.Den)) ((Frac.mk r1088.Budget.Rho.Num r1088.Budget.Rho.Den)))) r1088.Floor r1088.Asked)) r1196 fun r1219 r1220 r1221 =>
  jn (fun (k1451:Bool→Prop)=>laws_eqIntS r1219 r114 fun r1453 =>
  br (!r1453) (k1451 true) <|
  laws_eqServer ((Server.mk ((Geo.mk r1220.G.Parents)) r1220.S r1220.Data r1220.Plan ((Loss.mk ((Frac.mk r1220.Cost.Ratio.Num r1220.Cost.Ratio.Den)) ((Frac.mk r1220.Cost.Rho.Num r1220.Cost.Rho.Den)))) ((Loss.mk ((Frac.mk r1220.Budget.Ratio.Num r1220.Budget.Ratio.Den)) ((Frac.mk r1220.Budget.Rho.Num r1220.Budget.Rho.Den)))) r1220.Floor r1220.Asked)) ((Server.mk ((Geo.mk r115.G.Parents)) r115.S r115.Data r115.Plan ((Loss.mk ((Frac.mk r115.Cost.Ratio.Num r115.Cost.Ratio.Den)) ((Frac.mk r115.Cost.Rho.Num r115.Cost.Rho.Den)))) ((Loss.mk ((Frac.mk r115.Budget.Ratio.Num r115.Budget.Ratio.Den)) ((Frac.mk r115.Budget.Rho.Num r115.Budget.Rho.Den)))) r115.Floor r115.Asked)) fun r1459 =>
  br (!r1459) (k1451 true) <|
  k1451 (r1221 != r116)) <|
  fun (x1448:Bool) =>
  br (x1448) (Q false) <|
  laws_heldIntS r978 1 fun r1477 =>
  br (decide (r1477<0)) (Q false) <|
  laws_heldServer ((Server.mk ((Geo.mk r989)) r990 r991 r992 ((Loss.mk ((Frac.mk r273.Cost.Ratio.Num r273.Cost.Ratio.Den)) ((Frac.mk r273.Cost.Rho.Num r273.Cost.Rho.Den)))) ((Loss.mk ((Frac.mk r273.Budget.Ratio.Num r273.Budget.Ratio.Den)) ((Frac.mk r273.Budget.Rho.Num r273.Budget.Rho.Den)))) r273.Floor r993)) r1477 fun r1486 =>
  br (decide (r1486<0)) (Q false) <|
  br (r1486 != r988) (Q false) <|
  Q true
end Go.Proofs.YtfkblhplgnbppaaGreat
