/- What each Go function means: a definition over numbers and lists; Q: what is to hold of its results. -/
import Derived.Test.YtfnmhknnliahoaaGreatDoorBld
set_option linter.unusedVariables false
set_option autoImplicit false
namespace Go.Proofs.YtfnmhknnliahoaaGreatDoor
open Go Go.RowKit Go.Gv
structure Frac where
  Num:Int
  Den:Int
instance:Wf Frac:=⟨fun x=>Wf.wf x.Num∧Wf.wf x.Den⟩
instance:Flat Frac where
  n:=2
  agg:=true
  rd _ cs x:=cs=[I x.Num,I x.Den]
  enc x:=[I x.Num,I x.Den]
  len h:=by subst h; rfl
  le _ h:=h
  one h c hc:=by subst h; simp at hc; rcases hc with rfl | rfl <;> rfl
  sing h:=by cases h
  flat:=Iff.rfl
theorem Frac_rv {h:PH} {v:Value} {x:Frac} (r:RV h v x):v = .agg #[I x.Num,I x.Den]:=by obtain ⟨cs,rfl,rfl⟩:=r; rfl
structure L1Cur where
  Code:List B8
  At:Int
  Seed:Int
structure Geo where
  Parents:List Int
instance:Wf Geo:=⟨fun x=>Wf.wf x.Parents⟩
instance:Deep Geo:=Deep.via (fun x=>x.Parents)
structure Variable where
  Name:ByteArray
  Levels:Int
instance:Wf Variable:=⟨fun x=>Wf.wf x.Name∧Wf.wf x.Levels⟩
instance:Flat Variable where
  n:=2
  agg:=true
  rd _ cs x:=cs=[.string x.Name,I x.Levels]
  enc x:=[.string x.Name,I x.Levels]
  len h:=by subst h; rfl
  le _ h:=h
  one h c hc:=by subst h; simp at hc; rcases hc with rfl | rfl <;> rfl
  sing h:=by cases h
  flat:=Iff.rfl
theorem Variable_rv {h:PH} {v:Value} {x:Variable} (r:RV h v x):v = .agg #[.string x.Name,I x.Levels]:=by obtain ⟨cs,rfl,rfl⟩:=r; rfl
structure Table where
  Level:Int
  Vars:List Int
  Where:List Int
  Sum:Int
instance:Wf Table:=⟨fun x=>Wf.wf x.Level∧Wf.wf x.Vars∧Wf.wf x.Where∧Wf.wf x.Sum⟩
instance:Deep Table:=Deep.via (fun x=>(x.Level,x.Vars,x.Where,x.Sum))
structure Record where
  Area:Int
  House:Int
  Values:List Int
instance:Wf Record:=⟨fun x=>Wf.wf x.Area∧Wf.wf x.House∧Wf.wf x.Values⟩
instance:Deep Record:=Deep.via (fun x=>(x.Area,x.House,x.Values))
theorem Record_rd {h:PH} {cs:List Value} {x:Record} (r:Enc.rd h cs x):∃ u0,cs=[I x.Area,I x.House,u0]∧RS h u0 x.Values:=by
  obtain ⟨_,_,rfl,rfl,⟨_,_,rfl,rfl,⟨u0,rfl,r0⟩⟩⟩:=r; exact ⟨_,rfl,r0⟩
theorem Record_rv {h:PH} {v:Value} {x:Record} (r:RV h v x):∃ u0,v = .agg #[I x.Area,I x.House,u0]∧RS h u0 x.Values:=by
  obtain ⟨cs,hr,rfl⟩:=r; obtain ⟨u0,rfl,r0⟩:=Record_rd hr; exact ⟨_,rfl,r0⟩
def spec_l1Cur_next (c:L1Cur) (Q:Int→Int→Int→Prop):Prop :=
  jn (fun (k:Int→Prop)=>br (decide (c.At<(ln c.Code))) (idx c.Code c.At fun x7 =>
  k (wr (x7.v))) <|
  k 0) <|
  fun (b3:Int) =>
  br (decide ((wr (c.At+1))≤(ln c.Code))) (Q b3 (wr (c.At+1)) (IntKind.u64.wrap ((IntKind.u64.wrap ((IntKind.u64.wrap (c.Seed * 6364136223846793005))+(IntKind.u64.wrap (b3))))+1442695040888963407))) <|
  Q (wr (bits .and .u64 (Int.fdiv (IntKind.u64.wrap ((IntKind.u64.wrap ((IntKind.u64.wrap (c.Seed * 6364136223846793005))+(IntKind.u64.wrap (b3))))+1442695040888963407)) (2 ^ 40)) 255)) (wr (c.At+1)) (IntKind.u64.wrap ((IntKind.u64.wrap ((IntKind.u64.wrap (c.Seed * 6364136223846793005))+(IntKind.u64.wrap (b3))))+1442695040888963407))
def spec_l1Cur_pick (c:L1Cur) (n:Int) (Q:Int→Int→Int→Prop):Prop :=
  br (decide (n≤1)) (Q 0 c.At c.Seed) <|
  spec_l1Cur_next ((L1Cur.mk c.Code c.At c.Seed)) fun r3 r4 r5 =>
  jn (fun (k:Int→Int→Int→Prop)=>br (decide (n>200)) (spec_l1Cur_next ((L1Cur.mk c.Code r4 r5)) fun r14 r15 r16 =>
  k (wr ((wr (r3 * 256))+r14)) r15 r16) <|
  k r3 r4 r5) <|
  fun (x9:Int) (atx:Int) (seed:Int) =>
  n≠0∧(
  Q (Int.tmod x9 n) atx seed)
def spec_l1Most (a:Int) (b:Int) (Q:Int→Prop):Prop :=
  br (decide (a>b)) (Q a) <|
  Q b
def spec_l1Abs (n:Int) (Q:Int→Prop):Prop :=
  spec_l1Most n (wr (0-n)) fun r =>
  Q r
def spec_fGcd (a:Int) (b:Int) (Q:Int→Prop):Prop :=
  Loop2 (fun (a1:Int) (b2:Int) nx =>
  br (b2 != 0) (b2≠0∧(
  nx b2 (Int.tmod a1 b2))) <|
  spec_l1Abs a1 fun r =>
  Q r) a b
def spec_l1In (n:Int) (lo:Int) (hi:Int) (Q:Bool→Prop):Prop :=
  jn (fun (k:Bool→Prop)=>br (decide (n≥lo)) (k (decide (n≤hi))) <|
  k false) <|
  fun (x:Bool) =>
  Q x
def spec_fGood (f:Frac) (Q:Bool→Prop):Prop :=
  jn (fun (k:Bool→Prop)=>spec_l1In f.Den 1 1000000000 fun r =>
  br (r) (spec_l1In f.Num ((-1000000000)) 1000000000 fun r10 =>
  br (r10) (spec_fGcd f.Num f.Den fun r15 =>
  k (r15==1)) <|
  k false) <|
  k false) <|
  fun (x4:Bool) =>
  Q x4
def spec_fMake (n:Int) (d:Int) (Q:Frac→Bool→Prop):Prop :=
  br (d==0) (Q ((Frac.mk 0 0)) false) <|
  spec_fGcd n d fun r =>
  jn (fun (k:Int→Prop)=>br (decide (d<0)) (k (wr (0-r))) <|
  k r) <|
  fun (g:Int) =>
  g≠0∧(
  g≠0∧(
  spec_fGood ((Frac.mk (wr (Int.tdiv n g)) (wr (Int.tdiv d g)))) fun r28 =>
  br (!r28) (Q ((Frac.mk 0 0)) false) <|
  Q ((Frac.mk (wr (Int.tdiv n g)) (wr (Int.tdiv d g)))) true))
def spec_l1Cur_frac (c:L1Cur) (Q:Frac→Int→Int→Prop):Prop :=
  spec_l1Cur_pick ((L1Cur.mk c.Code c.At c.Seed)) 41 fun r5 r6 r7 =>
  spec_l1Cur_pick ((L1Cur.mk c.Code r6 r7)) 12 fun r13 r14 r15 =>
  spec_fMake (wr (r5-20)) (wr (1+r13)) fun r20 r21 =>
  Q ((Frac.mk r20.Num r20.Den)) r14 r15
def spec_l1Cur_among (c:L1Cur) (list:List Int) (Q:Int→Int→Int→Prop):Prop :=
  spec_l1Cur_pick ((L1Cur.mk c.Code c.At c.Seed)) (ln list) fun r10 r11 r12 =>
  idx list r10 fun x14 =>
  Q x14 r11 r12
def spec_l1Cur_anyFrac (c:L1Cur) (Q:Frac→Int→Int→Prop):Prop :=
  spec_l1Cur_pick ((L1Cur.mk c.Code c.At c.Seed)) 16 fun r5 r6 r7 =>
  br (r5==0) (spec_l1Cur_among ((L1Cur.mk c.Code r6 r7)) ([1000000000,(-1000000000),999999999,1000000001]) fun r21 r22 r23 =>
  spec_l1Cur_among ((L1Cur.mk c.Code r22 r23)) ([1,7,999999999,999999937]) fun r38 r39 r40 =>
  Q ((Frac.mk r21 r38)) r39 r40) <|
  br (r5==1) (spec_l1Cur_pick ((L1Cur.mk c.Code r6 r7)) 9 fun r55 r56 r57 =>
  spec_l1Cur_pick ((L1Cur.mk c.Code r56 r57)) 7 fun r62 r63 r64 =>
  Q ((Frac.mk (wr (r55-4)) (wr (r62-1)))) r63 r64) <|
  br (r5==2) (spec_l1Cur_pick ((L1Cur.mk c.Code r6 r7)) 3 fun r80 r81 r82 =>
  spec_l1Cur_among ((L1Cur.mk c.Code r81 r82)) ([1000000000,1000000001,999999937]) fun r96 r97 r98 =>
  Q ((Frac.mk r80 r96)) r97 r98) <|
  spec_l1Cur_frac ((L1Cur.mk c.Code r6 r7)) fun r114 r115 r116 =>
  Q ((Frac.mk r114.Num r114.Den)) r115 r116
def spec_fInt (n:Int) (Q:Frac→Prop):Prop :=
  Q ((Frac.mk n 1))
def spec_l1Cur_fracs (c:L1Cur) (Q:(List Frac)→Int→Int→Prop):Prop :=
  spec_l1Cur_pick ((L1Cur.mk c.Code c.At c.Seed)) 7 fun r3 r4 r5 =>
  Loop4 (fun (l:List Frac) (k:Int) (atx:Int) (seed:Int) nx =>
  br (decide (k>0)) (spec_l1Cur_frac ((L1Cur.mk c.Code atx seed)) fun r17 r18 r19 =>
  (ln l+ln ([r17])) * 16≤140737488355328∧(
  nx (l++([r17])) (wr (k-1)) r18 r19)) <|
  jn (fun (k66:(List Frac)→Int→Int→Prop)=>spec_l1Cur_pick ((L1Cur.mk c.Code atx seed)) 20 fun r67 r68 r69 =>
  br (r67==0) (spec_l1Cur_anyFrac ((L1Cur.mk c.Code r68 r69)) fun r74 r75 r76 =>
  (ln l+ln ([r74])) * 16≤140737488355328∧(
  k66 (l++([r74])) r75 r76)) <|
  br (r67==1) (Loop3 (fun (l110:List Frac) (atx116:Int) (seed117:Int) nx133 =>
  spec_l1Cur_pick ((L1Cur.mk c.Code atx116 seed117)) 2 fun r134 r135 r136 =>
  br (decide ((ln l110)<(wr (100+r134)))) (spec_l1Cur_pick ((L1Cur.mk c.Code r135 r136)) 9 fun r145 r146 r147 =>
  spec_fInt r145 fun r152 =>
  (ln l110+ln ([r152])) * 16≤140737488355328∧(
  nx133 (l110++([r152])) r146 r147)) <|
  k66 l110 r135 r136) l r68 r69) <|
  k66 l r68 r69) <|
  fun (l49:List Frac) (atx55:Int) (seed56:Int) =>
  Q l49 atx55 seed56) ([]) r3 r4 r5
def spec_DrawEqualBreaks (code:List B8) (Q:(List Frac)→Int→Prop):Prop :=
  spec_l1Cur_fracs ((L1Cur.mk code 0 0)) fun r2 r3 r4 =>
  spec_l1Cur_among ((L1Cur.mk code r3 r4)) ([2,3,4,8,1,9]) fun r24 r25 r26 =>
  Q r2 r24
def impl_gcdOf (a:Int) (b:Int) (Q:Int→Prop):Prop :=
  jn (fun (k:Int→Prop)=>br (decide (a<0)) (k (wr (0-a))) <|
  k a) <|
  fun (a1:Int) =>
  jn (fun (k4:Int→Prop)=>br (decide (b<0)) (k4 (wr (0-b))) <|
  k4 b) <|
  fun (b2:Int) =>
  Loop2 (fun (a7:Int) (b8:Int) nx =>
  br (b8 != 0) (b8≠0∧(
  nx b8 (Int.tmod a7 b8))) <|
  Q a7) a1 b2
def impl_IsFrac (f:Frac) (Q:Bool→Prop):Prop :=
  jn (fun (k:Bool→Prop)=>br (decide (f.Den≥1)) (br (decide (f.Den≤1000000000)) (br (decide (f.Num≥((-1000000000)))) (br (decide (f.Num≤1000000000)) (impl_gcdOf f.Num f.Den fun r =>
  k (r==1)) <|
  k false) <|
  k false) <|
  k false) <|
  k false) <|
  fun (x4:Bool) =>
  Q x4
def impl_areFracs (l:List Frac) (Q:Bool→Prop):Prop :=
  Loop1 (fun (x:Int) nx =>
  br (decide (x<(ln l))) (idx l x fun x2 =>
  impl_IsFrac ((Frac.mk x2.Num x2.Den)) fun r14 =>
  br (!r14) (Q false) <|
  nx (wr (x+1))) <|
  Q true) 0
def slices_Clone_impl_Frac_impl_Frac (sx:List Frac) (Q:(List Frac)→Prop):Prop :=
  nilq sx fun z =>
  br (z) (Q ([])) <|
  (ln (([]:List Frac))+ln sx) * 16≤140737488355328∧(
  Q ((([]:List Frac))++sx))
def impl_cmpFrac (a:Frac) (b:Frac) (Q:Int→Prop):Prop :=
  br (decide ((wr (a.Num * b.Den))<(wr (b.Num * a.Den)))) (Q ((-1))) <|
  br (decide ((wr (a.Num * b.Den))>(wr (b.Num * a.Den)))) (Q 1) <|
  Q 0
def impl_EqualBreaks (values:List Frac) (k:Int) (Q:(List Frac)→Bool→Prop):Prop :=
  jn (fun (k2:Bool→Prop)=>br (decide ((ln values)<1)) (k2 true) <|
  br (decide ((ln values)>100)) (k2 true) <|
  impl_areFracs values fun r4 =>
  br (!r4) (k2 true) <|
  br (decide (k<2)) (k2 true) <|
  k2 (decide (k>8))) <|
  fun (x:Bool) =>
  br (x) (Q ([]) false) <|
  slices_Clone_impl_Frac_impl_Frac values fun r11 =>
  sortq (fun x y K=>impl_cmpFrac x y K) r11 fun ys =>
  (0:Int)≤(wr (k-1))∧16 * (wr (k-1))≤140737488355328∧(
  Loop2 (fun (breaks:List Frac) (x38:Int) nx =>
  br (decide (x38<(ln (List.replicate (Int.toNat (wr (k-1))) ((Frac.mk ((0:Int)) ((0:Int)))))))) (k≠0∧(
  idx ys (wr (Int.tdiv (wr ((wr (x38+1)) * (ln r11))) k)) fun x42 =>
  (0:Int)≤x38∧Int.toNat x38<List.length breaks∧(
  nx (List.set breaks (Int.toNat x38) x42) (wr (x38+1))))) <|
  Q breaks true) (List.replicate (Int.toNat (wr (k-1))) ((Frac.mk ((0:Int)) ((0:Int))))) 0)
def spec_oFracs (l:List Frac) (most:Int) (Q:Bool→Prop):Prop :=
  Loop1 (fun (x:Int) nx =>
  br (decide (x<(ln l))) (idx l x fun x2 =>
  spec_fGood ((Frac.mk x2.Num x2.Den)) fun r14 =>
  br (!r14) (Q false) <|
  nx (wr (x+1))) <|
  Q (decide ((ln l)≤most))) 0
def spec_l1Sign (n:Int) (Q:Int→Prop):Prop :=
  br (decide (n<0)) (Q ((-1))) <|
  br (decide (n>0)) (Q 1) <|
  Q 0
def spec_fCmp (a:Frac) (b:Frac) (Q:Int→Prop):Prop :=
  spec_l1Sign (wr ((wr (a.Num * b.Den))-(wr (b.Num * a.Den)))) fun r =>
  Q r
def spec_oSorted (l:List Frac) (Q:(List Frac)→Prop):Prop :=
  (ln (([]:List Frac))+ln l) * 16≤140737488355328∧(
  Loop2 (fun (out:List Frac) (x19:Int) nx =>
  br (decide (x19<(ln ((([]:List Frac))++l)))) (Loop2 (fun (out22:List Frac) (k:Int) nx33 =>
  jn (fun (k48:Bool→Prop)=>br (decide (k>0)) (idx out22 (wr (k-1)) fun x50 =>
  idx out22 k fun x56 =>
  det1 (spec_fCmp x50 x56) fun r65 =>
  k48 (decide (r65>0))) <|
  k48 false) <|
  fun (x45:Bool) =>
  br (x45) (idx out22 k fun x73 =>
  idx out22 (wr (k-1)) fun x90 =>
  (0:Int)≤k∧Int.toNat k<List.length out22∧(
  (0:Int)≤(wr (k-1))∧Int.toNat (wr (k-1))<List.length (List.set out22 (Int.toNat k) x90)∧(
  nx33 (List.set (List.set out22 (Int.toNat k) x90) (Int.toNat (wr (k-1))) ((Frac.mk x73.Num x73.Den))) (wr (k-1))))) <|
  nx out22 (wr (x19+1))) out x19) <|
  Q out) ((([]:List Frac))++l) 0)
def spec_EqualBreaks (values:List Frac) (k:Int) (Q:(List Frac)→Bool→Prop):Prop :=
  jn (fun (k2:Bool→Prop)=>spec_oFracs values 100 fun r3 =>
  br (!r3) (k2 true) <|
  br ((ln values)==0) (k2 true) <|
  spec_l1In k 2 8 fun r7 =>
  k2 (!r7)) <|
  fun (x:Bool) =>
  br (x) (Q ([]) false) <|
  spec_oSorted values fun r12 =>
  Loop2 (fun (out:List Frac) (i:Int) nx =>
  br (decide (i<k)) (k≠0∧(
  idx r12 (wr (Int.tdiv (wr (i * (ln r12))) k)) fun x31 =>
  (ln out+ln ([x31])) * 16≤140737488355328∧(
  nx (out++([x31])) (wr (i+1))))) <|
  Q out true) ([]) 1
def impl_RanksOf (values:List Frac) (Q:(List Int)→Bool→Prop):Prop :=
  jn (fun (k:Bool→Prop)=>br (decide ((ln values)>100)) (k true) <|
  impl_areFracs values fun r2 =>
  k (!r2)) <|
  fun (x:Bool) =>
  br (x) (Q ([]) false) <|
  (0:Int)≤(ln values)∧8 * (ln values)≤140737488355328∧(
  Loop2 (fun (ranks:List Int) (x19:Int) nx =>
  br (decide (x19<(ln values))) (idx values x19 fun x23 =>
  (0:Int)≤x19∧Int.toNat x19<List.length ranks∧(
  Loop2 (fun (ranks46:List Int) (x52:Int) nx58 =>
  br (decide (x52<(ln values))) (jn (fun (k89:(List Int)→Prop)=>idx values x52 fun x91 =>
  impl_cmpFrac ((Frac.mk x91.Num x91.Den)) ((Frac.mk x23.Num x23.Den)) fun r110 =>
  br (decide (r110>0)) (idx ranks46 x19 fun x114 =>
  (0:Int)≤x19∧Int.toNat x19<List.length ranks46∧(
  k89 (List.set ranks46 (Int.toNat x19) (wr (x114+1))))) <|
  k89 ranks46) <|
  fun (ranks81:List Int) =>
  nx58 ranks81 (wr (x52+1))) <|
  nx ranks46 (wr (x19+1))) (List.set ranks (Int.toNat x19) 1) 0)) <|
  Q ranks true) (List.replicate (Int.toNat (ln values)) ((0:Int))) 0)
def spec_RanksOf (values:List Frac) (Q:(List Int)→Bool→Prop):Prop :=
  spec_oFracs values 100 fun r1 =>
  br (!r1) (Q ([]) false) <|
  Loop2 (fun (out:List Int) (x6:Int) nx =>
  br (decide (x6<(ln values))) (idx values x6 fun x12 =>
  Loop2 (fun (n:Int) (x25:Int) nx31 =>
  br (decide (x25<(ln values))) (jn (fun (k:Int→Prop)=>idx values x25 fun x46 =>
  spec_fCmp ((Frac.mk x46.Num x46.Den)) ((Frac.mk x12.Num x12.Den)) fun r65 =>
  br (decide (r65>0)) (k (wr (n+1))) <|
  k n) <|
  fun (n43:Int) =>
  nx31 n43 (wr (x25+1))) <|
  (ln out+ln ([n])) * 8≤140737488355328∧(
  nx (out++([n])) (wr (x6+1)))) 1 0) <|
  Q out true) ([]) 0
def spec_l1Own (l:List Int) (Q:(List Int)→Prop):Prop :=
  (ln (([]:List Int))+ln l) * 8≤140737488355328∧(
  Q ((([]:List Int))++l))
def spec_l1Cur_geo (c:L1Cur) (Q:Geo→Int→Int→Prop):Prop :=
  spec_l1Cur_pick ((L1Cur.mk c.Code c.At c.Seed)) (ln ([[(-1),0,0],[(-1),0,0,1,1,2,2],[(-1),0,0,0,1,1,2,3],[(-1),0,0,1,1],[(-1)],[(-1),0,1,2]])) fun r84 r85 r86 =>
  idx ([[(-1),0,0],[(-1),0,0,1,1,2,2],[(-1),0,0,0,1,1,2,3],[(-1),0,0,1,1],[(-1)],[(-1),0,1,2]]) r84 fun x93 =>
  spec_l1Own x93 fun r117 =>
  spec_l1Cur_pick ((L1Cur.mk c.Code r85 r86)) 4 fun r134 r135 r136 =>
  Loop4 (fun (k:Int) (atx:Int) (seed:Int) (parents:List Int) nx =>
  br (decide (k>0)) (spec_l1Cur_pick ((L1Cur.mk c.Code atx seed)) (ln parents) fun r177 r178 r179 =>
  (ln parents+ln ([r177])) * 8≤140737488355328∧(
  nx (wr (k-1)) r178 r179 (parents++([r177])))) <|
  Q ((Geo.mk parents)) atx seed) r134 r135 r136 r117
def spec_l1Cur_schema (c:L1Cur) (Q:(List Variable)→Int→Int→Prop):Prop :=
  Loop4 (fun (out:List Variable) (k:Int) (atx:Int) (seed:Int) nx =>
  spec_l1Cur_pick ((L1Cur.mk c.Code atx seed)) 3 fun r21 r22 r23 =>
  br (decide (k<(wr (1+r21)))) (idx ([(ByteArray.mk #[115,101,120]),(ByteArray.mk #[97,103,101]),(ByteArray.mk #[106,111,98]),(ByteArray.mk #[104,111,109,101]),(ByteArray.mk #[115,105,122,101]),(ByteArray.mk #[108,97,110,103])]) k fun x30 =>
  spec_l1Cur_pick ((L1Cur.mk c.Code r22 r23)) 3 fun r42 r43 r44 =>
  (ln out+ln ([(Variable.mk x30 (wr (2+r42)))])) * 24≤140737488355328∧(
  nx (out++([(Variable.mk x30 (wr (2+r42)))])) (wr (k+1)) r43 r44)) <|
  Q out r22 r23) ([]) 0 c.At c.Seed
def spec_gChildren (g:Geo) (i:Int) (Q:(List Int)→Prop):Prop :=
  Loop2 (fun (out:List Int) (x6:Int) nx =>
  br (decide (x6<(ln g.Parents))) (jn (fun (k:(List Int)→Prop)=>idx g.Parents x6 fun x25 =>
  br (x25==i) ((ln out+ln ([x6])) * 8≤140737488355328∧(
  k (out++([x6])))) <|
  k out) <|
  fun (out15:List Int) =>
  nx out15 (wr (x6+1))) <|
  Q out) ([]) 0
def spec_gLeaves (g:Geo) (Q:(List Int)→Prop):Prop :=
  Loop2 (fun (out:List Int) (x6:Int) nx =>
  br (decide (x6<(ln g.Parents))) (jn (fun (k:(List Int)→Prop)=>spec_gChildren ((Geo.mk g.Parents)) x6 fun r27 =>
  br ((ln r27)==0) ((ln out+ln ([x6])) * 8≤140737488355328∧(
  k (out++([x6])))) <|
  k out) <|
  fun (out17:List Int) =>
  nx out17 (wr (x6+1))) <|
  Q out) ([]) 0
def spec_l1Cur_values (c:L1Cur) (sx:List Variable) (Q:(List Int)→Int→Int→Prop):Prop :=
  Loop4 (fun (out:List Int) (x:Int) (atx:Int) (seed:Int) nx =>
  br (decide (x<(ln sx))) (idx sx x fun x19 =>
  spec_l1Cur_pick ((L1Cur.mk c.Code atx seed)) x19.Levels fun r34 r35 r36 =>
  (ln out+ln ([r34])) * 8≤140737488355328∧(
  nx (out++([r34])) (wr (x+1)) r35 r36)) <|
  Q out atx seed) ([]) 0 c.At c.Seed
def spec_l1Cur_record (c:L1Cur) (sx:List Variable) (areas:List Int) (Q:Record→Int→Int→Prop):Prop :=
  spec_l1Cur_among ((L1Cur.mk c.Code c.At c.Seed)) areas fun r19 r20 r21 =>
  spec_l1Cur_pick ((L1Cur.mk c.Code r20 r21)) 6 fun r28 r29 r30 =>
  spec_l1Cur_values ((L1Cur.mk c.Code r29 r30)) sx fun r35 r36 r37 =>
  Q ((Record.mk r19 r28 r35)) r36 r37
def spec_l1Cur_one (c:L1Cur) (n:Int) (Q:Bool→Int→Int→Prop):Prop :=
  spec_l1Cur_pick ((L1Cur.mk c.Code c.At c.Seed)) n fun r3 r4 r5 =>
  Q (r3==0) r4 r5
def spec_rOwn (r:Record) (Q:Record→Prop):Prop :=
  spec_l1Own r.Values fun r13 =>
  Q ((Record.mk r.Area r.House r13))
def spec_l1Cur_data (c:L1Cur) (sx:List Variable) (areas:List Int) (Q:(List Record)→Int→Int→Prop):Prop :=
  spec_l1Cur_pick ((L1Cur.mk c.Code c.At c.Seed)) 12 fun r17 r18 r19 =>
  Loop4 (fun (out:List Record) (k:Int) (atx:Int) (seed:Int) nx =>
  br (decide (k>0)) (jn (fun (k52:(List Record)→Int→Int→Prop)=>spec_l1Cur_record ((L1Cur.mk c.Code atx seed)) sx areas fun r53 r54 r55 =>
  (ln out+ln ([((Record.mk r53.Area r53.House r53.Values):Record)])) * 40≤140737488355328∧(
  spec_l1Cur_one ((L1Cur.mk c.Code r54 r55)) 4 fun r98 r99 r100 =>
  br (r98) (spec_rOwn ((Record.mk r53.Area r53.House r53.Values)) fun r115 =>
  (ln (out++([((Record.mk r53.Area r53.House r53.Values):Record)]))+ln ([((Record.mk r115.Area r115.House r115.Values):Record)])) * 40≤140737488355328∧(
  k52 ((out++([((Record.mk r53.Area r53.House r53.Values):Record)]))++([((Record.mk r115.Area r115.House r115.Values):Record)])) r99 r100)) <|
  k52 (out++([((Record.mk r53.Area r53.House r53.Values):Record)])) r99 r100)) <|
  fun (out35:List Record) (atx41:Int) (seed42:Int) =>
  nx out35 (wr (k-1)) atx41 seed42) <|
  Q out atx seed) ([]) r17 r18 r19
def spec_l1Cur_survey (c:L1Cur) (Q:Geo→(List Variable)→(List Record)→Int→Int→Prop):Prop :=
  spec_l1Cur_geo ((L1Cur.mk c.Code c.At c.Seed)) fun r5 r6 r7 =>
  spec_l1Cur_schema ((L1Cur.mk c.Code r6 r7)) fun r27 r28 r29 =>
  spec_gLeaves ((Geo.mk r5.Parents)) fun r51 =>
  spec_l1Cur_data ((L1Cur.mk c.Code r28 r29)) r27 r51 fun r68 r69 r70 =>
  Q ((Geo.mk r5.Parents)) r27 r68 r69 r70
def spec_l1Cur_anyGeo (c:L1Cur) (Q:Geo→Int→Int→Prop):Prop :=
  spec_l1Cur_geo ((L1Cur.mk c.Code c.At c.Seed)) fun r5 r6 r7 =>
  jn (fun (k:Int→Int→(List Int)→Prop)=>spec_l1Cur_pick ((L1Cur.mk c.Code r6 r7)) 24 fun r59 r60 r61 =>
  br (r59==0) ((0:Int)≤0∧Int.toNat 0<List.length r5.Parents∧(
  k r60 r61 (List.set r5.Parents (Int.toNat 0) 0))) <|
  br (r59==1) (spec_l1Cur_among ((L1Cur.mk c.Code r60 r61)) ([(-1),ln r5.Parents,0]) fun r103 r104 r105 =>
  (ln r5.Parents+ln ([r103])) * 8≤140737488355328∧(
  k r104 r105 (r5.Parents++([r103])))) <|
  br (r59==2) (Q ((Geo.mk ([]))) r60 r61) <|
  br (r59==3) (spec_l1Cur_pick ((L1Cur.mk c.Code r60 r61)) 2 fun r177 r178 r179 =>
  (0:Int)≤(wr ((wr (30-(ln r5.Parents)))+r177))∧(ln r5.Parents+(wr ((wr (30-(ln r5.Parents)))+r177))) * 8≤140737488355328∧(
  k r178 r179 (r5.Parents++List.replicate (Int.toNat (wr ((wr (30-(ln r5.Parents)))+r177))) ((0:Int))))) <|
  k r60 r61 r5.Parents) <|
  fun (atx:Int) (seed:Int) (parents:List Int) =>
  Q ((Geo.mk parents)) atx seed
def spec_l1Cur_of (c:L1Cur) (list:List ByteArray) (Q:ByteArray→Int→Int→Prop):Prop :=
  spec_l1Cur_pick ((L1Cur.mk c.Code c.At c.Seed)) (ln list) fun r10 r11 r12 =>
  idx list r10 fun x14 =>
  Q x14 r11 r12
def spec_l1Cur_anySchema (c:L1Cur) (Q:(List Variable)→Int→Int→Prop):Prop :=
  spec_l1Cur_schema ((L1Cur.mk c.Code c.At c.Seed)) fun r3 r4 r5 =>
  jn (fun (k:(List Variable)→Int→Int→Prop)=>spec_l1Cur_pick ((L1Cur.mk c.Code r4 r5)) 24 fun r30 r31 r32 =>
  br (r30==0) (spec_l1Cur_among ((L1Cur.mk c.Code r31 r32)) ([1,8,9]) fun r45 r46 r47 =>
  idx r3 0 fun x53 =>
  k (List.set r3 (Int.toNat 0) ({x53 with Levels:=r45}:Variable)) r46 r47) <|
  br (r30==1) (spec_l1Cur_of ((L1Cur.mk c.Code r31 r32)) ([(ByteArray.mk #[]),(ByteArray.mk #[65,103,101]),(ByteArray.mk #[97,98,99,100,101,102,103,104,105]),(ByteArray.mk #[97,103,101]),(ByteArray.mk #[97,98,32,99,100])]) fun r75 r76 r77 =>
  idx r3 0 fun x83 =>
  k (List.set r3 (Int.toNat 0) ({x83 with Name:=r75}:Variable)) r76 r77) <|
  br (r30==2) (Q ([]) r31 r32) <|
  br (r30==3) (Loop3 (fun (sx105:List Variable) (atx111:Int) (seed112:Int) nx =>
  spec_l1Cur_pick ((L1Cur.mk c.Code atx111 seed112)) 2 fun r125 r126 r127 =>
  br (decide ((ln sx105)<(wr (6+r125)))) (sln ((ByteArray.mk #[120]))+sln (b2s ([(B8.mk (IntKind.u8.wrap (wr (97+(ln sx105)))))]))≤9223372036854775807∧(
  (ln sx105+ln ([(Variable.mk (((ByteArray.mk #[120]))++(b2s ([(B8.mk (IntKind.u8.wrap (wr (97+(ln sx105)))))]))) 2)])) * 24≤140737488355328∧(
  nx (sx105++([(Variable.mk (((ByteArray.mk #[120]))++(b2s ([(B8.mk (IntKind.u8.wrap (wr (97+(ln sx105)))))]))) 2)])) r126 r127))) <|
  k sx105 r126 r127) r3 r31 r32) <|
  k r3 r31 r32) <|
  fun (sx:List Variable) (atx:Int) (seed:Int) =>
  Q sx atx seed
def spec_l1Cur_anySurvey (c:L1Cur) (Q:Geo→(List Variable)→(List Record)→Int→Int→Prop):Prop :=
  spec_l1Cur_survey ((L1Cur.mk c.Code c.At c.Seed)) fun r5 r6 r7 r8 r9 =>
  jn (fun (k:(List Record)→Int→Int→Prop)=>spec_l1Cur_pick ((L1Cur.mk c.Code r8 r9)) 20 fun r83 r84 r85 =>
  br (r83==0) (spec_l1Cur_anyGeo ((L1Cur.mk c.Code r84 r85)) fun r89 r90 r91 =>
  Q ((Geo.mk r89.Parents)) r6 r7 r90 r91) <|
  br (r83==1) (spec_l1Cur_anySchema ((L1Cur.mk c.Code r84 r85)) fun r130 r131 r132 =>
  Q ((Geo.mk r5.Parents)) r130 r7 r131 r132) <|
  br (r83==2) (spec_l1Cur_among ((L1Cur.mk c.Code r84 r85)) ([0,29,(-1)]) fun r183 r184 r185 =>
  spec_l1Cur_values ((L1Cur.mk c.Code r184 r185)) r6 fun r191 r192 r193 =>
  (ln r7+ln ([((Record.mk r183 0 r191):Record)])) * 40≤140737488355328∧(
  k (r7++([((Record.mk r183 0 r191):Record)])) r192 r193)) <|
  k r7 r84 r85) <|
  fun (l:List Record) (atx:Int) (seed:Int) =>
  Q ((Geo.mk r5.Parents)) r6 l atx seed
def spec_l1Cur_where (c:L1Cur) (sx:List Variable) (Q:(List Int)→Int→Int→Prop):Prop :=
  Loop4 (fun (out:List Int) (x:Int) (atx:Int) (seed:Int) nx =>
  br (decide (x<(ln sx))) (idx sx x fun x19 =>
  jn (fun (k:Int→Int→Int→Prop)=>spec_l1Cur_one ((L1Cur.mk c.Code atx seed)) 3 fun r50 r51 r52 =>
  br (r50) ((0:Int)≤(IntKind.u64.wrap (x19.Levels))∧(
  spec_l1Cur_pick ((L1Cur.mk c.Code r51 r52)) (wr ((shl .i64 1 (IntKind.u64.wrap (x19.Levels)))-1)) fun r59 r60 r61 =>
  k (wr (1+r59)) r60 r61)) <|
  k 0 r51 r52) <|
  fun (setx:Int) (atx45:Int) (seed46:Int) =>
  (ln out+ln ([setx])) * 8≤140737488355328∧(
  nx (out++([setx])) (wr (x+1)) atx45 seed46)) <|
  Q out atx seed) ([]) 0 c.At c.Seed
def spec_gGood (g:Geo) (Q:Bool→Prop):Prop :=
  jn (fun (k:Bool→Prop)=>spec_l1In (ln g.Parents) 1 30 fun r8 =>
  br (!r8) (k true) <|
  idx g.Parents 0 fun x12 =>
  k (x12 != ((-1)))) <|
  fun (x5:Bool) =>
  br (x5) (Q false) <|
  Loop1 (fun (x22:Int) nx =>
  br (decide (x22<(ln g.Parents))) (idx g.Parents x22 fun x26 =>
  jn (fun (k40:Bool→Prop)=>br (decide (x22>0)) (spec_l1In x26 0 (wr (x22-1)) fun r43 =>
  k40 (!r43)) <|
  k40 false) <|
  fun (x37:Bool) =>
  br (x37) (Q false) <|
  nx (wr (x22+1))) <|
  Q true) 0
def spec_gDepth (g:Geo) (i:Int) (Q:Int→Prop):Prop :=
  Loop2 (fun (i2:Int) (n:Int) nx =>
  idx g.Parents i2 fun x4 =>
  br (decide (x4≥0)) (idx g.Parents i2 fun x11 =>
  nx x11 (wr (n+1))) <|
  Q n) i 0
def spec_gLevel (g:Geo) (level:Int) (Q:(List Int)→Prop):Prop :=
  Loop2 (fun (out:List Int) (x6:Int) nx =>
  br (decide (x6<(ln g.Parents))) (jn (fun (k:(List Int)→Prop)=>spec_gDepth ((Geo.mk g.Parents)) x6 fun r27 =>
  br (r27==level) ((ln out+ln ([x6])) * 8≤140737488355328∧(
  k (out++([x6])))) <|
  k out) <|
  fun (out17:List Int) =>
  nx out17 (wr (x6+1))) <|
  Q out) ([]) 0
def spec_l1Cur_table (c:L1Cur) (g:Geo) (sx:List Variable) (Q:Table→Int→Int→Prop):Prop :=
  spec_l1Cur_where ((L1Cur.mk c.Code c.At c.Seed)) sx fun r24 r25 r26 =>
  Loop4 (fun (x47:Int) (atx:Int) (seed:Int) (vars:List Int) nx =>
  br (decide (x47<(ln sx))) (jn (fun (k:Int→Int→(List Int)→Prop)=>spec_l1Cur_one ((L1Cur.mk c.Code atx seed)) 2 fun r129 r130 r131 =>
  br (r129) ((ln vars+ln ([x47])) * 8≤140737488355328∧(
  k r130 r131 (vars++([x47])))) <|
  k r130 r131 vars) <|
  fun (atx107:Int) (seed108:Int) (vars109:List Int) =>
  nx (wr (x47+1)) atx107 seed108 vars109) <|
  jn (fun (k232:Int→Int→Int→Prop)=>spec_gGood ((Geo.mk g.Parents)) fun r234 =>
  br (r234) (spec_l1Cur_pick ((L1Cur.mk c.Code atx seed)) 3 fun r238 r239 r240 =>
  spec_gLevel ((Geo.mk g.Parents)) r238 fun r254 =>
  br ((ln r254)==0) (k232 r239 r240 0) <|
  k232 r239 r240 r238) <|
  k232 atx seed 0) <|
  fun (atx222:Int) (seed223:Int) (level:Int) =>
  jn (fun (k309:Int→Int→Int→Prop)=>jn (fun (k317:Bool→Int→Int→Prop)=>spec_l1Cur_one ((L1Cur.mk c.Code atx222 seed223)) 3 fun r319 r320 r321 =>
  br (r319) (k317 (decide ((ln sx)>0)) r320 r321) <|
  k317 false r320 r321) <|
  fun (x311:Bool) (atx312:Int) (seed313:Int) =>
  br (x311) (spec_l1Cur_pick ((L1Cur.mk c.Code atx312 seed313)) (ln sx) fun r329 r330 r331 =>
  k309 r330 r331 r329) <|
  k309 atx312 seed313 ((-1))) <|
  fun (atx299:Int) (seed300:Int) (sum:Int) =>
  Q ((Table.mk level vars r24 sum)) atx299 seed300) 0 r25 r26 ([])
def spec_l1Cur_anyTable (c:L1Cur) (g:Geo) (sx:List Variable) (Q:Table→Int→Int→Prop):Prop :=
  spec_l1Cur_table ((L1Cur.mk c.Code c.At c.Seed)) ((Geo.mk g.Parents)) sx fun r25 r26 r27 =>
  jn (fun (k:Int→Int→Int→(List Int)→(List Int)→Int→Prop)=>spec_l1Cur_pick ((L1Cur.mk c.Code r26 r27)) 24 fun r107 r108 r109 =>
  br (r107==0) (spec_l1Cur_among ((L1Cur.mk c.Code r108 r109)) ([(-1),3,4]) fun r123 r124 r125 =>
  k r124 r125 r123 r25.Vars r25.Where r25.Sum) <|
  br (r107==1) (spec_l1Cur_among ((L1Cur.mk c.Code r108 r109)) ([(-1),0,6]) fun r169 r170 r171 =>
  (ln r25.Vars+ln ([r169])) * 8≤140737488355328∧(
  k r170 r171 r25.Level (r25.Vars++([r169])) r25.Where r25.Sum)) <|
  br (r107==2) ((ln r25.Where+ln ([0])) * 8≤140737488355328∧(
  k r108 r109 r25.Level r25.Vars (r25.Where++([0])) r25.Sum)) <|
  br (r107==3) (spec_l1Cur_among ((L1Cur.mk c.Code r108 r109)) ([(-2),3,6]) fun r286 r287 r288 =>
  k r287 r288 r25.Level r25.Vars r25.Where r286) <|
  br (r107==4) (br (decide ((ln r25.Where)>0)) (spec_l1Cur_among ((L1Cur.mk c.Code r108 r109)) ([(-1),255,256]) fun r334 r335 r336 =>
  (0:Int)≤0∧Int.toNat 0<List.length r25.Where∧(
  k r335 r336 r25.Level r25.Vars (List.set r25.Where (Int.toNat 0) r334) r25.Sum)) <|
  k r108 r109 r25.Level r25.Vars r25.Where r25.Sum) <|
  k r108 r109 r25.Level r25.Vars r25.Where r25.Sum) <|
  fun (atx:Int) (seed:Int) (level:Int) (vars:List Int) (wherex:List Int) (sum:Int) =>
  Q ((Table.mk level vars wherex sum)) atx seed
def spec_DrawTableOf (code:List B8) (Q:Geo→(List Variable)→Table→(List Record)→Prop):Prop :=
  spec_l1Cur_anySurvey ((L1Cur.mk code 0 0)) fun r13 r14 r15 r16 r17 =>
  spec_l1Cur_anyTable ((L1Cur.mk code r16 r17)) ((Geo.mk r13.Parents)) r14 fun r60 r61 r62 =>
  Q ((Geo.mk r13.Parents)) r14 ((Table.mk r60.Level r60.Vars r60.Where r60.Sum)) r15
def spec_sName (sx:ByteArray) (Q:Bool→Prop):Prop :=
  Loop1 (fun (i:Int) nx =>
  br (decide (i<(sln sx))) (jn (fun (k:Bool→Prop)=>sidx sx i fun c =>
  br (decide ((c)<97)) (k true) <|
  sidx sx i fun c3 =>
  k (decide ((c3)>122))) <|
  fun (x:Bool) =>
  br (x) (Q false) <|
  nx (wr (i+1))) <|
  spec_l1In (sln sx) 1 8 fun r =>
  Q r) 0
def spec_sFind (sx:List Variable) (name:ByteArray) (Q:Int→Prop):Prop :=
  Loop1 (fun (x:Int) nx =>
  br (decide (x<(ln sx))) (idx sx x fun x2 =>
  br (streq x2.Name name) (Q x) <|
  nx (wr (x+1))) <|
  Q ((-1))) 0
def spec_sGood (sx:List Variable) (Q:Bool→Prop):Prop :=
  spec_l1In (ln sx) 1 6 fun r1 =>
  br (!r1) (Q false) <|
  Loop1 (fun (x3:Int) nx =>
  br (decide (x3<(ln sx))) (idx sx x3 fun x7 =>
  jn (fun (k:Bool→Prop)=>det1 (spec_sName x7.Name) fun r27 =>
  br (!r27) (k true) <|
  det1 (spec_l1In x7.Levels 2 8) fun r33 =>
  br (!r33) (k true) <|
  (0:Int)≤0∧0≤x3∧x3≤ln sx∧(
  det1 (spec_sFind (List.take (Int.toNat x3-Int.toNat 0) (List.drop (Int.toNat 0) sx)) x7.Name) fun r44 =>
  k (decide (r44≥0)))) <|
  fun (x24:Bool) =>
  br (x24) (Q false) <|
  nx (wr (x3+1))) <|
  Q true) 0
def spec_l1Rising (l:List Int) (lo:Int) (hi:Int) (Q:Bool→Prop):Prop :=
  Loop1 (fun (x:Int) nx =>
  br (decide (x<(ln l))) (idx l x fun x2 =>
  jn (fun (k:Bool→Prop)=>spec_l1In x2 lo hi fun r14 =>
  br (!r14) (k true) <|
  br (decide (x>0)) (idx l (wr (x-1)) fun x19 =>
  k (decide (x19≥x2))) <|
  k false) <|
  fun (x11:Bool) =>
  br (x11) (Q false) <|
  nx (wr (x+1))) <|
  Q true) 0
def spec_uWhere (sx:List Variable) (wherex:List Int) (Q:Bool→Prop):Prop :=
  br ((ln wherex)!=(ln sx)) (Q false) <|
  Loop1 (fun (x:Int) nx =>
  br (decide (x<(ln sx))) (idx sx x fun x9 =>
  idx wherex x fun x21 =>
  (0:Int)≤(IntKind.u64.wrap (x9.Levels))∧(
  det1 (spec_l1In x21 0 (wr ((shl .i64 1 (IntKind.u64.wrap (x9.Levels)))-1))) fun r32 =>
  br (!r32) (Q false) <|
  nx (wr (x+1)))) <|
  Q true) 0
def spec_sPart (sx:List Variable) (vars:List Int) (Q:(List Variable)→Prop):Prop :=
  Loop2 (fun (out:List Variable) (x:Int) nx =>
  br (decide (x<(ln vars))) (idx vars x fun x13 =>
  idx sx x13 fun x20 =>
  (ln out+ln ([x20])) * 24≤140737488355328∧(
  nx (out++([x20])) (wr (x+1)))) <|
  Q out) ([]) 0
def spec_sCount (sx:List Variable) (Q:Int→Prop):Prop :=
  Loop2 (fun (n:Int) (x:Int) nx =>
  br (decide (x<(ln sx))) (idx sx x fun x2 =>
  nx (wr (n * x2.Levels)) (wr (x+1))) <|
  Q n) 1 0
def spec_uCount (g:Geo) (sx:List Variable) (t:Table) (Q:Int→Prop):Prop :=
  spec_gLevel ((Geo.mk g.Parents)) t.Level fun r31 =>
  spec_sPart sx t.Vars fun r46 =>
  det1 (spec_sCount r46) fun r59 =>
  Q (wr ((ln r31) * r59))
def spec_uGood (g:Geo) (sx:List Variable) (t:Table) (Q:Bool→Prop):Prop :=
  jn (fun (k:Bool→Prop)=>spec_gGood ((Geo.mk g.Parents)) fun r37 =>
  br (!r37) (k true) <|
  spec_sGood sx fun r40 =>
  br (!r40) (k true) <|
  spec_gLevel ((Geo.mk g.Parents)) t.Level fun r49 =>
  br ((ln r49)==0) (k true) <|
  spec_l1Rising t.Vars 0 (wr ((ln sx)-1)) fun r62 =>
  br (!r62) (k true) <|
  spec_uWhere sx t.Where fun r70 =>
  br (!r70) (k true) <|
  spec_l1In t.Sum ((-1)) (wr ((ln sx)-1)) fun r80 =>
  k (!r80)) <|
  fun (x34:Bool) =>
  br (x34) (Q false) <|
  spec_uCount ((Geo.mk g.Parents)) sx ((Table.mk t.Level t.Vars t.Where t.Sum)) fun r88 =>
  Q (decide (r88≤600))
def spec_sFits (sx:List Variable) (values:List Int) (Q:Bool→Prop):Prop :=
  br ((ln values)!=(ln sx)) (Q false) <|
  Loop1 (fun (x:Int) nx =>
  br (decide (x<(ln sx))) (idx sx x fun x9 =>
  idx values x fun x21 =>
  det1 (spec_l1In x21 0 (wr (x9.Levels-1))) fun r32 =>
  br (!r32) (Q false) <|
  nx (wr (x+1))) <|
  Q true) 0
def spec_rGood (sx:List Variable) (r1:Record) (Q:Bool→Prop):Prop :=
  jn (fun (k:Bool→Prop)=>spec_l1In r1.Area 0 29 fun r16 =>
  br (r16) (spec_l1In r1.House 0 999 fun r20 =>
  br (r20) (spec_sFits sx r1.Values fun r25 =>
  k r25) <|
  k false) <|
  k false) <|
  fun (x13:Bool) =>
  Q x13
def spec_dGood (sx:List Variable) (l:List Record) (Q:Bool→Prop):Prop :=
  Loop1 (fun (x:Int) nx =>
  br (decide (x<(ln l))) (idx l x fun x8 =>
  spec_rGood sx ((Record.mk x8.Area x8.House x8.Values)) fun r28 =>
  br (!r28) (Q false) <|
  nx (wr (x+1))) <|
  Q (decide ((ln l)≤40))) 0
def spec_dInput (sx:List Variable) (l:List Record) (Q:Bool→Prop):Prop :=
  jn (fun (k:Bool→Prop)=>spec_sGood sx fun r8 =>
  br (r8) (spec_dGood sx l fun r11 =>
  k r11) <|
  k false) <|
  fun (x:Bool) =>
  Q x
def spec_l1Has (l:List Int) (n:Int) (Q:Bool→Prop):Prop :=
  Loop1 (fun (x:Int) nx =>
  br (decide (x<(ln l))) (idx l x fun x1 =>
  br (x1==n) (Q true) <|
  nx (wr (x+1))) <|
  Q false) 0
def spec_uSurvey (g:Geo) (sx:List Variable) (l:List Record) (Q:Bool→Prop):Prop :=
  jn (fun (k:Bool→Prop)=>spec_gGood ((Geo.mk g.Parents)) fun r22 =>
  br (!r22) (k true) <|
  spec_dInput sx l fun r25 =>
  k (!r25)) <|
  fun (x19:Bool) =>
  br (x19) (Q false) <|
  spec_gLeaves ((Geo.mk g.Parents)) fun r33 =>
  Loop1 (fun (x43:Int) nx =>
  br (decide (x43<(ln l))) (idx l x43 fun x47 =>
  spec_l1Has r33 x47.Area fun r70 =>
  br (!r70) (Q false) <|
  nx (wr (x43+1))) <|
  Q true) 0
def spec_gUp (g:Geo) (i:Int) (level:Int) (Q:Int→Prop):Prop :=
  spec_gDepth ((Geo.mk g.Parents)) i fun r2 =>
  br (decide (level<0)) (Q ((-1))) <|
  Loop2 (fun (i7:Int) (d:Int) nx =>
  br (decide (d>level)) (idx g.Parents i7 fun x11 =>
  nx x11 (wr (d-1))) <|
  br (decide (d<level)) (Q ((-1))) <|
  Q i7) i r2
def spec_uMeets (t:Table) (values:List Int) (Q:Bool→Prop):Prop :=
  Loop1 (fun (x14:Int) nx =>
  br (decide (x14<(ln t.Where))) (idx t.Where x14 fun x16 =>
  jn (fun (k:Bool→Prop)=>br (x16 != 0) (idx values x14 fun x28 =>
  (0:Int)≤(IntKind.u64.wrap (x28))∧(
  k ((bits .and .i64 (shr .i64 x16 (IntKind.u64.wrap (x28))) 1)==0))) <|
  k false) <|
  fun (x25:Bool) =>
  br (x25) (Q false) <|
  nx (wr (x14+1))) <|
  Q true) 0
def spec_l1Find (l:List Int) (n:Int) (Q:Int→Prop):Prop :=
  Loop1 (fun (x:Int) nx =>
  br (decide (x<(ln l))) (idx l x fun x1 =>
  br (x1==n) (Q x) <|
  nx (wr (x+1))) <|
  Q ((-1))) 0
def spec_sPick (values:List Int) (vars:List Int) (Q:(List Int)→Prop):Prop :=
  Loop2 (fun (out:List Int) (x:Int) nx =>
  br (decide (x<(ln vars))) (idx vars x fun x13 =>
  idx values x13 fun x20 =>
  (ln out+ln ([x20])) * 8≤140737488355328∧(
  nx (out++([x20])) (wr (x+1)))) <|
  Q out) ([]) 0
def spec_sIndex (sx:List Variable) (values:List Int) (Q:Int→Prop):Prop :=
  Loop2 (fun (n:Int) (x:Int) nx =>
  br (decide (x<(ln sx))) (idx sx x fun x8 =>
  idx values x fun x20 =>
  nx (wr ((wr (n * x8.Levels))+x20)) (wr (x+1))) <|
  Q n) 0 0
def spec_uCell (g:Geo) (sx:List Variable) (t:Table) (r19:Record) (Q:Int→Int→Prop):Prop :=
  spec_gUp ((Geo.mk g.Parents)) r19.Area t.Level fun r39 =>
  jn (fun (k:Bool→Prop)=>br (decide (r39<0)) (k true) <|
  spec_uMeets ((Table.mk t.Level t.Vars t.Where t.Sum)) r19.Values fun r62 =>
  k (!r62)) <|
  fun (x59:Bool) =>
  br (x59) (Q ((-1)) 0) <|
  spec_sPart sx t.Vars fun r68 =>
  spec_gLevel ((Geo.mk g.Parents)) t.Level fun r88 =>
  det1 (spec_l1Find r88 r39) fun r103 =>
  det1 (spec_sCount r68) fun r104 =>
  spec_sPick r19.Values t.Vars fun r110 =>
  det1 (spec_sIndex r68 r110) fun r124 =>
  br (decide (t.Sum<0)) (Q (wr ((wr (r103 * r104))+r124)) 1) <|
  idx r19.Values t.Sum fun x136 =>
  Q (wr ((wr (r103 * r104))+r124)) x136
def spec_uTable (g:Geo) (sx:List Variable) (t:Table) (l:List Record) (Q:(List Int)→Prop):Prop :=
  spec_uCount ((Geo.mk g.Parents)) sx ((Table.mk t.Level t.Vars t.Where t.Sum)) fun r32 =>
  (0:Int)≤r32∧8 * r32≤140737488355328∧(
  Loop2 (fun (out:List Int) (x52:Int) nx =>
  br (decide (x52<(ln l))) (jn (fun (k:(List Int)→Prop)=>idx l x52 fun x94 =>
  spec_uCell ((Geo.mk g.Parents)) sx ((Table.mk t.Level t.Vars t.Where t.Sum)) ((Record.mk x94.Area x94.House x94.Values)) fun r119 r120 =>
  br (decide (r119≥0)) (idx out r119 fun x134 =>
  (0:Int)≤r119∧Int.toNat r119<List.length out∧(
  k (List.set out (Int.toNat r119) (wr (x134+r120))))) <|
  k out) <|
  fun (out86:List Int) =>
  nx out86 (wr (x52+1))) <|
  Q out) (List.replicate (Int.toNat r32) ((0:Int))) 0)
def spec_TableOf (g:Geo) (sx:List Variable) (t:Table) (l:List Record) (Q:(List Int)→Bool→Prop):Prop :=
  jn (fun (k:Bool→Prop)=>spec_uGood ((Geo.mk g.Parents)) sx ((Table.mk t.Level t.Vars t.Where t.Sum)) fun r44 =>
  br (!r44) (k true) <|
  spec_uSurvey ((Geo.mk g.Parents)) sx l fun r48 =>
  k (!r48)) <|
  fun (x41:Bool) =>
  br (x41) (Q ([]) false) <|
  spec_uTable ((Geo.mk g.Parents)) sx ((Table.mk t.Level t.Vars t.Where t.Sum)) l fun r59 =>
  Q r59 true
def spec_DrawProfileText (code:List B8) (Q:Geo→(List Variable)→Table→(List Int)→Prop):Prop :=
  spec_DrawTableOf code fun r12 r13 r14 r15 =>
  spec_TableOf ((Geo.mk r12.Parents)) r13 ((Table.mk r14.Level r14.Vars r14.Where r14.Sum)) r15 fun r80 r81 =>
  jn (fun (k:(List Int)→Int→Int→Prop)=>jn (fun (k180:Bool→Int→Int→Prop)=>br (r81) (spec_l1Cur_one ((L1Cur.mk code 0 0)) 12 fun r185 r186 r187 =>
  k180 r185 r186 r187) <|
  k180 false 0 0) <|
  fun (x174:Bool) (atx175:Int) (seed176:Int) =>
  br (x174) ((ln r80+ln ([0])) * 8≤140737488355328∧(
  k (r80++([0])) atx175 seed176)) <|
  k r80 atx175 seed176) <|
  fun (cells:List Int) (atx:Int) (seed:Int) =>
  jn (fun (k278:(List Int)→Prop)=>jn (fun (k286:Bool→Int→Int→Prop)=>br (decide ((ln cells)>0)) (spec_l1Cur_one ((L1Cur.mk code atx seed)) 12 fun r290 r291 r292 =>
  k286 r290 r291 r292) <|
  k286 false atx seed) <|
  fun (x280:Bool) (atx281:Int) (seed282:Int) =>
  br (x280) (spec_l1Cur_among ((L1Cur.mk code atx281 seed282)) ([(-1),10000,10001]) fun r309 r310 r311 =>
  (0:Int)≤0∧Int.toNat 0<List.length cells∧(
  k278 (List.set cells (Int.toNat 0) r309))) <|
  k278 cells) <|
  fun (cells266:List Int) =>
  Q ((Geo.mk r12.Parents)) r13 ((Table.mk r14.Level r14.Vars r14.Where r14.Sum)) cells266
def impl_IsGeo (g:Geo) (Q:Bool→Prop):Prop :=
  jn (fun (k:Bool→Prop)=>br (decide ((ln g.Parents)<1)) (k true) <|
  br (decide ((ln g.Parents)>30)) (k true) <|
  idx g.Parents 0 fun x8 =>
  k (x8 != ((-1)))) <|
  fun (x5:Bool) =>
  br (x5) (Q false) <|
  Loop1 (fun (i:Int) nx =>
  br (decide (i<(ln g.Parents))) (jn (fun (k19:Bool→Prop)=>idx g.Parents i fun x21 =>
  br (decide (x21<0)) (k19 true) <|
  idx g.Parents i fun x31 =>
  k19 (decide (x31≥i))) <|
  fun (x17:Bool) =>
  br (x17) (Q false) <|
  nx (wr (i+1))) <|
  Q true) 1
def impl_isWord (sx:ByteArray) (Q:Bool→Prop):Prop :=
  jn (fun (k:Bool→Prop)=>br (decide ((sln sx)<1)) (k true) <|
  k (decide ((sln sx)>8))) <|
  fun (x:Bool) =>
  br (x) (Q false) <|
  Loop1 (fun (x2:Int) nx =>
  br (decide (x2<(sln sx))) (jn (fun (k7:Bool→Prop)=>sidx sx x2 fun c =>
  br (decide ((c)<97)) (k7 true) <|
  sidx sx x2 fun c10 =>
  k7 (decide ((c10)>122))) <|
  fun (x5:Bool) =>
  br (x5) (Q false) <|
  nx (wr (x2+1))) <|
  Q true) 0
def impl_IsSchema (sx:List Variable) (Q:Bool→Prop):Prop :=
  jn (fun (k:Bool→Prop)=>br (decide ((ln sx)<1)) (k true) <|
  k (decide ((ln sx)>6))) <|
  fun (x:Bool) =>
  br (x) (Q false) <|
  Loop1 (fun (x2:Int) nx =>
  br (decide (x2<(ln sx))) (idx sx x2 fun x6 =>
  jn (fun (k25:Bool→Prop)=>impl_isWord x6.Name fun r27 =>
  br (!r27) (k25 true) <|
  br (decide (x6.Levels<2)) (k25 true) <|
  k25 (decide (x6.Levels>8))) <|
  fun (x22:Bool) =>
  br (x22) (Q false) <|
  (0:Int)≤0∧0≤x2∧x2≤ln sx∧(
  Loop1 (fun (x39:Int) nx45 =>
  br (decide (x39<(ln (List.take (Int.toNat x2-Int.toNat 0) (List.drop (Int.toNat 0) sx))))) (idx (List.take (Int.toNat x2-Int.toNat 0) (List.drop (Int.toNat 0) sx)) x39 fun x47 =>
  br (streq x47.Name x6.Name) (Q false) <|
  nx45 (wr (x39+1))) <|
  nx (wr (x2+1))) 0)) <|
  Q true) 0
def impl_areVars (sx:List Variable) (vars:List Int) (Q:Bool→Prop):Prop :=
  Loop2 (fun (last:Int) (x:Int) nx =>
  br (decide (x<(ln vars))) (idx vars x fun x7 =>
  jn (fun (k:Bool→Prop)=>br (decide (x7≤last)) (k true) <|
  k (decide (x7≥(ln sx)))) <|
  fun (x13:Bool) =>
  br (x13) (Q false) <|
  nx x7 (wr (x+1))) <|
  Q true) ((-1)) 0
def impl_fullSet (vx:Variable) (Q:Int→Prop):Prop :=
  (0:Int)≤vx.Levels∧(
  Q (wr ((shl .i64 1 vx.Levels)-1)))
def impl_isWhere (sx:List Variable) (wherex:List Int) (Q:Bool→Prop):Prop :=
  br ((ln wherex)!=(ln sx)) (Q false) <|
  Loop1 (fun (x:Int) nx =>
  br (decide (x<(ln wherex))) (idx wherex x fun x9 =>
  jn (fun (k:Bool→Prop)=>br (decide (x9<0)) (k true) <|
  idx sx x fun x22 =>
  impl_fullSet x22 fun r31 =>
  k (decide (x9>r31))) <|
  fun (x18:Bool) =>
  br (x18) (Q false) <|
  nx (wr (x+1))) <|
  Q true) 0
def impl_depthOf (g:Geo) (i:Int) (Q:Int→Prop):Prop :=
  Loop2 (fun (i2:Int) (d:Int) nx =>
  br (decide (i2>0)) (idx g.Parents i2 fun x4 =>
  nx x4 (wr (d+1))) <|
  Q d) i 0
def impl_areasAt (g:Geo) (level:Int) (Q:(List Int)→Prop):Prop :=
  Loop2 (fun (list:List Int) (x6:Int) nx =>
  br (decide (x6<(ln g.Parents))) (jn (fun (k:(List Int)→Prop)=>impl_depthOf ((Geo.mk g.Parents)) x6 fun r27 =>
  br (r27==level) ((ln list+ln ([x6])) * 8≤140737488355328∧(
  k (list++([x6])))) <|
  k list) <|
  fun (list17:List Int) =>
  nx list17 (wr (x6+1))) <|
  Q list) ([]) 0
def impl_crossed (sx:List Variable) (t:Table) (Q:(List Variable)→Prop):Prop :=
  (0:Int)≤(ln t.Vars)∧24 * (ln t.Vars)≤140737488355328∧(
  Loop2 (fun (out:List Variable) (x28:Int) nx =>
  br (decide (x28<(ln t.Vars))) (idx t.Vars x28 fun x31 =>
  idx sx x31 fun x39 =>
  (0:Int)≤x28∧Int.toNat x28<List.length out∧(
  nx (List.set out (Int.toNat x28) x39) (wr (x28+1)))) <|
  Q out) (List.replicate (Int.toNat (ln t.Vars)) ((Variable.mk ((ByteArray.mk #[])) ((0:Int))))) 0)
def impl_combinations (sx:List Variable) (Q:Int→Prop):Prop :=
  Loop2 (fun (n:Int) (x:Int) nx =>
  br (decide (x<(ln sx))) (idx sx x fun x2 =>
  nx (wr (n * x2.Levels)) (wr (x+1))) <|
  Q n) 1 0
def impl_cellCount (g:Geo) (sx:List Variable) (t:Table) (Q:Int→Prop):Prop :=
  impl_areasAt ((Geo.mk g.Parents)) t.Level fun r31 =>
  impl_crossed sx ((Table.mk t.Level t.Vars t.Where t.Sum)) fun r46 =>
  det1 (impl_combinations r46) fun r60 =>
  Q (wr ((ln r31) * r60))
def impl_isTable (g:Geo) (sx:List Variable) (t:Table) (Q:Bool→Prop):Prop :=
  jn (fun (k:Bool→Prop)=>impl_areVars sx t.Vars fun r37 =>
  br (!r37) (k true) <|
  impl_isWhere sx t.Where fun r41 =>
  br (!r41) (k true) <|
  br (decide (t.Sum<((-1)))) (k true) <|
  k (decide (t.Sum≥(ln sx)))) <|
  fun (x34:Bool) =>
  br (x34) (Q false) <|
  impl_cellCount ((Geo.mk g.Parents)) sx ((Table.mk t.Level t.Vars t.Where t.Sum)) fun r56 =>
  jn (fun (k67:Bool→Prop)=>br (decide (r56>0)) (k67 (decide (r56≤600))) <|
  k67 false) <|
  fun (x65:Bool) =>
  Q x65
def impl_areTabled (g:Geo) (sx:List Variable) (t:Table) (Q:Bool→Prop):Prop :=
  jn (fun (k:Bool→Prop)=>impl_IsGeo ((Geo.mk g.Parents)) fun r37 =>
  br (r37) (impl_IsSchema sx fun r40 =>
  br (r40) (impl_isTable ((Geo.mk g.Parents)) sx ((Table.mk t.Level t.Vars t.Where t.Sum)) fun r48 =>
  k r48) <|
  k false) <|
  k false) <|
  fun (x34:Bool) =>
  Q x34
def impl_areWithin (l:List Int) (lo:Int) (hi:Int) (Q:Bool→Prop):Prop :=
  Loop1 (fun (x:Int) nx =>
  br (decide (x<(ln l))) (idx l x fun x1 =>
  jn (fun (k:Bool→Prop)=>br (decide (x1<lo)) (k true) <|
  k (decide (x1>hi))) <|
  fun (x8:Bool) =>
  br (x8) (Q false) <|
  nx (wr (x+1))) <|
  Q true) 0
def impl_total (l:List Int) (Q:Int→Prop):Prop :=
  Loop2 (fun (sum:Int) (x:Int) nx =>
  br (decide (x<(ln l))) (idx l x fun x1 =>
  nx (wr (sum+x1)) (wr (x+1))) <|
  Q sum) 0 0
def strconv_Itoa (n:Int) (Q:ByteArray→Prop):Prop:=itoaM n Q
def impl_reduced (n:Int) (d:Int) (Q:Frac→Bool→Prop):Prop :=
  impl_gcdOf n d fun r =>
  r≠0∧(
  r≠0∧(
  jn (fun (k:Int→Int→Prop)=>br (decide ((wr (Int.tdiv d r))<0)) (k (wr (0-(wr (Int.tdiv n r)))) (wr (0-(wr (Int.tdiv d r))))) <|
  k (wr (Int.tdiv n r)) (wr (Int.tdiv d r))) <|
  fun (n10:Int) (d11:Int) =>
  jn (fun (k15:Bool→Prop)=>br (decide (n10>1000000000)) (k15 true) <|
  br (decide (n10<((-1000000000)))) (k15 true) <|
  k15 (decide (d11>1000000000))) <|
  fun (x13:Bool) =>
  br (x13) (Q ((Frac.mk 0 0)) false) <|
  Q ((Frac.mk n10 d11)) true))
def impl_FracText (f:Frac) (Q:ByteArray→Bool→Prop):Prop :=
  impl_IsFrac ((Frac.mk f.Num f.Den)) fun r =>
  br (!r) (Q ((ByteArray.mk #[])) false) <|
  strconv_Itoa f.Num fun r6 =>
  jn (fun (k:ByteArray→Prop)=>br (f.Den != 1) (strconv_Itoa f.Den fun r18 =>
  sln ((ByteArray.mk #[47]))+sln r18≤9223372036854775807∧(
  sln r6+sln (((ByteArray.mk #[47]))++r18)≤9223372036854775807∧(
  k (r6++(((ByteArray.mk #[47]))++r18))))) <|
  k r6) <|
  fun (text:ByteArray) =>
  Q text true
def impl_fracText (f:Frac) (Q:ByteArray→Prop):Prop :=
  impl_FracText ((Frac.mk f.Num f.Den)) fun r r2 =>
  Q r
def impl_ProfileText (g:Geo) (sx:List Variable) (t:Table) (cells:List Int) (Q:ByteArray→Bool→Prop):Prop :=
  jn (fun (k:Bool→Prop)=>impl_areTabled ((Geo.mk g.Parents)) sx ((Table.mk t.Level t.Vars t.Where t.Sum)) fun r44 =>
  br (!r44) (k true) <|
  impl_cellCount ((Geo.mk g.Parents)) sx ((Table.mk t.Level t.Vars t.Where t.Sum)) fun r49 =>
  br ((ln cells)!=r49) (k true) <|
  impl_areWithin cells 0 10000 fun r58 =>
  k (!r58)) <|
  fun (x41:Bool) =>
  br (x41) (Q ((ByteArray.mk #[])) false) <|
  impl_areasAt ((Geo.mk g.Parents)) t.Level fun r68 =>
  (ln r68)≠0∧(
  Loop2 (fun (bs:ByteArray) (x83:Int) nx =>
  br (decide (x83<(ln r68))) (idx r68 x83 fun x87 =>
  (0:Int)≤(wr (x83 * (wr (Int.tdiv (ln cells) (ln r68)))))∧(wr (x83 * (wr (Int.tdiv (ln cells) (ln r68)))))≤(wr ((wr (x83+1)) * (wr (Int.tdiv (ln cells) (ln r68)))))∧(wr ((wr (x83+1)) * (wr (Int.tdiv (ln cells) (ln r68)))))≤ln cells∧(
  impl_total (List.take (Int.toNat (wr ((wr (x83+1)) * (wr (Int.tdiv (ln cells) (ln r68)))))-Int.toNat (wr (x83 * (wr (Int.tdiv (ln cells) (ln r68)))))) (List.drop (Int.toNat (wr (x83 * (wr (Int.tdiv (ln cells) (ln r68)))))) cells)) fun r98 =>
  strconv_Itoa x87 fun r105 =>
  sln r105+sln ((ByteArray.mk #[58,32]))≤9223372036854775807∧(
  strconv_Itoa r98 fun r113 =>
  sln (r105++((ByteArray.mk #[58,32])))+sln r113≤9223372036854775807∧(
  sln bs+sln ((r105++((ByteArray.mk #[58,32])))++r113)≤140737488355328∧(
  Loop2 (fun (bs123:ByteArray) (x125:Int) nx131 =>
  br (decide (x125<(ln (List.take (Int.toNat (wr ((wr (x83+1)) * (wr (Int.tdiv (ln cells) (ln r68)))))-Int.toNat (wr (x83 * (wr (Int.tdiv (ln cells) (ln r68)))))) (List.drop (Int.toNat (wr (x83 * (wr (Int.tdiv (ln cells) (ln r68)))))) cells))))) (idx (List.take (Int.toNat (wr ((wr (x83+1)) * (wr (Int.tdiv (ln cells) (ln r68)))))-Int.toNat (wr (x83 * (wr (Int.tdiv (ln cells) (ln r68)))))) (List.drop (Int.toNat (wr (x83 * (wr (Int.tdiv (ln cells) (ln r68)))))) cells)) x125 fun x133 =>
  jn (fun (k152:ByteArray→Prop)=>br (decide (r98>0)) (impl_reduced x133 r98 fun r155 r156 =>
  br (!r156) (Q ((ByteArray.mk #[])) false) <|
  impl_fracText ((Frac.mk r155.Num r155.Den)) fun r172 =>
  k152 r172) <|
  k152 ((ByteArray.mk #[45]))) <|
  fun (text:ByteArray) =>
  sln ((ByteArray.mk #[32]))+sln text≤9223372036854775807∧(
  sln bs123+sln (((ByteArray.mk #[32]))++text)≤140737488355328∧(
  nx131 (bs123++(((ByteArray.mk #[32]))++text)) (wr (x125+1))))) <|
  sln bs123+1≤140737488355328∧(
  nx (bs123++ByteArray.mk #[10]) (wr (x83+1)))) (bs++((r105++((ByteArray.mk #[58,32])))++r113)) 0))))) <|
  Q bs true) ((ByteArray.mk #[])) 0)
def spec_l1All (l:List Int) (lo:Int) (hi:Int) (Q:Bool→Prop):Prop :=
  Loop1 (fun (x:Int) nx =>
  br (decide (x<(ln l))) (idx l x fun x2 =>
  spec_l1In x2 lo hi fun r10 =>
  br (!r10) (Q false) <|
  nx (wr (x+1))) <|
  Q true) 0
def spec_tSum (l:List Int) (Q:Int→Prop):Prop :=
  Loop2 (fun (sum:Int) (x:Int) nx =>
  br (decide (x<(ln l))) (idx l x fun x1 =>
  nx (wr (sum+x1)) (wr (x+1))) <|
  Q sum) 0 0
def spec_l1Num (n:Int) (Q:ByteArray→Prop):Prop :=
  Rec1 (fun (self:Int→(ByteArray→Prop)→Prop) (n:Int) (Q:ByteArray→Prop) =>
  br (decide (n<10)) (Q (b2s ([(B8.mk (IntKind.u8.wrap (wr (48+n))))]))) <|
  det1 (self (wr (Int.tdiv n 10))) fun r =>
  sln r+sln (b2s ([(B8.mk (IntKind.u8.wrap (wr (48+(Int.tmod n 10)))))]))≤9223372036854775807∧(
  Q (r++(b2s ([(B8.mk (IntKind.u8.wrap (wr (48+(Int.tmod n 10)))))]))))) n Q
def spec_l1Int (n:Int) (Q:ByteArray→Prop):Prop :=
  br (decide (n<0)) (spec_l1Num (wr (0-n)) fun r =>
  sln ((ByteArray.mk #[45]))+sln r≤9223372036854775807∧(
  Q (((ByteArray.mk #[45]))++r))) <|
  spec_l1Num n fun r2 =>
  Q r2
def spec_fText (f:Frac) (Q:ByteArray→Prop):Prop :=
  br (f.Den==1) (spec_l1Int f.Num fun r =>
  Q r) <|
  det1 (spec_l1Int f.Num) fun r5 =>
  sln r5+sln ((ByteArray.mk #[47]))≤9223372036854775807∧(
  det1 (spec_l1Num f.Den) fun r8 =>
  sln (r5++((ByteArray.mk #[47])))+sln r8≤9223372036854775807∧(
  Q ((r5++((ByteArray.mk #[47])))++r8)))
def spec_ProfileText (g:Geo) (sx:List Variable) (t:Table) (cells:List Int) (Q:ByteArray→Bool→Prop):Prop :=
  jn (fun (k:Bool→Prop)=>spec_uGood ((Geo.mk g.Parents)) sx ((Table.mk t.Level t.Vars t.Where t.Sum)) fun r44 =>
  br (!r44) (k true) <|
  spec_uCount ((Geo.mk g.Parents)) sx ((Table.mk t.Level t.Vars t.Where t.Sum)) fun r49 =>
  br ((ln cells)!=r49) (k true) <|
  spec_l1All cells 0 10000 fun r58 =>
  k (!r58)) <|
  fun (x41:Bool) =>
  br (x41) (Q ((ByteArray.mk #[])) false) <|
  spec_sPart sx t.Vars fun r67 =>
  spec_sCount r67 fun r78 =>
  spec_gLevel ((Geo.mk g.Parents)) t.Level fun r85 =>
  Loop2 (fun (out:ByteArray) (x96:Int) nx =>
  br (decide (x96<(ln r85))) (idx r85 x96 fun x100 =>
  (0:Int)≤(wr (x96 * r78))∧(wr (x96 * r78))≤(wr ((wr (x96+1)) * r78))∧(wr ((wr (x96+1)) * r78))≤ln cells∧(
  spec_tSum (List.take (Int.toNat (wr ((wr (x96+1)) * r78))-Int.toNat (wr (x96 * r78))) (List.drop (Int.toNat (wr (x96 * r78))) cells)) fun r111 =>
  spec_l1Num x100 fun r116 =>
  sln r116+sln ((ByteArray.mk #[58,32]))≤9223372036854775807∧(
  spec_l1Num r111 fun r119 =>
  sln (r116++((ByteArray.mk #[58,32])))+sln r119≤9223372036854775807∧(
  sln out+sln ((r116++((ByteArray.mk #[58,32])))++r119)≤9223372036854775807∧(
  Loop2 (fun (out124:ByteArray) (x125:Int) nx131 =>
  br (decide (x125<(ln (List.take (Int.toNat (wr ((wr (x96+1)) * r78))-Int.toNat (wr (x96 * r78))) (List.drop (Int.toNat (wr (x96 * r78))) cells))))) (jn (fun (k143:ByteArray→Prop)=>idx (List.take (Int.toNat (wr ((wr (x96+1)) * r78))-Int.toNat (wr (x96 * r78))) (List.drop (Int.toNat (wr (x96 * r78))) cells)) x125 fun x145 =>
  br (r111==0) (sln out124+sln ((ByteArray.mk #[32,45]))≤9223372036854775807∧(
  k143 (out124++((ByteArray.mk #[32,45]))))) <|
  spec_fMake x145 r111 fun r156 r157 =>
  spec_fText ((Frac.mk r156.Num r156.Den)) fun r167 =>
  sln ((ByteArray.mk #[32]))+sln r167≤9223372036854775807∧(
  sln out124+sln (((ByteArray.mk #[32]))++r167)≤9223372036854775807∧(
  k143 (out124++(((ByteArray.mk #[32]))++r167))))) <|
  fun (out140:ByteArray) =>
  nx131 out140 (wr (x125+1))) <|
  sln out124+sln ((ByteArray.mk #[10]))≤9223372036854775807∧(
  nx (out124++((ByteArray.mk #[10]))) (wr (x96+1)))) (out++((r116++((ByteArray.mk #[58,32])))++r119)) 0))))) <|
  Q out true) ((ByteArray.mk #[])) 0
def spec_DrawMapText (code:List B8) (Q:Geo→(List Int)→Prop):Prop :=
  spec_l1Cur_anyGeo ((L1Cur.mk code 0 0)) fun r8 r9 r10 =>
  Loop4 (fun (l:List Int) (x33:Int) (atx:Int) (seed:Int) nx =>
  br (decide (x33<(ln r8.Parents))) (spec_l1Cur_pick ((L1Cur.mk code atx seed)) 5 fun r43 r44 r45 =>
  (ln l+ln ([r43])) * 8≤140737488355328∧(
  nx (l++([r43])) (wr (x33+1)) r44 r45)) <|
  jn (fun (k:(List Int)→Prop)=>spec_l1Cur_pick ((L1Cur.mk code atx seed)) 16 fun r112 r113 r114 =>
  br (r112==0) ((ln l+ln ([0])) * 8≤140737488355328∧(
  k (l++([0])))) <|
  br (r112==1) (br (decide ((ln l)>0)) (spec_l1Cur_among ((L1Cur.mk code r113 r114)) ([(-1),8,9]) fun r155 r156 r157 =>
  (0:Int)≤0∧Int.toNat 0<List.length l∧(
  k (List.set l (Int.toNat 0) r155))) <|
  k l) <|
  k l) <|
  fun (l100:List Int) =>
  Q ((Geo.mk r8.Parents)) l100) ([]) 0 r9 r10
def strings_Repeat (s:ByteArray) (c:Int) (Q:ByteArray→Prop):Prop:=repeatM s c Q
def impl_MapText (g:Geo) (classes:List Int) (Q:ByteArray→Bool→Prop):Prop :=
  jn (fun (k:Bool→Prop)=>impl_IsGeo ((Geo.mk g.Parents)) fun r15 =>
  br (!r15) (k true) <|
  br ((ln classes)!=(ln g.Parents)) (k true) <|
  impl_areWithin classes 0 8 fun r20 =>
  k (!r20)) <|
  fun (x12:Bool) =>
  br (x12) (Q ((ByteArray.mk #[])) false) <|
  Loop2 (fun (bs:ByteArray) (x30:Int) nx =>
  br (decide (x30<(ln classes))) (idx classes x30 fun x34 =>
  impl_depthOf ((Geo.mk g.Parents)) x30 fun r45 =>
  strings_Repeat ((ByteArray.mk #[32,32])) r45 fun r50 =>
  strconv_Itoa x30 fun r53 =>
  sln r50+sln r53≤9223372036854775807∧(
  sln bs+sln (r50++r53)≤140737488355328∧(
  jn (fun (k75:ByteArray→Prop)=>br (decide (x34>0)) (strings_Repeat ((ByteArray.mk #[35])) x34 fun r78 =>
  sln ((ByteArray.mk #[32]))+sln r78≤9223372036854775807∧(
  sln (bs++(r50++r53))+sln (((ByteArray.mk #[32]))++r78)≤140737488355328∧(
  k75 ((bs++(r50++r53))++(((ByteArray.mk #[32]))++r78))))) <|
  k75 (bs++(r50++r53))) <|
  fun (bs71:ByteArray) =>
  sln bs71+1≤140737488355328∧(
  nx (bs71++ByteArray.mk #[10]) (wr (x30+1)))))) <|
  Q bs true) ((ByteArray.mk #[])) 0
def spec_MapText (g:Geo) (classes:List Int) (Q:ByteArray→Bool→Prop):Prop :=
  jn (fun (k:Bool→Prop)=>spec_gGood ((Geo.mk g.Parents)) fun r15 =>
  br (!r15) (k true) <|
  br ((ln classes)!=(ln g.Parents)) (k true) <|
  spec_l1All classes 0 8 fun r20 =>
  k (!r20)) <|
  fun (x12:Bool) =>
  br (x12) (Q ((ByteArray.mk #[])) false) <|
  Loop2 (fun (out:ByteArray) (x26:Int) nx =>
  br (decide (x26<(ln classes))) (idx classes x26 fun x30 =>
  spec_gDepth ((Geo.mk g.Parents)) x26 fun r39 =>
  Loop2 (fun (out43:ByteArray) (d44:Int) nx49 =>
  br (decide (d44>0)) (sln out43+sln ((ByteArray.mk #[32,32]))≤9223372036854775807∧(
  nx49 (out43++((ByteArray.mk #[32,32]))) (wr (d44-1)))) <|
  spec_l1Num x26 fun r51 =>
  sln out43+sln r51≤9223372036854775807∧(
  jn (fun (k63:ByteArray→Prop)=>br (decide (x30>0)) (sln (out43++r51)+sln ((ByteArray.mk #[32]))≤9223372036854775807∧(
  k63 ((out43++r51)++((ByteArray.mk #[32]))))) <|
  k63 (out43++r51)) <|
  fun (out61:ByteArray) =>
  Loop2 (fun (out67:ByteArray) (k68:Int) nx73 =>
  br (decide (k68>0)) (sln out67+sln ((ByteArray.mk #[35]))≤9223372036854775807∧(
  nx73 (out67++((ByteArray.mk #[35]))) (wr (k68-1)))) <|
  sln out67+sln ((ByteArray.mk #[10]))≤9223372036854775807∧(
  nx (out67++((ByteArray.mk #[10]))) (wr (x26+1)))) out61 x30)) out r39) <|
  Q out true) ((ByteArray.mk #[])) 0
def spec_DrawClassOf (code:List B8) (Q:(List Frac)→Frac→Prop):Prop :=
  spec_l1Cur_fracs ((L1Cur.mk code 0 0)) fun r8 r9 r10 =>
  jn (fun (k:(List Frac)→Int→Int→Prop)=>jn (fun (k48:Bool→Int→Int→Prop)=>spec_l1Cur_one ((L1Cur.mk code r9 r10)) 6 fun r51 r52 r53 =>
  br (!r51) (spec_oFracs r8 1000 fun r57 =>
  k48 r57 r52 r53) <|
  k48 false r52 r53) <|
  fun (x42:Bool) (atx43:Int) (seed44:Int) =>
  br (x42) (spec_oSorted r8 fun r65 =>
  k r65 atx43 seed44) <|
  k r8 atx43 seed44) <|
  fun (l:List Frac) (atx:Int) (seed:Int) =>
  jn (fun (k98:Bool→Int→Int→Prop)=>spec_l1Cur_one ((L1Cur.mk code atx seed)) 2 fun r101 r102 r103 =>
  br (r101) (k98 (decide ((ln l)>0)) r102 r103) <|
  k98 false r102 r103) <|
  fun (x92:Bool) (atx93:Int) (seed94:Int) =>
  br (x92) (spec_l1Cur_pick ((L1Cur.mk code atx93 seed94)) (ln l) fun r116 r117 r118 =>
  idx l r116 fun x126 =>
  Q l ((Frac.mk x126.Num x126.Den))) <|
  spec_l1Cur_anyFrac ((L1Cur.mk code atx93 seed94)) fun r147 r148 r149 =>
  Q l ((Frac.mk r147.Num r147.Den))
def slices_IsSortedFunc_impl_Frac_impl_Frac_impl_cmpFrac (x:List Frac) (Q:Bool→Prop):Prop :=
  Loop1 (fun (i:Int) nx =>
  br (decide (i>0)) (idx x i fun x4 =>
  idx x (wr (i-1)) fun x13 =>
  impl_cmpFrac x4 x13 fun r26 =>
  br (decide (r26<0)) (Q false) <|
  nx (wr (i-1))) <|
  Q true) (wr ((ln x)-1))
def impl_ClassOf (breaks:List Frac) (vx1:Frac) (Q:Int→Bool→Prop):Prop :=
  jn (fun (k:Bool→Prop)=>br (decide ((ln breaks)>7)) (k true) <|
  impl_areFracs breaks fun r9 =>
  br (!r9) (k true) <|
  slices_IsSortedFunc_impl_Frac_impl_Frac_impl_cmpFrac breaks fun r13 =>
  br (!r13) (k true) <|
  impl_IsFrac ((Frac.mk vx1.Num vx1.Den)) fun r20 =>
  k (!r20)) <|
  fun (x6:Bool) =>
  br (x6) (Q 0 false) <|
  Loop2 (fun (n:Int) (x26:Int) nx =>
  br (decide (x26<(ln breaks))) (jn (fun (k37:Int→Prop)=>idx breaks x26 fun x39 =>
  impl_cmpFrac ((Frac.mk x39.Num x39.Den)) ((Frac.mk vx1.Num vx1.Den)) fun r53 =>
  br (decide (r53≤0)) (k37 (wr (n+1))) <|
  k37 n) <|
  fun (n34:Int) =>
  nx n34 (wr (x26+1))) <|
  Q n true) 0 0
def spec_ClassOf (breaks:List Frac) (vx1:Frac) (Q:Int→Bool→Prop):Prop :=
  jn (fun (k:Bool→Prop)=>spec_oFracs breaks 7 fun r9 =>
  br (!r9) (k true) <|
  spec_fGood ((Frac.mk vx1.Num vx1.Den)) fun r13 =>
  k (!r13)) <|
  fun (x6:Bool) =>
  br (x6) (Q 0 false) <|
  Loop2 (fun (n:Int) (x18:Int) nx =>
  br (decide (x18<(ln breaks))) (jn (fun (k29:Int→Prop)=>idx breaks x18 fun x31 =>
  jn (fun (k52:Bool→Prop)=>br (decide (x18>0)) (idx breaks (wr (x18-1)) fun x55 =>
  det1 (spec_fCmp x55 ((Frac.mk x31.Num x31.Den))) fun r64 =>
  k52 (decide (r64>0))) <|
  k52 false) <|
  fun (x49:Bool) =>
  br (x49) (Q 0 false) <|
  spec_fCmp ((Frac.mk x31.Num x31.Den)) ((Frac.mk vx1.Num vx1.Den)) fun r75 =>
  br (decide (r75≤0)) (k29 (wr (n+1))) <|
  k29 n) <|
  fun (n26:Int) =>
  nx n26 (wr (x18+1))) <|
  Q n true) 0 0
def laws_qFracs (a:List Frac) (b:List Frac) (Q:Bool→Prop):Prop :=
  br ((ln a)!=(ln b)) (Q false) <|
  Loop1 (fun (x:Int) nx =>
  br (decide (x<(ln a))) (idx a x fun x10 =>
  idx b x fun x17 =>
  br (!((x10.Num==x17.Num)&&(x10.Den==x17.Den))) (Q false) <|
  nx (wr (x+1))) <|
  Q true) 0
def laws_qInts (a:List Int) (b:List Int) (Q:Bool→Prop):Prop :=
  br ((ln a)!=(ln b)) (Q false) <|
  Loop1 (fun (x:Int) nx =>
  br (decide (x<(ln a))) (idx a x fun x10 =>
  idx b x fun x17 =>
  br (x10 != x17) (Q false) <|
  nx (wr (x+1))) <|
  Q true) 0
def laws_FnClassTexts (code:List B8) (more:List B8) (Q:Bool→Prop):Prop :=
  br (decide ((wr ((ln code)+(ln more)))>1048576)) (Q true) <|
  spec_DrawEqualBreaks code fun r7 r8 =>
  impl_EqualBreaks r7 r8 fun r14 r15 =>
  spec_EqualBreaks r7 r8 fun r25 r26 =>
  impl_RanksOf r7 fun r37 r38 =>
  spec_RanksOf r7 fun r49 r50 =>
  spec_DrawProfileText more fun r61 r62 r63 r64 =>
  impl_ProfileText ((Geo.mk r61.Parents)) r62 ((Table.mk r63.Level r63.Vars r63.Where r63.Sum)) r64 fun r130 r131 =>
  spec_ProfileText ((Geo.mk r61.Parents)) r62 ((Table.mk r63.Level r63.Vars r63.Where r63.Sum)) r64 fun r164 r165 =>
  spec_DrawMapText more fun r173 r174 =>
  impl_MapText ((Geo.mk r173.Parents)) r174 fun r207 r208 =>
  spec_MapText ((Geo.mk r173.Parents)) r174 fun r221 r222 =>
  spec_DrawClassOf more fun r227 r228 =>
  impl_ClassOf r227 ((Frac.mk r228.Num r228.Den)) fun r251 r252 =>
  spec_ClassOf r227 ((Frac.mk r228.Num r228.Den)) fun r258 r259 =>
  jn (fun (k:Bool→Prop)=>br (r15 != r26) (k true) <|
  laws_qFracs r14 r25 fun r339 =>
  br (!r339) (k true) <|
  br (r38 != r50) (k true) <|
  laws_qInts r37 r49 fun r344 =>
  br (!r344) (k true) <|
  br (r131 != r165) (k true) <|
  br (!streq r130 r164) (k true) <|
  br (r208 != r222) (k true) <|
  br (!streq r207 r221) (k true) <|
  br (r252 != r259) (k true) <|
  k (r251 != r258)) <|
  fun (x335:Bool) =>
  br (x335) (Q false) <|
  br (!r15) (Q true) <|
  Loop1 (fun (x366:Int) nx =>
  br (decide (x366<(ln r7))) (idx r7 x366 fun x370 =>
  impl_ClassOf r14 ((Frac.mk x370.Num x370.Den)) fun r387 r388 =>
  jn (fun (k406:Bool→Prop)=>br (!r388) (k406 true) <|
  br (decide (r387<0)) (k406 true) <|
  k406 (decide (r387≥r8))) <|
  fun (x404:Bool) =>
  br (x404) (Q false) <|
  Loop1 (fun (x411:Int) nx417 =>
  br (decide (x411<(ln r7))) (idx r7 x411 fun x419 =>
  impl_ClassOf r14 x419 fun r429 r430 =>
  jn (fun (k442:Bool→Prop)=>br (!r430) (k442 true) <|
  idx r37 x366 fun x447 =>
  idx r37 x411 fun x456 =>
  br (decide (x447<x456)) (k442 (decide (r387<r429))) <|
  k442 false) <|
  fun (x439:Bool) =>
  br (x439) (Q false) <|
  nx417 (wr (x411+1))) <|
  nx (wr (x366+1))) 0) <|
  Q ((ln r14)==(wr (r8-1)))) 0
end Go.Proofs.YtfnmhknnliahoaaGreatDoor
