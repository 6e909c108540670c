/- Facts about the seat that all its rows use: the words that it begins with, the types of arguments. -/
import Derived.Test.YtfkblhplgnbppaaGreatRows
import Derived.Test.YtfkblhplgnbppaaGreatUDefs
import Derived.WalkKit
import Derived.ProofKit
import Derived.OpenShut
import Derived.ChangeOld
import Derived.Below
set_option linter.unusedVariables false
set_option autoImplicit false
namespace Go.Proofs.YtfkblhplgnbppaaGreat
open Go Go.Gv Go.ChangeShapes Go.WideShapes Go.ChangeAt Go.RowKit
set_option maxRecDepth 100000
def codes:List Nat:=[104,97,114,110,101,115,115,32,99,48,52,56,53,50,54,102,48,101,52,55,102,49,98,53,51,56,97,55,53,49,51,50,51,102,101,97,52,53,51,53,98,98,55,50,100,101,52,56,55,57,99,52,53,102,102,101,97,56,99,55,102,53,56,48,99,52,50,102,53,55,100,56,32,99,117,116,32,97,116,32,108,111,111,112,46,101,120,97,109,112,108,101,47,103,48,48,57,48,56,47,108,97,119,115,46,70,110,69,120,97,99,116,78,101,119,83,101,114,118,101,114,32,108,111,111,112,46,101,120,97,109,112,108,101,47,103,48,48,57,48,56,47,108,97,119,115,46,70,110,69,120,97,99,116,65,115,107,84,97,98,108,101,32,108,111,111,112,46,101,120,97,109,112,108,101,47,103,48,48,57,48,56,47,108,97,119,115,46,70,110,69,120,97,99,116,65,115,107,65,108,108]
def wds:List (List Nat):=[[104,97,114,110,101,115,115],[99,48,52,56,53,50,54,102,48,101,52,55,102,49,98,53,51,56,97,55,53,49,51,50,51,102,101,97,52,53,51,53,98,98,55,50,100,101,52,56,55,57,99,52,53,102,102,101,97,56,99,55,102,53,56,48,99,52,50,102,53,55,100,56],[99,117,116],[97,116],[108,111,111,112,46,101,120,97,109,112,108,101,47,103,48,48,57,48,56,47,108,97,119,115,46,70,110,69,120,97,99,116,78,101,119,83,101,114,118,101,114],[108,111,111,112,46,101,120,97,109,112,108,101,47,103,48,48,57,48,56,47,108,97,119,115,46,70,110,69,120,97,99,116,65,115,107,84,97,98,108,101],[108,111,111,112,46,101,120,97,109,112,108,101,47,103,48,48,57,48,56,47,108,97,119,115,46,70,110,69,120,97,99,116,65,115,107,65,108,108]]
theorem io:Tryz.prog.initOrder=String.ofList (codes.map Char.ofNat):=by kernel_rfl
theorem iol:Tryz.prog.initOrder.toList=codes.map Char.ofNat:=by rw [io,String.toList_ofList]
theorem ws:wordsSigns (codes.map Char.ofNat)=wds.map (·.map Char.ofNat):=by kernel_rfl
theorem bm:behindMainWord (wds.map (·.map Char.ofNat))=(wds.drop 2).map (·.map Char.ofNat):=by kernel_rfl
abbrev tl:List (List Char):=(wds.drop 3).map (·.map Char.ofNat)
theorem hd:behindMainWord (wordsSigns Tryz.prog.initOrder.toList) = "cut".toList :: tl:=(congrArg (fun l=>behindMainWord (wordsSigns l)) iol).trans ((congrArg behindMainWord ws).trans (bm.trans (by kernel_rfl)))
theorem make_cut {P:Program} {rest:List (List Char)} (h:behindMainWord (wordsSigns P.initOrder.toList) = "cut".toList :: rest):P.make=some .cut:=by
  unfold Program.make; rw [h]; rfl
theorem headLifts_cut {P:Program} {rest:List (List Char)} (h:behindMainWord (wordsSigns P.initOrder.toList) = "cut".toList :: rest) (hl:stripLifts liftWords ("cut".toList :: rest)=([], "cut".toList :: rest)):P.headLifts=[]:=by
  unfold Program.headLifts; rw [h]; simp only []; rw [hl]; rfl
theorem liftsFinal_cut {P:Program} {rest:List (List Char)} (h:behindMainWord (wordsSigns P.initOrder.toList) = "cut".toList :: rest) (hh:P.headLifts=[]):P.liftsFinal=false:=by
  unfold Program.liftsFinal; rw [hh]; simp only []; rw [h]; rfl
theorem mayEnter_cut {P:Program} {rest:List (List Char)} (h:behindMainWord (wordsSigns P.initOrder.toList) = "cut".toList :: rest)
  (hl:stripLifts liftWords ("cut".toList :: rest)=([], "cut".toList :: rest)) (h1:P.laysLater=false) (h2:P.bearsReflect=false) (h3:P.doorFits []=true):P.mayEnter=true:=by
  unfold Program.mayEnter; rw [h]; simp only []; rw [hl,h1,h2,h3]; rfl
theorem x1:Tryz.prog.laysLater=false:=by kernel_rfl
theorem x2:Tryz.prog.bearsReflect=false:=by kernel_rfl
theorem x3:Tryz.prog.doorFits []=true:=by kernel_rfl
theorem x4:stripLifts liftWords ("cut".toList :: tl)=([], "cut".toList :: tl):=by kernel_rfl
theorem c1:Tryz.prog.mayEnter=true:=mayEnter_cut hd x4 x1 x2 x3
theorem c2:Tryz.prog.make=some .cut:=make_cut hd
theorem c3:Tryz.prog.liftsFinal=false:=liftsFinal_cut hd (headLifts_cut hd x4)
theorem own:ownKnob Tryz.prog.godebug=none:=by kernel_rfl
theorem laidOut:laidOutB Tryz.prog=true:=by kernel_rfl
theorem grown_fix {P:Program} {s:List TypeId} (h:P.grow s=s):∀ n,P.grown n s=s
  | 0=>rfl
  | n+1=>by show P.grown n (P.grow s)=s; rw [h]; exact grown_fix h n
theorem grown_more {P:Program} {s s':List TypeId} (h:P.grow s=s') (n:Nat):P.grown (n+1) s=P.grown n s':=by show P.grown n (P.grow s)=_; rw [h]
theorem veiledOwn_of {P:Program} {t:TypeId} (h:P.veiledRec t=false):P.veiledOwn t=true:=by unfold Program.veiledOwn; rw [h]; rfl
theorem nty:Tryz.prog.types.size=183:=by kernel_rfl
theorem g64:Tryz.prog.book 64=[64,24,25,26,27,31,3,22,84,87,66,29,9]:=by
  unfold Program.book; rw [nty]
  rw [grown_more (s:=[64]) (s':=[64,24,25,26,27,31,3]) (by kernel_rfl) 182]
  rw [grown_more (s:=[64,24,25,26,27,31,3]) (s':=[64,24,25,26,27,31,3,22,84,87,66,29]) (by kernel_rfl) 181]
  rw [grown_more (s:=[64,24,25,26,27,31,3,22,84,87,66,29]) (s':=[64,24,25,26,27,31,3,22,84,87,66,29,9]) (by kernel_rfl) 180]
  exact grown_fix (by kernel_rfl) _
theorem p64:Tryz.prog.partsOf 64=[24,25,26,27,31,31,3,27]:=by kernel_rfl
theorem v64:Tryz.prog.veiledOwn 64=true:=veiledOwn_of (by unfold Program.veiledRec; rw [g64]; kernel_rfl)
theorem rr64:Tryz.prog.readableRec 64=true:=by unfold Program.readableRec; rw [g64]; kernel_rfl
theorem hr64:64<Tryz.prog.types.size:=by rw [nty]; decide
theorem g27:Tryz.prog.book 27=[27,66,3,22]:=by
  unfold Program.book; rw [nty]
  rw [grown_more (s:=[27]) (s':=[27,66]) (by kernel_rfl) 182]
  rw [grown_more (s:=[27,66]) (s':=[27,66,3,22]) (by kernel_rfl) 181]
  exact grown_fix (by kernel_rfl) _
theorem p27:Tryz.prog.partsOf 27=[66]:=by kernel_rfl
theorem v27:Tryz.prog.veiledOwn 27=true:=veiledOwn_of (by unfold Program.veiledRec; rw [g27]; kernel_rfl)
theorem rr27:Tryz.prog.readableRec 27=true:=by unfold Program.readableRec; rw [g27]; kernel_rfl
theorem hr27:27<Tryz.prog.types.size:=by rw [nty]; decide
theorem g4:Tryz.prog.book 4=[4]:=by
  unfold Program.book; rw [nty]
  exact grown_fix (by kernel_rfl) _
theorem p4:Tryz.prog.partsOf 4=[]:=by kernel_rfl
theorem v4:Tryz.prog.veiledOwn 4=true:=veiledOwn_of (by unfold Program.veiledRec; rw [g4]; kernel_rfl)
theorem g24:Tryz.prog.book 24=[24,22,3]:=by
  unfold Program.book; rw [nty]
  rw [grown_more (s:=[24]) (s':=[24,22]) (by kernel_rfl) 182]
  rw [grown_more (s:=[24,22]) (s':=[24,22,3]) (by kernel_rfl) 181]
  exact grown_fix (by kernel_rfl) _
theorem p24:Tryz.prog.partsOf 24=[22]:=by kernel_rfl
theorem g25:Tryz.prog.book 25=[25,84,9,3]:=by
  unfold Program.book; rw [nty]
  rw [grown_more (s:=[25]) (s':=[25,84]) (by kernel_rfl) 182]
  rw [grown_more (s:=[25,84]) (s':=[25,84,9,3]) (by kernel_rfl) 181]
  exact grown_fix (by kernel_rfl) _
theorem p25:Tryz.prog.partsOf 25=[84]:=by kernel_rfl
theorem g26:Tryz.prog.book 26=[26,87,3,22]:=by
  unfold Program.book; rw [nty]
  rw [grown_more (s:=[26]) (s':=[26,87]) (by kernel_rfl) 182]
  rw [grown_more (s:=[26,87]) (s':=[26,87,3,22]) (by kernel_rfl) 181]
  exact grown_fix (by kernel_rfl) _
theorem p26:Tryz.prog.partsOf 26=[87]:=by kernel_rfl
theorem g31:Tryz.prog.book 31=[31,29,3]:=by
  unfold Program.book; rw [nty]
  rw [grown_more (s:=[31]) (s':=[31,29]) (by kernel_rfl) 182]
  rw [grown_more (s:=[31,29]) (s':=[31,29,3]) (by kernel_rfl) 181]
  exact grown_fix (by kernel_rfl) _
theorem p31:Tryz.prog.partsOf 31=[29,29]:=by kernel_rfl
theorem g3:Tryz.prog.book 3=[3]:=by
  unfold Program.book; rw [nty]
  exact grown_fix (by kernel_rfl) _
theorem p3:Tryz.prog.partsOf 3=[]:=by kernel_rfl
theorem g22:Tryz.prog.book 22=[22,3]:=by
  unfold Program.book; rw [nty]
  rw [grown_more (s:=[22]) (s':=[22,3]) (by kernel_rfl) 182]
  exact grown_fix (by kernel_rfl) _
theorem p22:Tryz.prog.partsOf 22=[3]:=by kernel_rfl
theorem g84:Tryz.prog.book 84=[84,9,3]:=by
  unfold Program.book; rw [nty]
  rw [grown_more (s:=[84]) (s':=[84,9,3]) (by kernel_rfl) 182]
  exact grown_fix (by kernel_rfl) _
theorem p84:Tryz.prog.partsOf 84=[9,3]:=by kernel_rfl
theorem g87:Tryz.prog.book 87=[87,3,22]:=by
  unfold Program.book; rw [nty]
  rw [grown_more (s:=[87]) (s':=[87,3,22]) (by kernel_rfl) 182]
  exact grown_fix (by kernel_rfl) _
theorem p87:Tryz.prog.partsOf 87=[3,3,22]:=by kernel_rfl
theorem g66:Tryz.prog.book 66=[66,3,22]:=by
  unfold Program.book; rw [nty]
  rw [grown_more (s:=[66]) (s':=[66,3,22]) (by kernel_rfl) 182]
  exact grown_fix (by kernel_rfl) _
theorem p66:Tryz.prog.partsOf 66=[3,22,22,3]:=by kernel_rfl
theorem g29:Tryz.prog.book 29=[29,3]:=by
  unfold Program.book; rw [nty]
  rw [grown_more (s:=[29]) (s':=[29,3]) (by kernel_rfl) 182]
  exact grown_fix (by kernel_rfl) _
theorem p29:Tryz.prog.partsOf 29=[3,3]:=by kernel_rfl
theorem g9:Tryz.prog.book 9=[9]:=by
  unfold Program.book; rw [nty]
  exact grown_fix (by kernel_rfl) _
theorem p9:Tryz.prog.partsOf 9=[]:=by kernel_rfl
theorem opn3:OpnT Tryz.prog 3 Int:=opn_int Tryz.underlying3 (by kernel_rfl)
theorem opn22:OpnT Tryz.prog 22 (List Int):=opn_slice Tryz.underlying22 (by kernel_rfl) opn3 (by decide)
theorem opn24:OpnT Tryz.prog 24 Geo where
  sz:=by kernel_rfl
  shape h:=by obtain ⟨cs,rfl,_⟩:=okWide_struct Tryz.underlying24 h; rfl
  rd {H enc w base spare held fuel cs x} h:=by
    obtain ⟨hl,hf⟩:=opn_fld Tryz.underlying24 h
    obtain ⟨y0,r0,w0⟩:=hf 0 _ rfl _ opn22
    have hc:Tryz.prog.cellsOf 24=1:=by kernel_rfl
    rw [hc] at hl
    match cs,hl with
    | [c0],_ =>
      exact ⟨⟨y0⟩,r0,w0⟩
theorem opn9:OpnT Tryz.prog 9 ByteArray:=opn_str Tryz.underlying9 (by kernel_rfl)
theorem opn84:OpnT Tryz.prog 84 Variable where
  sz:=by kernel_rfl
  shape h:=by obtain ⟨cs,rfl,_⟩:=okWide_struct Tryz.underlying84 h; rfl
  rd {H enc w base spare held fuel cs x} h:=by
    obtain ⟨hl,hf⟩:=opn_fld Tryz.underlying84 h
    obtain ⟨y0,r0,w0⟩:=hf 0 _ rfl _ opn9
    obtain ⟨y1,r1,w1⟩:=hf 1 _ rfl _ opn3
    have hc:Tryz.prog.cellsOf 84=2:=by kernel_rfl
    rw [hc] at hl
    match cs,hl with
    | [c0,c1],_ =>
      obtain rfl:c0=_:=(List.cons.inj r0).1
      obtain rfl:c1=_:=(List.cons.inj r1).1
      exact ⟨⟨y0,y1⟩,rfl,w0,w1⟩
theorem opn25:OpnT Tryz.prog 25 (List Variable):=opn_slice Tryz.underlying25 (by kernel_rfl) opn84 (by decide)
theorem opn87:OpnT Tryz.prog 87 Record where
  sz:=by kernel_rfl
  shape h:=by obtain ⟨cs,rfl,_⟩:=okWide_struct Tryz.underlying87 h; rfl
  rd {H enc w base spare held fuel cs x} h:=by
    obtain ⟨hl,hf⟩:=opn_fld Tryz.underlying87 h
    obtain ⟨y0,r0,w0⟩:=hf 0 _ rfl _ opn3
    obtain ⟨y1,r1,w1⟩:=hf 1 _ rfl _ opn3
    obtain ⟨y2,r2,w2⟩:=hf 2 _ rfl _ opn22
    have hc:Tryz.prog.cellsOf 87=3:=by kernel_rfl
    rw [hc] at hl
    match cs,hl with
    | [c0,c1,c2],_ =>
      exact ⟨⟨y0,y1,y2⟩,⟨[c0],[c1,c2],rfl,r0,⟨[c1],[c2],rfl,r1,r2⟩⟩,w0,w1,w2⟩
theorem opn26:OpnT Tryz.prog 26 (List Record):=opn_slice Tryz.underlying26 (by kernel_rfl) opn87 (by decide)
theorem opn66:OpnT Tryz.prog 66 Table where
  sz:=by kernel_rfl
  shape h:=by obtain ⟨cs,rfl,_⟩:=okWide_struct Tryz.underlying66 h; rfl
  rd {H enc w base spare held fuel cs x} h:=by
    obtain ⟨hl,hf⟩:=opn_fld Tryz.underlying66 h
    obtain ⟨y0,r0,w0⟩:=hf 0 _ rfl _ opn3
    obtain ⟨y1,r1,w1⟩:=hf 1 _ rfl _ opn22
    obtain ⟨y2,r2,w2⟩:=hf 2 _ rfl _ opn22
    obtain ⟨y3,r3,w3⟩:=hf 3 _ rfl _ opn3
    have hc:Tryz.prog.cellsOf 66=4:=by kernel_rfl
    rw [hc] at hl
    match cs,hl with
    | [c0,c1,c2,c3],_ =>
      exact ⟨⟨y0,y1,y2,y3⟩,⟨[c0],[c1,c2,c3],rfl,r0,⟨[c1],[c2,c3],rfl,r1,⟨[c2],[c3],rfl,r2,r3⟩⟩⟩,w0,w1,w2,w3⟩
theorem opn27:OpnT Tryz.prog 27 (List Table):=opn_slice Tryz.underlying27 (by kernel_rfl) opn66 (by decide)
theorem opn29:OpnT Tryz.prog 29 Frac where
  sz:=by kernel_rfl
  shape h:=by obtain ⟨cs,rfl,_⟩:=okWide_struct Tryz.underlying29 h; rfl
  rd {H enc w base spare held fuel cs x} h:=by
    obtain ⟨hl,hf⟩:=opn_fld Tryz.underlying29 h
    obtain ⟨y0,r0,w0⟩:=hf 0 _ rfl _ opn3
    obtain ⟨y1,r1,w1⟩:=hf 1 _ rfl _ opn3
    have hc:Tryz.prog.cellsOf 29=2:=by kernel_rfl
    rw [hc] at hl
    match cs,hl with
    | [c0,c1],_ =>
      obtain rfl:c0=_:=(List.cons.inj r0).1
      obtain rfl:c1=_:=(List.cons.inj r1).1
      exact ⟨⟨y0,y1⟩,rfl,w0,w1⟩
theorem opn31:OpnT Tryz.prog 31 Loss where
  sz:=by kernel_rfl
  shape h:=by obtain ⟨cs,rfl,_⟩:=okWide_struct Tryz.underlying31 h; rfl
  rd {H enc w base spare held fuel cs x} h:=by
    obtain ⟨hl,hf⟩:=opn_fld Tryz.underlying31 h
    obtain ⟨y0,r0,w0⟩:=hf 0 _ rfl _ opn29
    obtain ⟨y1,r1,w1⟩:=hf 1 _ rfl _ opn29
    have hc:Tryz.prog.cellsOf 31=4:=by kernel_rfl
    rw [hc] at hl
    match cs,hl with
    | [c0,c1,c2,c3],_ =>
      obtain rfl:c0=_:=(List.cons.inj r0).1
      obtain rfl:c1=_:=(List.cons.inj ((List.cons.inj r0).2)).1
      obtain rfl:c2=_:=(List.cons.inj r1).1
      obtain rfl:c3=_:=(List.cons.inj ((List.cons.inj r1).2)).1
      exact ⟨⟨y0,y1⟩,rfl,w0,w1⟩
theorem opn64:OpnT Tryz.prog 64 Server where
  sz:=by kernel_rfl
  shape h:=by obtain ⟨cs,rfl,_⟩:=okWide_struct Tryz.underlying64 h; rfl
  rd {H enc w base spare held fuel cs x} h:=by
    obtain ⟨hl,hf⟩:=opn_fld Tryz.underlying64 h
    obtain ⟨y0,r0,w0⟩:=hf 0 _ rfl _ opn24
    obtain ⟨y1,r1,w1⟩:=hf 1 _ rfl _ opn25
    obtain ⟨y2,r2,w2⟩:=hf 2 _ rfl _ opn26
    obtain ⟨y3,r3,w3⟩:=hf 3 _ rfl _ opn27
    obtain ⟨y4,r4,w4⟩:=hf 4 _ rfl _ opn31
    obtain ⟨y5,r5,w5⟩:=hf 5 _ rfl _ opn31
    obtain ⟨y6,r6,w6⟩:=hf 6 _ rfl _ opn3
    obtain ⟨y7,r7,w7⟩:=hf 7 _ rfl _ opn27
    have hc:Tryz.prog.cellsOf 64=14:=by kernel_rfl
    rw [hc] at hl
    match cs,hl with
    | [c0,c1,c2,c3,c4,c5,c6,c7,c8,c9,c10,c11,c12,c13],_ =>
      exact ⟨⟨y0,y1,y2,y3,y4,y5,y6,y7⟩,⟨[c0],[c1,c2,c3,c4,c5,c6,c7,c8,c9,c10,c11,c12,c13],rfl,r0,⟨[c1],[c2,c3,c4,c5,c6,c7,c8,c9,c10,c11,c12,c13],rfl,r1,⟨[c2],[c3,c4,c5,c6,c7,c8,c9,c10,c11,c12,c13],rfl,r2,⟨[c3],[c4,c5,c6,c7,c8,c9,c10,c11,c12,c13],rfl,r3,⟨[c4,c5,c6,c7],[c8,c9,c10,c11,c12,c13],rfl,r4,⟨[c8,c9,c10,c11],[c12,c13],rfl,r5,⟨[c12],[c13],rfl,r6,r7⟩⟩⟩⟩⟩⟩⟩,w0,w1,w2,w3,w4,w5,w6,w7⟩
end Go.Proofs.YtfkblhplgnbppaaGreat
