/- Facts about the seat that all its rows use: the words that it begins with, the types of arguments. -/
import Derived.Test.YtfnmhknnliahoaaDoorRows
import Derived.Test.YtfnmhknnliahoaaDoorPDefs
import Derived.WalkKit
import Derived.ProofKit
import Derived.OpenShut
import Derived.ChangeOld
import Derived.Below
set_option linter.unusedVariables false
set_option autoImplicit false
namespace Go.Proofs.YtfnmhknnliahoaaDoor
open Go Go.Gv Go.ChangeShapes Go.WideShapes Go.ChangeAt Go.RowKit
set_option maxRecDepth 100000
def codes:List Nat:=[104,97,114,110,101,115,115,32,99,53,48,98,98,50,98,98,57,98,97,55,53,49,102,100,57,55,98,55,48,49,97,102,51,57,51,99,101,55,50,50,50,102,99,99,57,100,57,49,48,54,97,100,51,97,56,55,48,98,57,100,98,51,99,48,52,49,98,51,56,50,52,97,32,99,117,116,32,97,116,32,108,111,111,112,46,101,120,97,109,112,108,101,47,103,48,48,57,48,56,47,108,97,119,115,46,70,110,69,120,97,99,116,77,97,112,84,101,120,116,32,108,111,111,112,46,101,120,97,109,112,108,101,47,103,48,48,57,48,56,47,108,97,119,115,46,70,110,69,120,97,99,116,80,114,111,102,105,108,101,84,101,120,116]
def wds:List (List Nat):=[[104,97,114,110,101,115,115],[99,53,48,98,98,50,98,98,57,98,97,55,53,49,102,100,57,55,98,55,48,49,97,102,51,57,51,99,101,55,50,50,50,102,99,99,57,100,57,49,48,54,97,100,51,97,56,55,48,98,57,100,98,51,99,48,52,49,98,51,56,50,52,97],[99,117,116],[97,116],[108,111,111,112,46,101,120,97,109,112,108,101,47,103,48,48,57,48,56,47,108,97,119,115,46,70,110,69,120,97,99,116,77,97,112,84,101,120,116],[108,111,111,112,46,101,120,97,109,112,108,101,47,103,48,48,57,48,56,47,108,97,119,115,46,70,110,69,120,97,99,116,80,114,111,102,105,108,101,84,101,120,116]]
theorem io:Tryd.prog.initOrder=String.ofList (codes.map Char.ofNat):=by kernel_rfl
theorem iol:Tryd.prog.initOrder.toList=codes.map Char.ofNat:=by rw [io,String.toList_ofList]
theorem ws:wordsSigns (codes.map Char.ofNat)=wds.map (·.map Char.ofNat):=by kernel_rfl
theorem bm:behindMainWord (wds.map (·.map Char.ofNat))=(wds.drop 2).map (·.map Char.ofNat):=by kernel_rfl
abbrev tl:List (List Char):=(wds.drop 3).map (·.map Char.ofNat)
theorem hd:behindMainWord (wordsSigns Tryd.prog.initOrder.toList) = "cut".toList :: tl:=(congrArg (fun l=>behindMainWord (wordsSigns l)) iol).trans ((congrArg behindMainWord ws).trans (bm.trans (by kernel_rfl)))
theorem make_cut {P:Program} {rest:List (List Char)} (h:behindMainWord (wordsSigns P.initOrder.toList) = "cut".toList :: rest):P.make=some .cut:=by
  unfold Program.make; rw [h]; rfl
theorem headLifts_cut {P:Program} {rest:List (List Char)} (h:behindMainWord (wordsSigns P.initOrder.toList) = "cut".toList :: rest) (hl:stripLifts liftWords ("cut".toList :: rest)=([], "cut".toList :: rest)):P.headLifts=[]:=by
  unfold Program.headLifts; rw [h]; simp only []; rw [hl]; rfl
theorem liftsFinal_cut {P:Program} {rest:List (List Char)} (h:behindMainWord (wordsSigns P.initOrder.toList) = "cut".toList :: rest) (hh:P.headLifts=[]):P.liftsFinal=false:=by
  unfold Program.liftsFinal; rw [hh]; simp only []; rw [h]; rfl
theorem mayEnter_cut {P:Program} {rest:List (List Char)} (h:behindMainWord (wordsSigns P.initOrder.toList) = "cut".toList :: rest)
  (hl:stripLifts liftWords ("cut".toList :: rest)=([], "cut".toList :: rest)) (h1:P.laysLater=false) (h2:P.bearsReflect=false) (h3:P.doorFits []=true):P.mayEnter=true:=by
  unfold Program.mayEnter; rw [h]; simp only []; rw [hl,h1,h2,h3]; rfl
theorem x1:Tryd.prog.laysLater=false:=by kernel_rfl
theorem x2:Tryd.prog.bearsReflect=false:=by kernel_rfl
theorem x3:Tryd.prog.doorFits []=true:=by kernel_rfl
theorem x4:stripLifts liftWords ("cut".toList :: tl)=([], "cut".toList :: tl):=by kernel_rfl
theorem c1:Tryd.prog.mayEnter=true:=mayEnter_cut hd x4 x1 x2 x3
theorem c2:Tryd.prog.make=some .cut:=make_cut hd
theorem c3:Tryd.prog.liftsFinal=false:=liftsFinal_cut hd (headLifts_cut hd x4)
theorem own:ownKnob Tryd.prog.godebug=none:=by kernel_rfl
theorem laidOut:laidOutB Tryd.prog=true:=by kernel_rfl
theorem grown_fix {P:Program} {s:List TypeId} (h:P.grow s=s):∀ n,P.grown n s=s
  | 0=>rfl
  | n+1=>by show P.grown n (P.grow s)=s; rw [h]; exact grown_fix h n
theorem grown_more {P:Program} {s s':List TypeId} (h:P.grow s=s') (n:Nat):P.grown (n+1) s=P.grown n s':=by show P.grown n (P.grow s)=_; rw [h]
theorem veiledOwn_of {P:Program} {t:TypeId} (h:P.veiledRec t=false):P.veiledOwn t=true:=by unfold Program.veiledOwn; rw [h]; rfl
theorem nty:Tryd.prog.types.size=133:=by kernel_rfl
theorem g24:Tryd.prog.book 24=[24,22,3]:=by
  unfold Program.book; rw [nty]
  rw [grown_more (s:=[24]) (s':=[24,22]) (by kernel_rfl) 132]
  rw [grown_more (s:=[24,22]) (s':=[24,22,3]) (by kernel_rfl) 131]
  exact grown_fix (by kernel_rfl) _
theorem p24:Tryd.prog.partsOf 24=[22]:=by kernel_rfl
theorem v24:Tryd.prog.veiledOwn 24=true:=veiledOwn_of (by unfold Program.veiledRec; rw [g24]; kernel_rfl)
theorem rr24:Tryd.prog.readableRec 24=true:=by unfold Program.readableRec; rw [g24]; kernel_rfl
theorem hr24:24<Tryd.prog.types.size:=by rw [nty]; decide
theorem g34:Tryd.prog.book 34=[34,65,9,3]:=by
  unfold Program.book; rw [nty]
  rw [grown_more (s:=[34]) (s':=[34,65]) (by kernel_rfl) 132]
  rw [grown_more (s:=[34,65]) (s':=[34,65,9,3]) (by kernel_rfl) 131]
  exact grown_fix (by kernel_rfl) _
theorem p34:Tryd.prog.partsOf 34=[65]:=by kernel_rfl
theorem v34:Tryd.prog.veiledOwn 34=true:=veiledOwn_of (by unfold Program.veiledRec; rw [g34]; kernel_rfl)
theorem rr34:Tryd.prog.readableRec 34=true:=by unfold Program.readableRec; rw [g34]; kernel_rfl
theorem hr34:34<Tryd.prog.types.size:=by rw [nty]; decide
theorem g36:Tryd.prog.book 36=[36,3,22]:=by
  unfold Program.book; rw [nty]
  rw [grown_more (s:=[36]) (s':=[36,3,22]) (by kernel_rfl) 132]
  exact grown_fix (by kernel_rfl) _
theorem p36:Tryd.prog.partsOf 36=[3,22,22,3]:=by kernel_rfl
theorem v36:Tryd.prog.veiledOwn 36=true:=veiledOwn_of (by unfold Program.veiledRec; rw [g36]; kernel_rfl)
theorem rr36:Tryd.prog.readableRec 36=true:=by unfold Program.readableRec; rw [g36]; kernel_rfl
theorem hr36:36<Tryd.prog.types.size:=by rw [nty]; decide
theorem g22:Tryd.prog.book 22=[22,3]:=by
  unfold Program.book; rw [nty]
  rw [grown_more (s:=[22]) (s':=[22,3]) (by kernel_rfl) 132]
  exact grown_fix (by kernel_rfl) _
theorem p22:Tryd.prog.partsOf 22=[3]:=by kernel_rfl
theorem v22:Tryd.prog.veiledOwn 22=true:=veiledOwn_of (by unfold Program.veiledRec; rw [g22]; kernel_rfl)
theorem rr22:Tryd.prog.readableRec 22=true:=by unfold Program.readableRec; rw [g22]; kernel_rfl
theorem hr22:22<Tryd.prog.types.size:=by rw [nty]; decide
theorem g4:Tryd.prog.book 4=[4]:=by
  unfold Program.book; rw [nty]
  exact grown_fix (by kernel_rfl) _
theorem p4:Tryd.prog.partsOf 4=[]:=by kernel_rfl
theorem v4:Tryd.prog.veiledOwn 4=true:=veiledOwn_of (by unfold Program.veiledRec; rw [g4]; kernel_rfl)
theorem g3:Tryd.prog.book 3=[3]:=by
  unfold Program.book; rw [nty]
  exact grown_fix (by kernel_rfl) _
theorem p3:Tryd.prog.partsOf 3=[]:=by kernel_rfl
theorem g65:Tryd.prog.book 65=[65,9,3]:=by
  unfold Program.book; rw [nty]
  rw [grown_more (s:=[65]) (s':=[65,9,3]) (by kernel_rfl) 132]
  exact grown_fix (by kernel_rfl) _
theorem p65:Tryd.prog.partsOf 65=[9,3]:=by kernel_rfl
theorem g9:Tryd.prog.book 9=[9]:=by
  unfold Program.book; rw [nty]
  exact grown_fix (by kernel_rfl) _
theorem p9:Tryd.prog.partsOf 9=[]:=by kernel_rfl
theorem opn3:OpnT Tryd.prog 3 Int:=opn_int Tryd.underlying3 (by kernel_rfl)
theorem opn22:OpnT Tryd.prog 22 (List Int):=opn_slice Tryd.underlying22 (by kernel_rfl) opn3 (by decide)
theorem opn24:OpnT Tryd.prog 24 Geo where
  sz:=by kernel_rfl
  shape h:=by obtain ⟨cs,rfl,_⟩:=okWide_struct Tryd.underlying24 h; rfl
  rd {H enc w base spare held fuel cs x} h:=by
    obtain ⟨hl,hf⟩:=opn_fld Tryd.underlying24 h
    obtain ⟨y0,r0,w0⟩:=hf 0 _ rfl _ opn22
    have hc:Tryd.prog.cellsOf 24=1:=by kernel_rfl
    rw [hc] at hl
    match cs,hl with
    | [c0],_ =>
      exact ⟨⟨y0⟩,r0,w0⟩
theorem opn9:OpnT Tryd.prog 9 ByteArray:=opn_str Tryd.underlying9 (by kernel_rfl)
theorem opn65:OpnT Tryd.prog 65 Variable where
  sz:=by kernel_rfl
  shape h:=by obtain ⟨cs,rfl,_⟩:=okWide_struct Tryd.underlying65 h; rfl
  rd {H enc w base spare held fuel cs x} h:=by
    obtain ⟨hl,hf⟩:=opn_fld Tryd.underlying65 h
    obtain ⟨y0,r0,w0⟩:=hf 0 _ rfl _ opn9
    obtain ⟨y1,r1,w1⟩:=hf 1 _ rfl _ opn3
    have hc:Tryd.prog.cellsOf 65=2:=by kernel_rfl
    rw [hc] at hl
    match cs,hl with
    | [c0,c1],_ =>
      obtain rfl:c0=_:=(List.cons.inj r0).1
      obtain rfl:c1=_:=(List.cons.inj r1).1
      exact ⟨⟨y0,y1⟩,rfl,w0,w1⟩
theorem opn34:OpnT Tryd.prog 34 (List Variable):=opn_slice Tryd.underlying34 (by kernel_rfl) opn65 (by decide)
theorem opn36:OpnT Tryd.prog 36 Table where
  sz:=by kernel_rfl
  shape h:=by obtain ⟨cs,rfl,_⟩:=okWide_struct Tryd.underlying36 h; rfl
  rd {H enc w base spare held fuel cs x} h:=by
    obtain ⟨hl,hf⟩:=opn_fld Tryd.underlying36 h
    obtain ⟨y0,r0,w0⟩:=hf 0 _ rfl _ opn3
    obtain ⟨y1,r1,w1⟩:=hf 1 _ rfl _ opn22
    obtain ⟨y2,r2,w2⟩:=hf 2 _ rfl _ opn22
    obtain ⟨y3,r3,w3⟩:=hf 3 _ rfl _ opn3
    have hc:Tryd.prog.cellsOf 36=4:=by kernel_rfl
    rw [hc] at hl
    match cs,hl with
    | [c0,c1,c2,c3],_ =>
      exact ⟨⟨y0,y1,y2,y3⟩,⟨[c0],[c1,c2,c3],rfl,r0,⟨[c1],[c2,c3],rfl,r1,⟨[c2],[c3],rfl,r2,r3⟩⟩⟩,w0,w1,w2,w3⟩
end Go.Proofs.YtfnmhknnliahoaaDoor
