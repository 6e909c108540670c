/- Facts about the seat that all its rows use: the words that it begins with, the types of arguments. -/
import Derived.Test.YtfnmhknnliahoaaGreatDoorRows
import Derived.Test.YtfnmhknnliahoaaGreatDoorCDefs
import Derived.WalkKit
import Derived.ProofKit
import Derived.OpenShut
import Derived.ChangeOld
import Derived.Below
set_option linter.unusedVariables false
set_option autoImplicit false
namespace Go.Proofs.YtfnmhknnliahoaaGreatDoor
open Go Go.Gv Go.ChangeShapes Go.WideShapes Go.ChangeAt Go.RowKit
set_option maxRecDepth 100000
def codes:List Nat:=[104,97,114,110,101,115,115,32,49,101,101,55,57,53,56,49,51,98,57,99,98,49,55,48,54,99,98,101,52,52,55,49,48,50,51,57,48,98,54,57,49,97,97,100,57,98,49,98,50,102,51,53,55,101,98,48,55,50,53,55,51,100,102,56,48,52,50,97,102,99,100,102,32,99,117,116,32,97,116,32,108,111,111,112,46,101,120,97,109,112,108,101,47,103,48,48,57,48,56,47,108,97,119,115,46,70,110,67,108,97,115,115,84,101,120,116,115]
def wds:List (List Nat):=[[104,97,114,110,101,115,115],[49,101,101,55,57,53,56,49,51,98,57,99,98,49,55,48,54,99,98,101,52,52,55,49,48,50,51,57,48,98,54,57,49,97,97,100,57,98,49,98,50,102,51,53,55,101,98,48,55,50,53,55,51,100,102,56,48,52,50,97,102,99,100,102],[99,117,116],[97,116],[108,111,111,112,46,101,120,97,109,112,108,101,47,103,48,48,57,48,56,47,108,97,119,115,46,70,110,67,108,97,115,115,84,101,120,116,115]]
theorem io:Tryz.prog.initOrder=String.ofList (codes.map Char.ofNat):=by kernel_rfl
theorem iol:Tryz.prog.initOrder.toList=codes.map Char.ofNat:=by rw [io,String.toList_ofList]
theorem ws:wordsSigns (codes.map Char.ofNat)=wds.map (·.map Char.ofNat):=by kernel_rfl
theorem bm:behindMainWord (wds.map (·.map Char.ofNat))=(wds.drop 2).map (·.map Char.ofNat):=by kernel_rfl
abbrev tl:List (List Char):=(wds.drop 3).map (·.map Char.ofNat)
theorem hd:behindMainWord (wordsSigns Tryz.prog.initOrder.toList) = "cut".toList :: tl:=(congrArg (fun l=>behindMainWord (wordsSigns l)) iol).trans ((congrArg behindMainWord ws).trans (bm.trans (by kernel_rfl)))
theorem make_cut {P:Program} {rest:List (List Char)} (h:behindMainWord (wordsSigns P.initOrder.toList) = "cut".toList :: rest):P.make=some .cut:=by
  unfold Program.make; rw [h]; rfl
theorem headLifts_cut {P:Program} {rest:List (List Char)} (h:behindMainWord (wordsSigns P.initOrder.toList) = "cut".toList :: rest) (hl:stripLifts liftWords ("cut".toList :: rest)=([], "cut".toList :: rest)):P.headLifts=[]:=by
  unfold Program.headLifts; rw [h]; simp only []; rw [hl]; rfl
theorem liftsFinal_cut {P:Program} {rest:List (List Char)} (h:behindMainWord (wordsSigns P.initOrder.toList) = "cut".toList :: rest) (hh:P.headLifts=[]):P.liftsFinal=false:=by
  unfold Program.liftsFinal; rw [hh]; simp only []; rw [h]; rfl
theorem mayEnter_cut {P:Program} {rest:List (List Char)} (h:behindMainWord (wordsSigns P.initOrder.toList) = "cut".toList :: rest)
  (hl:stripLifts liftWords ("cut".toList :: rest)=([], "cut".toList :: rest)) (h1:P.laysLater=false) (h2:P.bearsReflect=false) (h3:P.doorFits []=true):P.mayEnter=true:=by
  unfold Program.mayEnter; rw [h]; simp only []; rw [hl,h1,h2,h3]; rfl
theorem x1:Tryz.prog.laysLater=false:=by kernel_rfl
theorem x2:Tryz.prog.bearsReflect=false:=by kernel_rfl
theorem x3:Tryz.prog.doorFits []=true:=by kernel_rfl
theorem x4:stripLifts liftWords ("cut".toList :: tl)=([], "cut".toList :: tl):=by kernel_rfl
theorem c1:Tryz.prog.mayEnter=true:=mayEnter_cut hd x4 x1 x2 x3
theorem c2:Tryz.prog.make=some .cut:=make_cut hd
theorem c3:Tryz.prog.liftsFinal=false:=liftsFinal_cut hd (headLifts_cut hd x4)
theorem own:ownKnob Tryz.prog.godebug=none:=by kernel_rfl
theorem laidOut:laidOutB Tryz.prog=true:=by kernel_rfl
theorem grown_fix {P:Program} {s:List TypeId} (h:P.grow s=s):∀ n,P.grown n s=s
  | 0=>rfl
  | n+1=>by show P.grown n (P.grow s)=s; rw [h]; exact grown_fix h n
theorem grown_more {P:Program} {s s':List TypeId} (h:P.grow s=s') (n:Nat):P.grown (n+1) s=P.grown n s':=by show P.grown n (P.grow s)=_; rw [h]
theorem veiledOwn_of {P:Program} {t:TypeId} (h:P.veiledRec t=false):P.veiledOwn t=true:=by unfold Program.veiledOwn; rw [h]; rfl
theorem nty:Tryz.prog.types.size=190:=by kernel_rfl
theorem g22:Tryz.prog.book 22=[22,5]:=by
  unfold Program.book; rw [nty]
  rw [grown_more (s:=[22]) (s':=[22,5]) (by kernel_rfl) 189]
  exact grown_fix (by kernel_rfl) _
theorem p22:Tryz.prog.partsOf 22=[5]:=by kernel_rfl
theorem v22:Tryz.prog.veiledOwn 22=true:=veiledOwn_of (by unfold Program.veiledRec; rw [g22]; kernel_rfl)
theorem rr22:Tryz.prog.readableRec 22=true:=by unfold Program.readableRec; rw [g22]; kernel_rfl
theorem hr22:22<Tryz.prog.types.size:=by rw [nty]; decide
theorem g4:Tryz.prog.book 4=[4]:=by
  unfold Program.book; rw [nty]
  exact grown_fix (by kernel_rfl) _
theorem p4:Tryz.prog.partsOf 4=[]:=by kernel_rfl
theorem v4:Tryz.prog.veiledOwn 4=true:=veiledOwn_of (by unfold Program.veiledRec; rw [g4]; kernel_rfl)
theorem g5:Tryz.prog.book 5=[5]:=by
  unfold Program.book; rw [nty]
  exact grown_fix (by kernel_rfl) _
theorem p5:Tryz.prog.partsOf 5=[]:=by kernel_rfl
theorem opn5:OpnT Tryz.prog 5 B8:=opn_u8 Tryz.underlying5 (by kernel_rfl)
theorem opn22:OpnT Tryz.prog 22 (List B8):=opn_slice Tryz.underlying22 (by kernel_rfl) opn5 (by decide)
end Go.Proofs.YtfnmhknnliahoaaGreatDoor
