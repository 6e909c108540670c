import Derived.Test.YtbgnaamdlcggjaaGreatRows
import Derived.Test.YtbgnaamdlcggjaaGreatRDefs
import Derived.WalkKit
import Derived.ProofKit
import Derived.OpenShut
import Derived.ChangeOld
import Derived.Below
set_option linter.unusedVariables false
set_option autoImplicit false
namespace Go.Proofs.YtbgnaamdlcggjaaGreat
open Go Go.Gv Go.ChangeShapes Go.WideShapes Go.ChangeAt Go.RowKit
set_option maxRecDepth 100000
def EA8:List Nat:=[104,97,114,110,101,115,115,32,57,102,48,50,48,97,102,49,53,53,54,54,48,53,54,98,55,97,97,102,48,57,51,53,55,48,101,49,50,99,98,101,98,54,53,54,54,99,100,56,55,98,98,98,52,51,97,102,49,56,101,55,51,101,51,102,99,100,98,50,100,49,53,102,32,99,117,116,32,97,116,32,108,111,111,112,46,101,120,97,109,112,108,101,47,103,48,48,57,48,56,47,108,97,119,115,46,70,110,65,116,116,97,99,107,115,32,108,111,111,112,46,101,120,97,109,112,108,101,47,103,48,48,57,48,56,47,108,97,119,115,46,70,110,65,110,115,119,101,114,115,32,108,111,111,112,46,101,120,97,109,112,108,101,47,103,48,48,57,48,56,47,108,97,119,115,46,70,110,70,101,100,101,114,97,116,101,100,32,108,111,111,112,46,101,120,97,109,112,108,101,47,103,48,48,57,48,56,47,108,97,119,115,46,70,110,67,111,109,112,108,101,116,105,111,110,115,32,108,111,111,112,46,101,120,97,109,112,108,101,47,103,48,48,57,48,56,47,108,97,119,115,46,70,110,82,101,108,101,97,115,101,115]
def wds:List (List Nat):=[[104,97,114,110,101,115,115],[57,102,48,50,48,97,102,49,53,53,54,54,48,53,54,98,55,97,97,102,48,57,51,53,55,48,101,49,50,99,98,101,98,54,53,54,54,99,100,56,55,98,98,98,52,51,97,102,49,56,101,55,51,101,51,102,99,100,98,50,100,49,53,102],[99,117,116],[97,116],[108,111,111,112,46,101,120,97,109,112,108,101,47,103,48,48,57,48,56,47,108,97,119,115,46,70,110,65,116,116,97,99,107,115],[108,111,111,112,46,101,120,97,109,112,108,101,47,103,48,48,57,48,56,47,108,97,119,115,46,70,110,65,110,115,119,101,114,115],[108,111,111,112,46,101,120,97,109,112,108,101,47,103,48,48,57,48,56,47,108,97,119,115,46,70,110,70,101,100,101,114,97,116,101,100],[108,111,111,112,46,101,120,97,109,112,108,101,47,103,48,48,57,48,56,47,108,97,119,115,46,70,110,67,111,109,112,108,101,116,105,111,110,115],[108,111,111,112,46,101,120,97,109,112,108,101,47,103,48,48,57,48,56,47,108,97,119,115,46,70,110,82,101,108,101,97,115,101,115]]
theorem io:Tryz.prog.initOrder=String.ofList (EA8.map Char.ofNat):=by kernel_rfl
theorem iol:Tryz.prog.initOrder.toList=EA8.map Char.ofNat:=by rw [io,String.toList_ofList]
theorem ws:wordsSigns (EA8.map Char.ofNat)=wds.map (·.map Char.ofNat):=by kernel_rfl
theorem bm:behindMainWord (wds.map (·.map Char.ofNat))=(wds.drop 2).map (·.map Char.ofNat):=by kernel_rfl
abbrev tl:List (List Char):=(wds.drop 3).map (·.map Char.ofNat)
theorem hd:behindMainWord (wordsSigns Tryz.prog.initOrder.toList) = "cut".toList :: tl:=(congrArg (fun l=>behindMainWord (wordsSigns l)) iol).trans ((congrArg behindMainWord ws).trans (bm.trans (by kernel_rfl)))
theorem DS7{P:Program}{rest:List (List Char)}(h:behindMainWord (wordsSigns P.initOrder.toList) = "cut".toList :: rest):P.make=some .cut:=by
  unfold Program.make; rw [h]; rfl
theorem CF3{P:Program}{rest:List (List Char)}(h:behindMainWord (wordsSigns P.initOrder.toList) = "cut".toList :: rest)(hl:stripLifts liftWords ("cut".toList :: rest)=([], "cut".toList :: rest)):P.headLifts=[]:=by
  unfold Program.headLifts; rw [h]; simp only []; rw [hl]; rfl
theorem CB2{P:Program}{rest:List (List Char)}(h:behindMainWord (wordsSigns P.initOrder.toList) = "cut".toList :: rest)(hh:P.headLifts=[]):P.liftsFinal=false:=by
  unfold Program.liftsFinal; rw [hh]; simp only []; rw [h]; rfl
theorem CL4{P:Program}{rest:List (List Char)}(h:behindMainWord (wordsSigns P.initOrder.toList) = "cut".toList :: rest)
  (hl:stripLifts liftWords ("cut".toList :: rest)=([], "cut".toList :: rest)) (h1:P.laysLater=false) (h2:P.bearsReflect=false) (h3:P.doorFits []=true):P.mayEnter=true:=by
  unfold Program.mayEnter; rw [h]; simp only []; rw [hl,h1,h2,h3]; rfl
theorem x1:Tryz.prog.laysLater=false:=by kernel_rfl
theorem x2:Tryz.prog.bearsReflect=false:=by kernel_rfl
theorem x3:Tryz.prog.doorFits []=true:=by kernel_rfl
theorem x4:stripLifts liftWords ("cut".toList :: tl)=([], "cut".toList :: tl):=by kernel_rfl
theorem c1:Tryz.prog.mayEnter=true:=CL4 hd x4 x1 x2 x3
theorem c2:Tryz.prog.make=some .cut:=DS7 hd
theorem c3:Tryz.prog.liftsFinal=false:=CB2 hd (CF3 hd x4)
theorem own:ownKnob Tryz.prog.godebug=none:=by kernel_rfl
theorem DF1:laidOutB Tryz.prog=true:=by kernel_rfl
theorem BF2{P:Program}{s:List TypeId}(h:P.grow s=s):∀ n,P.grown n s=s
  | 0=>rfl
  | n+1=>by show P.grown n (P.grow s)=s; rw [h]; exact BF2 h n
theorem DB7{P:Program}{s s':List TypeId}(h:P.grow s=s')(n:Nat):P.grown (n+1) s=P.grown n s':=by show P.grown n (P.grow s)=_; rw [h]
theorem BK9{P:Program}{t:TypeId}(h:P.veiledRec t=false):P.veiledOwn t=true:=by unfold Program.veiledOwn; rw [h]; rfl
theorem nty:Tryz.prog.types.size=280:=by kernel_rfl
theorem g22:Tryz.prog.book 22=[22,5]:=by
  unfold Program.book; rw [nty]
  rw [DB7 (s:=[22]) (s':=[22,5]) (by kernel_rfl) 279]
  exact BF2 (by kernel_rfl) _
theorem p22:Tryz.prog.partsOf 22=[5]:=by kernel_rfl
theorem v22:Tryz.prog.veiledOwn 22=true:=BK9 (by unfold Program.veiledRec; rw [g22]; kernel_rfl)
theorem EZ2:Tryz.prog.readableRec 22=true:=by unfold Program.readableRec; rw [g22]; kernel_rfl
theorem EZ5:22<Tryz.prog.types.size:=by rw [nty]; decide
theorem g4:Tryz.prog.book 4=[4]:=by
  unfold Program.book; rw [nty]
  exact BF2 (by kernel_rfl) _
theorem p4:Tryz.prog.partsOf 4=[]:=by kernel_rfl
theorem v4:Tryz.prog.veiledOwn 4=true:=BK9 (by unfold Program.veiledRec; rw [g4]; kernel_rfl)
theorem g5:Tryz.prog.book 5=[5]:=by
  unfold Program.book; rw [nty]
  exact BF2 (by kernel_rfl) _
theorem p5:Tryz.prog.partsOf 5=[]:=by kernel_rfl
theorem FB7:CZ7 Tryz.prog 5 B8:=EU8 Tryz.underlying5 (by kernel_rfl)
theorem EN2:CZ7 Tryz.prog 22 (List B8):=DL6 Tryz.underlying22 (by kernel_rfl) FB7 (by decide)
end Go.Proofs.YtbgnaamdlcggjaaGreat
