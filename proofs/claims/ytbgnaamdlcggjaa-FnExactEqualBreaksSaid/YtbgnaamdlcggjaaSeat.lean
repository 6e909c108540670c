/- Facts about the seat that all its rows use: the words that it begins with, the types of arguments. -/
import Derived.Test.YtbgnaamdlcggjaaRows
import Derived.Test.YtbgnaamdlcggjaaEDefs
import Derived.WalkKit
import Derived.ProofKit
import Derived.OpenShut
import Derived.ChangeOld
import Derived.Below
set_option linter.unusedVariables false
set_option autoImplicit false
namespace Go.Proofs.Ytbgnaamdlcggjaa
open Go Go.Gv Go.ChangeShapes Go.WideShapes Go.ChangeAt Go.RowKit
set_option maxRecDepth 100000
def codes:List Nat:=[104,97,114,110,101,115,115,32,50,50,48,53,97,53,57,98,53,54,51,48,100,97,101,49,97,102,97,52,54,49,97,50,56,51,99,100,99,51,53,50,100,54,97,102,55,54,97,51,98,100,102,50,49,99,102,97,101,101,98,56,53,57,51,99,99,97,99,56,57,57,100,57,32,99,117,116,32,97,116,32,108,111,111,112,46,101,120,97,109,112,108,101,47,103,48,48,57,48,56,47,108,97,119,115,46,70,110,69,120,97,99,116,69,113,117,97,108,66,114,101,97,107,115]
def wds:List (List Nat):=[[104,97,114,110,101,115,115],[50,50,48,53,97,53,57,98,53,54,51,48,100,97,101,49,97,102,97,52,54,49,97,50,56,51,99,100,99,51,53,50,100,54,97,102,55,54,97,51,98,100,102,50,49,99,102,97,101,101,98,56,53,57,51,99,99,97,99,56,57,57,100,57],[99,117,116],[97,116],[108,111,111,112,46,101,120,97,109,112,108,101,47,103,48,48,57,48,56,47,108,97,119,115,46,70,110,69,120,97,99,116,69,113,117,97,108,66,114,101,97,107,115]]
theorem io:Try.prog.initOrder=String.ofList (codes.map Char.ofNat):=by kernel_rfl
theorem iol:Try.prog.initOrder.toList=codes.map Char.ofNat:=by rw [io,String.toList_ofList]
theorem ws:wordsSigns (codes.map Char.ofNat)=wds.map (·.map Char.ofNat):=by kernel_rfl
theorem bm:behindMainWord (wds.map (·.map Char.ofNat))=(wds.drop 2).map (·.map Char.ofNat):=by kernel_rfl
abbrev tl:List (List Char):=(wds.drop 3).map (·.map Char.ofNat)
theorem hd:behindMainWord (wordsSigns Try.prog.initOrder.toList) = "cut".toList :: tl:=(congrArg (fun l=>behindMainWord (wordsSigns l)) iol).trans ((congrArg behindMainWord ws).trans (bm.trans (by kernel_rfl)))
theorem make_cut {P:Program} {rest:List (List Char)} (h:behindMainWord (wordsSigns P.initOrder.toList) = "cut".toList :: rest):P.make=some .cut:=by
  unfold Program.make; rw [h]; rfl
theorem headLifts_cut {P:Program} {rest:List (List Char)} (h:behindMainWord (wordsSigns P.initOrder.toList) = "cut".toList :: rest) (hl:stripLifts liftWords ("cut".toList :: rest)=([], "cut".toList :: rest)):P.headLifts=[]:=by
  unfold Program.headLifts; rw [h]; simp only []; rw [hl]; rfl
theorem liftsFinal_cut {P:Program} {rest:List (List Char)} (h:behindMainWord (wordsSigns P.initOrder.toList) = "cut".toList :: rest) (hh:P.headLifts=[]):P.liftsFinal=false:=by
  unfold Program.liftsFinal; rw [hh]; simp only []; rw [h]; rfl
theorem mayEnter_cut {P:Program} {rest:List (List Char)} (h:behindMainWord (wordsSigns P.initOrder.toList) = "cut".toList :: rest)
  (hl:stripLifts liftWords ("cut".toList :: rest)=([], "cut".toList :: rest)) (h1:P.laysLater=false) (h2:P.bearsReflect=false) (h3:P.doorFits []=true):P.mayEnter=true:=by
  unfold Program.mayEnter; rw [h]; simp only []; rw [hl,h1,h2,h3]; rfl
theorem x1:Try.prog.laysLater=false:=by kernel_rfl
theorem x2:Try.prog.bearsReflect=false:=by kernel_rfl
theorem x3:Try.prog.doorFits []=true:=by kernel_rfl
theorem x4:stripLifts liftWords ("cut".toList :: tl)=([], "cut".toList :: tl):=by kernel_rfl
theorem c1:Try.prog.mayEnter=true:=mayEnter_cut hd x4 x1 x2 x3
theorem c2:Try.prog.make=some .cut:=make_cut hd
theorem c3:Try.prog.liftsFinal=false:=liftsFinal_cut hd (headLifts_cut hd x4)
theorem own:ownKnob Try.prog.godebug=none:=by kernel_rfl
theorem laidOut:laidOutB Try.prog=true:=by kernel_rfl
theorem grown_fix {P:Program} {s:List TypeId} (h:P.grow s=s):∀ n,P.grown n s=s
  | 0=>rfl
  | n+1=>by show P.grown n (P.grow s)=s; rw [h]; exact grown_fix h n
theorem grown_more {P:Program} {s s':List TypeId} (h:P.grow s=s') (n:Nat):P.grown (n+1) s=P.grown n s':=by show P.grown n (P.grow s)=_; rw [h]
theorem veiledOwn_of {P:Program} {t:TypeId} (h:P.veiledRec t=false):P.veiledOwn t=true:=by unfold Program.veiledOwn; rw [h]; rfl
theorem nty:Try.prog.types.size=85:=by kernel_rfl
theorem g22:Try.prog.book 22=[22,37,3]:=by
  unfold Program.book; rw [nty]
  rw [grown_more (s:=[22]) (s':=[22,37]) (by kernel_rfl) 84]
  rw [grown_more (s:=[22,37]) (s':=[22,37,3]) (by kernel_rfl) 83]
  exact grown_fix (by kernel_rfl) _
theorem p22:Try.prog.partsOf 22=[37]:=by kernel_rfl
theorem v22:Try.prog.veiledOwn 22=true:=veiledOwn_of (by unfold Program.veiledRec; rw [g22]; kernel_rfl)
theorem rr22:Try.prog.readableRec 22=true:=by unfold Program.readableRec; rw [g22]; kernel_rfl
theorem hr22:22<Try.prog.types.size:=by rw [nty]; decide
theorem g3:Try.prog.book 3=[3]:=by
  unfold Program.book; rw [nty]
  exact grown_fix (by kernel_rfl) _
theorem p3:Try.prog.partsOf 3=[]:=by kernel_rfl
theorem v3:Try.prog.veiledOwn 3=true:=veiledOwn_of (by unfold Program.veiledRec; rw [g3]; kernel_rfl)
theorem rr3:Try.prog.readableRec 3=true:=by unfold Program.readableRec; rw [g3]; kernel_rfl
theorem hr3:3<Try.prog.types.size:=by rw [nty]; decide
theorem g4:Try.prog.book 4=[4]:=by
  unfold Program.book; rw [nty]
  exact grown_fix (by kernel_rfl) _
theorem p4:Try.prog.partsOf 4=[]:=by kernel_rfl
theorem v4:Try.prog.veiledOwn 4=true:=veiledOwn_of (by unfold Program.veiledRec; rw [g4]; kernel_rfl)
theorem g37:Try.prog.book 37=[37,3]:=by
  unfold Program.book; rw [nty]
  rw [grown_more (s:=[37]) (s':=[37,3]) (by kernel_rfl) 84]
  exact grown_fix (by kernel_rfl) _
theorem p37:Try.prog.partsOf 37=[3,3]:=by kernel_rfl
theorem opn3:OpnT Try.prog 3 Int:=opn_int Try.underlying3 (by kernel_rfl)
theorem opn37:OpnT Try.prog 37 Frac where
  sz:=by kernel_rfl
  shape h:=by obtain ⟨cs,rfl,_⟩:=okWide_struct Try.underlying37 h; rfl
  rd {H enc w base spare held fuel cs x} h:=by
    obtain ⟨hl,hf⟩:=opn_fld Try.underlying37 h
    obtain ⟨y0,r0,w0⟩:=hf 0 _ rfl _ opn3
    obtain ⟨y1,r1,w1⟩:=hf 1 _ rfl _ opn3
    have hc:Try.prog.cellsOf 37=2:=by kernel_rfl
    rw [hc] at hl
    match cs,hl with
    | [c0,c1],_ =>
      obtain rfl:c0=_:=(List.cons.inj r0).1
      obtain rfl:c1=_:=(List.cons.inj r1).1
      exact ⟨⟨y0,y1⟩,rfl,w0,w1⟩
theorem opn22:OpnT Try.prog 22 (List Frac):=opn_slice Try.underlying22 (by kernel_rfl) opn37 (by decide)
end Go.Proofs.Ytbgnaamdlcggjaa
