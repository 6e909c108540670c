/- Facts about the seat that all its rows use: the words that it begins with, the types of arguments. -/
import Derived.Test.YtdnpmgofkbjigaaRows
import Derived.Test.YtdnpmgofkbjigaaEDefs
import Derived.WalkKit
import Derived.ProofKit
import Derived.OpenShut
import Derived.ChangeOld
import Derived.Below
set_option linter.unusedVariables false
set_option autoImplicit false
namespace Go.Proofs.Ytdnpmgofkbjigaa
open Go Go.Gv Go.ChangeShapes Go.WideShapes Go.ChangeAt Go.RowKit
set_option maxRecDepth 100000
def codes : List Nat := [104,97,114,110,101,115,115,32,52,54,51,54,48,99,48,49,100,53,48,101,98,100,56,54,100,48,52,97,56,51,102,54,52,51,101,49,48,98,97,53,97,56,50,97,50,48,56,56,101,98,99,100,55,98,100,52,99,101,48,48,48,51,51,101,98,54,52,97,97,99,102,100,32,99,117,116,32,97,116,32,108,111,111,112,46,101,120,97,109,112,108,101,47,103,48,48,57,48,56,47,108,97,119,115,46,70,110,69,120,97,99,116,73,115,67,111,118,101,114,32,108,111,111,112,46,101,120,97,109,112,108,101,47,103,48,48,57,48,56,47,108,97,119,115,46,70,110,69,120,97,99,116,69,108,105,109,105,110,97,116,101,86,97,114,105,97,98,108,101,32,108,111,111,112,46,101,120,97,109,112,108,101,47,103,48,48,57,48,56,47,108,97,119,115,46,70,110,69,120,97,99,116,77,97,120,105,109,97,108,69,100,105,116,115,32,108,111,111,112,46,101,120,97,109,112,108,101,47,103,48,48,57,48,56,47,108,97,119,115,46,70,110,73,109,112,108,105,101,100,32,108,111,111,112,46,101,120,97,109,112,108,101,47,103,48,48,57,48,56,47,108,97,119,115,46,70,110,69,120,97,99,116,69,113,117,97,108,66,114,101,97,107,115,32,108,111,111,112,46,101,120,97,109,112,108,101,47,103,48,48,57,48,56,47,108,97,119,115,46,70,110,69,120,97,99,116,67,111,117,110,116,70,108,111,119,115,32,108,111,111,112,46,101,120,97,109,112,108,101,47,103,48,48,57,48,56,47,108,97,119,115,46,70,110,69,120,97,99,116,67,111,117,110,116,70,105,116,115,32,108,111,111,112,46,101,120,97,109,112,108,101,47,103,48,48,57,48,56,47,108,97,119,115,46,70,110,69,120,97,99,116,69,100,105,116,115,79,110,108,121,32,108,111,111,112,46,101,120,97,109,112,108,101,47,103,48,48,57,48,56,47,108,97,119,115,46,70,110,69,120,97,99,116,67,111,117,110,116,82,111,117,110,100,105,110,103,115,32,108,111,111,112,46,101,120,97,109,112,108,101,47,103,48,48,57,48,56,47,108,97,119,115,46,70,110,69,120,97,99,116,80,97,99,107,105,110,103,66,111,117,110,100,32,108,111,111,112,46,101,120,97,109,112,108,101,47,103,48,48,57,48,56,47,108,97,119,115,46,70,110,70,108,111,119,67,111,117,110,116,115]
def wds : List (List Nat) := [[104,97,114,110,101,115,115],[52,54,51,54,48,99,48,49,100,53,48,101,98,100,56,54,100,48,52,97,56,51,102,54,52,51,101,49,48,98,97,53,97,56,50,97,50,48,56,56,101,98,99,100,55,98,100,52,99,101,48,48,48,51,51,101,98,54,52,97,97,99,102,100],[99,117,116],[97,116],[108,111,111,112,46,101,120,97,109,112,108,101,47,103,48,48,57,48,56,47,108,97,119,115,46,70,110,69,120,97,99,116,73,115,67,111,118,101,114],[108,111,111,112,46,101,120,97,109,112,108,101,47,103,48,48,57,48,56,47,108,97,119,115,46,70,110,69,120,97,99,116,69,108,105,109,105,110,97,116,101,86,97,114,105,97,98,108,101],[108,111,111,112,46,101,120,97,109,112,108,101,47,103,48,48,57,48,56,47,108,97,119,115,46,70,110,69,120,97,99,116,77,97,120,105,109,97,108,69,100,105,116,115],[108,111,111,112,46,101,120,97,109,112,108,101,47,103,48,48,57,48,56,47,108,97,119,115,46,70,110,73,109,112,108,105,101,100],[108,111,111,112,46,101,120,97,109,112,108,101,47,103,48,48,57,48,56,47,108,97,119,115,46,70,110,69,120,97,99,116,69,113,117,97,108,66,114,101,97,107,115],[108,111,111,112,46,101,120,97,109,112,108,101,47,103,48,48,57,48,56,47,108,97,119,115,46,70,110,69,120,97,99,116,67,111,117,110,116,70,108,111,119,115],[108,111,111,112,46,101,120,97,109,112,108,101,47,103,48,48,57,48,56,47,108,97,119,115,46,70,110,69,120,97,99,116,67,111,117,110,116,70,105,116,115],[108,111,111,112,46,101,120,97,109,112,108,101,47,103,48,48,57,48,56,47,108,97,119,115,46,70,110,69,120,97,99,116,69,100,105,116,115,79,110,108,121],[108,111,111,112,46,101,120,97,109,112,108,101,47,103,48,48,57,48,56,47,108,97,119,115,46,70,110,69,120,97,99,116,67,111,117,110,116,82,111,117,110,100,105,110,103,115],[108,111,111,112,46,101,120,97,109,112,108,101,47,103,48,48,57,48,56,47,108,97,119,115,46,70,110,69,120,97,99,116,80,97,99,107,105,110,103,66,111,117,110,100],[108,111,111,112,46,101,120,97,109,112,108,101,47,103,48,48,57,48,56,47,108,97,119,115,46,70,110,70,108,111,119,67,111,117,110,116,115]]
theorem io : Try.prog.initOrder = String.ofList (codes.map Char.ofNat) := by kernel_rfl
theorem iol : Try.prog.initOrder.toList = codes.map Char.ofNat := by rw [io, String.toList_ofList]
theorem ws : wordsSigns (codes.map Char.ofNat) = wds.map (·.map Char.ofNat) := by kernel_rfl
theorem bm : behindMainWord (wds.map (·.map Char.ofNat)) = (wds.drop 2).map (·.map Char.ofNat) := by kernel_rfl
abbrev tl : List (List Char) := (wds.drop 3).map (·.map Char.ofNat)
theorem hd : behindMainWord (wordsSigns Try.prog.initOrder.toList) = "cut".toList :: tl := (congrArg (fun l => behindMainWord (wordsSigns l)) iol).trans ((congrArg behindMainWord ws).trans (bm.trans (by kernel_rfl)))
theorem make_cut {P : Program} {rest : List (List Char)} (h : behindMainWord (wordsSigns P.initOrder.toList) = "cut".toList :: rest) : P.make = some .cut := by
  unfold Program.make; rw [h]; rfl
theorem headLifts_cut {P : Program} {rest : List (List Char)} (h : behindMainWord (wordsSigns P.initOrder.toList) = "cut".toList :: rest) (hl : stripLifts liftWords ("cut".toList :: rest) = ([], "cut".toList :: rest)) : P.headLifts = [] := by
  unfold Program.headLifts; rw [h]; simp only []; rw [hl]; rfl
theorem liftsFinal_cut {P : Program} {rest : List (List Char)} (h : behindMainWord (wordsSigns P.initOrder.toList) = "cut".toList :: rest) (hh : P.headLifts = []) : P.liftsFinal = false := by
  unfold Program.liftsFinal; rw [hh]; simp only []; rw [h]; rfl
theorem mayEnter_cut {P : Program} {rest : List (List Char)} (h : behindMainWord (wordsSigns P.initOrder.toList) = "cut".toList :: rest)
  (hl : stripLifts liftWords ("cut".toList :: rest) = ([], "cut".toList :: rest)) (h1 : P.laysLater = false) (h2 : P.bearsReflect = false) (h3 : P.doorFits [] = true) : P.mayEnter = true := by
  unfold Program.mayEnter; rw [h]; simp only []; rw [hl, h1, h2, h3]; rfl
theorem x1 : Try.prog.laysLater = false := by kernel_rfl
theorem x2 : Try.prog.bearsReflect = false := by kernel_rfl
theorem x3 : Try.prog.doorFits [] = true := by kernel_rfl
theorem x4 : stripLifts liftWords ("cut".toList :: tl) = ([], "cut".toList :: tl) := by kernel_rfl
theorem c1 : Try.prog.mayEnter = true := mayEnter_cut hd x4 x1 x2 x3
theorem c2 : Try.prog.make = some .cut := make_cut hd
theorem c3 : Try.prog.liftsFinal = false := liftsFinal_cut hd (headLifts_cut hd x4)
theorem own : ownKnob Try.prog.godebug = none := by kernel_rfl
theorem laidOut : laidOutB Try.prog = true := by kernel_rfl
theorem grown_fix {P : Program} {s : List TypeId} (h : P.grow s = s) : ∀ n, P.grown n s = s
  | 0 => rfl
  | n + 1 => by show P.grown n (P.grow s) = s; rw [h]; exact grown_fix h n
theorem grown_more {P : Program} {s s' : List TypeId} (h : P.grow s = s') (n : Nat) : P.grown (n + 1) s = P.grown n s' := by show P.grown n (P.grow s) = _; rw [h]
theorem veiledOwn_of {P : Program} {t : TypeId} (h : P.veiledRec t = false) : P.veiledOwn t = true := by unfold Program.veiledOwn; rw [h]; rfl
theorem nty : Try.prog.types.size = 245 := by kernel_rfl
theorem g22 : Try.prog.book 22 = [22, 98, 9, 3] := by
  unfold Program.book; rw [nty]
  rw [grown_more (s := [22]) (s' := [22, 98]) (by kernel_rfl) 244]
  rw [grown_more (s := [22, 98]) (s' := [22, 98, 9, 3]) (by kernel_rfl) 243]
  exact grown_fix (by kernel_rfl) _
theorem p22 : Try.prog.partsOf 22 = [98] := by kernel_rfl
theorem v22 : Try.prog.veiledOwn 22 = true := veiledOwn_of (by unfold Program.veiledRec; rw [g22]; kernel_rfl)
theorem rr22 : Try.prog.readableRec 22 = true := by unfold Program.readableRec; rw [g22]; kernel_rfl
theorem hr22 : 22 < Try.prog.types.size := by rw [nty]; decide
theorem g23 : Try.prog.book 23 = [23, 100, 24, 3] := by
  unfold Program.book; rw [nty]
  rw [grown_more (s := [23]) (s' := [23, 100]) (by kernel_rfl) 244]
  rw [grown_more (s := [23, 100]) (s' := [23, 100, 24]) (by kernel_rfl) 243]
  rw [grown_more (s := [23, 100, 24]) (s' := [23, 100, 24, 3]) (by kernel_rfl) 242]
  exact grown_fix (by kernel_rfl) _
theorem p23 : Try.prog.partsOf 23 = [100] := by kernel_rfl
theorem v23 : Try.prog.veiledOwn 23 = true := veiledOwn_of (by unfold Program.veiledRec; rw [g23]; kernel_rfl)
theorem rr23 : Try.prog.readableRec 23 = true := by unfold Program.readableRec; rw [g23]; kernel_rfl
theorem hr23 : 23 < Try.prog.types.size := by rw [nty]; decide
theorem g24 : Try.prog.book 24 = [24, 3] := by
  unfold Program.book; rw [nty]
  rw [grown_more (s := [24]) (s' := [24, 3]) (by kernel_rfl) 244]
  exact grown_fix (by kernel_rfl) _
theorem p24 : Try.prog.partsOf 24 = [3] := by kernel_rfl
theorem v24 : Try.prog.veiledOwn 24 = true := veiledOwn_of (by unfold Program.veiledRec; rw [g24]; kernel_rfl)
theorem rr24 : Try.prog.readableRec 24 = true := by unfold Program.readableRec; rw [g24]; kernel_rfl
theorem hr24 : 24 < Try.prog.types.size := by rw [nty]; decide
theorem g3 : Try.prog.book 3 = [3] := by
  unfold Program.book; rw [nty]
  exact grown_fix (by kernel_rfl) _
theorem p3 : Try.prog.partsOf 3 = [] := by kernel_rfl
theorem v3 : Try.prog.veiledOwn 3 = true := veiledOwn_of (by unfold Program.veiledRec; rw [g3]; kernel_rfl)
theorem rr3 : Try.prog.readableRec 3 = true := by unfold Program.readableRec; rw [g3]; kernel_rfl
theorem hr3 : 3 < Try.prog.types.size := by rw [nty]; decide
theorem g4 : Try.prog.book 4 = [4] := by
  unfold Program.book; rw [nty]
  exact grown_fix (by kernel_rfl) _
theorem p4 : Try.prog.partsOf 4 = [] := by kernel_rfl
theorem v4 : Try.prog.veiledOwn 4 = true := veiledOwn_of (by unfold Program.veiledRec; rw [g4]; kernel_rfl)
theorem rr4 : Try.prog.readableRec 4 = true := by unfold Program.readableRec; rw [g4]; kernel_rfl
theorem hr4 : 4 < Try.prog.types.size := by rw [nty]; decide
theorem g98 : Try.prog.book 98 = [98, 9, 3] := by
  unfold Program.book; rw [nty]
  rw [grown_more (s := [98]) (s' := [98, 9, 3]) (by kernel_rfl) 244]
  exact grown_fix (by kernel_rfl) _
theorem p98 : Try.prog.partsOf 98 = [9, 3] := by kernel_rfl
theorem v98 : Try.prog.veiledOwn 98 = true := veiledOwn_of (by unfold Program.veiledRec; rw [g98]; kernel_rfl)
theorem rr98 : Try.prog.readableRec 98 = true := by unfold Program.readableRec; rw [g98]; kernel_rfl
theorem hr98 : 98 < Try.prog.types.size := by rw [nty]; decide
theorem g9 : Try.prog.book 9 = [9] := by
  unfold Program.book; rw [nty]
  exact grown_fix (by kernel_rfl) _
theorem p9 : Try.prog.partsOf 9 = [] := by kernel_rfl
theorem v9 : Try.prog.veiledOwn 9 = true := veiledOwn_of (by unfold Program.veiledRec; rw [g9]; kernel_rfl)
theorem rr9 : Try.prog.readableRec 9 = true := by unfold Program.readableRec; rw [g9]; kernel_rfl
theorem hr9 : 9 < Try.prog.types.size := by rw [nty]; decide
theorem g100 : Try.prog.book 100 = [100, 24, 3] := by
  unfold Program.book; rw [nty]
  rw [grown_more (s := [100]) (s' := [100, 24]) (by kernel_rfl) 244]
  rw [grown_more (s := [100, 24]) (s' := [100, 24, 3]) (by kernel_rfl) 243]
  exact grown_fix (by kernel_rfl) _
theorem p100 : Try.prog.partsOf 100 = [24] := by kernel_rfl
theorem v100 : Try.prog.veiledOwn 100 = true := veiledOwn_of (by unfold Program.veiledRec; rw [g100]; kernel_rfl)
theorem rr100 : Try.prog.readableRec 100 = true := by unfold Program.readableRec; rw [g100]; kernel_rfl
theorem hr100 : 100 < Try.prog.types.size := by rw [nty]; decide
theorem opn9 : OpnT Try.prog 9 ByteArray := opn_str Try.underlying9 (by kernel_rfl)
theorem opn3 : OpnT Try.prog 3 Int := opn_int Try.underlying3 (by kernel_rfl)
theorem opn98 : OpnT Try.prog 98 Variable where
  sz := by kernel_rfl
  shape h := by obtain ⟨cs, rfl, _⟩ := okWide_struct Try.underlying98 h; rfl
  rd {H enc w base spare held fuel cs x} h := by
    obtain ⟨hl, hf⟩ := opn_fld Try.underlying98 h
    obtain ⟨y0, r0, w0⟩ := hf 0 _ rfl _ opn9
    obtain ⟨y1, r1, w1⟩ := hf 1 _ rfl _ opn3
    have hc : Try.prog.cellsOf 98 = 2 := by kernel_rfl
    rw [hc] at hl
    match cs, hl with
    | [c0, c1], _ =>
      obtain rfl : c0 = _ := (List.cons.inj r0).1
      obtain rfl : c1 = _ := (List.cons.inj r1).1
      exact ⟨⟨y0, y1⟩, rfl, w0, w1⟩
theorem opn22 : OpnT Try.prog 22 (List Variable) := opn_slice Try.underlying22 (by kernel_rfl) opn98 (by decide)
theorem opn24 : OpnT Try.prog 24 (List Int) := opn_slice Try.underlying24 (by kernel_rfl) opn3 (by decide)
theorem opn100 : OpnT Try.prog 100 Edit where
  sz := by kernel_rfl
  shape h := by obtain ⟨cs, rfl, _⟩ := okWide_struct Try.underlying100 h; rfl
  rd {H enc w base spare held fuel cs x} h := by
    obtain ⟨hl, hf⟩ := opn_fld Try.underlying100 h
    obtain ⟨y0, r0, w0⟩ := hf 0 _ rfl _ opn24
    have hc : Try.prog.cellsOf 100 = 1 := by kernel_rfl
    rw [hc] at hl
    match cs, hl with
    | [c0], _ =>
      exact ⟨⟨y0⟩, r0, w0⟩
theorem opn23 : OpnT Try.prog 23 (List Edit) := opn_slice Try.underlying23 (by kernel_rfl) opn100 (by decide)
theorem opn4 : OpnT Try.prog 4 Bool := opn_bool Try.underlying4 (by kernel_rfl)
end Go.Proofs.Ytdnpmgofkbjigaa
