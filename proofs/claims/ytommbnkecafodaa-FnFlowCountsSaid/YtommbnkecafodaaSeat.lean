/- Facts about the seat that all its rows use: the words that it begins with, the types of arguments. -/
import Derived.Test.YtommbnkecafodaaRows
import Derived.Test.YtommbnkecafodaaPDefs
import Derived.WalkKit
import Derived.ProofKit
import Derived.OpenShut
import Derived.ChangeOld
import Derived.Below
set_option linter.unusedVariables false
set_option autoImplicit false
namespace Go.Proofs.Ytommbnkecafodaa
open Go Go.Gv Go.ChangeShapes Go.WideShapes Go.ChangeAt Go.RowKit
set_option maxRecDepth 100000
def codes : List Nat := [104,97,114,110,101,115,115,32,99,55,50,99,100,54,97,51,97,55,49,101,102,48,100,52,49,54,101,100,50,52,101,55,50,48,100,102,51,49,50,52,53,51,56,49,53,53,97,56,56,52,48,56,53,100,57,56,101,100,51,101,51,57,55,51,99,99,52,48,48,102,48,51,32,99,117,116,32,97,116,32,108,111,111,112,46,101,120,97,109,112,108,101,47,103,48,48,57,48,56,47,108,97,119,115,46,70,110,69,120,97,99,116,67,111,117,110,116,70,108,111,119,115,32,108,111,111,112,46,101,120,97,109,112,108,101,47,103,48,48,57,48,56,47,108,97,119,115,46,70,110,69,120,97,99,116,67,111,117,110,116,70,105,116,115,32,108,111,111,112,46,101,120,97,109,112,108,101,47,103,48,48,57,48,56,47,108,97,119,115,46,70,110,69,120,97,99,116,67,111,117,110,116,82,111,117,110,100,105,110,103,115,32,108,111,111,112,46,101,120,97,109,112,108,101,47,103,48,48,57,48,56,47,108,97,119,115,46,70,110,70,108,111,119,67,111,117,110,116,115]
def wds : List (List Nat) := [[104,97,114,110,101,115,115],[99,55,50,99,100,54,97,51,97,55,49,101,102,48,100,52,49,54,101,100,50,52,101,55,50,48,100,102,51,49,50,52,53,51,56,49,53,53,97,56,56,52,48,56,53,100,57,56,101,100,51,101,51,57,55,51,99,99,52,48,48,102,48,51],[99,117,116],[97,116],[108,111,111,112,46,101,120,97,109,112,108,101,47,103,48,48,57,48,56,47,108,97,119,115,46,70,110,69,120,97,99,116,67,111,117,110,116,70,108,111,119,115],[108,111,111,112,46,101,120,97,109,112,108,101,47,103,48,48,57,48,56,47,108,97,119,115,46,70,110,69,120,97,99,116,67,111,117,110,116,70,105,116,115],[108,111,111,112,46,101,120,97,109,112,108,101,47,103,48,48,57,48,56,47,108,97,119,115,46,70,110,69,120,97,99,116,67,111,117,110,116,82,111,117,110,100,105,110,103,115],[108,111,111,112,46,101,120,97,109,112,108,101,47,103,48,48,57,48,56,47,108,97,119,115,46,70,110,70,108,111,119,67,111,117,110,116,115]]
theorem io : Try.prog.initOrder = String.ofList (codes.map Char.ofNat) := by kernel_rfl
theorem iol : Try.prog.initOrder.toList = codes.map Char.ofNat := by rw [io, String.toList_ofList]
theorem ws : wordsSigns (codes.map Char.ofNat) = wds.map (·.map Char.ofNat) := by kernel_rfl
theorem bm : behindMainWord (wds.map (·.map Char.ofNat)) = (wds.drop 2).map (·.map Char.ofNat) := by kernel_rfl
abbrev tl : List (List Char) := (wds.drop 3).map (·.map Char.ofNat)
theorem hd : behindMainWord (wordsSigns Try.prog.initOrder.toList) = "cut".toList :: tl := (congrArg (fun l => behindMainWord (wordsSigns l)) iol).trans ((congrArg behindMainWord ws).trans (bm.trans (by kernel_rfl)))
theorem make_cut {P : Program} {rest : List (List Char)} (h : behindMainWord (wordsSigns P.initOrder.toList) = "cut".toList :: rest) : P.make = some .cut := by
  unfold Program.make; rw [h]; rfl
theorem headLifts_cut {P : Program} {rest : List (List Char)} (h : behindMainWord (wordsSigns P.initOrder.toList) = "cut".toList :: rest) (hl : stripLifts liftWords ("cut".toList :: rest) = ([], "cut".toList :: rest)) : P.headLifts = [] := by
  unfold Program.headLifts; rw [h]; simp only []; rw [hl]; rfl
theorem liftsFinal_cut {P : Program} {rest : List (List Char)} (h : behindMainWord (wordsSigns P.initOrder.toList) = "cut".toList :: rest) (hh : P.headLifts = []) : P.liftsFinal = false := by
  unfold Program.liftsFinal; rw [hh]; simp only []; rw [h]; rfl
theorem mayEnter_cut {P : Program} {rest : List (List Char)} (h : behindMainWord (wordsSigns P.initOrder.toList) = "cut".toList :: rest)
  (hl : stripLifts liftWords ("cut".toList :: rest) = ([], "cut".toList :: rest)) (h1 : P.laysLater = false) (h2 : P.bearsReflect = false) (h3 : P.doorFits [] = true) : P.mayEnter = true := by
  unfold Program.mayEnter; rw [h]; simp only []; rw [hl, h1, h2, h3]; rfl
theorem x1 : Try.prog.laysLater = false := by kernel_rfl
theorem x2 : Try.prog.bearsReflect = false := by kernel_rfl
theorem x3 : Try.prog.doorFits [] = true := by kernel_rfl
theorem x4 : stripLifts liftWords ("cut".toList :: tl) = ([], "cut".toList :: tl) := by kernel_rfl
theorem c1 : Try.prog.mayEnter = true := mayEnter_cut hd x4 x1 x2 x3
theorem c2 : Try.prog.make = some .cut := make_cut hd
theorem c3 : Try.prog.liftsFinal = false := liftsFinal_cut hd (headLifts_cut hd x4)
theorem own : ownKnob Try.prog.godebug = none := by kernel_rfl
theorem laidOut : laidOutB Try.prog = true := by kernel_rfl
theorem grown_fix {P : Program} {s : List TypeId} (h : P.grow s = s) : ∀ n, P.grown n s = s
  | 0 => rfl
  | n + 1 => by show P.grown n (P.grow s) = s; rw [h]; exact grown_fix h n
theorem grown_more {P : Program} {s s' : List TypeId} (h : P.grow s = s') (n : Nat) : P.grown (n + 1) s = P.grown n s' := by show P.grown n (P.grow s) = _; rw [h]
theorem veiledOwn_of {P : Program} {t : TypeId} (h : P.veiledRec t = false) : P.veiledOwn t = true := by unfold Program.veiledOwn; rw [h]; rfl
theorem nty : Try.prog.types.size = 122 := by kernel_rfl
theorem g39 : Try.prog.book 39 = [39, 5] := by
  unfold Program.book; rw [nty]
  rw [grown_more (s := [39]) (s' := [39, 5]) (by kernel_rfl) 121]
  exact grown_fix (by kernel_rfl) _
theorem p39 : Try.prog.partsOf 39 = [5] := by kernel_rfl
theorem v39 : Try.prog.veiledOwn 39 = true := veiledOwn_of (by unfold Program.veiledRec; rw [g39]; kernel_rfl)
theorem rr39 : Try.prog.readableRec 39 = true := by unfold Program.readableRec; rw [g39]; kernel_rfl
theorem hr39 : 39 < Try.prog.types.size := by rw [nty]; decide
theorem g4 : Try.prog.book 4 = [4] := by
  unfold Program.book; rw [nty]
  exact grown_fix (by kernel_rfl) _
theorem p4 : Try.prog.partsOf 4 = [] := by kernel_rfl
theorem v4 : Try.prog.veiledOwn 4 = true := veiledOwn_of (by unfold Program.veiledRec; rw [g4]; kernel_rfl)
theorem rr4 : Try.prog.readableRec 4 = true := by unfold Program.readableRec; rw [g4]; kernel_rfl
theorem hr4 : 4 < Try.prog.types.size := by rw [nty]; decide
theorem g5 : Try.prog.book 5 = [5] := by
  unfold Program.book; rw [nty]
  exact grown_fix (by kernel_rfl) _
theorem p5 : Try.prog.partsOf 5 = [] := by kernel_rfl
theorem v5 : Try.prog.veiledOwn 5 = true := veiledOwn_of (by unfold Program.veiledRec; rw [g5]; kernel_rfl)
theorem rr5 : Try.prog.readableRec 5 = true := by unfold Program.readableRec; rw [g5]; kernel_rfl
theorem hr5 : 5 < Try.prog.types.size := by rw [nty]; decide
theorem opn5 : OpnT Try.prog 5 B8 := opn_u8 Try.underlying5 (by kernel_rfl)
theorem opn39 : OpnT Try.prog 39 (List B8) := opn_slice Try.underlying39 (by kernel_rfl) opn5 (by decide)
theorem opn4 : OpnT Try.prog 4 Bool := opn_bool Try.underlying4 (by kernel_rfl)
end Go.Proofs.Ytommbnkecafodaa
