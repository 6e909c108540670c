/- Facts about the seat that all its rows use: the words that it begins with, the types of arguments. -/
import Derived.Test.YtnladfcokocfnaaRows
import Derived.Test.YtnladfcokocfnaaTDefs
import Derived.WalkKit
import Derived.ProofKit
import Derived.OpenShut
import Derived.ChangeOld
import Derived.Below
set_option linter.unusedVariables false
set_option autoImplicit false
namespace Go.Proofs.Ytnladfcokocfnaa
open Go Go.Gv Go.ChangeShapes Go.WideShapes Go.ChangeAt Go.RowKit
set_option maxRecDepth 100000
def codes : List Nat := [104,97,114,110,101,115,115,32,53,56,51,97,54,52,53,99,57,101,49,99,57,53,97,48,52,99,56,56,52,98,97,54,57,55,53,99,51,97,57,49,99,48,49,54,49,100,53,102,48,56,50,100,100,56,57,52,99,56,99,51,53,97,50,97,52,101,50,54,51,49,100,54,32,99,117,116,32,97,116,32,108,111,111,112,46,101,120,97,109,112,108,101,47,103,48,48,57,48,56,47,108,97,119,115,46,70,110,69,120,97,99,116,83,105,116,101,67,101,108,108,115]
def wds : List (List Nat) := [[104,97,114,110,101,115,115],[53,56,51,97,54,52,53,99,57,101,49,99,57,53,97,48,52,99,56,56,52,98,97,54,57,55,53,99,51,97,57,49,99,48,49,54,49,100,53,102,48,56,50,100,100,56,57,52,99,56,99,51,53,97,50,97,52,101,50,54,51,49,100,54],[99,117,116],[97,116],[108,111,111,112,46,101,120,97,109,112,108,101,47,103,48,48,57,48,56,47,108,97,119,115,46,70,110,69,120,97,99,116,83,105,116,101,67,101,108,108,115]]
theorem io : Try.prog.initOrder = String.ofList (codes.map Char.ofNat) := by kernel_rfl
theorem iol : Try.prog.initOrder.toList = codes.map Char.ofNat := by rw [io, String.toList_ofList]
theorem ws : wordsSigns (codes.map Char.ofNat) = wds.map (·.map Char.ofNat) := by kernel_rfl
theorem bm : behindMainWord (wds.map (·.map Char.ofNat)) = (wds.drop 2).map (·.map Char.ofNat) := by kernel_rfl
abbrev tl : List (List Char) := (wds.drop 3).map (·.map Char.ofNat)
theorem hd : behindMainWord (wordsSigns Try.prog.initOrder.toList) = "cut".toList :: tl := (congrArg (fun l => behindMainWord (wordsSigns l)) iol).trans ((congrArg behindMainWord ws).trans (bm.trans (by kernel_rfl)))
theorem make_cut {P : Program} {rest : List (List Char)} (h : behindMainWord (wordsSigns P.initOrder.toList) = "cut".toList :: rest) : P.make = some .cut := by
  unfold Program.make; rw [h]; rfl
theorem headLifts_cut {P : Program} {rest : List (List Char)} (h : behindMainWord (wordsSigns P.initOrder.toList) = "cut".toList :: rest) (hl : stripLifts liftWords ("cut".toList :: rest) = ([], "cut".toList :: rest)) : P.headLifts = [] := by
  unfold Program.headLifts; rw [h]; simp only []; rw [hl]; rfl
theorem liftsFinal_cut {P : Program} {rest : List (List Char)} (h : behindMainWord (wordsSigns P.initOrder.toList) = "cut".toList :: rest) (hh : P.headLifts = []) : P.liftsFinal = false := by
  unfold Program.liftsFinal; rw [hh]; simp only []; rw [h]; rfl
theorem mayEnter_cut {P : Program} {rest : List (List Char)} (h : behindMainWord (wordsSigns P.initOrder.toList) = "cut".toList :: rest)
  (hl : stripLifts liftWords ("cut".toList :: rest) = ([], "cut".toList :: rest)) (h1 : P.laysLater = false) (h2 : P.bearsReflect = false) (h3 : P.doorFits [] = true) : P.mayEnter = true := by
  unfold Program.mayEnter; rw [h]; simp only []; rw [hl, h1, h2, h3]; rfl
theorem x1 : Try.prog.laysLater = false := by kernel_rfl
theorem x2 : Try.prog.bearsReflect = false := by kernel_rfl
theorem x3 : Try.prog.doorFits [] = true := by kernel_rfl
theorem x4 : stripLifts liftWords ("cut".toList :: tl) = ([], "cut".toList :: tl) := by kernel_rfl
theorem c1 : Try.prog.mayEnter = true := mayEnter_cut hd x4 x1 x2 x3
theorem c2 : Try.prog.make = some .cut := make_cut hd
theorem c3 : Try.prog.liftsFinal = false := liftsFinal_cut hd (headLifts_cut hd x4)
theorem own : ownKnob Try.prog.godebug = none := by kernel_rfl
theorem laidOut : laidOutB Try.prog = true := by kernel_rfl
theorem grown_fix {P : Program} {s : List TypeId} (h : P.grow s = s) : ∀ n, P.grown n s = s
  | 0 => rfl
  | n + 1 => by show P.grown n (P.grow s) = s; rw [h]; exact grown_fix h n
theorem grown_more {P : Program} {s s' : List TypeId} (h : P.grow s = s') (n : Nat) : P.grown (n + 1) s = P.grown n s' := by show P.grown n (P.grow s) = _; rw [h]
theorem veiledOwn_of {P : Program} {t : TypeId} (h : P.veiledRec t = false) : P.veiledOwn t = true := by unfold Program.veiledOwn; rw [h]; rfl
theorem nty : Try.prog.types.size = 130 := by kernel_rfl
theorem g24 : Try.prog.book 24 = [24, 22, 3] := by
  unfold Program.book; rw [nty]
  rw [grown_more (s := [24]) (s' := [24, 22]) (by kernel_rfl) 129]
  rw [grown_more (s := [24, 22]) (s' := [24, 22, 3]) (by kernel_rfl) 128]
  exact grown_fix (by kernel_rfl) _
theorem p24 : Try.prog.partsOf 24 = [22] := by kernel_rfl
theorem v24 : Try.prog.veiledOwn 24 = true := veiledOwn_of (by unfold Program.veiledRec; rw [g24]; kernel_rfl)
theorem rr24 : Try.prog.readableRec 24 = true := by unfold Program.readableRec; rw [g24]; kernel_rfl
theorem hr24 : 24 < Try.prog.types.size := by rw [nty]; decide
theorem g25 : Try.prog.book 25 = [25, 58, 9, 3] := by
  unfold Program.book; rw [nty]
  rw [grown_more (s := [25]) (s' := [25, 58]) (by kernel_rfl) 129]
  rw [grown_more (s := [25, 58]) (s' := [25, 58, 9, 3]) (by kernel_rfl) 128]
  exact grown_fix (by kernel_rfl) _
theorem p25 : Try.prog.partsOf 25 = [58] := by kernel_rfl
theorem v25 : Try.prog.veiledOwn 25 = true := veiledOwn_of (by unfold Program.veiledRec; rw [g25]; kernel_rfl)
theorem rr25 : Try.prog.readableRec 25 = true := by unfold Program.readableRec; rw [g25]; kernel_rfl
theorem hr25 : 25 < Try.prog.types.size := by rw [nty]; decide
theorem g27 : Try.prog.book 27 = [27, 3, 22] := by
  unfold Program.book; rw [nty]
  rw [grown_more (s := [27]) (s' := [27, 3, 22]) (by kernel_rfl) 129]
  exact grown_fix (by kernel_rfl) _
theorem p27 : Try.prog.partsOf 27 = [3, 22, 22, 3] := by kernel_rfl
theorem v27 : Try.prog.veiledOwn 27 = true := veiledOwn_of (by unfold Program.veiledRec; rw [g27]; kernel_rfl)
theorem rr27 : Try.prog.readableRec 27 = true := by unfold Program.readableRec; rw [g27]; kernel_rfl
theorem hr27 : 27 < Try.prog.types.size := by rw [nty]; decide
theorem g28 : Try.prog.book 28 = [28, 60, 75, 3, 22] := by
  unfold Program.book; rw [nty]
  rw [grown_more (s := [28]) (s' := [28, 60]) (by kernel_rfl) 129]
  rw [grown_more (s := [28, 60]) (s' := [28, 60, 75]) (by kernel_rfl) 128]
  rw [grown_more (s := [28, 60, 75]) (s' := [28, 60, 75, 3, 22]) (by kernel_rfl) 127]
  exact grown_fix (by kernel_rfl) _
theorem p28 : Try.prog.partsOf 28 = [60] := by kernel_rfl
theorem v28 : Try.prog.veiledOwn 28 = true := veiledOwn_of (by unfold Program.veiledRec; rw [g28]; kernel_rfl)
theorem rr28 : Try.prog.readableRec 28 = true := by unfold Program.readableRec; rw [g28]; kernel_rfl
theorem hr28 : 28 < Try.prog.types.size := by rw [nty]; decide
theorem g4 : Try.prog.book 4 = [4] := by
  unfold Program.book; rw [nty]
  exact grown_fix (by kernel_rfl) _
theorem p4 : Try.prog.partsOf 4 = [] := by kernel_rfl
theorem v4 : Try.prog.veiledOwn 4 = true := veiledOwn_of (by unfold Program.veiledRec; rw [g4]; kernel_rfl)
theorem rr4 : Try.prog.readableRec 4 = true := by unfold Program.readableRec; rw [g4]; kernel_rfl
theorem hr4 : 4 < Try.prog.types.size := by rw [nty]; decide
theorem g22 : Try.prog.book 22 = [22, 3] := by
  unfold Program.book; rw [nty]
  rw [grown_more (s := [22]) (s' := [22, 3]) (by kernel_rfl) 129]
  exact grown_fix (by kernel_rfl) _
theorem p22 : Try.prog.partsOf 22 = [3] := by kernel_rfl
theorem v22 : Try.prog.veiledOwn 22 = true := veiledOwn_of (by unfold Program.veiledRec; rw [g22]; kernel_rfl)
theorem rr22 : Try.prog.readableRec 22 = true := by unfold Program.readableRec; rw [g22]; kernel_rfl
theorem hr22 : 22 < Try.prog.types.size := by rw [nty]; decide
theorem g3 : Try.prog.book 3 = [3] := by
  unfold Program.book; rw [nty]
  exact grown_fix (by kernel_rfl) _
theorem p3 : Try.prog.partsOf 3 = [] := by kernel_rfl
theorem v3 : Try.prog.veiledOwn 3 = true := veiledOwn_of (by unfold Program.veiledRec; rw [g3]; kernel_rfl)
theorem rr3 : Try.prog.readableRec 3 = true := by unfold Program.readableRec; rw [g3]; kernel_rfl
theorem hr3 : 3 < Try.prog.types.size := by rw [nty]; decide
theorem g58 : Try.prog.book 58 = [58, 9, 3] := by
  unfold Program.book; rw [nty]
  rw [grown_more (s := [58]) (s' := [58, 9, 3]) (by kernel_rfl) 129]
  exact grown_fix (by kernel_rfl) _
theorem p58 : Try.prog.partsOf 58 = [9, 3] := by kernel_rfl
theorem v58 : Try.prog.veiledOwn 58 = true := veiledOwn_of (by unfold Program.veiledRec; rw [g58]; kernel_rfl)
theorem rr58 : Try.prog.readableRec 58 = true := by unfold Program.readableRec; rw [g58]; kernel_rfl
theorem hr58 : 58 < Try.prog.types.size := by rw [nty]; decide
theorem g9 : Try.prog.book 9 = [9] := by
  unfold Program.book; rw [nty]
  exact grown_fix (by kernel_rfl) _
theorem p9 : Try.prog.partsOf 9 = [] := by kernel_rfl
theorem v9 : Try.prog.veiledOwn 9 = true := veiledOwn_of (by unfold Program.veiledRec; rw [g9]; kernel_rfl)
theorem rr9 : Try.prog.readableRec 9 = true := by unfold Program.readableRec; rw [g9]; kernel_rfl
theorem hr9 : 9 < Try.prog.types.size := by rw [nty]; decide
theorem g60 : Try.prog.book 60 = [60, 75, 3, 22] := by
  unfold Program.book; rw [nty]
  rw [grown_more (s := [60]) (s' := [60, 75]) (by kernel_rfl) 129]
  rw [grown_more (s := [60, 75]) (s' := [60, 75, 3, 22]) (by kernel_rfl) 128]
  exact grown_fix (by kernel_rfl) _
theorem p60 : Try.prog.partsOf 60 = [75] := by kernel_rfl
theorem v60 : Try.prog.veiledOwn 60 = true := veiledOwn_of (by unfold Program.veiledRec; rw [g60]; kernel_rfl)
theorem rr60 : Try.prog.readableRec 60 = true := by unfold Program.readableRec; rw [g60]; kernel_rfl
theorem hr60 : 60 < Try.prog.types.size := by rw [nty]; decide
theorem g75 : Try.prog.book 75 = [75, 3, 22] := by
  unfold Program.book; rw [nty]
  rw [grown_more (s := [75]) (s' := [75, 3, 22]) (by kernel_rfl) 129]
  exact grown_fix (by kernel_rfl) _
theorem p75 : Try.prog.partsOf 75 = [3, 3, 22] := by kernel_rfl
theorem v75 : Try.prog.veiledOwn 75 = true := veiledOwn_of (by unfold Program.veiledRec; rw [g75]; kernel_rfl)
theorem rr75 : Try.prog.readableRec 75 = true := by unfold Program.readableRec; rw [g75]; kernel_rfl
theorem hr75 : 75 < Try.prog.types.size := by rw [nty]; decide
theorem opn3 : OpnT Try.prog 3 Int := opn_int Try.underlying3 (by kernel_rfl)
theorem opn22 : OpnT Try.prog 22 (List Int) := opn_slice Try.underlying22 (by kernel_rfl) opn3 (by decide)
theorem opn24 : OpnT Try.prog 24 Geo where
  sz := by kernel_rfl
  shape h := by obtain ⟨cs, rfl, _⟩ := okWide_struct Try.underlying24 h; rfl
  rd {H enc w base spare held fuel cs x} h := by
    obtain ⟨hl, hf⟩ := opn_fld Try.underlying24 h
    obtain ⟨y0, r0, w0⟩ := hf 0 _ rfl _ opn22
    have hc : Try.prog.cellsOf 24 = 1 := by kernel_rfl
    rw [hc] at hl
    match cs, hl with
    | [c0], _ =>
      exact ⟨⟨y0⟩, r0, w0⟩
theorem opn9 : OpnT Try.prog 9 ByteArray := opn_str Try.underlying9 (by kernel_rfl)
theorem opn58 : OpnT Try.prog 58 Variable where
  sz := by kernel_rfl
  shape h := by obtain ⟨cs, rfl, _⟩ := okWide_struct Try.underlying58 h; rfl
  rd {H enc w base spare held fuel cs x} h := by
    obtain ⟨hl, hf⟩ := opn_fld Try.underlying58 h
    obtain ⟨y0, r0, w0⟩ := hf 0 _ rfl _ opn9
    obtain ⟨y1, r1, w1⟩ := hf 1 _ rfl _ opn3
    have hc : Try.prog.cellsOf 58 = 2 := by kernel_rfl
    rw [hc] at hl
    match cs, hl with
    | [c0, c1], _ =>
      obtain rfl : c0 = _ := (List.cons.inj r0).1
      obtain rfl : c1 = _ := (List.cons.inj r1).1
      exact ⟨⟨y0, y1⟩, rfl, w0, w1⟩
theorem opn25 : OpnT Try.prog 25 (List Variable) := opn_slice Try.underlying25 (by kernel_rfl) opn58 (by decide)
theorem opn27 : OpnT Try.prog 27 Table where
  sz := by kernel_rfl
  shape h := by obtain ⟨cs, rfl, _⟩ := okWide_struct Try.underlying27 h; rfl
  rd {H enc w base spare held fuel cs x} h := by
    obtain ⟨hl, hf⟩ := opn_fld Try.underlying27 h
    obtain ⟨y0, r0, w0⟩ := hf 0 _ rfl _ opn3
    obtain ⟨y1, r1, w1⟩ := hf 1 _ rfl _ opn22
    obtain ⟨y2, r2, w2⟩ := hf 2 _ rfl _ opn22
    obtain ⟨y3, r3, w3⟩ := hf 3 _ rfl _ opn3
    have hc : Try.prog.cellsOf 27 = 4 := by kernel_rfl
    rw [hc] at hl
    match cs, hl with
    | [c0, c1, c2, c3], _ =>
      exact ⟨⟨y0, y1, y2, y3⟩, ⟨[c0], [c1, c2, c3], rfl, r0, ⟨[c1], [c2, c3], rfl, r1, ⟨[c2], [c3], rfl, r2, r3⟩⟩⟩, w0, w1, w2, w3⟩
theorem opn75 : OpnT Try.prog 75 Record where
  sz := by kernel_rfl
  shape h := by obtain ⟨cs, rfl, _⟩ := okWide_struct Try.underlying75 h; rfl
  rd {H enc w base spare held fuel cs x} h := by
    obtain ⟨hl, hf⟩ := opn_fld Try.underlying75 h
    obtain ⟨y0, r0, w0⟩ := hf 0 _ rfl _ opn3
    obtain ⟨y1, r1, w1⟩ := hf 1 _ rfl _ opn3
    obtain ⟨y2, r2, w2⟩ := hf 2 _ rfl _ opn22
    have hc : Try.prog.cellsOf 75 = 3 := by kernel_rfl
    rw [hc] at hl
    match cs, hl with
    | [c0, c1, c2], _ =>
      exact ⟨⟨y0, y1, y2⟩, ⟨[c0], [c1, c2], rfl, r0, ⟨[c1], [c2], rfl, r1, r2⟩⟩, w0, w1, w2⟩
theorem opn60 : OpnT Try.prog 60 (List Record) := opn_slice Try.underlying60 (by kernel_rfl) opn75 (by decide)
theorem opn28 : OpnT Try.prog 28 (List (List Record)) := opn_slice Try.underlying28 (by kernel_rfl) opn60 (by decide)
theorem opn4 : OpnT Try.prog 4 Bool := opn_bool Try.underlying4 (by kernel_rfl)
end Go.Proofs.Ytnladfcokocfnaa
