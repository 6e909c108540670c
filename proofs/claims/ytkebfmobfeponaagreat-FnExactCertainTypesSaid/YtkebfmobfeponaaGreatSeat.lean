/- Facts about the seat that all its rows use: the words that it begins with, the types of arguments. -/
import Derived.Test.YtkebfmobfeponaaGreatRows
import Derived.Test.YtkebfmobfeponaaGreatCDefs
import Derived.WalkKit
import Derived.ProofKit
import Derived.OpenShut
import Derived.ChangeOld
import Derived.Below
set_option linter.unusedVariables false
set_option autoImplicit false
namespace Go.Proofs.YtkebfmobfeponaaGreat
open Go Go.Gv Go.ChangeShapes Go.WideShapes Go.ChangeAt Go.RowKit
set_option maxRecDepth 100000
def codes : List Nat := [104,97,114,110,101,115,115,32,52,49,56,50,100,53,56,52,54,97,101,101,53,101,48,99,56,98,101,98,54,97,98,50,102,56,52,53,49,57,54,57,52,56,99,102,101,102,49,102,55,53,57,102,55,51,51,54,102,51,97,49,98,99,54,100,102,48,52,99,97,53,49,102,32,99,117,116,32,97,116,32,108,111,111,112,46,101,120,97,109,112,108,101,47,103,48,48,57,48,56,47,108,97,119,115,46,70,110,69,120,97,99,116,70,105,114,115,116,83,117,114,118,101,121,32,108,111,111,112,46,101,120,97,109,112,108,101,47,103,48,48,57,48,56,47,108,97,119,115,46,70,110,69,120,97,99,116,84,121,112,101,82,97,110,103,101,115,32,108,111,111,112,46,101,120,97,109,112,108,101,47,103,48,48,57,48,56,47,108,97,119,115,46,70,110,69,120,97,99,116,67,101,114,116,97,105,110,84,121,112,101,115,32,108,111,111,112,46,101,120,97,109,112,108,101,47,103,48,48,57,48,56,47,108,97,119,115,46,70,110,65,116,116,97,99,107,115,32,108,111,111,112,46,101,120,97,109,112,108,101,47,103,48,48,57,48,56,47,108,97,119,115,46,70,110,65,110,115,119,101,114,115,32,108,111,111,112,46,101,120,97,109,112,108,101,47,103,48,48,57,48,56,47,108,97,119,115,46,70,110,82,101,108,101,97,115,101,115]
def wds : List (List Nat) := [[104,97,114,110,101,115,115],[52,49,56,50,100,53,56,52,54,97,101,101,53,101,48,99,56,98,101,98,54,97,98,50,102,56,52,53,49,57,54,57,52,56,99,102,101,102,49,102,55,53,57,102,55,51,51,54,102,51,97,49,98,99,54,100,102,48,52,99,97,53,49,102],[99,117,116],[97,116],[108,111,111,112,46,101,120,97,109,112,108,101,47,103,48,48,57,48,56,47,108,97,119,115,46,70,110,69,120,97,99,116,70,105,114,115,116,83,117,114,118,101,121],[108,111,111,112,46,101,120,97,109,112,108,101,47,103,48,48,57,48,56,47,108,97,119,115,46,70,110,69,120,97,99,116,84,121,112,101,82,97,110,103,101,115],[108,111,111,112,46,101,120,97,109,112,108,101,47,103,48,48,57,48,56,47,108,97,119,115,46,70,110,69,120,97,99,116,67,101,114,116,97,105,110,84,121,112,101,115],[108,111,111,112,46,101,120,97,109,112,108,101,47,103,48,48,57,48,56,47,108,97,119,115,46,70,110,65,116,116,97,99,107,115],[108,111,111,112,46,101,120,97,109,112,108,101,47,103,48,48,57,48,56,47,108,97,119,115,46,70,110,65,110,115,119,101,114,115],[108,111,111,112,46,101,120,97,109,112,108,101,47,103,48,48,57,48,56,47,108,97,119,115,46,70,110,82,101,108,101,97,115,101,115]]
theorem io : Tryz.prog.initOrder = String.ofList (codes.map Char.ofNat) := by kernel_rfl
theorem iol : Tryz.prog.initOrder.toList = codes.map Char.ofNat := by rw [io, String.toList_ofList]
theorem ws : wordsSigns (codes.map Char.ofNat) = wds.map (·.map Char.ofNat) := by kernel_rfl
theorem bm : behindMainWord (wds.map (·.map Char.ofNat)) = (wds.drop 2).map (·.map Char.ofNat) := by kernel_rfl
abbrev tl : List (List Char) := (wds.drop 3).map (·.map Char.ofNat)
theorem hd : behindMainWord (wordsSigns Tryz.prog.initOrder.toList) = "cut".toList :: tl := (congrArg (fun l => behindMainWord (wordsSigns l)) iol).trans ((congrArg behindMainWord ws).trans (bm.trans (by kernel_rfl)))
theorem make_cut {P : Program} {rest : List (List Char)} (h : behindMainWord (wordsSigns P.initOrder.toList) = "cut".toList :: rest) : P.make = some .cut := by
  unfold Program.make; rw [h]; rfl
theorem headLifts_cut {P : Program} {rest : List (List Char)} (h : behindMainWord (wordsSigns P.initOrder.toList) = "cut".toList :: rest) (hl : stripLifts liftWords ("cut".toList :: rest) = ([], "cut".toList :: rest)) : P.headLifts = [] := by
  unfold Program.headLifts; rw [h]; simp only []; rw [hl]; rfl
theorem liftsFinal_cut {P : Program} {rest : List (List Char)} (h : behindMainWord (wordsSigns P.initOrder.toList) = "cut".toList :: rest) (hh : P.headLifts = []) : P.liftsFinal = false := by
  unfold Program.liftsFinal; rw [hh]; simp only []; rw [h]; rfl
theorem mayEnter_cut {P : Program} {rest : List (List Char)} (h : behindMainWord (wordsSigns P.initOrder.toList) = "cut".toList :: rest)
  (hl : stripLifts liftWords ("cut".toList :: rest) = ([], "cut".toList :: rest)) (h1 : P.laysLater = false) (h2 : P.bearsReflect = false) (h3 : P.doorFits [] = true) : P.mayEnter = true := by
  unfold Program.mayEnter; rw [h]; simp only []; rw [hl, h1, h2, h3]; rfl
theorem x1 : Tryz.prog.laysLater = false := by kernel_rfl
theorem x2 : Tryz.prog.bearsReflect = false := by kernel_rfl
theorem x3 : Tryz.prog.doorFits [] = true := by kernel_rfl
theorem x4 : stripLifts liftWords ("cut".toList :: tl) = ([], "cut".toList :: tl) := by kernel_rfl
theorem c1 : Tryz.prog.mayEnter = true := mayEnter_cut hd x4 x1 x2 x3
theorem c2 : Tryz.prog.make = some .cut := make_cut hd
theorem c3 : Tryz.prog.liftsFinal = false := liftsFinal_cut hd (headLifts_cut hd x4)
theorem own : ownKnob Tryz.prog.godebug = none := by kernel_rfl
theorem laidOut : laidOutB Tryz.prog = true := by kernel_rfl
theorem grown_fix {P : Program} {s : List TypeId} (h : P.grow s = s) : ∀ n, P.grown n s = s
  | 0 => rfl
  | n + 1 => by show P.grown n (P.grow s) = s; rw [h]; exact grown_fix h n
theorem grown_more {P : Program} {s s' : List TypeId} (h : P.grow s = s') (n : Nat) : P.grown (n + 1) s = P.grown n s' := by show P.grown n (P.grow s) = _; rw [h]
theorem veiledOwn_of {P : Program} {t : TypeId} (h : P.veiledRec t = false) : P.veiledOwn t = true := by unfold Program.veiledOwn; rw [h]; rfl
theorem nty : Tryz.prog.types.size = 208 := by kernel_rfl
theorem g24 : Tryz.prog.book 24 = [24, 22, 3] := by
  unfold Program.book; rw [nty]
  rw [grown_more (s := [24]) (s' := [24, 22]) (by kernel_rfl) 207]
  rw [grown_more (s := [24, 22]) (s' := [24, 22, 3]) (by kernel_rfl) 206]
  exact grown_fix (by kernel_rfl) _
theorem p24 : Tryz.prog.partsOf 24 = [22] := by kernel_rfl
theorem v24 : Tryz.prog.veiledOwn 24 = true := veiledOwn_of (by unfold Program.veiledRec; rw [g24]; kernel_rfl)
theorem rr24 : Tryz.prog.readableRec 24 = true := by unfold Program.readableRec; rw [g24]; kernel_rfl
theorem hr24 : 24 < Tryz.prog.types.size := by rw [nty]; decide
theorem g25 : Tryz.prog.book 25 = [25, 89, 9, 3] := by
  unfold Program.book; rw [nty]
  rw [grown_more (s := [25]) (s' := [25, 89]) (by kernel_rfl) 207]
  rw [grown_more (s := [25, 89]) (s' := [25, 89, 9, 3]) (by kernel_rfl) 206]
  exact grown_fix (by kernel_rfl) _
theorem p25 : Tryz.prog.partsOf 25 = [89] := by kernel_rfl
theorem v25 : Tryz.prog.veiledOwn 25 = true := veiledOwn_of (by unfold Program.veiledRec; rw [g25]; kernel_rfl)
theorem rr25 : Tryz.prog.readableRec 25 = true := by unfold Program.readableRec; rw [g25]; kernel_rfl
theorem hr25 : 25 < Tryz.prog.types.size := by rw [nty]; decide
theorem g26 : Tryz.prog.book 26 = [26, 93, 91, 22, 3] := by
  unfold Program.book; rw [nty]
  rw [grown_more (s := [26]) (s' := [26, 93]) (by kernel_rfl) 207]
  rw [grown_more (s := [26, 93]) (s' := [26, 93, 91, 22]) (by kernel_rfl) 206]
  rw [grown_more (s := [26, 93, 91, 22]) (s' := [26, 93, 91, 22, 3]) (by kernel_rfl) 205]
  exact grown_fix (by kernel_rfl) _
theorem p26 : Tryz.prog.partsOf 26 = [93] := by kernel_rfl
theorem v26 : Tryz.prog.veiledOwn 26 = true := veiledOwn_of (by unfold Program.veiledRec; rw [g26]; kernel_rfl)
theorem rr26 : Tryz.prog.readableRec 26 = true := by unfold Program.readableRec; rw [g26]; kernel_rfl
theorem hr26 : 26 < Tryz.prog.types.size := by rw [nty]; decide
theorem g3 : Tryz.prog.book 3 = [3] := by
  unfold Program.book; rw [nty]
  exact grown_fix (by kernel_rfl) _
theorem p3 : Tryz.prog.partsOf 3 = [] := by kernel_rfl
theorem v3 : Tryz.prog.veiledOwn 3 = true := veiledOwn_of (by unfold Program.veiledRec; rw [g3]; kernel_rfl)
theorem rr3 : Tryz.prog.readableRec 3 = true := by unfold Program.readableRec; rw [g3]; kernel_rfl
theorem hr3 : 3 < Tryz.prog.types.size := by rw [nty]; decide
theorem g4 : Tryz.prog.book 4 = [4] := by
  unfold Program.book; rw [nty]
  exact grown_fix (by kernel_rfl) _
theorem p4 : Tryz.prog.partsOf 4 = [] := by kernel_rfl
theorem v4 : Tryz.prog.veiledOwn 4 = true := veiledOwn_of (by unfold Program.veiledRec; rw [g4]; kernel_rfl)
theorem rr4 : Tryz.prog.readableRec 4 = true := by unfold Program.readableRec; rw [g4]; kernel_rfl
theorem hr4 : 4 < Tryz.prog.types.size := by rw [nty]; decide
theorem g22 : Tryz.prog.book 22 = [22, 3] := by
  unfold Program.book; rw [nty]
  rw [grown_more (s := [22]) (s' := [22, 3]) (by kernel_rfl) 207]
  exact grown_fix (by kernel_rfl) _
theorem p22 : Tryz.prog.partsOf 22 = [3] := by kernel_rfl
theorem v22 : Tryz.prog.veiledOwn 22 = true := veiledOwn_of (by unfold Program.veiledRec; rw [g22]; kernel_rfl)
theorem rr22 : Tryz.prog.readableRec 22 = true := by unfold Program.readableRec; rw [g22]; kernel_rfl
theorem hr22 : 22 < Tryz.prog.types.size := by rw [nty]; decide
theorem g89 : Tryz.prog.book 89 = [89, 9, 3] := by
  unfold Program.book; rw [nty]
  rw [grown_more (s := [89]) (s' := [89, 9, 3]) (by kernel_rfl) 207]
  exact grown_fix (by kernel_rfl) _
theorem p89 : Tryz.prog.partsOf 89 = [9, 3] := by kernel_rfl
theorem v89 : Tryz.prog.veiledOwn 89 = true := veiledOwn_of (by unfold Program.veiledRec; rw [g89]; kernel_rfl)
theorem rr89 : Tryz.prog.readableRec 89 = true := by unfold Program.readableRec; rw [g89]; kernel_rfl
theorem hr89 : 89 < Tryz.prog.types.size := by rw [nty]; decide
theorem g9 : Tryz.prog.book 9 = [9] := by
  unfold Program.book; rw [nty]
  exact grown_fix (by kernel_rfl) _
theorem p9 : Tryz.prog.partsOf 9 = [] := by kernel_rfl
theorem v9 : Tryz.prog.veiledOwn 9 = true := veiledOwn_of (by unfold Program.veiledRec; rw [g9]; kernel_rfl)
theorem rr9 : Tryz.prog.readableRec 9 = true := by unfold Program.readableRec; rw [g9]; kernel_rfl
theorem hr9 : 9 < Tryz.prog.types.size := by rw [nty]; decide
theorem g93 : Tryz.prog.book 93 = [93, 91, 22, 3] := by
  unfold Program.book; rw [nty]
  rw [grown_more (s := [93]) (s' := [93, 91, 22]) (by kernel_rfl) 207]
  rw [grown_more (s := [93, 91, 22]) (s' := [93, 91, 22, 3]) (by kernel_rfl) 206]
  exact grown_fix (by kernel_rfl) _
theorem p93 : Tryz.prog.partsOf 93 = [91, 22] := by kernel_rfl
theorem v93 : Tryz.prog.veiledOwn 93 = true := veiledOwn_of (by unfold Program.veiledRec; rw [g93]; kernel_rfl)
theorem rr93 : Tryz.prog.readableRec 93 = true := by unfold Program.readableRec; rw [g93]; kernel_rfl
theorem hr93 : 93 < Tryz.prog.types.size := by rw [nty]; decide
theorem g91 : Tryz.prog.book 91 = [91, 3, 22] := by
  unfold Program.book; rw [nty]
  rw [grown_more (s := [91]) (s' := [91, 3, 22]) (by kernel_rfl) 207]
  exact grown_fix (by kernel_rfl) _
theorem p91 : Tryz.prog.partsOf 91 = [3, 22, 22, 3] := by kernel_rfl
theorem v91 : Tryz.prog.veiledOwn 91 = true := veiledOwn_of (by unfold Program.veiledRec; rw [g91]; kernel_rfl)
theorem rr91 : Tryz.prog.readableRec 91 = true := by unfold Program.readableRec; rw [g91]; kernel_rfl
theorem hr91 : 91 < Tryz.prog.types.size := by rw [nty]; decide
theorem opn3 : OpnT Tryz.prog 3 Int := opn_int Tryz.underlying3 (by kernel_rfl)
theorem opn22 : OpnT Tryz.prog 22 (List Int) := opn_slice Tryz.underlying22 (by kernel_rfl) opn3 (by decide)
theorem opn24 : OpnT Tryz.prog 24 Geo where
  sz := by kernel_rfl
  shape h := by obtain ⟨cs, rfl, _⟩ := okWide_struct Tryz.underlying24 h; rfl
  rd {H enc w base spare held fuel cs x} h := by
    obtain ⟨hl, hf⟩ := opn_fld Tryz.underlying24 h
    obtain ⟨y0, r0, w0⟩ := hf 0 _ rfl _ opn22
    have hc : Tryz.prog.cellsOf 24 = 1 := by kernel_rfl
    rw [hc] at hl
    match cs, hl with
    | [c0], _ =>
      exact ⟨⟨y0⟩, r0, w0⟩
theorem opn9 : OpnT Tryz.prog 9 ByteArray := opn_str Tryz.underlying9 (by kernel_rfl)
theorem opn89 : OpnT Tryz.prog 89 Variable where
  sz := by kernel_rfl
  shape h := by obtain ⟨cs, rfl, _⟩ := okWide_struct Tryz.underlying89 h; rfl
  rd {H enc w base spare held fuel cs x} h := by
    obtain ⟨hl, hf⟩ := opn_fld Tryz.underlying89 h
    obtain ⟨y0, r0, w0⟩ := hf 0 _ rfl _ opn9
    obtain ⟨y1, r1, w1⟩ := hf 1 _ rfl _ opn3
    have hc : Tryz.prog.cellsOf 89 = 2 := by kernel_rfl
    rw [hc] at hl
    match cs, hl with
    | [c0, c1], _ =>
      obtain rfl : c0 = _ := (List.cons.inj r0).1
      obtain rfl : c1 = _ := (List.cons.inj r1).1
      exact ⟨⟨y0, y1⟩, rfl, w0, w1⟩
theorem opn25 : OpnT Tryz.prog 25 (List Variable) := opn_slice Tryz.underlying25 (by kernel_rfl) opn89 (by decide)
theorem opn91 : OpnT Tryz.prog 91 Table where
  sz := by kernel_rfl
  shape h := by obtain ⟨cs, rfl, _⟩ := okWide_struct Tryz.underlying91 h; rfl
  rd {H enc w base spare held fuel cs x} h := by
    obtain ⟨hl, hf⟩ := opn_fld Tryz.underlying91 h
    obtain ⟨y0, r0, w0⟩ := hf 0 _ rfl _ opn3
    obtain ⟨y1, r1, w1⟩ := hf 1 _ rfl _ opn22
    obtain ⟨y2, r2, w2⟩ := hf 2 _ rfl _ opn22
    obtain ⟨y3, r3, w3⟩ := hf 3 _ rfl _ opn3
    have hc : Tryz.prog.cellsOf 91 = 4 := by kernel_rfl
    rw [hc] at hl
    match cs, hl with
    | [c0, c1, c2, c3], _ =>
      exact ⟨⟨y0, y1, y2, y3⟩, ⟨[c0], [c1, c2, c3], rfl, r0, ⟨[c1], [c2, c3], rfl, r1, ⟨[c2], [c3], rfl, r2, r3⟩⟩⟩, w0, w1, w2, w3⟩
theorem opn93 : OpnT Tryz.prog 93 Published where
  sz := by kernel_rfl
  shape h := by obtain ⟨cs, rfl, _⟩ := okWide_struct Tryz.underlying93 h; rfl
  rd {H enc w base spare held fuel cs x} h := by
    obtain ⟨hl, hf⟩ := opn_fld Tryz.underlying93 h
    obtain ⟨y0, r0, w0⟩ := hf 0 _ rfl _ opn91
    obtain ⟨y1, r1, w1⟩ := hf 1 _ rfl _ opn22
    have hc : Tryz.prog.cellsOf 93 = 5 := by kernel_rfl
    rw [hc] at hl
    match cs, hl with
    | [c0, c1, c2, c3, c4], _ =>
      exact ⟨⟨y0, y1⟩, ⟨[c0, c1, c2, c3], [c4], rfl, r0, r1⟩, w0, w1⟩
theorem opn26 : OpnT Tryz.prog 26 (List Published) := opn_slice Tryz.underlying26 (by kernel_rfl) opn93 (by decide)
theorem opn4 : OpnT Tryz.prog 4 Bool := opn_bool Tryz.underlying4 (by kernel_rfl)
end Go.Proofs.YtkebfmobfeponaaGreat
