/-
  DERIVED. GIVEN WITH THE SEED: THE CARDS: each row of YtfnmhknnliahoaaGreatDoorRows.lean that lists a variable, with what it lists TIED to the program's text (the seventh form; the later family's looks); each row that meets fmt, with fmt's text TOLD by the authors' own Lean function (tested against real Go, not proved from fmt's source: count such statements apart). THE CARD IS WHAT COUNTS. Prove the row's statement (the work); the ties are given (YtfnmhknnliahoaaGreatDoorTie.lean); close each card by the builder's one call (the guide's Derived/Test/ToyasCard.lean, 'card_holds'). Laid BY PROGRAM, IN A SANDBOX (cutbox-door.mjs). By AI agents, Wed Nov 11 2026. No macro, syntax, notation, axiom, sorry.
-/
import Derived.Test.YtfnmhknnliahoaaGreatDoorRows
import GoSem.ClaimSeven
namespace Go.Proofs.YtfnmhknnliahoaaGreatDoor
namespace Rows

/-- THE TIED CARD OF 'laws.FnClassTexts'. -/
def fnClassTextsCard : Claim7 := { stood := { row := fnClassTextsRow, standIns := [], harness := (true, "1ee795813b9cb1706cbe447102390b691aad9b1b2f357eb072573df8042afcdf"), looks := false }, kinds := [], alts := [], laidByText := true, laidKinds := [.data, .data, .data], laidTests := true, laidLooks := .later }
def FnClassTextsCardSaid : Prop := Claim7.holds Tryz.pinned (.plain (OpenSpec.ofChange fnClassTextsSpec)) fnClassTextsCard

/-- THE SECOND FORM's CARD OF 'laws.FnClassTexts'. -/
def fnClassTextsUptoCard : Claim7 := { stood := { row := fnClassTextsUptoRow, standIns := [], harness := (true, "1ee795813b9cb1706cbe447102390b691aad9b1b2f357eb072573df8042afcdf"), looks := false }, kinds := [], alts := [], laidByText := true, laidKinds := [.data, .data, .data], laidTests := true, laidLooks := .later }
def FnClassTextsUptoCardSaid : Prop := Claim7.holds Tryz.pinned (.plain (OpenSpec.upto fnClassTextsSpec)) fnClassTextsUptoCard
end Rows
end Go.Proofs.YtfnmhknnliahoaaGreatDoor
