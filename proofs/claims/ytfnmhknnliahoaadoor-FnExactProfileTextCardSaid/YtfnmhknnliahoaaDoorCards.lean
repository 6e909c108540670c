/-
  DERIVED. GIVEN WITH THE SEED: THE CARDS: each row of YtfnmhknnliahoaaDoorRows.lean that lists a variable, with what it lists TIED to the program's text (the seventh form; the later family's looks); each row that meets fmt, with fmt's text TOLD by the authors' own Lean function (tested against real Go, not proved from fmt's source: count such statements apart). THE CARD IS WHAT COUNTS. Prove the row's statement (the work); the ties are given (YtfnmhknnliahoaaDoorTie.lean); close each card by the builder's one call (the guide's Derived/Test/ToyasCard.lean, 'card_holds'). Laid BY PROGRAM, IN A SANDBOX (cutbox-door.mjs). By AI agents, Wed Nov 11 2026. No macro, syntax, notation, axiom, sorry.
-/
import Derived.Test.YtfnmhknnliahoaaDoorRows
import GoSem.ClaimSeven
namespace Go.Proofs.YtfnmhknnliahoaaDoor
namespace Rows

/-- THE TIED CARD OF 'laws.FnExactMapText'. -/
def fnExactMapTextCard : Claim7 := { stood := { row := fnExactMapTextRow, standIns := [], harness := (true, "c50bb2bb9ba751fd97b701af393ce7222fcc9d9106ad3a870b9db3c041b3824a"), looks := false }, kinds := [], alts := [], laidByText := true, laidKinds := [.data, .data, .data], laidTests := true, laidLooks := .later }
def FnExactMapTextCardSaid : Prop := Claim7.holds Tryd.pinned (.plain (OpenSpec.ofChange fnExactMapTextSpec)) fnExactMapTextCard

/-- THE TIED CARD OF 'laws.FnExactProfileText'. -/
def fnExactProfileTextCard : Claim7 := { stood := { row := fnExactProfileTextRow, standIns := [], harness := (true, "c50bb2bb9ba751fd97b701af393ce7222fcc9d9106ad3a870b9db3c041b3824a"), looks := false }, kinds := [], alts := [], laidByText := true, laidKinds := [.data, .data, .data], laidTests := true, laidLooks := .later }
def FnExactProfileTextCardSaid : Prop := Claim7.holds Tryd.pinned (.plain (OpenSpec.ofChange fnExactProfileTextSpec)) fnExactProfileTextCard

/-- THE SECOND FORM's CARD OF 'laws.FnExactMapText'. -/
def fnExactMapTextUptoCard : Claim7 := { stood := { row := fnExactMapTextUptoRow, standIns := [], harness := (true, "c50bb2bb9ba751fd97b701af393ce7222fcc9d9106ad3a870b9db3c041b3824a"), looks := false }, kinds := [], alts := [], laidByText := true, laidKinds := [.data, .data, .data], laidTests := true, laidLooks := .later }
def FnExactMapTextUptoCardSaid : Prop := Claim7.holds Tryd.pinned (.plain (OpenSpec.upto fnExactMapTextSpec)) fnExactMapTextUptoCard

/-- THE SECOND FORM's CARD OF 'laws.FnExactProfileText'. -/
def fnExactProfileTextUptoCard : Claim7 := { stood := { row := fnExactProfileTextUptoRow, standIns := [], harness := (true, "c50bb2bb9ba751fd97b701af393ce7222fcc9d9106ad3a870b9db3c041b3824a"), looks := false }, kinds := [], alts := [], laidByText := true, laidKinds := [.data, .data, .data], laidTests := true, laidLooks := .later }
def FnExactProfileTextUptoCardSaid : Prop := Claim7.holds Tryd.pinned (.plain (OpenSpec.upto fnExactProfileTextSpec)) fnExactProfileTextUptoCard
end Rows
end Go.Proofs.YtfnmhknnliahoaaDoor
