/-
  No cell of these rows narrows 'for every input' (looked for: loops, veiled, ifaces, maps, wideKeys, modest, calm, conditions, laid).
  DERIVED. THE GIVEN ROWS OF THIS SEAT. 3 by the template 'for every input the law returns true; each argument reads behind the call as it read before'; 0 by the template 'total and deterministic' (their statements: YtfkblhplgnbppaaGreatTotals.lean).
  GIVEN WITH THE SEED: the statements are not yours to turn. If you find one false, say at which input.
  Laid BY PROGRAM, IN A SANDBOX (cutbox-rows.mjs): the forced cells as the released guide's own fill.sh prints them over the translation cb49824a53490c8f… (all of the seat's roots in one cut). By AI agents, Wed Nov 11 2026. No macro, syntax, notation, axiom, sorry.
-/
import Derived.Test.YtfkblhplgnbppaaGreatChecked
import GoSem.Claim
import GoSem.ClaimJoined
import GoSem.ClaimMapViews
import Derived.JoinedTies
import Derived.KernelRfl
namespace Go.Proofs.YtfkblhplgnbppaaGreat
/- THE CELL 'sum', in the pinned program and in every row, IS THE sha256 OF THE DUMP (.gsa) THAT YtfkblhplgnbppaaGreatProg.lean LOADS. Nothing in Lean hashes anything: it is a label: what it is worth is what the hold of that sum in a sandbox is worth. -/
noncomputable def Tryz.pinned : Pinned := { name := "ytfkblhplgnbppaagreat", sum := "cb49824a53490c8f205d1d33cdbec2ad4d5841fc733a33d70c731e643042bb09", checked := Tryz.checked }
namespace Rows
def none {H : Type} : Left H := { results := [], args := [] }

/-- 'laws.FnExactNewServer': WHATEVER THE INPUT: true; the input reads as it did. -/
def fnExactNewServerSpec : ChangeSpec := { name := "fnExactNewServer", fn := fun _ => fun
  | [d1, d2, d3, d4, d5, d6, d7] => { results := [.lit (.bool true)], args := [d1, d2, d3, d4, d5, d6, d7] }
  | _ => none }
def fnExactNewServerRow : OpenClaim := { program := "ytfkblhplgnbppaagreat", sum := "cb49824a53490c8f205d1d33cdbec2ad4d5841fc733a33d70c731e643042bb09", func := "loop.example/g00908/laws.FnExactNewServer", spec := "fnExactNewServer", unfollowed := true, recurses := true, apart := false }
def FnExactNewServerSaid : Prop := fnExactNewServerRow.holds Tryz.pinned (OpenSpec.ofChange fnExactNewServerSpec)

/-- ITS FALSE NEIGHBOUR: 'it returns false'. Refute it at one input. -/
def fnExactNewServerWrong : ChangeSpec := { name := "fnExactNewServer", fn := fun _ => fun
  | [d1, d2, d3, d4, d5, d6, d7] => { results := [.lit (.bool false)], args := [d1, d2, d3, d4, d5, d6, d7] }
  | _ => none }
def FnExactNewServerWrongFalsely : Prop := fnExactNewServerRow.holds Tryz.pinned (OpenSpec.ofChange fnExactNewServerWrong)

/-- 'laws.FnExactAskTable': WHATEVER THE INPUT: true; the input reads as it did. -/
def fnExactAskTableSpec : ChangeSpec := { name := "fnExactAskTable", fn := fun _ => fun
  | [d1, d2] => { results := [.lit (.bool true)], args := [d1, d2] }
  | _ => none }
def fnExactAskTableRow : OpenClaim := { program := "ytfkblhplgnbppaagreat", sum := "cb49824a53490c8f205d1d33cdbec2ad4d5841fc733a33d70c731e643042bb09", func := "loop.example/g00908/laws.FnExactAskTable", spec := "fnExactAskTable", unfollowed := true, recurses := true, apart := false }
def FnExactAskTableSaid : Prop := fnExactAskTableRow.holds Tryz.pinned (OpenSpec.ofChange fnExactAskTableSpec)

/-- ITS FALSE NEIGHBOUR: 'it returns false'. Refute it at one input. -/
def fnExactAskTableWrong : ChangeSpec := { name := "fnExactAskTable", fn := fun _ => fun
  | [d1, d2] => { results := [.lit (.bool false)], args := [d1, d2] }
  | _ => none }
def FnExactAskTableWrongFalsely : Prop := fnExactAskTableRow.holds Tryz.pinned (OpenSpec.ofChange fnExactAskTableWrong)

/-- 'laws.FnExactAskAll': WHATEVER THE INPUT: true; the input reads as it did. -/
def fnExactAskAllSpec : ChangeSpec := { name := "fnExactAskAll", fn := fun _ => fun
  | [d1, d2] => { results := [.lit (.bool true)], args := [d1, d2] }
  | _ => none }
def fnExactAskAllRow : OpenClaim := { program := "ytfkblhplgnbppaagreat", sum := "cb49824a53490c8f205d1d33cdbec2ad4d5841fc733a33d70c731e643042bb09", func := "loop.example/g00908/laws.FnExactAskAll", spec := "fnExactAskAll", unfollowed := true, recurses := true, apart := false }
def FnExactAskAllSaid : Prop := fnExactAskAllRow.holds Tryz.pinned (OpenSpec.ofChange fnExactAskAllSpec)

/-- ITS FALSE NEIGHBOUR: 'it returns false'. Refute it at one input. -/
def fnExactAskAllWrong : ChangeSpec := { name := "fnExactAskAll", fn := fun _ => fun
  | [d1, d2] => { results := [.lit (.bool false)], args := [d1, d2] }
  | _ => none }
def FnExactAskAllWrongFalsely : Prop := fnExactAskAllRow.holds Tryz.pinned (OpenSpec.ofChange fnExactAskAllWrong)

/- THE SECOND FORM. 'bulk': how many values and letters a reading holds, each counted each time it is reached (what is shared counts as often as it is met; a slice's spare places count too). A statement '..UptoSaid' is the law's where the arguments, and the package variables that the reading takes, are together of bulk at most 1048576: NARROWER than '..Said'. Prove '..Said' where nothing that the law and all that it calls make is longer than what came in: it says more and counts as full. Else prove '..UptoSaid'. A law counts once. -/
mutual
def uptoBulk {H : Type} : DataW H → Nat
  | .lit (.string bytes) => bytes.length + 1
  | .lit _ => 1
  | .nil => 1
  | .ptr d => uptoBulk d + 1
  | .slice elems spare => uptoBulkAll elems + uptoBulkAll spare + 1
  | .agg parts => uptoBulkAll parts + 1
  | .iface _ d => uptoBulk d + 1
  | .map entries => uptoBulkEntries entries + 1
  | .held _ => 1
def uptoBulkAll {H : Type} : List (DataW H) → Nat
  | [] => 0
  | d :: r => uptoBulk d + uptoBulkAll r
def uptoBulkEntries {H : Type} : List (Lit × DataW H) → Nat
  | [] => 0
  | x :: r => uptoBulkEntry x + uptoBulkEntries r
def uptoBulkEntry {H : Type} : Lit × DataW H → Nat
  | (.string bytes, d) => bytes.length + uptoBulk d + 1
  | (_, d) => uptoBulk d + 1
 end
def uptoSmall : (H : Type) → List (DataW H) → Bool := fun _ ds => decide (uptoBulkAll ds ≤ 1048576)
def OpenSpec.upto (s : _root_.Go.ChangeSpec) : _root_.Go.OpenSpec := { _root_.Go.OpenSpec.ofChange s with cond := some uptoSmall }

/-- 'laws.FnExactNewServer', WHERE WHAT IT READS IS OF BULK AT MOST 1048576: true; the input reads as it did. -/
def fnExactNewServerUptoRow : OpenClaim := { program := "ytfkblhplgnbppaagreat", sum := "cb49824a53490c8f205d1d33cdbec2ad4d5841fc733a33d70c731e643042bb09", func := "loop.example/g00908/laws.FnExactNewServer", spec := "fnExactNewServer", unfollowed := true, recurses := true, apart := false, narrowed := true }
def FnExactNewServerUptoSaid : Prop := fnExactNewServerUptoRow.holds Tryz.pinned (OpenSpec.upto fnExactNewServerSpec)

/-- 'laws.FnExactAskTable', WHERE WHAT IT READS IS OF BULK AT MOST 1048576: true; the input reads as it did. -/
def fnExactAskTableUptoRow : OpenClaim := { program := "ytfkblhplgnbppaagreat", sum := "cb49824a53490c8f205d1d33cdbec2ad4d5841fc733a33d70c731e643042bb09", func := "loop.example/g00908/laws.FnExactAskTable", spec := "fnExactAskTable", unfollowed := true, recurses := true, apart := false, narrowed := true }
def FnExactAskTableUptoSaid : Prop := fnExactAskTableUptoRow.holds Tryz.pinned (OpenSpec.upto fnExactAskTableSpec)

/-- 'laws.FnExactAskAll', WHERE WHAT IT READS IS OF BULK AT MOST 1048576: true; the input reads as it did. -/
def fnExactAskAllUptoRow : OpenClaim := { program := "ytfkblhplgnbppaagreat", sum := "cb49824a53490c8f205d1d33cdbec2ad4d5841fc733a33d70c731e643042bb09", func := "loop.example/g00908/laws.FnExactAskAll", spec := "fnExactAskAll", unfollowed := true, recurses := true, apart := false, narrowed := true }
def FnExactAskAllUptoSaid : Prop := fnExactAskAllUptoRow.holds Tryz.pinned (OpenSpec.upto fnExactAskAllSpec)

end Rows
end Go.Proofs.YtfkblhplgnbppaaGreat
