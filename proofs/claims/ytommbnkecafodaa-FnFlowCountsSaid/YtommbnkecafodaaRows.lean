/-
  No cell of these rows narrows 'for every input' (looked for: loops, veiled, ifaces, maps, wideKeys, modest, calm, conditions, laid).
  DERIVED. THE GIVEN ROWS OF THIS SEAT. 4 by the template 'for every input the law returns true; each argument reads behind the call as it read before'; 0 by the template 'total and deterministic' (their statements: YtommbnkecafodaaTotals.lean).
  GIVEN WITH THE SEED: the statements are not yours to turn. If you find one false, say at which input.
  Laid BY PROGRAM, IN A SANDBOX (cutbox-rows.mjs): the forced cells as the released guide's own fill.sh prints them over the translation c09298e723bbf9cc… (all of the seat's roots in one cut). By AI agents, Wed Nov 11 2026. No macro, syntax, notation, axiom, sorry.
-/
import Derived.Test.YtommbnkecafodaaChecked
import GoSem.Claim
import GoSem.ClaimJoined
import GoSem.ClaimMapViews
import Derived.JoinedTies
import Derived.KernelRfl
namespace Go.Proofs.Ytommbnkecafodaa
/- THE CELL 'sum', in the pinned program and in every row, IS THE sha256 OF THE DUMP (.gsa) THAT YtommbnkecafodaaProg.lean LOADS. Nothing in Lean hashes anything: it is a label: what it is worth is what the hold of that sum in a sandbox is worth. -/
noncomputable def Try.pinned : Pinned := { name := "ytommbnkecafodaa", sum := "c09298e723bbf9cc7db3e52fd643bf1fedca92c1ebff7af7e67cdbc009b46a47", checked := Try.checked }
namespace Rows
def none {H : Type} : Left H := { results := [], args := [] }

/-- 'laws.FnExactCountFlows': WHATEVER THE INPUT: true; the input reads as it did. -/
def fnExactCountFlowsSpec : ChangeSpec := { name := "fnExactCountFlows", fn := fun _ => fun
  | [d] => { results := [.lit (.bool true)], args := [d] }
  | _ => none }
def fnExactCountFlowsRow : OpenClaim := { program := "ytommbnkecafodaa", sum := "c09298e723bbf9cc7db3e52fd643bf1fedca92c1ebff7af7e67cdbc009b46a47", func := "loop.example/g00908/laws.FnExactCountFlows", spec := "fnExactCountFlows", recurses := true, apart := false }
def FnExactCountFlowsSaid : Prop := fnExactCountFlowsRow.holds Try.pinned (OpenSpec.ofChange fnExactCountFlowsSpec)

/-- ITS FALSE NEIGHBOUR: 'it returns false'. Refute it at one input. -/
def fnExactCountFlowsWrong : ChangeSpec := { name := "fnExactCountFlows", fn := fun _ => fun
  | [d] => { results := [.lit (.bool false)], args := [d] }
  | _ => none }
def FnExactCountFlowsWrongFalsely : Prop := fnExactCountFlowsRow.holds Try.pinned (OpenSpec.ofChange fnExactCountFlowsWrong)

/-- 'laws.FnExactCountFits': WHATEVER THE INPUT: true; the input reads as it did. -/
def fnExactCountFitsSpec : ChangeSpec := { name := "fnExactCountFits", fn := fun _ => fun
  | [d1, d2] => { results := [.lit (.bool true)], args := [d1, d2] }
  | _ => none }
def fnExactCountFitsRow : OpenClaim := { program := "ytommbnkecafodaa", sum := "c09298e723bbf9cc7db3e52fd643bf1fedca92c1ebff7af7e67cdbc009b46a47", func := "loop.example/g00908/laws.FnExactCountFits", spec := "fnExactCountFits", recurses := true, apart := false }
def FnExactCountFitsSaid : Prop := fnExactCountFitsRow.holds Try.pinned (OpenSpec.ofChange fnExactCountFitsSpec)

/-- ITS FALSE NEIGHBOUR: 'it returns false'. Refute it at one input. -/
def fnExactCountFitsWrong : ChangeSpec := { name := "fnExactCountFits", fn := fun _ => fun
  | [d1, d2] => { results := [.lit (.bool false)], args := [d1, d2] }
  | _ => none }
def FnExactCountFitsWrongFalsely : Prop := fnExactCountFitsRow.holds Try.pinned (OpenSpec.ofChange fnExactCountFitsWrong)

/-- 'laws.FnExactCountRoundings': WHATEVER THE INPUT: true; the input reads as it did. -/
def fnExactCountRoundingsSpec : ChangeSpec := { name := "fnExactCountRoundings", fn := fun _ => fun
  | [d1, d2] => { results := [.lit (.bool true)], args := [d1, d2] }
  | _ => none }
def fnExactCountRoundingsRow : OpenClaim := { program := "ytommbnkecafodaa", sum := "c09298e723bbf9cc7db3e52fd643bf1fedca92c1ebff7af7e67cdbc009b46a47", func := "loop.example/g00908/laws.FnExactCountRoundings", spec := "fnExactCountRoundings", unfollowed := true, recurses := true, apart := false }
def FnExactCountRoundingsSaid : Prop := fnExactCountRoundingsRow.holds Try.pinned (OpenSpec.ofChange fnExactCountRoundingsSpec)

/-- ITS FALSE NEIGHBOUR: 'it returns false'. Refute it at one input. -/
def fnExactCountRoundingsWrong : ChangeSpec := { name := "fnExactCountRoundings", fn := fun _ => fun
  | [d1, d2] => { results := [.lit (.bool false)], args := [d1, d2] }
  | _ => none }
def FnExactCountRoundingsWrongFalsely : Prop := fnExactCountRoundingsRow.holds Try.pinned (OpenSpec.ofChange fnExactCountRoundingsWrong)

/-- 'laws.FnFlowCounts': WHATEVER THE INPUT: true; the input reads as it did. -/
def fnFlowCountsSpec : ChangeSpec := { name := "fnFlowCounts", fn := fun _ => fun
  | [d1, d2] => { results := [.lit (.bool true)], args := [d1, d2] }
  | _ => none }
def fnFlowCountsRow : OpenClaim := { program := "ytommbnkecafodaa", sum := "c09298e723bbf9cc7db3e52fd643bf1fedca92c1ebff7af7e67cdbc009b46a47", func := "loop.example/g00908/laws.FnFlowCounts", spec := "fnFlowCounts", unfollowed := true, recurses := true, apart := false }
def FnFlowCountsSaid : Prop := fnFlowCountsRow.holds Try.pinned (OpenSpec.ofChange fnFlowCountsSpec)

/-- ITS FALSE NEIGHBOUR: 'it returns false'. Refute it at one input. -/
def fnFlowCountsWrong : ChangeSpec := { name := "fnFlowCounts", fn := fun _ => fun
  | [d1, d2] => { results := [.lit (.bool false)], args := [d1, d2] }
  | _ => none }
def FnFlowCountsWrongFalsely : Prop := fnFlowCountsRow.holds Try.pinned (OpenSpec.ofChange fnFlowCountsWrong)

/- THE SECOND FORM. 'bulk': how many values and letters a reading holds, each counted each time it is reached (what is shared counts as often as it is met; a slice's spare places count too). A statement '..UptoSaid' is the law's where the arguments, and the package variables that the reading takes, are together of bulk at most 1048576: NARROWER than '..Said'. Prove '..Said' where nothing that the law and all that it calls make is longer than what came in: it says more and counts as full. Else prove '..UptoSaid'. A law counts once. -/
mutual
def uptoBulk {H : Type} : DataW H → Nat
  | .lit (.string bytes) => bytes.length + 1
  | .lit _ => 1
  | .nil => 1
  | .ptr d => uptoBulk d + 1
  | .slice elems spare => uptoBulkAll elems + uptoBulkAll spare + 1
  | .agg parts => uptoBulkAll parts + 1
  | .iface _ d => uptoBulk d + 1
  | .map entries => uptoBulkEntries entries + 1
  | .held _ => 1
def uptoBulkAll {H : Type} : List (DataW H) → Nat
  | [] => 0
  | d :: r => uptoBulk d + uptoBulkAll r
def uptoBulkEntries {H : Type} : List (Lit × DataW H) → Nat
  | [] => 0
  | x :: r => uptoBulkEntry x + uptoBulkEntries r
def uptoBulkEntry {H : Type} : Lit × DataW H → Nat
  | (.string bytes, d) => bytes.length + uptoBulk d + 1
  | (_, d) => uptoBulk d + 1
 end
def uptoSmall : (H : Type) → List (DataW H) → Bool := fun _ ds => decide (uptoBulkAll ds ≤ 1048576)
def OpenSpec.upto (s : _root_.Go.ChangeSpec) : _root_.Go.OpenSpec := { _root_.Go.OpenSpec.ofChange s with cond := some uptoSmall }

/-- 'laws.FnExactCountFlows', WHERE WHAT IT READS IS OF BULK AT MOST 1048576: true; the input reads as it did. -/
def fnExactCountFlowsUptoRow : OpenClaim := { program := "ytommbnkecafodaa", sum := "c09298e723bbf9cc7db3e52fd643bf1fedca92c1ebff7af7e67cdbc009b46a47", func := "loop.example/g00908/laws.FnExactCountFlows", spec := "fnExactCountFlows", recurses := true, apart := false, narrowed := true }
def FnExactCountFlowsUptoSaid : Prop := fnExactCountFlowsUptoRow.holds Try.pinned (OpenSpec.upto fnExactCountFlowsSpec)

/-- 'laws.FnExactCountFits', WHERE WHAT IT READS IS OF BULK AT MOST 1048576: true; the input reads as it did. -/
def fnExactCountFitsUptoRow : OpenClaim := { program := "ytommbnkecafodaa", sum := "c09298e723bbf9cc7db3e52fd643bf1fedca92c1ebff7af7e67cdbc009b46a47", func := "loop.example/g00908/laws.FnExactCountFits", spec := "fnExactCountFits", recurses := true, apart := false, narrowed := true }
def FnExactCountFitsUptoSaid : Prop := fnExactCountFitsUptoRow.holds Try.pinned (OpenSpec.upto fnExactCountFitsSpec)

/-- 'laws.FnExactCountRoundings', WHERE WHAT IT READS IS OF BULK AT MOST 1048576: true; the input reads as it did. -/
def fnExactCountRoundingsUptoRow : OpenClaim := { program := "ytommbnkecafodaa", sum := "c09298e723bbf9cc7db3e52fd643bf1fedca92c1ebff7af7e67cdbc009b46a47", func := "loop.example/g00908/laws.FnExactCountRoundings", spec := "fnExactCountRoundings", unfollowed := true, recurses := true, apart := false, narrowed := true }
def FnExactCountRoundingsUptoSaid : Prop := fnExactCountRoundingsUptoRow.holds Try.pinned (OpenSpec.upto fnExactCountRoundingsSpec)

/-- 'laws.FnFlowCounts', WHERE WHAT IT READS IS OF BULK AT MOST 1048576: true; the input reads as it did. -/
def fnFlowCountsUptoRow : OpenClaim := { program := "ytommbnkecafodaa", sum := "c09298e723bbf9cc7db3e52fd643bf1fedca92c1ebff7af7e67cdbc009b46a47", func := "loop.example/g00908/laws.FnFlowCounts", spec := "fnFlowCounts", unfollowed := true, recurses := true, apart := false, narrowed := true }
def FnFlowCountsUptoSaid : Prop := fnFlowCountsUptoRow.holds Try.pinned (OpenSpec.upto fnFlowCountsSpec)

end Rows
end Go.Proofs.Ytommbnkecafodaa
