/-
  No cell of these rows narrows 'for every input' (looked for: loops, veiled, ifaces, maps, wideKeys, modest, calm, conditions, laid).
  DERIVED. THE GIVEN ROWS OF THIS SEAT. 11 by the template 'for every input the law returns true; each argument reads behind the call as it read before'; 0 by the template 'total and deterministic' (their statements: YtdnpmgofkbjigaaTotals.lean).
  GIVEN WITH THE SEED: the statements are not yours to turn. If you find one false, say at which input.
  Laid BY PROGRAM, IN A SANDBOX (cutbox-rows.mjs): the forced cells as the released guide's own fill.sh prints them over the translation 423690aa845af306… (all of the seat's roots in one cut). By AI agents, Wed Nov 11 2026. No macro, syntax, notation, axiom, sorry.
-/
import Derived.Test.YtdnpmgofkbjigaaChecked
import GoSem.Claim
import GoSem.ClaimJoined
import GoSem.ClaimMapViews
import Derived.JoinedTies
import Derived.KernelRfl
namespace Go.Proofs.Ytdnpmgofkbjigaa
/- THE CELL 'sum', in the pinned program and in every row, IS THE sha256 OF THE DUMP (.gsa) THAT YtdnpmgofkbjigaaProg.lean LOADS. Nothing in Lean hashes anything: it is a label: what it is worth is what the hold of that sum in a sandbox is worth. -/
noncomputable def Try.pinned : Pinned := { name := "ytdnpmgofkbjigaa", sum := "423690aa845af30639a15f650d4a1bb3467aec5bba08778d2334398aaf8ffe43", checked := Try.checked }
namespace Rows
def none {H : Type} : Left H := { results := [], args := [] }

/-- 'laws.FnExactIsCover': WHATEVER THE INPUT: true; the input reads as it did. -/
def fnExactIsCoverSpec : ChangeSpec := { name := "fnExactIsCover", fn := fun _ => fun
  | [d1, d2, d3, d4] => { results := [.lit (.bool true)], args := [d1, d2, d3, d4] }
  | _ => none }
def fnExactIsCoverRow : OpenClaim := { program := "ytdnpmgofkbjigaa", sum := "423690aa845af30639a15f650d4a1bb3467aec5bba08778d2334398aaf8ffe43", func := "loop.example/g00908/laws.FnExactIsCover", spec := "fnExactIsCover", unfollowed := true, recurses := true, apart := false }
def FnExactIsCoverSaid : Prop := fnExactIsCoverRow.holds Try.pinned (OpenSpec.ofChange fnExactIsCoverSpec)

/-- ITS FALSE NEIGHBOUR: 'it returns false'. Refute it at one input. -/
def fnExactIsCoverWrong : ChangeSpec := { name := "fnExactIsCover", fn := fun _ => fun
  | [d1, d2, d3, d4] => { results := [.lit (.bool false)], args := [d1, d2, d3, d4] }
  | _ => none }
def FnExactIsCoverWrongFalsely : Prop := fnExactIsCoverRow.holds Try.pinned (OpenSpec.ofChange fnExactIsCoverWrong)

/-- 'laws.FnExactEliminateVariable': WHATEVER THE INPUT: true; the input reads as it did. -/
def fnExactEliminateVariableSpec : ChangeSpec := { name := "fnExactEliminateVariable", fn := fun _ => fun
  | [d1, d2, d3] => { results := [.lit (.bool true)], args := [d1, d2, d3] }
  | _ => none }
def fnExactEliminateVariableRow : OpenClaim := { program := "ytdnpmgofkbjigaa", sum := "423690aa845af30639a15f650d4a1bb3467aec5bba08778d2334398aaf8ffe43", func := "loop.example/g00908/laws.FnExactEliminateVariable", spec := "fnExactEliminateVariable", unfollowed := true, recurses := true, apart := false }
def FnExactEliminateVariableSaid : Prop := fnExactEliminateVariableRow.holds Try.pinned (OpenSpec.ofChange fnExactEliminateVariableSpec)

/-- ITS FALSE NEIGHBOUR: 'it returns false'. Refute it at one input. -/
def fnExactEliminateVariableWrong : ChangeSpec := { name := "fnExactEliminateVariable", fn := fun _ => fun
  | [d1, d2, d3] => { results := [.lit (.bool false)], args := [d1, d2, d3] }
  | _ => none }
def FnExactEliminateVariableWrongFalsely : Prop := fnExactEliminateVariableRow.holds Try.pinned (OpenSpec.ofChange fnExactEliminateVariableWrong)

/-- 'laws.FnExactMaximalEdits': WHATEVER THE INPUT: true; the input reads as it did. -/
def fnExactMaximalEditsSpec : ChangeSpec := { name := "fnExactMaximalEdits", fn := fun _ => fun
  | [d1, d2] => { results := [.lit (.bool true)], args := [d1, d2] }
  | _ => none }
def fnExactMaximalEditsRow : OpenClaim := { program := "ytdnpmgofkbjigaa", sum := "423690aa845af30639a15f650d4a1bb3467aec5bba08778d2334398aaf8ffe43", func := "loop.example/g00908/laws.FnExactMaximalEdits", spec := "fnExactMaximalEdits", unfollowed := true, recurses := true, apart := false }
def FnExactMaximalEditsSaid : Prop := fnExactMaximalEditsRow.holds Try.pinned (OpenSpec.ofChange fnExactMaximalEditsSpec)

/-- ITS FALSE NEIGHBOUR: 'it returns false'. Refute it at one input. -/
def fnExactMaximalEditsWrong : ChangeSpec := { name := "fnExactMaximalEdits", fn := fun _ => fun
  | [d1, d2] => { results := [.lit (.bool false)], args := [d1, d2] }
  | _ => none }
def FnExactMaximalEditsWrongFalsely : Prop := fnExactMaximalEditsRow.holds Try.pinned (OpenSpec.ofChange fnExactMaximalEditsWrong)

/-- 'laws.FnImplied': WHATEVER THE INPUT: true; the input reads as it did. -/
def fnImpliedSpec : ChangeSpec := { name := "fnImplied", fn := fun _ => fun
  | [d1, d2] => { results := [.lit (.bool true)], args := [d1, d2] }
  | _ => none }
def fnImpliedRow : OpenClaim := { program := "ytdnpmgofkbjigaa", sum := "423690aa845af30639a15f650d4a1bb3467aec5bba08778d2334398aaf8ffe43", func := "loop.example/g00908/laws.FnImplied", spec := "fnImplied", unfollowed := true, recurses := true, apart := false }
def FnImpliedSaid : Prop := fnImpliedRow.holds Try.pinned (OpenSpec.ofChange fnImpliedSpec)

/-- ITS FALSE NEIGHBOUR: 'it returns false'. Refute it at one input. -/
def fnImpliedWrong : ChangeSpec := { name := "fnImplied", fn := fun _ => fun
  | [d1, d2] => { results := [.lit (.bool false)], args := [d1, d2] }
  | _ => none }
def FnImpliedWrongFalsely : Prop := fnImpliedRow.holds Try.pinned (OpenSpec.ofChange fnImpliedWrong)

/-- 'laws.FnExactEqualBreaks': WHATEVER THE INPUT: true; the input reads as it did. -/
def fnExactEqualBreaksSpec : ChangeSpec := { name := "fnExactEqualBreaks", fn := fun _ => fun
  | [d1, d2] => { results := [.lit (.bool true)], args := [d1, d2] }
  | _ => none }
def fnExactEqualBreaksRow : OpenClaim := { program := "ytdnpmgofkbjigaa", sum := "423690aa845af30639a15f650d4a1bb3467aec5bba08778d2334398aaf8ffe43", func := "loop.example/g00908/laws.FnExactEqualBreaks", spec := "fnExactEqualBreaks", unfollowed := true, recurses := true, apart := false }
def FnExactEqualBreaksSaid : Prop := fnExactEqualBreaksRow.holds Try.pinned (OpenSpec.ofChange fnExactEqualBreaksSpec)

/-- ITS FALSE NEIGHBOUR: 'it returns false'. Refute it at one input. -/
def fnExactEqualBreaksWrong : ChangeSpec := { name := "fnExactEqualBreaks", fn := fun _ => fun
  | [d1, d2] => { results := [.lit (.bool false)], args := [d1, d2] }
  | _ => none }
def FnExactEqualBreaksWrongFalsely : Prop := fnExactEqualBreaksRow.holds Try.pinned (OpenSpec.ofChange fnExactEqualBreaksWrong)

/-- 'laws.FnExactCountFlows': WHATEVER THE INPUT: true; the input reads as it did. -/
def fnExactCountFlowsSpec : ChangeSpec := { name := "fnExactCountFlows", fn := fun _ => fun
  | [d] => { results := [.lit (.bool true)], args := [d] }
  | _ => none }
def fnExactCountFlowsRow : OpenClaim := { program := "ytdnpmgofkbjigaa", sum := "423690aa845af30639a15f650d4a1bb3467aec5bba08778d2334398aaf8ffe43", func := "loop.example/g00908/laws.FnExactCountFlows", spec := "fnExactCountFlows", recurses := true, apart := false }
def FnExactCountFlowsSaid : Prop := fnExactCountFlowsRow.holds Try.pinned (OpenSpec.ofChange fnExactCountFlowsSpec)

/-- ITS FALSE NEIGHBOUR: 'it returns false'. Refute it at one input. -/
def fnExactCountFlowsWrong : ChangeSpec := { name := "fnExactCountFlows", fn := fun _ => fun
  | [d] => { results := [.lit (.bool false)], args := [d] }
  | _ => none }
def FnExactCountFlowsWrongFalsely : Prop := fnExactCountFlowsRow.holds Try.pinned (OpenSpec.ofChange fnExactCountFlowsWrong)

/-- 'laws.FnExactCountFits': WHATEVER THE INPUT: true; the input reads as it did. -/
def fnExactCountFitsSpec : ChangeSpec := { name := "fnExactCountFits", fn := fun _ => fun
  | [d1, d2] => { results := [.lit (.bool true)], args := [d1, d2] }
  | _ => none }
def fnExactCountFitsRow : OpenClaim := { program := "ytdnpmgofkbjigaa", sum := "423690aa845af30639a15f650d4a1bb3467aec5bba08778d2334398aaf8ffe43", func := "loop.example/g00908/laws.FnExactCountFits", spec := "fnExactCountFits", recurses := true, apart := false }
def FnExactCountFitsSaid : Prop := fnExactCountFitsRow.holds Try.pinned (OpenSpec.ofChange fnExactCountFitsSpec)

/-- ITS FALSE NEIGHBOUR: 'it returns false'. Refute it at one input. -/
def fnExactCountFitsWrong : ChangeSpec := { name := "fnExactCountFits", fn := fun _ => fun
  | [d1, d2] => { results := [.lit (.bool false)], args := [d1, d2] }
  | _ => none }
def FnExactCountFitsWrongFalsely : Prop := fnExactCountFitsRow.holds Try.pinned (OpenSpec.ofChange fnExactCountFitsWrong)

/-- 'laws.FnExactEditsOnly': WHATEVER THE INPUT: true; the input reads as it did. -/
def fnExactEditsOnlySpec : ChangeSpec := { name := "fnExactEditsOnly", fn := fun _ => fun
  | [d1, d2, d3] => { results := [.lit (.bool true)], args := [d1, d2, d3] }
  | _ => none }
def fnExactEditsOnlyRow : OpenClaim := { program := "ytdnpmgofkbjigaa", sum := "423690aa845af30639a15f650d4a1bb3467aec5bba08778d2334398aaf8ffe43", func := "loop.example/g00908/laws.FnExactEditsOnly", spec := "fnExactEditsOnly", unfollowed := true, recurses := true, apart := false }
def FnExactEditsOnlySaid : Prop := fnExactEditsOnlyRow.holds Try.pinned (OpenSpec.ofChange fnExactEditsOnlySpec)

/-- ITS FALSE NEIGHBOUR: 'it returns false'. Refute it at one input. -/
def fnExactEditsOnlyWrong : ChangeSpec := { name := "fnExactEditsOnly", fn := fun _ => fun
  | [d1, d2, d3] => { results := [.lit (.bool false)], args := [d1, d2, d3] }
  | _ => none }
def FnExactEditsOnlyWrongFalsely : Prop := fnExactEditsOnlyRow.holds Try.pinned (OpenSpec.ofChange fnExactEditsOnlyWrong)

/-- 'laws.FnExactCountRoundings': WHATEVER THE INPUT: true; the input reads as it did. -/
def fnExactCountRoundingsSpec : ChangeSpec := { name := "fnExactCountRoundings", fn := fun _ => fun
  | [d1, d2] => { results := [.lit (.bool true)], args := [d1, d2] }
  | _ => none }
def fnExactCountRoundingsRow : OpenClaim := { program := "ytdnpmgofkbjigaa", sum := "423690aa845af30639a15f650d4a1bb3467aec5bba08778d2334398aaf8ffe43", func := "loop.example/g00908/laws.FnExactCountRoundings", spec := "fnExactCountRoundings", unfollowed := true, recurses := true, apart := false }
def FnExactCountRoundingsSaid : Prop := fnExactCountRoundingsRow.holds Try.pinned (OpenSpec.ofChange fnExactCountRoundingsSpec)

/-- ITS FALSE NEIGHBOUR: 'it returns false'. Refute it at one input. -/
def fnExactCountRoundingsWrong : ChangeSpec := { name := "fnExactCountRoundings", fn := fun _ => fun
  | [d1, d2] => { results := [.lit (.bool false)], args := [d1, d2] }
  | _ => none }
def FnExactCountRoundingsWrongFalsely : Prop := fnExactCountRoundingsRow.holds Try.pinned (OpenSpec.ofChange fnExactCountRoundingsWrong)

/-- 'laws.FnExactPackingBound': WHATEVER THE INPUT: true; the input reads as it did. -/
def fnExactPackingBoundSpec : ChangeSpec := { name := "fnExactPackingBound", fn := fun _ => fun
  | [d1, d2, d3, d4] => { results := [.lit (.bool true)], args := [d1, d2, d3, d4] }
  | _ => none }
def fnExactPackingBoundRow : OpenClaim := { program := "ytdnpmgofkbjigaa", sum := "423690aa845af30639a15f650d4a1bb3467aec5bba08778d2334398aaf8ffe43", func := "loop.example/g00908/laws.FnExactPackingBound", spec := "fnExactPackingBound", unfollowed := true, recurses := true, apart := false }
def FnExactPackingBoundSaid : Prop := fnExactPackingBoundRow.holds Try.pinned (OpenSpec.ofChange fnExactPackingBoundSpec)

/-- ITS FALSE NEIGHBOUR: 'it returns false'. Refute it at one input. -/
def fnExactPackingBoundWrong : ChangeSpec := { name := "fnExactPackingBound", fn := fun _ => fun
  | [d1, d2, d3, d4] => { results := [.lit (.bool false)], args := [d1, d2, d3, d4] }
  | _ => none }
def FnExactPackingBoundWrongFalsely : Prop := fnExactPackingBoundRow.holds Try.pinned (OpenSpec.ofChange fnExactPackingBoundWrong)

/-- 'laws.FnFlowCounts': WHATEVER THE INPUT: true; the input reads as it did. -/
def fnFlowCountsSpec : ChangeSpec := { name := "fnFlowCounts", fn := fun _ => fun
  | [d1, d2] => { results := [.lit (.bool true)], args := [d1, d2] }
  | _ => none }
def fnFlowCountsRow : OpenClaim := { program := "ytdnpmgofkbjigaa", sum := "423690aa845af30639a15f650d4a1bb3467aec5bba08778d2334398aaf8ffe43", func := "loop.example/g00908/laws.FnFlowCounts", spec := "fnFlowCounts", unfollowed := true, recurses := true, apart := false }
def FnFlowCountsSaid : Prop := fnFlowCountsRow.holds Try.pinned (OpenSpec.ofChange fnFlowCountsSpec)

/-- ITS FALSE NEIGHBOUR: 'it returns false'. Refute it at one input. -/
def fnFlowCountsWrong : ChangeSpec := { name := "fnFlowCounts", fn := fun _ => fun
  | [d1, d2] => { results := [.lit (.bool false)], args := [d1, d2] }
  | _ => none }
def FnFlowCountsWrongFalsely : Prop := fnFlowCountsRow.holds Try.pinned (OpenSpec.ofChange fnFlowCountsWrong)

/- THE SECOND FORM. 'bulk': how many values and letters a reading holds, each counted each time it is reached (what is shared counts as often as it is met; a slice's spare places count too). A statement '..UptoSaid' is the law's where the arguments, and the package variables that the reading takes, are together of bulk at most 1048576: NARROWER than '..Said'. Prove '..Said' where nothing that the law and all that it calls make is longer than what came in: it says more and counts as full. Else prove '..UptoSaid'. A law counts once. -/
mutual
def uptoBulk {H : Type} : DataW H → Nat
  | .lit (.string bytes) => bytes.length + 1
  | .lit _ => 1
  | .nil => 1
  | .ptr d => uptoBulk d + 1
  | .slice elems spare => uptoBulkAll elems + uptoBulkAll spare + 1
  | .agg parts => uptoBulkAll parts + 1
  | .iface _ d => uptoBulk d + 1
  | .map entries => uptoBulkEntries entries + 1
  | .held _ => 1
def uptoBulkAll {H : Type} : List (DataW H) → Nat
  | [] => 0
  | d :: r => uptoBulk d + uptoBulkAll r
def uptoBulkEntries {H : Type} : List (Lit × DataW H) → Nat
  | [] => 0
  | x :: r => uptoBulkEntry x + uptoBulkEntries r
def uptoBulkEntry {H : Type} : Lit × DataW H → Nat
  | (.string bytes, d) => bytes.length + uptoBulk d + 1
  | (_, d) => uptoBulk d + 1
 end
def uptoSmall : (H : Type) → List (DataW H) → Bool := fun _ ds => decide (uptoBulkAll ds ≤ 1048576)
def OpenSpec.upto (s : _root_.Go.ChangeSpec) : _root_.Go.OpenSpec := { _root_.Go.OpenSpec.ofChange s with cond := some uptoSmall }

/-- 'laws.FnExactIsCover', WHERE WHAT IT READS IS OF BULK AT MOST 1048576: true; the input reads as it did. -/
def fnExactIsCoverUptoRow : OpenClaim := { program := "ytdnpmgofkbjigaa", sum := "423690aa845af30639a15f650d4a1bb3467aec5bba08778d2334398aaf8ffe43", func := "loop.example/g00908/laws.FnExactIsCover", spec := "fnExactIsCover", unfollowed := true, recurses := true, apart := false, narrowed := true }
def FnExactIsCoverUptoSaid : Prop := fnExactIsCoverUptoRow.holds Try.pinned (OpenSpec.upto fnExactIsCoverSpec)

/-- 'laws.FnExactEliminateVariable', WHERE WHAT IT READS IS OF BULK AT MOST 1048576: true; the input reads as it did. -/
def fnExactEliminateVariableUptoRow : OpenClaim := { program := "ytdnpmgofkbjigaa", sum := "423690aa845af30639a15f650d4a1bb3467aec5bba08778d2334398aaf8ffe43", func := "loop.example/g00908/laws.FnExactEliminateVariable", spec := "fnExactEliminateVariable", unfollowed := true, recurses := true, apart := false, narrowed := true }
def FnExactEliminateVariableUptoSaid : Prop := fnExactEliminateVariableUptoRow.holds Try.pinned (OpenSpec.upto fnExactEliminateVariableSpec)

/-- 'laws.FnExactMaximalEdits', WHERE WHAT IT READS IS OF BULK AT MOST 1048576: true; the input reads as it did. -/
def fnExactMaximalEditsUptoRow : OpenClaim := { program := "ytdnpmgofkbjigaa", sum := "423690aa845af30639a15f650d4a1bb3467aec5bba08778d2334398aaf8ffe43", func := "loop.example/g00908/laws.FnExactMaximalEdits", spec := "fnExactMaximalEdits", unfollowed := true, recurses := true, apart := false, narrowed := true }
def FnExactMaximalEditsUptoSaid : Prop := fnExactMaximalEditsUptoRow.holds Try.pinned (OpenSpec.upto fnExactMaximalEditsSpec)

/-- 'laws.FnImplied', WHERE WHAT IT READS IS OF BULK AT MOST 1048576: true; the input reads as it did. -/
def fnImpliedUptoRow : OpenClaim := { program := "ytdnpmgofkbjigaa", sum := "423690aa845af30639a15f650d4a1bb3467aec5bba08778d2334398aaf8ffe43", func := "loop.example/g00908/laws.FnImplied", spec := "fnImplied", unfollowed := true, recurses := true, apart := false, narrowed := true }
def FnImpliedUptoSaid : Prop := fnImpliedUptoRow.holds Try.pinned (OpenSpec.upto fnImpliedSpec)

/-- 'laws.FnExactEqualBreaks', WHERE WHAT IT READS IS OF BULK AT MOST 1048576: true; the input reads as it did. -/
def fnExactEqualBreaksUptoRow : OpenClaim := { program := "ytdnpmgofkbjigaa", sum := "423690aa845af30639a15f650d4a1bb3467aec5bba08778d2334398aaf8ffe43", func := "loop.example/g00908/laws.FnExactEqualBreaks", spec := "fnExactEqualBreaks", unfollowed := true, recurses := true, apart := false, narrowed := true }
def FnExactEqualBreaksUptoSaid : Prop := fnExactEqualBreaksUptoRow.holds Try.pinned (OpenSpec.upto fnExactEqualBreaksSpec)

/-- 'laws.FnExactCountFlows', WHERE WHAT IT READS IS OF BULK AT MOST 1048576: true; the input reads as it did. -/
def fnExactCountFlowsUptoRow : OpenClaim := { program := "ytdnpmgofkbjigaa", sum := "423690aa845af30639a15f650d4a1bb3467aec5bba08778d2334398aaf8ffe43", func := "loop.example/g00908/laws.FnExactCountFlows", spec := "fnExactCountFlows", recurses := true, apart := false, narrowed := true }
def FnExactCountFlowsUptoSaid : Prop := fnExactCountFlowsUptoRow.holds Try.pinned (OpenSpec.upto fnExactCountFlowsSpec)

/-- 'laws.FnExactCountFits', WHERE WHAT IT READS IS OF BULK AT MOST 1048576: true; the input reads as it did. -/
def fnExactCountFitsUptoRow : OpenClaim := { program := "ytdnpmgofkbjigaa", sum := "423690aa845af30639a15f650d4a1bb3467aec5bba08778d2334398aaf8ffe43", func := "loop.example/g00908/laws.FnExactCountFits", spec := "fnExactCountFits", recurses := true, apart := false, narrowed := true }
def FnExactCountFitsUptoSaid : Prop := fnExactCountFitsUptoRow.holds Try.pinned (OpenSpec.upto fnExactCountFitsSpec)

/-- 'laws.FnExactEditsOnly', WHERE WHAT IT READS IS OF BULK AT MOST 1048576: true; the input reads as it did. -/
def fnExactEditsOnlyUptoRow : OpenClaim := { program := "ytdnpmgofkbjigaa", sum := "423690aa845af30639a15f650d4a1bb3467aec5bba08778d2334398aaf8ffe43", func := "loop.example/g00908/laws.FnExactEditsOnly", spec := "fnExactEditsOnly", unfollowed := true, recurses := true, apart := false, narrowed := true }
def FnExactEditsOnlyUptoSaid : Prop := fnExactEditsOnlyUptoRow.holds Try.pinned (OpenSpec.upto fnExactEditsOnlySpec)

/-- 'laws.FnExactCountRoundings', WHERE WHAT IT READS IS OF BULK AT MOST 1048576: true; the input reads as it did. -/
def fnExactCountRoundingsUptoRow : OpenClaim := { program := "ytdnpmgofkbjigaa", sum := "423690aa845af30639a15f650d4a1bb3467aec5bba08778d2334398aaf8ffe43", func := "loop.example/g00908/laws.FnExactCountRoundings", spec := "fnExactCountRoundings", unfollowed := true, recurses := true, apart := false, narrowed := true }
def FnExactCountRoundingsUptoSaid : Prop := fnExactCountRoundingsUptoRow.holds Try.pinned (OpenSpec.upto fnExactCountRoundingsSpec)

/-- 'laws.FnExactPackingBound', WHERE WHAT IT READS IS OF BULK AT MOST 1048576: true; the input reads as it did. -/
def fnExactPackingBoundUptoRow : OpenClaim := { program := "ytdnpmgofkbjigaa", sum := "423690aa845af30639a15f650d4a1bb3467aec5bba08778d2334398aaf8ffe43", func := "loop.example/g00908/laws.FnExactPackingBound", spec := "fnExactPackingBound", unfollowed := true, recurses := true, apart := false, narrowed := true }
def FnExactPackingBoundUptoSaid : Prop := fnExactPackingBoundUptoRow.holds Try.pinned (OpenSpec.upto fnExactPackingBoundSpec)

/-- 'laws.FnFlowCounts', WHERE WHAT IT READS IS OF BULK AT MOST 1048576: true; the input reads as it did. -/
def fnFlowCountsUptoRow : OpenClaim := { program := "ytdnpmgofkbjigaa", sum := "423690aa845af30639a15f650d4a1bb3467aec5bba08778d2334398aaf8ffe43", func := "loop.example/g00908/laws.FnFlowCounts", spec := "fnFlowCounts", unfollowed := true, recurses := true, apart := false, narrowed := true }
def FnFlowCountsUptoSaid : Prop := fnFlowCountsUptoRow.holds Try.pinned (OpenSpec.upto fnFlowCountsSpec)

end Rows
end Go.Proofs.Ytdnpmgofkbjigaa
