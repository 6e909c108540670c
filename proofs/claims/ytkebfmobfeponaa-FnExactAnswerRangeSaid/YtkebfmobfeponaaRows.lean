/-
  No cell of these rows narrows 'for every input' (looked for: loops, veiled, ifaces, maps, wideKeys, modest, calm, conditions, laid).
  DERIVED. THE GIVEN ROWS OF THIS SEAT. 3 by the template 'for every input the law returns true; each argument reads behind the call as it read before'; 0 by the template 'total and deterministic' (their statements: YtkebfmobfeponaaTotals.lean).
  GIVEN WITH THE SEED: the statements are not yours to turn. If you find one false, say at which input.
  Laid BY PROGRAM, IN A SANDBOX (cutbox-rows.mjs): the forced cells as the released guide's own fill.sh prints them over the translation 35399e8ee1f251e9… (all of the seat's roots in one cut). By AI agents, Wed Nov 11 2026. No macro, syntax, notation, axiom, sorry.
-/
import Derived.Test.YtkebfmobfeponaaChecked
import GoSem.Claim
import GoSem.ClaimJoined
import GoSem.ClaimMapViews
import Derived.JoinedTies
import Derived.KernelRfl
namespace Go.Proofs.Ytkebfmobfeponaa
/- THE CELL 'sum', in the pinned program and in every row, IS THE sha256 OF THE DUMP (.gsa) THAT YtkebfmobfeponaaProg.lean LOADS. Nothing in Lean hashes anything: it is a label: what it is worth is what the hold of that sum in a sandbox is worth. -/
noncomputable def Try.pinned : Pinned := { name := "ytkebfmobfeponaa", sum := "35399e8ee1f251e98f9b136af4a4b42daf02f69158cdc0525480bbde6522803d", checked := Try.checked }
namespace Rows
def none {H : Type} : Left H := { results := [], args := [] }

/-- 'laws.FnExactIsSafeRelease': WHATEVER THE INPUT: true; the input reads as it did. -/
def fnExactIsSafeReleaseSpec : ChangeSpec := { name := "fnExactIsSafeRelease", fn := fun _ => fun
  | [d1, d2, d3, d4, d5] => { results := [.lit (.bool true)], args := [d1, d2, d3, d4, d5] }
  | _ => none }
def fnExactIsSafeReleaseRow : OpenClaim := { program := "ytkebfmobfeponaa", sum := "35399e8ee1f251e98f9b136af4a4b42daf02f69158cdc0525480bbde6522803d", func := "loop.example/g00908/laws.FnExactIsSafeRelease", spec := "fnExactIsSafeRelease", unfollowed := true, recurses := true, apart := false }
def FnExactIsSafeReleaseSaid : Prop := fnExactIsSafeReleaseRow.holds Try.pinned (OpenSpec.ofChange fnExactIsSafeReleaseSpec)

/-- ITS FALSE NEIGHBOUR: 'it returns false'. Refute it at one input. -/
def fnExactIsSafeReleaseWrong : ChangeSpec := { name := "fnExactIsSafeRelease", fn := fun _ => fun
  | [d1, d2, d3, d4, d5] => { results := [.lit (.bool false)], args := [d1, d2, d3, d4, d5] }
  | _ => none }
def FnExactIsSafeReleaseWrongFalsely : Prop := fnExactIsSafeReleaseRow.holds Try.pinned (OpenSpec.ofChange fnExactIsSafeReleaseWrong)

/-- 'laws.FnExactCountSurveys': WHATEVER THE INPUT: true; the input reads as it did. -/
def fnExactCountSurveysSpec : ChangeSpec := { name := "fnExactCountSurveys", fn := fun _ => fun
  | [d1, d2, d3, d4] => { results := [.lit (.bool true)], args := [d1, d2, d3, d4] }
  | _ => none }
def fnExactCountSurveysRow : OpenClaim := { program := "ytkebfmobfeponaa", sum := "35399e8ee1f251e98f9b136af4a4b42daf02f69158cdc0525480bbde6522803d", func := "loop.example/g00908/laws.FnExactCountSurveys", spec := "fnExactCountSurveys", unfollowed := true, recurses := true, apart := false }
def FnExactCountSurveysSaid : Prop := fnExactCountSurveysRow.holds Try.pinned (OpenSpec.ofChange fnExactCountSurveysSpec)

/-- ITS FALSE NEIGHBOUR: 'it returns false'. Refute it at one input. -/
def fnExactCountSurveysWrong : ChangeSpec := { name := "fnExactCountSurveys", fn := fun _ => fun
  | [d1, d2, d3, d4] => { results := [.lit (.bool false)], args := [d1, d2, d3, d4] }
  | _ => none }
def FnExactCountSurveysWrongFalsely : Prop := fnExactCountSurveysRow.holds Try.pinned (OpenSpec.ofChange fnExactCountSurveysWrong)

/-- 'laws.FnExactAnswerRange': WHATEVER THE INPUT: true; the input reads as it did. -/
def fnExactAnswerRangeSpec : ChangeSpec := { name := "fnExactAnswerRange", fn := fun _ => fun
  | [d1, d2, d3, d4, d5, d6] => { results := [.lit (.bool true)], args := [d1, d2, d3, d4, d5, d6] }
  | _ => none }
def fnExactAnswerRangeRow : OpenClaim := { program := "ytkebfmobfeponaa", sum := "35399e8ee1f251e98f9b136af4a4b42daf02f69158cdc0525480bbde6522803d", func := "loop.example/g00908/laws.FnExactAnswerRange", spec := "fnExactAnswerRange", unfollowed := true, recurses := true, apart := false }
def FnExactAnswerRangeSaid : Prop := fnExactAnswerRangeRow.holds Try.pinned (OpenSpec.ofChange fnExactAnswerRangeSpec)

/-- ITS FALSE NEIGHBOUR: 'it returns false'. Refute it at one input. -/
def fnExactAnswerRangeWrong : ChangeSpec := { name := "fnExactAnswerRange", fn := fun _ => fun
  | [d1, d2, d3, d4, d5, d6] => { results := [.lit (.bool false)], args := [d1, d2, d3, d4, d5, d6] }
  | _ => none }
def FnExactAnswerRangeWrongFalsely : Prop := fnExactAnswerRangeRow.holds Try.pinned (OpenSpec.ofChange fnExactAnswerRangeWrong)

/- THE SECOND FORM. 'bulk': how many values and letters a reading holds, each counted each time it is reached (what is shared counts as often as it is met; a slice's spare places count too). A statement '..UptoSaid' is the law's where the arguments, and the package variables that the reading takes, are together of bulk at most 1048576: NARROWER than '..Said'. Prove '..Said' where nothing that the law and all that it calls make is longer than what came in: it says more and counts as full. Else prove '..UptoSaid'. A law counts once. -/
mutual
def uptoBulk {H : Type} : DataW H → Nat
  | .lit (.string bytes) => bytes.length + 1
  | .lit _ => 1
  | .nil => 1
  | .ptr d => uptoBulk d + 1
  | .slice elems spare => uptoBulkAll elems + uptoBulkAll spare + 1
  | .agg parts => uptoBulkAll parts + 1
  | .iface _ d => uptoBulk d + 1
  | .map entries => uptoBulkEntries entries + 1
  | .held _ => 1
def uptoBulkAll {H : Type} : List (DataW H) → Nat
  | [] => 0
  | d :: r => uptoBulk d + uptoBulkAll r
def uptoBulkEntries {H : Type} : List (Lit × DataW H) → Nat
  | [] => 0
  | x :: r => uptoBulkEntry x + uptoBulkEntries r
def uptoBulkEntry {H : Type} : Lit × DataW H → Nat
  | (.string bytes, d) => bytes.length + uptoBulk d + 1
  | (_, d) => uptoBulk d + 1
 end
def uptoSmall : (H : Type) → List (DataW H) → Bool := fun _ ds => decide (uptoBulkAll ds ≤ 1048576)
def OpenSpec.upto (s : _root_.Go.ChangeSpec) : _root_.Go.OpenSpec := { _root_.Go.OpenSpec.ofChange s with cond := some uptoSmall }

/-- 'laws.FnExactIsSafeRelease', WHERE WHAT IT READS IS OF BULK AT MOST 1048576: true; the input reads as it did. -/
def fnExactIsSafeReleaseUptoRow : OpenClaim := { program := "ytkebfmobfeponaa", sum := "35399e8ee1f251e98f9b136af4a4b42daf02f69158cdc0525480bbde6522803d", func := "loop.example/g00908/laws.FnExactIsSafeRelease", spec := "fnExactIsSafeRelease", unfollowed := true, recurses := true, apart := false, narrowed := true }
def FnExactIsSafeReleaseUptoSaid : Prop := fnExactIsSafeReleaseUptoRow.holds Try.pinned (OpenSpec.upto fnExactIsSafeReleaseSpec)

/-- 'laws.FnExactCountSurveys', WHERE WHAT IT READS IS OF BULK AT MOST 1048576: true; the input reads as it did. -/
def fnExactCountSurveysUptoRow : OpenClaim := { program := "ytkebfmobfeponaa", sum := "35399e8ee1f251e98f9b136af4a4b42daf02f69158cdc0525480bbde6522803d", func := "loop.example/g00908/laws.FnExactCountSurveys", spec := "fnExactCountSurveys", unfollowed := true, recurses := true, apart := false, narrowed := true }
def FnExactCountSurveysUptoSaid : Prop := fnExactCountSurveysUptoRow.holds Try.pinned (OpenSpec.upto fnExactCountSurveysSpec)

/-- 'laws.FnExactAnswerRange', WHERE WHAT IT READS IS OF BULK AT MOST 1048576: true; the input reads as it did. -/
def fnExactAnswerRangeUptoRow : OpenClaim := { program := "ytkebfmobfeponaa", sum := "35399e8ee1f251e98f9b136af4a4b42daf02f69158cdc0525480bbde6522803d", func := "loop.example/g00908/laws.FnExactAnswerRange", spec := "fnExactAnswerRange", unfollowed := true, recurses := true, apart := false, narrowed := true }
def FnExactAnswerRangeUptoSaid : Prop := fnExactAnswerRangeUptoRow.holds Try.pinned (OpenSpec.upto fnExactAnswerRangeSpec)

end Rows
end Go.Proofs.Ytkebfmobfeponaa
