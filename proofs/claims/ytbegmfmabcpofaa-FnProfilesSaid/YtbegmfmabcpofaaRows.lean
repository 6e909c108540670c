/-
  No cell of these rows narrows 'for every input' (looked for: loops, veiled, ifaces, maps, wideKeys, modest, calm, conditions, laid).
  DERIVED. THE GIVEN ROWS OF THIS SEAT. 17 by the template 'for every input the law returns true; each argument reads behind the call as it read before'; 0 by the template 'total and deterministic' (their statements: YtbegmfmabcpofaaTotals.lean).
  GIVEN WITH THE SEED: the statements are not yours to turn. If you find one false, say at which input.
  Laid BY PROGRAM, IN A SANDBOX (cutbox-rows.mjs): the forced cells as the released guide's own fill.sh prints them over the translation 806dca26b69b4c00… (all of the seat's roots in one cut). By AI agents, Wed Nov 11 2026. No macro, syntax, notation, axiom, sorry.
-/
import Derived.Test.YtbegmfmabcpofaaChecked
import GoSem.Claim
import GoSem.ClaimJoined
import GoSem.ClaimMapViews
import Derived.JoinedTies
import Derived.KernelRfl
namespace Go.Proofs.Ytbegmfmabcpofaa
/- THE CELL 'sum', in the pinned program and in every row, IS THE sha256 OF THE DUMP (.gsa) THAT YtbegmfmabcpofaaProg.lean LOADS. Nothing in Lean hashes anything: it is a label: what it is worth is what the hold of that sum in a sandbox is worth. -/
noncomputable def Try.pinned : Pinned := { name := "ytbegmfmabcpofaa", sum := "806dca26b69b4c0094c5dfdf596c0925fb0605be0d314238f3728bc96bd76a6a", checked := Try.checked }
namespace Rows
def none {H : Type} : Left H := { results := [], args := [] }

/-- 'laws.FnExactMaskCounts': WHATEVER THE INPUT: true; the input reads as it did. -/
def fnExactMaskCountsSpec : ChangeSpec := { name := "fnExactMaskCounts", fn := fun _ => fun
  | [d1, d2] => { results := [.lit (.bool true)], args := [d1, d2] }
  | _ => none }
def fnExactMaskCountsRow : OpenClaim := { program := "ytbegmfmabcpofaa", sum := "806dca26b69b4c0094c5dfdf596c0925fb0605be0d314238f3728bc96bd76a6a", func := "loop.example/g00908/laws.FnExactMaskCounts", spec := "fnExactMaskCounts", apart := false }
def FnExactMaskCountsSaid : Prop := fnExactMaskCountsRow.holds Try.pinned (OpenSpec.ofChange fnExactMaskCountsSpec)

/-- ITS FALSE NEIGHBOUR: 'it returns false'. Refute it at one input. -/
def fnExactMaskCountsWrong : ChangeSpec := { name := "fnExactMaskCounts", fn := fun _ => fun
  | [d1, d2] => { results := [.lit (.bool false)], args := [d1, d2] }
  | _ => none }
def FnExactMaskCountsWrongFalsely : Prop := fnExactMaskCountsRow.holds Try.pinned (OpenSpec.ofChange fnExactMaskCountsWrong)

/-- 'laws.FnExactSignedValues': WHATEVER THE INPUT: true; the input reads as it did. -/
def fnExactSignedValuesSpec : ChangeSpec := { name := "fnExactSignedValues", fn := fun _ => fun
  | [d1, d2] => { results := [.lit (.bool true)], args := [d1, d2] }
  | _ => none }
def fnExactSignedValuesRow : OpenClaim := { program := "ytbegmfmabcpofaa", sum := "806dca26b69b4c0094c5dfdf596c0925fb0605be0d314238f3728bc96bd76a6a", func := "loop.example/g00908/laws.FnExactSignedValues", spec := "fnExactSignedValues", apart := false }
def FnExactSignedValuesSaid : Prop := fnExactSignedValuesRow.holds Try.pinned (OpenSpec.ofChange fnExactSignedValuesSpec)

/-- ITS FALSE NEIGHBOUR: 'it returns false'. Refute it at one input. -/
def fnExactSignedValuesWrong : ChangeSpec := { name := "fnExactSignedValues", fn := fun _ => fun
  | [d1, d2] => { results := [.lit (.bool false)], args := [d1, d2] }
  | _ => none }
def FnExactSignedValuesWrongFalsely : Prop := fnExactSignedValuesRow.holds Try.pinned (OpenSpec.ofChange fnExactSignedValuesWrong)

/-- 'laws.FnExactPairMask': WHATEVER THE INPUT: true; the input reads as it did. -/
def fnExactPairMaskSpec : ChangeSpec := { name := "fnExactPairMask", fn := fun _ => fun
  | [d1, d2, d3, d4, d5, d6] => { results := [.lit (.bool true)], args := [d1, d2, d3, d4, d5, d6] }
  | _ => none }
def fnExactPairMaskRow : OpenClaim := { program := "ytbegmfmabcpofaa", sum := "806dca26b69b4c0094c5dfdf596c0925fb0605be0d314238f3728bc96bd76a6a", func := "loop.example/g00908/laws.FnExactPairMask", spec := "fnExactPairMask", apart := false }
def FnExactPairMaskSaid : Prop := fnExactPairMaskRow.holds Try.pinned (OpenSpec.ofChange fnExactPairMaskSpec)

/-- ITS FALSE NEIGHBOUR: 'it returns false'. Refute it at one input. -/
def fnExactPairMaskWrong : ChangeSpec := { name := "fnExactPairMask", fn := fun _ => fun
  | [d1, d2, d3, d4, d5, d6] => { results := [.lit (.bool false)], args := [d1, d2, d3, d4, d5, d6] }
  | _ => none }
def FnExactPairMaskWrongFalsely : Prop := fnExactPairMaskRow.holds Try.pinned (OpenSpec.ofChange fnExactPairMaskWrong)

/-- 'laws.FnExactGiniOf': WHATEVER THE INPUT: true; the input reads as it did. -/
def fnExactGiniOfSpec : ChangeSpec := { name := "fnExactGiniOf", fn := fun _ => fun
  | [d] => { results := [.lit (.bool true)], args := [d] }
  | _ => none }
def fnExactGiniOfRow : OpenClaim := { program := "ytbegmfmabcpofaa", sum := "806dca26b69b4c0094c5dfdf596c0925fb0605be0d314238f3728bc96bd76a6a", func := "loop.example/g00908/laws.FnExactGiniOf", spec := "fnExactGiniOf", apart := false }
def FnExactGiniOfSaid : Prop := fnExactGiniOfRow.holds Try.pinned (OpenSpec.ofChange fnExactGiniOfSpec)

/-- ITS FALSE NEIGHBOUR: 'it returns false'. Refute it at one input. -/
def fnExactGiniOfWrong : ChangeSpec := { name := "fnExactGiniOf", fn := fun _ => fun
  | [d] => { results := [.lit (.bool false)], args := [d] }
  | _ => none }
def FnExactGiniOfWrongFalsely : Prop := fnExactGiniOfRow.holds Try.pinned (OpenSpec.ofChange fnExactGiniOfWrong)

/-- 'laws.FnExactClassOf': WHATEVER THE INPUT: true; the input reads as it did. -/
def fnExactClassOfSpec : ChangeSpec := { name := "fnExactClassOf", fn := fun _ => fun
  | [d1, d2] => { results := [.lit (.bool true)], args := [d1, d2] }
  | _ => none }
def fnExactClassOfRow : OpenClaim := { program := "ytbegmfmabcpofaa", sum := "806dca26b69b4c0094c5dfdf596c0925fb0605be0d314238f3728bc96bd76a6a", func := "loop.example/g00908/laws.FnExactClassOf", spec := "fnExactClassOf", unfollowed := true, recurses := true, apart := false }
def FnExactClassOfSaid : Prop := fnExactClassOfRow.holds Try.pinned (OpenSpec.ofChange fnExactClassOfSpec)

/-- ITS FALSE NEIGHBOUR: 'it returns false'. Refute it at one input. -/
def fnExactClassOfWrong : ChangeSpec := { name := "fnExactClassOf", fn := fun _ => fun
  | [d1, d2] => { results := [.lit (.bool false)], args := [d1, d2] }
  | _ => none }
def FnExactClassOfWrongFalsely : Prop := fnExactClassOfRow.holds Try.pinned (OpenSpec.ofChange fnExactClassOfWrong)

/-- 'laws.FnExactSumOfShares': WHATEVER THE INPUT: true; the input reads as it did. -/
def fnExactSumOfSharesSpec : ChangeSpec := { name := "fnExactSumOfShares", fn := fun _ => fun
  | [d1, d2] => { results := [.lit (.bool true)], args := [d1, d2] }
  | _ => none }
def fnExactSumOfSharesRow : OpenClaim := { program := "ytbegmfmabcpofaa", sum := "806dca26b69b4c0094c5dfdf596c0925fb0605be0d314238f3728bc96bd76a6a", func := "loop.example/g00908/laws.FnExactSumOfShares", spec := "fnExactSumOfShares", apart := false }
def FnExactSumOfSharesSaid : Prop := fnExactSumOfSharesRow.holds Try.pinned (OpenSpec.ofChange fnExactSumOfSharesSpec)

/-- ITS FALSE NEIGHBOUR: 'it returns false'. Refute it at one input. -/
def fnExactSumOfSharesWrong : ChangeSpec := { name := "fnExactSumOfShares", fn := fun _ => fun
  | [d1, d2] => { results := [.lit (.bool false)], args := [d1, d2] }
  | _ => none }
def FnExactSumOfSharesWrongFalsely : Prop := fnExactSumOfSharesRow.holds Try.pinned (OpenSpec.ofChange fnExactSumOfSharesWrong)

/-- 'laws.FnExactQuotientOf': WHATEVER THE INPUT: true; the input reads as it did. -/
def fnExactQuotientOfSpec : ChangeSpec := { name := "fnExactQuotientOf", fn := fun _ => fun
  | [d1, d2, d3] => { results := [.lit (.bool true)], args := [d1, d2, d3] }
  | _ => none }
def fnExactQuotientOfRow : OpenClaim := { program := "ytbegmfmabcpofaa", sum := "806dca26b69b4c0094c5dfdf596c0925fb0605be0d314238f3728bc96bd76a6a", func := "loop.example/g00908/laws.FnExactQuotientOf", spec := "fnExactQuotientOf", apart := false }
def FnExactQuotientOfSaid : Prop := fnExactQuotientOfRow.holds Try.pinned (OpenSpec.ofChange fnExactQuotientOfSpec)

/-- ITS FALSE NEIGHBOUR: 'it returns false'. Refute it at one input. -/
def fnExactQuotientOfWrong : ChangeSpec := { name := "fnExactQuotientOf", fn := fun _ => fun
  | [d1, d2, d3] => { results := [.lit (.bool false)], args := [d1, d2, d3] }
  | _ => none }
def FnExactQuotientOfWrongFalsely : Prop := fnExactQuotientOfRow.holds Try.pinned (OpenSpec.ofChange fnExactQuotientOfWrong)

/-- 'laws.FnExactRanksOf': WHATEVER THE INPUT: true; the input reads as it did. -/
def fnExactRanksOfSpec : ChangeSpec := { name := "fnExactRanksOf", fn := fun _ => fun
  | [d] => { results := [.lit (.bool true)], args := [d] }
  | _ => none }
def fnExactRanksOfRow : OpenClaim := { program := "ytbegmfmabcpofaa", sum := "806dca26b69b4c0094c5dfdf596c0925fb0605be0d314238f3728bc96bd76a6a", func := "loop.example/g00908/laws.FnExactRanksOf", spec := "fnExactRanksOf", apart := false }
def FnExactRanksOfSaid : Prop := fnExactRanksOfRow.holds Try.pinned (OpenSpec.ofChange fnExactRanksOfSpec)

/-- ITS FALSE NEIGHBOUR: 'it returns false'. Refute it at one input. -/
def fnExactRanksOfWrong : ChangeSpec := { name := "fnExactRanksOf", fn := fun _ => fun
  | [d] => { results := [.lit (.bool false)], args := [d] }
  | _ => none }
def FnExactRanksOfWrongFalsely : Prop := fnExactRanksOfRow.holds Try.pinned (OpenSpec.ofChange fnExactRanksOfWrong)

/-- 'laws.FnExactCountShares': WHATEVER THE INPUT: true; the input reads as it did. -/
def fnExactCountSharesSpec : ChangeSpec := { name := "fnExactCountShares", fn := fun _ => fun
  | [d] => { results := [.lit (.bool true)], args := [d] }
  | _ => none }
def fnExactCountSharesRow : OpenClaim := { program := "ytbegmfmabcpofaa", sum := "806dca26b69b4c0094c5dfdf596c0925fb0605be0d314238f3728bc96bd76a6a", func := "loop.example/g00908/laws.FnExactCountShares", spec := "fnExactCountShares", apart := false }
def FnExactCountSharesSaid : Prop := fnExactCountSharesRow.holds Try.pinned (OpenSpec.ofChange fnExactCountSharesSpec)

/-- ITS FALSE NEIGHBOUR: 'it returns false'. Refute it at one input. -/
def fnExactCountSharesWrong : ChangeSpec := { name := "fnExactCountShares", fn := fun _ => fun
  | [d] => { results := [.lit (.bool false)], args := [d] }
  | _ => none }
def FnExactCountSharesWrongFalsely : Prop := fnExactCountSharesRow.holds Try.pinned (OpenSpec.ofChange fnExactCountSharesWrong)

/-- 'laws.FnExactConcentrationOf': WHATEVER THE INPUT: true; the input reads as it did. -/
def fnExactConcentrationOfSpec : ChangeSpec := { name := "fnExactConcentrationOf", fn := fun _ => fun
  | [d] => { results := [.lit (.bool true)], args := [d] }
  | _ => none }
def fnExactConcentrationOfRow : OpenClaim := { program := "ytbegmfmabcpofaa", sum := "806dca26b69b4c0094c5dfdf596c0925fb0605be0d314238f3728bc96bd76a6a", func := "loop.example/g00908/laws.FnExactConcentrationOf", spec := "fnExactConcentrationOf", apart := false }
def FnExactConcentrationOfSaid : Prop := fnExactConcentrationOfRow.holds Try.pinned (OpenSpec.ofChange fnExactConcentrationOfSpec)

/-- ITS FALSE NEIGHBOUR: 'it returns false'. Refute it at one input. -/
def fnExactConcentrationOfWrong : ChangeSpec := { name := "fnExactConcentrationOf", fn := fun _ => fun
  | [d] => { results := [.lit (.bool false)], args := [d] }
  | _ => none }
def FnExactConcentrationOfWrongFalsely : Prop := fnExactConcentrationOfRow.holds Try.pinned (OpenSpec.ofChange fnExactConcentrationOfWrong)

/-- 'laws.FnExactDissimilarityOf': WHATEVER THE INPUT: true; the input reads as it did. -/
def fnExactDissimilarityOfSpec : ChangeSpec := { name := "fnExactDissimilarityOf", fn := fun _ => fun
  | [d1, d2] => { results := [.lit (.bool true)], args := [d1, d2] }
  | _ => none }
def fnExactDissimilarityOfRow : OpenClaim := { program := "ytbegmfmabcpofaa", sum := "806dca26b69b4c0094c5dfdf596c0925fb0605be0d314238f3728bc96bd76a6a", func := "loop.example/g00908/laws.FnExactDissimilarityOf", spec := "fnExactDissimilarityOf", apart := false }
def FnExactDissimilarityOfSaid : Prop := fnExactDissimilarityOfRow.holds Try.pinned (OpenSpec.ofChange fnExactDissimilarityOfSpec)

/-- ITS FALSE NEIGHBOUR: 'it returns false'. Refute it at one input. -/
def fnExactDissimilarityOfWrong : ChangeSpec := { name := "fnExactDissimilarityOf", fn := fun _ => fun
  | [d1, d2] => { results := [.lit (.bool false)], args := [d1, d2] }
  | _ => none }
def FnExactDissimilarityOfWrongFalsely : Prop := fnExactDissimilarityOfRow.holds Try.pinned (OpenSpec.ofChange fnExactDissimilarityOfWrong)

/-- 'laws.FnExactMaskOf': WHATEVER THE INPUT: true; the input reads as it did. -/
def fnExactMaskOfSpec : ChangeSpec := { name := "fnExactMaskOf", fn := fun _ => fun
  | [d1, d2, d3, d4, d5] => { results := [.lit (.bool true)], args := [d1, d2, d3, d4, d5] }
  | _ => none }
def fnExactMaskOfRow : OpenClaim := { program := "ytbegmfmabcpofaa", sum := "806dca26b69b4c0094c5dfdf596c0925fb0605be0d314238f3728bc96bd76a6a", func := "loop.example/g00908/laws.FnExactMaskOf", spec := "fnExactMaskOf", apart := false }
def FnExactMaskOfSaid : Prop := fnExactMaskOfRow.holds Try.pinned (OpenSpec.ofChange fnExactMaskOfSpec)

/-- ITS FALSE NEIGHBOUR: 'it returns false'. Refute it at one input. -/
def fnExactMaskOfWrong : ChangeSpec := { name := "fnExactMaskOf", fn := fun _ => fun
  | [d1, d2, d3, d4, d5] => { results := [.lit (.bool false)], args := [d1, d2, d3, d4, d5] }
  | _ => none }
def FnExactMaskOfWrongFalsely : Prop := fnExactMaskOfRow.holds Try.pinned (OpenSpec.ofChange fnExactMaskOfWrong)

/-- 'laws.FnExactShareOf': WHATEVER THE INPUT: true; the input reads as it did. -/
def fnExactShareOfSpec : ChangeSpec := { name := "fnExactShareOf", fn := fun _ => fun
  | [d1, d2, d3, d4, d5] => { results := [.lit (.bool true)], args := [d1, d2, d3, d4, d5] }
  | _ => none }
def fnExactShareOfRow : OpenClaim := { program := "ytbegmfmabcpofaa", sum := "806dca26b69b4c0094c5dfdf596c0925fb0605be0d314238f3728bc96bd76a6a", func := "loop.example/g00908/laws.FnExactShareOf", spec := "fnExactShareOf", apart := false }
def FnExactShareOfSaid : Prop := fnExactShareOfRow.holds Try.pinned (OpenSpec.ofChange fnExactShareOfSpec)

/-- ITS FALSE NEIGHBOUR: 'it returns false'. Refute it at one input. -/
def fnExactShareOfWrong : ChangeSpec := { name := "fnExactShareOf", fn := fun _ => fun
  | [d1, d2, d3, d4, d5] => { results := [.lit (.bool false)], args := [d1, d2, d3, d4, d5] }
  | _ => none }
def FnExactShareOfWrongFalsely : Prop := fnExactShareOfRow.holds Try.pinned (OpenSpec.ofChange fnExactShareOfWrong)

/-- 'laws.FnExactMaskRepair': WHATEVER THE INPUT: true; the input reads as it did. -/
def fnExactMaskRepairSpec : ChangeSpec := { name := "fnExactMaskRepair", fn := fun _ => fun
  | [d1, d2, d3, d4, d5] => { results := [.lit (.bool true)], args := [d1, d2, d3, d4, d5] }
  | _ => none }
def fnExactMaskRepairRow : OpenClaim := { program := "ytbegmfmabcpofaa", sum := "806dca26b69b4c0094c5dfdf596c0925fb0605be0d314238f3728bc96bd76a6a", func := "loop.example/g00908/laws.FnExactMaskRepair", spec := "fnExactMaskRepair", apart := false }
def FnExactMaskRepairSaid : Prop := fnExactMaskRepairRow.holds Try.pinned (OpenSpec.ofChange fnExactMaskRepairSpec)

/-- ITS FALSE NEIGHBOUR: 'it returns false'. Refute it at one input. -/
def fnExactMaskRepairWrong : ChangeSpec := { name := "fnExactMaskRepair", fn := fun _ => fun
  | [d1, d2, d3, d4, d5] => { results := [.lit (.bool false)], args := [d1, d2, d3, d4, d5] }
  | _ => none }
def FnExactMaskRepairWrongFalsely : Prop := fnExactMaskRepairRow.holds Try.pinned (OpenSpec.ofChange fnExactMaskRepairWrong)

/-- 'laws.FnExactSumPresent': WHATEVER THE INPUT: true; the input reads as it did. -/
def fnExactSumPresentSpec : ChangeSpec := { name := "fnExactSumPresent", fn := fun _ => fun
  | [d1, d2, d3, d4, d5] => { results := [.lit (.bool true)], args := [d1, d2, d3, d4, d5] }
  | _ => none }
def fnExactSumPresentRow : OpenClaim := { program := "ytbegmfmabcpofaa", sum := "806dca26b69b4c0094c5dfdf596c0925fb0605be0d314238f3728bc96bd76a6a", func := "loop.example/g00908/laws.FnExactSumPresent", spec := "fnExactSumPresent", apart := false }
def FnExactSumPresentSaid : Prop := fnExactSumPresentRow.holds Try.pinned (OpenSpec.ofChange fnExactSumPresentSpec)

/-- ITS FALSE NEIGHBOUR: 'it returns false'. Refute it at one input. -/
def fnExactSumPresentWrong : ChangeSpec := { name := "fnExactSumPresent", fn := fun _ => fun
  | [d1, d2, d3, d4, d5] => { results := [.lit (.bool false)], args := [d1, d2, d3, d4, d5] }
  | _ => none }
def FnExactSumPresentWrongFalsely : Prop := fnExactSumPresentRow.holds Try.pinned (OpenSpec.ofChange fnExactSumPresentWrong)

/-- 'laws.FnProfiles': WHATEVER THE INPUT: true; the input reads as it did. -/
def fnProfilesSpec : ChangeSpec := { name := "fnProfiles", fn := fun _ => fun
  | [d1, d2] => { results := [.lit (.bool true)], args := [d1, d2] }
  | _ => none }
def fnProfilesRow : OpenClaim := { program := "ytbegmfmabcpofaa", sum := "806dca26b69b4c0094c5dfdf596c0925fb0605be0d314238f3728bc96bd76a6a", func := "loop.example/g00908/laws.FnProfiles", spec := "fnProfiles", apart := false }
def FnProfilesSaid : Prop := fnProfilesRow.holds Try.pinned (OpenSpec.ofChange fnProfilesSpec)

/-- ITS FALSE NEIGHBOUR: 'it returns false'. Refute it at one input. -/
def fnProfilesWrong : ChangeSpec := { name := "fnProfiles", fn := fun _ => fun
  | [d1, d2] => { results := [.lit (.bool false)], args := [d1, d2] }
  | _ => none }
def FnProfilesWrongFalsely : Prop := fnProfilesRow.holds Try.pinned (OpenSpec.ofChange fnProfilesWrong)

/-- 'laws.FnMasks': WHATEVER THE INPUT: true; the input reads as it did. -/
def fnMasksSpec : ChangeSpec := { name := "fnMasks", fn := fun _ => fun
  | [d1, d2] => { results := [.lit (.bool true)], args := [d1, d2] }
  | _ => none }
def fnMasksRow : OpenClaim := { program := "ytbegmfmabcpofaa", sum := "806dca26b69b4c0094c5dfdf596c0925fb0605be0d314238f3728bc96bd76a6a", func := "loop.example/g00908/laws.FnMasks", spec := "fnMasks", apart := false }
def FnMasksSaid : Prop := fnMasksRow.holds Try.pinned (OpenSpec.ofChange fnMasksSpec)

/-- ITS FALSE NEIGHBOUR: 'it returns false'. Refute it at one input. -/
def fnMasksWrong : ChangeSpec := { name := "fnMasks", fn := fun _ => fun
  | [d1, d2] => { results := [.lit (.bool false)], args := [d1, d2] }
  | _ => none }
def FnMasksWrongFalsely : Prop := fnMasksRow.holds Try.pinned (OpenSpec.ofChange fnMasksWrong)

/- THE SECOND FORM. 'bulk': how many values and letters a reading holds, each counted each time it is reached (what is shared counts as often as it is met; a slice's spare places count too). A statement '..UptoSaid' is the law's where the arguments, and the package variables that the reading takes, are together of bulk at most 1048576: NARROWER than '..Said'. Prove '..Said' where nothing that the law and all that it calls make is longer than what came in: it says more and counts as full. Else prove '..UptoSaid'. A law counts once. -/
mutual
def uptoBulk {H : Type} : DataW H → Nat
  | .lit (.string bytes) => bytes.length + 1
  | .lit _ => 1
  | .nil => 1
  | .ptr d => uptoBulk d + 1
  | .slice elems spare => uptoBulkAll elems + uptoBulkAll spare + 1
  | .agg parts => uptoBulkAll parts + 1
  | .iface _ d => uptoBulk d + 1
  | .map entries => uptoBulkEntries entries + 1
  | .held _ => 1
def uptoBulkAll {H : Type} : List (DataW H) → Nat
  | [] => 0
  | d :: r => uptoBulk d + uptoBulkAll r
def uptoBulkEntries {H : Type} : List (Lit × DataW H) → Nat
  | [] => 0
  | x :: r => uptoBulkEntry x + uptoBulkEntries r
def uptoBulkEntry {H : Type} : Lit × DataW H → Nat
  | (.string bytes, d) => bytes.length + uptoBulk d + 1
  | (_, d) => uptoBulk d + 1
 end
def uptoSmall : (H : Type) → List (DataW H) → Bool := fun _ ds => decide (uptoBulkAll ds ≤ 1048576)
def OpenSpec.upto (s : _root_.Go.ChangeSpec) : _root_.Go.OpenSpec := { _root_.Go.OpenSpec.ofChange s with cond := some uptoSmall }

/-- 'laws.FnExactMaskCounts', WHERE WHAT IT READS IS OF BULK AT MOST 1048576: true; the input reads as it did. -/
def fnExactMaskCountsUptoRow : OpenClaim := { program := "ytbegmfmabcpofaa", sum := "806dca26b69b4c0094c5dfdf596c0925fb0605be0d314238f3728bc96bd76a6a", func := "loop.example/g00908/laws.FnExactMaskCounts", spec := "fnExactMaskCounts", apart := false, narrowed := true }
def FnExactMaskCountsUptoSaid : Prop := fnExactMaskCountsUptoRow.holds Try.pinned (OpenSpec.upto fnExactMaskCountsSpec)

/-- 'laws.FnExactSignedValues', WHERE WHAT IT READS IS OF BULK AT MOST 1048576: true; the input reads as it did. -/
def fnExactSignedValuesUptoRow : OpenClaim := { program := "ytbegmfmabcpofaa", sum := "806dca26b69b4c0094c5dfdf596c0925fb0605be0d314238f3728bc96bd76a6a", func := "loop.example/g00908/laws.FnExactSignedValues", spec := "fnExactSignedValues", apart := false, narrowed := true }
def FnExactSignedValuesUptoSaid : Prop := fnExactSignedValuesUptoRow.holds Try.pinned (OpenSpec.upto fnExactSignedValuesSpec)

/-- 'laws.FnExactPairMask', WHERE WHAT IT READS IS OF BULK AT MOST 1048576: true; the input reads as it did. -/
def fnExactPairMaskUptoRow : OpenClaim := { program := "ytbegmfmabcpofaa", sum := "806dca26b69b4c0094c5dfdf596c0925fb0605be0d314238f3728bc96bd76a6a", func := "loop.example/g00908/laws.FnExactPairMask", spec := "fnExactPairMask", apart := false, narrowed := true }
def FnExactPairMaskUptoSaid : Prop := fnExactPairMaskUptoRow.holds Try.pinned (OpenSpec.upto fnExactPairMaskSpec)

/-- 'laws.FnExactGiniOf', WHERE WHAT IT READS IS OF BULK AT MOST 1048576: true; the input reads as it did. -/
def fnExactGiniOfUptoRow : OpenClaim := { program := "ytbegmfmabcpofaa", sum := "806dca26b69b4c0094c5dfdf596c0925fb0605be0d314238f3728bc96bd76a6a", func := "loop.example/g00908/laws.FnExactGiniOf", spec := "fnExactGiniOf", apart := false, narrowed := true }
def FnExactGiniOfUptoSaid : Prop := fnExactGiniOfUptoRow.holds Try.pinned (OpenSpec.upto fnExactGiniOfSpec)

/-- 'laws.FnExactClassOf', WHERE WHAT IT READS IS OF BULK AT MOST 1048576: true; the input reads as it did. -/
def fnExactClassOfUptoRow : OpenClaim := { program := "ytbegmfmabcpofaa", sum := "806dca26b69b4c0094c5dfdf596c0925fb0605be0d314238f3728bc96bd76a6a", func := "loop.example/g00908/laws.FnExactClassOf", spec := "fnExactClassOf", unfollowed := true, recurses := true, apart := false, narrowed := true }
def FnExactClassOfUptoSaid : Prop := fnExactClassOfUptoRow.holds Try.pinned (OpenSpec.upto fnExactClassOfSpec)

/-- 'laws.FnExactSumOfShares', WHERE WHAT IT READS IS OF BULK AT MOST 1048576: true; the input reads as it did. -/
def fnExactSumOfSharesUptoRow : OpenClaim := { program := "ytbegmfmabcpofaa", sum := "806dca26b69b4c0094c5dfdf596c0925fb0605be0d314238f3728bc96bd76a6a", func := "loop.example/g00908/laws.FnExactSumOfShares", spec := "fnExactSumOfShares", apart := false, narrowed := true }
def FnExactSumOfSharesUptoSaid : Prop := fnExactSumOfSharesUptoRow.holds Try.pinned (OpenSpec.upto fnExactSumOfSharesSpec)

/-- 'laws.FnExactQuotientOf', WHERE WHAT IT READS IS OF BULK AT MOST 1048576: true; the input reads as it did. -/
def fnExactQuotientOfUptoRow : OpenClaim := { program := "ytbegmfmabcpofaa", sum := "806dca26b69b4c0094c5dfdf596c0925fb0605be0d314238f3728bc96bd76a6a", func := "loop.example/g00908/laws.FnExactQuotientOf", spec := "fnExactQuotientOf", apart := false, narrowed := true }
def FnExactQuotientOfUptoSaid : Prop := fnExactQuotientOfUptoRow.holds Try.pinned (OpenSpec.upto fnExactQuotientOfSpec)

/-- 'laws.FnExactRanksOf', WHERE WHAT IT READS IS OF BULK AT MOST 1048576: true; the input reads as it did. -/
def fnExactRanksOfUptoRow : OpenClaim := { program := "ytbegmfmabcpofaa", sum := "806dca26b69b4c0094c5dfdf596c0925fb0605be0d314238f3728bc96bd76a6a", func := "loop.example/g00908/laws.FnExactRanksOf", spec := "fnExactRanksOf", apart := false, narrowed := true }
def FnExactRanksOfUptoSaid : Prop := fnExactRanksOfUptoRow.holds Try.pinned (OpenSpec.upto fnExactRanksOfSpec)

/-- 'laws.FnExactCountShares', WHERE WHAT IT READS IS OF BULK AT MOST 1048576: true; the input reads as it did. -/
def fnExactCountSharesUptoRow : OpenClaim := { program := "ytbegmfmabcpofaa", sum := "806dca26b69b4c0094c5dfdf596c0925fb0605be0d314238f3728bc96bd76a6a", func := "loop.example/g00908/laws.FnExactCountShares", spec := "fnExactCountShares", apart := false, narrowed := true }
def FnExactCountSharesUptoSaid : Prop := fnExactCountSharesUptoRow.holds Try.pinned (OpenSpec.upto fnExactCountSharesSpec)

/-- 'laws.FnExactConcentrationOf', WHERE WHAT IT READS IS OF BULK AT MOST 1048576: true; the input reads as it did. -/
def fnExactConcentrationOfUptoRow : OpenClaim := { program := "ytbegmfmabcpofaa", sum := "806dca26b69b4c0094c5dfdf596c0925fb0605be0d314238f3728bc96bd76a6a", func := "loop.example/g00908/laws.FnExactConcentrationOf", spec := "fnExactConcentrationOf", apart := false, narrowed := true }
def FnExactConcentrationOfUptoSaid : Prop := fnExactConcentrationOfUptoRow.holds Try.pinned (OpenSpec.upto fnExactConcentrationOfSpec)

/-- 'laws.FnExactDissimilarityOf', WHERE WHAT IT READS IS OF BULK AT MOST 1048576: true; the input reads as it did. -/
def fnExactDissimilarityOfUptoRow : OpenClaim := { program := "ytbegmfmabcpofaa", sum := "806dca26b69b4c0094c5dfdf596c0925fb0605be0d314238f3728bc96bd76a6a", func := "loop.example/g00908/laws.FnExactDissimilarityOf", spec := "fnExactDissimilarityOf", apart := false, narrowed := true }
def FnExactDissimilarityOfUptoSaid : Prop := fnExactDissimilarityOfUptoRow.holds Try.pinned (OpenSpec.upto fnExactDissimilarityOfSpec)

/-- 'laws.FnExactMaskOf', WHERE WHAT IT READS IS OF BULK AT MOST 1048576: true; the input reads as it did. -/
def fnExactMaskOfUptoRow : OpenClaim := { program := "ytbegmfmabcpofaa", sum := "806dca26b69b4c0094c5dfdf596c0925fb0605be0d314238f3728bc96bd76a6a", func := "loop.example/g00908/laws.FnExactMaskOf", spec := "fnExactMaskOf", apart := false, narrowed := true }
def FnExactMaskOfUptoSaid : Prop := fnExactMaskOfUptoRow.holds Try.pinned (OpenSpec.upto fnExactMaskOfSpec)

/-- 'laws.FnExactShareOf', WHERE WHAT IT READS IS OF BULK AT MOST 1048576: true; the input reads as it did. -/
def fnExactShareOfUptoRow : OpenClaim := { program := "ytbegmfmabcpofaa", sum := "806dca26b69b4c0094c5dfdf596c0925fb0605be0d314238f3728bc96bd76a6a", func := "loop.example/g00908/laws.FnExactShareOf", spec := "fnExactShareOf", apart := false, narrowed := true }
def FnExactShareOfUptoSaid : Prop := fnExactShareOfUptoRow.holds Try.pinned (OpenSpec.upto fnExactShareOfSpec)

/-- 'laws.FnExactMaskRepair', WHERE WHAT IT READS IS OF BULK AT MOST 1048576: true; the input reads as it did. -/
def fnExactMaskRepairUptoRow : OpenClaim := { program := "ytbegmfmabcpofaa", sum := "806dca26b69b4c0094c5dfdf596c0925fb0605be0d314238f3728bc96bd76a6a", func := "loop.example/g00908/laws.FnExactMaskRepair", spec := "fnExactMaskRepair", apart := false, narrowed := true }
def FnExactMaskRepairUptoSaid : Prop := fnExactMaskRepairUptoRow.holds Try.pinned (OpenSpec.upto fnExactMaskRepairSpec)

/-- 'laws.FnExactSumPresent', WHERE WHAT IT READS IS OF BULK AT MOST 1048576: true; the input reads as it did. -/
def fnExactSumPresentUptoRow : OpenClaim := { program := "ytbegmfmabcpofaa", sum := "806dca26b69b4c0094c5dfdf596c0925fb0605be0d314238f3728bc96bd76a6a", func := "loop.example/g00908/laws.FnExactSumPresent", spec := "fnExactSumPresent", apart := false, narrowed := true }
def FnExactSumPresentUptoSaid : Prop := fnExactSumPresentUptoRow.holds Try.pinned (OpenSpec.upto fnExactSumPresentSpec)

/-- 'laws.FnProfiles', WHERE WHAT IT READS IS OF BULK AT MOST 1048576: true; the input reads as it did. -/
def fnProfilesUptoRow : OpenClaim := { program := "ytbegmfmabcpofaa", sum := "806dca26b69b4c0094c5dfdf596c0925fb0605be0d314238f3728bc96bd76a6a", func := "loop.example/g00908/laws.FnProfiles", spec := "fnProfiles", apart := false, narrowed := true }
def FnProfilesUptoSaid : Prop := fnProfilesUptoRow.holds Try.pinned (OpenSpec.upto fnProfilesSpec)

/-- 'laws.FnMasks', WHERE WHAT IT READS IS OF BULK AT MOST 1048576: true; the input reads as it did. -/
def fnMasksUptoRow : OpenClaim := { program := "ytbegmfmabcpofaa", sum := "806dca26b69b4c0094c5dfdf596c0925fb0605be0d314238f3728bc96bd76a6a", func := "loop.example/g00908/laws.FnMasks", spec := "fnMasks", apart := false, narrowed := true }
def FnMasksUptoSaid : Prop := fnMasksUptoRow.holds Try.pinned (OpenSpec.upto fnMasksSpec)

end Rows
end Go.Proofs.Ytbegmfmabcpofaa
