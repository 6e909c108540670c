/-
  No cell of these rows narrows 'for every input' (looked for: loops, veiled, ifaces, maps, wideKeys, modest, calm, conditions, laid).
  DERIVED. THE GIVEN ROWS OF THIS SEAT. 5 by the template 'for every input the law returns true; each argument reads behind the call as it read before'; 0 by the template 'total and deterministic' (their statements: YtbgnaamdlcggjaaGreatTotals.lean).
  GIVEN WITH THE SEED: the statements are not yours to turn. If you find one false, say at which input.
  Laid BY PROGRAM, IN A SANDBOX (cutbox-rows.mjs): the forced cells as the released guide's own fill.sh prints them over the translation e3cf308c63a2650f… (all of the seat's roots in one cut). By AI agents, Wed Nov 11 2026. No macro, syntax, notation, axiom, sorry.
-/
import Derived.Test.YtbgnaamdlcggjaaGreatChecked
import GoSem.Claim
import GoSem.ClaimJoined
import GoSem.ClaimMapViews
import Derived.JoinedTies
import Derived.KernelRfl
namespace Go.Proofs.YtbgnaamdlcggjaaGreat
/- THE CELL 'sum', in the pinned program and in every row, IS THE sha256 OF THE DUMP (.gsa) THAT YtbgnaamdlcggjaaGreatProg.lean LOADS. Nothing in Lean hashes anything: it is a label: what it is worth is what the hold of that sum in a sandbox is worth. -/
noncomputable def Tryz.pinned : Pinned := { name := "ytbgnaamdlcggjaagreat", sum := "e3cf308c63a2650f313189be744bf2d4d37e77e77a44a8ec79303c0c8278cd58", checked := Tryz.checked }
namespace Rows
def none {H : Type} : Left H := { results := [], args := [] }

/-- 'laws.FnAttacks': WHATEVER THE INPUT: true; the input reads as it did. -/
def fnAttacksSpec : ChangeSpec := { name := "fnAttacks", fn := fun _ => fun
  | [d1, d2] => { results := [.lit (.bool true)], args := [d1, d2] }
  | _ => none }
def fnAttacksRow : OpenClaim := { program := "ytbgnaamdlcggjaagreat", sum := "e3cf308c63a2650f313189be744bf2d4d37e77e77a44a8ec79303c0c8278cd58", func := "loop.example/g00908/laws.FnAttacks", spec := "fnAttacks", unfollowed := true, recurses := true, apart := false }
def FnAttacksSaid : Prop := fnAttacksRow.holds Tryz.pinned (OpenSpec.ofChange fnAttacksSpec)

/-- ITS FALSE NEIGHBOUR: 'it returns false'. Refute it at one input. -/
def fnAttacksWrong : ChangeSpec := { name := "fnAttacks", fn := fun _ => fun
  | [d1, d2] => { results := [.lit (.bool false)], args := [d1, d2] }
  | _ => none }
def FnAttacksWrongFalsely : Prop := fnAttacksRow.holds Tryz.pinned (OpenSpec.ofChange fnAttacksWrong)

/-- 'laws.FnAnswers': WHATEVER THE INPUT: true; the input reads as it did. -/
def fnAnswersSpec : ChangeSpec := { name := "fnAnswers", fn := fun _ => fun
  | [d1, d2] => { results := [.lit (.bool true)], args := [d1, d2] }
  | _ => none }
def fnAnswersRow : OpenClaim := { program := "ytbgnaamdlcggjaagreat", sum := "e3cf308c63a2650f313189be744bf2d4d37e77e77a44a8ec79303c0c8278cd58", func := "loop.example/g00908/laws.FnAnswers", spec := "fnAnswers", unfollowed := true, recurses := true, apart := false }
def FnAnswersSaid : Prop := fnAnswersRow.holds Tryz.pinned (OpenSpec.ofChange fnAnswersSpec)

/-- ITS FALSE NEIGHBOUR: 'it returns false'. Refute it at one input. -/
def fnAnswersWrong : ChangeSpec := { name := "fnAnswers", fn := fun _ => fun
  | [d1, d2] => { results := [.lit (.bool false)], args := [d1, d2] }
  | _ => none }
def FnAnswersWrongFalsely : Prop := fnAnswersRow.holds Tryz.pinned (OpenSpec.ofChange fnAnswersWrong)

/-- 'laws.FnFederated': WHATEVER THE INPUT: true; the input reads as it did. -/
def fnFederatedSpec : ChangeSpec := { name := "fnFederated", fn := fun _ => fun
  | [d1, d2] => { results := [.lit (.bool true)], args := [d1, d2] }
  | _ => none }
def fnFederatedRow : OpenClaim := { program := "ytbgnaamdlcggjaagreat", sum := "e3cf308c63a2650f313189be744bf2d4d37e77e77a44a8ec79303c0c8278cd58", func := "loop.example/g00908/laws.FnFederated", spec := "fnFederated", apart := false }
def FnFederatedSaid : Prop := fnFederatedRow.holds Tryz.pinned (OpenSpec.ofChange fnFederatedSpec)

/-- ITS FALSE NEIGHBOUR: 'it returns false'. Refute it at one input. -/
def fnFederatedWrong : ChangeSpec := { name := "fnFederated", fn := fun _ => fun
  | [d1, d2] => { results := [.lit (.bool false)], args := [d1, d2] }
  | _ => none }
def FnFederatedWrongFalsely : Prop := fnFederatedRow.holds Tryz.pinned (OpenSpec.ofChange fnFederatedWrong)

/-- 'laws.FnCompletions': WHATEVER THE INPUT: true; the input reads as it did. -/
def fnCompletionsSpec : ChangeSpec := { name := "fnCompletions", fn := fun _ => fun
  | [d1, d2] => { results := [.lit (.bool true)], args := [d1, d2] }
  | _ => none }
def fnCompletionsRow : OpenClaim := { program := "ytbgnaamdlcggjaagreat", sum := "e3cf308c63a2650f313189be744bf2d4d37e77e77a44a8ec79303c0c8278cd58", func := "loop.example/g00908/laws.FnCompletions", spec := "fnCompletions", unfollowed := true, recurses := true, apart := false }
def FnCompletionsSaid : Prop := fnCompletionsRow.holds Tryz.pinned (OpenSpec.ofChange fnCompletionsSpec)

/-- ITS FALSE NEIGHBOUR: 'it returns false'. Refute it at one input. -/
def fnCompletionsWrong : ChangeSpec := { name := "fnCompletions", fn := fun _ => fun
  | [d1, d2] => { results := [.lit (.bool false)], args := [d1, d2] }
  | _ => none }
def FnCompletionsWrongFalsely : Prop := fnCompletionsRow.holds Tryz.pinned (OpenSpec.ofChange fnCompletionsWrong)

/-- 'laws.FnReleases': WHATEVER THE INPUT: true; the input reads as it did. -/
def fnReleasesSpec : ChangeSpec := { name := "fnReleases", fn := fun _ => fun
  | [d1, d2] => { results := [.lit (.bool true)], args := [d1, d2] }
  | _ => none }
def fnReleasesRow : OpenClaim := { program := "ytbgnaamdlcggjaagreat", sum := "e3cf308c63a2650f313189be744bf2d4d37e77e77a44a8ec79303c0c8278cd58", func := "loop.example/g00908/laws.FnReleases", spec := "fnReleases", unfollowed := true, recurses := true, apart := false }
def FnReleasesSaid : Prop := fnReleasesRow.holds Tryz.pinned (OpenSpec.ofChange fnReleasesSpec)

/-- ITS FALSE NEIGHBOUR: 'it returns false'. Refute it at one input. -/
def fnReleasesWrong : ChangeSpec := { name := "fnReleases", fn := fun _ => fun
  | [d1, d2] => { results := [.lit (.bool false)], args := [d1, d2] }
  | _ => none }
def FnReleasesWrongFalsely : Prop := fnReleasesRow.holds Tryz.pinned (OpenSpec.ofChange fnReleasesWrong)

/- THE SECOND FORM. 'bulk': how many values and letters a reading holds, each counted each time it is reached (what is shared counts as often as it is met; a slice's spare places count too). A statement '..UptoSaid' is the law's where the arguments, and the package variables that the reading takes, are together of bulk at most 1048576: NARROWER than '..Said'. Prove '..Said' where nothing that the law and all that it calls make is longer than what came in: it says more and counts as full. Else prove '..UptoSaid'. A law counts once. -/
mutual
def uptoBulk {H : Type} : DataW H → Nat
  | .lit (.string bytes) => bytes.length + 1
  | .lit _ => 1
  | .nil => 1
  | .ptr d => uptoBulk d + 1
  | .slice elems spare => uptoBulkAll elems + uptoBulkAll spare + 1
  | .agg parts => uptoBulkAll parts + 1
  | .iface _ d => uptoBulk d + 1
  | .map entries => uptoBulkEntries entries + 1
  | .held _ => 1
def uptoBulkAll {H : Type} : List (DataW H) → Nat
  | [] => 0
  | d :: r => uptoBulk d + uptoBulkAll r
def uptoBulkEntries {H : Type} : List (Lit × DataW H) → Nat
  | [] => 0
  | x :: r => uptoBulkEntry x + uptoBulkEntries r
def uptoBulkEntry {H : Type} : Lit × DataW H → Nat
  | (.string bytes, d) => bytes.length + uptoBulk d + 1
  | (_, d) => uptoBulk d + 1
 end
def uptoSmall : (H : Type) → List (DataW H) → Bool := fun _ ds => decide (uptoBulkAll ds ≤ 1048576)
def OpenSpec.upto (s : _root_.Go.ChangeSpec) : _root_.Go.OpenSpec := { _root_.Go.OpenSpec.ofChange s with cond := some uptoSmall }

/-- 'laws.FnAttacks', WHERE WHAT IT READS IS OF BULK AT MOST 1048576: true; the input reads as it did. -/
def fnAttacksUptoRow : OpenClaim := { program := "ytbgnaamdlcggjaagreat", sum := "e3cf308c63a2650f313189be744bf2d4d37e77e77a44a8ec79303c0c8278cd58", func := "loop.example/g00908/laws.FnAttacks", spec := "fnAttacks", unfollowed := true, recurses := true, apart := false, narrowed := true }
def FnAttacksUptoSaid : Prop := fnAttacksUptoRow.holds Tryz.pinned (OpenSpec.upto fnAttacksSpec)

/-- 'laws.FnAnswers', WHERE WHAT IT READS IS OF BULK AT MOST 1048576: true; the input reads as it did. -/
def fnAnswersUptoRow : OpenClaim := { program := "ytbgnaamdlcggjaagreat", sum := "e3cf308c63a2650f313189be744bf2d4d37e77e77a44a8ec79303c0c8278cd58", func := "loop.example/g00908/laws.FnAnswers", spec := "fnAnswers", unfollowed := true, recurses := true, apart := false, narrowed := true }
def FnAnswersUptoSaid : Prop := fnAnswersUptoRow.holds Tryz.pinned (OpenSpec.upto fnAnswersSpec)

/-- 'laws.FnFederated', WHERE WHAT IT READS IS OF BULK AT MOST 1048576: true; the input reads as it did. -/
def fnFederatedUptoRow : OpenClaim := { program := "ytbgnaamdlcggjaagreat", sum := "e3cf308c63a2650f313189be744bf2d4d37e77e77a44a8ec79303c0c8278cd58", func := "loop.example/g00908/laws.FnFederated", spec := "fnFederated", apart := false, narrowed := true }
def FnFederatedUptoSaid : Prop := fnFederatedUptoRow.holds Tryz.pinned (OpenSpec.upto fnFederatedSpec)

/-- 'laws.FnCompletions', WHERE WHAT IT READS IS OF BULK AT MOST 1048576: true; the input reads as it did. -/
def fnCompletionsUptoRow : OpenClaim := { program := "ytbgnaamdlcggjaagreat", sum := "e3cf308c63a2650f313189be744bf2d4d37e77e77a44a8ec79303c0c8278cd58", func := "loop.example/g00908/laws.FnCompletions", spec := "fnCompletions", unfollowed := true, recurses := true, apart := false, narrowed := true }
def FnCompletionsUptoSaid : Prop := fnCompletionsUptoRow.holds Tryz.pinned (OpenSpec.upto fnCompletionsSpec)

/-- 'laws.FnReleases', WHERE WHAT IT READS IS OF BULK AT MOST 1048576: true; the input reads as it did. -/
def fnReleasesUptoRow : OpenClaim := { program := "ytbgnaamdlcggjaagreat", sum := "e3cf308c63a2650f313189be744bf2d4d37e77e77a44a8ec79303c0c8278cd58", func := "loop.example/g00908/laws.FnReleases", spec := "fnReleases", unfollowed := true, recurses := true, apart := false, narrowed := true }
def FnReleasesUptoSaid : Prop := fnReleasesUptoRow.holds Tryz.pinned (OpenSpec.upto fnReleasesSpec)

end Rows
end Go.Proofs.YtbgnaamdlcggjaaGreat
