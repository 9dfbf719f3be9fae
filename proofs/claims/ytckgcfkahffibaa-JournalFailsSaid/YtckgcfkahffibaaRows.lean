/-
  No cell of these rows narrows 'for every input' (looked for: loops, veiled, ifaces, maps, wideKeys, modest, calm, conditions, laid).
  DERIVED. THE GIVEN ROWS OF THIS SEAT. 9 by the template 'for every input the law returns true; each argument reads behind the call as it read before'; 0 by the template 'total and deterministic' (their statements: YtckgcfkahffibaaTotals.lean).
  GIVEN WITH THE SEED: the statements are not yours to turn. If you find one false, say at which input.
  Laid BY PROGRAM, IN A SANDBOX (cutbox-rows.mjs): the forced cells as the released guide's own fill.sh prints them over the translation 7758c3e9cd4a9416… (all of the seat's roots in one cut). By AI agents, Wed Nov 11 2026. No macro, syntax, notation, axiom, sorry.
-/
import Derived.Test.YtckgcfkahffibaaChecked
import GoSem.Claim
import GoSem.ClaimJoined
import GoSem.ClaimMapViews
import Derived.JoinedTies
import Derived.KernelRfl
namespace Go.Proofs.Ytckgcfkahffibaa
/- THE CELL 'sum', in the pinned program and in every row, IS THE sha256 OF THE DUMP (.gsa) THAT YtckgcfkahffibaaProg.lean LOADS. Nothing in Lean hashes anything: it is a label: what it is worth is what the hold of that sum in a sandbox is worth. -/
noncomputable def Try.pinned : Pinned := { name := "ytckgcfkahffibaa", sum := "7758c3e9cd4a941667470ab55ef6ad2e83e7bb10b5c1f56529c5711b8dc62d67", checked := Try.checked }
namespace Rows
def none {H : Type} : Left H := { results := [], args := [] }

/-- 'hawserlaw23.DiskKept': WHATEVER THE INPUT: true; the input reads as it did. -/
def diskKeptSpec : ChangeSpec := { name := "diskKept", fn := fun _ => fun
  | [d] => { results := [.lit (.bool true)], args := [d] }
  | _ => none }
def diskKeptRow : OpenClaim := { program := "ytckgcfkahffibaa", sum := "7758c3e9cd4a941667470ab55ef6ad2e83e7bb10b5c1f56529c5711b8dc62d67", func := "hawser/hawserlaw23.DiskKept", spec := "diskKept", apart := false }
def DiskKeptSaid : Prop := diskKeptRow.holds Try.pinned (OpenSpec.ofChange diskKeptSpec)

/-- ITS FALSE NEIGHBOUR: 'it returns false'. Refute it at one input. -/
def diskKeptWrong : ChangeSpec := { name := "diskKept", fn := fun _ => fun
  | [d] => { results := [.lit (.bool false)], args := [d] }
  | _ => none }
def DiskKeptWrongFalsely : Prop := diskKeptRow.holds Try.pinned (OpenSpec.ofChange diskKeptWrong)

/-- 'hawserlaw23.DiskCuts': WHATEVER THE INPUT: true; the input reads as it did. -/
def diskCutsSpec : ChangeSpec := { name := "diskCuts", fn := fun _ => fun
  | [d1, d2] => { results := [.lit (.bool true)], args := [d1, d2] }
  | _ => none }
def diskCutsRow : OpenClaim := { program := "ytckgcfkahffibaa", sum := "7758c3e9cd4a941667470ab55ef6ad2e83e7bb10b5c1f56529c5711b8dc62d67", func := "hawser/hawserlaw23.DiskCuts", spec := "diskCuts", apart := false }
def DiskCutsSaid : Prop := diskCutsRow.holds Try.pinned (OpenSpec.ofChange diskCutsSpec)

/-- ITS FALSE NEIGHBOUR: 'it returns false'. Refute it at one input. -/
def diskCutsWrong : ChangeSpec := { name := "diskCuts", fn := fun _ => fun
  | [d1, d2] => { results := [.lit (.bool false)], args := [d1, d2] }
  | _ => none }
def DiskCutsWrongFalsely : Prop := diskCutsRow.holds Try.pinned (OpenSpec.ofChange diskCutsWrong)

/-- 'hawserlaw23.DiskNumbers': WHATEVER THE INPUT: true; the input reads as it did. -/
def diskNumbersSpec : ChangeSpec := { name := "diskNumbers", fn := fun _ => fun
  | [] => { results := [.lit (.bool true)], args := [] }
  | _ => none }
def diskNumbersRow : OpenClaim := { program := "ytckgcfkahffibaa", sum := "7758c3e9cd4a941667470ab55ef6ad2e83e7bb10b5c1f56529c5711b8dc62d67", func := "hawser/hawserlaw23.DiskNumbers", spec := "diskNumbers", apart := false }
def DiskNumbersSaid : Prop := diskNumbersRow.holds Try.pinned (OpenSpec.ofChange diskNumbersSpec)

/-- ITS FALSE NEIGHBOUR: 'it returns false'. Refute it at one input. -/
def diskNumbersWrong : ChangeSpec := { name := "diskNumbers", fn := fun _ => fun
  | [] => { results := [.lit (.bool false)], args := [] }
  | _ => none }
def DiskNumbersWrongFalsely : Prop := diskNumbersRow.holds Try.pinned (OpenSpec.ofChange diskNumbersWrong)

/-- 'hawserlaw23.DiskFails': WHATEVER THE INPUT: true; the input reads as it did. -/
def diskFailsSpec : ChangeSpec := { name := "diskFails", fn := fun _ => fun
  | [d1, d2] => { results := [.lit (.bool true)], args := [d1, d2] }
  | _ => none }
def diskFailsRow : OpenClaim := { program := "ytckgcfkahffibaa", sum := "7758c3e9cd4a941667470ab55ef6ad2e83e7bb10b5c1f56529c5711b8dc62d67", func := "hawser/hawserlaw23.DiskFails", spec := "diskFails", apart := false }
def DiskFailsSaid : Prop := diskFailsRow.holds Try.pinned (OpenSpec.ofChange diskFailsSpec)

/-- ITS FALSE NEIGHBOUR: 'it returns false'. Refute it at one input. -/
def diskFailsWrong : ChangeSpec := { name := "diskFails", fn := fun _ => fun
  | [d1, d2] => { results := [.lit (.bool false)], args := [d1, d2] }
  | _ => none }
def DiskFailsWrongFalsely : Prop := diskFailsRow.holds Try.pinned (OpenSpec.ofChange diskFailsWrong)

/-- 'hawserlaw24.JournalHolds': WHATEVER THE INPUT: true; the input reads as it did. -/
def journalHoldsSpec : ChangeSpec := { name := "journalHolds", fn := fun _ => fun
  | [d] => { results := [.lit (.bool true)], args := [d] }
  | _ => none }
def journalHoldsRow : OpenClaim := { program := "ytckgcfkahffibaa", sum := "7758c3e9cd4a941667470ab55ef6ad2e83e7bb10b5c1f56529c5711b8dc62d67", func := "hawser/hawserlaw24.JournalHolds", spec := "journalHolds", apart := false }
def JournalHoldsSaid : Prop := journalHoldsRow.holds Try.pinned (OpenSpec.ofChange journalHoldsSpec)

/-- ITS FALSE NEIGHBOUR: 'it returns false'. Refute it at one input. -/
def journalHoldsWrong : ChangeSpec := { name := "journalHolds", fn := fun _ => fun
  | [d] => { results := [.lit (.bool false)], args := [d] }
  | _ => none }
def JournalHoldsWrongFalsely : Prop := journalHoldsRow.holds Try.pinned (OpenSpec.ofChange journalHoldsWrong)

/-- 'hawserlaw24.JournalCuts': WHATEVER THE INPUT: true; the input reads as it did. -/
def journalCutsSpec : ChangeSpec := { name := "journalCuts", fn := fun _ => fun
  | [d1, d2, d3, d4, d5] => { results := [.lit (.bool true)], args := [d1, d2, d3, d4, d5] }
  | _ => none }
def journalCutsRow : OpenClaim := { program := "ytckgcfkahffibaa", sum := "7758c3e9cd4a941667470ab55ef6ad2e83e7bb10b5c1f56529c5711b8dc62d67", func := "hawser/hawserlaw24.JournalCuts", spec := "journalCuts", apart := false }
def JournalCutsSaid : Prop := journalCutsRow.holds Try.pinned (OpenSpec.ofChange journalCutsSpec)

/-- ITS FALSE NEIGHBOUR: 'it returns false'. Refute it at one input. -/
def journalCutsWrong : ChangeSpec := { name := "journalCuts", fn := fun _ => fun
  | [d1, d2, d3, d4, d5] => { results := [.lit (.bool false)], args := [d1, d2, d3, d4, d5] }
  | _ => none }
def JournalCutsWrongFalsely : Prop := journalCutsRow.holds Try.pinned (OpenSpec.ofChange journalCutsWrong)

/-- 'hawserlaw24.JournalEvery': WHATEVER THE INPUT: true; the input reads as it did. -/
def journalEverySpec : ChangeSpec := { name := "journalEvery", fn := fun _ => fun
  | [d] => { results := [.lit (.bool true)], args := [d] }
  | _ => none }
def journalEveryRow : OpenClaim := { program := "ytckgcfkahffibaa", sum := "7758c3e9cd4a941667470ab55ef6ad2e83e7bb10b5c1f56529c5711b8dc62d67", func := "hawser/hawserlaw24.JournalEvery", spec := "journalEvery", apart := false }
def JournalEverySaid : Prop := journalEveryRow.holds Try.pinned (OpenSpec.ofChange journalEverySpec)

/-- ITS FALSE NEIGHBOUR: 'it returns false'. Refute it at one input. -/
def journalEveryWrong : ChangeSpec := { name := "journalEvery", fn := fun _ => fun
  | [d] => { results := [.lit (.bool false)], args := [d] }
  | _ => none }
def JournalEveryWrongFalsely : Prop := journalEveryRow.holds Try.pinned (OpenSpec.ofChange journalEveryWrong)

/-- 'hawserlaw24.JournalTwice': WHATEVER THE INPUT: true; the input reads as it did. -/
def journalTwiceSpec : ChangeSpec := { name := "journalTwice", fn := fun _ => fun
  | [d1, d2, d3] => { results := [.lit (.bool true)], args := [d1, d2, d3] }
  | _ => none }
def journalTwiceRow : OpenClaim := { program := "ytckgcfkahffibaa", sum := "7758c3e9cd4a941667470ab55ef6ad2e83e7bb10b5c1f56529c5711b8dc62d67", func := "hawser/hawserlaw24.JournalTwice", spec := "journalTwice", apart := false }
def JournalTwiceSaid : Prop := journalTwiceRow.holds Try.pinned (OpenSpec.ofChange journalTwiceSpec)

/-- ITS FALSE NEIGHBOUR: 'it returns false'. Refute it at one input. -/
def journalTwiceWrong : ChangeSpec := { name := "journalTwice", fn := fun _ => fun
  | [d1, d2, d3] => { results := [.lit (.bool false)], args := [d1, d2, d3] }
  | _ => none }
def JournalTwiceWrongFalsely : Prop := journalTwiceRow.holds Try.pinned (OpenSpec.ofChange journalTwiceWrong)

/-- 'hawserlaw24.JournalFails': WHATEVER THE INPUT: true; the input reads as it did. -/
def journalFailsSpec : ChangeSpec := { name := "journalFails", fn := fun _ => fun
  | [d1, d2, d3] => { results := [.lit (.bool true)], args := [d1, d2, d3] }
  | _ => none }
def journalFailsRow : OpenClaim := { program := "ytckgcfkahffibaa", sum := "7758c3e9cd4a941667470ab55ef6ad2e83e7bb10b5c1f56529c5711b8dc62d67", func := "hawser/hawserlaw24.JournalFails", spec := "journalFails", apart := false }
def JournalFailsSaid : Prop := journalFailsRow.holds Try.pinned (OpenSpec.ofChange journalFailsSpec)

/-- ITS FALSE NEIGHBOUR: 'it returns false'. Refute it at one input. -/
def journalFailsWrong : ChangeSpec := { name := "journalFails", fn := fun _ => fun
  | [d1, d2, d3] => { results := [.lit (.bool false)], args := [d1, d2, d3] }
  | _ => none }
def JournalFailsWrongFalsely : Prop := journalFailsRow.holds Try.pinned (OpenSpec.ofChange journalFailsWrong)

/- THE SECOND FORM. 'bulk': how many values and letters a reading holds, each counted each time it is reached (what is shared counts as often as it is met; a slice's spare places count too). A statement '..UptoSaid' is the law's where the arguments, and the package variables that the reading takes, are together of bulk at most 1048576: NARROWER than '..Said'. Prove '..Said' where nothing that the law and all that it calls make is longer than what came in: it says more and counts as full. Else prove '..UptoSaid'. A law counts once. -/
mutual
def uptoBulk {H : Type} : DataW H → Nat
  | .lit (.string bytes) => bytes.length + 1
  | .lit _ => 1
  | .nil => 1
  | .ptr d => uptoBulk d + 1
  | .slice elems spare => uptoBulkAll elems + uptoBulkAll spare + 1
  | .agg parts => uptoBulkAll parts + 1
  | .iface _ d => uptoBulk d + 1
  | .map entries => uptoBulkEntries entries + 1
  | .held _ => 1
def uptoBulkAll {H : Type} : List (DataW H) → Nat
  | [] => 0
  | d :: r => uptoBulk d + uptoBulkAll r
def uptoBulkEntries {H : Type} : List (Lit × DataW H) → Nat
  | [] => 0
  | x :: r => uptoBulkEntry x + uptoBulkEntries r
def uptoBulkEntry {H : Type} : Lit × DataW H → Nat
  | (.string bytes, d) => bytes.length + uptoBulk d + 1
  | (_, d) => uptoBulk d + 1
 end
def uptoSmall : (H : Type) → List (DataW H) → Bool := fun _ ds => decide (uptoBulkAll ds ≤ 1048576)
def OpenSpec.upto (s : _root_.Go.ChangeSpec) : _root_.Go.OpenSpec := { _root_.Go.OpenSpec.ofChange s with cond := some uptoSmall }

/-- 'hawserlaw23.DiskKept', WHERE WHAT IT READS IS OF BULK AT MOST 1048576: true; the input reads as it did. -/
def diskKeptUptoRow : OpenClaim := { program := "ytckgcfkahffibaa", sum := "7758c3e9cd4a941667470ab55ef6ad2e83e7bb10b5c1f56529c5711b8dc62d67", func := "hawser/hawserlaw23.DiskKept", spec := "diskKept", apart := false, narrowed := true }
def DiskKeptUptoSaid : Prop := diskKeptUptoRow.holds Try.pinned (OpenSpec.upto diskKeptSpec)

/-- 'hawserlaw23.DiskCuts', WHERE WHAT IT READS IS OF BULK AT MOST 1048576: true; the input reads as it did. -/
def diskCutsUptoRow : OpenClaim := { program := "ytckgcfkahffibaa", sum := "7758c3e9cd4a941667470ab55ef6ad2e83e7bb10b5c1f56529c5711b8dc62d67", func := "hawser/hawserlaw23.DiskCuts", spec := "diskCuts", apart := false, narrowed := true }
def DiskCutsUptoSaid : Prop := diskCutsUptoRow.holds Try.pinned (OpenSpec.upto diskCutsSpec)

/-- 'hawserlaw23.DiskNumbers', WHERE WHAT IT READS IS OF BULK AT MOST 1048576: true; the input reads as it did. -/
def diskNumbersUptoRow : OpenClaim := { program := "ytckgcfkahffibaa", sum := "7758c3e9cd4a941667470ab55ef6ad2e83e7bb10b5c1f56529c5711b8dc62d67", func := "hawser/hawserlaw23.DiskNumbers", spec := "diskNumbers", apart := false, narrowed := true }
def DiskNumbersUptoSaid : Prop := diskNumbersUptoRow.holds Try.pinned (OpenSpec.upto diskNumbersSpec)

/-- 'hawserlaw23.DiskFails', WHERE WHAT IT READS IS OF BULK AT MOST 1048576: true; the input reads as it did. -/
def diskFailsUptoRow : OpenClaim := { program := "ytckgcfkahffibaa", sum := "7758c3e9cd4a941667470ab55ef6ad2e83e7bb10b5c1f56529c5711b8dc62d67", func := "hawser/hawserlaw23.DiskFails", spec := "diskFails", apart := false, narrowed := true }
def DiskFailsUptoSaid : Prop := diskFailsUptoRow.holds Try.pinned (OpenSpec.upto diskFailsSpec)

/-- 'hawserlaw24.JournalHolds', WHERE WHAT IT READS IS OF BULK AT MOST 1048576: true; the input reads as it did. -/
def journalHoldsUptoRow : OpenClaim := { program := "ytckgcfkahffibaa", sum := "7758c3e9cd4a941667470ab55ef6ad2e83e7bb10b5c1f56529c5711b8dc62d67", func := "hawser/hawserlaw24.JournalHolds", spec := "journalHolds", apart := false, narrowed := true }
def JournalHoldsUptoSaid : Prop := journalHoldsUptoRow.holds Try.pinned (OpenSpec.upto journalHoldsSpec)

/-- 'hawserlaw24.JournalCuts', WHERE WHAT IT READS IS OF BULK AT MOST 1048576: true; the input reads as it did. -/
def journalCutsUptoRow : OpenClaim := { program := "ytckgcfkahffibaa", sum := "7758c3e9cd4a941667470ab55ef6ad2e83e7bb10b5c1f56529c5711b8dc62d67", func := "hawser/hawserlaw24.JournalCuts", spec := "journalCuts", apart := false, narrowed := true }
def JournalCutsUptoSaid : Prop := journalCutsUptoRow.holds Try.pinned (OpenSpec.upto journalCutsSpec)

/-- 'hawserlaw24.JournalEvery', WHERE WHAT IT READS IS OF BULK AT MOST 1048576: true; the input reads as it did. -/
def journalEveryUptoRow : OpenClaim := { program := "ytckgcfkahffibaa", sum := "7758c3e9cd4a941667470ab55ef6ad2e83e7bb10b5c1f56529c5711b8dc62d67", func := "hawser/hawserlaw24.JournalEvery", spec := "journalEvery", apart := false, narrowed := true }
def JournalEveryUptoSaid : Prop := journalEveryUptoRow.holds Try.pinned (OpenSpec.upto journalEverySpec)

/-- 'hawserlaw24.JournalTwice', WHERE WHAT IT READS IS OF BULK AT MOST 1048576: true; the input reads as it did. -/
def journalTwiceUptoRow : OpenClaim := { program := "ytckgcfkahffibaa", sum := "7758c3e9cd4a941667470ab55ef6ad2e83e7bb10b5c1f56529c5711b8dc62d67", func := "hawser/hawserlaw24.JournalTwice", spec := "journalTwice", apart := false, narrowed := true }
def JournalTwiceUptoSaid : Prop := journalTwiceUptoRow.holds Try.pinned (OpenSpec.upto journalTwiceSpec)

/-- 'hawserlaw24.JournalFails', WHERE WHAT IT READS IS OF BULK AT MOST 1048576: true; the input reads as it did. -/
def journalFailsUptoRow : OpenClaim := { program := "ytckgcfkahffibaa", sum := "7758c3e9cd4a941667470ab55ef6ad2e83e7bb10b5c1f56529c5711b8dc62d67", func := "hawser/hawserlaw24.JournalFails", spec := "journalFails", apart := false, narrowed := true }
def JournalFailsUptoSaid : Prop := journalFailsUptoRow.holds Try.pinned (OpenSpec.upto journalFailsSpec)

end Rows
end Go.Proofs.Ytckgcfkahffibaa
