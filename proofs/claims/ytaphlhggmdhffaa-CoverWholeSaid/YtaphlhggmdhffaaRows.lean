/-
  No cell of these rows narrows 'for every input' (looked for: loops, veiled, ifaces, maps, wideKeys, modest, calm, conditions, laid).
  DERIVED. THE GIVEN ROWS OF THIS SEAT. 4 by the template 'for every input the law returns true; each argument reads behind the call as it read before'; 0 by the template 'total and deterministic' (their statements: YtaphlhggmdhffaaTotals.lean).
  GIVEN WITH THE SEED: the statements are not yours to turn. If you find one false, say at which input.
  Laid BY PROGRAM, IN A SANDBOX (cutbox-rows.mjs): the forced cells as the released guide's own fill.sh prints them over the translation 30b584ed7b4294f4… (all of the seat's roots in one cut). By AI agents, Wed Nov 11 2026. No macro, syntax, notation, axiom, sorry.
-/
import Derived.Test.YtaphlhggmdhffaaChecked
import GoSem.Claim
import GoSem.ClaimJoined
import GoSem.ClaimMapViews
import Derived.JoinedTies
import Derived.KernelRfl
namespace Go.Proofs.Ytaphlhggmdhffaa
/- THE CELL 'sum', in the pinned program and in every row, IS THE sha256 OF THE DUMP (.gsa) THAT YtaphlhggmdhffaaProg.lean LOADS. Nothing in Lean hashes anything: it is a label: what it is worth is what the hold of that sum in a sandbox is worth. -/
noncomputable def Try.pinned : Pinned := { name := "ytaphlhggmdhffaa", sum := "30b584ed7b4294f42e9d93aebd2cb4e597608ffab7c80985923026bcfc19669b", checked := Try.checked }
namespace Rows
def none {H : Type} : Left H := { results := [], args := [] }

/-- 'hawserlaw10.CoverNumbers': WHATEVER THE INPUT: true; the input reads as it did. -/
def coverNumbersSpec : ChangeSpec := { name := "coverNumbers", fn := fun _ => fun
  | [] => { results := [.lit (.bool true)], args := [] }
  | _ => none }
def coverNumbersRow : OpenClaim := { program := "ytaphlhggmdhffaa", sum := "30b584ed7b4294f42e9d93aebd2cb4e597608ffab7c80985923026bcfc19669b", func := "hawser/hawserlaw10.CoverNumbers", spec := "coverNumbers", apart := false }
def CoverNumbersSaid : Prop := coverNumbersRow.holds Try.pinned (OpenSpec.ofChange coverNumbersSpec)

/-- ITS FALSE NEIGHBOUR: 'it returns false'. Refute it at one input. -/
def coverNumbersWrong : ChangeSpec := { name := "coverNumbers", fn := fun _ => fun
  | [] => { results := [.lit (.bool false)], args := [] }
  | _ => none }
def CoverNumbersWrongFalsely : Prop := coverNumbersRow.holds Try.pinned (OpenSpec.ofChange coverNumbersWrong)

/-- 'hawserlaw10.CoverTells': WHATEVER THE INPUT: true; the input reads as it did. -/
def coverTellsSpec : ChangeSpec := { name := "coverTells", fn := fun _ => fun
  | [d1, d2] => { results := [.lit (.bool true)], args := [d1, d2] }
  | _ => none }
def coverTellsRow : OpenClaim := { program := "ytaphlhggmdhffaa", sum := "30b584ed7b4294f42e9d93aebd2cb4e597608ffab7c80985923026bcfc19669b", func := "hawser/hawserlaw10.CoverTells", spec := "coverTells", apart := false }
def CoverTellsSaid : Prop := coverTellsRow.holds Try.pinned (OpenSpec.ofChange coverTellsSpec)

/-- ITS FALSE NEIGHBOUR: 'it returns false'. Refute it at one input. -/
def coverTellsWrong : ChangeSpec := { name := "coverTells", fn := fun _ => fun
  | [d1, d2] => { results := [.lit (.bool false)], args := [d1, d2] }
  | _ => none }
def CoverTellsWrongFalsely : Prop := coverTellsRow.holds Try.pinned (OpenSpec.ofChange coverTellsWrong)

/-- 'hawserlaw10.CoverWhole': WHATEVER THE INPUT: true; the input reads as it did. -/
def coverWholeSpec : ChangeSpec := { name := "coverWhole", fn := fun _ => fun
  | [d1, d2, d3, d4] => { results := [.lit (.bool true)], args := [d1, d2, d3, d4] }
  | _ => none }
def coverWholeRow : OpenClaim := { program := "ytaphlhggmdhffaa", sum := "30b584ed7b4294f42e9d93aebd2cb4e597608ffab7c80985923026bcfc19669b", func := "hawser/hawserlaw10.CoverWhole", spec := "coverWhole", apart := false }
def CoverWholeSaid : Prop := coverWholeRow.holds Try.pinned (OpenSpec.ofChange coverWholeSpec)

/-- ITS FALSE NEIGHBOUR: 'it returns false'. Refute it at one input. -/
def coverWholeWrong : ChangeSpec := { name := "coverWhole", fn := fun _ => fun
  | [d1, d2, d3, d4] => { results := [.lit (.bool false)], args := [d1, d2, d3, d4] }
  | _ => none }
def CoverWholeWrongFalsely : Prop := coverWholeRow.holds Try.pinned (OpenSpec.ofChange coverWholeWrong)

/-- 'hawserlaw10.CoverTurned': WHATEVER THE INPUT: true; the input reads as it did. -/
def coverTurnedSpec : ChangeSpec := { name := "coverTurned", fn := fun _ => fun
  | [d1, d2, d3] => { results := [.lit (.bool true)], args := [d1, d2, d3] }
  | _ => none }
def coverTurnedRow : OpenClaim := { program := "ytaphlhggmdhffaa", sum := "30b584ed7b4294f42e9d93aebd2cb4e597608ffab7c80985923026bcfc19669b", func := "hawser/hawserlaw10.CoverTurned", spec := "coverTurned", apart := false }
def CoverTurnedSaid : Prop := coverTurnedRow.holds Try.pinned (OpenSpec.ofChange coverTurnedSpec)

/-- ITS FALSE NEIGHBOUR: 'it returns false'. Refute it at one input. -/
def coverTurnedWrong : ChangeSpec := { name := "coverTurned", fn := fun _ => fun
  | [d1, d2, d3] => { results := [.lit (.bool false)], args := [d1, d2, d3] }
  | _ => none }
def CoverTurnedWrongFalsely : Prop := coverTurnedRow.holds Try.pinned (OpenSpec.ofChange coverTurnedWrong)

/- THE SECOND FORM. 'bulk': how many values and letters a reading holds, each counted each time it is reached (what is shared counts as often as it is met; a slice's spare places count too). A statement '..UptoSaid' is the law's where the arguments, and the package variables that the reading takes, are together of bulk at most 1048576: NARROWER than '..Said'. Prove '..Said' where nothing that the law and all that it calls make is longer than what came in: it says more and counts as full. Else prove '..UptoSaid'. A law counts once. -/
mutual
def uptoBulk {H : Type} : DataW H → Nat
  | .lit (.string bytes) => bytes.length + 1
  | .lit _ => 1
  | .nil => 1
  | .ptr d => uptoBulk d + 1
  | .slice elems spare => uptoBulkAll elems + uptoBulkAll spare + 1
  | .agg parts => uptoBulkAll parts + 1
  | .iface _ d => uptoBulk d + 1
  | .map entries => uptoBulkEntries entries + 1
  | .held _ => 1
def uptoBulkAll {H : Type} : List (DataW H) → Nat
  | [] => 0
  | d :: r => uptoBulk d + uptoBulkAll r
def uptoBulkEntries {H : Type} : List (Lit × DataW H) → Nat
  | [] => 0
  | x :: r => uptoBulkEntry x + uptoBulkEntries r
def uptoBulkEntry {H : Type} : Lit × DataW H → Nat
  | (.string bytes, d) => bytes.length + uptoBulk d + 1
  | (_, d) => uptoBulk d + 1
 end
def uptoSmall : (H : Type) → List (DataW H) → Bool := fun _ ds => decide (uptoBulkAll ds ≤ 1048576)
def OpenSpec.upto (s : _root_.Go.ChangeSpec) : _root_.Go.OpenSpec := { _root_.Go.OpenSpec.ofChange s with cond := some uptoSmall }

/-- 'hawserlaw10.CoverNumbers', WHERE WHAT IT READS IS OF BULK AT MOST 1048576: true; the input reads as it did. -/
def coverNumbersUptoRow : OpenClaim := { program := "ytaphlhggmdhffaa", sum := "30b584ed7b4294f42e9d93aebd2cb4e597608ffab7c80985923026bcfc19669b", func := "hawser/hawserlaw10.CoverNumbers", spec := "coverNumbers", apart := false, narrowed := true }
def CoverNumbersUptoSaid : Prop := coverNumbersUptoRow.holds Try.pinned (OpenSpec.upto coverNumbersSpec)

/-- 'hawserlaw10.CoverTells', WHERE WHAT IT READS IS OF BULK AT MOST 1048576: true; the input reads as it did. -/
def coverTellsUptoRow : OpenClaim := { program := "ytaphlhggmdhffaa", sum := "30b584ed7b4294f42e9d93aebd2cb4e597608ffab7c80985923026bcfc19669b", func := "hawser/hawserlaw10.CoverTells", spec := "coverTells", apart := false, narrowed := true }
def CoverTellsUptoSaid : Prop := coverTellsUptoRow.holds Try.pinned (OpenSpec.upto coverTellsSpec)

/-- 'hawserlaw10.CoverWhole', WHERE WHAT IT READS IS OF BULK AT MOST 1048576: true; the input reads as it did. -/
def coverWholeUptoRow : OpenClaim := { program := "ytaphlhggmdhffaa", sum := "30b584ed7b4294f42e9d93aebd2cb4e597608ffab7c80985923026bcfc19669b", func := "hawser/hawserlaw10.CoverWhole", spec := "coverWhole", apart := false, narrowed := true }
def CoverWholeUptoSaid : Prop := coverWholeUptoRow.holds Try.pinned (OpenSpec.upto coverWholeSpec)

/-- 'hawserlaw10.CoverTurned', WHERE WHAT IT READS IS OF BULK AT MOST 1048576: true; the input reads as it did. -/
def coverTurnedUptoRow : OpenClaim := { program := "ytaphlhggmdhffaa", sum := "30b584ed7b4294f42e9d93aebd2cb4e597608ffab7c80985923026bcfc19669b", func := "hawser/hawserlaw10.CoverTurned", spec := "coverTurned", apart := false, narrowed := true }
def CoverTurnedUptoSaid : Prop := coverTurnedUptoRow.holds Try.pinned (OpenSpec.upto coverTurnedSpec)

end Rows
end Go.Proofs.Ytaphlhggmdhffaa
