/-
  No cell of these rows narrows 'for every input' (looked for: loops, veiled, ifaces, maps, wideKeys, modest, calm, conditions, laid).
  DERIVED. THE GIVEN ROWS OF THIS SEAT. 10 by the template 'for every input the law returns true; each argument reads behind the call as it read before'; 0 by the template 'total and deterministic' (their statements: YtbpeoclhabgcgaaTotals.lean).
  GIVEN WITH THE SEED: the statements are not yours to turn. If you find one false, say at which input.
  Laid BY PROGRAM, IN A SANDBOX (cutbox-rows.mjs): the forced cells as the released guide's own fill.sh prints them over the translation 491831a168c47dd6… (all of the seat's roots in one cut). By AI agents, Wed Nov 11 2026. No macro, syntax, notation, axiom, sorry.
-/
import Derived.Test.YtbpeoclhabgcgaaChecked
import GoSem.Claim
import GoSem.ClaimJoined
import GoSem.ClaimMapViews
import Derived.JoinedTies
import Derived.KernelRfl
namespace Go.Proofs.Ytbpeoclhabgcgaa
/- THE CELL 'sum', in the pinned program and in every row, IS THE sha256 OF THE DUMP (.gsa) THAT YtbpeoclhabgcgaaProg.lean LOADS. Nothing in Lean hashes anything: it is a label: what it is worth is what the hold of that sum in a sandbox is worth. -/
noncomputable def Try.pinned : Pinned := { name := "ytbpeoclhabgcgaa", sum := "491831a168c47dd6ae481609c95ce58012a789e58165d4325cfb5c4e7a38add5", checked := Try.checked }
namespace Rows
def none {H : Type} : Left H := { results := [], args := [] }

/-- 'hawserlaw1.WireLengths': WHATEVER THE INPUT: true; the input reads as it did. -/
def wireLengthsSpec : ChangeSpec := { name := "wireLengths", fn := fun _ => fun
  | [d1, d2] => { results := [.lit (.bool true)], args := [d1, d2] }
  | _ => none }
def wireLengthsRow : OpenClaim := { program := "ytbpeoclhabgcgaa", sum := "491831a168c47dd6ae481609c95ce58012a789e58165d4325cfb5c4e7a38add5", func := "hawser/hawserlaw1.WireLengths", spec := "wireLengths", apart := false }
def WireLengthsSaid : Prop := wireLengthsRow.holds Try.pinned (OpenSpec.ofChange wireLengthsSpec)

/-- ITS FALSE NEIGHBOUR: 'it returns false'. Refute it at one input. -/
def wireLengthsWrong : ChangeSpec := { name := "wireLengths", fn := fun _ => fun
  | [d1, d2] => { results := [.lit (.bool false)], args := [d1, d2] }
  | _ => none }
def WireLengthsWrongFalsely : Prop := wireLengthsRow.holds Try.pinned (OpenSpec.ofChange wireLengthsWrong)

/-- 'hawserlaw1.WireWrites': WHATEVER THE INPUT: true; the input reads as it did. -/
def wireWritesSpec : ChangeSpec := { name := "wireWrites", fn := fun _ => fun
  | [d] => { results := [.lit (.bool true)], args := [d] }
  | _ => none }
def wireWritesRow : OpenClaim := { program := "ytbpeoclhabgcgaa", sum := "491831a168c47dd6ae481609c95ce58012a789e58165d4325cfb5c4e7a38add5", func := "hawser/hawserlaw1.WireWrites", spec := "wireWrites", apart := false }
def WireWritesSaid : Prop := wireWritesRow.holds Try.pinned (OpenSpec.ofChange wireWritesSpec)

/-- ITS FALSE NEIGHBOUR: 'it returns false'. Refute it at one input. -/
def wireWritesWrong : ChangeSpec := { name := "wireWrites", fn := fun _ => fun
  | [d] => { results := [.lit (.bool false)], args := [d] }
  | _ => none }
def WireWritesWrongFalsely : Prop := wireWritesRow.holds Try.pinned (OpenSpec.ofChange wireWritesWrong)

/-- 'hawserlaw1.WireKept': WHATEVER THE INPUT: true; the input reads as it did. -/
def wireKeptSpec : ChangeSpec := { name := "wireKept", fn := fun _ => fun
  | [d] => { results := [.lit (.bool true)], args := [d] }
  | _ => none }
def wireKeptRow : OpenClaim := { program := "ytbpeoclhabgcgaa", sum := "491831a168c47dd6ae481609c95ce58012a789e58165d4325cfb5c4e7a38add5", func := "hawser/hawserlaw1.WireKept", spec := "wireKept", unfollowed := true, recurses := true, apart := false }
def WireKeptSaid : Prop := wireKeptRow.holds Try.pinned (OpenSpec.ofChange wireKeptSpec)

/-- ITS FALSE NEIGHBOUR: 'it returns false'. Refute it at one input. -/
def wireKeptWrong : ChangeSpec := { name := "wireKept", fn := fun _ => fun
  | [d] => { results := [.lit (.bool false)], args := [d] }
  | _ => none }
def WireKeptWrongFalsely : Prop := wireKeptRow.holds Try.pinned (OpenSpec.ofChange wireKeptWrong)

/-- 'hawserlaw1.WireMost': WHATEVER THE INPUT: true; the input reads as it did. -/
def wireMostSpec : ChangeSpec := { name := "wireMost", fn := fun _ => fun
  | [d1, d2, d3, d4] => { results := [.lit (.bool true)], args := [d1, d2, d3, d4] }
  | _ => none }
def wireMostRow : OpenClaim := { program := "ytbpeoclhabgcgaa", sum := "491831a168c47dd6ae481609c95ce58012a789e58165d4325cfb5c4e7a38add5", func := "hawser/hawserlaw1.WireMost", spec := "wireMost", apart := false }
def WireMostSaid : Prop := wireMostRow.holds Try.pinned (OpenSpec.ofChange wireMostSpec)

/-- ITS FALSE NEIGHBOUR: 'it returns false'. Refute it at one input. -/
def wireMostWrong : ChangeSpec := { name := "wireMost", fn := fun _ => fun
  | [d1, d2, d3, d4] => { results := [.lit (.bool false)], args := [d1, d2, d3, d4] }
  | _ => none }
def WireMostWrongFalsely : Prop := wireMostRow.holds Try.pinned (OpenSpec.ofChange wireMostWrong)

/-- 'hawserlaw1.WireNumbers': WHATEVER THE INPUT: true; the input reads as it did. -/
def wireNumbersSpec : ChangeSpec := { name := "wireNumbers", fn := fun _ => fun
  | [] => { results := [.lit (.bool true)], args := [] }
  | _ => none }
def wireNumbersRow : OpenClaim := { program := "ytbpeoclhabgcgaa", sum := "491831a168c47dd6ae481609c95ce58012a789e58165d4325cfb5c4e7a38add5", func := "hawser/hawserlaw1.WireNumbers", spec := "wireNumbers", apart := false }
def WireNumbersSaid : Prop := wireNumbersRow.holds Try.pinned (OpenSpec.ofChange wireNumbersSpec)

/-- ITS FALSE NEIGHBOUR: 'it returns false'. Refute it at one input. -/
def wireNumbersWrong : ChangeSpec := { name := "wireNumbers", fn := fun _ => fun
  | [] => { results := [.lit (.bool false)], args := [] }
  | _ => none }
def WireNumbersWrongFalsely : Prop := wireNumbersRow.holds Try.pinned (OpenSpec.ofChange wireNumbersWrong)

/-- 'hawserlaw1.WireReads': WHATEVER THE INPUT: true; the input reads as it did. -/
def wireReadsSpec : ChangeSpec := { name := "wireReads", fn := fun _ => fun
  | [d1, d2] => { results := [.lit (.bool true)], args := [d1, d2] }
  | _ => none }
def wireReadsRow : OpenClaim := { program := "ytbpeoclhabgcgaa", sum := "491831a168c47dd6ae481609c95ce58012a789e58165d4325cfb5c4e7a38add5", func := "hawser/hawserlaw1.WireReads", spec := "wireReads", apart := false }
def WireReadsSaid : Prop := wireReadsRow.holds Try.pinned (OpenSpec.ofChange wireReadsSpec)

/-- ITS FALSE NEIGHBOUR: 'it returns false'. Refute it at one input. -/
def wireReadsWrong : ChangeSpec := { name := "wireReads", fn := fun _ => fun
  | [d1, d2] => { results := [.lit (.bool false)], args := [d1, d2] }
  | _ => none }
def WireReadsWrongFalsely : Prop := wireReadsRow.holds Try.pinned (OpenSpec.ofChange wireReadsWrong)

/-- 'hawserlaw1.WireStops': WHATEVER THE INPUT: true; the input reads as it did. -/
def wireStopsSpec : ChangeSpec := { name := "wireStops", fn := fun _ => fun
  | [d1, d2] => { results := [.lit (.bool true)], args := [d1, d2] }
  | _ => none }
def wireStopsRow : OpenClaim := { program := "ytbpeoclhabgcgaa", sum := "491831a168c47dd6ae481609c95ce58012a789e58165d4325cfb5c4e7a38add5", func := "hawser/hawserlaw1.WireStops", spec := "wireStops", apart := false }
def WireStopsSaid : Prop := wireStopsRow.holds Try.pinned (OpenSpec.ofChange wireStopsSpec)

/-- ITS FALSE NEIGHBOUR: 'it returns false'. Refute it at one input. -/
def wireStopsWrong : ChangeSpec := { name := "wireStops", fn := fun _ => fun
  | [d1, d2] => { results := [.lit (.bool false)], args := [d1, d2] }
  | _ => none }
def WireStopsWrongFalsely : Prop := wireStopsRow.holds Try.pinned (OpenSpec.ofChange wireStopsWrong)

/-- 'hawserlaw1.WireBack': WHATEVER THE INPUT: true; the input reads as it did. -/
def wireBackSpec : ChangeSpec := { name := "wireBack", fn := fun _ => fun
  | [d1, d2] => { results := [.lit (.bool true)], args := [d1, d2] }
  | _ => none }
def wireBackRow : OpenClaim := { program := "ytbpeoclhabgcgaa", sum := "491831a168c47dd6ae481609c95ce58012a789e58165d4325cfb5c4e7a38add5", func := "hawser/hawserlaw1.WireBack", spec := "wireBack", apart := false }
def WireBackSaid : Prop := wireBackRow.holds Try.pinned (OpenSpec.ofChange wireBackSpec)

/-- ITS FALSE NEIGHBOUR: 'it returns false'. Refute it at one input. -/
def wireBackWrong : ChangeSpec := { name := "wireBack", fn := fun _ => fun
  | [d1, d2] => { results := [.lit (.bool false)], args := [d1, d2] }
  | _ => none }
def WireBackWrongFalsely : Prop := wireBackRow.holds Try.pinned (OpenSpec.ofChange wireBackWrong)

/-- 'hawserlaw13.CodeReads': WHATEVER THE INPUT: true; the input reads as it did. -/
def codeReadsSpec : ChangeSpec := { name := "codeReads", fn := fun _ => fun
  | [d] => { results := [.lit (.bool true)], args := [d] }
  | _ => none }
def codeReadsRow : OpenClaim := { program := "ytbpeoclhabgcgaa", sum := "491831a168c47dd6ae481609c95ce58012a789e58165d4325cfb5c4e7a38add5", func := "hawser/hawserlaw13.CodeReads", spec := "codeReads", inPlace := ["math.archTrunc", "math.Float64bits", "math.Float64frombits"], apart := false }
def CodeReadsSaid : Prop := codeReadsRow.holds Try.pinned (OpenSpec.ofChange codeReadsSpec)

/-- ITS FALSE NEIGHBOUR: 'it returns false'. Refute it at one input. -/
def codeReadsWrong : ChangeSpec := { name := "codeReads", fn := fun _ => fun
  | [d] => { results := [.lit (.bool false)], args := [d] }
  | _ => none }
def CodeReadsWrongFalsely : Prop := codeReadsRow.holds Try.pinned (OpenSpec.ofChange codeReadsWrong)

/-- 'hawserlaw13.CodeNumbers': WHATEVER THE INPUT: true; the input reads as it did. -/
def codeNumbersSpec : ChangeSpec := { name := "codeNumbers", fn := fun _ => fun
  | [] => { results := [.lit (.bool true)], args := [] }
  | _ => none }
def codeNumbersRow : OpenClaim := { program := "ytbpeoclhabgcgaa", sum := "491831a168c47dd6ae481609c95ce58012a789e58165d4325cfb5c4e7a38add5", func := "hawser/hawserlaw13.CodeNumbers", spec := "codeNumbers", inPlace := ["math.archTrunc", "math.Float64bits", "math.Float64frombits"], apart := false }
def CodeNumbersSaid : Prop := codeNumbersRow.holds Try.pinned (OpenSpec.ofChange codeNumbersSpec)

/-- ITS FALSE NEIGHBOUR: 'it returns false'. Refute it at one input. -/
def codeNumbersWrong : ChangeSpec := { name := "codeNumbers", fn := fun _ => fun
  | [] => { results := [.lit (.bool false)], args := [] }
  | _ => none }
def CodeNumbersWrongFalsely : Prop := codeNumbersRow.holds Try.pinned (OpenSpec.ofChange codeNumbersWrong)

/- THE SECOND FORM. 'bulk': how many values and letters a reading holds, each counted each time it is reached (what is shared counts as often as it is met; a slice's spare places count too). A statement '..UptoSaid' is the law's where the arguments, and the package variables that the reading takes, are together of bulk at most 1048576: NARROWER than '..Said'. Prove '..Said' where nothing that the law and all that it calls make is longer than what came in: it says more and counts as full. Else prove '..UptoSaid'. A law counts once. -/
mutual
def uptoBulk {H : Type} : DataW H → Nat
  | .lit (.string bytes) => bytes.length + 1
  | .lit _ => 1
  | .nil => 1
  | .ptr d => uptoBulk d + 1
  | .slice elems spare => uptoBulkAll elems + uptoBulkAll spare + 1
  | .agg parts => uptoBulkAll parts + 1
  | .iface _ d => uptoBulk d + 1
  | .map entries => uptoBulkEntries entries + 1
  | .held _ => 1
def uptoBulkAll {H : Type} : List (DataW H) → Nat
  | [] => 0
  | d :: r => uptoBulk d + uptoBulkAll r
def uptoBulkEntries {H : Type} : List (Lit × DataW H) → Nat
  | [] => 0
  | x :: r => uptoBulkEntry x + uptoBulkEntries r
def uptoBulkEntry {H : Type} : Lit × DataW H → Nat
  | (.string bytes, d) => bytes.length + uptoBulk d + 1
  | (_, d) => uptoBulk d + 1
 end
def uptoSmall : (H : Type) → List (DataW H) → Bool := fun _ ds => decide (uptoBulkAll ds ≤ 1048576)
def OpenSpec.upto (s : _root_.Go.ChangeSpec) : _root_.Go.OpenSpec := { _root_.Go.OpenSpec.ofChange s with cond := some uptoSmall }

/-- 'hawserlaw1.WireLengths', WHERE WHAT IT READS IS OF BULK AT MOST 1048576: true; the input reads as it did. -/
def wireLengthsUptoRow : OpenClaim := { program := "ytbpeoclhabgcgaa", sum := "491831a168c47dd6ae481609c95ce58012a789e58165d4325cfb5c4e7a38add5", func := "hawser/hawserlaw1.WireLengths", spec := "wireLengths", apart := false, narrowed := true }
def WireLengthsUptoSaid : Prop := wireLengthsUptoRow.holds Try.pinned (OpenSpec.upto wireLengthsSpec)

/-- 'hawserlaw1.WireWrites', WHERE WHAT IT READS IS OF BULK AT MOST 1048576: true; the input reads as it did. -/
def wireWritesUptoRow : OpenClaim := { program := "ytbpeoclhabgcgaa", sum := "491831a168c47dd6ae481609c95ce58012a789e58165d4325cfb5c4e7a38add5", func := "hawser/hawserlaw1.WireWrites", spec := "wireWrites", apart := false, narrowed := true }
def WireWritesUptoSaid : Prop := wireWritesUptoRow.holds Try.pinned (OpenSpec.upto wireWritesSpec)

/-- 'hawserlaw1.WireKept', WHERE WHAT IT READS IS OF BULK AT MOST 1048576: true; the input reads as it did. -/
def wireKeptUptoRow : OpenClaim := { program := "ytbpeoclhabgcgaa", sum := "491831a168c47dd6ae481609c95ce58012a789e58165d4325cfb5c4e7a38add5", func := "hawser/hawserlaw1.WireKept", spec := "wireKept", unfollowed := true, recurses := true, apart := false, narrowed := true }
def WireKeptUptoSaid : Prop := wireKeptUptoRow.holds Try.pinned (OpenSpec.upto wireKeptSpec)

/-- 'hawserlaw1.WireMost', WHERE WHAT IT READS IS OF BULK AT MOST 1048576: true; the input reads as it did. -/
def wireMostUptoRow : OpenClaim := { program := "ytbpeoclhabgcgaa", sum := "491831a168c47dd6ae481609c95ce58012a789e58165d4325cfb5c4e7a38add5", func := "hawser/hawserlaw1.WireMost", spec := "wireMost", apart := false, narrowed := true }
def WireMostUptoSaid : Prop := wireMostUptoRow.holds Try.pinned (OpenSpec.upto wireMostSpec)

/-- 'hawserlaw1.WireNumbers', WHERE WHAT IT READS IS OF BULK AT MOST 1048576: true; the input reads as it did. -/
def wireNumbersUptoRow : OpenClaim := { program := "ytbpeoclhabgcgaa", sum := "491831a168c47dd6ae481609c95ce58012a789e58165d4325cfb5c4e7a38add5", func := "hawser/hawserlaw1.WireNumbers", spec := "wireNumbers", apart := false, narrowed := true }
def WireNumbersUptoSaid : Prop := wireNumbersUptoRow.holds Try.pinned (OpenSpec.upto wireNumbersSpec)

/-- 'hawserlaw1.WireReads', WHERE WHAT IT READS IS OF BULK AT MOST 1048576: true; the input reads as it did. -/
def wireReadsUptoRow : OpenClaim := { program := "ytbpeoclhabgcgaa", sum := "491831a168c47dd6ae481609c95ce58012a789e58165d4325cfb5c4e7a38add5", func := "hawser/hawserlaw1.WireReads", spec := "wireReads", apart := false, narrowed := true }
def WireReadsUptoSaid : Prop := wireReadsUptoRow.holds Try.pinned (OpenSpec.upto wireReadsSpec)

/-- 'hawserlaw1.WireStops', WHERE WHAT IT READS IS OF BULK AT MOST 1048576: true; the input reads as it did. -/
def wireStopsUptoRow : OpenClaim := { program := "ytbpeoclhabgcgaa", sum := "491831a168c47dd6ae481609c95ce58012a789e58165d4325cfb5c4e7a38add5", func := "hawser/hawserlaw1.WireStops", spec := "wireStops", apart := false, narrowed := true }
def WireStopsUptoSaid : Prop := wireStopsUptoRow.holds Try.pinned (OpenSpec.upto wireStopsSpec)

/-- 'hawserlaw1.WireBack', WHERE WHAT IT READS IS OF BULK AT MOST 1048576: true; the input reads as it did. -/
def wireBackUptoRow : OpenClaim := { program := "ytbpeoclhabgcgaa", sum := "491831a168c47dd6ae481609c95ce58012a789e58165d4325cfb5c4e7a38add5", func := "hawser/hawserlaw1.WireBack", spec := "wireBack", apart := false, narrowed := true }
def WireBackUptoSaid : Prop := wireBackUptoRow.holds Try.pinned (OpenSpec.upto wireBackSpec)

/-- 'hawserlaw13.CodeReads', WHERE WHAT IT READS IS OF BULK AT MOST 1048576: true; the input reads as it did. -/
def codeReadsUptoRow : OpenClaim := { program := "ytbpeoclhabgcgaa", sum := "491831a168c47dd6ae481609c95ce58012a789e58165d4325cfb5c4e7a38add5", func := "hawser/hawserlaw13.CodeReads", spec := "codeReads", inPlace := ["math.archTrunc", "math.Float64bits", "math.Float64frombits"], apart := false, narrowed := true }
def CodeReadsUptoSaid : Prop := codeReadsUptoRow.holds Try.pinned (OpenSpec.upto codeReadsSpec)

/-- 'hawserlaw13.CodeNumbers', WHERE WHAT IT READS IS OF BULK AT MOST 1048576: true; the input reads as it did. -/
def codeNumbersUptoRow : OpenClaim := { program := "ytbpeoclhabgcgaa", sum := "491831a168c47dd6ae481609c95ce58012a789e58165d4325cfb5c4e7a38add5", func := "hawser/hawserlaw13.CodeNumbers", spec := "codeNumbers", inPlace := ["math.archTrunc", "math.Float64bits", "math.Float64frombits"], apart := false, narrowed := true }
def CodeNumbersUptoSaid : Prop := codeNumbersUptoRow.holds Try.pinned (OpenSpec.upto codeNumbersSpec)

end Rows
end Go.Proofs.Ytbpeoclhabgcgaa
