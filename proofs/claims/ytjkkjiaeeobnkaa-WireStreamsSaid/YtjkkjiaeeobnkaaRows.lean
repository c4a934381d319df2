/-
  No cell of these rows narrows 'for every input' (looked for: loops, veiled, ifaces, maps, wideKeys, modest, calm, conditions, laid).
  DERIVED. THE GIVEN ROWS OF THIS SEAT. 10 by the template 'for every input the law returns true; each argument reads behind the call as it read before'; 0 by the template 'total and deterministic' (their statements: YtjkkjiaeeobnkaaTotals.lean).
  GIVEN WITH THE SEED: the statements are not yours to turn. If you find one false, say at which input.
  Laid BY PROGRAM, IN A SANDBOX (cutbox-rows.mjs): the forced cells as the released guide's own fill.sh prints them over the translation 195d7aa6f82cab33… (all of the seat's roots in one cut). By AI agents, Wed Nov 11 2026. No macro, syntax, notation, axiom, sorry.
-/
import Derived.Test.YtjkkjiaeeobnkaaChecked
import GoSem.Claim
import GoSem.ClaimJoined
import GoSem.ClaimMapViews
import Derived.JoinedTies
import Derived.KernelRfl
namespace Go.Proofs.Ytjkkjiaeeobnkaa
/- THE CELL 'sum', in the pinned program and in every row, IS THE sha256 OF THE DUMP (.gsa) THAT YtjkkjiaeeobnkaaProg.lean LOADS. Nothing in Lean hashes anything: it is a label: what it is worth is what the hold of that sum in a sandbox is worth. -/
noncomputable def Try.pinned : Pinned := { name := "ytjkkjiaeeobnkaa", sum := "195d7aa6f82cab33239a9a6f89783acd99f5dcb0eb01d2febea5210b42cf499f", checked := Try.checked }
namespace Rows
def none {H : Type} : Left H := { results := [], args := [] }

/-- 'archipelagolaw25.WireReads': WHATEVER THE INPUT: true; the input reads as it did. -/
def wireReadsSpec : ChangeSpec := { name := "wireReads", fn := fun _ => fun
  | [d1, d2] => { results := [.lit (.bool true)], args := [d1, d2] }
  | _ => none }
def wireReadsRow : OpenClaim := { program := "ytjkkjiaeeobnkaa", sum := "195d7aa6f82cab33239a9a6f89783acd99f5dcb0eb01d2febea5210b42cf499f", func := "archipelago/archipelagolaw25.WireReads", spec := "wireReads", unfollowed := true, recurses := true, apart := false }
def WireReadsSaid : Prop := wireReadsRow.holds Try.pinned (OpenSpec.ofChange wireReadsSpec)

/-- ITS FALSE NEIGHBOUR: 'it returns false'. Refute it at one input. -/
def wireReadsWrong : ChangeSpec := { name := "wireReads", fn := fun _ => fun
  | [d1, d2] => { results := [.lit (.bool false)], args := [d1, d2] }
  | _ => none }
def WireReadsWrongFalsely : Prop := wireReadsRow.holds Try.pinned (OpenSpec.ofChange wireReadsWrong)

/-- 'archipelagolaw25.WireWrites': WHATEVER THE INPUT: true; the input reads as it did. -/
def wireWritesSpec : ChangeSpec := { name := "wireWrites", fn := fun _ => fun
  | [d1, d2] => { results := [.lit (.bool true)], args := [d1, d2] }
  | _ => none }
def wireWritesRow : OpenClaim := { program := "ytjkkjiaeeobnkaa", sum := "195d7aa6f82cab33239a9a6f89783acd99f5dcb0eb01d2febea5210b42cf499f", func := "archipelago/archipelagolaw25.WireWrites", spec := "wireWrites", unfollowed := true, recurses := true, apart := false }
def WireWritesSaid : Prop := wireWritesRow.holds Try.pinned (OpenSpec.ofChange wireWritesSpec)

/-- ITS FALSE NEIGHBOUR: 'it returns false'. Refute it at one input. -/
def wireWritesWrong : ChangeSpec := { name := "wireWrites", fn := fun _ => fun
  | [d1, d2] => { results := [.lit (.bool false)], args := [d1, d2] }
  | _ => none }
def WireWritesWrongFalsely : Prop := wireWritesRow.holds Try.pinned (OpenSpec.ofChange wireWritesWrong)

/-- 'archipelagolaw25.WireBack': WHATEVER THE INPUT: true; the input reads as it did. -/
def wireBackSpec : ChangeSpec := { name := "wireBack", fn := fun _ => fun
  | [d1, d2] => { results := [.lit (.bool true)], args := [d1, d2] }
  | _ => none }
def wireBackRow : OpenClaim := { program := "ytjkkjiaeeobnkaa", sum := "195d7aa6f82cab33239a9a6f89783acd99f5dcb0eb01d2febea5210b42cf499f", func := "archipelago/archipelagolaw25.WireBack", spec := "wireBack", unfollowed := true, recurses := true, apart := false }
def WireBackSaid : Prop := wireBackRow.holds Try.pinned (OpenSpec.ofChange wireBackSpec)

/-- ITS FALSE NEIGHBOUR: 'it returns false'. Refute it at one input. -/
def wireBackWrong : ChangeSpec := { name := "wireBack", fn := fun _ => fun
  | [d1, d2] => { results := [.lit (.bool false)], args := [d1, d2] }
  | _ => none }
def WireBackWrongFalsely : Prop := wireBackRow.holds Try.pinned (OpenSpec.ofChange wireBackWrong)

/-- 'archipelagolaw25.WireStreams': WHATEVER THE INPUT: true; the input reads as it did. -/
def wireStreamsSpec : ChangeSpec := { name := "wireStreams", fn := fun _ => fun
  | [d1, d2] => { results := [.lit (.bool true)], args := [d1, d2] }
  | _ => none }
def wireStreamsRow : OpenClaim := { program := "ytjkkjiaeeobnkaa", sum := "195d7aa6f82cab33239a9a6f89783acd99f5dcb0eb01d2febea5210b42cf499f", func := "archipelago/archipelagolaw25.WireStreams", spec := "wireStreams", unfollowed := true, recurses := true, apart := false }
def WireStreamsSaid : Prop := wireStreamsRow.holds Try.pinned (OpenSpec.ofChange wireStreamsSpec)

/-- ITS FALSE NEIGHBOUR: 'it returns false'. Refute it at one input. -/
def wireStreamsWrong : ChangeSpec := { name := "wireStreams", fn := fun _ => fun
  | [d1, d2] => { results := [.lit (.bool false)], args := [d1, d2] }
  | _ => none }
def WireStreamsWrongFalsely : Prop := wireStreamsRow.holds Try.pinned (OpenSpec.ofChange wireStreamsWrong)

/-- 'archipelagolaw25.WireSizes': WHATEVER THE INPUT: true; the input reads as it did. -/
def wireSizesSpec : ChangeSpec := { name := "wireSizes", fn := fun _ => fun
  | [d1, d2] => { results := [.lit (.bool true)], args := [d1, d2] }
  | _ => none }
def wireSizesRow : OpenClaim := { program := "ytjkkjiaeeobnkaa", sum := "195d7aa6f82cab33239a9a6f89783acd99f5dcb0eb01d2febea5210b42cf499f", func := "archipelago/archipelagolaw25.WireSizes", spec := "wireSizes", unfollowed := true, recurses := true, apart := false }
def WireSizesSaid : Prop := wireSizesRow.holds Try.pinned (OpenSpec.ofChange wireSizesSpec)

/-- ITS FALSE NEIGHBOUR: 'it returns false'. Refute it at one input. -/
def wireSizesWrong : ChangeSpec := { name := "wireSizes", fn := fun _ => fun
  | [d1, d2] => { results := [.lit (.bool false)], args := [d1, d2] }
  | _ => none }
def WireSizesWrongFalsely : Prop := wireSizesRow.holds Try.pinned (OpenSpec.ofChange wireSizesWrong)

/-- 'archipelagolaw31.BoundAnswers': WHATEVER THE INPUT: true; the input reads as it did. -/
def boundAnswersSpec : ChangeSpec := { name := "boundAnswers", fn := fun _ => fun
  | [d1, d2, d3] => { results := [.lit (.bool true)], args := [d1, d2, d3] }
  | _ => none }
def boundAnswersRow : OpenClaim := { program := "ytjkkjiaeeobnkaa", sum := "195d7aa6f82cab33239a9a6f89783acd99f5dcb0eb01d2febea5210b42cf499f", func := "archipelago/archipelagolaw31.BoundAnswers", spec := "boundAnswers", unfollowed := true, recurses := true, apart := false }
def BoundAnswersSaid : Prop := boundAnswersRow.holds Try.pinned (OpenSpec.ofChange boundAnswersSpec)

/-- ITS FALSE NEIGHBOUR: 'it returns false'. Refute it at one input. -/
def boundAnswersWrong : ChangeSpec := { name := "boundAnswers", fn := fun _ => fun
  | [d1, d2, d3] => { results := [.lit (.bool false)], args := [d1, d2, d3] }
  | _ => none }
def BoundAnswersWrongFalsely : Prop := boundAnswersRow.holds Try.pinned (OpenSpec.ofChange boundAnswersWrong)

/-- 'archipelagolaw31.BoundStreams': WHATEVER THE INPUT: true; the input reads as it did. -/
def boundStreamsSpec : ChangeSpec := { name := "boundStreams", fn := fun _ => fun
  | [d1, d2] => { results := [.lit (.bool true)], args := [d1, d2] }
  | _ => none }
def boundStreamsRow : OpenClaim := { program := "ytjkkjiaeeobnkaa", sum := "195d7aa6f82cab33239a9a6f89783acd99f5dcb0eb01d2febea5210b42cf499f", func := "archipelago/archipelagolaw31.BoundStreams", spec := "boundStreams", unfollowed := true, recurses := true, apart := false }
def BoundStreamsSaid : Prop := boundStreamsRow.holds Try.pinned (OpenSpec.ofChange boundStreamsSpec)

/-- ITS FALSE NEIGHBOUR: 'it returns false'. Refute it at one input. -/
def boundStreamsWrong : ChangeSpec := { name := "boundStreams", fn := fun _ => fun
  | [d1, d2] => { results := [.lit (.bool false)], args := [d1, d2] }
  | _ => none }
def BoundStreamsWrongFalsely : Prop := boundStreamsRow.holds Try.pinned (OpenSpec.ofChange boundStreamsWrong)

/-- 'archipelagolaw31.BoundRises': WHATEVER THE INPUT: true; the input reads as it did. -/
def boundRisesSpec : ChangeSpec := { name := "boundRises", fn := fun _ => fun
  | [d1, d2] => { results := [.lit (.bool true)], args := [d1, d2] }
  | _ => none }
def boundRisesRow : OpenClaim := { program := "ytjkkjiaeeobnkaa", sum := "195d7aa6f82cab33239a9a6f89783acd99f5dcb0eb01d2febea5210b42cf499f", func := "archipelago/archipelagolaw31.BoundRises", spec := "boundRises", unfollowed := true, recurses := true, apart := false }
def BoundRisesSaid : Prop := boundRisesRow.holds Try.pinned (OpenSpec.ofChange boundRisesSpec)

/-- ITS FALSE NEIGHBOUR: 'it returns false'. Refute it at one input. -/
def boundRisesWrong : ChangeSpec := { name := "boundRises", fn := fun _ => fun
  | [d1, d2] => { results := [.lit (.bool false)], args := [d1, d2] }
  | _ => none }
def BoundRisesWrongFalsely : Prop := boundRisesRow.holds Try.pinned (OpenSpec.ofChange boundRisesWrong)

/-- 'archipelagolaw31.BoundPhases': WHATEVER THE INPUT: true; the input reads as it did. -/
def boundPhasesSpec : ChangeSpec := { name := "boundPhases", fn := fun _ => fun
  | [d1, d2] => { results := [.lit (.bool true)], args := [d1, d2] }
  | _ => none }
def boundPhasesRow : OpenClaim := { program := "ytjkkjiaeeobnkaa", sum := "195d7aa6f82cab33239a9a6f89783acd99f5dcb0eb01d2febea5210b42cf499f", func := "archipelago/archipelagolaw31.BoundPhases", spec := "boundPhases", unfollowed := true, recurses := true, apart := false }
def BoundPhasesSaid : Prop := boundPhasesRow.holds Try.pinned (OpenSpec.ofChange boundPhasesSpec)

/-- ITS FALSE NEIGHBOUR: 'it returns false'. Refute it at one input. -/
def boundPhasesWrong : ChangeSpec := { name := "boundPhases", fn := fun _ => fun
  | [d1, d2] => { results := [.lit (.bool false)], args := [d1, d2] }
  | _ => none }
def BoundPhasesWrongFalsely : Prop := boundPhasesRow.holds Try.pinned (OpenSpec.ofChange boundPhasesWrong)

/-- 'archipelagolaw31.BoundScans': WHATEVER THE INPUT: true; the input reads as it did. -/
def boundScansSpec : ChangeSpec := { name := "boundScans", fn := fun _ => fun
  | [d1, d2] => { results := [.lit (.bool true)], args := [d1, d2] }
  | _ => none }
def boundScansRow : OpenClaim := { program := "ytjkkjiaeeobnkaa", sum := "195d7aa6f82cab33239a9a6f89783acd99f5dcb0eb01d2febea5210b42cf499f", func := "archipelago/archipelagolaw31.BoundScans", spec := "boundScans", unfollowed := true, recurses := true, apart := false }
def BoundScansSaid : Prop := boundScansRow.holds Try.pinned (OpenSpec.ofChange boundScansSpec)

/-- ITS FALSE NEIGHBOUR: 'it returns false'. Refute it at one input. -/
def boundScansWrong : ChangeSpec := { name := "boundScans", fn := fun _ => fun
  | [d1, d2] => { results := [.lit (.bool false)], args := [d1, d2] }
  | _ => none }
def BoundScansWrongFalsely : Prop := boundScansRow.holds Try.pinned (OpenSpec.ofChange boundScansWrong)

/- THE SECOND FORM. 'bulk': how many values and letters a reading holds, each counted each time it is reached (what is shared counts as often as it is met; a slice's spare places count too). A statement '..UptoSaid' is the law's where the arguments, and the package variables that the reading takes, are together of bulk at most 1048576: NARROWER than '..Said'. Prove '..Said' where nothing that the law and all that it calls make is longer than what came in: it says more and counts as full. Else prove '..UptoSaid'. A law counts once. -/
mutual
def uptoBulk {H : Type} : DataW H → Nat
  | .lit (.string bytes) => bytes.length + 1
  | .lit _ => 1
  | .nil => 1
  | .ptr d => uptoBulk d + 1
  | .slice elems spare => uptoBulkAll elems + uptoBulkAll spare + 1
  | .agg parts => uptoBulkAll parts + 1
  | .iface _ d => uptoBulk d + 1
  | .map entries => uptoBulkEntries entries + 1
  | .held _ => 1
def uptoBulkAll {H : Type} : List (DataW H) → Nat
  | [] => 0
  | d :: r => uptoBulk d + uptoBulkAll r
def uptoBulkEntries {H : Type} : List (Lit × DataW H) → Nat
  | [] => 0
  | x :: r => uptoBulkEntry x + uptoBulkEntries r
def uptoBulkEntry {H : Type} : Lit × DataW H → Nat
  | (.string bytes, d) => bytes.length + uptoBulk d + 1
  | (_, d) => uptoBulk d + 1
 end
def uptoSmall : (H : Type) → List (DataW H) → Bool := fun _ ds => decide (uptoBulkAll ds ≤ 1048576)
def OpenSpec.upto (s : _root_.Go.ChangeSpec) : _root_.Go.OpenSpec := { _root_.Go.OpenSpec.ofChange s with cond := some uptoSmall }

/-- 'archipelagolaw25.WireReads', WHERE WHAT IT READS IS OF BULK AT MOST 1048576: true; the input reads as it did. -/
def wireReadsUptoRow : OpenClaim := { program := "ytjkkjiaeeobnkaa", sum := "195d7aa6f82cab33239a9a6f89783acd99f5dcb0eb01d2febea5210b42cf499f", func := "archipelago/archipelagolaw25.WireReads", spec := "wireReads", unfollowed := true, recurses := true, apart := false, narrowed := true }
def WireReadsUptoSaid : Prop := wireReadsUptoRow.holds Try.pinned (OpenSpec.upto wireReadsSpec)

/-- 'archipelagolaw25.WireWrites', WHERE WHAT IT READS IS OF BULK AT MOST 1048576: true; the input reads as it did. -/
def wireWritesUptoRow : OpenClaim := { program := "ytjkkjiaeeobnkaa", sum := "195d7aa6f82cab33239a9a6f89783acd99f5dcb0eb01d2febea5210b42cf499f", func := "archipelago/archipelagolaw25.WireWrites", spec := "wireWrites", unfollowed := true, recurses := true, apart := false, narrowed := true }
def WireWritesUptoSaid : Prop := wireWritesUptoRow.holds Try.pinned (OpenSpec.upto wireWritesSpec)

/-- 'archipelagolaw25.WireBack', WHERE WHAT IT READS IS OF BULK AT MOST 1048576: true; the input reads as it did. -/
def wireBackUptoRow : OpenClaim := { program := "ytjkkjiaeeobnkaa", sum := "195d7aa6f82cab33239a9a6f89783acd99f5dcb0eb01d2febea5210b42cf499f", func := "archipelago/archipelagolaw25.WireBack", spec := "wireBack", unfollowed := true, recurses := true, apart := false, narrowed := true }
def WireBackUptoSaid : Prop := wireBackUptoRow.holds Try.pinned (OpenSpec.upto wireBackSpec)

/-- 'archipelagolaw25.WireStreams', WHERE WHAT IT READS IS OF BULK AT MOST 1048576: true; the input reads as it did. -/
def wireStreamsUptoRow : OpenClaim := { program := "ytjkkjiaeeobnkaa", sum := "195d7aa6f82cab33239a9a6f89783acd99f5dcb0eb01d2febea5210b42cf499f", func := "archipelago/archipelagolaw25.WireStreams", spec := "wireStreams", unfollowed := true, recurses := true, apart := false, narrowed := true }
def WireStreamsUptoSaid : Prop := wireStreamsUptoRow.holds Try.pinned (OpenSpec.upto wireStreamsSpec)

/-- 'archipelagolaw25.WireSizes', WHERE WHAT IT READS IS OF BULK AT MOST 1048576: true; the input reads as it did. -/
def wireSizesUptoRow : OpenClaim := { program := "ytjkkjiaeeobnkaa", sum := "195d7aa6f82cab33239a9a6f89783acd99f5dcb0eb01d2febea5210b42cf499f", func := "archipelago/archipelagolaw25.WireSizes", spec := "wireSizes", unfollowed := true, recurses := true, apart := false, narrowed := true }
def WireSizesUptoSaid : Prop := wireSizesUptoRow.holds Try.pinned (OpenSpec.upto wireSizesSpec)

/-- 'archipelagolaw31.BoundAnswers', WHERE WHAT IT READS IS OF BULK AT MOST 1048576: true; the input reads as it did. -/
def boundAnswersUptoRow : OpenClaim := { program := "ytjkkjiaeeobnkaa", sum := "195d7aa6f82cab33239a9a6f89783acd99f5dcb0eb01d2febea5210b42cf499f", func := "archipelago/archipelagolaw31.BoundAnswers", spec := "boundAnswers", unfollowed := true, recurses := true, apart := false, narrowed := true }
def BoundAnswersUptoSaid : Prop := boundAnswersUptoRow.holds Try.pinned (OpenSpec.upto boundAnswersSpec)

/-- 'archipelagolaw31.BoundStreams', WHERE WHAT IT READS IS OF BULK AT MOST 1048576: true; the input reads as it did. -/
def boundStreamsUptoRow : OpenClaim := { program := "ytjkkjiaeeobnkaa", sum := "195d7aa6f82cab33239a9a6f89783acd99f5dcb0eb01d2febea5210b42cf499f", func := "archipelago/archipelagolaw31.BoundStreams", spec := "boundStreams", unfollowed := true, recurses := true, apart := false, narrowed := true }
def BoundStreamsUptoSaid : Prop := boundStreamsUptoRow.holds Try.pinned (OpenSpec.upto boundStreamsSpec)

/-- 'archipelagolaw31.BoundRises', WHERE WHAT IT READS IS OF BULK AT MOST 1048576: true; the input reads as it did. -/
def boundRisesUptoRow : OpenClaim := { program := "ytjkkjiaeeobnkaa", sum := "195d7aa6f82cab33239a9a6f89783acd99f5dcb0eb01d2febea5210b42cf499f", func := "archipelago/archipelagolaw31.BoundRises", spec := "boundRises", unfollowed := true, recurses := true, apart := false, narrowed := true }
def BoundRisesUptoSaid : Prop := boundRisesUptoRow.holds Try.pinned (OpenSpec.upto boundRisesSpec)

/-- 'archipelagolaw31.BoundPhases', WHERE WHAT IT READS IS OF BULK AT MOST 1048576: true; the input reads as it did. -/
def boundPhasesUptoRow : OpenClaim := { program := "ytjkkjiaeeobnkaa", sum := "195d7aa6f82cab33239a9a6f89783acd99f5dcb0eb01d2febea5210b42cf499f", func := "archipelago/archipelagolaw31.BoundPhases", spec := "boundPhases", unfollowed := true, recurses := true, apart := false, narrowed := true }
def BoundPhasesUptoSaid : Prop := boundPhasesUptoRow.holds Try.pinned (OpenSpec.upto boundPhasesSpec)

/-- 'archipelagolaw31.BoundScans', WHERE WHAT IT READS IS OF BULK AT MOST 1048576: true; the input reads as it did. -/
def boundScansUptoRow : OpenClaim := { program := "ytjkkjiaeeobnkaa", sum := "195d7aa6f82cab33239a9a6f89783acd99f5dcb0eb01d2febea5210b42cf499f", func := "archipelago/archipelagolaw31.BoundScans", spec := "boundScans", unfollowed := true, recurses := true, apart := false, narrowed := true }
def BoundScansUptoSaid : Prop := boundScansUptoRow.holds Try.pinned (OpenSpec.upto boundScansSpec)

end Rows
end Go.Proofs.Ytjkkjiaeeobnkaa
