/-
  No cell of these rows narrows 'for every input' (looked for: loops, veiled, ifaces, maps, wideKeys, modest, calm, conditions, laid).
  DERIVED. THE GIVEN ROWS OF THIS SEAT. 8 by the template 'for every input the law returns true; each argument reads behind the call as it read before'; 0 by the template 'total and deterministic' (their statements: YtbehekmnccoifaaTotals.lean).
  GIVEN WITH THE SEED: the statements are not yours to turn. If you find one false, say at which input.
  Laid BY PROGRAM, IN A SANDBOX (cutbox-rows.mjs): the forced cells as the released guide's own fill.sh prints them over the translation 6ad84900bc98e8b6… (all of the seat's roots in one cut). By AI agents, Wed Nov 11 2026. No macro, syntax, notation, axiom, sorry.
-/
import Derived.Test.YtbehekmnccoifaaChecked
import GoSem.Claim
import GoSem.ClaimJoined
import GoSem.ClaimMapViews
import Derived.JoinedTies
import Derived.KernelRfl
namespace Go.Proofs.Ytbehekmnccoifaa
/- THE CELL 'sum', in the pinned program and in every row, IS THE sha256 OF THE DUMP (.gsa) THAT YtbehekmnccoifaaProg.lean LOADS. Nothing in Lean hashes anything: it is a label: what it is worth is what the hold of that sum in a sandbox is worth. -/
noncomputable def Try.pinned : Pinned := { name := "ytbehekmnccoifaa", sum := "6ad84900bc98e8b652f4393332ed7cc1e8a77b6f63127716879b3845858255a6", checked := Try.checked }
namespace Rows
def none {H : Type} : Left H := { results := [], args := [] }

/-- 'archipelagolaw09.PackAnswers': WHATEVER THE INPUT: true; the input reads as it did. -/
def packAnswersSpec : ChangeSpec := { name := "packAnswers", fn := fun _ => fun
  | [d1, d2, d3] => { results := [.lit (.bool true)], args := [d1, d2, d3] }
  | _ => none }
def packAnswersRow : OpenClaim := { program := "ytbehekmnccoifaa", sum := "6ad84900bc98e8b652f4393332ed7cc1e8a77b6f63127716879b3845858255a6", func := "archipelago/archipelagolaw09.PackAnswers", spec := "packAnswers", unfollowed := true, recurses := true, apart := false }
def PackAnswersSaid : Prop := packAnswersRow.holds Try.pinned (OpenSpec.ofChange packAnswersSpec)

/-- ITS FALSE NEIGHBOUR: 'it returns false'. Refute it at one input. -/
def packAnswersWrong : ChangeSpec := { name := "packAnswers", fn := fun _ => fun
  | [d1, d2, d3] => { results := [.lit (.bool false)], args := [d1, d2, d3] }
  | _ => none }
def PackAnswersWrongFalsely : Prop := packAnswersRow.holds Try.pinned (OpenSpec.ofChange packAnswersWrong)

/-- 'archipelagolaw09.PackBack': WHATEVER THE INPUT: true; the input reads as it did. -/
def packBackSpec : ChangeSpec := { name := "packBack", fn := fun _ => fun
  | [d1, d2, d3] => { results := [.lit (.bool true)], args := [d1, d2, d3] }
  | _ => none }
def packBackRow : OpenClaim := { program := "ytbehekmnccoifaa", sum := "6ad84900bc98e8b652f4393332ed7cc1e8a77b6f63127716879b3845858255a6", func := "archipelago/archipelagolaw09.PackBack", spec := "packBack", unfollowed := true, recurses := true, apart := false }
def PackBackSaid : Prop := packBackRow.holds Try.pinned (OpenSpec.ofChange packBackSpec)

/-- ITS FALSE NEIGHBOUR: 'it returns false'. Refute it at one input. -/
def packBackWrong : ChangeSpec := { name := "packBack", fn := fun _ => fun
  | [d1, d2, d3] => { results := [.lit (.bool false)], args := [d1, d2, d3] }
  | _ => none }
def PackBackWrongFalsely : Prop := packBackRow.holds Try.pinned (OpenSpec.ofChange packBackWrong)

/-- 'archipelagolaw09.PackParts': WHATEVER THE INPUT: true; the input reads as it did. -/
def packPartsSpec : ChangeSpec := { name := "packParts", fn := fun _ => fun
  | [d1, d2] => { results := [.lit (.bool true)], args := [d1, d2] }
  | _ => none }
def packPartsRow : OpenClaim := { program := "ytbehekmnccoifaa", sum := "6ad84900bc98e8b652f4393332ed7cc1e8a77b6f63127716879b3845858255a6", func := "archipelago/archipelagolaw09.PackParts", spec := "packParts", unfollowed := true, recurses := true, apart := false }
def PackPartsSaid : Prop := packPartsRow.holds Try.pinned (OpenSpec.ofChange packPartsSpec)

/-- ITS FALSE NEIGHBOUR: 'it returns false'. Refute it at one input. -/
def packPartsWrong : ChangeSpec := { name := "packParts", fn := fun _ => fun
  | [d1, d2] => { results := [.lit (.bool false)], args := [d1, d2] }
  | _ => none }
def PackPartsWrongFalsely : Prop := packPartsRow.holds Try.pinned (OpenSpec.ofChange packPartsWrong)

/-- 'archipelagolaw09.PackBlocks': WHATEVER THE INPUT: true; the input reads as it did. -/
def packBlocksSpec : ChangeSpec := { name := "packBlocks", fn := fun _ => fun
  | [d1, d2, d3] => { results := [.lit (.bool true)], args := [d1, d2, d3] }
  | _ => none }
def packBlocksRow : OpenClaim := { program := "ytbehekmnccoifaa", sum := "6ad84900bc98e8b652f4393332ed7cc1e8a77b6f63127716879b3845858255a6", func := "archipelago/archipelagolaw09.PackBlocks", spec := "packBlocks", unfollowed := true, recurses := true, apart := false }
def PackBlocksSaid : Prop := packBlocksRow.holds Try.pinned (OpenSpec.ofChange packBlocksSpec)

/-- ITS FALSE NEIGHBOUR: 'it returns false'. Refute it at one input. -/
def packBlocksWrong : ChangeSpec := { name := "packBlocks", fn := fun _ => fun
  | [d1, d2, d3] => { results := [.lit (.bool false)], args := [d1, d2, d3] }
  | _ => none }
def PackBlocksWrongFalsely : Prop := packBlocksRow.holds Try.pinned (OpenSpec.ofChange packBlocksWrong)

/-- 'archipelagolaw11.DedupAnswers': WHATEVER THE INPUT: true; the input reads as it did. -/
def dedupAnswersSpec : ChangeSpec := { name := "dedupAnswers", fn := fun _ => fun
  | [d1, d2, d3] => { results := [.lit (.bool true)], args := [d1, d2, d3] }
  | _ => none }
def dedupAnswersRow : OpenClaim := { program := "ytbehekmnccoifaa", sum := "6ad84900bc98e8b652f4393332ed7cc1e8a77b6f63127716879b3845858255a6", func := "archipelago/archipelagolaw11.DedupAnswers", spec := "dedupAnswers", unfollowed := true, recurses := true, apart := false }
def DedupAnswersSaid : Prop := dedupAnswersRow.holds Try.pinned (OpenSpec.ofChange dedupAnswersSpec)

/-- ITS FALSE NEIGHBOUR: 'it returns false'. Refute it at one input. -/
def dedupAnswersWrong : ChangeSpec := { name := "dedupAnswers", fn := fun _ => fun
  | [d1, d2, d3] => { results := [.lit (.bool false)], args := [d1, d2, d3] }
  | _ => none }
def DedupAnswersWrongFalsely : Prop := dedupAnswersRow.holds Try.pinned (OpenSpec.ofChange dedupAnswersWrong)

/-- 'archipelagolaw11.DedupEdges': WHATEVER THE INPUT: true; the input reads as it did. -/
def dedupEdgesSpec : ChangeSpec := { name := "dedupEdges", fn := fun _ => fun
  | [d1, d2] => { results := [.lit (.bool true)], args := [d1, d2] }
  | _ => none }
def dedupEdgesRow : OpenClaim := { program := "ytbehekmnccoifaa", sum := "6ad84900bc98e8b652f4393332ed7cc1e8a77b6f63127716879b3845858255a6", func := "archipelago/archipelagolaw11.DedupEdges", spec := "dedupEdges", unfollowed := true, recurses := true, apart := false }
def DedupEdgesSaid : Prop := dedupEdgesRow.holds Try.pinned (OpenSpec.ofChange dedupEdgesSpec)

/-- ITS FALSE NEIGHBOUR: 'it returns false'. Refute it at one input. -/
def dedupEdgesWrong : ChangeSpec := { name := "dedupEdges", fn := fun _ => fun
  | [d1, d2] => { results := [.lit (.bool false)], args := [d1, d2] }
  | _ => none }
def DedupEdgesWrongFalsely : Prop := dedupEdgesRow.holds Try.pinned (OpenSpec.ofChange dedupEdgesWrong)

/-- 'archipelagolaw11.DedupOnce': WHATEVER THE INPUT: true; the input reads as it did. -/
def dedupOnceSpec : ChangeSpec := { name := "dedupOnce", fn := fun _ => fun
  | [d1, d2] => { results := [.lit (.bool true)], args := [d1, d2] }
  | _ => none }
def dedupOnceRow : OpenClaim := { program := "ytbehekmnccoifaa", sum := "6ad84900bc98e8b652f4393332ed7cc1e8a77b6f63127716879b3845858255a6", func := "archipelago/archipelagolaw11.DedupOnce", spec := "dedupOnce", unfollowed := true, recurses := true, apart := false }
def DedupOnceSaid : Prop := dedupOnceRow.holds Try.pinned (OpenSpec.ofChange dedupOnceSpec)

/-- ITS FALSE NEIGHBOUR: 'it returns false'. Refute it at one input. -/
def dedupOnceWrong : ChangeSpec := { name := "dedupOnce", fn := fun _ => fun
  | [d1, d2] => { results := [.lit (.bool false)], args := [d1, d2] }
  | _ => none }
def DedupOnceWrongFalsely : Prop := dedupOnceRow.holds Try.pinned (OpenSpec.ofChange dedupOnceWrong)

/-- 'archipelagolaw11.DedupKeys': WHATEVER THE INPUT: true; the input reads as it did. -/
def dedupKeysSpec : ChangeSpec := { name := "dedupKeys", fn := fun _ => fun
  | [d1, d2] => { results := [.lit (.bool true)], args := [d1, d2] }
  | _ => none }
def dedupKeysRow : OpenClaim := { program := "ytbehekmnccoifaa", sum := "6ad84900bc98e8b652f4393332ed7cc1e8a77b6f63127716879b3845858255a6", func := "archipelago/archipelagolaw11.DedupKeys", spec := "dedupKeys", unfollowed := true, recurses := true, apart := false }
def DedupKeysSaid : Prop := dedupKeysRow.holds Try.pinned (OpenSpec.ofChange dedupKeysSpec)

/-- ITS FALSE NEIGHBOUR: 'it returns false'. Refute it at one input. -/
def dedupKeysWrong : ChangeSpec := { name := "dedupKeys", fn := fun _ => fun
  | [d1, d2] => { results := [.lit (.bool false)], args := [d1, d2] }
  | _ => none }
def DedupKeysWrongFalsely : Prop := dedupKeysRow.holds Try.pinned (OpenSpec.ofChange dedupKeysWrong)

/- THE SECOND FORM. 'bulk': how many values and letters a reading holds, each counted each time it is reached (what is shared counts as often as it is met; a slice's spare places count too). A statement '..UptoSaid' is the law's where the arguments, and the package variables that the reading takes, are together of bulk at most 1048576: NARROWER than '..Said'. Prove '..Said' where nothing that the law and all that it calls make is longer than what came in: it says more and counts as full. Else prove '..UptoSaid'. A law counts once. -/
mutual
def uptoBulk {H : Type} : DataW H → Nat
  | .lit (.string bytes) => bytes.length + 1
  | .lit _ => 1
  | .nil => 1
  | .ptr d => uptoBulk d + 1
  | .slice elems spare => uptoBulkAll elems + uptoBulkAll spare + 1
  | .agg parts => uptoBulkAll parts + 1
  | .iface _ d => uptoBulk d + 1
  | .map entries => uptoBulkEntries entries + 1
  | .held _ => 1
def uptoBulkAll {H : Type} : List (DataW H) → Nat
  | [] => 0
  | d :: r => uptoBulk d + uptoBulkAll r
def uptoBulkEntries {H : Type} : List (Lit × DataW H) → Nat
  | [] => 0
  | x :: r => uptoBulkEntry x + uptoBulkEntries r
def uptoBulkEntry {H : Type} : Lit × DataW H → Nat
  | (.string bytes, d) => bytes.length + uptoBulk d + 1
  | (_, d) => uptoBulk d + 1
 end
def uptoSmall : (H : Type) → List (DataW H) → Bool := fun _ ds => decide (uptoBulkAll ds ≤ 1048576)
def OpenSpec.upto (s : _root_.Go.ChangeSpec) : _root_.Go.OpenSpec := { _root_.Go.OpenSpec.ofChange s with cond := some uptoSmall }

/-- 'archipelagolaw09.PackAnswers', WHERE WHAT IT READS IS OF BULK AT MOST 1048576: true; the input reads as it did. -/
def packAnswersUptoRow : OpenClaim := { program := "ytbehekmnccoifaa", sum := "6ad84900bc98e8b652f4393332ed7cc1e8a77b6f63127716879b3845858255a6", func := "archipelago/archipelagolaw09.PackAnswers", spec := "packAnswers", unfollowed := true, recurses := true, apart := false, narrowed := true }
def PackAnswersUptoSaid : Prop := packAnswersUptoRow.holds Try.pinned (OpenSpec.upto packAnswersSpec)

/-- 'archipelagolaw09.PackBack', WHERE WHAT IT READS IS OF BULK AT MOST 1048576: true; the input reads as it did. -/
def packBackUptoRow : OpenClaim := { program := "ytbehekmnccoifaa", sum := "6ad84900bc98e8b652f4393332ed7cc1e8a77b6f63127716879b3845858255a6", func := "archipelago/archipelagolaw09.PackBack", spec := "packBack", unfollowed := true, recurses := true, apart := false, narrowed := true }
def PackBackUptoSaid : Prop := packBackUptoRow.holds Try.pinned (OpenSpec.upto packBackSpec)

/-- 'archipelagolaw09.PackParts', WHERE WHAT IT READS IS OF BULK AT MOST 1048576: true; the input reads as it did. -/
def packPartsUptoRow : OpenClaim := { program := "ytbehekmnccoifaa", sum := "6ad84900bc98e8b652f4393332ed7cc1e8a77b6f63127716879b3845858255a6", func := "archipelago/archipelagolaw09.PackParts", spec := "packParts", unfollowed := true, recurses := true, apart := false, narrowed := true }
def PackPartsUptoSaid : Prop := packPartsUptoRow.holds Try.pinned (OpenSpec.upto packPartsSpec)

/-- 'archipelagolaw09.PackBlocks', WHERE WHAT IT READS IS OF BULK AT MOST 1048576: true; the input reads as it did. -/
def packBlocksUptoRow : OpenClaim := { program := "ytbehekmnccoifaa", sum := "6ad84900bc98e8b652f4393332ed7cc1e8a77b6f63127716879b3845858255a6", func := "archipelago/archipelagolaw09.PackBlocks", spec := "packBlocks", unfollowed := true, recurses := true, apart := false, narrowed := true }
def PackBlocksUptoSaid : Prop := packBlocksUptoRow.holds Try.pinned (OpenSpec.upto packBlocksSpec)

/-- 'archipelagolaw11.DedupAnswers', WHERE WHAT IT READS IS OF BULK AT MOST 1048576: true; the input reads as it did. -/
def dedupAnswersUptoRow : OpenClaim := { program := "ytbehekmnccoifaa", sum := "6ad84900bc98e8b652f4393332ed7cc1e8a77b6f63127716879b3845858255a6", func := "archipelago/archipelagolaw11.DedupAnswers", spec := "dedupAnswers", unfollowed := true, recurses := true, apart := false, narrowed := true }
def DedupAnswersUptoSaid : Prop := dedupAnswersUptoRow.holds Try.pinned (OpenSpec.upto dedupAnswersSpec)

/-- 'archipelagolaw11.DedupEdges', WHERE WHAT IT READS IS OF BULK AT MOST 1048576: true; the input reads as it did. -/
def dedupEdgesUptoRow : OpenClaim := { program := "ytbehekmnccoifaa", sum := "6ad84900bc98e8b652f4393332ed7cc1e8a77b6f63127716879b3845858255a6", func := "archipelago/archipelagolaw11.DedupEdges", spec := "dedupEdges", unfollowed := true, recurses := true, apart := false, narrowed := true }
def DedupEdgesUptoSaid : Prop := dedupEdgesUptoRow.holds Try.pinned (OpenSpec.upto dedupEdgesSpec)

/-- 'archipelagolaw11.DedupOnce', WHERE WHAT IT READS IS OF BULK AT MOST 1048576: true; the input reads as it did. -/
def dedupOnceUptoRow : OpenClaim := { program := "ytbehekmnccoifaa", sum := "6ad84900bc98e8b652f4393332ed7cc1e8a77b6f63127716879b3845858255a6", func := "archipelago/archipelagolaw11.DedupOnce", spec := "dedupOnce", unfollowed := true, recurses := true, apart := false, narrowed := true }
def DedupOnceUptoSaid : Prop := dedupOnceUptoRow.holds Try.pinned (OpenSpec.upto dedupOnceSpec)

/-- 'archipelagolaw11.DedupKeys', WHERE WHAT IT READS IS OF BULK AT MOST 1048576: true; the input reads as it did. -/
def dedupKeysUptoRow : OpenClaim := { program := "ytbehekmnccoifaa", sum := "6ad84900bc98e8b652f4393332ed7cc1e8a77b6f63127716879b3845858255a6", func := "archipelago/archipelagolaw11.DedupKeys", spec := "dedupKeys", unfollowed := true, recurses := true, apart := false, narrowed := true }
def DedupKeysUptoSaid : Prop := dedupKeysUptoRow.holds Try.pinned (OpenSpec.upto dedupKeysSpec)

end Rows
end Go.Proofs.Ytbehekmnccoifaa
