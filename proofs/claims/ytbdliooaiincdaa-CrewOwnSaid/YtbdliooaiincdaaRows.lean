/-
  No cell of these rows narrows 'for every input' (looked for: loops, veiled, ifaces, maps, wideKeys, modest, calm, conditions, laid).
  DERIVED. THE GIVEN ROWS OF THIS SEAT. 11 by the template 'for every input the law returns true; each argument reads behind the call as it read before'; 0 by the template 'total and deterministic' (their statements: YtbdliooaiincdaaTotals.lean).
  GIVEN WITH THE SEED: the statements are not yours to turn. If you find one false, say at which input.
  Laid BY PROGRAM, IN A SANDBOX (cutbox-rows.mjs): the forced cells as the released guide's own fill.sh prints them over the translation e6e876d817f206a5… (all of the seat's roots in one cut). By AI agents, Wed Nov 11 2026. No macro, syntax, notation, axiom, sorry.
-/
import Derived.Test.YtbdliooaiincdaaChecked
import GoSem.Claim
import GoSem.ClaimJoined
import GoSem.ClaimMapViews
import Derived.JoinedTies
import Derived.KernelRfl
namespace Go.Proofs.Ytbdliooaiincdaa
/- THE CELL 'sum', in the pinned program and in every row, IS THE sha256 OF THE DUMP (.gsa) THAT YtbdliooaiincdaaProg.lean LOADS. Nothing in Lean hashes anything: it is a label: what it is worth is what the hold of that sum in a sandbox is worth. -/
noncomputable def Try.pinned : Pinned := { name := "ytbdliooaiincdaa", sum := "e6e876d817f206a5501d929d6fa8ef6702e019feeadd048a77452422028fd57e", checked := Try.checked }
namespace Rows
def none {H : Type} : Left H := { results := [], args := [] }

/-- 'archipelagolaw03.DequeAnswers': WHATEVER THE INPUT: true; the input reads as it did. -/
def dequeAnswersSpec : ChangeSpec := { name := "dequeAnswers", fn := fun _ => fun
  | [d1, d2, d3] => { results := [.lit (.bool true)], args := [d1, d2, d3] }
  | _ => none }
def dequeAnswersRow : OpenClaim := { program := "ytbdliooaiincdaa", sum := "e6e876d817f206a5501d929d6fa8ef6702e019feeadd048a77452422028fd57e", func := "archipelago/archipelagolaw03.DequeAnswers", spec := "dequeAnswers", apart := false }
def DequeAnswersSaid : Prop := dequeAnswersRow.holds Try.pinned (OpenSpec.ofChange dequeAnswersSpec)

/-- ITS FALSE NEIGHBOUR: 'it returns false'. Refute it at one input. -/
def dequeAnswersWrong : ChangeSpec := { name := "dequeAnswers", fn := fun _ => fun
  | [d1, d2, d3] => { results := [.lit (.bool false)], args := [d1, d2, d3] }
  | _ => none }
def DequeAnswersWrongFalsely : Prop := dequeAnswersRow.holds Try.pinned (OpenSpec.ofChange dequeAnswersWrong)

/-- 'archipelagolaw03.DequeOnce': WHATEVER THE INPUT: true; the input reads as it did. -/
def dequeOnceSpec : ChangeSpec := { name := "dequeOnce", fn := fun _ => fun
  | [d] => { results := [.lit (.bool true)], args := [d] }
  | _ => none }
def dequeOnceRow : OpenClaim := { program := "ytbdliooaiincdaa", sum := "e6e876d817f206a5501d929d6fa8ef6702e019feeadd048a77452422028fd57e", func := "archipelago/archipelagolaw03.DequeOnce", spec := "dequeOnce", apart := false }
def DequeOnceSaid : Prop := dequeOnceRow.holds Try.pinned (OpenSpec.ofChange dequeOnceSpec)

/-- ITS FALSE NEIGHBOUR: 'it returns false'. Refute it at one input. -/
def dequeOnceWrong : ChangeSpec := { name := "dequeOnce", fn := fun _ => fun
  | [d] => { results := [.lit (.bool false)], args := [d] }
  | _ => none }
def DequeOnceWrongFalsely : Prop := dequeOnceRow.holds Try.pinned (OpenSpec.ofChange dequeOnceWrong)

/-- 'archipelagolaw03.DequeMoves': WHATEVER THE INPUT: true; the input reads as it did. -/
def dequeMovesSpec : ChangeSpec := { name := "dequeMoves", fn := fun _ => fun
  | [d1, d2, d3] => { results := [.lit (.bool true)], args := [d1, d2, d3] }
  | _ => none }
def dequeMovesRow : OpenClaim := { program := "ytbdliooaiincdaa", sum := "e6e876d817f206a5501d929d6fa8ef6702e019feeadd048a77452422028fd57e", func := "archipelago/archipelagolaw03.DequeMoves", spec := "dequeMoves", apart := false }
def DequeMovesSaid : Prop := dequeMovesRow.holds Try.pinned (OpenSpec.ofChange dequeMovesSpec)

/-- ITS FALSE NEIGHBOUR: 'it returns false'. Refute it at one input. -/
def dequeMovesWrong : ChangeSpec := { name := "dequeMoves", fn := fun _ => fun
  | [d1, d2, d3] => { results := [.lit (.bool false)], args := [d1, d2, d3] }
  | _ => none }
def DequeMovesWrongFalsely : Prop := dequeMovesRow.holds Try.pinned (OpenSpec.ofChange dequeMovesWrong)

/-- 'archipelagolaw03.DequeEnds': WHATEVER THE INPUT: true; the input reads as it did. -/
def dequeEndsSpec : ChangeSpec := { name := "dequeEnds", fn := fun _ => fun
  | [d1, d2] => { results := [.lit (.bool true)], args := [d1, d2] }
  | _ => none }
def dequeEndsRow : OpenClaim := { program := "ytbdliooaiincdaa", sum := "e6e876d817f206a5501d929d6fa8ef6702e019feeadd048a77452422028fd57e", func := "archipelago/archipelagolaw03.DequeEnds", spec := "dequeEnds", apart := false }
def DequeEndsSaid : Prop := dequeEndsRow.holds Try.pinned (OpenSpec.ofChange dequeEndsSpec)

/-- ITS FALSE NEIGHBOUR: 'it returns false'. Refute it at one input. -/
def dequeEndsWrong : ChangeSpec := { name := "dequeEnds", fn := fun _ => fun
  | [d1, d2] => { results := [.lit (.bool false)], args := [d1, d2] }
  | _ => none }
def DequeEndsWrongFalsely : Prop := dequeEndsRow.holds Try.pinned (OpenSpec.ofChange dequeEndsWrong)

/-- 'archipelagolaw04.TaskAnswers': WHATEVER THE INPUT: true; the input reads as it did. -/
def taskAnswersSpec : ChangeSpec := { name := "taskAnswers", fn := fun _ => fun
  | [d1, d2, d3] => { results := [.lit (.bool true)], args := [d1, d2, d3] }
  | _ => none }
def taskAnswersRow : OpenClaim := { program := "ytbdliooaiincdaa", sum := "e6e876d817f206a5501d929d6fa8ef6702e019feeadd048a77452422028fd57e", func := "archipelago/archipelagolaw04.TaskAnswers", spec := "taskAnswers", unfollowed := true, recurses := true, apart := false }
def TaskAnswersSaid : Prop := taskAnswersRow.holds Try.pinned (OpenSpec.ofChange taskAnswersSpec)

/-- ITS FALSE NEIGHBOUR: 'it returns false'. Refute it at one input. -/
def taskAnswersWrong : ChangeSpec := { name := "taskAnswers", fn := fun _ => fun
  | [d1, d2, d3] => { results := [.lit (.bool false)], args := [d1, d2, d3] }
  | _ => none }
def TaskAnswersWrongFalsely : Prop := taskAnswersRow.holds Try.pinned (OpenSpec.ofChange taskAnswersWrong)

/-- 'archipelagolaw04.TaskOnce': WHATEVER THE INPUT: true; the input reads as it did. -/
def taskOnceSpec : ChangeSpec := { name := "taskOnce", fn := fun _ => fun
  | [d1, d2, d3] => { results := [.lit (.bool true)], args := [d1, d2, d3] }
  | _ => none }
def taskOnceRow : OpenClaim := { program := "ytbdliooaiincdaa", sum := "e6e876d817f206a5501d929d6fa8ef6702e019feeadd048a77452422028fd57e", func := "archipelago/archipelagolaw04.TaskOnce", spec := "taskOnce", unfollowed := true, recurses := true, apart := false }
def TaskOnceSaid : Prop := taskOnceRow.holds Try.pinned (OpenSpec.ofChange taskOnceSpec)

/-- ITS FALSE NEIGHBOUR: 'it returns false'. Refute it at one input. -/
def taskOnceWrong : ChangeSpec := { name := "taskOnce", fn := fun _ => fun
  | [d1, d2, d3] => { results := [.lit (.bool false)], args := [d1, d2, d3] }
  | _ => none }
def TaskOnceWrongFalsely : Prop := taskOnceRow.holds Try.pinned (OpenSpec.ofChange taskOnceWrong)

/-- 'archipelagolaw04.TaskParts': WHATEVER THE INPUT: true; the input reads as it did. -/
def taskPartsSpec : ChangeSpec := { name := "taskParts", fn := fun _ => fun
  | [d1, d2] => { results := [.lit (.bool true)], args := [d1, d2] }
  | _ => none }
def taskPartsRow : OpenClaim := { program := "ytbdliooaiincdaa", sum := "e6e876d817f206a5501d929d6fa8ef6702e019feeadd048a77452422028fd57e", func := "archipelago/archipelagolaw04.TaskParts", spec := "taskParts", unfollowed := true, recurses := true, apart := false }
def TaskPartsSaid : Prop := taskPartsRow.holds Try.pinned (OpenSpec.ofChange taskPartsSpec)

/-- ITS FALSE NEIGHBOUR: 'it returns false'. Refute it at one input. -/
def taskPartsWrong : ChangeSpec := { name := "taskParts", fn := fun _ => fun
  | [d1, d2] => { results := [.lit (.bool false)], args := [d1, d2] }
  | _ => none }
def TaskPartsWrongFalsely : Prop := taskPartsRow.holds Try.pinned (OpenSpec.ofChange taskPartsWrong)

/-- 'archipelagolaw04.TaskCounts': WHATEVER THE INPUT: true; the input reads as it did. -/
def taskCountsSpec : ChangeSpec := { name := "taskCounts", fn := fun _ => fun
  | [d1, d2] => { results := [.lit (.bool true)], args := [d1, d2] }
  | _ => none }
def taskCountsRow : OpenClaim := { program := "ytbdliooaiincdaa", sum := "e6e876d817f206a5501d929d6fa8ef6702e019feeadd048a77452422028fd57e", func := "archipelago/archipelagolaw04.TaskCounts", spec := "taskCounts", unfollowed := true, recurses := true, apart := false }
def TaskCountsSaid : Prop := taskCountsRow.holds Try.pinned (OpenSpec.ofChange taskCountsSpec)

/-- ITS FALSE NEIGHBOUR: 'it returns false'. Refute it at one input. -/
def taskCountsWrong : ChangeSpec := { name := "taskCounts", fn := fun _ => fun
  | [d1, d2] => { results := [.lit (.bool false)], args := [d1, d2] }
  | _ => none }
def TaskCountsWrongFalsely : Prop := taskCountsRow.holds Try.pinned (OpenSpec.ofChange taskCountsWrong)

/-- 'archipelagolaw05.CrewOnce': WHATEVER THE INPUT: true; the input reads as it did. -/
def crewOnceSpec : ChangeSpec := { name := "crewOnce", fn := fun _ => fun
  | [d1, d2] => { results := [.lit (.bool true)], args := [d1, d2] }
  | _ => none }
def crewOnceRow : OpenClaim := { program := "ytbdliooaiincdaa", sum := "e6e876d817f206a5501d929d6fa8ef6702e019feeadd048a77452422028fd57e", func := "archipelago/archipelagolaw05.CrewOnce", spec := "crewOnce", unfollowed := true, recurses := true, apart := false }
def CrewOnceSaid : Prop := crewOnceRow.holds Try.pinned (OpenSpec.ofChange crewOnceSpec)

/-- ITS FALSE NEIGHBOUR: 'it returns false'. Refute it at one input. -/
def crewOnceWrong : ChangeSpec := { name := "crewOnce", fn := fun _ => fun
  | [d1, d2] => { results := [.lit (.bool false)], args := [d1, d2] }
  | _ => none }
def CrewOnceWrongFalsely : Prop := crewOnceRow.holds Try.pinned (OpenSpec.ofChange crewOnceWrong)

/-- 'archipelagolaw05.CrewTasks': WHATEVER THE INPUT: true; the input reads as it did. -/
def crewTasksSpec : ChangeSpec := { name := "crewTasks", fn := fun _ => fun
  | [d1, d2] => { results := [.lit (.bool true)], args := [d1, d2] }
  | _ => none }
def crewTasksRow : OpenClaim := { program := "ytbdliooaiincdaa", sum := "e6e876d817f206a5501d929d6fa8ef6702e019feeadd048a77452422028fd57e", func := "archipelago/archipelagolaw05.CrewTasks", spec := "crewTasks", unfollowed := true, recurses := true, apart := false }
def CrewTasksSaid : Prop := crewTasksRow.holds Try.pinned (OpenSpec.ofChange crewTasksSpec)

/-- ITS FALSE NEIGHBOUR: 'it returns false'. Refute it at one input. -/
def crewTasksWrong : ChangeSpec := { name := "crewTasks", fn := fun _ => fun
  | [d1, d2] => { results := [.lit (.bool false)], args := [d1, d2] }
  | _ => none }
def CrewTasksWrongFalsely : Prop := crewTasksRow.holds Try.pinned (OpenSpec.ofChange crewTasksWrong)

/-- 'archipelagolaw05.CrewOwn': WHATEVER THE INPUT: true; the input reads as it did. -/
def crewOwnSpec : ChangeSpec := { name := "crewOwn", fn := fun _ => fun
  | [d1, d2] => { results := [.lit (.bool true)], args := [d1, d2] }
  | _ => none }
def crewOwnRow : OpenClaim := { program := "ytbdliooaiincdaa", sum := "e6e876d817f206a5501d929d6fa8ef6702e019feeadd048a77452422028fd57e", func := "archipelago/archipelagolaw05.CrewOwn", spec := "crewOwn", unfollowed := true, recurses := true, apart := false }
def CrewOwnSaid : Prop := crewOwnRow.holds Try.pinned (OpenSpec.ofChange crewOwnSpec)

/-- ITS FALSE NEIGHBOUR: 'it returns false'. Refute it at one input. -/
def crewOwnWrong : ChangeSpec := { name := "crewOwn", fn := fun _ => fun
  | [d1, d2] => { results := [.lit (.bool false)], args := [d1, d2] }
  | _ => none }
def CrewOwnWrongFalsely : Prop := crewOwnRow.holds Try.pinned (OpenSpec.ofChange crewOwnWrong)

/- THE SECOND FORM. 'bulk': how many values and letters a reading holds, each counted each time it is reached (what is shared counts as often as it is met; a slice's spare places count too). A statement '..UptoSaid' is the law's where the arguments, and the package variables that the reading takes, are together of bulk at most 1048576: NARROWER than '..Said'. Prove '..Said' where nothing that the law and all that it calls make is longer than what came in: it says more and counts as full. Else prove '..UptoSaid'. A law counts once. -/
mutual
def uptoBulk {H : Type} : DataW H → Nat
  | .lit (.string bytes) => bytes.length + 1
  | .lit _ => 1
  | .nil => 1
  | .ptr d => uptoBulk d + 1
  | .slice elems spare => uptoBulkAll elems + uptoBulkAll spare + 1
  | .agg parts => uptoBulkAll parts + 1
  | .iface _ d => uptoBulk d + 1
  | .map entries => uptoBulkEntries entries + 1
  | .held _ => 1
def uptoBulkAll {H : Type} : List (DataW H) → Nat
  | [] => 0
  | d :: r => uptoBulk d + uptoBulkAll r
def uptoBulkEntries {H : Type} : List (Lit × DataW H) → Nat
  | [] => 0
  | x :: r => uptoBulkEntry x + uptoBulkEntries r
def uptoBulkEntry {H : Type} : Lit × DataW H → Nat
  | (.string bytes, d) => bytes.length + uptoBulk d + 1
  | (_, d) => uptoBulk d + 1
 end
def uptoSmall : (H : Type) → List (DataW H) → Bool := fun _ ds => decide (uptoBulkAll ds ≤ 1048576)
def OpenSpec.upto (s : _root_.Go.ChangeSpec) : _root_.Go.OpenSpec := { _root_.Go.OpenSpec.ofChange s with cond := some uptoSmall }

/-- 'archipelagolaw03.DequeAnswers', WHERE WHAT IT READS IS OF BULK AT MOST 1048576: true; the input reads as it did. -/
def dequeAnswersUptoRow : OpenClaim := { program := "ytbdliooaiincdaa", sum := "e6e876d817f206a5501d929d6fa8ef6702e019feeadd048a77452422028fd57e", func := "archipelago/archipelagolaw03.DequeAnswers", spec := "dequeAnswers", apart := false, narrowed := true }
def DequeAnswersUptoSaid : Prop := dequeAnswersUptoRow.holds Try.pinned (OpenSpec.upto dequeAnswersSpec)

/-- 'archipelagolaw03.DequeOnce', WHERE WHAT IT READS IS OF BULK AT MOST 1048576: true; the input reads as it did. -/
def dequeOnceUptoRow : OpenClaim := { program := "ytbdliooaiincdaa", sum := "e6e876d817f206a5501d929d6fa8ef6702e019feeadd048a77452422028fd57e", func := "archipelago/archipelagolaw03.DequeOnce", spec := "dequeOnce", apart := false, narrowed := true }
def DequeOnceUptoSaid : Prop := dequeOnceUptoRow.holds Try.pinned (OpenSpec.upto dequeOnceSpec)

/-- 'archipelagolaw03.DequeMoves', WHERE WHAT IT READS IS OF BULK AT MOST 1048576: true; the input reads as it did. -/
def dequeMovesUptoRow : OpenClaim := { program := "ytbdliooaiincdaa", sum := "e6e876d817f206a5501d929d6fa8ef6702e019feeadd048a77452422028fd57e", func := "archipelago/archipelagolaw03.DequeMoves", spec := "dequeMoves", apart := false, narrowed := true }
def DequeMovesUptoSaid : Prop := dequeMovesUptoRow.holds Try.pinned (OpenSpec.upto dequeMovesSpec)

/-- 'archipelagolaw03.DequeEnds', WHERE WHAT IT READS IS OF BULK AT MOST 1048576: true; the input reads as it did. -/
def dequeEndsUptoRow : OpenClaim := { program := "ytbdliooaiincdaa", sum := "e6e876d817f206a5501d929d6fa8ef6702e019feeadd048a77452422028fd57e", func := "archipelago/archipelagolaw03.DequeEnds", spec := "dequeEnds", apart := false, narrowed := true }
def DequeEndsUptoSaid : Prop := dequeEndsUptoRow.holds Try.pinned (OpenSpec.upto dequeEndsSpec)

/-- 'archipelagolaw04.TaskAnswers', WHERE WHAT IT READS IS OF BULK AT MOST 1048576: true; the input reads as it did. -/
def taskAnswersUptoRow : OpenClaim := { program := "ytbdliooaiincdaa", sum := "e6e876d817f206a5501d929d6fa8ef6702e019feeadd048a77452422028fd57e", func := "archipelago/archipelagolaw04.TaskAnswers", spec := "taskAnswers", unfollowed := true, recurses := true, apart := false, narrowed := true }
def TaskAnswersUptoSaid : Prop := taskAnswersUptoRow.holds Try.pinned (OpenSpec.upto taskAnswersSpec)

/-- 'archipelagolaw04.TaskOnce', WHERE WHAT IT READS IS OF BULK AT MOST 1048576: true; the input reads as it did. -/
def taskOnceUptoRow : OpenClaim := { program := "ytbdliooaiincdaa", sum := "e6e876d817f206a5501d929d6fa8ef6702e019feeadd048a77452422028fd57e", func := "archipelago/archipelagolaw04.TaskOnce", spec := "taskOnce", unfollowed := true, recurses := true, apart := false, narrowed := true }
def TaskOnceUptoSaid : Prop := taskOnceUptoRow.holds Try.pinned (OpenSpec.upto taskOnceSpec)

/-- 'archipelagolaw04.TaskParts', WHERE WHAT IT READS IS OF BULK AT MOST 1048576: true; the input reads as it did. -/
def taskPartsUptoRow : OpenClaim := { program := "ytbdliooaiincdaa", sum := "e6e876d817f206a5501d929d6fa8ef6702e019feeadd048a77452422028fd57e", func := "archipelago/archipelagolaw04.TaskParts", spec := "taskParts", unfollowed := true, recurses := true, apart := false, narrowed := true }
def TaskPartsUptoSaid : Prop := taskPartsUptoRow.holds Try.pinned (OpenSpec.upto taskPartsSpec)

/-- 'archipelagolaw04.TaskCounts', WHERE WHAT IT READS IS OF BULK AT MOST 1048576: true; the input reads as it did. -/
def taskCountsUptoRow : OpenClaim := { program := "ytbdliooaiincdaa", sum := "e6e876d817f206a5501d929d6fa8ef6702e019feeadd048a77452422028fd57e", func := "archipelago/archipelagolaw04.TaskCounts", spec := "taskCounts", unfollowed := true, recurses := true, apart := false, narrowed := true }
def TaskCountsUptoSaid : Prop := taskCountsUptoRow.holds Try.pinned (OpenSpec.upto taskCountsSpec)

/-- 'archipelagolaw05.CrewOnce', WHERE WHAT IT READS IS OF BULK AT MOST 1048576: true; the input reads as it did. -/
def crewOnceUptoRow : OpenClaim := { program := "ytbdliooaiincdaa", sum := "e6e876d817f206a5501d929d6fa8ef6702e019feeadd048a77452422028fd57e", func := "archipelago/archipelagolaw05.CrewOnce", spec := "crewOnce", unfollowed := true, recurses := true, apart := false, narrowed := true }
def CrewOnceUptoSaid : Prop := crewOnceUptoRow.holds Try.pinned (OpenSpec.upto crewOnceSpec)

/-- 'archipelagolaw05.CrewTasks', WHERE WHAT IT READS IS OF BULK AT MOST 1048576: true; the input reads as it did. -/
def crewTasksUptoRow : OpenClaim := { program := "ytbdliooaiincdaa", sum := "e6e876d817f206a5501d929d6fa8ef6702e019feeadd048a77452422028fd57e", func := "archipelago/archipelagolaw05.CrewTasks", spec := "crewTasks", unfollowed := true, recurses := true, apart := false, narrowed := true }
def CrewTasksUptoSaid : Prop := crewTasksUptoRow.holds Try.pinned (OpenSpec.upto crewTasksSpec)

/-- 'archipelagolaw05.CrewOwn', WHERE WHAT IT READS IS OF BULK AT MOST 1048576: true; the input reads as it did. -/
def crewOwnUptoRow : OpenClaim := { program := "ytbdliooaiincdaa", sum := "e6e876d817f206a5501d929d6fa8ef6702e019feeadd048a77452422028fd57e", func := "archipelago/archipelagolaw05.CrewOwn", spec := "crewOwn", unfollowed := true, recurses := true, apart := false, narrowed := true }
def CrewOwnUptoSaid : Prop := crewOwnUptoRow.holds Try.pinned (OpenSpec.upto crewOwnSpec)

end Rows
end Go.Proofs.Ytbdliooaiincdaa
