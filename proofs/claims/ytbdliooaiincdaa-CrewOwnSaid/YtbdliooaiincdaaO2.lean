/-
  What comes in, by its type: work, its tasks, pairs.
-/
import Derived.Test.YtbdliooaiincdaaO1
import Derived.Test.YtbdliooaiincdaaK1
namespace Go.Proofs.Ytbdliooaiincdaa
open Go.Am Go.Proofs
abbrev W64 (n : Int) : Prop := (Lit.int .i64 n).wf = true
theorem op4 : Opens Try.prog 4 Bool (fun _ => True) (fun b => [.lit (.bool b)]) := opens_bool Try.underlying4
theorem op57 : Opens Try.prog 57 Int (fun n => (Lit.int .u16 n).wf = true) (fun n => [.lit (.int .u16 n)]) := opens_int Try.underlying57
theorem op58 : Opens Try.prog 58 (List Int) (fun l => l.length ≤ maxLen ∧ ∀ a, a ∈ l → (Lit.int .u16 a).wf = true) (fun l => [.seq false (l.map fun n => [.lit (.int .u16 n)])]) := opens_slice Try.underlying58 (of_decide_eq_true (by kernel_rfl)) op57
theorem op62 : Opens Try.prog 62 (Int × Int) (fun p => (Lit.int .u8 p.1).wf = true ∧ (Lit.int .u8 p.2).wf = true) (fun p => [.lit (.int .u8 p.1), .lit (.int .u8 p.2)]) :=
  (opens_agg (ts := [5, 5]) (by kernel_rfl) (.cons op5 (.cons op5 .nil))).map (fun p => (p.1, p.2.1)) (fun _ h => ⟨⟨h.1, h.2.1⟩, rfl⟩)
theorem op43 : Opens Try.prog 43 (Int × Int) (fun p => W64 p.1 ∧ W64 p.2) (fun p => [.lit (.int .i64 p.1), .lit (.int .i64 p.2)]) :=
  (opens_agg (ts := [3, 3]) (by kernel_rfl) (.cons op3 (.cons op3 .nil))).map (fun p => (p.1, p.2.1)) (fun _ h => ⟨⟨h.1, h.2.1⟩, rfl⟩)
theorem op36 : Opens Try.prog 36 (List Bool) (fun l => l.length ≤ maxLen ∧ ∀ a, a ∈ l → True) (fun l => [.seq false (l.map fun n => [.lit (.bool n)])]) := opens_slice Try.underlying36 (of_decide_eq_true (by kernel_rfl)) op4
theorem op60 : Opens Try.prog 60 Pl.Task (fun t => W64 t.low ∧ W64 t.high ∧ W64 t.up ∧ W64 t.wait) taskC :=
  (opens_agg (ts := [3, 3, 3, 3]) (by kernel_rfl) (.cons op3 (.cons op3 (.cons op3 (.cons op3 .nil))))).map (fun p => ⟨p.1, p.2.1, p.2.2.1, p.2.2.2.1⟩) (fun _ h => ⟨⟨h.1, h.2.1, h.2.2.1, h.2.2.2.1⟩, rfl⟩)
theorem op40 : Opens Try.prog 40 (List Pl.Task) (fun l => l.length ≤ maxLen ∧ ∀ t, t ∈ l → W64 t.low ∧ W64 t.high ∧ W64 t.up ∧ W64 t.wait) (fun l => [.seq false (l.map taskC)]) := opens_slice Try.underlying40 (of_decide_eq_true (by kernel_rfl)) op60
theorem op42 : Opens Try.prog 42 Pl.Work (fun w => w.ts.length ≤ maxLen ∧ (∀ t, t ∈ w.ts → W64 t.low ∧ W64 t.high ∧ W64 t.up ∧ W64 t.wait) ∧ W64 w.grain ∧ w.done.length ≤ maxLen) (workC false false) :=
  (opens_agg (ts := [40, 3, 36]) (by kernel_rfl) (.cons op40 (.cons op3 (.cons op36 .nil)))).map (fun p => ⟨p.1, p.2.1, p.2.2.1⟩) (fun _ h => ⟨⟨h.1.1, h.1.2, h.2.1, h.2.2.1.1⟩, rfl⟩)
end Go.Proofs.Ytbdliooaiincdaa
