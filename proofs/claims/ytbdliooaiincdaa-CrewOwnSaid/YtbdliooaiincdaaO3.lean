/-
  What comes in, by its type: picks.
-/
import Derived.Test.YtbdliooaiincdaaO2
namespace Go.Proofs.Ytbdliooaiincdaa
open Go.Am Go.Proofs
theorem op64 : Opens Try.prog 64 (Int × Int × Int) (fun p => (Lit.int .u8 p.1).wf = true ∧ (Lit.int .u8 p.2.1).wf = true ∧ (Lit.int .u8 p.2.2).wf = true) (fun p => [.lit (.int .u8 p.1), .lit (.int .u8 p.2.1), .lit (.int .u8 p.2.2)]) :=
  (opens_agg (ts := [5, 5, 5]) (by kernel_rfl) (.cons op5 (.cons op5 (.cons op5 .nil)))).map (fun p => (p.1, p.2.1, p.2.2.1)) (fun _ h => ⟨⟨h.1, h.2.1, h.2.2.1⟩, rfl⟩)
theorem op65 : Opens Try.prog 65 (List (Int × Int)) (fun l => l.length ≤ maxLen ∧ ∀ p, p ∈ l → W64 p.1 ∧ W64 p.2) (fun l => [.seq false (l.map fun p => [.lit (.int .i64 p.1), .lit (.int .i64 p.2)])]) := opens_slice Try.underlying65 (of_decide_eq_true (by kernel_rfl)) op43
end Go.Proofs.Ytbdliooaiincdaa
