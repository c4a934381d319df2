/-
  What comes in, by its type, over this seat's table of types.
-/
import Derived.Test.YtjkkjiaeeobnkaaRows
import Derived.Test.YtjkkjiaeeobnkaaB1
namespace Go.Proofs.Ytjkkjiaeeobnkaa
open Go.Am Go.Proofs
theorem Try.own : ownKnob Try.prog.godebug = none := by kernel_rfl
theorem Try.laidOut : laidOutB Try.prog = true := by kernel_rfl
abbrev W64 (n : Int) : Prop := (Lit.int .i64 n).wf = true
theorem wf64 {n : Int} (h : (Lit.int .i64 n).wf = true) : -9223372036854775808 ≤ n ∧ n ≤ 9223372036854775807 := by
  simp only [Lit.wf, Bool.and_eq_true, decide_eq_true_eq, show IntKind.i64.min = -9223372036854775808 from rfl, show IntKind.i64.max = 9223372036854775807 from rfl] at h; exact h
theorem wf8 {n : Int} (h : (Lit.int .u8 n).wf = true) : 0 ≤ n ∧ n ≤ 255 := by
  simp only [Lit.wf, Bool.and_eq_true, decide_eq_true_eq, show IntKind.u8.min = 0 from rfl, show IntKind.u8.max = 255 from rfl] at h; exact h
theorem wf16 {n : Int} (h : (Lit.int .u16 n).wf = true) : 0 ≤ n ∧ n ≤ 65535 := by
  simp only [Lit.wf, Bool.and_eq_true, decide_eq_true_eq, show IntKind.u16.min = 0 from rfl, show IntKind.u16.max = 65535 from rfl] at h; exact h
theorem wf32 {n : Int} (h : (Lit.int .u32 n).wf = true) : 0 ≤ n ∧ n ≤ 4294967295 := by
  simp only [Lit.wf, Bool.and_eq_true, decide_eq_true_eq, show IntKind.u32.min = 0 from rfl, show IntKind.u32.max = 4294967295 from rfl] at h; exact h
theorem op_int : Opens Try.prog 3 Int (fun n => (Lit.int .i64 n).wf = true) (fun n => [.lit (.int .i64 n)]) := opens_int Try.underlying3
theorem op_pair : Opens Try.prog 93 (Int × Int) (fun p => W64 p.1 ∧ W64 p.2) (fun p => [iV p.1, iV p.2]) := (opens_agg (ts := [3, 3]) (by kernel_rfl) (.cons op_int (.cons op_int .nil))).map (fun p => (p.1, p.2.1)) (fun _ h => ⟨⟨h.1, h.2.1⟩, rfl⟩)
theorem op_picks : Opens Try.prog 49 (List (Int × Int)) (fun l => l.length ≤ maxLen ∧ ∀ p, p ∈ l → W64 p.1 ∧ W64 p.2) (fun l => [picksV false l]) := opens_slice Try.underlying49 (of_decide_eq_true (by kernel_rfl)) op_pair
theorem op_plan : Opens Try.prog 51 Pl.Plan (fun p => W64 p.grain ∧ W64 p.workers ∧ p.picks.length ≤ maxLen ∧ ∀ q, q ∈ p.picks → W64 q.1 ∧ W64 q.2) (planC false) := (opens_agg (ts := [3, 3, 49]) (by kernel_rfl) (.cons op_int (.cons op_int (.cons op_picks .nil)))).map (fun p => ⟨p.1, p.2.1, p.2.2.1⟩) (fun _ h => ⟨⟨h.1, h.2.1, h.2.2.1.1, h.2.2.1.2⟩, rfl⟩)
theorem op_way : Opens Try.prog 53 Pl.Way (fun w => W64 w.bits ∧ W64 w.block ∧ W64 w.plan.grain ∧ W64 w.plan.workers ∧ w.plan.picks.length ≤ maxLen ∧ ∀ q, q ∈ w.plan.picks → W64 q.1 ∧ W64 q.2) (wayC false) := (opens_agg (ts := [3, 3, 51]) (by kernel_rfl) (.cons op_int (.cons op_int (.cons op_plan .nil)))).map (fun p => ⟨p.1, p.2.1, p.2.2.1⟩) (fun _ h => ⟨⟨h.1, h.2.1, h.2.2.1.1, h.2.2.1.2.1, h.2.2.1.2.2.1, h.2.2.1.2.2.2⟩, rfl⟩)
theorem op_edge : Opens Try.prog 47 Pl.Edge (fun e => W64 e.u ∧ W64 e.v) (edgeC) := (opens_agg (ts := [3, 3]) (by kernel_rfl) (.cons op_int (.cons op_int .nil))).map (fun p => ⟨p.1, p.2.1⟩) (fun _ h => ⟨⟨h.1, h.2.1⟩, rfl⟩)
theorem op_edges : Opens Try.prog 24 (List Pl.Edge) (fun l => l.length ≤ maxLen ∧ ∀ e, e ∈ l → W64 e.u ∧ W64 e.v) (fun l => [.seq false (l.map edgeC)]) := opens_slice Try.underlying24 (of_decide_eq_true (by kernel_rfl)) op_edge
theorem op_ask : Opens Try.prog 45 Pl.Ask (fun e => W64 e.kind ∧ W64 e.u ∧ W64 e.v) (askC) := (opens_agg (ts := [3, 3, 3]) (by kernel_rfl) (.cons op_int (.cons op_int (.cons op_int .nil)))).map (fun p => ⟨p.1, p.2.1, p.2.2.1⟩) (fun _ h => ⟨⟨h.1, h.2.1, h.2.2.1⟩, rfl⟩)
theorem op_asks : Opens Try.prog 25 (List Pl.Ask) (fun l => l.length ≤ maxLen ∧ ∀ e, e ∈ l → W64 e.kind ∧ W64 e.u ∧ W64 e.v) (fun l => [.seq false (l.map askC)]) := opens_slice Try.underlying25 (of_decide_eq_true (by kernel_rfl)) op_ask
theorem op_batch : Opens Try.prog 27 Pl.Batch (fun x => W64 x.kind ∧ (x.edges.length ≤ maxLen ∧ ∀ e, e ∈ x.edges → W64 e.u ∧ W64 e.v) ∧ x.asks.length ≤ maxLen ∧ ∀ e, e ∈ x.asks → W64 e.kind ∧ W64 e.u ∧ W64 e.v) (batchC false false) := (opens_agg (ts := [3, 24, 25]) (by kernel_rfl) (.cons op_int (.cons op_edges (.cons op_asks .nil)))).map (fun p => ⟨p.1, p.2.1, p.2.2.1⟩) (fun _ h => ⟨⟨h.1, h.2.1, h.2.2.1⟩, rfl⟩)
theorem op_batches : Opens Try.prog 31 (List Pl.Batch) (fun l => l.length ≤ maxLen ∧ ∀ x, x ∈ l → W64 x.kind ∧ (x.edges.length ≤ maxLen ∧ ∀ e, e ∈ x.edges → W64 e.u ∧ W64 e.v) ∧ x.asks.length ≤ maxLen ∧ ∀ e, e ∈ x.asks → W64 e.kind ∧ W64 e.u ∧ W64 e.v) (fun l => [.seq false (l.map (batchC false false))]) := opens_slice Try.underlying31 (of_decide_eq_true (by kernel_rfl)) op_batch
theorem op_u16 : Opens Try.prog 61 Int (fun n => (Lit.int .u16 n).wf = true) (fun n => [.lit (.int .u16 n)]) := opens_int Try.underlying61
theorem op_u16x2 : Opens Try.prog 62 (Int × Int) (fun p => (Lit.int .u16 p.1).wf = true ∧ (Lit.int .u16 p.2).wf = true) (fun p => [.lit (.int .u16 p.1), .lit (.int .u16 p.2)]) := (opens_agg (ts := [61, 61]) (by kernel_rfl) (.cons op_u16 (.cons op_u16 .nil))).map (fun p => (p.1, p.2.1)) (fun _ h => ⟨⟨h.1, h.2.1⟩, rfl⟩)
theorem op_u8 : Opens Try.prog 5 Int (fun n => (Lit.int .u8 n).wf = true) (fun n => [.lit (.int .u8 n)]) := opens_int Try.underlying5
theorem op_u32 : Opens Try.prog 71 Int (fun n => (Lit.int .u32 n).wf = true) (fun n => [.lit (.int .u32 n)]) := opens_int Try.underlying71
theorem op_words : Opens Try.prog 63 (List Int) (fun l => l.length ≤ maxLen ∧ ∀ a, a ∈ l → (Lit.int .u32 a).wf = true) (fun l => [words false l]) := opens_slice Try.underlying63 (of_decide_eq_true (by kernel_rfl)) op_u32
theorem op_bytes : Opens Try.prog 22 (List Int) (fun l => l.length ≤ maxLen ∧ ∀ a, a ∈ l → (Lit.int .u8 a).wf = true) (fun l => [.seq false (l.map fun n => [.lit (.int .u8 n)])]) := opens_slice Try.underlying22 (of_decide_eq_true (by kernel_rfl)) op_u8
end Go.Proofs.Ytjkkjiaeeobnkaa
