/-
  What comes in, by its type, over this seat's table of types.
-/
import Derived.Test.YthelnccjcbnjfaaRows
import Derived.Test.YthelnccjcbnjfaaB1
namespace Go.Proofs.Ythelnccjcbnjfaa
open Go.Am Go.Proofs
theorem Try.own : ownKnob Try.prog.godebug = none := by kernel_rfl
theorem Try.laidOut : laidOutB Try.prog = true := by kernel_rfl
abbrev W64 (n : Int) : Prop := (Lit.int .i64 n).wf = true
theorem wf64 {n : Int} (h : (Lit.int .i64 n).wf = true) : -9223372036854775808 ≤ n ∧ n ≤ 9223372036854775807 := by
  simp only [Lit.wf, Bool.and_eq_true, decide_eq_true_eq, show IntKind.i64.min = -9223372036854775808 from rfl, show IntKind.i64.max = 9223372036854775807 from rfl] at h; exact h
theorem wf8 {n : Int} (h : (Lit.int .u8 n).wf = true) : 0 ≤ n ∧ n ≤ 255 := by
  simp only [Lit.wf, Bool.and_eq_true, decide_eq_true_eq, show IntKind.u8.min = 0 from rfl, show IntKind.u8.max = 255 from rfl] at h; exact h
theorem wf16 {n : Int} (h : (Lit.int .u16 n).wf = true) : 0 ≤ n ∧ n ≤ 65535 := by
  simp only [Lit.wf, Bool.and_eq_true, decide_eq_true_eq, show IntKind.u16.min = 0 from rfl, show IntKind.u16.max = 65535 from rfl] at h; exact h
theorem wf32 {n : Int} (h : (Lit.int .u32 n).wf = true) : 0 ≤ n ∧ n ≤ 4294967295 := by
  simp only [Lit.wf, Bool.and_eq_true, decide_eq_true_eq, show IntKind.u32.min = 0 from rfl, show IntKind.u32.max = 4294967295 from rfl] at h; exact h
theorem op_int : Opens Try.prog 3 Int (fun n => (Lit.int .i64 n).wf = true) (fun n => [.lit (.int .i64 n)]) := opens_int Try.underlying3
theorem op_pair : Opens Try.prog 23 (Int × Int) (fun p => W64 p.1 ∧ W64 p.2) (fun p => [iV p.1, iV p.2]) := (opens_agg (ts := [3, 3]) (by kernel_rfl) (.cons op_int (.cons op_int .nil))).map (fun p => (p.1, p.2.1)) (fun _ h => ⟨⟨h.1, h.2.1⟩, rfl⟩)
theorem op_u32 : Opens Try.prog 28 Int (fun n => (Lit.int .u32 n).wf = true) (fun n => [.lit (.int .u32 n)]) := opens_int Try.underlying28
theorem op_u8 : Opens Try.prog 5 Int (fun n => (Lit.int .u8 n).wf = true) (fun n => [.lit (.int .u8 n)]) := opens_int Try.underlying5
theorem op_bool : Opens Try.prog 4 Bool (fun _ => True) (fun b => [.lit (.bool b)]) := opens_bool Try.underlying4
theorem op_words : Opens Try.prog 22 (List Int) (fun l => l.length ≤ maxLen ∧ ∀ a, a ∈ l → (Lit.int .u32 a).wf = true) (fun l => [words false l]) := opens_slice Try.underlying22 (of_decide_eq_true (by kernel_rfl)) op_u32
theorem op_picks : Opens Try.prog 24 (List (Int × Int)) (fun l => l.length ≤ maxLen ∧ ∀ p, p ∈ l → W64 p.1 ∧ W64 p.2) (fun l => [picksV false l]) := opens_slice Try.underlying24 (of_decide_eq_true (by kernel_rfl)) op_pair
theorem op_plan : Opens Try.prog 26 Pl.Plan (fun p => W64 p.grain ∧ W64 p.workers ∧ p.picks.length ≤ maxLen ∧ ∀ q, q ∈ p.picks → W64 q.1 ∧ W64 q.2) (planC false) := (opens_agg (ts := [3, 3, 24]) (by kernel_rfl) (.cons op_int (.cons op_int (.cons op_picks .nil)))).map (fun p => ⟨p.1, p.2.1, p.2.2.1⟩) (fun _ h => ⟨⟨h.1, h.2.1, h.2.2.1.1, h.2.2.1.2⟩, rfl⟩)
theorem op_case7 : Opens Try.prog 41 (Int × Pl.Plan) (fun c => W64 c.1 ∧ W64 c.2.grain ∧ W64 c.2.workers ∧ c.2.picks.length ≤ maxLen ∧ ∀ q, q ∈ c.2.picks → W64 q.1 ∧ W64 q.2) (fun c => iV c.1 :: planC false c.2) := (opens_agg (ts := [3, 26]) (by kernel_rfl) (.cons op_int (.cons op_plan .nil))).map (fun p => (p.1, p.2.1)) (fun _ h => ⟨⟨h.1, h.2.1⟩, rfl⟩)
theorem op_ints : Opens Try.prog 32 (List Int) (fun l => l.length ≤ maxLen ∧ ∀ a, a ∈ l → (Lit.int .i64 a).wf = true) (fun l => [ints false l]) := opens_slice Try.underlying32 (of_decide_eq_true (by kernel_rfl)) op_int
theorem op_u8x2 : Opens Try.prog 55 (Int × Int) (fun p => (Lit.int .u8 p.1).wf = true ∧ (Lit.int .u8 p.2).wf = true) (fun p => [.lit (.int .u8 p.1), .lit (.int .u8 p.2)]) := (opens_agg (ts := [5, 5]) (by kernel_rfl) (.cons op_u8 (.cons op_u8 .nil))).map (fun p => (p.1, p.2.1)) (fun _ h => ⟨⟨h.1, h.2.1⟩, rfl⟩)
theorem op_tri : Opens Try.prog 59 (Int × Int × Int) (fun p => W64 p.1 ∧ W64 p.2.1 ∧ W64 p.2.2) (fun p => [iV p.1, iV p.2.1, iV p.2.2]) := (opens_agg (ts := [3, 3, 3]) (by kernel_rfl) (.cons op_int (.cons op_int (.cons op_int .nil)))).map (fun p => (p.1, p.2.1, p.2.2.1)) (fun _ h => ⟨⟨h.1, h.2.1, h.2.2.1⟩, rfl⟩)
end Go.Proofs.Ythelnccjcbnjfaa
