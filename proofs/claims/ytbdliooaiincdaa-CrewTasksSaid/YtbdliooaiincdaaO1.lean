/-
  What comes in, by its type, over this seat's table of types.
-/
import Derived.Test.YtbdliooaiincdaaRows
import Derived.Test.YtbdliooaiincdaaF3
namespace Go.Proofs.Ytbdliooaiincdaa
open Go.Am Go.Proofs
theorem Try.own : ownKnob Try.prog.godebug = none := by kernel_rfl
theorem Try.laidOut : laidOutB Try.prog = true := by kernel_rfl
theorem op3 : Opens Try.prog 3 Int (fun n => (Lit.int .i64 n).wf = true) (fun n => [.lit (.int .i64 n)]) := opens_int Try.underlying3
theorem op5 : Opens Try.prog 5 Int (fun n => (Lit.int .u8 n).wf = true) (fun n => [.lit (.int .u8 n)]) := opens_int Try.underlying5
theorem op22 : Opens Try.prog 22 (List Int) (fun l => l.length ≤ maxLen ∧ ∀ a, a ∈ l → (Lit.int .i64 a).wf = true) (fun l => [.seq false (l.map fun n => [.lit (.int .i64 n)])]) := opens_slice Try.underlying22 (of_decide_eq_true (by kernel_rfl)) op3
theorem op35 : Opens Try.prog 35 (List Int) (fun l => l.length ≤ maxLen ∧ ∀ a, a ∈ l → (Lit.int .u8 a).wf = true) (fun l => [.seq false (l.map fun n => [.lit (.int .u8 n)])]) := opens_slice Try.underlying35 (of_decide_eq_true (by kernel_rfl)) op5
theorem wf64 {n : Int} (h : (Lit.int .i64 n).wf = true) : -9223372036854775808 ≤ n ∧ n ≤ 9223372036854775807 := by
  simp only [Lit.wf, Bool.and_eq_true, decide_eq_true_eq, show IntKind.i64.min = -9223372036854775808 from rfl, show IntKind.i64.max = 9223372036854775807 from rfl] at h; exact h
theorem wf8 {n : Int} (h : (Lit.int .u8 n).wf = true) : 0 ≤ n ∧ n ≤ 255 := by
  simp only [Lit.wf, Bool.and_eq_true, decide_eq_true_eq, show IntKind.u8.min = 0 from rfl, show IntKind.u8.max = 255 from rfl] at h; exact h
theorem wf16 {n : Int} (h : (Lit.int .u16 n).wf = true) : 0 ≤ n ∧ n ≤ 65535 := by
  simp only [Lit.wf, Bool.and_eq_true, decide_eq_true_eq, show IntKind.u16.min = 0 from rfl, show IntKind.u16.max = 65535 from rfl] at h; exact h
end Go.Proofs.Ytbdliooaiincdaa
