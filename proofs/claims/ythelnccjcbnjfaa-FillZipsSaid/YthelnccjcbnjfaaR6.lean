/-
  A step, by the document.
-/
import Derived.Test.YthelnccjcbnjfaaR5
set_option linter.unusedSimpArgs false
set_option linter.unusedVariables false
set_option maxRecDepth 100000
namespace Go.Proofs.Ythelnccjcbnjfaa
open Go.Am Go.Proofs

theorem c_ref05_Step (c : Pl.Crew) (p v : Int) (hl : ∀ l, l ∈ c.dq → l.length ≤ 1000000 ∧ ∀ t, t ∈ l → -9223372036854775808 ≤ t ∧ t ≤ 9223372036854775807) (h0 : (Pl.step c p v).2.2 = 0) :
    PCall Try.prog 78 [.agg (crewC c), iV p, iV v] (.tup [.agg (crewC (Pl.step c p v).1), .agg (evC (Pl.step c p v).2.1), iV 0]) := by
  by_cases hp : 0 < (c.dq.getD (Pl.num c.dq p).toNat default).length
  · exact c_Step_p c p v hl h0 hp
  · by_cases hv : 0 < (c.dq.getD (Pl.num c.dq v).toNat default).length
    · exact c_Step_s c p v hl h0 hp hv
    · exact c_Step_i c p v hl h0 hp hv

end Go.Proofs.Ythelnccjcbnjfaa
