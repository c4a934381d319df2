/-
  Further data of the program as data of the machine.
-/
import Derived.Test.YthelnccjcbnjfaaB0
import Derived.Test.YthelnccjcbnjfaaP7
import Derived.Test.YthelnccjcbnjfaaF4
set_option linter.unusedVariables false
namespace Go.Proofs.Ythelnccjcbnjfaa
open Go.Am Go.Proofs
@[reducible] def u32V (n : Int) : PV := .lit (.int .u32 n)
@[reducible] def words (c : Bool) (l : List Int) : PV := .seq c (l.map fun x => [u32V x])
@[reducible] def picksV (c : Bool) (l : List (Int × Int)) : PV := .seq c (l.map fun q => [iV q.1, iV q.2])
@[reducible] def planC (c : Bool) (p : Pl.Plan) : List PV := [iV p.grain, iV p.workers, picksV c p.picks]
@[reducible] def wayC (c : Bool) (w : Pl.Way) : List PV := [iV w.bits, iV w.block, iV w.plan.grain, iV w.plan.workers, picksV c w.plan.picks]
@[reducible] def edgeC (e : Pl.Edge) : List PV := [iV e.u, iV e.v]
@[reducible] def askC (a : Pl.Ask) : List PV := [iV a.kind, iV a.u, iV a.v]
@[reducible] def batchC (c d : Bool) (x : Pl.Batch) : List PV := [iV x.kind, .seq c (x.edges.map edgeC), .seq d (x.asks.map askC)]
theorem wr_u8 (n : Int) : IntKind.u8.wrap n = n % 256 := by simp [IntKind.wrap, IntKind.bits, IntKind.signed]
theorem wr_u16 (n : Int) : IntKind.u16.wrap n = n % 65536 := by simp [IntKind.wrap, IntKind.bits, IntKind.signed]
theorem wr_u32 (n : Int) : IntKind.u32.wrap n = n % 4294967296 := by simp [IntKind.wrap, IntKind.bits, IntKind.signed]
theorem wr_u64 (n : Int) : IntKind.u64.wrap n = n % 18446744073709551616 := by simp [IntKind.wrap, IntKind.bits, IntKind.signed]
theorem dx1 (t : Pl.Task) : taskC t = [iV t.low, iV t.high, iV t.up, iV t.wait] := rfl
theorem dx2 (l : List Int) : lV l = [.seq false (l.map fun n => [iV n])] := rfl
theorem dx3 (e : Pl.Event) : evC e = [iV e.worker, iV e.src, iV e.task, bV e.parted] := rfl
theorem dx4 (c : Bool) (p : Pl.Plan) : planC c p = [iV p.grain, iV p.workers, picksV c p.picks] := rfl
theorem dx5 (c : Bool) (l : List (Int × Int)) : picksV c l = .seq c (l.map fun q => [iV q.1, iV q.2]) := rfl
theorem dx6 (c : Bool) (w : Pl.Way) : wayC c w = [iV w.bits, iV w.block, iV w.plan.grain, iV w.plan.workers, picksV c w.plan.picks] := rfl
theorem dx7 (e : Pl.Edge) : edgeC e = [iV e.u, iV e.v] := rfl
theorem dx8 (a : Pl.Ask) : askC a = [iV a.kind, iV a.u, iV a.v] := rfl
theorem dx9 (c d : Bool) (x : Pl.Batch) : batchC c d x = [iV x.kind, .seq c (x.edges.map edgeC), .seq d (x.asks.map askC)] := rfl
theorem dx : type_of% (And.intro (And.intro (And.intro @dx1 @dx2) (And.intro @dx3 @dx4)) (And.intro (And.intro @dx5 @dx6) (And.intro @dx7 (And.intro @dx8 @dx9)))) := And.intro (And.intro (And.intro @dx1 @dx2) (And.intro @dx3 @dx4)) (And.intro (And.intro @dx5 @dx6) (And.intro @dx7 (And.intro @dx8 @dx9)))
end Go.Proofs.Ythelnccjcbnjfaa
