/-
  Data of the program as data of the machine.
-/
import Derived.Test.YthelnccjcbnjfaaRows
import Derived.Test.YthelnccjcbnjfaaF3
import Derived.Test.YthelnccjcbnjfaaP2
set_option linter.unusedVariables false
namespace Go.Proofs.Ythelnccjcbnjfaa
open Go.Am Go.Proofs
@[reducible] def iV (n : Int) : PV := .lit (.int .i64 n)
@[reducible] def bV (n : Bool) : PV := .lit (.bool n)
@[reducible] def ints (c : Bool) (l : List Int) : PV := .seq c (l.map fun x => [.lit (.int .i64 x)])
@[reducible] def pushS (l : List Int) (n : Int) : PV := .tup [ints false (if 1000 ≤ l.length then l else l ++ [n]), iV (if 1000 ≤ l.length then 2 else 0)]
@[reducible] def popS (l : List Int) : PV := .tup [ints false l.dropLast, iV (l.getD (l.length - 1) 0), iV (if l.length = 0 then 4 else 0)]
@[reducible] def stealS (l : List Int) : PV := .tup [ints false (l.drop 1), iV (l.getD 0 0), iV (if l.length = 0 then 4 else 0)]
@[reducible] def lookS (l : List Int) : PV := .tup [iV (l.getD (l.length - 1) 0), iV (l.getD 0 0), bV (decide (l.length ≠ 0))]
@[reducible] def mvN (l m : List Int) (n : Int) : Int := max 0 (min (min n l.length) (1000 - m.length))
@[reducible] def moveS (l m : List Int) (n : Int) : PV := .tup [ints false (l.drop (mvN l m n).toNat), ints false (m ++ l.take (mvN l m n).toNat)]
def tot (ls : List (Bool × List Int)) : Nat := (ls.map fun p => p.2.length).sum
def cat (ls : List (Bool × List Int)) : List Int := ls.flatMap fun p => p.2
theorem tot_take (ls : List (Bool × List Int)) (i : Nat) : tot (ls.take i) ≤ tot ls := by
  have : tot ls = tot (ls.take i) + tot (ls.drop i) := by unfold tot; rw [← List.sum_append, ← List.map_append, List.take_append_drop]
  omega
theorem take_snoc {α : Type} [Inhabited α] (l : List α) (i : Nat) (h : i < l.length) : l.take (i + 1) = l.take i ++ [l.getD i default] := by
  rw [List.take_add_one]; simp [h, List.getD]
theorem tot_succ (ls : List (Bool × List Int)) (i : Nat) (h : i < ls.length) : tot (ls.take (i + 1)) = tot (ls.take i) + (ls.getD i default).2.length := by
  rw [take_snoc ls i h]; simp [tot]
theorem cat_succ (ls : List (Bool × List Int)) (i : Nat) (h : i < ls.length) : cat (ls.take (i + 1)) = cat (ls.take i) ++ (ls.getD i default).2 := by
  rw [take_snoc ls i h]; simp [cat]
theorem cat_length (ls : List (Bool × List Int)) : (cat ls).length = tot ls := by simp [cat, tot, List.length_flatMap]
theorem drop_getD {α : Type} (l : List α) (i : Nat) (d : α) : (l.drop i).getD 0 d = l.getD i d := by simp [List.getD]
theorem take_next {a b : List Int} {i : Nat} (h : a.take i = b.take i) (ha : i < a.length) (hb : i < b.length) (e : a.getD i 0 = b.getD i 0) : a.take (i + 1) = b.take (i + 1) := by
  rw [take_snoc a i ha, take_snoc b i hb, h]; simp only [int_default, e]
@[reducible] def taskC (t : Pl.Task) : List PV := [iV t.low, iV t.high, iV t.up, iV t.wait]
@[reducible] def workC (c d : Bool) (w : Pl.Work) : List PV := [.seq c (w.ts.map taskC), iV w.grain, .seq d (w.done.map fun b => [bV b])]
@[reducible] def workV (c d : Bool) (w : Pl.Work) : PV := .agg (workC c d w)
theorem task_default : (default : Pl.Task).low = 0 := rfl
@[reducible] def evC (e : Pl.Event) : List PV := [iV e.worker, iV e.src, iV e.task, bV e.parted]
@[reducible] def lV (l : List Int) : List PV := [.seq false (l.map fun n => [iV n])]
@[reducible] def crewC (c : Pl.Crew) : List PV := [.seq false (c.work.ts.map taskC), iV c.work.grain, .seq false (c.work.done.map fun b => [bV b]), .seq false (c.dq.map lV), bV c.over, iV c.steps, iV c.idle]
end Go.Proofs.Ythelnccjcbnjfaa
