/-
  Plain data: one task taken out of those that are open.
-/
import Derived.Test.YtbdliooaiincdaaPl8
namespace Go.Pl
theorem perm_at (op : List Nat) (i : Nat) (h : i < op.length) : op.Perm (op.getD i default :: (op.take i ++ op.drop (i + 1))) := by
  have e : op = op.take i ++ (op.getD i default :: op.drop (i + 1)) := by
    rw [List.getD_eq_getElem?_getD, List.getElem?_eq_getElem h, Option.getD_some, ← List.drop_eq_getElem_cons h, List.take_append_drop]
  exact (List.Perm.of_eq e).trans List.perm_middle
theorem len_at (op : List Nat) (i : Nat) (h : i < op.length) : (op.take i ++ op.drop (i + 1)).length + 1 = op.length := by
  simp; omega
theorem part_list {α : Type} {w : Work} {t : Int} (h : partE w t = 0) (r : List Nat) (f : Nat → List α) (g : Int → List α) (hg : ∀ n : Nat, f n = g n) : r.map f ++ [g (partA w t), g (partB w t)] = (r ++ [w.ts.length, w.ts.length + 1]).map f := by
  obtain ⟨_, e2, e3, _⟩ := part_ok h
  rw [e2, e3, List.map_append, List.map_cons, List.map_cons, List.map_nil, hg, hg]; rfl
theorem over_eq {b : Bool} {r : List Nat} (h : b = true ↔ r = []) : (b != decide (r.length = 0)) = false := by
  cases r <;> cases b <;> simp_all
theorem over_eq2 {b : Bool} {r : List Nat} {z : Int} (h : b = true ↔ r = []) (hz : z = (r.length : Int)) : (b != (z == 0)) = decide False := by
  subst hz
  cases r <;> cases b <;> simp_all
  omega
end Go.Pl
