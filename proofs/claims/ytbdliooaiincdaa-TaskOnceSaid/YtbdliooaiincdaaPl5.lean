/-
  Plain data: what becomes of work, in numbers.
-/
import Derived.Test.YtbdliooaiincdaaPl4
namespace Go.Pl
theorem there_part {w : Work} {i : Int} (h : partE w i = 0) : there w i = 0 := by
  unfold partE at h
  split at h
  · exact h
  · rename_i h2; exact Decidable.not_not.mp h2
theorem there_do {w : Work} {i : Int} (h : doE w i = 0) : there w i = 0 := by
  unfold doE at h
  split at h
  · exact h
  · rename_i h2; exact Decidable.not_not.mp h2
theorem part_at {w : Work} {i : Int} (h : partE w i = 0) :
    (partW w i).ts.getD (partA w i).toNat default = ⟨(task w i).low, mid (task w i), i, 0⟩ ∧ (partW w i).ts.getD (partB w i).toNat default = ⟨mid (task w i), (task w i).high, i, 0⟩ ∧ ((partW w i).ts.getD i.toNat default).wait = 2 := by
  obtain ⟨e1, e2, e3, _⟩ := part_ok h
  obtain ⟨_, h0, h1, _⟩ := ok_of (there_part h)
  rw [e1, e2, e3]
  refine ⟨?_, ?_, ?_⟩
  · simp [parted, List.getD_eq_getElem?_getD, List.getElem?_append_right]
  · rw [show ((w.ts.length : Int) + 1).toNat = w.ts.length + 1 by omega]
    simp [parted, List.getD_eq_getElem?_getD, List.getElem?_append_right]
  · simp only [parted, List.getD_eq_getElem?_getD]
    rw [List.getElem?_append_left (by simp; omega), List.getElem?_set_self (by omega)]; rfl
theorem mid_eq (t : Task) : mid t = t.low + (t.high - t.low) / 2 := rfl
theorem partW_len (w : Work) (i : Int) : (partW w i).ts.length ≤ w.ts.length + 2 ∧ (partW w i).done.length = w.done.length := by
  unfold partW
  split
  · simp [parted]
  · omega
theorem fin_len : ∀ (k : Nat) (ts : List Task) (up : Int), (fin k ts up).1.length = ts.length
  | 0, ts, up => rfl
  | k + 1, ts, up => by
    simp only [fin]
    split
    · rfl
    · split
      · rfl
      · split
        · simp
        · rw [fin_len k]; simp
theorem doW_len (w : Work) (i : Int) : (doW w i).ts.length = w.ts.length ∧ (doW w i).done.length = w.done.length := by
  unfold doW
  split
  · rename_i h
    obtain ⟨_, h0, h1, h2, _⟩ := ok_of (there_do h)
    unfold okT at h2
    simp only [did]
    exact ⟨fin_len _ _ _, marked_len (by omega) (by omega)⟩
  · exact ⟨rfl, rfl⟩
theorem beginW_len (n g : Int) : (beginW n g).ts.length ≤ 1 ∧ (beginW n g).done.length ≤ 1000 := by
  unfold beginW
  split
  · rename_i h; unfold cnt at h; simp; omega
  · simp
end Go.Pl
