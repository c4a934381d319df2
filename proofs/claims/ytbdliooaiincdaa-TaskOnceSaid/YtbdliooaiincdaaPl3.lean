/-
  Plain numbers: how many tasks, and leaves, work comes to.
-/
import Derived.Test.YtbdliooaiincdaaPl2
namespace Go.Pl
theorem leaves_fuel {g : Nat} (hg : 1 ≤ g) : ∀ (k k' n : Nat), n ≤ k → n ≤ k' → leaves g k n = leaves g k' n
  | 0, 0, n, _, _ => rfl
  | 0, k' + 1, n, h, _ => by
    simp only [leaves]; rw [if_pos (by omega)]
  | k + 1, 0, n, _, h => by
    simp only [leaves]; rw [if_pos (by omega)]
  | k + 1, k' + 1, n, h, h' => by
    simp only [leaves]
    by_cases e : n ≤ g
    · rw [if_pos e, if_pos e]
    · rw [if_neg e, if_neg e, leaves_fuel hg k k' (n / 2) (by omega) (by omega), leaves_fuel hg k k' (n - n / 2) (by omega) (by omega)]
def lv (g n : Nat) : Nat := leaves g n n
theorem lv_base {g n : Nat} (h : n ≤ g) : lv g n = 1 := by
  unfold lv; cases n with
  | zero => rfl
  | succ n => simp only [leaves]; rw [if_pos h]
theorem lv_rec {g n : Nat} (hg : 1 ≤ g) (h : g < n) : lv g n = lv g (n / 2) + lv g (n - n / 2) := by
  unfold lv
  obtain ⟨m, rfl⟩ : ∃ m, n = m + 1 := ⟨n - 1, by omega⟩
  rw [show leaves g (m + 1) (m + 1) = leaves g m ((m + 1) / 2) + leaves g m (m + 1 - (m + 1) / 2) by simp only [leaves]; rw [if_neg (by omega)]]
  rw [leaves_fuel hg m ((m + 1) / 2) _ (by omega) (by omega), leaves_fuel hg m (m + 1 - (m + 1) / 2) _ (by omega) (by omega)]
theorem lv_le {g : Nat} (hg : 1 ≤ g) (n : Nat) : 1 ≤ n → 1 ≤ lv g n ∧ lv g n ≤ n := by
  induction n using Nat.strongRecOn with
  | _ n ih =>
    intro hn
    by_cases h : n ≤ g
    · rw [lv_base h]; omega
    · rw [lv_rec hg (by omega)]
      have h1 := ih (n / 2) (by omega) (by omega)
      have h2 := ih (n - n / 2) (by omega) (by omega)
      omega
/-- what work comes to: leaves, and tasks -/
def cntL (n g : Int) : Int := if cnt n g then lv g.toNat n.toNat else 0
def cntT (n g : Int) : Int := if cnt n g then 2 * cntL n g - 1 else 0
theorem cntL_le {n g : Int} (h : cnt n g) : 1 ≤ cntL n g ∧ cntL n g ≤ n := by
  have h' := h
  unfold cnt at h'
  have := lv_le (g := g.toNat) (by omega) n.toNat (by omega)
  unfold cntL; rw [if_pos h]; omega
theorem cntL_base {n g : Int} (h : cnt n g) (h2 : n ≤ g) : cntL n g = 1 := by
  unfold cntL; rw [if_pos h, lv_base (by omega)]; rfl
theorem cnt_half {n g : Int} (h : cnt n g) (h2 : g < n) : cnt (n / 2) g ∧ cnt (n - n / 2) g := by unfold cnt at *; omega
theorem cntL_rec {n g : Int} (h : cnt n g) (h2 : g < n) : cntL n g = cntL (n / 2) g + cntL (n - n / 2) g := by
  obtain ⟨h3, h4⟩ := cnt_half h h2
  have h' := h
  unfold cnt at h'
  unfold cntL; rw [if_pos h, if_pos h3, if_pos h4, lv_rec (by omega) (by omega)]
  rw [show (n / 2).toNat = n.toNat / 2 by omega, show (n - n / 2).toNat = n.toNat - n.toNat / 2 by omega]
  omega
theorem cntT_eq {n g : Int} (h : cnt n g) : cntT n g = 2 * cntL n g - 1 := by unfold cntT; rw [if_pos h]
theorem cntT_no {n g : Int} (h : ¬ cnt n g) : cntT n g = 0 ∧ cntL n g = 0 := by unfold cntT cntL; rw [if_neg h, if_neg h]; exact ⟨rfl, rfl⟩
end Go.Pl
