/-
  Plain numbers: how counts go with the grain.
-/
import Derived.Test.YtbdliooaiincdaaPl3
namespace Go.Pl
theorem lv_mono {g h : Nat} (hg : 1 ≤ g) (hgh : g ≤ h) (n : Nat) : lv h n ≤ lv g n := by
  induction n using Nat.strongRecOn with
  | _ n ih =>
    by_cases e : n ≤ h
    · rw [lv_base e]
      by_cases e2 : n ≤ g
      · rw [lv_base e2]; omega
      · exact (lv_le hg n (by omega)).1
    · rw [lv_rec (by omega) (by omega), lv_rec hg (by omega)]
      have h1 := ih (n / 2) (by omega)
      have h2 := ih (n - n / 2) (by omega)
      omega
theorem lv_mul {g : Nat} (hg : 1 ≤ g) (n : Nat) : n ≤ lv g n * g := by
  induction n using Nat.strongRecOn with
  | _ n ih =>
    by_cases e : n ≤ g
    · rw [lv_base e]; omega
    · rw [lv_rec hg (by omega), Nat.add_mul]
      have h1 := ih (n / 2) (by omega)
      have h2 := ih (n - n / 2) (by omega)
      omega
theorem counts {k a b : Int} (hk : 1 ≤ k ∧ k ≤ 1000) (ha : 1 ≤ a ∧ a ≤ 100) (hb : 1 ≤ b ∧ b ≤ 100) :
    cntT k (min a b) = 2 * cntL k (min a b) - 1 ∧ cntT k (max a b) = 2 * cntL k (max a b) - 1 ∧ cntL k (min a b) ≤ k ∧ cntL k (max a b) ≤ cntL k (min a b) ∧ k ≤ cntL k (max a b) * max a b ∧ cntL k (max a b) * max a b ≤ 100000
      ∧ (k ≤ max a b → cntL k (max a b) = 1) ∧ (max a b < k → 1 < cntL k (max a b)) ∧ 1 ≤ cntL k (max a b) ∧ 1 ≤ cntL k (min a b) ∧ cntL k (max a b) ≤ 1000 := by
  have c1 : cnt k (min a b) := by unfold cnt; omega
  have c2 : cnt k (max a b) := by unfold cnt; omega
  have l1 := cntL_le c1
  have l2 := cntL_le c2
  have hm : cntL k (max a b) ≤ cntL k (min a b) := by
    unfold cntL; rw [if_pos c1, if_pos c2]
    have := lv_mono (g := (min a b).toNat) (h := (max a b).toNat) (by omega) (by omega) k.toNat
    omega
  have hx : k ≤ cntL k (max a b) * max a b := by
    have := lv_mul (g := (max a b).toNat) (by omega) k.toNat
    have e : cntL k (max a b) = (lv (max a b).toNat k.toNat : Int) := by unfold cntL; rw [if_pos c2]
    rw [e]
    have h3 : (max a b) = ((max a b).toNat : Int) := by omega
    have h4 : ((k.toNat : Nat) : Int) ≤ ((lv (max a b).toNat k.toNat * (max a b).toNat : Nat) : Int) := by exact_mod_cast this
    rw [Int.natCast_mul, ← h3] at h4
    omega
  have hy : cntL k (max a b) * max a b ≤ 1000 * 100 := Int.mul_le_mul (by omega) (by omega) (by omega) (by omega)
  refine ⟨cntT_eq c1, cntT_eq c2, l1.2, hm, hx, by omega, fun h => cntL_base c2 h, fun h => ?_, l2.1, l1.1, by omega⟩
  obtain ⟨h3, h4⟩ := cnt_half c2 h
  have l3 := cntL_le h3
  have l4 := cntL_le h4
  rw [cntL_rec c2 h]; omega
end Go.Pl
