/-
  Plain data: bit by bit, as the document reckons.
-/
import Derived.Test.YthelnccjcbnjfaaPC
set_option linter.unusedSimpArgs false
set_option linter.unusedVariables false
namespace Go.Pl
def bitI (x : Int) (i : Nat) : Int := x / 2 ^ i % 2
theorem bitI_nat (n i : Nat) : bitI (n : Int) i = ((n / 2 ^ i % 2 : Nat) : Int) := by
  unfold bitI
  rw [Int.natCast_emod, Int.natCast_ediv, Int.natCast_pow]; rfl
theorem bitI_01 (x : Int) (i : Nat) : 0 ≤ bitI x i ∧ bitI x i ≤ 1 := by unfold bitI; omega
theorem bit_tb (n i : Nat) : n / 2 ^ i % 2 = if n.testBit i = true then 1 else 0 := by
  rw [Nat.testBit_eq_decide_div_mod_eq]
  by_cases h : n / 2 ^ i % 2 = 1
  · simp [h]
  · have : n / 2 ^ i % 2 = 0 := by omega
    simp [this]
theorem xr_nat {x y : Int} (hx : W32 x) (hy : W32 y) : xr x y = ((x.toNat ^^^ y.toNat : Nat) : Int) := by
  rw [xr_eq]
  congr 1
  have e1 : (BitVec.ofInt 32 x).toNat = x.toNat := by have := bv_to hx; omega
  have e2 : (BitVec.ofInt 32 y).toNat = y.toNat := by have := bv_to hy; omega
  rw [BitVec.toNat_xor, e1, e2]
theorem an_nat {x y : Int} (hx : W32 x) (hy : W32 y) : an x y = ((x.toNat &&& y.toNat : Nat) : Int) := by
  unfold an
  have e1 : (BitVec.ofInt 32 x).toNat = x.toNat := by have := bv_to hx; omega
  have e2 : (BitVec.ofInt 32 y).toNat = y.toNat := by have := bv_to hy; omega
  rw [BitVec.toNat_and, e1, e2]
  have h : x.toNat &&& y.toNat ≤ x.toNat := Nat.and_le_left
  omega
theorem bit_xr {x y : Int} (hx : W32 x) (hy : W32 y) (i : Nat) : (bitI (xr x y) i = 1) ↔ bitI x i ≠ bitI y i := by
  have ex : x = (x.toNat : Int) := by have := hx.1; omega
  have ey : y = (y.toNat : Int) := by have := hy.1; omega
  rw [xr_nat hx hy, bitI_nat]
  conv => rhs; rw [ex, ey, bitI_nat, bitI_nat]
  rw [bit_tb, bit_tb, bit_tb, Nat.testBit_xor]
  cases x.toNat.testBit i <;> cases y.toNat.testBit i <;> simp
theorem bit_an {x y : Int} (hx : W32 x) (hy : W32 y) (i : Nat) : (bitI (an x y) i = 1) ↔ bitI x i + bitI y i = 2 := by
  have ex : x = (x.toNat : Int) := by have := hx.1; omega
  have ey : y = (y.toNat : Int) := by have := hy.1; omega
  rw [an_nat hx hy, bitI_nat]
  conv => rhs; rw [ex, ey, bitI_nat, bitI_nat]
  rw [bit_tb, bit_tb, bit_tb, Nat.testBit_and]
  cases x.toNat.testBit i <;> cases y.toNat.testBit i <;> simp
theorem bit_acc {z : Int} (h : 0 ≤ z) (i : Nat) : z % 2 ^ (i + 1) = z % 2 ^ i + 2 ^ i * bitI z i := by
  obtain ⟨n, rfl⟩ := Int.eq_ofNat_of_zero_le h
  rw [bitI_nat]
  have := Nat.mod_pow_succ (x := n) (b := 2) (k := i)
  have e : ((n % 2 ^ (i + 1) : Nat) : Int) = ((n % 2 ^ i + 2 ^ i * (n / 2 ^ i % 2) : Nat) : Int) := by rw [this]
  simpa [Int.natCast_emod, Int.natCast_pow] using e
theorem bit_pow {i : Nat} (h : i < 32) : (2 : Int) ^ i ≤ 2147483648 ∧ 1 ≤ (2 : Int) ^ i := by
  have h1 : (2 : Nat) ^ i ≤ 2 ^ 31 := Nat.pow_le_pow_right (by omega) (by omega)
  have h2 : 1 ≤ (2 : Nat) ^ i := Nat.one_le_two_pow
  have e : (2 : Int) ^ i = ((2 ^ i : Nat) : Int) := by rw [Int.natCast_pow]; rfl
  rw [e]; omega
theorem bit_mod {z : Int} (h : W32 z) (i : Nat) : 0 ≤ z % 2 ^ i ∧ z % 2 ^ i ≤ 4294967295 := by
  have hp : (0 : Int) < 2 ^ i := Int.pow_pos (by decide)
  have h1 := Int.emod_nonneg z (b := 2 ^ i) (by omega)
  refine ⟨h1, ?_⟩
  by_cases hz : z < 2 ^ i
  · rw [Int.emod_eq_of_lt h.1 hz]; exact h.2
  · have := Int.emod_lt_of_pos z hp; have := h.2; omega
theorem bit_0 {z : Int} {i : Nat} (h : ¬ bitI z i = 1) : bitI z i = 0 := by have := bitI_01 z i; omega
theorem bit_put {z : Int} {i : Nat} (h : W32 z) (hi : i < 32) (hb : bitI z i = 1) : (z % 2 ^ i + 1 * 2 ^ min ((i : Int) % 18446744073709551616).toNat IntKind.u64.bits % 18446744073709551616) % 18446744073709551616 = z % 2 ^ (i + 1) := by
  have e : min ((i : Int) % 18446744073709551616).toNat IntKind.u64.bits = i := by rw [show IntKind.u64.bits = 64 from rfl]; omega
  have hp := bit_pow hi
  have hm := bit_mod h i
  rw [e, bit_acc h.1, hb, Int.mul_one, Int.one_mul, Int.emod_eq_of_lt (by omega) (by omega : (2 : Int) ^ i < 18446744073709551616), Int.emod_eq_of_lt (by omega) (by omega)]
theorem one_add {x op y : Int} (hx : W32 x) (hy : W32 y) (h : op = 1) : (x % 18446744073709551616 + y % 18446744073709551616) % 18446744073709551616 % 4294967296 % 4294967296 = one x op y := by
  rw [one_1 h]; have := hx.1; have := hx.2; have := hy.1; have := hy.2; omega
theorem one_fin {x op y : Int} (h : W32 (one x op y)) {i : Nat} (h1 : i ≤ 32) (h2 : (32 : Int) ≤ i) : one x op y % 2 ^ i % 4294967296 = one x op y := by
  obtain rfl : i = 32 := by omega
  have := h.1; have := h.2
  rw [Int.emod_eq_of_lt h.1 (by omega), Int.emod_eq_of_lt h.1 (by omega)]
theorem bit_two {x y z : Int} {i : Nat} (h : bitI z i = 1 ↔ bitI x i + bitI y i = 2) : ((bitI x i + bitI y i) % 4294967296 == 2) = decide (bitI z i = 1) := by
  have h1 := bitI_01 x i; have h2 := bitI_01 y i
  rw [Int.emod_eq_of_lt (by omega) (by omega)]
  refine Bool.eq_iff_iff.mpr ?_
  rw [beq_iff_eq, decide_eq_true_eq]; exact h.symm
theorem up_0 {x : Int} (hx : W32 x) : x % 18446744073709551616 = x * 2 ^ 0 % 4294967296 := by have := hx.1; have := hx.2; rw [Int.pow_zero]; omega
theorem up_s (x : Int) (i : Nat) : x * 2 ^ i % 4294967296 * 2 % 18446744073709551616 % 4294967296 = x * 2 ^ (i + 1) % 4294967296 := by
  rw [Int.pow_succ, ← Int.mul_assoc]; generalize x * 2 ^ i = z; omega
theorem up_e {x op y : Int} {i : Nat} (h : op = 3) (h1 : (i : Int) ≤ y % 32) (h2 : y % 32 ≤ (i : Int)) : x * 2 ^ i % 4294967296 % 4294967296 = one x op y := by
  have e : min (y % 32).toNat 32 = i := by omega
  rw [one_3 h, e]; omega
theorem dn_0 {x : Int} (hx : W32 x) : x % 18446744073709551616 = x / 2 ^ 0 := by have := hx.1; have := hx.2; rw [Int.pow_zero]; omega
theorem dn_w {x : Int} (hx : W32 x) (i : Nat) : W32 (x / 2 ^ i) := ⟨Int.ediv_nonneg hx.1 (Int.le_of_lt (Int.pow_pos (by decide))), Int.le_trans (Int.ediv_le_self _ hx.1) hx.2⟩
theorem dn_s {x : Int} (hx : W32 x) (i : Nat) : (x / 2 ^ i).tdiv 2 % 18446744073709551616 = x / 2 ^ (i + 1) := by
  have h := dn_w hx i
  have e : x / 2 ^ (i + 1) = x / 2 ^ i / 2 := by
    obtain ⟨n, rfl⟩ := Int.eq_ofNat_of_zero_le hx.1
    have := Nat.div_div_eq_div_mul n (2 ^ i) 2
    rw [← Nat.pow_succ] at this
    have e2 : ((n / 2 ^ i / 2 : Nat) : Int) = ((n / 2 ^ (i + 1) : Nat) : Int) := by rw [this]
    simpa [Int.natCast_ediv, Int.natCast_pow] using e2.symm
  rw [Int.tdiv_eq_ediv_of_nonneg h.1, e]
  have := h.1; have := h.2; omega
theorem dn_e {x op y : Int} (hx : W32 x) {i : Nat} (h : op = 4) (h1 : (i : Int) ≤ y % 32) (h2 : y % 32 ≤ (i : Int)) : x / 2 ^ i % 4294967296 = one x op y := by
  have e : min (y % 32).toNat 32 = i := by omega
  have h := dn_w hx i
  rw [one_4 ‹op = 4›, e]; have := h.1; have := h.2; omega
theorem bit_end {z : Int} (h : W32 z) {i : Nat} (hi : i = 32) : z % 2 ^ i = z := by
  subst hi
  exact Int.emod_eq_of_lt h.1 (by have := h.2; omega)
end Go.Pl
