/-
  Plain data: pass by pass all is sorted.
-/
import Derived.Test.YthelnccjcbnjfaaPE
set_option linter.unusedSimpArgs false
set_option linter.unusedVariables false
namespace Go.Pl
theorem emod_two {w m q : Int} (hm : 0 < m) (hq : 0 < q) : w / m % q * m + w % m = w % (q * m) := by
  have e1 := Int.ediv_mul_add_emod w m
  have e2 := Int.ediv_mul_add_emod (w / m) q
  have b1 := Int.emod_nonneg w (show m ≠ 0 by omega)
  have b2 := Int.emod_lt_of_pos w hm
  have b3 := Int.emod_nonneg (w / m) (show q ≠ 0 by omega)
  have b4 := Int.emod_lt_of_pos (w / m) hq
  have c1 : w = (w / m % q * m + w % m) + w / m / q * (q * m) := by
    rw [← Int.mul_assoc]
    have : (w / m / q * q + w / m % q) * m = w / m * m := by rw [e2]
    rw [Int.add_mul] at this
    omega
  have c2 : w / m % q * m ≤ (q - 1) * m := Int.mul_le_mul_of_nonneg_right (by omega) (by omega)
  have c3 : 0 ≤ w / m % q * m := Int.mul_nonneg b3 (by omega)
  have c4 : (q - 1) * m = q * m - m := by rw [Int.sub_mul, Int.one_mul]
  have c5 : w % (q * m) = ((w / m % q * m + w % m) + w / m / q * (q * m)) % (q * m) := by rw [← c1]
  rw [c5, Int.add_mul_emod_self_right]
  exact (Int.emod_eq_of_lt (by omega) (by omega)).symm
theorem passes_bucket {l : List Int} {b : Int} (hb : 1 ≤ b ∧ b ≤ 16) : ∀ k : Nat, (k : Int) ≤ pas b →
    passes l b k = bucket (2 ^ (k * b.toNat)) (fun i => l.getD i.toNat 0 % 2 ^ (k * b.toNat)) (upto 0 l.length)
  | 0, _ => by
    show upto 0 l.length = _
    rw [Nat.zero_mul]
    refine (bucket_one (d := fun i => l.getD i.toNat 0 % 2 ^ 0) fun x _ => ?_).symm
    show _ % (2 : Int) ^ 0 = 0
    rw [Int.pow_zero]; omega
  | k + 1, h => by
    show bucket (2 ^ b.toNat) (digA l k b) (passes l b k) = _
    have hp : (0 : Int) < 2 ^ (k * b.toNat) := Int.pow_pos (by decide)
    have hq : (0 : Int) < 2 ^ b.toNat := Int.pow_pos (by decide)
    have ec : ((2 ^ (k * b.toNat) : Nat) : Int) = 2 ^ (k * b.toNat) := by rw [Int.natCast_pow]; rfl
    rw [passes_bucket hb k (by omega), ← bucket_two (2 ^ (k * b.toNat)) (2 ^ b.toNat) (fun i => l.getD i.toNat 0 % 2 ^ (k * b.toNat)) (digA l k b) (upto 0 l.length) (fun x _ => by
      rw [ec]; exact ⟨Int.emod_nonneg _ (by omega), Int.emod_lt_of_pos _ hp⟩)]
    have e1 : (k + 1) * b.toNat = b.toNat + k * b.toNat := by rw [Nat.add_mul, Nat.one_mul, Nat.add_comm]
    rw [e1, Nat.pow_add]
    refine bucket_congr fun x _ => ?_
    have et : ((k : Int) * b).toNat = k * b.toNat := by
      have : (k : Int) * b = ((k * b.toNat : Nat) : Int) := by rw [Int.natCast_mul]; congr 1; omega
      rw [this, Int.toNat_natCast]
    show digA l k b x * ((2 ^ (k * b.toNat) : Nat) : Int) + l.getD x.toNat 0 % 2 ^ (k * b.toNat) = l.getD x.toNat 0 % 2 ^ (b.toNat + k * b.toNat)
    rw [ec, Int.pow_add]
    unfold digA digW
    rw [if_pos ⟨by omega, by omega⟩, et]
    exact emod_two hp hq
theorem upto_rises (a b : Int) : (upto a b).Pairwise fun x y => x < y := by
  unfold upto
  rw [List.pairwise_map]
  exact List.pairwise_lt_range.imp fun {x y} h => by omega
theorem passes_rises {l : List Int} (hl : ∀ x, x ∈ l → W32 x) {b : Int} (hb : 1 ≤ b ∧ b ≤ 16) :
    (passes l b (pas b).toNat).Pairwise fun x y => l.getD x.toNat 0 < l.getD y.toNat 0 ∨ (l.getD x.toNat 0 = l.getD y.toNat 0 ∧ x < y) := by
  have h1 := pas_x hb
  have h2 : (((pas b).toNat * b.toNat : Nat) : Int) = pas b * b := by rw [Int.natCast_mul]; congr 1 <;> omega
  have h3 : (2 : Nat) ^ 32 ≤ 2 ^ ((pas b).toNat * b.toNat) := Nat.pow_le_pow_right (by omega) (by omega)
  have h4 : (4294967296 : Int) ≤ 2 ^ ((pas b).toNat * b.toNat) := by
    have : ((2 ^ 32 : Nat) : Int) ≤ ((2 ^ ((pas b).toNat * b.toNat) : Nat) : Int) := Int.ofNat_le.2 h3
    rw [Int.natCast_pow] at this; exact this
  rw [passes_bucket hb _ (by omega)]
  rw [bucket_congr (e := fun i => l.getD i.toNat 0) fun x _ => by
    have := getD_w hl x.toNat
    exact Int.emod_eq_of_lt this.1 (by omega)]
  exact bucket_rises (upto_rises _ _)
theorem pair_at {R : Int → Int → Prop} {L : List Int} (h : L.Pairwise R) {i : Nat} (h1 : 1 ≤ i) (h2 : i < L.length) : R (L.getD (i - 1) 0) (L.getD i 0) := by
  rw [List.getD_eq_getElem?_getD, List.getElem?_eq_getElem (show i - 1 < L.length by omega), List.getD_eq_getElem?_getD, List.getElem?_eq_getElem h2]
  exact List.pairwise_iff_getElem.1 h (i - 1) i (by omega) h2 (by omega)
theorem ra_ok {n : Nat} {b bl : Int} {p : Plan} (hb : 1 ≤ b ∧ b ≤ 16) (h1 : 1 ≤ bl ∧ bl ≤ 100) (hn : n ≤ 1000) (hp : planRight p) : raE n b bl p = 0 := by
  have h := pas_x hb
  have hbk := blk_up (b := bl) (show (0 : Int) ≤ n by omega) (Int.le_refl _) (by omega)
  unfold raE
  rw [if_neg (by omega)]
  exact sc_iff.2 ⟨h1, hn, by omega, by omega, hp⟩
theorem half_0 {x : Int} (hx : W32 x) : x % 18446744073709551616 = x / 2 ^ 0 := by rw [Int.pow_zero, Int.ediv_one]; omega
theorem half_1 (x : Int) (v : Nat) : x / 2 ^ v / 2 = x / 2 ^ (v + 1) := by
  rw [Int.ediv_ediv_of_nonneg (Int.le_of_lt (Int.pow_pos (by decide))), Int.pow_succ]
theorem bucket_nil (B : Nat) (d : Int → Int) : bucket B d [] = [] := by
  unfold bucket; simp
theorem bucket_len {B : Nat} {d : Int → Int} {l : List Int} (hd : ∀ x, x ∈ l → 0 ≤ d x ∧ d x < B) (hn : l.Nodup) : (bucket B d l).length = l.length := by
  obtain ⟨b1, b2⟩ := bucket_perm hd hn
  exact ((List.perm_ext_iff_of_nodup b1 hn).2 b2).length_eq
theorem bucket_mem {B : Nat} {d : Int → Int} {l : List Int} {x : Int} (h : x ∈ bucket B d l) : x ∈ l := by
  rw [bucket_low, lowB_mem] at h; exact h.1
theorem dig_ref {x t b : Int} (hx : W32 x) (ht : 0 ≤ t ∧ t < pas b) : (x / 2 ^ (t * b).toNat).tmod (2 ^ b.toNat) % 4294967296 = digW x t b := by
  obtain ⟨p1, p2, p3⟩ := pas_b ht
  have q := pow16 (k := b.toNat) (by omega)
  have h1 : 0 ≤ x / 2 ^ (t * b).toNat := Int.ediv_nonneg hx.1 (Int.le_of_lt (Int.pow_pos (by decide)))
  have h2 := Int.emod_nonneg (x / 2 ^ (t * b).toNat) (show (2 : Int) ^ b.toNat ≠ 0 by omega)
  have h3 := Int.emod_lt_of_pos (x / 2 ^ (t * b).toNat) (show (0 : Int) < 2 ^ b.toNat by omega)
  unfold digW
  rw [if_pos ht, Int.tmod_eq_emod_of_nonneg h1]
  omega
theorem half_s {x : Int} {v : Nat} (hx : W32 x) : (x / 2 ^ v).tdiv 2 % 18446744073709551616 = x / 2 ^ (v + 1) := by
  have h1 : 0 ≤ x / 2 ^ v := Int.ediv_nonneg hx.1 (Int.le_of_lt (Int.pow_pos (by decide)))
  have h2 : x / 2 ^ v ≤ x := Int.ediv_le_self _ hx.1
  have := hx.2
  rw [Int.tdiv_eq_ediv_of_nonneg h1, ← half_1]
  omega
theorem shl64 {b : Int} (h1 : 1 ≤ b) (h2 : b ≤ 16) : 1 * 2 ^ min (b % 18446744073709551616).toNat IntKind.u64.bits % 18446744073709551616 = (2 : Int) ^ b.toNat := by
  have q := pow16 (k := b.toNat) (by omega)
  rw [show (b % 18446744073709551616).toNat = b.toNat by congr 1; omega, Nat.min_eq_left (show b.toNat ≤ IntKind.u64.bits by show b.toNat ≤ 64; omega), Int.one_mul]
  omega
theorem passP_len {l : List Int} (hl : ∀ x, x ∈ l → W32 x) (o : List Int) (t b : Int) : (passP l o t b).length ≤ l.length := by
  unfold passP
  split
  · rename_i h; rw [(byP_once hl h.1 t b).1]; exact Nat.le_refl _
  · exact Nat.zero_le _
end Go.Pl
