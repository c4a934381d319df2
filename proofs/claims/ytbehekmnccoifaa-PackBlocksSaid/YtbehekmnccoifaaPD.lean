/-
  Plain data: what is ahead, by blocks.
-/
import Derived.Test.YtbehekmnccoifaaPC
set_option linter.unusedSimpArgs false
set_option linter.unusedVariables false
namespace Go.Pl
def scE (n : Nat) (b : Int) (p : Plan) : Int := if (1 ≤ b ∧ b ≤ 100) ∧ n ≤ 1000 then ordE (blk n b) p else 1
def scL (f : Int → Int → Int) (l : List Int) (b : Int) (p : Plan) : List Int := if scE l.length b p = 0 then aheadF f l else []
def scT (f : Int → Int → Int) (l : List Int) (b : Int) (p : Plan) : Int := if scE l.length b p = 0 then allF f l else 0
def scS (n : Nat) (b : Int) (p : Plan) : Int := if scE n b p = 0 then 2 * ordS (blk n b) p else 0
theorem sc_no {f : Int → Int → Int} {l : List Int} {b : Int} {p : Plan} (h : ¬ scE l.length b p = 0) : scL f l b p = [] ∧ scT f l b p = 0 ∧ scS l.length b p = 0 :=
  ⟨if_neg h, if_neg h, if_neg h⟩
theorem sc_yes {f : Int → Int → Int} {l : List Int} {b : Int} {p : Plan} (h : scE l.length b p = 0) : scL f l b p = aheadF f l ∧ scT f l b p = allF f l ∧ scS l.length b p = 2 * ordS (blk l.length b) p :=
  ⟨if_pos h, if_pos h, if_pos h⟩
theorem scE_01 (n : Nat) (b : Int) (p : Plan) : scE n b p = 0 ∨ scE n b p = 1 := by
  unfold scE; split
  · exact ordE_01 _ p
  · exact .inr rfl
theorem sc_iff {n : Nat} {b : Int} {p : Plan} : scE n b p = 0 ↔ (1 ≤ b ∧ b ≤ 100) ∧ n ≤ 1000 ∧ ordOk (blk n b) p := by
  unfold scE; split
  · rename_i h; rw [ordE_iff]; exact ⟨fun q => ⟨h.1, h.2, q⟩, fun q => q.2.2⟩
  · rename_i h; exact ⟨fun q => absurd q (by decide), fun q => absurd ⟨q.1, q.2.1⟩ h⟩
def blkN (n b : Nat) : Nat := (n + b - 1) / b
theorem blk_nat {n b : Nat} (hb : 1 ≤ b ∧ b ≤ 100) (hn : n ≤ 1000) : blk n b = (blkN n b : Int) := by
  unfold blk blkN
  rw [if_pos ⟨by omega, by omega, by omega, by omega⟩, Int.natCast_ediv]
  congr 1; omega
theorem blk_at {n b u : Nat} (hb : 1 ≤ b ∧ b ≤ 100) (hn : n ≤ 1000) (h : u < blkN n b) : u * b < n ∧ (u + 1) * b = u * b + b ∧ u < 1000 := by
  unfold blkN at h
  rw [Nat.lt_div_iff_mul_lt (by omega)] at h
  have h1 : (u + 1) * b = u * b + b := by rw [Nat.add_mul, Nat.one_mul]
  have h2 : u ≤ u * b := Nat.le_mul_of_pos_right u (by omega)
  omega
theorem blkN_up {n b : Nat} (hb : 1 ≤ b ∧ b ≤ 100) (hn : n ≤ 1000) : blkN n b ≤ 1000 := by
  have := (blk_up (b := (b : Int)) (show (0 : Int) ≤ n by omega) (Int.le_refl _) (by omega)).2.2
  rw [blk_nat hb hn] at this; omega
theorem block_snoc {l : List Int} {b : Nat} {L : List Int} {z u : Nat} (hz : z < L.length) (hu : L.getD z 0 = u) (h : u * b < l.length) : (L.take (z + 1)).flatMap (blockPl l.length b) = (L.take z).flatMap (blockPl l.length b) ++ upto ((u : Int) * b) ((u : Int) * b + ((part l b u).length : Nat)) := by
  rw [take_snoc' L z hz, List.flatMap_append, hu]
  congr 1
  rw [List.flatMap_singleton]
  unfold blockPl
  congr 1
  rw [part_len]
  have h1 : (u + 1) * b = u * b + b := by rw [Nat.add_mul, Nat.one_mul]
  have e1 : (u : Int) * b = ((u * b : Nat) : Int) := by rw [Int.natCast_mul]
  have e2 : ((u : Int) + 1) * b = (((u + 1) * b : Nat) : Int) := by rw [Int.natCast_mul]; rfl
  rw [e1, e2]
  omega
theorem ahead_cell {f : Int → Int → Int} (hf : Rule f) {l : List Int} (h : ∀ x, x ∈ l → W32 x) {b n u y : Nat} (hu : u < n) (hb : u * b < l.length) (hy : y < (part l b u).length) :
    f ((aheadF f (totF f l b n)).getD u 0) ((aheadF f (part l b u)).getD y 0) = allF f (l.take (u * b + y)) ∧ u * b + y < l.length := by
  have h1 : (u + 1) * b = u * b + b := by rw [Nat.add_mul, Nat.one_mul]
  have h2 := hy
  rw [part_len] at h2
  rw [aheadF_get f _ (by simp [totF]; omega), aheadF_get f _ hy]
  exact ⟨ahead_at hf h hu (by omega) (by omega), by omega⟩
theorem totF_len (f : Int → Int → Int) (l : List Int) (b n : Nat) : (totF f l b n).length = n := by simp [totF]
theorem totF_w {f : Int → Int → Int} (hf : Rule f) {l : List Int} (h : ∀ x, x ∈ l → W32 x) (b n : Nat) : ∀ x, x ∈ totF f l b n → W32 x := fun x hx => by
  unfold totF at hx
  obtain ⟨j, _, rfl⟩ := List.mem_map.1 hx
  exact allF_w hf (part_w h)
theorem aheadF_w {f : Int → Int → Int} (hf : Rule f) {l : List Int} (h : ∀ x, x ∈ l → W32 x) : ∀ x, x ∈ aheadF f l → W32 x := fun x hx => by
  unfold aheadF at hx
  obtain ⟨j, _, rfl⟩ := List.mem_map.1 hx
  exact allF_w hf (take_w h)
theorem allF_tots {f : Int → Int → Int} (hf : Rule f) {l : List Int} (h : ∀ x, x ∈ l → W32 x) {b : Nat} (hb : 1 ≤ b) : allF f (totF f l b (blkN l.length b)) = allF f l := by
  have := allF_tot hf h b (blkN l.length b) _ (Nat.le_refl _)
  rw [List.take_of_length_le (by rw [totF_len]; exact Nat.le_refl _)] at this
  rw [this]
  congr 1
  apply List.take_of_length_le
  have : l.length ≤ blkN l.length b * b := by
    unfold blkN
    have h1 := Nat.div_add_mod (l.length + b - 1) b
    have h2 := Nat.mod_lt (l.length + b - 1) (show b > 0 by omega)
    have h3 : (l.length + b - 1) / b * b = b * ((l.length + b - 1) / b) := Nat.mul_comm _ _
    omega
  omega
theorem fill_upto {n : Nat} (v : Nat → Int) {i : Nat} (h : n ≤ i) : fillL n (upto 0 (i : Int)) v = (List.range n).map v :=
  fillL_all fun j hj => mem_upto.2 ⟨by omega, by omega⟩
theorem fill_blocks {n b : Nat} (hb : 1 ≤ b ∧ b ≤ 100) (hn : n ≤ 1000) {p : Plan} (h : ordOk (blkN n b : Nat) p) (v : Nat → Int) : fillL n ((ordU (blkN n b : Nat) p).flatMap (blockPl n b)) v = (List.range n).map v :=
  fillL_all (blocks_all (n := blkN n b) (by omega) rfl (fun u => (ordU_ok h).2.1 u))
end Go.Pl
