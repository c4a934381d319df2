/-
  Plain data: cells that are filled one by one; sums of all ahead, block by block.
-/
import Derived.Test.YthelnccjcbnjfaaP7
set_option linter.unusedSimpArgs false
set_option linter.unusedVariables false
namespace Go.Pl
/-- cells, of which some places have what they are to have -/
def fillL (n : Nat) (S : List Int) (v : Nat → Int) : List Int := (List.range n).map fun (j : Nat) => if (j : Int) ∈ S then v j else 0
theorem fillL_len (n : Nat) (S : List Int) (v : Nat → Int) : (fillL n S v).length = n := by simp [fillL]
theorem fillL_nil (n : Nat) (v : Nat → Int) : fillL n [] v = List.replicate n 0 := by
  unfold fillL
  simp only [List.not_mem_nil, if_false]
  rw [List.map_const', List.length_range]
theorem fillL_set {n : Nat} {S : List Int} {v : Nat → Int} {i x : Int} (h0 : 0 ≤ i) (hx : x = v i.toNat) : (fillL n S v).set i.toNat x = fillL n (S ++ [i]) v := by
  subst hx
  apply List.ext_getElem?
  intro j
  rw [List.getElem?_set]
  simp only [fillL, List.getElem?_map, List.length_map, List.length_range, List.mem_append, List.mem_singleton]
  by_cases e : i.toNat = j
  · subst e
    rw [if_pos rfl]
    split
    · rename_i h
      rw [List.getElem?_range h]
      simp only [Option.map_some]
      rw [if_pos (.inr (by omega))]
    · rename_i h
      rw [List.getElem?_eq_none (by simpa using h)]; rfl
  · rw [if_neg e]
    by_cases h : j < n
    · have : ((j : Int) = i) ↔ False := ⟨fun q => e (by omega), False.elim⟩
      rw [List.getElem?_range h]
      simp only [Option.map_some, this, or_false]
    · rw [List.getElem?_eq_none (by simpa using h)]; rfl
theorem fillL_all {n : Nat} {S : List Int} {v : Nat → Int} (h : ∀ j : Nat, j < n → (j : Int) ∈ S) : fillL n S v = (List.range n).map v := by
  unfold fillL
  refine List.map_congr_left fun j hj => ?_
  rw [if_pos (h j (List.mem_range.1 hj))]
theorem fillL_get {n : Nat} {S : List Int} {v : Nat → Int} {j : Nat} (h : j < n) : (fillL n S v).getD j 0 = if (j : Int) ∈ S then v j else 0 := by
  simp [fillL, List.getD_eq_getElem?_getD, h]
theorem mapR_get {n : Nat} {v : Nat → Int} {j : Nat} (h : j < n) (d : Int) : ((List.range n).map v).getD j d = v j := by
  simp [List.getD_eq_getElem?_getD, h]
@[reducible] def W32 (x : Int) : Prop := 0 ≤ x ∧ x ≤ 4294967295
structure Rule (f : Int → Int → Int) : Prop where
  cl : ∀ a b, W32 a → W32 b → W32 (f a b)
  asc : ∀ a b c, W32 a → W32 b → W32 c → f (f a b) c = f a (f b c)
  z1 : ∀ a, W32 a → f 0 a = a
  z2 : ∀ a, W32 a → f a 0 = a
@[reducible] def add32 (a b : Int) : Int := (a + b) % 4294967296
theorem rule_add : Rule add32 := by
  refine ⟨fun a b ha hb => ?_, fun a b c ha hb hc => ?_, fun a ha => ?_, fun a ha => ?_⟩ <;> unfold add32 <;> omega
theorem rule_max : Rule (fun a b => max a b) := by
  refine ⟨fun a b ha hb => ?_, fun a b c ha hb hc => ?_, fun a ha => ?_, fun a ha => ?_⟩ <;> omega
/-- what there is of all -/
def allF (f : Int → Int → Int) (l : List Int) : Int := l.foldl f 0
/-- what there is of all ahead -/
def aheadF (f : Int → Int → Int) (l : List Int) : List Int := (List.range l.length).map fun i => allF f (l.take i)
theorem aheadF_len (f : Int → Int → Int) (l : List Int) : (aheadF f l).length = l.length := by simp [aheadF]
theorem aheadF_get (f : Int → Int → Int) (l : List Int) {i : Nat} (h : i < l.length) : (aheadF f l).getD i 0 = allF f (l.take i) := mapR_get h 0
theorem take_snoc' (l : List Int) (i : Nat) (h : i < l.length) : l.take (i + 1) = l.take i ++ [l.getD i 0] := by
  rw [List.take_add_one, List.getD_eq_getElem?_getD, List.getElem?_eq_getElem h]; rfl
theorem allF_snoc (f : Int → Int → Int) (l : List Int) (x : Int) : allF f (l ++ [x]) = f (allF f l) x := by simp [allF]
theorem allF_take (f : Int → Int → Int) (l : List Int) (i : Nat) (h : i < l.length) : allF f (l.take (i + 1)) = f (allF f (l.take i)) (l.getD i 0) := by
  rw [take_snoc' l i h, allF_snoc]
theorem foldl_w {f : Int → Int → Int} (hf : Rule f) : ∀ (l : List Int) (a : Int), W32 a → (∀ x, x ∈ l → W32 x) → W32 (l.foldl f a)
  | [], a, ha, _ => ha
  | x :: l, a, ha, h => foldl_w hf l (f a x) (hf.cl a x ha (h x (by simp))) (fun y hy => h y (by simp [hy]))
theorem allF_w {f : Int → Int → Int} (hf : Rule f) {l : List Int} (h : ∀ x, x ∈ l → W32 x) : W32 (allF f l) := foldl_w hf l 0 (by omega) h
theorem foldl_pull {f : Int → Int → Int} (hf : Rule f) : ∀ (l : List Int) (a b : Int), W32 a → W32 b → (∀ x, x ∈ l → W32 x) → l.foldl f (f a b) = f a (l.foldl f b)
  | [], a, b, _, _, _ => rfl
  | x :: l, a, b, ha, hb, h => by
    have hx := h x (by simp)
    simp only [List.foldl_cons]
    rw [hf.asc a b x ha hb hx, foldl_pull hf l a (f b x) ha (hf.cl b x hb hx) (fun y hy => h y (by simp [hy]))]
theorem allF_app {f : Int → Int → Int} (hf : Rule f) {a b : List Int} (ha : ∀ x, x ∈ a → W32 x) (hb : ∀ x, x ∈ b → W32 x) : allF f (a ++ b) = f (allF f a) (allF f b) := by
  have h1 := allF_w hf ha
  unfold allF at *
  rw [List.foldl_append]
  conv => lhs; rw [show a.foldl f 0 = f (a.foldl f 0) 0 from (hf.z2 _ h1).symm]
  exact foldl_pull hf b _ 0 h1 (by omega) hb
/-- a block of a list -/
def part (l : List Int) (b i : Nat) : List Int := (l.take (min l.length ((i + 1) * b))).drop (i * b)
theorem part_len (l : List Int) (b i : Nat) : (part l b i).length = min l.length ((i + 1) * b) - i * b := by
  unfold part; rw [List.length_drop, List.length_take]; congr 1; omega
theorem take_part (l : List Int) (b i : Nat) : l.take (min l.length (i * b)) ++ part l b i = l.take (min l.length ((i + 1) * b)) := by
  unfold part
  have h1 : i * b ≤ (i + 1) * b := Nat.mul_le_mul_right b (by omega)
  have e : l.take (min l.length (i * b)) = (l.take (min l.length ((i + 1) * b))).take (i * b) := by
    rw [List.take_take]
    by_cases c : i * b ≤ l.length
    · congr 1; omega
    · rw [List.take_of_length_le (by omega), List.take_of_length_le (by omega)]
  rw [e, List.take_append_drop]
theorem part_w {l : List Int} {b i : Nat} (h : ∀ x, x ∈ l → W32 x) : ∀ x, x ∈ part l b i → W32 x := fun x hx => h x (List.mem_of_mem_take (List.mem_of_mem_drop hx))
theorem take_w {l : List Int} {i : Nat} (h : ∀ x, x ∈ l → W32 x) : ∀ x, x ∈ l.take i → W32 x := fun x hx => h x (List.mem_of_mem_take hx)
/-- each block's sum -/
def totF (f : Int → Int → Int) (l : List Int) (b n : Nat) : List Int := (List.range n).map fun i => allF f (part l b i)
theorem allF_tot {f : Int → Int → Int} (hf : Rule f) {l : List Int} (h : ∀ x, x ∈ l → W32 x) (b n : Nat) : ∀ i, i ≤ n → allF f ((totF f l b n).take i) = allF f (l.take (min l.length (i * b)))
  | 0, _ => by simp [allF]
  | i + 1, hi => by
    have hlen : (totF f l b n).length = n := by simp [totF]
    rw [allF_take f _ i (by omega), allF_tot hf h b n i (by omega), ← take_part, allF_app hf (take_w h) (part_w h)]
    congr 1
    exact mapR_get (by omega) 0
theorem ahead_at {f : Int → Int → Int} (hf : Rule f) {l : List Int} (h : ∀ x, x ∈ l → W32 x) {b n i k : Nat} (hi : i < n) (hb : i * b + k < l.length) (hk : k < b) :
    f (allF f ((totF f l b n).take i)) (allF f ((part l b i).take k)) = allF f (l.take (i * b + k)) := by
  have h1 : (i + 1) * b = i * b + b := by rw [Nat.add_mul, Nat.one_mul]
  rw [allF_tot hf h b n i (by omega), ← allF_app hf (take_w h) (take_w (part_w h))]
  congr 1
  have e : (part l b i).take k = (l.take (i * b + k)).drop (i * b) := by
    unfold part
    rw [List.take_drop, List.take_take]
    congr 2; omega
  rw [e, show min l.length (i * b) = i * b by omega]
  have : l.take (i * b) = (l.take (i * b + k)).take (i * b) := by rw [List.take_take]; congr 1; omega
  rw [this, List.take_append_drop]
/-- places of blocks -/
def blockPl (len b : Nat) (i : Int) : List Int := upto (i * b) (min len ((i + 1) * b))
theorem blocks_all {len b n : Nat} (hb : 1 ≤ b) (hn : n = (len + b - 1) / b) {U : List Int} (hU : ∀ u, u ∈ U ↔ (0 ≤ u ∧ u < n)) : ∀ j : Nat, j < len → (j : Int) ∈ U.flatMap (blockPl len b) := by
  intro j hj
  refine List.mem_flatMap.2 ⟨((j / b : Nat) : Int), (hU _).2 ⟨Int.natCast_nonneg _, ?_⟩, ?_⟩
  · have : j / b < n := by
      rw [hn, Nat.div_lt_iff_lt_mul hb]
      have h1 := Nat.div_add_mod (len + b - 1) b
      have h2 := Nat.mod_lt (len + b - 1) hb
      have h3 : (len + b - 1) / b * b = b * ((len + b - 1) / b) := Nat.mul_comm _ _
      omega
    exact Int.ofNat_lt.2 this
  · unfold blockPl
    rw [mem_upto]
    have h1 := Nat.div_add_mod j b
    have h2 := Nat.mod_lt j hb
    have h3 : j / b * b = b * (j / b) := Nat.mul_comm _ _
    have h4 : (j / b + 1) * b = j / b * b + b := by rw [Nat.add_mul, Nat.one_mul]
    have e1 : (((j / b : Nat) : Int)) * (b : Int) = ((j / b * b : Nat) : Int) := by rw [Int.natCast_mul]
    have e2 : (((j / b : Nat) : Int) + 1) * (b : Int) = (((j / b + 1) * b : Nat) : Int) := by rw [Int.natCast_mul]; rfl
    rw [e1, e2]; omega
end Go.Pl
