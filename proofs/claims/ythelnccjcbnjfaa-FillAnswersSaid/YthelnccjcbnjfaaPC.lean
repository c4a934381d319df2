/-
  Plain data: each cell for itself.
-/
import Derived.Test.YthelnccjcbnjfaaPB
import Derived.Test.YthelnccjcbnjfaaP8
set_option linter.unusedSimpArgs false
set_option linter.unusedVariables false
namespace Go.Pl
def xr (x y : Int) : Int := ((BitVec.ofInt 32 x ^^^ BitVec.ofInt 32 y).toNat : Int) % 4294967296
def an (x y : Int) : Int := ((BitVec.ofInt 32 x &&& BitVec.ofInt 32 y).toNat : Int) % 4294967296
/-- what is done to a cell -/
def one (x op y : Int) : Int :=
  if op = 1 then (x + y) % 4294967296 else if op = 2 then xr x y else if op = 3 then (x * 2 ^ min (y % 32).toNat 32) % 4294967296 else
  if op = 4 then x / 2 ^ min (y % 32).toNat 32 else if op = 5 then an x y else if op = 6 then (if y < x then 1 else 0) else 0
theorem one_1 {x op y : Int} (h : op = 1) : one x op y = (x + y) % 4294967296 := if_pos h
theorem one_2 {x op y : Int} (h : op = 2) : one x op y = xr x y := by unfold one; rw [if_neg (by omega), if_pos h]
theorem one_3 {x op y : Int} (h : op = 3) : one x op y = (x * 2 ^ min (y % 32).toNat 32) % 4294967296 := by unfold one; rw [if_neg (by omega), if_neg (by omega), if_pos h]
theorem one_4 {x op y : Int} (h : op = 4) : one x op y = x / 2 ^ min (y % 32).toNat 32 := by unfold one; rw [if_neg (by omega), if_neg (by omega), if_neg (by omega), if_pos h]
theorem one_5 {x op y : Int} (h : op = 5) : one x op y = an x y := by unfold one; rw [if_neg (by omega), if_neg (by omega), if_neg (by omega), if_neg (by omega), if_pos h]
theorem one_6 {x op y : Int} (h : op = 6) : one x op y = if y < x then 1 else 0 := by unfold one; rw [if_neg (by omega), if_neg (by omega), if_neg (by omega), if_neg (by omega), if_neg (by omega), if_pos h]
theorem one_no {x op y : Int} (h1 : ¬ op = 1) (h2 : ¬ op = 2) (h3 : ¬ op = 3) (h4 : ¬ op = 4) (h5 : ¬ op = 5) (h6 : ¬ op = 6) : one x op y = 0 := by
  unfold one; rw [if_neg h1, if_neg h2, if_neg h3, if_neg h4, if_neg h5, if_neg h6]
theorem one_w {x op y : Int} (hx : W32 x) (hy : W32 y) : W32 (one x op y) := by
  unfold one
  split
  · omega
  · split
    · unfold xr; omega
    · split
      · omega
      · split
        · refine ⟨Int.ediv_nonneg hx.1 (Int.pow_nonneg (by decide)), Int.le_trans (Int.ediv_le_self _ hx.1) hx.2⟩
        · split
          · unfold an; omega
          · split
            · split <;> omega
            · omega
def opOk (op : Int) : Prop := 1 ≤ op ∧ op ≤ 6
instance (op : Int) : Decidable (opOk op) := by unfold opOk; infer_instance
def celE (n op : Int) (p : Plan) : Int := if opOk op then ordE n p else 1
def celL (n : Nat) (v : Nat → Int) (op : Int) (p : Plan) : List Int := if celE n op p = 0 then (List.range n).map v else []
def celS (n op : Int) (p : Plan) : Int := if celE n op p = 0 then ordS n p else 0
theorem ordE_01 (n : Int) (p : Plan) : ordE n p = 0 ∨ ordE n p = 1 := by unfold ordE; split <;> simp
theorem ordE_iff {n : Int} {p : Plan} : ordE n p = 0 ↔ ordOk n p := by
  unfold ordE; split
  · rename_i h; exact ⟨fun _ => h, fun _ => rfl⟩
  · rename_i h; exact ⟨fun q => absurd q (by decide), fun q => absurd q h⟩
theorem ordU_mem {n : Int} {p : Plan} {u : Int} (h : u ∈ ordU n p) : 0 ≤ u ∧ u < n := by
  by_cases c : ordOk n p
  · exact ((ordU_ok c).2.1 u).1 h
  · rw [(ord_no c).2.1] at h; cases h
theorem ordU_len (n : Int) (p : Plan) : (ordU n p).length ≤ 1000 := by
  by_cases c : ordOk n p
  · have := (ordU_ok c).2.2
    have := c.2.1
    omega
  · rw [(ord_no c).2.1]; simp
theorem fill_ord {n : Nat} {p : Plan} (h : ordOk n p) (v : Nat → Int) : fillL n (ordU n p) v = (List.range n).map v :=
  fillL_all fun j hj => ((ordU_ok h).2.1 j).2 ⟨by omega, by omega⟩
/-- each number up to below another one, once -/
def onceP (l : List Int) (n : Nat) : Prop := l.length = n ∧ (∀ x, x ∈ l → 0 ≤ x ∧ x < n) ∧ ∀ k, k < n → (k : Int) ∈ l
instance (l : List Int) (n : Nat) : Decidable (onceP l n) := by unfold onceP; infer_instance
theorem onceP_ord {n : Nat} {p : Plan} (h : ordOk n p) : onceP (ordU n p) n := by
  obtain ⟨h1, h2, h3⟩ := ordU_ok h
  exact ⟨by omega, fun x hx => (h2 x).1 hx, fun k hk => (h2 k).2 ⟨by omega, by omega⟩⟩
def lessL (n : Nat) (l : List Int) (k : Nat) : List Int := (List.range n).map fun (j : Nat) => (if (j : Int) ∈ l then (j : Int) + 1 else 0) - (if j < k then 1 else 0)
theorem lessL_0 (n : Nat) (l : List Int) : lessL n l 0 = fillL n l (fun j => (j : Int) + 1) := by
  unfold lessL fillL; simp
theorem lessL_get {n : Nat} {l : List Int} {k : Nat} (h : k < n) : (lessL n l k).getD k 0 = if (k : Int) ∈ l then (k : Int) + 1 else 0 := by
  unfold lessL; rw [mapR_get h]; simp
theorem lessL_set {n : Nat} {l : List Int} {k : Nat} (h : k < n) : (lessL n l k).set k ((lessL n l k).getD k 0 - 1) = lessL n l (k + 1) := by
  rw [lessL_get h]
  unfold lessL
  apply List.ext_getElem?
  intro j
  rw [List.getElem?_set]
  simp only [List.getElem?_map, List.length_map, List.length_range]
  by_cases e : k = j
  · subst e
    rw [if_pos rfl, if_pos h, List.getElem?_range h]
    simp
  · rw [if_neg e]
    by_cases hj : j < n
    · rw [List.getElem?_range hj]
      simp only [Option.map_some]
      congr 2
      by_cases c : j < k
      · rw [if_pos c, if_pos (by omega)]
      · rw [if_neg c, if_neg (by omega)]
    · rw [List.getElem?_eq_none (by simpa using hj)]; rfl
theorem lessL_len (n : Nat) (l : List Int) (k : Nat) : (lessL n l k).length = n := by simp [lessL]
theorem lessL_iff {n : Nat} {l : List Int} (hl : l.length = n) (hr : ∀ x, x ∈ l → 0 ≤ x ∧ x < n) : lessL n l n = upto 0 n ↔ onceP l n := by
  have e : ∀ j : Nat, j < n → ((lessL n l n)[j]? = (upto 0 n)[j]? ↔ (j : Int) ∈ l) := fun j hj => by
    unfold lessL upto
    rw [List.getElem?_map, List.getElem?_map, List.getElem?_range hj, List.getElem?_range (by omega)]
    simp only [Option.map_some, Option.some.injEq, hj, if_true, Int.zero_add]
    by_cases c : (j : Int) ∈ l
    · rw [if_pos c]; exact ⟨fun _ => c, fun _ => by omega⟩
    · rw [if_neg c]; exact ⟨fun q => by omega, fun q => absurd q c⟩
  constructor
  · intro h
    exact ⟨hl, hr, fun k hk => (e k hk).1 (by rw [h])⟩
  · rintro ⟨_, _, h⟩
    apply List.ext_getElem?
    intro j
    by_cases hj : j < n
    · exact (e j hj).2 (h j hj)
    · rw [List.getElem?_eq_none (by rw [lessL_len]; omega), List.getElem?_eq_none (by rw [upto_len]; omega)]
end Go.Pl
namespace Go.Pl
theorem bv_of (b : BitVec 32) : BitVec.ofInt 32 (b.toNat : Int) = b := by
  rw [BitVec.ofInt_natCast, BitVec.ofNat_toNat, BitVec.setWidth_eq]
theorem bv_to {x : Int} (hx : W32 x) : ((BitVec.ofInt 32 x).toNat : Int) = x := by
  rw [BitVec.toNat_ofInt]; omega
theorem xr_eq (x y : Int) : xr x y = ((BitVec.ofInt 32 x ^^^ BitVec.ofInt 32 y).toNat : Int) := by
  have := (BitVec.ofInt 32 x ^^^ BitVec.ofInt 32 y).isLt
  unfold xr; omega
theorem xr_xr {x : Int} (y : Int) (hx : W32 x) : xr (xr x y) y = x := by
  rw [xr_eq, xr_eq x y, bv_of, BitVec.xor_assoc, BitVec.xor_self, BitVec.xor_zero]
  exact bv_to hx
theorem an_mask {x : Int} (k : Nat) (hk : k ≤ 32) (hx : W32 x) : an x (2 ^ k - 1) = x % 2 ^ k := by
  have h1 : (2 : Nat) ^ k ≤ 2 ^ 32 := Nat.pow_le_pow_right (by omega) hk
  have h2 := Nat.pow_pos (n := k) (show 0 < 2 by omega)
  have e2 : ((2 : Int) ^ k - 1) = (((2 ^ k - 1 : Nat)) : Int) := by
    rw [Int.natCast_sub (by omega)]; simp
  have e1 : (BitVec.ofInt 32 x &&& BitVec.ofInt 32 (2 ^ k - 1)).toNat = x.toNat % 2 ^ k := by
    rw [BitVec.toNat_and, e2, BitVec.ofInt_natCast, BitVec.toNat_ofNat, Nat.mod_eq_of_lt (by omega), BitVec.toNat_ofInt, Nat.and_two_pow_sub_one_eq_mod]
    congr 1; omega
  unfold an
  rw [e1]
  have h3 : x.toNat % 2 ^ k ≤ x.toNat := Nat.mod_le _ _
  have h4 : ((x.toNat % 2 ^ k : Nat) : Int) = x % 2 ^ k := by
    rw [Int.natCast_emod, Int.toNat_of_nonneg hx.1]; simp
  rw [h4]
  have h5 : x % 2 ^ k ≤ 4294967295 ∧ 0 ≤ x % 2 ^ k := by rw [← h4]; omega
  omega
theorem up_down {x y : Int} (hx : W32 x) : one (one x 3 y) 4 y = one x 5 (4294967295 / 2 ^ min (y % 32).toNat 32) := by
  rw [one_3 rfl, one_4 rfl, one_5 rfl]
  have hk : (y % 32).toNat ≤ 31 := by omega
  rw [Nat.min_eq_left (by omega)]
  generalize (y % 32).toNat = k at hk
  have e : (4294967295 : Int) / 2 ^ k = 2 ^ (32 - k) - 1 := by
    have : ∀ k : Nat, k < 32 → (4294967295 : Int) / 2 ^ k = 2 ^ (32 - k) - 1 := by decide
    exact this k (by omega)
  rw [e, an_mask _ (by omega) hx]
  have hp : (0 : Int) < 2 ^ k := Int.pow_pos (by decide)
  have e2 : (4294967296 : Int) = 2 ^ (32 - k) * 2 ^ k := by
    rw [← Int.pow_add, show 32 - k + k = 32 by omega]; rfl
  rw [e2, Int.mul_comm x, Int.mul_comm (2 ^ (32 - k)), Int.mul_emod_mul_of_pos _ _ hp, Int.mul_ediv_cancel_left _ (by omega)]
theorem range_getD (l : List Int) : (List.range l.length).map (fun j => l.getD j 0) = l := by
  apply List.ext_getElem?
  intro j
  rw [List.getElem?_map]
  by_cases h : j < l.length
  · rw [List.getElem?_range h, Option.map_some, List.getD_eq_getElem?_getD, List.getElem?_eq_getElem h]; rfl
  · rw [List.getElem?_eq_none (by simpa using h), List.getElem?_eq_none (by omega)]; rfl
theorem mapR_len (n : Nat) (v : Nat → Int) : ((List.range n).map v).length = n := by simp
theorem mapR_w {n : Nat} {v : Nat → Int} (h : ∀ j, j < n → W32 (v j)) : ∀ x, x ∈ (List.range n).map v → W32 x := fun x hx => by
  obtain ⟨j, hj, rfl⟩ := List.mem_map.1 hx
  exact h j (List.mem_range.1 hj)
theorem getD_w {l : List Int} (h : ∀ x, x ∈ l → W32 x) (j : Nat) : W32 (l.getD j 0) := by
  by_cases c : j < l.length
  · exact h _ (getD_mem l j 0 c)
  · rw [List.getD_eq_getElem?_getD, List.getElem?_eq_none (by omega)]; exact ⟨by decide, by decide⟩
theorem cel_ok {n : Nat} {op : Int} {p : Plan} (h : ordOk n p) (ho : opOk op) (v : Nat → Int) : celE n op p = 0 ∧ celL n v op p = (List.range n).map v ∧ celS n op p = ordS n p := by
  have e : celE n op p = 0 := by unfold celE; rw [if_pos ho, ordE0 h]
  exact ⟨e, if_pos e, if_pos e⟩
theorem cel_iff {n op : Int} {p : Plan} : celE n op p = 0 ↔ opOk op ∧ ordOk n p := by
  unfold celE
  split
  · rename_i h; rw [ordE_iff]; exact ⟨fun q => ⟨h, q⟩, fun q => q.2⟩
  · rename_i h; exact ⟨fun q => absurd q (by decide), fun q => absurd q.1 h⟩
theorem celE_01 (n op : Int) (p : Plan) : celE n op p = 0 ∨ celE n op p = 1 := by
  unfold celE; split
  · exact ordE_01 n p
  · exact .inr rfl
theorem celL_no {n : Nat} {v : Nat → Int} {op : Int} {p : Plan} (h : ¬ celE n op p = 0) : celL n v op p = [] := if_neg h
theorem xor_back {n : Nat} {l : List Int} (hn : n = l.length) (y : Int) (hl : ∀ x, x ∈ l → W32 x) : (List.range n).map (fun j => one (((List.range n).map fun j => one (l.getD j 0) 2 y).getD j 0) 2 y) = l := by
  subst hn
  conv => rhs; rw [← range_getD l]
  refine List.map_congr_left fun j hj => ?_
  rw [mapR_get (List.mem_range.1 hj), one_2 rfl, one_2 rfl, xr_xr y (getD_w hl j)]
theorem upto_snoc' (k : Nat) : upto 0 (k : Int) ++ [(k : Int)] = upto 0 ((k + 1 : Nat) : Int) := by
  have := upto_snoc (a := 0) k
  rwa [Int.zero_add, Int.zero_add] at this
theorem all_take {p : Int → Prop} {l : List Int} {i : Nat} (hi : i < l.length) (h : ∀ x, x ∈ l.take i → p x) (hx : p (l.getD i 0)) : ∀ x, x ∈ l.take (i + 1) → p x := fun x q => by
  rw [List.take_add_one, List.mem_append] at q
  rcases q with q | q
  · exact h x q
  · rw [List.getElem?_eq_getElem hi] at q
    rw [List.getD_eq_getElem?_getD, List.getElem?_eq_getElem hi] at hx
    simp at q; subst q; exact hx
theorem bd_up {n : Int} {p : Plan} (h : ordOk n p) : ordS n p ≤ p.picks.length + bd (max 1 n) p.grain p.workers ∧ 0 ≤ bd (max 1 n) p.grain p.workers ∧ bd (max 1 n) p.grain p.workers ≤ 16000 := by
  have hph : phOk (max 1 n) p := ⟨by omega, by have := h.2.1; omega, h.2.2⟩
  obtain ⟨a, b, c⟩ := phB_bd hph
  refine ⟨?_, b, c⟩
  by_cases h0 : n = 0
  · subst h0; rw [(ord_zero p).2]; omega
  · have := (ord_steps h).2.1
    rw [show max 1 n = n by have := h.1; omega] at a b c ⊢
    omega
theorem shr_w (k : Nat) : W32 (4294967295 / 2 ^ k) := by
  have : (0 : Int) < 2 ^ k := Int.pow_pos (by decide)
  exact ⟨Int.ediv_nonneg (by decide) (by omega), Int.ediv_le_self _ (by decide)⟩
theorem one_comm (x y : Int) : one x 1 y = one y 1 x := by rw [one_1 rfl, one_1 rfl, Int.add_comm]
theorem one_both (x y : Int) : 0 ≤ one x 6 y ∧ 0 ≤ one y 6 x ∧ one x 6 y + one y 6 x ≤ 1 := by
  rw [one_6 rfl, one_6 rfl]
  split <;> split <;> omega
end Go.Pl
