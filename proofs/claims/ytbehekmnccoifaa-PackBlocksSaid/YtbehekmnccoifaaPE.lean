/-
  Plain data: digits, and who comes when by them.
-/
import Derived.Test.YtbehekmnccoifaaPD
import Derived.Test.YtbehekmnccoifaaP9
import Derived.Test.YtbehekmnccoifaaP2
set_option linter.unusedSimpArgs false
set_option linter.unusedVariables false
namespace Go.Pl
theorem perm_of : ∀ {m l : List Int}, m.Nodup → (∀ x, x ∈ m → x ∈ l) → l.length ≤ m.length → l.Perm m
  | [], l, _, _, h => by
    have : l = [] := List.eq_nil_of_length_eq_zero (by simpa using h)
    subst this; exact List.Perm.refl _
  | x :: m, l, hn, hs, h => by
    have hx : x ∈ l := hs x (by simp)
    have hn' := List.nodup_cons.1 hn
    have hp := perm_of (m := m) (l := l.erase x) hn'.2 (fun y hy => (List.mem_erase_of_ne (fun e => hn'.1 (by rw [← e]; exact hy))).2 (hs y (by simp [hy]))) (by
      rw [List.length_erase_of_mem hx]; simp only [List.length_cons] at h; omega)
    exact (List.perm_cons_erase hx).trans (hp.cons x)
theorem onceP_nodup {l : List Int} {n : Nat} (h : onceP l n) : l.Nodup := by
  have hp := perm_of (m := upto 0 n) (l := l) (nodup_upto _ _) (fun x hx => by
    have := mem_upto.1 hx
    have h2 := h.2.2 x.toNat (by omega)
    rwa [show ((x.toNat : Nat) : Int) = x by omega] at h2) (by rw [upto_len, h.1]; omega)
  exact hp.nodup_iff.2 (nodup_upto _ _)
theorem once_of {l : List Int} {n : Nat} (h1 : l.length = n) (h2 : ∀ x, x ∈ l → 0 ≤ x ∧ x < n) (h3 : l.Nodup) : onceP l n := by
  have hp := perm_of (m := l) (l := upto 0 n) h3 (fun x hx => mem_upto.2 ⟨(h2 x hx).1, (h2 x hx).2⟩) (by rw [upto_len, h1]; omega)
  exact ⟨h1, h2, fun k hk => hp.mem_iff.1 (mem_upto.2 ⟨by omega, by omega⟩)⟩
theorem once_iff {l : List Int} {n : Nat} (h2 : ∀ x, x ∈ l → 0 ≤ x ∧ x < n) (h3 : l.Nodup) : onceP l n ↔ l.length = n :=
  ⟨fun h => h.1, fun h => once_of h h2 h3⟩
theorem once_upto (n : Nat) : onceP (upto 0 n) n := once_of (by rw [upto_len]; omega) (fun x hx => mem_upto.1 hx) (nodup_upto _ _)
theorem nodup_snoc {l : List Int} {x : Int} (h : l.Nodup) (hc : (l ++ [x]).count x ≤ 1) : (l ++ [x]).Nodup := by
  rw [count_pos_end] at hc
  rw [List.nodup_append]
  refine ⟨h, by simp, fun a ha b hb => ?_⟩
  simp at hb; subst hb
  intro e; subst e
  exact List.count_eq_zero.1 (by omega) ha
theorem take_count {l : List Int} {i : Nat} (hi : i < l.length) (h : l.Nodup) : (l.take i ++ [l.getD i 0]).count (l.getD i 0) ≤ 1 := by
  rw [← take_snoc' l i hi]
  exact List.nodup_iff_count.1 (h.sublist (List.take_sublist _ _)) _
/-- a word's digit -/
def digW (x t b : Int) : Int := if 0 ≤ t ∧ t < pas b then x / 2 ^ (t * b).toNat % 2 ^ b.toNat else 0
theorem digW_b {x t b : Int} (hx : 0 ≤ x) : 0 ≤ digW x t b ∧ digW x t b < 2 ^ b.toNat := by
  have hp : (0 : Int) < 2 ^ b.toNat := Int.pow_pos (by decide)
  unfold digW
  split
  · exact ⟨Int.emod_nonneg _ (by omega), Int.emod_lt_of_pos _ hp⟩
  · omega
theorem pas_b {t b : Int} (h : 0 ≤ t ∧ t < pas b) : (1 ≤ b ∧ b ≤ 16) ∧ 0 ≤ t * b ∧ t * b ≤ 31 := by
  unfold pas at h
  split at h
  · rename_i hb
    refine ⟨hb, Int.mul_nonneg h.1 (by omega), ?_⟩
    have h1 : (t + 1) * b ≤ (32 + b - 1) / b * b := Int.mul_le_mul_of_nonneg_right (by omega) (by omega)
    have h2 := Int.ediv_mul_le (32 + b - 1) (show b ≠ 0 by omega)
    rw [Int.add_mul, Int.one_mul] at h1
    omega
  · omega
/-- the digit of the word at a place -/
def digA (l : List Int) (t b : Int) (i : Int) : Int := digW (l.getD i.toNat 0) t b
/-- one pass -/
def byP (l o : List Int) (t b : Int) : List Int := bucket (2 ^ b.toNat) (digA l t b) o
def passP (l o : List Int) (t b : Int) : List Int := if onceP o l.length ∧ 0 ≤ t ∧ t < pas b then byP l o t b else []
theorem digA_b {l : List Int} (hl : ∀ x, x ∈ l → W32 x) (t b i : Int) : 0 ≤ digA l t b i ∧ digA l t b i < ((2 ^ b.toNat : Nat) : Int) := by
  have := digW_b (t := t) (b := b) (getD_w hl i.toNat).1
  unfold digA
  rw [Int.natCast_pow]; exact this
/-- what is counted -/
def tabL (n : Nat) (g : Nat → Int) : List Int := (List.range n).map g
theorem tabL_len (n : Nat) (g : Nat → Int) : (tabL n g).length = n := by simp [tabL]
theorem tabL_get {n : Nat} {g : Nat → Int} {i : Nat} (h : i < n) : (tabL n g).getD i 0 = g i := mapR_get h 0
theorem tabL_set {n : Nat} {g g' : Nat → Int} {i : Nat} {x : Int} (h1 : x = g' i) (h2 : ∀ j, j < n → j ≠ i → g j = g' j) : (tabL n g).set i x = tabL n g' := by
  subst h1
  unfold tabL
  apply List.ext_getElem?
  intro j
  rw [List.getElem?_set]
  by_cases hj : j < n
  · rw [List.getElem?_map, List.getElem?_map, List.getElem?_range hj]
    by_cases e : i = j
    · subst e; simp [hj]
    · rw [if_neg e]; simp [h2 j hj (fun q => e q.symm)]
  · have e1 : ((List.range n).map g)[j]? = none := List.getElem?_eq_none (by simp; omega)
    have e2 : ((List.range n).map g')[j]? = none := List.getElem?_eq_none (by simp; omega)
    rw [e1, e2]
    split
    · rw [if_neg (by simp; omega)]
    · rfl
theorem tabL_congr {n : Nat} {g g' : Nat → Int} (h : ∀ j, j < n → g j = g' j) : tabL n g = tabL n g' := List.map_congr_left fun j hj => h j (List.mem_range.1 hj)
theorem tabL_0 (n : Nat) : tabL n (fun _ => 0) = List.replicate n 0 := by
  unfold tabL; rw [List.map_const']; simp
def cntT1 (d : Int → Int) (o : List Int) (k : Nat) (v : Nat) : Int := if v = 0 then 0 else same d (o.take k) ((v : Int) - 1)
def cntT2 (d : Int → Int) (o : List Int) (k : Nat) (v : Nat) : Int := if v ≤ k then less d o v else same d o ((v : Int) - 1)
def cntT3 (B : Nat) (d : Int → Int) (o : List Int) (k : Nat) (v : Nat) : Int := less d o v + (if v < B then (same d (o.take k) v : Int) else 0)
theorem cnt1_0 (d : Int → Int) (o : List Int) (n : Nat) : tabL n (cntT1 d o 0) = List.replicate n 0 := by
  rw [← tabL_0]; exact tabL_congr fun j _ => by unfold cntT1; split <;> simp [same]
theorem cnt1_set {B : Nat} {d : Int → Int} {o : List Int} {k : Nat} (hk : k < o.length) (hd : 0 ≤ d (o.getD k 0) ∧ d (o.getD k 0) < B) :
    (tabL (B + 1) (cntT1 d o k)).set (d (o.getD k 0) + 1).toNat ((tabL (B + 1) (cntT1 d o k)).getD (d (o.getD k 0) + 1).toNat 0 + 1) = tabL (B + 1) (cntT1 d o (k + 1)) := by
  rw [tabL_get (by omega)]
  refine tabL_set ?_ fun j hj hne => ?_
  · unfold cntT1
    rw [if_neg (by omega), if_neg (by omega), same_take d o k hk, if_pos (by omega)]; omega
  · unfold cntT1
    split
    · rfl
    · rw [same_take d o k hk, if_neg (by omega)]; omega
theorem cnt1_2 (d : Int → Int) (o : List Int) (n : Nat) : tabL n (cntT1 d o o.length) = tabL n (cntT2 d o 0) :=
  tabL_congr fun j _ => by
    unfold cntT1 cntT2
    rw [List.take_of_length_le (Nat.le_refl _)]
    by_cases h : j = 0
    · subst h; rw [if_pos rfl, if_pos (by omega), less_zero]; rfl
    · rw [if_neg h, if_neg (by omega)]
theorem cnt2_set {B : Nat} {d : Int → Int} {o : List Int} {k : Nat} (hk : k < B) :
    (tabL (B + 1) (cntT2 d o k)).set (k + 1) ((tabL (B + 1) (cntT2 d o k)).getD (k + 1) 0 + (tabL (B + 1) (cntT2 d o k)).getD k 0) = tabL (B + 1) (cntT2 d o (k + 1)) := by
  rw [tabL_get (by omega), tabL_get (by omega)]
  refine tabL_set ?_ fun j hj hne => ?_
  · unfold cntT2
    rw [if_neg (by omega), if_pos (by omega), if_pos (by omega), less_succ]
    rw [show ((k + 1 : Nat) : Int) - 1 = k by omega]; omega
  · unfold cntT2
    by_cases c : j ≤ k
    · rw [if_pos c, if_pos (by omega)]
    · rw [if_neg c, if_neg (by omega)]
theorem cnt2_3 (B : Nat) (d : Int → Int) (o : List Int) : tabL (B + 1) (cntT2 d o B) = tabL (B + 1) (cntT3 B d o 0) :=
  tabL_congr fun j hj => by
    unfold cntT2 cntT3
    rw [if_pos (by omega)]
    split <;> simp [same]
theorem cnt3_get {B : Nat} {d : Int → Int} {o : List Int} {k : Nat} (hk : k < o.length) (hd : 0 ≤ d (o.getD k 0) ∧ d (o.getD k 0) < B) :
    (tabL (B + 1) (cntT3 B d o k)).getD (d (o.getD k 0)).toNat 0 = posB d o k := by
  rw [tabL_get (by omega)]
  unfold cntT3 posB
  rw [if_pos (by omega), show ((d (o.getD k 0)).toNat : Int) = d (o.getD k 0) by omega]
  omega
theorem cnt3_set {B : Nat} {d : Int → Int} {o : List Int} {k : Nat} (hk : k < o.length) (hd : 0 ≤ d (o.getD k 0) ∧ d (o.getD k 0) < B) :
    (tabL (B + 1) (cntT3 B d o k)).set (d (o.getD k 0)).toNat ((posB d o k : Int) + 1) = tabL (B + 1) (cntT3 B d o (k + 1)) := by
  refine tabL_set ?_ fun j hj hne => ?_
  · unfold cntT3 posB
    rw [if_pos (by omega), show ((d (o.getD k 0)).toNat : Int) = d (o.getD k 0) by omega, same_take d o k hk, if_pos rfl]; omega
  · unfold cntT3
    split
    · rw [same_take d o k hk, if_neg (by omega)]; omega
    · rfl
theorem same_up (d : Int → Int) (o : List Int) (k : Nat) (v : Int) : (same d (o.take k) v : Int) ≤ o.length := by
  have := same_le d (o.take k) v
  rw [List.length_take] at this; omega
theorem less_up {d : Int → Int} {o : List Int} (B : Nat) (hd : ∀ x, x ∈ o → 0 ≤ d x ∧ d x < B) (hn : o.Nodup) {v : Nat} (hv : v ≤ B) : less d o v ≤ o.length := by
  obtain ⟨r, hr, _⟩ := lowB_split B d o hv
  obtain ⟨b1, b2⟩ := bucket_perm hd hn
  have hlen : (bucket B d o).length = o.length := ((List.perm_ext_iff_of_nodup b1 hn).2 b2).length_eq
  rw [hr, List.length_append] at hlen
  unfold less; omega
theorem posB_lt {B : Nat} {d : Int → Int} {o : List Int} {k : Nat} (hk : k < o.length) (hd : ∀ x, x ∈ o → 0 ≤ d x ∧ d x < B) (hn : o.Nodup) : posB d o k < o.length ∧ (bucket B d o).getD (posB d o k) 0 = o.getD k 0 := by
  have h := posB_at (B := B) hk (hd _ (getD_mem o k 0 hk))
  obtain ⟨b1, b2⟩ := bucket_perm hd hn
  have hlen : (bucket B d o).length = o.length := ((List.perm_ext_iff_of_nodup b1 hn).2 b2).length_eq
  obtain ⟨hlt, _⟩ := List.getElem?_eq_some_iff.1 h
  exact ⟨by omega, by rw [List.getD_eq_getElem?_getD, h]; rfl⟩
theorem byP_once {l o : List Int} (hl : ∀ x, x ∈ l → W32 x) (ho : onceP o l.length) (t b : Int) : onceP (byP l o t b) l.length := by
  have hn := onceP_nodup ho
  obtain ⟨b1, b2⟩ := bucket_perm (B := 2 ^ b.toNat) (d := digA l t b) (l := o) (fun x _ => digA_b hl t b x) hn
  have hlen : (byP l o t b).length = o.length := ((List.perm_ext_iff_of_nodup b1 hn).2 b2).length_eq
  exact once_of (by rw [hlen, ho.1]) (fun x hx => ho.2.1 x ((b2 x).1 hx)) b1
/-- passes -/
def passes (l : List Int) (b : Int) : Nat → List Int
  | 0 => upto 0 l.length
  | k + 1 => byP l (passes l b k) k b
theorem passes_once {l : List Int} (hl : ∀ x, x ∈ l → W32 x) (b : Int) : ∀ k, onceP (passes l b k) l.length
  | 0 => once_upto _
  | k + 1 => byP_once hl (passes_once hl b k) _ _
def raE (n : Nat) (b bl : Int) (p : Plan) : Int := if pas b = 0 then 1 else scE n bl p
def raL (l : List Int) (b bl : Int) (p : Plan) : List Int := if raE l.length b bl p = 0 then passes l b (pas b).toNat else []
def raS (n : Nat) (b bl : Int) (p : Plan) : Int := if raE n b bl p = 0 then scS n bl p * pas b else 0
def sortedL (l o : List Int) : List Int := o.map fun i => l.getD i.toNat 0
theorem pow16 {k : Nat} (h : k ≤ 16) : (1 : Int) ≤ 2 ^ k ∧ (2 : Int) ^ k ≤ 65536 := by
  have : ∀ k : Nat, k < 17 → (1 : Int) ≤ 2 ^ k ∧ (2 : Int) ^ k ≤ 65536 := by decide
  exact this k (by omega)
theorem dig_eq {x t b : Int} (hx : W32 x) (ht : 0 ≤ t ∧ t < pas b) : ((BitVec.ofInt 32 (x / 2 ^ min (t * b % 18446744073709551616).toNat 32) &&& BitVec.ofInt 32 ((1 * 2 ^ min (b % 18446744073709551616).toNat 32 % 4294967296 - 1) % 4294967296)).toNat : Int) % 4294967296 = digW x t b := by
  obtain ⟨p1, p2, p3⟩ := pas_b ht
  have q := pow16 (k := b.toNat) (by omega)
  rw [show (t * b % 18446744073709551616).toNat = (t * b).toNat by congr 1; omega, show (b % 18446744073709551616).toNat = b.toNat by congr 1; omega, Nat.min_eq_left (show (t * b).toNat ≤ 32 by omega), Nat.min_eq_left (show b.toNat ≤ 32 by omega), Int.one_mul]
  rw [show ((2 : Int) ^ b.toNat % 4294967296 - 1) % 4294967296 = 2 ^ b.toNat - 1 by omega]
  have hp : (0 : Int) < 2 ^ (t * b).toNat := Int.pow_pos (by decide)
  have hd : W32 (x / 2 ^ (t * b).toNat) := ⟨Int.ediv_nonneg hx.1 (by omega), Int.le_trans (Int.ediv_le_self _ hx.1) hx.2⟩
  exact (an_mask b.toNat (by omega) hd).trans (by unfold digW; rw [if_pos ht])
theorem pow16n {k : Nat} (h : k ≤ 16) : 1 ≤ 2 ^ k ∧ 2 ^ k ≤ 65536 := by
  have : ∀ k : Nat, k < 17 → 1 ≤ 2 ^ k ∧ 2 ^ k ≤ 65536 := by decide
  exact this k (by omega)
theorem cnt1_up (d : Int → Int) (o : List Int) (k v B : Nat) (h : v < B + 1) : 0 ≤ (tabL (B + 1) (cntT1 d o k)).getD v 0 ∧ (tabL (B + 1) (cntT1 d o k)).getD v 0 ≤ o.length := by
  rw [tabL_get h]
  unfold cntT1
  have := same_up d o k ((v : Int) - 1)
  split <;> omega
theorem cnt2_up {B : Nat} {d : Int → Int} {o : List Int} (hd : ∀ x, x ∈ o → 0 ≤ d x ∧ d x < B) (hn : o.Nodup) (k v : Nat) (h : v < B + 1) : 0 ≤ (tabL (B + 1) (cntT2 d o k)).getD v 0 ∧ (tabL (B + 1) (cntT2 d o k)).getD v 0 ≤ o.length := by
  rw [tabL_get h]
  unfold cntT2
  have h1 := less_up B hd hn (show v ≤ B by omega)
  have h2 := same_le d o ((v : Int) - 1)
  split <;> omega
theorem scS_nn (n : Nat) (b : Int) (p : Plan) : 0 ≤ scS n b p ∧ scS n b p ≤ 40000 := by
  unfold scS
  split
  · rename_i h
    have := ord_steps (sc_iff.1 h).2.2
    have h0 := (sc_iff.1 h).2.2.1
    omega
  · omega
theorem sortedL_len (l o : List Int) : (sortedL l o).length = o.length := by simp [sortedL]
theorem sortedL_snoc (l o : List Int) (x : Int) : sortedL l (o ++ [x]) = sortedL l o ++ [l.getD x.toNat 0] := by simp [sortedL]
theorem i64_of {o : List Int} (h : ∀ x, x ∈ o → 0 ≤ x ∧ x < 4) : ∀ x, x ∈ o → -9223372036854775808 ≤ x ∧ x ≤ 9223372036854775807 := fun x hx => by
  have := h x hx; omega
theorem pas_x {b : Int} (h : 1 ≤ b ∧ b ≤ 16) : 32 ≤ pas b * b ∧ pas b * b < 32 + b ∧ 2 ≤ pas b ∧ pas b ≤ 32 := by
  have h1 : pas b = (32 + b - 1) / b := if_pos h
  have : ∀ k : Nat, k < 17 → 1 ≤ k → 32 ≤ ((32 + (k : Int) - 1) / k) * k ∧ ((32 + (k : Int) - 1) / k) * k < 32 + k ∧ 2 ≤ (32 + (k : Int) - 1) / k ∧ (32 + (k : Int) - 1) / k ≤ 32 := by decide
  have := this b.toNat (by omega) (by omega)
  rw [show ((b.toNat : Nat) : Int) = b by omega, ← h1] at this
  exact this
theorem shl_b {b : Int} (h : 1 ≤ b ∧ b ≤ 16) : 1 * 2 ^ min (b % 18446744073709551616).toNat IntKind.u32.bits % 4294967296 = (2 : Int) ^ b.toNat := by
  have q := pow16 (k := b.toNat) (by omega)
  rw [show (b % 18446744073709551616).toNat = b.toNat by congr 1; omega, Nat.min_eq_left (show b.toNat ≤ IntKind.u32.bits by show b.toNat ≤ 32; omega), Int.one_mul]
  omega
theorem word_top {x b : Int} (hx : W32 x) (h : 1 ≤ b ∧ b ≤ 16) : x / 2 ^ ((pas b).toNat * b.toNat) = 0 := by
  have h1 := pas_x h
  have h2 : (((pas b).toNat * b.toNat : Nat) : Int) = pas b * b := by rw [Int.natCast_mul]; congr 1 <;> omega
  have h3 : (2 : Nat) ^ 32 ≤ 2 ^ ((pas b).toNat * b.toNat) := Nat.pow_le_pow_right (by omega) (by omega)
  have h4 : (4294967296 : Int) ≤ 2 ^ ((pas b).toNat * b.toNat) := by
    have : ((2 ^ 32 : Nat) : Int) ≤ ((2 ^ ((pas b).toNat * b.toNat) : Nat) : Int) := Int.ofNat_le.2 h3
    rw [Int.natCast_pow] at this; exact this
  exact Int.ediv_eq_zero_of_lt hx.1 (by omega)
theorem dig_step {x b : Int} {v : Nat} (hx : W32 x) (h : 1 ≤ b ∧ b ≤ 16) (hv : 1 ≤ v) (hv2 : (v : Int) ≤ pas b) :
    (x / 2 ^ (v * b.toNat) * 2 ^ min (b % 18446744073709551616).toNat IntKind.u64.bits % 18446744073709551616 + digW x ((v : Int) - 1) b % 18446744073709551616) % 18446744073709551616 = x / 2 ^ ((v - 1) * b.toNat) := by
  rw [show (b % 18446744073709551616).toNat = b.toNat by congr 1; omega, Nat.min_eq_left (show b.toNat ≤ IntKind.u64.bits by show b.toNat ≤ 64; omega)]
  have e1 : (((v : Int) - 1) * b).toNat = (v - 1) * b.toNat := by
    have : ((v : Int) - 1) * b = (((v - 1) * b.toNat : Nat) : Int) := by rw [Int.natCast_mul]; congr 1 <;> omega
    rw [this, Int.toNat_natCast]
  have e2 : digW x ((v : Int) - 1) b = x / 2 ^ ((v - 1) * b.toNat) % 2 ^ b.toNat := by
    unfold digW
    rw [if_pos (by omega), e1]
  have hp : (0 : Int) < 2 ^ ((v - 1) * b.toNat) := Int.pow_pos (by decide)
  have hq : (0 : Int) < 2 ^ b.toNat := Int.pow_pos (by decide)
  have e3 : x / 2 ^ (v * b.toNat) = x / 2 ^ ((v - 1) * b.toNat) / 2 ^ b.toNat := by
    rw [Int.ediv_ediv_of_nonneg (by omega), ← Int.pow_add]
    congr 2
    rw [Nat.sub_mul, Nat.one_mul]
    have : b.toNat ≤ v * b.toNat := Nat.le_mul_of_pos_left _ (by omega)
    omega
  have e4 := Int.ediv_nonneg hx.1 (Int.le_of_lt hp)
  have e5 : x / 2 ^ ((v - 1) * b.toNat) ≤ x := Int.ediv_le_self _ hx.1
  rw [e2, e3]
  generalize x / 2 ^ ((v - 1) * b.toNat) = q at *
  generalize (2 : Int) ^ b.toNat = m at *
  have e6 := Int.ediv_mul_add_emod q m
  have e7 := Int.emod_nonneg q (show m ≠ 0 by omega)
  have e8 : 0 ≤ q / m * m := Int.mul_nonneg (Int.ediv_nonneg e4 (by omega)) (by omega)
  have := hx.2
  omega
end Go.Pl
