/-
  Plain data: by their keys, digit by digit.
-/
import Derived.Test.YtbehekmnccoifaaP8
set_option linter.unusedSimpArgs false
set_option linter.unusedVariables false
namespace Go.Pl
/-- those of a value, then those of the next one: each as it stood -/
def bucket (B : Nat) (d : Int → Int) (l : List Int) : List Int := (List.range B).flatMap fun (v : Nat) => l.filter fun x => decide (d x = v)
def lowB (d : Int → Int) (l : List Int) (v : Nat) : List Int := (List.range v).flatMap fun (u : Nat) => l.filter fun x => decide (d x = u)
theorem bucket_low (B : Nat) (d : Int → Int) (l : List Int) : bucket B d l = lowB d l B := rfl
theorem fm_congr {α β : Type} {l : List α} {f g : α → List β} (h : ∀ v, v ∈ l → f v = g v) : l.flatMap f = l.flatMap g := by
  rw [List.flatMap_def, List.flatMap_def, List.map_congr_left h]
theorem nodup_inj {l : List Int} (h : l.Nodup) {i j : Nat} (hi : i < l.length) (hj : j < l.length) (e : l[i] = l[j]) : i = j := by
  have hp := List.pairwise_iff_getElem.1 h
  rcases Nat.lt_trichotomy i j with c | c | c
  · exact absurd e (hp i j hi hj c)
  · exact c
  · exact absurd e.symm (hp j i hj hi c)
theorem lowB_succ (d : Int → Int) (l : List Int) (v : Nat) : lowB d l (v + 1) = lowB d l v ++ l.filter fun x => decide (d x = v) := by
  unfold lowB; rw [List.range_succ, List.flatMap_append]; simp
theorem lowB_mem {d : Int → Int} {l : List Int} {v : Nat} {x : Int} : x ∈ lowB d l v ↔ x ∈ l ∧ 0 ≤ d x ∧ d x < v := by
  unfold lowB
  simp only [List.mem_flatMap, List.mem_range, List.mem_filter, decide_eq_true_eq]
  constructor
  · rintro ⟨u, h1, h2, h3⟩; exact ⟨h2, by omega, by omega⟩
  · rintro ⟨h1, h2, h3⟩; exact ⟨(d x).toNat, by omega, h1, by omega⟩
theorem lowB_split (B : Nat) (d : Int → Int) (l : List Int) {v : Nat} (h : v ≤ B) : ∃ r, bucket B d l = lowB d l v ++ r ∧ ∀ x, x ∈ r → (v : Int) ≤ d x := by
  obtain ⟨k, rfl⟩ : ∃ k, B = v + k := ⟨B - v, by omega⟩
  refine ⟨(List.range' v k).flatMap fun (u : Nat) => l.filter fun x => decide (d x = u), ?_, fun x hx => ?_⟩
  · unfold bucket lowB
    rw [List.range_eq_range', List.range_eq_range', ← List.flatMap_append]
    congr 1
    have := List.range'_append_1 (s := 0) (m := v) (n := k)
    rw [Nat.zero_add] at this
    exact this.symm
  · simp only [List.mem_flatMap, List.mem_range'_1, List.mem_filter, decide_eq_true_eq] at hx
    obtain ⟨u, h1, h2, h3⟩ := hx
    omega
/-- how many have less -/
def less (d : Int → Int) (l : List Int) (v : Nat) : Nat := (lowB d l v).length
def same (d : Int → Int) (l : List Int) (v : Int) : Nat := (l.filter fun x => decide (d x = v)).length
theorem less_zero (d : Int → Int) (l : List Int) : less d l 0 = 0 := rfl
theorem less_succ (d : Int → Int) (l : List Int) (v : Nat) : less d l (v + 1) = less d l v + same d l v := by
  unfold less same; rw [lowB_succ, List.length_append]
theorem same_le (d : Int → Int) (l : List Int) (v : Int) : same d l v ≤ l.length := List.length_filter_le _ _
theorem same_snoc (d : Int → Int) (l : List Int) (x v : Int) : same d (l ++ [x]) v = same d l v + if d x = v then 1 else 0 := by
  unfold same
  rw [List.filter_append, List.length_append]
  congr 1
  by_cases h : d x = v
  · rw [if_pos h, List.filter_cons_of_pos (by simpa using h)]; rfl
  · rw [if_neg h, List.filter_cons_of_neg (by simpa using h)]; rfl
theorem same_take (d : Int → Int) (l : List Int) (m : Nat) (h : m < l.length) (v : Int) : same d (l.take (m + 1)) v = same d (l.take m) v + if d (l.getD m 0) = v then 1 else 0 := by
  rw [take_snoc' l m h, same_snoc]
theorem same_mono (d : Int → Int) (l : List Int) (m : Nat) (v : Int) : same d (l.take m) v ≤ same d l v := by
  have : same d l v = same d (l.take m) v + same d (l.drop m) v := by
    unfold same; rw [← List.length_append, ← List.filter_append, List.take_append_drop]
  omega
theorem filter_at (p : Int → Bool) (l : List Int) (m : Nat) (h : m < l.length) (hp : p (l.getD m 0) = true) : (l.filter p)[((l.take m).filter p).length]? = some (l.getD m 0) := by
  have e : l = l.take m ++ l.getD m 0 :: l.drop (m + 1) := by
    rw [List.getD_eq_getElem?_getD, List.getElem?_eq_getElem h, Option.getD_some, ← List.drop_eq_getElem_cons h, List.take_append_drop]
  conv => lhs; rw [e]
  rw [List.filter_append, List.filter_cons_of_pos hp]
  have e2 : (l.take m ++ l.getD m 0 :: l.drop (m + 1)).take m = l.take m := by
    rw [← e]
  rw [List.getElem?_append_right (by rw [e2]; exact Nat.le_refl _), e2]; simp
/-- where the m-th one comes to stand -/
def posB (d : Int → Int) (l : List Int) (m : Nat) : Nat := less d l (d (l.getD m 0)).toNat + same d (l.take m) (d (l.getD m 0))
theorem posB_at {B : Nat} {d : Int → Int} {l : List Int} {m : Nat} (h : m < l.length) (hd : 0 ≤ d (l.getD m 0) ∧ d (l.getD m 0) < B) : (bucket B d l)[posB d l m]? = some (l.getD m 0) := by
  have e0 : ((d (l.getD m 0)).toNat : Int) = d (l.getD m 0) := by omega
  obtain ⟨r, hr, _⟩ := lowB_split B d l (v := (d (l.getD m 0)).toNat + 1) (by omega)
  have hf := filter_at (fun x => decide (d x = d (l.getD m 0))) l m h (by simp)
  have hlt := (List.getElem?_eq_some_iff.1 hf).1
  rw [hr, lowB_succ, e0, List.append_assoc, posB]
  unfold less same
  rw [List.getElem?_append_right (by omega), Nat.add_sub_cancel_left, List.getElem?_append_left hlt]
  exact hf
theorem bucket_perm {B : Nat} {d : Int → Int} {l : List Int} (hd : ∀ x, x ∈ l → 0 ≤ d x ∧ d x < B) (hn : l.Nodup) : (bucket B d l).Nodup ∧ ∀ x, x ∈ bucket B d l ↔ x ∈ l := by
  refine ⟨?_, fun x => ?_⟩
  · unfold bucket
    refine List.pairwise_flatMap.2 ⟨fun v _ => hn.filter _, ?_⟩
    refine List.Pairwise.imp (R := fun a b => a ≠ b) (fun {a b} hab => ?_) List.nodup_range
    intro x hx y hy
    simp only [List.mem_filter, decide_eq_true_eq] at hx hy
    intro e; subst e
    omega
  · rw [bucket_low, lowB_mem]
    exact ⟨fun h => h.1, fun h => ⟨h, (hd x h).1, (hd x h).2⟩⟩
/-- those that are the same stand as they stood -/
theorem bucket_rises {B : Nat} {d : Int → Int} {l : List Int} (hs : l.Pairwise (fun x y => x < y)) : (bucket B d l).Pairwise fun x y => d x < d y ∨ (d x = d y ∧ x < y) := by
  unfold bucket
  refine List.pairwise_flatMap.2 ⟨fun v _ => ?_, ?_⟩
  · refine List.Pairwise.imp_of_mem (R := fun x y => x < y) (fun {a b} ha hb hab => ?_) (hs.filter _)
    simp only [List.mem_filter, decide_eq_true_eq] at ha hb
    exact .inr ⟨by omega, hab⟩
  · refine List.Pairwise.imp (R := fun (a b : Nat) => a < b) (fun {a b} hab => ?_) List.pairwise_lt_range
    intro x hx y hy
    simp only [List.mem_filter, decide_eq_true_eq] at hx hy
    left; omega
/-- digit by digit -/
theorem bucket_two (B1 B2 : Nat) (d1 d2 : Int → Int) (l : List Int) (hd : ∀ x, x ∈ l → 0 ≤ d1 x ∧ d1 x < B1) :
    bucket (B2 * B1) (fun x => d2 x * B1 + d1 x) l = bucket B2 d2 (bucket B1 d1 l) := by
  unfold bucket
  induction B2 with
  | zero => simp
  | succ n ih =>
    rw [List.range_succ, List.flatMap_append, ← ih]
    have e : List.range ((n + 1) * B1) = List.range (n * B1) ++ (List.range B1).map (n * B1 + ·) := by
      rw [Nat.add_mul, Nat.one_mul, List.range_add]
    rw [e, List.flatMap_append]
    congr 1
    rw [List.flatMap_map, List.flatMap_cons, List.flatMap_nil, List.append_nil, List.filter_flatMap]
    refine fm_congr fun v hv => ?_
    rw [List.filter_filter]
    refine List.filter_congr fun x hx => ?_
    obtain ⟨h1, h2⟩ := hd x hx
    have hv' := List.mem_range.1 hv
    rw [Bool.eq_iff_iff]
    simp only [decide_eq_true_eq, Bool.and_eq_true]
    constructor
    · intro q
      have q2 : d2 x * B1 + d1 x = (n : Int) * B1 + v := by rw [q]; simp
      have hz : (d2 x - n) * (B1 : Int) = v - d1 x := by rw [Int.sub_mul]; omega
      have hd2 : d2 x = n := by
        rcases Int.lt_trichotomy (d2 x) n with c | c | c
        · have : (d2 x - n) * (B1 : Int) ≤ (-1) * B1 := Int.mul_le_mul_of_nonneg_right (by omega) (by omega)
          omega
        · exact c
        · have : 1 * (B1 : Int) ≤ (d2 x - n) * B1 := Int.mul_le_mul_of_nonneg_right (by omega) (by omega)
          omega
      refine ⟨hd2, ?_⟩
      rw [hd2] at q2; omega
    · rintro ⟨a, b⟩
      rw [a, b]; simp
theorem bucket_one {d : Int → Int} {l : List Int} (hd : ∀ x, x ∈ l → d x = 0) : bucket 1 d l = l := by
  unfold bucket
  rw [List.range_one, List.flatMap_singleton]
  exact List.filter_eq_self.2 fun x hx => by simpa using hd x hx
theorem bucket_congr {B : Nat} {d e : Int → Int} {l : List Int} (h : ∀ x, x ∈ l → d x = e x) : bucket B d l = bucket B e l := by
  unfold bucket
  refine fm_congr fun v _ => List.filter_congr fun x hx => by rw [h x hx]
theorem bucket_more {B C : Nat} (h : B ≤ C) {d : Int → Int} {l : List Int} (hd : ∀ x, x ∈ l → d x < B) : bucket C d l = bucket B d l := by
  obtain ⟨r, hr, hm⟩ := lowB_split C d l h
  have : r = [] := by
    refine List.eq_nil_iff_forall_not_mem.2 fun x hx => ?_
    have h1 := hm x hx
    have h2 : x ∈ bucket C d l := by rw [hr]; simp [hx]
    rw [bucket_low, lowB_mem] at h2
    have := hd x h2.1
    omega
  rw [hr, this, List.append_nil]; rfl
/-- what is put behind all that have no more -/
theorem bucket_ins {B : Nat} {d : Int → Int} {l : List Int} {x : Int} (hx : 0 ≤ d x ∧ d x < B) {k : Nat} (hk : k ≤ (bucket B d l).length)
    (h1 : ∀ j, k ≤ j → j < (bucket B d l).length → d x < d ((bucket B d l).getD j 0)) (h2 : k = 0 ∨ d ((bucket B d l).getD (k - 1) 0) ≤ d x) :
    (bucket B d l).take k ++ [x] ++ (bucket B d l).drop k = bucket B d (l ++ [x]) := by
  have e0 : ((d x).toNat : Int) = d x := by omega
  obtain ⟨r, hr, hm⟩ := lowB_split B d l (v := (d x).toNat + 1) (by omega)
  obtain ⟨r', hr', hm'⟩ := lowB_split B d (l ++ [x]) (v := (d x).toNat + 1) (by omega)
  have hA : ∀ y, y ∈ lowB d l ((d x).toNat + 1) → d y ≤ d x := fun y hy => by have := (lowB_mem.1 hy).2.2; omega
  have hlen : k = (lowB d l ((d x).toNat + 1)).length := by
    rcases Nat.lt_trichotomy k (lowB d l ((d x).toNat + 1)).length with c | c | c
    · have hkl : k < (bucket B d l).length := by rw [hr, List.length_append]; omega
      have a := h1 k (Nat.le_refl _) hkl
      have b : (bucket B d l).getD k 0 = (lowB d l ((d x).toNat + 1)).getD k 0 := by
        rw [hr, List.getD_eq_getElem?_getD, List.getElem?_append_left c, ← List.getD_eq_getElem?_getD]
      rw [b] at a
      have := hA _ (getD_mem _ k 0 c)
      omega
    · exact c
    · rcases h2 with q | q
      · omega
      · have hkl : k - 1 < (bucket B d l).length := by omega
        have b : (bucket B d l).getD (k - 1) 0 = r.getD (k - 1 - (lowB d l ((d x).toNat + 1)).length) 0 := by
          rw [hr, List.getD_eq_getElem?_getD, List.getElem?_append_right (by omega), ← List.getD_eq_getElem?_getD]
        rw [b] at q
        have := hm _ (getD_mem r (k - 1 - (lowB d l ((d x).toNat + 1)).length) 0 (by rw [hr, List.length_append] at hk; omega))
        omega
  have e1 : lowB d (l ++ [x]) ((d x).toNat + 1) = lowB d l ((d x).toNat + 1) ++ [x] := by
    rw [lowB_succ, lowB_succ, e0, List.filter_append, List.filter_cons_of_pos (by simp), List.filter_nil, ← List.append_assoc]
    congr 2
    unfold lowB
    refine fm_congr fun v hv => ?_
    rw [List.filter_append, List.filter_cons_of_neg (by have := List.mem_range.1 hv; simp; omega)]; simp
  have e2 : r' = r := by
    have g : ∀ (l : List Int) (s : List Int), bucket B d l = lowB d l ((d x).toNat + 1) ++ s → s = (List.range' ((d x).toNat + 1) (B - ((d x).toNat + 1))).flatMap fun (u : Nat) => l.filter fun y => decide (d y = u) := fun l s hs => by
      have hh : bucket B d l = lowB d l ((d x).toNat + 1) ++ (List.range' ((d x).toNat + 1) (B - ((d x).toNat + 1))).flatMap fun (u : Nat) => l.filter fun y => decide (d y = u) := by
        unfold bucket lowB
        rw [List.range_eq_range', List.range_eq_range', ← List.flatMap_append]
        congr 1
        have := List.range'_append_1 (s := 0) (m := (d x).toNat + 1) (n := B - ((d x).toNat + 1))
        rw [Nat.zero_add] at this
        rw [this]; congr 1; omega
      exact List.append_cancel_left (hs.symm.trans hh)
    rw [g _ _ hr, g _ _ hr']
    refine fm_congr fun v hv => ?_
    rw [List.filter_append, List.filter_cons_of_neg (by have := (List.mem_range'_1.1 hv).1; simp; omega)]; simp
  rw [hr', e1, e2, hlen, hr]
  simp
/-- places that were filled so far -/
def posL (d : Int → Int) (l : List Int) (m : Nat) : List Int := (List.range m).map fun (j : Nat) => (posB d l j : Int)
theorem posL_succ (d : Int → Int) (l : List Int) (m : Nat) : posL d l (m + 1) = posL d l m ++ [(posB d l m : Int)] := by
  unfold posL; rw [List.range_succ, List.map_append]; rfl
theorem filled {B : Nat} {d : Int → Int} {l : List Int} (hd : ∀ x, x ∈ l → 0 ≤ d x ∧ d x < B) (hn : l.Nodup) :
    fillL l.length (posL d l l.length) (fun j => (bucket B d l).getD j 0) = bucket B d l := by
  obtain ⟨b1, b2⟩ := bucket_perm hd hn
  have hlen : (bucket B d l).length = l.length := ((List.perm_ext_iff_of_nodup b1 hn).2 b2).length_eq
  rw [fillL_all]
  · apply List.ext_getElem?
    intro j
    rw [List.getElem?_map]
    by_cases h : j < l.length
    · rw [List.getElem?_range h, Option.map_some, List.getD_eq_getElem?_getD, List.getElem?_eq_getElem (by omega)]; rfl
    · rw [List.getElem?_eq_none (by simp; omega), List.getElem?_eq_none (by omega)]; rfl
  · intro j hj
    have hx : (bucket B d l)[j]'(by omega) ∈ l := (b2 _).1 (List.getElem_mem _)
    obtain ⟨m, hm, e⟩ := List.getElem_of_mem hx
    have hg : l.getD m 0 = (bucket B d l)[j]'(by omega) := by rw [List.getD_eq_getElem?_getD, List.getElem?_eq_getElem hm]; exact e
    have hp := posB_at (B := B) (d := d) hm (hd _ (getD_mem l m 0 hm))
    obtain ⟨hlt, hq⟩ := List.getElem?_eq_some_iff.1 hp
    have : posB d l m = j := by
      exact nodup_inj b1 hlt (by omega) (by rw [hq, hg])
    unfold posL
    refine List.mem_map.2 ⟨m, List.mem_range.2 hm, by rw [this]⟩
end Go.Pl
