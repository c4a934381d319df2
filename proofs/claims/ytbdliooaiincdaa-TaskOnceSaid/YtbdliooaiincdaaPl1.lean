/-
  Plain lists: what is pushed at one end, popped there, and stolen at the other, is each number once.
-/
namespace Go.Pl
def OnceI (l g : List Int) (n : Nat) (f : Int) : Prop :=
  l.Pairwise (· < ·) ∧ (∀ x, x ∈ l → f ≤ x) ∧ (l ++ g).Perm ((List.range n).map Int.ofNat) ∧ f ≤ n ∧ 0 ≤ f
theorem once_start : OnceI [] [] 0 0 := ⟨by simp, by simp, by simp, by simp, by simp⟩
theorem once_mem {l g : List Int} {n : Nat} {f : Int} (h : OnceI l g n f) {x : Int} (hx : x ∈ l ++ g) : 0 ≤ x ∧ x < n := by
  have := h.2.2.1.mem_iff.1 hx
  simp only [List.mem_map, List.mem_range] at this
  obtain ⟨k, hk, rfl⟩ := this
  simp only [Int.ofNat_eq_natCast]; omega
theorem once_len {l g : List Int} {n : Nat} {f : Int} (h : OnceI l g n f) : l.length + g.length = n := by
  have := h.2.2.1.length_eq; simpa using this
theorem once_nodup {l g : List Int} {n : Nat} {f : Int} (h : OnceI l g n f) : (l ++ g).Nodup :=
  h.2.2.1.nodup_iff.2 (List.Pairwise.map _ (fun a b hab => by simp only [Int.ofNat_eq_natCast]; omega) List.nodup_range)
theorem once_push {l g : List Int} {n : Nat} {f : Int} (h : OnceI l g n f) : OnceI (l ++ [(n : Int)]) g (n + 1) f := by
  refine ⟨List.pairwise_append.2 ⟨h.1, by simp, fun a ha b hb => ?_⟩, fun x hx => ?_, ?_, by have := h.2.2.2.1; omega, h.2.2.2.2⟩
  · simp only [List.mem_singleton] at hb; subst hb
    exact (once_mem h (List.mem_append_left _ ha)).2
  · rcases List.mem_append.1 hx with hx | hx
    · exact h.2.1 x hx
    · simp only [List.mem_singleton] at hx; subst hx; exact h.2.2.2.1
  · rw [List.range_succ, List.map_append, List.append_assoc]
    refine (List.perm_append_comm_assoc l [(n : Int)] g).trans ?_
    refine (List.Perm.append_left _ h.2.2.1).trans ?_
    exact List.perm_append_comm
theorem last_split (l : List Int) (h : l ≠ []) : l = l.dropLast ++ [l.getD (l.length - 1) 0] := by
  have := List.dropLast_concat_getLast h
  rw [List.getLast_eq_getElem] at this
  have e : l.getD (l.length - 1) 0 = l[l.length - 1]'(by have := List.length_pos_iff.2 h; omega) := by
    rw [List.getD_eq_getElem?_getD, List.getElem?_eq_getElem]; rfl
  rw [e]; exact this.symm
theorem once_pop {l g : List Int} {n : Nat} {f : Int} (h : OnceI l g n f) (hl : l.length ≠ 0) : OnceI l.dropLast (g ++ [l.getD (l.length - 1) 0]) n f := by
  have hne : l ≠ [] := fun e => hl (by simp [e])
  have hs := last_split l hne
  refine ⟨h.1.sublist (List.dropLast_sublist l), fun x hx => h.2.1 x ((List.dropLast_sublist l).subset hx), ?_, h.2.2.2.1, h.2.2.2.2⟩
  have := h.2.2.1
  rw [hs, List.append_assoc] at this
  refine List.Perm.trans (List.Perm.append_left _ ?_) this
  exact List.perm_append_comm
theorem once_steal {l g : List Int} {n : Nat} {f : Int} (h : OnceI l g n f) (hl : l.length ≠ 0) : OnceI (l.drop 1) (g ++ [l.getD 0 0]) n (l.getD 0 0) ∧ f ≤ l.getD 0 0 := by
  cases l with
  | nil => simp at hl
  | cons a r =>
    have hp := List.pairwise_cons.1 h.1
    have ha : f ≤ a := h.2.1 a (by simp)
    have hm := once_mem h (x := a) (by simp)
    simp only [List.getD_cons_zero]
    refine ⟨⟨hp.2, fun x hx => by have := hp.1 x (by simpa using hx); omega, ?_, by omega, by omega⟩, ha⟩
    have := h.2.2.1
    refine List.Perm.trans ?_ this
    simp only [List.drop_one, List.tail_cons, List.cons_append]
    rw [← List.append_assoc]
    exact List.perm_append_comm
/-- which of the numbers are among some -/
def metL (n : Nat) (a : List Int) : List Bool := (List.range n).map fun (j : Nat) => decide ((j : Int) ∈ a)
theorem metL_len (n : Nat) (a : List Int) : (metL n a).length = n := by simp [metL]
theorem metL_nil (n : Nat) : metL n [] = List.replicate n false := by
  apply List.ext_getElem <;> simp [metL]
theorem metL_get {n : Nat} {a : List Int} {x : Int} (h0 : 0 ≤ x) (hn : x < n) (h : x ∉ a) : (metL n a).getD x.toNat false = false := by
  obtain ⟨k, rfl⟩ : ∃ k : Nat, x = k := ⟨x.toNat, by omega⟩
  have hk : k < n := by omega
  rw [Int.toNat_natCast, List.getD_eq_getElem?_getD]
  simp [metL, hk, h]
theorem metL_set {n : Nat} {a : List Int} {i : Nat} (hi : i < a.length) (h0 : 0 ≤ a.getD i 0) : (metL n (a.take i)).set (a.getD i 0).toNat true = metL n (a.take (i + 1)) := by
  have e : a.take (i + 1) = a.take i ++ [a.getD i 0] := by
    rw [List.take_add_one, List.getD_eq_getElem?_getD, List.getElem?_eq_getElem hi]; rfl
  rw [e]
  obtain ⟨k, hk⟩ : ∃ k : Nat, a.getD i 0 = k := ⟨(a.getD i 0).toNat, by omega⟩
  rw [hk, Int.toNat_natCast]
  apply List.ext_getElem
  · simp [metL]
  · intro j h1 h2
    simp only [metL, List.getElem_set, List.getElem_map, List.getElem_range, List.mem_append, List.mem_singleton]
    by_cases hj : k = j
    · subst hj; simp
    · have : ¬ ((j : Int) = (k : Int)) := by omega
      simp [hj, this]
theorem not_before {a : List Int} (h : a.Nodup) {i : Nat} (hi : i < a.length) : a.getD i 0 ∉ a.take i := by
  intro hm
  have e : a.getD i 0 = a[i] := by rw [List.getD_eq_getElem?_getD, List.getElem?_eq_getElem hi]; rfl
  rw [e] at hm
  obtain ⟨j, hj, he⟩ := List.getElem_of_mem hm
  simp only [List.length_take] at hj
  rw [List.getElem_take] at he
  have := List.pairwise_iff_getElem.1 h j i (by omega) hi (by omega)
  exact this he
end Go.Pl
