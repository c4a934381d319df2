/-
  Plain data: what is kept, and where.
-/
import Derived.Test.YtbehekmnccoifaaPE
set_option linter.unusedSimpArgs false
set_option linter.unusedVariables false
namespace Go.Pl
/-- what is marked -/
def marksL (fl : List Bool) (w : Bool) : List Int := tabL fl.length fun j => if fl.getD j false = w then 0 else 1
def marksT (fl : List Bool) (w : Bool) (i : Nat) : List Int := tabL fl.length fun j => if j < i then (if fl.getD j false = w then 0 else 1) else 0
theorem marks_0 (fl : List Bool) (w : Bool) : marksT fl w 0 = List.replicate fl.length 0 := by
  rw [← tabL_0]; exact tabL_congr fun j _ => by simp
theorem marks_set {fl : List Bool} {w : Bool} {i : Nat} (h : fl.getD i false ≠ w) : (marksT fl w i).set i 1 = marksT fl w (i + 1) :=
  tabL_set (by rw [if_pos (by omega), if_neg h]) fun j _ hne => by
    by_cases c : j < i
    · rw [if_pos c, if_pos (show j < i + 1 by omega)]
    · rw [if_neg c, if_neg (show ¬ j < i + 1 by omega)]
theorem marks_keep {fl : List Bool} {w : Bool} {i : Nat} (h : fl.getD i false = w) : marksT fl w i = marksT fl w (i + 1) :=
  tabL_congr fun j _ => by
    by_cases c : j < i
    · rw [if_pos c, if_pos (show j < i + 1 by omega)]
    · by_cases e : j = i
      · subst e; rw [if_neg c, if_pos (show j < j + 1 by omega), if_pos h]
      · rw [if_neg c, if_neg (show ¬ j < i + 1 by omega)]
theorem marks_end (fl : List Bool) (w : Bool) : marksT fl w fl.length = marksL fl w := tabL_congr fun j hj => by rw [if_pos hj]
theorem marksL_len (fl : List Bool) (w : Bool) : (marksL fl w).length = fl.length := tabL_len _ _
theorem marksL_get {fl : List Bool} {w : Bool} {i : Nat} (h : i < fl.length) : (marksL fl w).getD i 0 = if fl.getD i false = w then 0 else 1 := tabL_get h
/-- the places of ones -/
def onesP (m : List Int) (x : Int) : Bool := decide (m.getD x.toNat 0 = 1)
def onesL (m : List Int) : List Int := (upto 0 m.length).filter (onesP m)
def onesN (m : List Int) (i : Nat) : Nat := ((upto 0 (i : Int)).filter (onesP m)).length
def bits (m : List Int) : Prop := ∀ x, x ∈ m → x = 0 ∨ x = 1
theorem bits_w {m : List Int} (h : bits m) : ∀ x, x ∈ m → W32 x := fun x hx => by rcases h x hx with q | q <;> subst q <;> decide
theorem marks_bits (fl : List Bool) (w : Bool) : bits (marksL fl w) := fun x hx => by
  unfold marksL tabL at hx
  obtain ⟨j, _, rfl⟩ := List.mem_map.1 hx
  split <;> simp
theorem onesN_s {m : List Int} {i : Nat} : onesN m (i + 1) = onesN m i + if m.getD i 0 = 1 then 1 else 0 := by
  unfold onesN
  rw [← upto_snoc', List.filter_append, List.length_append]
  congr 1
  by_cases h : m.getD i 0 = 1
  · rw [if_pos h, List.filter_cons_of_pos (by unfold onesP; simpa using h)]; rfl
  · rw [if_neg h, List.filter_cons_of_neg (by unfold onesP; simpa using h)]; rfl
theorem onesN_le (m : List Int) : ∀ i, onesN m i ≤ i
  | 0 => by unfold onesN; rw [upto_nil (by simp)]; exact Nat.le_refl _
  | i + 1 => by rw [onesN_s]; have := onesN_le m i; split <;> omega
theorem all_ones {m : List Int} (h : bits m) (hn : m.length ≤ 1000000) : ∀ i, i ≤ m.length → allF add32 (m.take i) = onesN m i
  | 0, _ => by unfold onesN; rw [List.take_zero, upto_nil (by simp)]; rfl
  | i + 1, hi => by
    rw [allF_take add32 m i (by omega), all_ones h hn i (by omega), onesN_s]
    have h1 := onesN_le m i
    have h2 := h _ (getD_mem m i 0 (by omega))
    unfold add32
    rcases h2 with q | q
    · rw [q, if_neg (by decide)]; omega
    · rw [q, if_pos rfl]; omega
theorem onesL_len (m : List Int) : (onesL m).length = onesN m m.length := rfl
theorem upto_get {n u : Nat} (h : u < n) : (upto 0 (n : Int)).getD u 0 = u := by
  unfold upto
  rw [List.getD_eq_getElem?_getD, List.getElem?_map, List.getElem?_range (by omega)]
  simp
theorem upto_take {n u : Nat} (h : u ≤ n) : (upto 0 (n : Int)).take u = upto 0 (u : Int) := by
  unfold upto
  rw [← List.map_take, List.take_range]
  congr 2; omega
theorem onesL_at {m : List Int} {u : Nat} (h : u < m.length) (h1 : m.getD u 0 = 1) : (onesL m).getD (onesN m u) 0 = u ∧ onesN m u < (onesL m).length := by
  have hl : (upto 0 (m.length : Int)).length = m.length := by rw [upto_len]; omega
  have q := filter_at (onesP m) (upto 0 m.length) u (by omega) (by rw [upto_get h]; unfold onesP; simpa using h1)
  rw [upto_take (by omega), upto_get h] at q
  obtain ⟨hlt, _⟩ := List.getElem?_eq_some_iff.1 q
  exact ⟨by unfold onesL onesN; rw [List.getD_eq_getElem?_getD, q]; rfl, hlt⟩
/-- places that were filled -/
def onesS (m U : List Int) : List Int := (U.filter (onesP m)).map fun u => (onesN m u.toNat : Int)
theorem onesS_yes {m U : List Int} {z : Nat} (hz : z < U.length) (h : m.getD (U.getD z 0).toNat 0 = 1) : onesS m (U.take (z + 1)) = onesS m (U.take z) ++ [(onesN m (U.getD z 0).toNat : Int)] := by
  unfold onesS
  rw [take_snoc' U z hz, List.filter_append, List.filter_cons_of_pos (by unfold onesP; simpa using h), List.map_append]; rfl
theorem onesS_no {m U : List Int} {z : Nat} (hz : z < U.length) (h : ¬ m.getD (U.getD z 0).toNat 0 = 1) : onesS m (U.take (z + 1)) = onesS m (U.take z) := by
  unfold onesS
  rw [take_snoc' U z hz, List.filter_append, List.filter_cons_of_neg (by unfold onesP; simpa using h), List.filter_nil, List.append_nil]
theorem ones_fill {m U : List Int} (hU : ∀ u, u ∈ U ↔ (0 ≤ u ∧ u < m.length)) : fillL (onesL m).length (onesS m U) (fun j => (onesL m).getD j 0) = onesL m := by
  rw [fillL_all, range_getD]
  intro j hj
  have hx : (onesL m)[j] ∈ onesL m := List.getElem_mem _
  have hx2 := List.mem_filter.1 hx
  have hr := mem_upto.1 hx2.1
  have h1 : m.getD ((onesL m)[j]).toNat 0 = 1 := by have := hx2.2; unfold onesP at this; simpa using this
  refine List.mem_map.2 ⟨(onesL m)[j], List.mem_filter.2 ⟨(hU _).2 ⟨hr.1, hr.2⟩, hx2.2⟩, ?_⟩
  have q := onesL_at (u := ((onesL m)[j]).toNat) (by omega) h1
  have hd : (onesL m).Nodup := (nodup_upto _ _).filter _
  have e : (onesL m)[onesN m ((onesL m)[j]).toNat]'q.2 = (onesL m)[j] := by
    have := q.1
    rw [List.getD_eq_getElem?_getD, List.getElem?_eq_getElem q.2] at this
    simp only [Option.getD_some] at this
    omega
  have := nodup_inj hd q.2 hj e
  omega
def whL (fl : List Bool) (w : Bool) (bl : Int) (p : Plan) : List Int := if scE fl.length bl p = 0 then onesL (marksL fl w) else []
def whS (n : Nat) (bl : Int) (p : Plan) : Int := if scE n bl p = 0 then scS n bl p + ordS n p else 0
theorem wh_mem {fl : List Bool} {w : Bool} {bl : Int} {p : Plan} : ∀ x, x ∈ whL fl w bl p → 0 ≤ x ∧ x < fl.length := fun x hx => by
  unfold whL at hx
  split at hx
  · have := mem_upto.1 (List.mem_filter.1 hx).1
    rw [marksL_len] at this; exact this
  · cases hx
theorem wh_len (fl : List Bool) (w : Bool) (bl : Int) (p : Plan) : (whL fl w bl p).length ≤ fl.length := by
  unfold whL
  split
  · rw [onesL_len]; have := onesN_le (marksL fl w) (marksL fl w).length; rw [marksL_len] at this ⊢; exact this
  · exact Nat.zero_le _
def paE (l : List Int) (fl : List Bool) (bl : Int) (p : Plan) : Int := if l.length = fl.length then scE fl.length bl p else 1
def paL (l : List Int) (fl : List Bool) (w : Bool) (bl : Int) (p : Plan) : List Int := if l.length = fl.length then sortedL l (whL fl w bl p) else []
def paS (l : List Int) (fl : List Bool) (bl : Int) (p : Plan) : Int := if l.length = fl.length then whS fl.length bl p else 0
theorem whS_nn (n : Nat) (bl : Int) (p : Plan) : 0 ≤ whS n bl p ∧ whS n bl p ≤ 60000 := by
  unfold whS
  split
  · rename_i h
    obtain ⟨a, b, c⟩ := sc_iff.1 h
    have h1 := scS_nn n bl p
    have h2 := ord_steps (n := n) (p := p) ⟨by omega, by omega, c.2.2⟩
    omega
  · omega
def ptL (l : List Int) (fl : List Bool) (bl : Int) (p : Plan) : List Int := if paE l fl bl p = 0 then paL l fl false bl p ++ sortedL l (whL fl true bl p) else []
def ptN (l : List Int) (fl : List Bool) (bl : Int) (p : Plan) : Int := if paE l fl bl p = 0 then (paL l fl false bl p).length else 0
def ptS (l : List Int) (fl : List Bool) (bl : Int) (p : Plan) : Int := if paE l fl bl p = 0 then paS l fl bl p + whS fl.length bl p else 0
theorem pa_ok {l : List Int} {fl : List Bool} {bl : Int} {p : Plan} (h : paE l fl bl p = 0) : l.length = fl.length ∧ scE fl.length bl p = 0 := by
  unfold paE at h
  split at h
  · rename_i q; exact ⟨q, h⟩
  · exact absurd h (by decide)
theorem paL_len (l : List Int) (fl : List Bool) (w : Bool) (bl : Int) (p : Plan) : (paL l fl w bl p).length ≤ fl.length := by
  unfold paL
  split
  · rw [sortedL_len]; exact wh_len _ _ _ _
  · exact Nat.zero_le _
/-- spread -/
def cntB (fl : List Bool) (i : Nat) : Nat := (fl.take i).count true
def sprL (l : List Int) (fl : List Bool) (x : Int) (i : Nat) : List Int := tabL i fun j => if fl.getD j false = true then l.getD (cntB fl j) 0 else x
theorem cntB_s {fl : List Bool} {i : Nat} (h : i < fl.length) : cntB fl (i + 1) = cntB fl i + if fl.getD i false = true then 1 else 0 := by
  unfold cntB
  rw [List.take_add_one, List.count_append, List.getD_eq_getElem?_getD, List.getElem?_eq_getElem h]
  cases fl[i] <;> simp
theorem cntB_up (fl : List Bool) (i : Nat) : cntB fl i ≤ fl.count true := (List.take_sublist i fl).count_le true
theorem cntB_end (fl : List Bool) : cntB fl fl.length = fl.count true := by unfold cntB; rw [List.take_of_length_le (Nat.le_refl _)]
theorem sprL_len (l : List Int) (fl : List Bool) (x : Int) (i : Nat) : (sprL l fl x i).length = i := tabL_len _ _
theorem sprL_s {l : List Int} {fl : List Bool} {x y : Int} {i : Nat} (h : y = if fl.getD i false = true then l.getD (cntB fl i) 0 else x) : sprL l fl x (i + 1) = sprL l fl x i ++ [y] := by
  subst h; unfold sprL tabL; rw [List.range_succ, List.map_append]; rfl
def spOk (l : List Int) (fl : List Bool) : Prop := fl.count true = l.length
instance (l : List Int) (fl : List Bool) : Decidable (spOk l fl) := by unfold spOk; infer_instance
def spL (l : List Int) (fl : List Bool) (x : Int) : List Int := if spOk l fl then sprL l fl x fl.length else []
end Go.Pl
