/-
  Plain data: what is packed comes back.
-/
import Derived.Test.YtbehekmnccoifaaPG
set_option linter.unusedSimpArgs false
set_option linter.unusedVariables false
namespace Go.Pl
theorem onesN_at {m : List Int} {j : Nat} (hj : j < (onesL m).length) : onesN m ((onesL m).getD j 0).toNat = j ∧ m.getD ((onesL m).getD j 0).toNat 0 = 1 ∧ 0 ≤ (onesL m).getD j 0 ∧ (onesL m).getD j 0 < m.length := by
  have hx : (onesL m).getD j 0 ∈ onesL m := getD_mem _ _ _ hj
  have hx2 := List.mem_filter.1 hx
  have hr := mem_upto.1 hx2.1
  have h1 : m.getD ((onesL m).getD j 0).toNat 0 = 1 := by have := hx2.2; unfold onesP at this; simpa using this
  have q := onesL_at (u := ((onesL m).getD j 0).toNat) (by omega) h1
  have hd : (onesL m).Nodup := (nodup_upto _ _).filter _
  refine ⟨?_, h1, hr.1, hr.2⟩
  have e : (onesL m)[onesN m ((onesL m).getD j 0).toNat]'q.2 = (onesL m)[j] := by
    have q1 := q.1
    rw [List.getD_eq_getElem?_getD, List.getElem?_eq_getElem q.2] at q1
    simp only [Option.getD_some] at q1
    rw [q1]
    rw [List.getD_eq_getElem?_getD, List.getElem?_eq_getElem hj] at hr ⊢
    simp only [Option.getD_some] at hr ⊢
    omega
  exact nodup_inj hd q.2 hj e
theorem cntB_ones {fl : List Bool} : ∀ i, i ≤ fl.length → onesN (marksL fl false) i = cntB fl i
  | 0, _ => by unfold onesN cntB; rw [upto_nil (by simp)]; rfl
  | i + 1, h => by
    rw [onesN_s, cntB_ones i (by omega), cntB_s (by omega), marksL_get (by omega)]
    congr 1
    cases fl.getD i false <;> simp
theorem ones_len (fl : List Bool) : (onesL (marksL fl false)).length = fl.count true := by
  rw [onesL_len, marksL_len, cntB_ones _ (Nat.le_refl _), cntB_end]
theorem sortedL_get {l o : List Int} {j : Nat} (h : j < o.length) : (sortedL l o).getD j 0 = l.getD (o.getD j 0).toNat 0 := by
  unfold sortedL
  rw [List.getD_eq_getElem?_getD, List.getElem?_map, List.getElem?_eq_getElem h, List.getD_eq_getElem?_getD (l := o), List.getElem?_eq_getElem h]; rfl
theorem sprL_get {l : List Int} {fl : List Bool} {x : Int} {n i : Nat} (h : i < n) : (sprL l fl x n).getD i 0 = if fl.getD i false = true then l.getD (cntB fl i) 0 else x := tabL_get h
theorem scE_ok {n : Nat} {bl : Int} {p : Plan} (h1 : 1 ≤ bl ∧ bl ≤ 100) (hn : n ≤ 1000) (hp : planRight p) : scE n bl p = 0 := by
  have hbk := blk_up (b := bl) (show (0 : Int) ≤ n by omega) (Int.le_refl _) (by omega)
  exact sc_iff.2 ⟨h1, hn, by omega, by omega, hp⟩
theorem list_ext {a b : List Int} (hl : a.length = b.length) (h : ∀ j, j < a.length → a.getD j 0 = b.getD j 0) : a = b := by
  apply List.ext_getElem hl
  intro j h1 h2
  have := h j h1
  rwa [List.getD_eq_getElem?_getD, List.getElem?_eq_getElem h1, List.getD_eq_getElem?_getD, List.getElem?_eq_getElem h2] at this
theorem pack_spread {l : List Int} {fl : List Bool} {x bl : Int} {p : Plan} (h : spOk l fl) (h1 : 1 ≤ bl ∧ bl ≤ 100) (hn : fl.length ≤ 1000) (hp : planRight p) :
    paL (spL l fl x) fl false bl p = l ∧ paE (spL l fl x) fl bl p = 0 := by
  have e1 : spL l fl x = sprL l fl x fl.length := if_pos h
  have e2 : (spL l fl x).length = fl.length := by rw [e1, sprL_len]
  have e3 := scE_ok (p := p) h1 hn hp
  refine ⟨?_, (if_pos e2).trans e3⟩
  rw [show paL (spL l fl x) fl false bl p = sortedL (spL l fl x) (whL fl false bl p) from if_pos e2, show whL fl false bl p = onesL (marksL fl false) from if_pos e3, e1]
  have hlen : (onesL (marksL fl false)).length = l.length := (ones_len fl).trans h
  refine list_ext (by rw [sortedL_len, hlen]) fun j hj => ?_
  rw [sortedL_len] at hj
  rw [sortedL_get hj]
  obtain ⟨a, b, c, d⟩ := onesN_at hj
  rw [marksL_len] at d
  have hf : fl.getD ((onesL (marksL fl false)).getD j 0).toNat false = true := by
    rw [marksL_get (by omega)] at b
    cases hq : fl.getD ((onesL (marksL fl false)).getD j 0).toNat false
    · rw [hq] at b; simp at b
    · rfl
  rw [sprL_get (by omega), if_pos hf, ← cntB_ones _ (by omega), a]
theorem spread_pack {l : List Int} {fl : List Bool} {x bl : Int} {p : Plan} (hl : l.length = fl.length) (h1 : 1 ≤ bl ∧ bl ≤ 100) (hn : fl.length ≤ 1000) (hp : planRight p) :
    paE l fl bl p = 0 ∧ spOk (paL l fl false bl p) fl ∧ (spL (paL l fl false bl p) fl x).length = fl.length ∧ ∀ i, i < fl.length → (spL (paL l fl false bl p) fl x).getD i 0 = if fl.getD i false = true then l.getD i 0 else x := by
  have e3 := scE_ok (p := p) h1 hn hp
  have e4 : paL l fl false bl p = sortedL l (onesL (marksL fl false)) := by
    rw [show paL l fl false bl p = sortedL l (whL fl false bl p) from if_pos hl, show whL fl false bl p = onesL (marksL fl false) from if_pos e3]
  have hok : spOk (paL l fl false bl p) fl := by
    unfold spOk
    rw [e4, sortedL_len, ones_len]
  have e5 : spL (paL l fl false bl p) fl x = sprL (paL l fl false bl p) fl x fl.length := if_pos hok
  refine ⟨(if_pos hl).trans e3, hok, by rw [e5, sprL_len], fun i hi => ?_⟩
  rw [e5, sprL_get hi]
  by_cases c : fl.getD i false = true
  · rw [if_pos c, if_pos c, e4, ← cntB_ones _ (by omega)]
    have q := onesL_at (m := marksL fl false) (u := i) (by rw [marksL_len]; exact hi) (by rw [marksL_get hi, if_neg (by rw [c]; decide)])
    rw [sortedL_get q.2, q.1, Int.toNat_natCast]
  · rw [if_neg c, if_neg c]
theorem sortedL_w {l : List Int} (hl : ∀ x, x ∈ l → W32 x) (o : List Int) : ∀ x, x ∈ sortedL l o → W32 x := fun x hx => by
  unfold sortedL at hx
  obtain ⟨j, _, rfl⟩ := List.mem_map.1 hx
  exact getD_w hl _
theorem paL_w {l : List Int} (hl : ∀ x, x ∈ l → W32 x) (fl : List Bool) (w : Bool) (bl : Int) (p : Plan) : ∀ x, x ∈ paL l fl w bl p → W32 x := fun x hx => by
  unfold paL at hx
  split at hx
  · exact sortedL_w hl _ x hx
  · cases hx
theorem spL_len (l : List Int) (fl : List Bool) (x : Int) : (spL l fl x).length ≤ fl.length := by
  unfold spL
  split
  · rw [sprL_len]; exact Nat.le_refl _
  · exact Nat.zero_le _
def notL (fl : List Bool) (i : Nat) : List Bool := (fl.take i).map fun q => !q
theorem notL_s {fl : List Bool} {i : Nat} (h : i < fl.length) : notL fl (i + 1) = notL fl i ++ [!(fl.getD i false)] := by
  unfold notL
  rw [List.take_add_one, List.map_append, List.getD_eq_getElem?_getD, List.getElem?_eq_getElem h]; rfl
theorem notL_len (fl : List Bool) {i : Nat} (h : i ≤ fl.length) : (notL fl i).length = i := by unfold notL; rw [List.length_map, List.length_take]; omega
theorem cnt_not : ∀ fl : List Bool, fl.count true + (fl.map fun q => !q).count true = fl.length
  | [] => rfl
  | b :: fl => by
    have := cnt_not fl
    cases b <;> simp only [List.map_cons, List.count_cons, List.length_cons] <;> simp <;> omega
theorem marks_not (fl : List Bool) : marksL (notL fl fl.length) false = marksL fl true := by
  unfold marksL
  rw [notL_len fl (Nat.le_refl _)]
  refine tabL_congr fun j hj => ?_
  have e : (notL fl fl.length).getD j false = !(fl.getD j false) := by
    unfold notL
    rw [List.take_of_length_le (Nat.le_refl _), List.getD_eq_getElem?_getD, List.getElem?_map, List.getElem?_eq_getElem hj, List.getD_eq_getElem?_getD, List.getElem?_eq_getElem hj]; rfl
  rw [e]
  cases fl.getD j false <;> simp
theorem parts {l : List Int} {fl : List Bool} {bl : Int} {p : Plan} (hl : l.length = fl.length) (h1 : 1 ≤ bl ∧ bl ≤ 100) (hn : fl.length ≤ 1000) (hp : planRight p) :
    paE l fl bl p = 0 ∧ paE l (notL fl fl.length) bl p = 0 ∧ scE fl.length bl p = 0 ∧ ptL l fl bl p = paL l fl false bl p ++ paL l (notL fl fl.length) false bl p ∧
    ptN l fl bl p = (paL l fl false bl p).length ∧ (whL fl false bl p).length = (paL l fl false bl p).length ∧ (paL l fl false bl p).length + (paL l (notL fl fl.length) false bl p).length = l.length ∧
    ∀ i, i < (whL fl false bl p).length → (0 ≤ (whL fl false bl p).getD i 0 ∧ (whL fl false bl p).getD i 0 < fl.length) ∧ fl.getD ((whL fl false bl p).getD i 0).toNat false = true ∧ (paL l fl false bl p).getD i 0 = l.getD ((whL fl false bl p).getD i 0).toNat 0 ∧ (1 ≤ i → (whL fl false bl p).getD (i - 1) 0 < (whL fl false bl p).getD i 0) := by
  have e3 := scE_ok (p := p) h1 hn hp
  have hnl := notL_len fl (Nat.le_refl _)
  have e3' : scE (notL fl fl.length).length bl p = 0 := by rw [hnl]; exact e3
  have hl' : l.length = (notL fl fl.length).length := by rw [hnl]; exact hl
  have w1 : whL fl false bl p = onesL (marksL fl false) := if_pos e3
  have w2 : whL fl true bl p = onesL (marksL fl true) := if_pos e3
  have w3 : whL (notL fl fl.length) false bl p = onesL (marksL fl true) := by rw [← marks_not]; exact if_pos e3'
  have p1 : paL l fl false bl p = sortedL l (onesL (marksL fl false)) := by rw [← w1]; exact if_pos hl
  have p2 : paL l (notL fl fl.length) false bl p = sortedL l (onesL (marksL fl true)) := by rw [← w3]; exact if_pos hl'
  have pe : paE l fl bl p = 0 := (if_pos hl).trans e3
  refine ⟨pe, (if_pos hl').trans e3', e3, ?_, if_pos pe, by rw [w1, p1, sortedL_len], ?_, fun i hi => ?_⟩
  · rw [p2, ← w2]; exact if_pos pe
  · rw [p1, p2, sortedL_len, sortedL_len, ← marks_not, ones_len, ones_len]
    have := cnt_not fl
    unfold notL
    rw [List.take_of_length_le (Nat.le_refl _)]; omega
  · rw [w1] at hi ⊢
    obtain ⟨a, b, c, d⟩ := onesN_at hi
    rw [marksL_len] at d
    refine ⟨⟨c, d⟩, ?_, by rw [p1, sortedL_get hi], fun h1 => ?_⟩
    · rw [marksL_get (by omega)] at b
      cases hq : fl.getD ((onesL (marksL fl false)).getD i 0).toNat false
      · rw [hq] at b; simp at b
      · rfl
    · have hs : (onesL (marksL fl false)).Pairwise fun x y => x < y := by
        have hu : (upto 0 ((marksL fl false).length : Int)).Pairwise fun x y => x < y := by
          unfold upto
          rw [List.pairwise_map]
          exact List.pairwise_lt_range.imp fun {x y} h => by omega
        exact hu.filter _
      rw [List.getD_eq_getElem?_getD, List.getElem?_eq_getElem (show i - 1 < (onesL (marksL fl false)).length by omega), List.getD_eq_getElem?_getD, List.getElem?_eq_getElem hi]
      exact List.pairwise_iff_getElem.1 hs (i - 1) i (by omega) hi (by omega)
def trueL (n i : Nat) : List Bool := (List.range n).map fun j => decide (j < i)
theorem trueL_len (n i : Nat) : (trueL n i).length = n := by simp [trueL]
theorem trueL_0 (n : Nat) : trueL n 0 = List.replicate n false := by
  unfold trueL
  rw [show (fun j : Nat => decide (j < 0)) = fun _ => false from by funext j; simp, List.map_const']; simp
theorem trueL_get {n i j : Nat} (h : j < n) : (trueL n i).getD j false = decide (j < i) := by
  unfold trueL
  rw [List.getD_eq_getElem?_getD, List.getElem?_map, List.getElem?_range h]; rfl
theorem trueL_s {n i : Nat} : (trueL n i).set i true = trueL n (i + 1) := by
  unfold trueL
  apply List.ext_getElem?
  intro j
  rw [List.getElem?_set]
  by_cases hj : j < n
  · rw [List.getElem?_map, List.getElem?_map, List.getElem?_range hj]
    by_cases e : i = j
    · subst e; simp [hj]
    · rw [if_neg e]; simp; omega
  · have e1 : ((List.range n).map fun j => decide (j < i))[j]? = none := List.getElem?_eq_none (by simp; omega)
    have e2 : ((List.range n).map fun j => decide (j < i + 1))[j]? = none := List.getElem?_eq_none (by simp; omega)
    rw [e1, e2]
    split
    · rw [if_neg (by simp; omega)]
    · rfl
theorem trueL_cnt0 (n : Nat) : (trueL n 0).count true = 0 := by rw [trueL_0]; exact List.count_eq_zero.2 (by simp)
theorem trueL_all (n : Nat) : trueL n n = List.replicate n true := by
  unfold trueL
  apply List.ext_getElem?
  intro j
  by_cases hj : j < n
  · rw [List.getElem?_map, List.getElem?_range hj, List.getElem?_replicate, if_pos hj]; simp [hj]
  · rw [List.getElem?_eq_none (by simp; omega), List.getElem?_eq_none (by simp; omega)]
theorem pack_none {l : List Int} {bl : Int} {p : Plan} (h1 : 1 ≤ bl ∧ bl ≤ 100) (hn : l.length ≤ 1000) (hp : planRight p) :
    (paL l (trueL l.length 0) false bl p).length = 0 ∧ paE l (trueL l.length 0) bl p = 0 := by
  have hl : l.length = (trueL l.length 0).length := (trueL_len _ _).symm
  have e3 := scE_ok (n := (trueL l.length 0).length) (p := p) h1 (by rw [trueL_len]; exact hn) hp
  refine ⟨?_, (if_pos hl).trans e3⟩
  rw [show paL l (trueL l.length 0) false bl p = sortedL l (whL (trueL l.length 0) false bl p) from if_pos hl, show whL (trueL l.length 0) false bl p = onesL (marksL (trueL l.length 0) false) from if_pos e3, sortedL_len, ones_len, trueL_cnt0]
theorem pack_all {l : List Int} {bl : Int} {p : Plan} (h1 : 1 ≤ bl ∧ bl ≤ 100) (hn : l.length ≤ 1000) (hp : planRight p) :
    paL l (trueL l.length l.length) false bl p = l ∧ paE l (trueL l.length l.length) bl p = 0 := by
  have hok : spOk l (trueL l.length l.length) := by unfold spOk; rw [trueL_all]; simp
  have h := pack_spread (x := 0) (bl := bl) (p := p) hok h1 (by rw [trueL_len]; exact hn) hp
  have e : spL l (trueL l.length l.length) 0 = l := by
    rw [show spL l (trueL l.length l.length) 0 = sprL l (trueL l.length l.length) 0 (trueL l.length l.length).length from if_pos hok]
    refine list_ext (by rw [sprL_len, trueL_len]) fun j hj => ?_
    rw [sprL_len, trueL_len] at hj
    rw [sprL_get (by rw [trueL_len]; exact hj), if_pos (by rw [trueL_get hj]; simpa using hj)]
    congr 1
    unfold cntB
    rw [trueL_all, List.take_replicate, List.count_replicate]; simp; omega
  rwa [e] at h
end Go.Pl
