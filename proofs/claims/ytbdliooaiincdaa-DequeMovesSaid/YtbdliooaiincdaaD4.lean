/-
  DequeMoves, walked.
-/
import Derived.Test.YtbdliooaiincdaaD2
import Derived.Test.YtbdliooaiincdaaAm32
import Derived.Test.YtbdliooaiincdaaPl1
set_option linter.unusedSimpArgs false
set_option linter.unusedVariables false
set_option maxRecDepth 100000
namespace Go.Proofs.Ytbdliooaiincdaa
open Go.Am Go.Proofs
theorem en14 : enters Try.prog 14 = true := by kernel_rfl
theorem un5 : (Try.prog.underlying 5).isSome = true := by kernel_rfl
set_option maxHeartbeats 4000000 in
theorem c5 (c d : Bool) (l m : List Int) (n : Int) (hn0 : 0 ≤ n) (hn1 : n ≤ 255) : PCall Try.prog 5 [ints c l, ints d m, .lit (.int .u8 n)] (bV true) := by
  refine pcall_of_awp Try.func5 rfl (by simp [Try.ntmps5]) fun C hC => ?_
  refine awp_le (le_keep [0, 1, 2]) ?_
  simp only [keepL_nil, keepL_cons, keepM_some, keepM_none, argSl, lkp_cons, lkp_nil, Nat.reduceEqDiff, ↓reduceIte, reduceCtorEq, Nat.zero_add, Nat.reduceAdd]
  refine awp_sr [50] (by rw [hC]; rfl) fun k hk => ?_
  simp (maxSteps := 4000000) (disch := first | omega | (simp only [lens]; omega)) only [argSl, am, ↓amb, aml, mark_eq, lo, ← List.map_take, ← List.map_drop, ← List.map_append, ↓reduceIte, reduceCtorEq, Int.reduceBEq, Int.reduceBNe, Int.reduceToNat, Nat.reduceEqDiff, Nat.reduceAdd, Nat.reduceSub, Nat.reduceMul, Nat.reduceDiv, Nat.reduceMod, Nat.reduceLeDiff, Nat.reduceBEq]
  (repeat (refine ⟨by first | omega | (simp; done) | assumption | (unfold maxLen; omega) | (simp [maxLen]; omega), ?_⟩)); refine hk _ ?_; clear hk; clear k
  refine awp_seq fun k1 h1 => ?_
  refine awp_le (le_keep [0, 1, 2, 6]) ?_
  simp only [keepL_nil, keepL_cons, keepM_some, keepM_none, argSl, lkp_cons, lkp_nil, Nat.reduceEqDiff, ↓reduceIte, reduceCtorEq, Nat.zero_add, Nat.reduceAdd]
  refine awp_sr [50] (by rw [hC]; rfl) fun k hk => ?_
  simp (maxSteps := 4000000) (disch := first | omega | (simp only [lens]; omega)) only [argSl, am, ↓amb, aml, mark_eq, lo, ← List.map_take, ← List.map_drop, ← List.map_append, ↓reduceIte, reduceCtorEq, Int.reduceBEq, Int.reduceBNe, Int.reduceToNat, Nat.reduceEqDiff, Nat.reduceAdd, Nat.reduceSub, Nat.reduceMul, Nat.reduceDiv, Nat.reduceMod, Nat.reduceLeDiff, Nat.reduceBEq, en14]
  (repeat (refine ⟨by first | omega | (simp; done) | assumption | (unfold maxLen; omega) | (simp [maxLen]; omega), ?_⟩))
  refine callK_p (c14) rfl ?_
  simp (maxSteps := 4000000) (disch := first | omega | (simp only [lens]; omega)) only [argSl, am, ↓amb, aml, mark_eq, lo, ← List.map_take, ← List.map_drop, ← List.map_append, ↓reduceIte, reduceCtorEq, Int.reduceBEq, Int.reduceBNe, Int.reduceToNat, Nat.reduceEqDiff, Nat.reduceAdd, Nat.reduceSub, Nat.reduceMul, Nat.reduceDiv, Nat.reduceMod, Nat.reduceLeDiff, Nat.reduceBEq, en14]
  (repeat (refine ⟨by first | omega | (simp; done) | assumption | (unfold maxLen; omega) | (simp [maxLen]; omega), ?_⟩)); refine hk _ ?_; clear hk; clear k
  refine awp_cond rfl (fun hb => ?_) (fun hb => ?_)
  · -- branch 1
    try simp only [decide_eq_true_eq, decide_eq_false_iff_not, Int.not_lt, Int.not_le, beq_iff_eq, bne_iff_ne, ne_eq, beq_eq_false_iff_ne, bne_eq_false_iff_eq, Bool.not_eq_true, Bool.not_eq_false, Bool.not_true, Bool.not_false, Bool.not_eq_false', Bool.not_eq_true', Decidable.not_not] at hb
    refine awp_le (le_keep []) ?_
    simp only [keepL_nil, keepL_cons, keepM_some, keepM_none, argSl, lkp_cons, lkp_nil, Nat.reduceEqDiff, ↓reduceIte, reduceCtorEq, Nat.zero_add, Nat.reduceAdd]
    refine awp_sr [50] (by rw [hC]; rfl) fun k hk => ?_
    simp (maxSteps := 4000000) (disch := first | omega | (simp only [lens]; omega)) only [argSl, am, ↓amb, aml, mark_eq, lo, ← List.map_take, ← List.map_drop, ← List.map_append, ↓reduceIte, reduceCtorEq, Int.reduceBEq, Int.reduceBNe, Int.reduceToNat, Nat.reduceEqDiff, Nat.reduceAdd, Nat.reduceSub, Nat.reduceMul, Nat.reduceDiv, Nat.reduceMod, Nat.reduceLeDiff, Nat.reduceBEq]
    (repeat (refine ⟨by first | omega | (simp; done) | assumption | (unfold maxLen; omega) | (simp [maxLen]; omega), ?_⟩)); refine hk _ ?_; clear hk; clear k
    refine awp_ret ?_
    exact absurd hb (by simp)
  · -- branch 2
    try simp only [decide_eq_true_eq, decide_eq_false_iff_not, Int.not_lt, Int.not_le, beq_iff_eq, bne_iff_ne, ne_eq, beq_eq_false_iff_ne, bne_eq_false_iff_eq, Bool.not_eq_true, Bool.not_eq_false, Bool.not_true, Bool.not_false, Bool.not_eq_false', Bool.not_eq_true', Decidable.not_not] at hb
    refine awp_skip ?_
    refine h1 _ ?_; clear h1; clear k1
    refine awp_seq fun k2 h2 => ?_
    refine awp_le (le_keep [0, 1, 2, 6]) ?_
    simp only [keepL_nil, keepL_cons, keepM_some, keepM_none, argSl, lkp_cons, lkp_nil, Nat.reduceEqDiff, ↓reduceIte, reduceCtorEq, Nat.zero_add, Nat.reduceAdd]
    refine awp_srg [50] (by rw [hC]; rfl) fun gd hgd k hk => ?_
    have g3 : gd 3 = some 17 := by rw [hgd]; rfl
    clear hgd
    simp (maxSteps := 4000000) (disch := first | omega | (simp only [lens]; omega)) only [argSl, am, ↓amb, aml, mark_eq, lo, ← List.map_take, ← List.map_drop, ← List.map_append, ↓reduceIte, reduceCtorEq, Int.reduceBEq, Int.reduceBNe, Int.reduceToNat, Nat.reduceEqDiff, Nat.reduceAdd, Nat.reduceSub, Nat.reduceMul, Nat.reduceDiv, Nat.reduceMod, Nat.reduceLeDiff, Nat.reduceBEq, el22, g3, a07]
    (repeat (refine ⟨by first | omega | (simp; done) | assumption | (unfold maxLen; omega) | (simp [maxLen]; omega), ?_⟩))
    refine ⟨fun hg => ?_, fun hg => ?_⟩
    · -- split
      try simp only [decide_eq_true_eq, decide_eq_false_iff_not, Int.not_lt, Int.not_le, beq_iff_eq, bne_iff_ne, ne_eq, beq_eq_false_iff_ne, bne_eq_false_iff_eq, Bool.not_eq_true, Bool.not_eq_false, Bool.not_true, Bool.not_false, Bool.not_eq_false', Bool.not_eq_true', Decidable.not_not] at hg
      (repeat (refine ⟨by first | omega | (simp; done) | assumption | (unfold maxLen; omega) | (simp [maxLen]; omega), ?_⟩)); refine hk _ ?_; clear hk; clear k
      refine awp_cond rfl (fun hb => ?_) (fun hb => ?_)
      · -- branch 3
        try simp only [decide_eq_true_eq, decide_eq_false_iff_not, Int.not_lt, Int.not_le, beq_iff_eq, bne_iff_ne, ne_eq, beq_eq_false_iff_ne, bne_eq_false_iff_eq, Bool.not_eq_true, Bool.not_eq_false, Bool.not_true, Bool.not_false, Bool.not_eq_false', Bool.not_eq_true', Decidable.not_not] at hb
        refine awp_le (le_keep []) ?_
        simp only [keepL_nil, keepL_cons, keepM_some, keepM_none, argSl, lkp_cons, lkp_nil, Nat.reduceEqDiff, ↓reduceIte, reduceCtorEq, Nat.zero_add, Nat.reduceAdd]
        refine awp_sr [50] (by rw [hC]; rfl) fun k hk => ?_
        simp (maxSteps := 4000000) (disch := first | omega | (simp only [lens]; omega)) only [argSl, am, ↓amb, aml, mark_eq, lo, ← List.map_take, ← List.map_drop, ← List.map_append, ↓reduceIte, reduceCtorEq, Int.reduceBEq, Int.reduceBNe, Int.reduceToNat, Nat.reduceEqDiff, Nat.reduceAdd, Nat.reduceSub, Nat.reduceMul, Nat.reduceDiv, Nat.reduceMod, Nat.reduceLeDiff, Nat.reduceBEq]
        (repeat (refine ⟨by first | omega | (simp; done) | assumption | (unfold maxLen; omega) | (simp [maxLen]; omega), ?_⟩)); refine hk _ ?_; clear hk; clear k
        refine awp_ret ?_
        refine ret1 rfl rfl ?_
        exact .p (LeP.refl _)
      · -- branch 4
        try simp only [decide_eq_true_eq, decide_eq_false_iff_not, Int.not_lt, Int.not_le, beq_iff_eq, bne_iff_ne, ne_eq, beq_eq_false_iff_ne, bne_eq_false_iff_eq, Bool.not_eq_true, Bool.not_eq_false, Bool.not_true, Bool.not_false, Bool.not_eq_false', Bool.not_eq_true', Decidable.not_not] at hb
        refine awp_skip ?_
        refine h2 _ ?_; clear h2; clear k2
        refine awp_le (le_keep [0, 1, 2]) ?_
        simp only [keepL_nil, keepL_cons, keepM_some, keepM_none, argSl, lkp_cons, lkp_nil, Nat.reduceEqDiff, ↓reduceIte, reduceCtorEq, Nat.zero_add, Nat.reduceAdd]
        have eN : mvN l m n = min n l.length := by show max 0 (min (min n l.length) (1000 - m.length)) = _; omega
        have p24 : PCall Try.prog 24 [ints false l, ints false m, iV n] (.tup [ints false (l.drop (min n ↑l.length).toNat), ints false (m ++ l.take (min n ↑l.length).toNat)]) := by have h := c24 false false l m n (by omega) (by omega) (by omega) (by omega); simpa only [moveS, eN] using h
        have p23 : ∀ (c d : Bool) (a : List Int), a.length ≤ 1000000 → PCall Try.prog 23 [ints c a, ints d a] (bV true) := fun c d a h => by simpa using c23 c d a a h
        refine awp_sr [50] (by rw [hC]; rfl) fun k hk => ?_
        simp (maxSteps := 4000000) (disch := first | omega | (simp only [lens]; omega)) only [argSl, am, ↓amb, aml, mark_eq, lo, ← List.map_take, ← List.map_drop, ← List.map_append, ↓reduceIte, reduceCtorEq, Int.reduceBEq, Int.reduceBNe, Int.reduceToNat, Nat.reduceEqDiff, Nat.reduceAdd, Nat.reduceSub, Nat.reduceMul, Nat.reduceDiv, Nat.reduceMod, Nat.reduceLeDiff, Nat.reduceBEq, el22, vr3, by3]
        (repeat (refine ⟨by first | omega | (simp; done) | assumption | (unfold maxLen; omega) | (simp [maxLen]; omega), ?_⟩)); refine hk _ ?_; clear hk; clear k
        refine awp_le (le_keep [0, 1, 2, 7, 8]) ?_
        simp only [keepL_nil, keepL_cons, keepM_some, keepM_none, argSl, lkp_cons, lkp_nil, Nat.reduceEqDiff, ↓reduceIte, reduceCtorEq, Nat.zero_add, Nat.reduceAdd]
        refine awp_sr [50] (by rw [hC]; rfl) fun k hk => ?_
        simp (maxSteps := 4000000) (disch := first | omega | (simp only [lens]; omega)) only [argSl, am, ↓amb, aml, mark_eq, lo, ← List.map_take, ← List.map_drop, ← List.map_append, ↓reduceIte, reduceCtorEq, Int.reduceBEq, Int.reduceBNe, Int.reduceToNat, Nat.reduceEqDiff, Nat.reduceAdd, Nat.reduceSub, Nat.reduceMul, Nat.reduceDiv, Nat.reduceMod, Nat.reduceLeDiff, Nat.reduceBEq, it3, un5, en24]
        (repeat (refine ⟨by first | omega | (simp; done) | assumption | (unfold maxLen; omega) | (simp [maxLen]; omega), ?_⟩))
        refine callK_p (p24) rfl ?_
        simp (maxSteps := 4000000) (disch := first | omega | (simp only [lens]; omega)) only [argSl, am, ↓amb, aml, mark_eq, lo, ← List.map_take, ← List.map_drop, ← List.map_append, ↓reduceIte, reduceCtorEq, Int.reduceBEq, Int.reduceBNe, Int.reduceToNat, Nat.reduceEqDiff, Nat.reduceAdd, Nat.reduceSub, Nat.reduceMul, Nat.reduceDiv, Nat.reduceMod, Nat.reduceLeDiff, Nat.reduceBEq, it3, un5, en24]
        (repeat (refine ⟨by first | omega | (simp; done) | assumption | (unfold maxLen; omega) | (simp [maxLen]; omega), ?_⟩)); refine hk _ ?_; clear hk; clear k
        refine awp_le (le_keep [0, 1, 2, 7, 8, 9, 10]) ?_
        simp only [keepL_nil, keepL_cons, keepM_some, keepM_none, argSl, lkp_cons, lkp_nil, Nat.reduceEqDiff, ↓reduceIte, reduceCtorEq, Nat.zero_add, Nat.reduceAdd]
        refine awp_sr [50] (by rw [hC]; rfl) fun k hk => ?_
        simp (maxSteps := 4000000) (disch := first | omega | (simp only [lens]; omega)) only [argSl, am, ↓amb, aml, mark_eq, lo, ← List.map_take, ← List.map_drop, ← List.map_append, ↓reduceIte, reduceCtorEq, Int.reduceBEq, Int.reduceBNe, Int.reduceToNat, Nat.reduceEqDiff, Nat.reduceAdd, Nat.reduceSub, Nat.reduceMul, Nat.reduceDiv, Nat.reduceMod, Nat.reduceLeDiff, Nat.reduceBEq, it3, un5, el22]
        (repeat (refine ⟨by first | omega | (simp; done) | assumption | (unfold maxLen; omega) | (simp [maxLen]; omega), ?_⟩)); refine hk _ ?_; clear hk; clear k
        refine awp_le (le_keep [0, 1, 7, 8, 9, 10, 11]) ?_
        simp only [keepL_nil, keepL_cons, keepM_some, keepM_none, argSl, lkp_cons, lkp_nil, Nat.reduceEqDiff, ↓reduceIte, reduceCtorEq, Nat.zero_add, Nat.reduceAdd]
        refine awp_sdg [50] ⟨[0, 0, 0, 6, 15, 31, 63, 63, 63, 447, 63, 63, 3135, 8127, 16383, 32767, 65535, 131071, 131071, 524287, 1048575, 2097151, 4194303, 4194303, 16777215, 33554431, 67108863], [9], [13], [(9, 13)]⟩ (by rw [hC]; rfl) (by kernel_rfl) (by kernel_rfl) fun gd hgd k hk => ?_
        have g5 : gd 5 = some 46 := by rw [hgd]; rfl
        have g16 : gd 16 = some 57 := by rw [hgd]; rfl
        have g21 : gd 21 = some 62 := by rw [hgd]; rfl
        clear hgd
        simp (maxSteps := 4000000) (disch := first | omega | (simp only [lens]; omega)) only [argSl, am, ↓amb, aml, mark_eq, lo, ← List.map_take, ← List.map_drop, ← List.map_append, ↓reduceIte, reduceCtorEq, Int.reduceBEq, Int.reduceBNe, Int.reduceToNat, Nat.reduceEqDiff, Nat.reduceAdd, Nat.reduceSub, Nat.reduceMul, Nat.reduceDiv, Nat.reduceMod, Nat.reduceLeDiff, Nat.reduceBEq, el22, sz3, en23, vr3, by3, g5, g16, g21]
        (repeat (refine ⟨by first | omega | (simp; done) | assumption | (unfold maxLen; omega) | (simp [maxLen]; omega), ?_⟩))
        refine callK_p (p23 _ _ _ (by simp only [List.length_drop]; omega)) rfl ?_
        simp (maxSteps := 4000000) (disch := first | omega | (simp only [lens]; omega)) only [argSl, am, ↓amb, aml, mark_eq, lo, ← List.map_take, ← List.map_drop, ← List.map_append, ↓reduceIte, reduceCtorEq, Int.reduceBEq, Int.reduceBNe, Int.reduceToNat, Nat.reduceEqDiff, Nat.reduceAdd, Nat.reduceSub, Nat.reduceMul, Nat.reduceDiv, Nat.reduceMod, Nat.reduceLeDiff, Nat.reduceBEq, el22, sz3, en23, vr3, by3, g5, g16, g21]
        (repeat (refine ⟨by first | omega | (simp; done) | assumption | (unfold maxLen; omega) | (simp [maxLen]; omega), ?_⟩))
        refine callK_p (p23 _ _ _ (by simp only [List.length_append, List.length_take]; omega)) rfl ?_
        simp (maxSteps := 4000000) (disch := first | omega | (simp only [lens]; omega)) only [argSl, am, ↓amb, aml, mark_eq, lo, ← List.map_take, ← List.map_drop, ← List.map_append, ↓reduceIte, reduceCtorEq, Int.reduceBEq, Int.reduceBNe, Int.reduceToNat, Nat.reduceEqDiff, Nat.reduceAdd, Nat.reduceSub, Nat.reduceMul, Nat.reduceDiv, Nat.reduceMod, Nat.reduceLeDiff, Nat.reduceBEq, el22, sz3, en23, vr3, by3, g5, g16, g21]
        (repeat (refine ⟨by first | omega | (simp; done) | assumption | (unfold maxLen; omega) | (simp [maxLen]; omega), ?_⟩))
        refine callK_p (p23 _ _ _ (by omega)) rfl ?_
        simp (maxSteps := 4000000) (disch := first | omega | (simp only [lens]; omega)) only [argSl, am, ↓amb, aml, mark_eq, lo, ← List.map_take, ← List.map_drop, ← List.map_append, ↓reduceIte, reduceCtorEq, Int.reduceBEq, Int.reduceBNe, Int.reduceToNat, Nat.reduceEqDiff, Nat.reduceAdd, Nat.reduceSub, Nat.reduceMul, Nat.reduceDiv, Nat.reduceMod, Nat.reduceLeDiff, Nat.reduceBEq, el22, sz3, en23, vr3, by3, g5, g16, g21]
        (repeat (refine ⟨by first | omega | (simp; done) | assumption | (unfold maxLen; omega) | (simp [maxLen]; omega), ?_⟩))
        refine callK_p (p23 _ _ _ (by omega)) rfl ?_
        simp (maxSteps := 4000000) (disch := first | omega | (simp only [lens]; omega)) only [argSl, am, ↓amb, aml, mark_eq, lo, ← List.map_take, ← List.map_drop, ← List.map_append, ↓reduceIte, reduceCtorEq, Int.reduceBEq, Int.reduceBNe, Int.reduceToNat, Nat.reduceEqDiff, Nat.reduceAdd, Nat.reduceSub, Nat.reduceMul, Nat.reduceDiv, Nat.reduceMod, Nat.reduceLeDiff, Nat.reduceBEq, el22, sz3, en23, vr3, by3, g5, g16, g21]
        (repeat (refine ⟨by first | omega | (simp; done) | assumption | (unfold maxLen; omega) | (simp [maxLen]; omega), ?_⟩)); refine hk _ ?_; clear hk; clear k
        refine awp_ret ?_
        refine ret1 rfl rfl ?_
        exact .p (LeP.refl _)
    · -- split
      try simp only [decide_eq_true_eq, decide_eq_false_iff_not, Int.not_lt, Int.not_le, beq_iff_eq, bne_iff_ne, ne_eq, beq_eq_false_iff_ne, bne_eq_false_iff_eq, Bool.not_eq_true, Bool.not_eq_false, Bool.not_true, Bool.not_false, Bool.not_eq_false', Bool.not_eq_true', Decidable.not_not] at hg
      (repeat (refine ⟨by first | omega | (simp; done) | assumption | (unfold maxLen; omega) | (simp [maxLen]; omega), ?_⟩)); refine hk _ ?_; clear hk; clear k
      refine awp_cond rfl (fun hb => ?_) (fun hb => ?_)
      · -- branch 5
        try simp only [decide_eq_true_eq, decide_eq_false_iff_not, Int.not_lt, Int.not_le, beq_iff_eq, bne_iff_ne, ne_eq, beq_eq_false_iff_ne, bne_eq_false_iff_eq, Bool.not_eq_true, Bool.not_eq_false, Bool.not_true, Bool.not_false, Bool.not_eq_false', Bool.not_eq_true', Decidable.not_not] at hb
        refine awp_le (le_keep []) ?_
        simp only [keepL_nil, keepL_cons, keepM_some, keepM_none, argSl, lkp_cons, lkp_nil, Nat.reduceEqDiff, ↓reduceIte, reduceCtorEq, Nat.zero_add, Nat.reduceAdd]
        refine awp_sr [50] (by rw [hC]; rfl) fun k hk => ?_
        simp (maxSteps := 4000000) (disch := first | omega | (simp only [lens]; omega)) only [argSl, am, ↓amb, aml, mark_eq, lo, ← List.map_take, ← List.map_drop, ← List.map_append, ↓reduceIte, reduceCtorEq, Int.reduceBEq, Int.reduceBNe, Int.reduceToNat, Nat.reduceEqDiff, Nat.reduceAdd, Nat.reduceSub, Nat.reduceMul, Nat.reduceDiv, Nat.reduceMod, Nat.reduceLeDiff, Nat.reduceBEq]
        (repeat (refine ⟨by first | omega | (simp; done) | assumption | (unfold maxLen; omega) | (simp [maxLen]; omega), ?_⟩)); refine hk _ ?_; clear hk; clear k
        refine awp_ret ?_
        refine ret1 rfl rfl ?_
        exact .p (LeP.refl _)
      · cases hb
end Go.Proofs.Ytbdliooaiincdaa
