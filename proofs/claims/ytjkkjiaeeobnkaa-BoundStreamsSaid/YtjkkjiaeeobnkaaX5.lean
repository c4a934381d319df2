/-
  BoundAnswers, BoundStreams, walked.
-/
import Derived.Test.YtjkkjiaeeobnkaaX4
set_option linter.unusedSimpArgs false
set_option linter.unusedVariables false
set_option maxRecDepth 100000
namespace Go.Proofs.Ytjkkjiaeeobnkaa
open Go.Am Go.Proofs
theorem en27 : enters Try.prog 27 = true := by kernel_rfl
theorem en35 : enters Try.prog 35 = true := by kernel_rfl
theorem en39 : enters Try.prog 39 = true := by kernel_rfl
set_option maxHeartbeats 4000000 in
theorem c_law31_BoundAnswers (n : Int) (w : Pl.Way) (x : Pl.Batch) : PCall Try.prog 8 [iV n, .agg (wayC false w), .agg (batchC false false x)] (bV true) := by
  refine pcall_of_awp Try.func8 rfl (by simp [Try.ntmps8]) fun C hC => ?_
  refine awp_le (le_keep [0, 1, 2]) ?_
  simp only [keepL_nil, keepL_cons, keepM_some, keepM_none, argSl, lkp_cons, lkp_nil, Nat.reduceEqDiff, ↓reduceIte, reduceCtorEq, Nat.zero_add, Nat.reduceAdd]
  refine awp_sr [] (by rw [hC]; rfl) fun k hk => ?_
  simp (maxSteps := 4000000) (disch := first | omega | (simp only [lens]; omega)) only [argSl, argA_nil, argA_cons, am, ↓amb, aml, mark_eq, lo, ← List.map_take, ← List.map_drop, ← List.map_append, ↓reduceIte, reduceCtorEq, Int.reduceBEq, Int.reduceBNe, Int.reduceToNat, Nat.reduceEqDiff, Nat.reduceAdd, Nat.reduceSub, Nat.reduceMul, Nat.reduceDiv, Nat.reduceMod, Nat.reduceLeDiff, Nat.reduceBEq, taskC, lV, evC, planC, picksV, wayC, edgeC, askC, batchC]
  (repeat (refine ⟨by first | omega | (simp; done) | assumption | (unfold maxLen; omega) | (simp [maxLen]; omega), ?_⟩)); refine hk _ ?_; clear hk; clear k
  refine awp_seq fun k1 h1 => ?_
  refine awp_le (le_keep [0, 4, 5, 6]) ?_
  simp only [keepL_nil, keepL_cons, keepM_some, keepM_none, argSl, lkp_cons, lkp_nil, Nat.reduceEqDiff, ↓reduceIte, reduceCtorEq, Nat.zero_add, Nat.reduceAdd]
  refine awp_sr [] (by rw [hC]; rfl) fun k hk => ?_
  simp (maxSteps := 4000000) (disch := first | omega | (simp only [lens]; omega)) only [argSl, argA_nil, argA_cons, am, ↓amb, aml, mark_eq, lo, ← List.map_take, ← List.map_drop, ← List.map_append, ↓reduceIte, reduceCtorEq, Int.reduceBEq, Int.reduceBNe, Int.reduceToNat, Nat.reduceEqDiff, Nat.reduceAdd, Nat.reduceSub, Nat.reduceMul, Nat.reduceDiv, Nat.reduceMod, Nat.reduceLeDiff, Nat.reduceBEq, en27, taskC, lV, evC, planC, picksV, wayC, edgeC, askC, batchC]
  (repeat (refine ⟨by first | omega | (simp; done) | assumption | (unfold maxLen; omega) | (simp [maxLen]; omega), ?_⟩))
  refine callK_p (c_law31_alive) rfl ?_
  simp (maxSteps := 4000000) (disch := first | omega | (simp only [lens]; omega)) only [argSl, argA_nil, argA_cons, am, ↓amb, aml, mark_eq, lo, ← List.map_take, ← List.map_drop, ← List.map_append, ↓reduceIte, reduceCtorEq, Int.reduceBEq, Int.reduceBNe, Int.reduceToNat, Nat.reduceEqDiff, Nat.reduceAdd, Nat.reduceSub, Nat.reduceMul, Nat.reduceDiv, Nat.reduceMod, Nat.reduceLeDiff, Nat.reduceBEq, en27, taskC, lV, evC, planC, picksV, wayC, edgeC, askC, batchC]
  (repeat (refine ⟨by first | omega | (simp; done) | assumption | (unfold maxLen; omega) | (simp [maxLen]; omega), ?_⟩)); refine hk _ ?_; clear hk; clear k
  refine awp_cond rfl (fun hb => ?_) (fun hb => ?_)
  · -- branch 1
    try simp only [decide_eq_true_eq, decide_eq_false_iff_not, Int.not_lt, Int.not_le, beq_iff_eq, bne_iff_ne, ne_eq, beq_eq_false_iff_ne, bne_eq_false_iff_eq, Bool.not_eq_true, Bool.not_eq_false, Bool.not_true, Bool.not_false, Bool.not_eq_false', Bool.not_eq_true', Decidable.not_not] at hb
    refine awp_le (le_keep []) ?_
    simp only [keepL_nil, keepL_cons, keepM_some, keepM_none, argSl, lkp_cons, lkp_nil, Nat.reduceEqDiff, ↓reduceIte, reduceCtorEq, Nat.zero_add, Nat.reduceAdd]
    refine awp_sr [] (by rw [hC]; rfl) fun k hk => ?_
    simp (maxSteps := 4000000) (disch := first | omega | (simp only [lens]; omega)) only [argSl, argA_nil, argA_cons, am, ↓amb, aml, mark_eq, lo, ← List.map_take, ← List.map_drop, ← List.map_append, ↓reduceIte, reduceCtorEq, Int.reduceBEq, Int.reduceBNe, Int.reduceToNat, Nat.reduceEqDiff, Nat.reduceAdd, Nat.reduceSub, Nat.reduceMul, Nat.reduceDiv, Nat.reduceMod, Nat.reduceLeDiff, Nat.reduceBEq, taskC, lV, evC, planC, picksV, wayC, edgeC, askC, batchC]
    (repeat (refine ⟨by first | omega | (simp; done) | assumption | (unfold maxLen; omega) | (simp [maxLen]; omega), ?_⟩)); refine hk _ ?_; clear hk; clear k
    refine awp_ret ?_
    exact absurd hb (by simp)
  · -- branch 2
    try simp only [decide_eq_true_eq, decide_eq_false_iff_not, Int.not_lt, Int.not_le, beq_iff_eq, bne_iff_ne, ne_eq, beq_eq_false_iff_ne, bne_eq_false_iff_eq, Bool.not_eq_true, Bool.not_eq_false, Bool.not_true, Bool.not_false, Bool.not_eq_false', Bool.not_eq_true', Decidable.not_not] at hb
    refine awp_skip ?_
    refine h1 _ ?_; clear h1; clear k1
    refine awp_seq fun k2 h2 => ?_
    refine awp_test [] 23 (decide (5000 < w.plan.picks.length ∨ 200 < IntKind.i64.wrap (x.edges.length + x.asks.length))) [0, 4, 5, 6] (by rw [hC]; rfl) (fun gd hgd k hk => ?_) ?_
    · have g5 : gd 5 = some 14 := by rw [hgd]; rfl
      clear hgd
      simp (maxSteps := 4000000) (disch := first | omega | (simp only [lens]; omega)) only [argSl, argA_nil, argA_cons, am, ↓amb, aml, mark_eq, lo, ← List.map_take, ← List.map_drop, ← List.map_append, ↓reduceIte, reduceCtorEq, Int.reduceBEq, Int.reduceBNe, Int.reduceToNat, Nat.reduceEqDiff, Nat.reduceAdd, Nat.reduceSub, Nat.reduceMul, Nat.reduceDiv, Nat.reduceMod, Nat.reduceLeDiff, Nat.reduceBEq, fl53_2, fl51_2, sz49, el49, fl27_1, sz24, el24, fl27_2, sz25, el25, gcase_undef, g5, taskC, lV, evC, planC, picksV, wayC, edgeC, askC, batchC]
      repeat' first | refine hk _ _ rfl rfl rfl rfl ?_ | (refine gsplit (fun hg => ?_) (fun hg => ?_) <;> (try simp only [decide_eq_true_eq, decide_eq_false_iff_not, Int.not_lt, Int.not_le, beq_iff_eq, bne_iff_ne, ne_eq, beq_eq_false_iff_ne, bne_eq_false_iff_eq, Bool.not_eq_true, Bool.not_eq_false, Bool.not_true, Bool.not_false, Bool.not_eq_false', Bool.not_eq_true', Decidable.not_not] at hg) <;> simp (maxSteps := 4000000) (disch := first | omega | (simp only [lens]; omega)) only [argSl, argA_nil, argA_cons, am, ↓amb, aml, mark_eq, lo, ← List.map_take, ← List.map_drop, ← List.map_append, ↓reduceIte, reduceCtorEq, Int.reduceBEq, Int.reduceBNe, Int.reduceToNat, Nat.reduceEqDiff, Nat.reduceAdd, Nat.reduceSub, Nat.reduceMul, Nat.reduceDiv, Nat.reduceMod, Nat.reduceLeDiff, Nat.reduceBEq, fl53_2, fl51_2, sz49, el49, fl27_1, sz24, el24, fl27_2, sz25, el25, gcase_undef, g5, taskC, lV, evC, planC, picksV, wayC, edgeC, askC, batchC]) | apply And.intro | fail
      all_goals first | rfl | omega | exact (decide_eq_true (by omega)).symm | exact (decide_eq_false (by omega)).symm | exact decide_eq_decide.mpr (by omega) | (refine Bool.eq_iff_iff.mpr ?_; simp only [beq_iff_eq, bne_iff_ne, ne_eq, decide_eq_true_eq]; omega) | (refine Bool.eq_iff_iff.mpr ?_; simp only [Bool.not_eq_true', Bool.not_eq_false', decide_eq_false_iff_not, decide_eq_true_eq, beq_iff_eq, bne_iff_ne, ne_eq]; omega) | assumption | (simp; done) | (simp [maxLen]; omega) | skip
    simp only [keepL_nil, keepL_cons, keepM_some, keepM_none, argSl, argA_nil, argA_cons, lkp_cons, lkp_nil, Nat.reduceEqDiff, ↓reduceIte, reduceCtorEq, Nat.zero_add, Nat.reduceAdd, List.length_cons, List.length_nil]
    refine awp_cond rfl (fun hb => ?_) (fun hb => ?_)
    · -- branch 3
      try simp only [decide_eq_true_eq, decide_eq_false_iff_not, Int.not_lt, Int.not_le, beq_iff_eq, bne_iff_ne, ne_eq, beq_eq_false_iff_ne, bne_eq_false_iff_eq, Bool.not_eq_true, Bool.not_eq_false, Bool.not_true, Bool.not_false, Bool.not_eq_false', Bool.not_eq_true', Decidable.not_not] at hb
      refine awp_le (le_keep []) ?_
      simp only [keepL_nil, keepL_cons, keepM_some, keepM_none, argSl, lkp_cons, lkp_nil, Nat.reduceEqDiff, ↓reduceIte, reduceCtorEq, Nat.zero_add, Nat.reduceAdd]
      refine awp_sr [] (by rw [hC]; rfl) fun k hk => ?_
      simp (maxSteps := 4000000) (disch := first | omega | (simp only [lens]; omega)) only [argSl, argA_nil, argA_cons, am, ↓amb, aml, mark_eq, lo, ← List.map_take, ← List.map_drop, ← List.map_append, ↓reduceIte, reduceCtorEq, Int.reduceBEq, Int.reduceBNe, Int.reduceToNat, Nat.reduceEqDiff, Nat.reduceAdd, Nat.reduceSub, Nat.reduceMul, Nat.reduceDiv, Nat.reduceMod, Nat.reduceLeDiff, Nat.reduceBEq, taskC, lV, evC, planC, picksV, wayC, edgeC, askC, batchC]
      (repeat (refine ⟨by first | omega | (simp; done) | assumption | (unfold maxLen; omega) | (simp [maxLen]; omega), ?_⟩)); refine hk _ ?_; clear hk; clear k
      refine awp_ret ?_
      refine ret1 rfl rfl ?_
      exact .p (LeP.refl _)
    · -- branch 4
      try simp only [decide_eq_true_eq, decide_eq_false_iff_not, Int.not_lt, Int.not_le, beq_iff_eq, bne_iff_ne, ne_eq, beq_eq_false_iff_ne, bne_eq_false_iff_eq, Bool.not_eq_true, Bool.not_eq_false, Bool.not_true, Bool.not_false, Bool.not_eq_false', Bool.not_eq_true', Decidable.not_not] at hb
      refine awp_skip ?_
      refine h2 _ ?_; clear h2; clear k2
      refine awp_testD [] ⟨[0, 0, 2, 7, 0, 0, 32, 127, 255, 511, 1023, 1023, 3071, 1023, 9215, 32767, 1023, 1023, 132095, 1023, 525311, 2097151, 4194303, 8388607, 16777215, 33554431, 33554431, 134217727, 33554431, 33554431, 1073741823, 2147483647, 4294967295, 8589934591, 17179869183, 17179869183, 51539607551, 137438953471, 17179869183, 17179869183, 566935683071, 2199023255551, 4398046511103, 8796093022207, 17592186044415, 35184372088831, 35184372088831, 140737488355327, 35184372088831, 35184372088831, 1125899906842623, 2251799813685247, 4503599627370495, 9007199254740991], [2, 6, 12, 14, 18, 20, 26, 29, 36, 40, 45, 46, 48, 49], [], [(3, 12), (7, 12), (3, 14), (7, 14), (3, 18), (7, 18), (3, 20), (7, 20), (3, 26), (7, 26), (15, 26), (21, 26), (3, 29), (7, 29), (15, 29), (21, 29), (3, 36), (7, 36), (15, 36), (21, 36), (27, 36), (30, 36), (3, 40), (7, 40), (15, 40), (21, 40), (27, 40), (30, 40), (3, 45), (7, 45), (15, 45), (21, 45), (27, 45), (30, 45), (37, 45), (41, 45), (3, 46), (7, 46), (15, 46), (21, 46), (27, 46), (30, 46), (37, 46), (41, 46), (3, 48), (7, 48), (15, 48), (21, 48), (27, 48), (30, 48), (37, 48), (41, 48), (3, 49), (7, 49), (15, 49), (21, 49), (27, 49), (30, 49), (37, 49), (41, 49)], some []⟩ 6 (decide (True)) [] (by rw [hC]; rfl) (by kernel_rfl) (by kernel_rfl) (fun gd hgd k hk => ?_) ?_
      · have g9 : gd 9 = some 33 := by rw [hgd]; rfl
        have g24 : gd 24 = some 48 := by rw [hgd]; rfl
        have g33 : gd 33 = some 57 := by rw [hgd]; rfl
        have g44 : gd 44 = some 68 := by rw [hgd]; rfl
        clear hgd
        simp (maxSteps := 4000000) (disch := first | omega | (simp only [lens]; omega)) only [argSl, argA_nil, argA_cons, am, ↓amb, aml, mark_eq, lo, ← List.map_take, ← List.map_drop, ← List.map_append, ↓reduceIte, reduceCtorEq, Int.reduceBEq, Int.reduceBNe, Int.reduceToNat, Nat.reduceEqDiff, Nat.reduceAdd, Nat.reduceSub, Nat.reduceMul, Nat.reduceDiv, Nat.reduceMod, Nat.reduceLeDiff, Nat.reduceBEq, fl53_2, sz51, en28, en29, fl53_1, sz3, en30, en31, sz53, en32, en33, en34, en35, sz27, en36, en37, gcase_undef, g9, g24, g33, g44, taskC, lV, evC, planC, picksV, wayC, edgeC, askC, batchC]
        repeat' first | refine hk _ _ rfl rfl rfl rfl ?_ | (refine gsplit (fun hg => ?_) (fun hg => ?_) <;> (try simp only [decide_eq_true_eq, decide_eq_false_iff_not, Int.not_lt, Int.not_le, beq_iff_eq, bne_iff_ne, ne_eq, beq_eq_false_iff_ne, bne_eq_false_iff_eq, Bool.not_eq_true, Bool.not_eq_false, Bool.not_true, Bool.not_false, Bool.not_eq_false', Bool.not_eq_true', Decidable.not_not] at hg) <;> simp (maxSteps := 4000000) (disch := first | omega | (simp only [lens]; omega)) only [argSl, argA_nil, argA_cons, am, ↓amb, aml, mark_eq, lo, ← List.map_take, ← List.map_drop, ← List.map_append, ↓reduceIte, reduceCtorEq, Int.reduceBEq, Int.reduceBNe, Int.reduceToNat, Nat.reduceEqDiff, Nat.reduceAdd, Nat.reduceSub, Nat.reduceMul, Nat.reduceDiv, Nat.reduceMod, Nat.reduceLeDiff, Nat.reduceBEq, fl53_2, sz51, en28, en29, fl53_1, sz3, en30, en31, sz53, en32, en33, en34, en35, sz27, en36, en37, gcase_undef, g9, g24, g33, g44, taskC, lV, evC, planC, picksV, wayC, edgeC, askC, batchC]) | apply And.intro | (refine callK_p (c_bound_Phase _ _ w.plan) rfl ?_; (try simp (maxSteps := 4000000) (disch := first | omega | (simp only [lens]; omega)) only [argSl, argA_nil, argA_cons, am, ↓amb, aml, mark_eq, lo, ← List.map_take, ← List.map_drop, ← List.map_append, ↓reduceIte, reduceCtorEq, Int.reduceBEq, Int.reduceBNe, Int.reduceToNat, Nat.reduceEqDiff, Nat.reduceAdd, Nat.reduceSub, Nat.reduceMul, Nat.reduceDiv, Nat.reduceMod, Nat.reduceLeDiff, Nat.reduceBEq, fl53_2, sz51, en28, en29, fl53_1, sz3, en30, en31, sz53, en32, en33, en34, en35, sz27, en36, en37, gcase_undef, g9, g24, g33, g44, taskC, lV, evC, planC, picksV, wayC, edgeC, askC, batchC])) | (refine callK_p (c_ref31_Phase _ _ w.plan) rfl ?_; (try simp (maxSteps := 4000000) (disch := first | omega | (simp only [lens]; omega)) only [argSl, argA_nil, argA_cons, am, ↓amb, aml, mark_eq, lo, ← List.map_take, ← List.map_drop, ← List.map_append, ↓reduceIte, reduceCtorEq, Int.reduceBEq, Int.reduceBNe, Int.reduceToNat, Nat.reduceEqDiff, Nat.reduceAdd, Nat.reduceSub, Nat.reduceMul, Nat.reduceDiv, Nat.reduceMod, Nat.reduceLeDiff, Nat.reduceBEq, fl53_2, sz51, en28, en29, fl53_1, sz3, en30, en31, sz53, en32, en33, en34, en35, sz27, en36, en37, gcase_undef, g9, g24, g33, g44, taskC, lV, evC, planC, picksV, wayC, edgeC, askC, batchC])) | (refine callK_p (c_bound_Scan _ _ _ w.plan) rfl ?_; (try simp (maxSteps := 4000000) (disch := first | omega | (simp only [lens]; omega)) only [argSl, argA_nil, argA_cons, am, ↓amb, aml, mark_eq, lo, ← List.map_take, ← List.map_drop, ← List.map_append, ↓reduceIte, reduceCtorEq, Int.reduceBEq, Int.reduceBNe, Int.reduceToNat, Nat.reduceEqDiff, Nat.reduceAdd, Nat.reduceSub, Nat.reduceMul, Nat.reduceDiv, Nat.reduceMod, Nat.reduceLeDiff, Nat.reduceBEq, fl53_2, sz51, en28, en29, fl53_1, sz3, en30, en31, sz53, en32, en33, en34, en35, sz27, en36, en37, gcase_undef, g9, g24, g33, g44, taskC, lV, evC, planC, picksV, wayC, edgeC, askC, batchC])) | (refine callK_p (c_ref31_Scan _ _ _ w.plan) rfl ?_; (try simp (maxSteps := 4000000) (disch := first | omega | (simp only [lens]; omega)) only [argSl, argA_nil, argA_cons, am, ↓amb, aml, mark_eq, lo, ← List.map_take, ← List.map_drop, ← List.map_append, ↓reduceIte, reduceCtorEq, Int.reduceBEq, Int.reduceBNe, Int.reduceToNat, Nat.reduceEqDiff, Nat.reduceAdd, Nat.reduceSub, Nat.reduceMul, Nat.reduceDiv, Nat.reduceMod, Nat.reduceLeDiff, Nat.reduceBEq, fl53_2, sz51, en28, en29, fl53_1, sz3, en30, en31, sz53, en32, en33, en34, en35, sz27, en36, en37, gcase_undef, g9, g24, g33, g44, taskC, lV, evC, planC, picksV, wayC, edgeC, askC, batchC])) | (refine callK_p (c_bound_Sort _ _ w) rfl ?_; (try simp (maxSteps := 4000000) (disch := first | omega | (simp only [lens]; omega)) only [argSl, argA_nil, argA_cons, am, ↓amb, aml, mark_eq, lo, ← List.map_take, ← List.map_drop, ← List.map_append, ↓reduceIte, reduceCtorEq, Int.reduceBEq, Int.reduceBNe, Int.reduceToNat, Nat.reduceEqDiff, Nat.reduceAdd, Nat.reduceSub, Nat.reduceMul, Nat.reduceDiv, Nat.reduceMod, Nat.reduceLeDiff, Nat.reduceBEq, fl53_2, sz51, en28, en29, fl53_1, sz3, en30, en31, sz53, en32, en33, en34, en35, sz27, en36, en37, gcase_undef, g9, g24, g33, g44, taskC, lV, evC, planC, picksV, wayC, edgeC, askC, batchC])) | (refine callK_p (c_ref31_Sort _ _ w) rfl ?_; (try simp (maxSteps := 4000000) (disch := first | omega | (simp only [lens]; omega)) only [argSl, argA_nil, argA_cons, am, ↓amb, aml, mark_eq, lo, ← List.map_take, ← List.map_drop, ← List.map_append, ↓reduceIte, reduceCtorEq, Int.reduceBEq, Int.reduceBNe, Int.reduceToNat, Nat.reduceEqDiff, Nat.reduceAdd, Nat.reduceSub, Nat.reduceMul, Nat.reduceDiv, Nat.reduceMod, Nat.reduceLeDiff, Nat.reduceBEq, fl53_2, sz51, en28, en29, fl53_1, sz3, en30, en31, sz53, en32, en33, en34, en35, sz27, en36, en37, gcase_undef, g9, g24, g33, g44, taskC, lV, evC, planC, picksV, wayC, edgeC, askC, batchC])) | (refine callK_p (c_bound_Least _ _ w.plan) rfl ?_; (try simp (maxSteps := 4000000) (disch := first | omega | (simp only [lens]; omega)) only [argSl, argA_nil, argA_cons, am, ↓amb, aml, mark_eq, lo, ← List.map_take, ← List.map_drop, ← List.map_append, ↓reduceIte, reduceCtorEq, Int.reduceBEq, Int.reduceBNe, Int.reduceToNat, Nat.reduceEqDiff, Nat.reduceAdd, Nat.reduceSub, Nat.reduceMul, Nat.reduceDiv, Nat.reduceMod, Nat.reduceLeDiff, Nat.reduceBEq, fl53_2, sz51, en28, en29, fl53_1, sz3, en30, en31, sz53, en32, en33, en34, en35, sz27, en36, en37, gcase_undef, g9, g24, g33, g44, taskC, lV, evC, planC, picksV, wayC, edgeC, askC, batchC])) | (refine callK_p (c_ref31_Least _ _ w.plan) rfl ?_; (try simp (maxSteps := 4000000) (disch := first | omega | (simp only [lens]; omega)) only [argSl, argA_nil, argA_cons, am, ↓amb, aml, mark_eq, lo, ← List.map_take, ← List.map_drop, ← List.map_append, ↓reduceIte, reduceCtorEq, Int.reduceBEq, Int.reduceBNe, Int.reduceToNat, Nat.reduceEqDiff, Nat.reduceAdd, Nat.reduceSub, Nat.reduceMul, Nat.reduceDiv, Nat.reduceMod, Nat.reduceLeDiff, Nat.reduceBEq, fl53_2, sz51, en28, en29, fl53_1, sz3, en30, en31, sz53, en32, en33, en34, en35, sz27, en36, en37, gcase_undef, g9, g24, g33, g44, taskC, lV, evC, planC, picksV, wayC, edgeC, askC, batchC])) | (refine callK_p (c_bound_Batch _ _ _ x w) rfl ?_; (try simp (maxSteps := 4000000) (disch := first | omega | (simp only [lens]; omega)) only [argSl, argA_nil, argA_cons, am, ↓amb, aml, mark_eq, lo, ← List.map_take, ← List.map_drop, ← List.map_append, ↓reduceIte, reduceCtorEq, Int.reduceBEq, Int.reduceBNe, Int.reduceToNat, Nat.reduceEqDiff, Nat.reduceAdd, Nat.reduceSub, Nat.reduceMul, Nat.reduceDiv, Nat.reduceMod, Nat.reduceLeDiff, Nat.reduceBEq, fl53_2, sz51, en28, en29, fl53_1, sz3, en30, en31, sz53, en32, en33, en34, en35, sz27, en36, en37, gcase_undef, g9, g24, g33, g44, taskC, lV, evC, planC, picksV, wayC, edgeC, askC, batchC])) | (refine callK_p (c_ref31_Batch _ _ _ x w) rfl ?_; (try simp (maxSteps := 4000000) (disch := first | omega | (simp only [lens]; omega)) only [argSl, argA_nil, argA_cons, am, ↓amb, aml, mark_eq, lo, ← List.map_take, ← List.map_drop, ← List.map_append, ↓reduceIte, reduceCtorEq, Int.reduceBEq, Int.reduceBNe, Int.reduceToNat, Nat.reduceEqDiff, Nat.reduceAdd, Nat.reduceSub, Nat.reduceMul, Nat.reduceDiv, Nat.reduceMod, Nat.reduceLeDiff, Nat.reduceBEq, fl53_2, sz51, en28, en29, fl53_1, sz3, en30, en31, sz53, en32, en33, en34, en35, sz27, en36, en37, gcase_undef, g9, g24, g33, g44, taskC, lV, evC, planC, picksV, wayC, edgeC, askC, batchC])) | fail
        all_goals first | rfl | omega | exact (decide_eq_true (by omega)).symm | exact (decide_eq_false (by omega)).symm | exact decide_eq_decide.mpr (by omega) | (refine Bool.eq_iff_iff.mpr ?_; simp only [beq_iff_eq, bne_iff_ne, ne_eq, decide_eq_true_eq]; omega) | (refine Bool.eq_iff_iff.mpr ?_; simp only [Bool.not_eq_true', Bool.not_eq_false', decide_eq_false_iff_not, decide_eq_true_eq, beq_iff_eq, bne_iff_ne, ne_eq]; omega) | assumption | (simp; done) | (simp [maxLen]; omega) | skip
      simp only [keepL_nil, keepL_cons, keepM_some, keepM_none, argSl, argA_nil, argA_cons, lkp_cons, lkp_nil, Nat.reduceEqDiff, ↓reduceIte, reduceCtorEq, Nat.zero_add, Nat.reduceAdd, List.length_cons, List.length_nil]
      refine awp_ret ?_
      refine ret1 rfl rfl ?_
      exact .p (LeP.refl _)
set_option maxHeartbeats 4000000 in
theorem c_law31_BoundStreams (l : List Pl.Batch) (w : Pl.Way) : PCall Try.prog 9 [.seq false (l.map (batchC false false)), .agg (wayC false w)] (bV true) := by
  refine pcall_of_awp Try.func9 rfl (by simp [Try.ntmps9]) fun C hC => ?_
  refine awp_le (le_keep [0, 1]) ?_
  simp only [keepL_nil, keepL_cons, keepM_some, keepM_none, argSl, lkp_cons, lkp_nil, Nat.reduceEqDiff, ↓reduceIte, reduceCtorEq, Nat.zero_add, Nat.reduceAdd]
  refine awp_sr [] (by rw [hC]; rfl) fun k hk => ?_
  simp (maxSteps := 4000000) (disch := first | omega | (simp only [lens]; omega)) only [argSl, argA_nil, argA_cons, am, ↓amb, aml, mark_eq, lo, ← List.map_take, ← List.map_drop, ← List.map_append, ↓reduceIte, reduceCtorEq, Int.reduceBEq, Int.reduceBNe, Int.reduceToNat, Nat.reduceEqDiff, Nat.reduceAdd, Nat.reduceSub, Nat.reduceMul, Nat.reduceDiv, Nat.reduceMod, Nat.reduceLeDiff, Nat.reduceBEq, taskC, lV, evC, planC, picksV, wayC, edgeC, askC, batchC]
  (repeat (refine ⟨by first | omega | (simp; done) | assumption | (unfold maxLen; omega) | (simp [maxLen]; omega), ?_⟩)); refine hk _ ?_; clear hk; clear k
  refine awp_seq fun k1 h1 => ?_
  refine awp_le (le_keep [0, 3, 4]) ?_
  simp only [keepL_nil, keepL_cons, keepM_some, keepM_none, argSl, lkp_cons, lkp_nil, Nat.reduceEqDiff, ↓reduceIte, reduceCtorEq, Nat.zero_add, Nat.reduceAdd]
  refine awp_sr [] (by rw [hC]; rfl) fun k hk => ?_
  simp (maxSteps := 4000000) (disch := first | omega | (simp only [lens]; omega)) only [argSl, argA_nil, argA_cons, am, ↓amb, aml, mark_eq, lo, ← List.map_take, ← List.map_drop, ← List.map_append, ↓reduceIte, reduceCtorEq, Int.reduceBEq, Int.reduceBNe, Int.reduceToNat, Nat.reduceEqDiff, Nat.reduceAdd, Nat.reduceSub, Nat.reduceMul, Nat.reduceDiv, Nat.reduceMod, Nat.reduceLeDiff, Nat.reduceBEq, en27, taskC, lV, evC, planC, picksV, wayC, edgeC, askC, batchC]
  (repeat (refine ⟨by first | omega | (simp; done) | assumption | (unfold maxLen; omega) | (simp [maxLen]; omega), ?_⟩))
  refine callK_p (c_law31_alive) rfl ?_
  simp (maxSteps := 4000000) (disch := first | omega | (simp only [lens]; omega)) only [argSl, argA_nil, argA_cons, am, ↓amb, aml, mark_eq, lo, ← List.map_take, ← List.map_drop, ← List.map_append, ↓reduceIte, reduceCtorEq, Int.reduceBEq, Int.reduceBNe, Int.reduceToNat, Nat.reduceEqDiff, Nat.reduceAdd, Nat.reduceSub, Nat.reduceMul, Nat.reduceDiv, Nat.reduceMod, Nat.reduceLeDiff, Nat.reduceBEq, en27, taskC, lV, evC, planC, picksV, wayC, edgeC, askC, batchC]
  (repeat (refine ⟨by first | omega | (simp; done) | assumption | (unfold maxLen; omega) | (simp [maxLen]; omega), ?_⟩)); refine hk _ ?_; clear hk; clear k
  refine awp_cond rfl (fun hb => ?_) (fun hb => ?_)
  · -- branch 1
    try simp only [decide_eq_true_eq, decide_eq_false_iff_not, Int.not_lt, Int.not_le, beq_iff_eq, bne_iff_ne, ne_eq, beq_eq_false_iff_ne, bne_eq_false_iff_eq, Bool.not_eq_true, Bool.not_eq_false, Bool.not_true, Bool.not_false, Bool.not_eq_false', Bool.not_eq_true', Decidable.not_not] at hb
    refine awp_le (le_keep []) ?_
    simp only [keepL_nil, keepL_cons, keepM_some, keepM_none, argSl, lkp_cons, lkp_nil, Nat.reduceEqDiff, ↓reduceIte, reduceCtorEq, Nat.zero_add, Nat.reduceAdd]
    refine awp_sr [] (by rw [hC]; rfl) fun k hk => ?_
    simp (maxSteps := 4000000) (disch := first | omega | (simp only [lens]; omega)) only [argSl, argA_nil, argA_cons, am, ↓amb, aml, mark_eq, lo, ← List.map_take, ← List.map_drop, ← List.map_append, ↓reduceIte, reduceCtorEq, Int.reduceBEq, Int.reduceBNe, Int.reduceToNat, Nat.reduceEqDiff, Nat.reduceAdd, Nat.reduceSub, Nat.reduceMul, Nat.reduceDiv, Nat.reduceMod, Nat.reduceLeDiff, Nat.reduceBEq, taskC, lV, evC, planC, picksV, wayC, edgeC, askC, batchC]
    (repeat (refine ⟨by first | omega | (simp; done) | assumption | (unfold maxLen; omega) | (simp [maxLen]; omega), ?_⟩)); refine hk _ ?_; clear hk; clear k
    refine awp_ret ?_
    exact absurd hb (by simp)
  · -- branch 2
    try simp only [decide_eq_true_eq, decide_eq_false_iff_not, Int.not_lt, Int.not_le, beq_iff_eq, bne_iff_ne, ne_eq, beq_eq_false_iff_ne, bne_eq_false_iff_eq, Bool.not_eq_true, Bool.not_eq_false, Bool.not_true, Bool.not_false, Bool.not_eq_false', Bool.not_eq_true', Decidable.not_not] at hb
    refine awp_skip ?_
    refine h1 _ ?_; clear h1; clear k1
    refine awp_seq fun k2 h2 => ?_
    refine awp_test [] 18 (decide (20 < l.length ∨ 5000 < w.plan.picks.length)) [0, 3, 4] (by rw [hC]; rfl) (fun gd hgd k hk => ?_) ?_
    · have g3 : gd 3 = some 12 := by rw [hgd]; rfl
      clear hgd
      simp (maxSteps := 4000000) (disch := first | omega | (simp only [lens]; omega)) only [argSl, argA_nil, argA_cons, am, ↓amb, aml, mark_eq, lo, ← List.map_take, ← List.map_drop, ← List.map_append, ↓reduceIte, reduceCtorEq, Int.reduceBEq, Int.reduceBNe, Int.reduceToNat, Nat.reduceEqDiff, Nat.reduceAdd, Nat.reduceSub, Nat.reduceMul, Nat.reduceDiv, Nat.reduceMod, Nat.reduceLeDiff, Nat.reduceBEq, el31, fl53_2, fl51_2, sz49, el49, gcase_undef, g3, taskC, lV, evC, planC, picksV, wayC, edgeC, askC, batchC]
      repeat' first | refine hk _ _ rfl rfl rfl rfl ?_ | (refine gsplit (fun hg => ?_) (fun hg => ?_) <;> (try simp only [decide_eq_true_eq, decide_eq_false_iff_not, Int.not_lt, Int.not_le, beq_iff_eq, bne_iff_ne, ne_eq, beq_eq_false_iff_ne, bne_eq_false_iff_eq, Bool.not_eq_true, Bool.not_eq_false, Bool.not_true, Bool.not_false, Bool.not_eq_false', Bool.not_eq_true', Decidable.not_not] at hg) <;> simp (maxSteps := 4000000) (disch := first | omega | (simp only [lens]; omega)) only [argSl, argA_nil, argA_cons, am, ↓amb, aml, mark_eq, lo, ← List.map_take, ← List.map_drop, ← List.map_append, ↓reduceIte, reduceCtorEq, Int.reduceBEq, Int.reduceBNe, Int.reduceToNat, Nat.reduceEqDiff, Nat.reduceAdd, Nat.reduceSub, Nat.reduceMul, Nat.reduceDiv, Nat.reduceMod, Nat.reduceLeDiff, Nat.reduceBEq, el31, fl53_2, fl51_2, sz49, el49, gcase_undef, g3, taskC, lV, evC, planC, picksV, wayC, edgeC, askC, batchC]) | apply And.intro | fail
      all_goals first | rfl | omega | exact (decide_eq_true (by omega)).symm | exact (decide_eq_false (by omega)).symm | exact decide_eq_decide.mpr (by omega) | (refine Bool.eq_iff_iff.mpr ?_; simp only [beq_iff_eq, bne_iff_ne, ne_eq, decide_eq_true_eq]; omega) | (refine Bool.eq_iff_iff.mpr ?_; simp only [Bool.not_eq_true', Bool.not_eq_false', decide_eq_false_iff_not, decide_eq_true_eq, beq_iff_eq, bne_iff_ne, ne_eq]; omega) | assumption | (simp; done) | (simp [maxLen]; omega) | skip
    simp only [keepL_nil, keepL_cons, keepM_some, keepM_none, argSl, argA_nil, argA_cons, lkp_cons, lkp_nil, Nat.reduceEqDiff, ↓reduceIte, reduceCtorEq, Nat.zero_add, Nat.reduceAdd, List.length_cons, List.length_nil]
    refine awp_cond rfl (fun hb => ?_) (fun hb => ?_)
    · -- branch 3
      try simp only [decide_eq_true_eq, decide_eq_false_iff_not, Int.not_lt, Int.not_le, beq_iff_eq, bne_iff_ne, ne_eq, beq_eq_false_iff_ne, bne_eq_false_iff_eq, Bool.not_eq_true, Bool.not_eq_false, Bool.not_true, Bool.not_false, Bool.not_eq_false', Bool.not_eq_true', Decidable.not_not] at hb
      refine awp_le (le_keep []) ?_
      simp only [keepL_nil, keepL_cons, keepM_some, keepM_none, argSl, lkp_cons, lkp_nil, Nat.reduceEqDiff, ↓reduceIte, reduceCtorEq, Nat.zero_add, Nat.reduceAdd]
      refine awp_sr [] (by rw [hC]; rfl) fun k hk => ?_
      simp (maxSteps := 4000000) (disch := first | omega | (simp only [lens]; omega)) only [argSl, argA_nil, argA_cons, am, ↓amb, aml, mark_eq, lo, ← List.map_take, ← List.map_drop, ← List.map_append, ↓reduceIte, reduceCtorEq, Int.reduceBEq, Int.reduceBNe, Int.reduceToNat, Nat.reduceEqDiff, Nat.reduceAdd, Nat.reduceSub, Nat.reduceMul, Nat.reduceDiv, Nat.reduceMod, Nat.reduceLeDiff, Nat.reduceBEq, taskC, lV, evC, planC, picksV, wayC, edgeC, askC, batchC]
      (repeat (refine ⟨by first | omega | (simp; done) | assumption | (unfold maxLen; omega) | (simp [maxLen]; omega), ?_⟩)); refine hk _ ?_; clear hk; clear k
      refine awp_ret ?_
      refine ret1 rfl rfl ?_
      exact .p (LeP.refl _)
    · -- branch 4
      try simp only [decide_eq_true_eq, decide_eq_false_iff_not, Int.not_lt, Int.not_le, beq_iff_eq, bne_iff_ne, ne_eq, beq_eq_false_iff_ne, bne_eq_false_iff_eq, Bool.not_eq_true, Bool.not_eq_false, Bool.not_true, Bool.not_false, Bool.not_eq_false', Bool.not_eq_true', Decidable.not_not] at hb
      refine awp_skip ?_
      refine h2 _ ?_; clear h2; clear k2
      refine awp_le (le_keep [0, 3]) ?_
      simp only [keepL_nil, keepL_cons, keepM_some, keepM_none, argSl, lkp_cons, lkp_nil, Nat.reduceEqDiff, ↓reduceIte, reduceCtorEq, Nat.zero_add, Nat.reduceAdd]
      refine awp_sr [] (by rw [hC]; rfl) fun k hk => ?_
      simp (maxSteps := 4000000) (disch := first | omega | (simp only [lens]; omega)) only [argSl, argA_nil, argA_cons, am, ↓amb, aml, mark_eq, lo, ← List.map_take, ← List.map_drop, ← List.map_append, ↓reduceIte, reduceCtorEq, Int.reduceBEq, Int.reduceBNe, Int.reduceToNat, Nat.reduceEqDiff, Nat.reduceAdd, Nat.reduceSub, Nat.reduceMul, Nat.reduceDiv, Nat.reduceMod, Nat.reduceLeDiff, Nat.reduceBEq, taskC, lV, evC, planC, picksV, wayC, edgeC, askC, batchC]
      (repeat (refine ⟨by first | omega | (simp; done) | assumption | (unfold maxLen; omega) | (simp [maxLen]; omega), ?_⟩)); refine hk _ ?_; clear hk; clear k
      refine awp_seq fun k3 h3 => ?_
      refine awp_le (le_keep [0, 3, 4, 5]) ?_
      simp only [keepL_nil, keepL_cons, keepM_some, keepM_none, argSl, lkp_cons, lkp_nil, Nat.reduceEqDiff, ↓reduceIte, reduceCtorEq, Nat.zero_add, Nat.reduceAdd]
      refine awp_sr [] (by rw [hC]; rfl) fun k hk => ?_
      simp (maxSteps := 4000000) (disch := first | omega | (simp only [lens]; omega)) only [argSl, argA_nil, argA_cons, am, ↓amb, aml, mark_eq, lo, ← List.map_take, ← List.map_drop, ← List.map_append, ↓reduceIte, reduceCtorEq, Int.reduceBEq, Int.reduceBNe, Int.reduceToNat, Nat.reduceEqDiff, Nat.reduceAdd, Nat.reduceSub, Nat.reduceMul, Nat.reduceDiv, Nat.reduceMod, Nat.reduceLeDiff, Nat.reduceBEq, taskC, lV, evC, planC, picksV, wayC, edgeC, askC, batchC]
      (repeat (refine ⟨by first | omega | (simp; done) | assumption | (unfold maxLen; omega) | (simp [maxLen]; omega), ?_⟩)); refine hk _ ?_; clear hk; clear k
      refine awp_block ?_
      refine awp_loop (σ := Nat) (fun i => i ≤ l.length) (fun (i : Nat) => ⟨[(0, (.p (.seq false (l.map (batchC false false))))), (3, (.ptr 0 5 0 0)), (5, (.p (iV (Pl.stB (l.take i) w)))), (6, (.p (iV i)))], [(0, (.row 5 [[.p (iV w.bits), .p (iV w.block), .p (iV w.plan.grain), .p (iV w.plan.workers), .p (.seq false (w.plan.picks.map fun q => [iV q.1, iV q.2]))]]))], 1⟩) (fun i => l.length - i) 0 ?_ ?_ fun i hi => ?_
      · exact Nat.zero_le _
      · exact le_of [(0, _)] (by rfl) (by rfl) ⟨⟨_, rfl, .p (.of_eq (by first | rfl | (simp only [PV.lit.injEq, Value.int.injEq, true_and]; omega) | (simp; done) | (simp; omega)))⟩, ⟨_, rfl, .ptr rfl⟩, ⟨_, rfl, .p (.of_eq (by first | rfl | (simp only [PV.lit.injEq, Value.int.injEq, true_and]; omega)))⟩, ⟨_, rfl, .p (.of_eq (by first | rfl | (simp only [PV.lit.injEq, Value.int.injEq, true_and]; omega) | (simp; done) | (simp; omega)))⟩, trivial⟩ ⟨⟨_, rfl, _, rfl, .one (.cons (.p (.refl _)) (.cons (.p (.refl _)) (.cons (.p (.refl _)) (.cons (.p (.refl _)) (.cons (.p (.refl _)) (.nil))))))⟩, trivial⟩
      refine awp_seq fun k5 h5 => ?_
      refine awp_le (le_keep [0, 3, 4, 5, 6]) ?_
      simp only [keepL_nil, keepL_cons, keepM_some, keepM_none, argSl, lkp_cons, lkp_nil, Nat.reduceEqDiff, ↓reduceIte, reduceCtorEq, Nat.zero_add, Nat.reduceAdd]
      refine awp_sr [] (by rw [hC]; rfl) fun k hk => ?_
      simp (maxSteps := 4000000) (disch := first | omega | (simp only [lens]; omega)) only [argSl, argA_nil, argA_cons, am, ↓amb, aml, mark_eq, lo, ← List.map_take, ← List.map_drop, ← List.map_append, ↓reduceIte, reduceCtorEq, Int.reduceBEq, Int.reduceBNe, Int.reduceToNat, Nat.reduceEqDiff, Nat.reduceAdd, Nat.reduceSub, Nat.reduceMul, Nat.reduceDiv, Nat.reduceMod, Nat.reduceLeDiff, Nat.reduceBEq, el31, taskC, lV, evC, planC, picksV, wayC, edgeC, askC, batchC]
      (repeat (refine ⟨by first | omega | (simp; done) | assumption | (unfold maxLen; omega) | (simp [maxLen]; omega), ?_⟩)); refine hk _ ?_; clear hk; clear k
      refine awp_cond rfl (fun hb => ?_) (fun hb => ?_)
      · -- branch 5
        try simp only [decide_eq_true_eq, decide_eq_false_iff_not, Int.not_lt, Int.not_le, beq_iff_eq, bne_iff_ne, ne_eq, beq_eq_false_iff_ne, bne_eq_false_iff_eq, Bool.not_eq_true, Bool.not_eq_false, Bool.not_true, Bool.not_false, Bool.not_eq_false', Bool.not_eq_true', Decidable.not_not] at hb
        refine awp_skip ?_
        refine h5 _ ?_; clear h5; clear k5
        refine awp_seq fun k6 h6 => ?_
        refine awp_block ?_
        refine awp_seq fun k7 h7 => ?_
        refine awp_le (le_keep [0, 3, 4, 5, 6]) ?_
        simp only [keepL_nil, keepL_cons, keepM_some, keepM_none, argSl, lkp_cons, lkp_nil, Nat.reduceEqDiff, ↓reduceIte, reduceCtorEq, Nat.zero_add, Nat.reduceAdd]
        refine awp_sd [] ⟨[0, 0, 3, 7, 15, 31, 0, 0, 192, 448, 960, 1984, 4095, 8191], [4, 5, 10, 11], [], [], some []⟩ (by rw [hC]; rfl) (by kernel_rfl) (by kernel_rfl) fun k hk => ?_
        simp (maxSteps := 4000000) (disch := first | omega | (simp only [lens]; omega)) only [argSl, argA_nil, argA_cons, am, ↓amb, aml, mark_eq, lo, ← List.map_take, ← List.map_drop, ← List.map_append, ↓reduceIte, reduceCtorEq, Int.reduceBEq, Int.reduceBNe, Int.reduceToNat, Nat.reduceEqDiff, Nat.reduceAdd, Nat.reduceSub, Nat.reduceMul, Nat.reduceDiv, Nat.reduceMod, Nat.reduceLeDiff, Nat.reduceBEq, el31, sz27, fl27_1, sz24, el24, fl27_2, sz25, el25, taskC, lV, evC, planC, picksV, wayC, edgeC, askC, batchC]
        (repeat (refine ⟨by first | omega | (simp; done) | assumption | (unfold maxLen; omega) | (simp [maxLen]; omega), ?_⟩)); refine hk _ ?_; clear hk; clear k
        refine awp_cond rfl (fun hb => ?_) (fun hb => ?_)
        · -- branch 6
          try simp only [decide_eq_true_eq, decide_eq_false_iff_not, Int.not_lt, Int.not_le, beq_iff_eq, bne_iff_ne, ne_eq, beq_eq_false_iff_ne, bne_eq_false_iff_eq, Bool.not_eq_true, Bool.not_eq_false, Bool.not_true, Bool.not_false, Bool.not_eq_false', Bool.not_eq_true', Decidable.not_not] at hb
          refine awp_le (le_keep []) ?_
          simp only [keepL_nil, keepL_cons, keepM_some, keepM_none, argSl, lkp_cons, lkp_nil, Nat.reduceEqDiff, ↓reduceIte, reduceCtorEq, Nat.zero_add, Nat.reduceAdd]
          refine awp_sr [] (by rw [hC]; rfl) fun k hk => ?_
          simp (maxSteps := 4000000) (disch := first | omega | (simp only [lens]; omega)) only [argSl, argA_nil, argA_cons, am, ↓amb, aml, mark_eq, lo, ← List.map_take, ← List.map_drop, ← List.map_append, ↓reduceIte, reduceCtorEq, Int.reduceBEq, Int.reduceBNe, Int.reduceToNat, Nat.reduceEqDiff, Nat.reduceAdd, Nat.reduceSub, Nat.reduceMul, Nat.reduceDiv, Nat.reduceMod, Nat.reduceLeDiff, Nat.reduceBEq, taskC, lV, evC, planC, picksV, wayC, edgeC, askC, batchC]
          (repeat (refine ⟨by first | omega | (simp; done) | assumption | (unfold maxLen; omega) | (simp [maxLen]; omega), ?_⟩)); refine hk _ ?_; clear hk; clear k
          refine awp_ret ?_
          refine ret1 rfl rfl ?_
          exact .p (LeP.refl _)
        · -- branch 7
          try simp only [decide_eq_true_eq, decide_eq_false_iff_not, Int.not_lt, Int.not_le, beq_iff_eq, bne_iff_ne, ne_eq, beq_eq_false_iff_ne, bne_eq_false_iff_eq, Bool.not_eq_true, Bool.not_eq_false, Bool.not_true, Bool.not_false, Bool.not_eq_false', Bool.not_eq_true', Decidable.not_not] at hb
          refine awp_skip ?_
          refine h7 _ ?_; clear h7; clear k7
          have q1 := Pl.baB_nn (l.getD i default) w
          have q2 := Pl.stB_nn w (l.take i)
          have q3 := Pl.stB_take l w i (by omega)
          have q4 : (l.take i).length ≤ 1000 := by rw [List.length_take]; omega
          refine awp_draw [] ⟨[0, 0, 0, 6, 14, 0, 62, 127, 255], [4, 5], [], [], some []⟩ (by rw [hC]; rfl) (by kernel_rfl) (by kernel_rfl) fun k hk => ?_
          simp (maxSteps := 4000000) (disch := first | omega | (simp only [lens]; omega)) only [argSl, argA_nil, argA_cons, am, ↓amb, aml, mark_eq, lo, ← List.map_take, ← List.map_drop, ← List.map_append, ↓reduceIte, reduceCtorEq, Int.reduceBEq, Int.reduceBNe, Int.reduceToNat, Nat.reduceEqDiff, Nat.reduceAdd, Nat.reduceSub, Nat.reduceMul, Nat.reduceDiv, Nat.reduceMod, Nat.reduceLeDiff, Nat.reduceBEq, el31, sz27, sz53, en36, taskC, lV, evC, planC, picksV, wayC, edgeC, askC, batchC]
          (repeat (refine ⟨by first | omega | (simp; done) | assumption | (unfold maxLen; omega) | (simp [maxLen]; omega), ?_⟩))
          refine callK_p (c_bound_Batch _ _ _ _ w) rfl ?_
          simp (maxSteps := 4000000) (disch := first | omega | (simp only [lens]; omega)) only [argSl, argA_nil, argA_cons, am, ↓amb, aml, mark_eq, lo, ← List.map_take, ← List.map_drop, ← List.map_append, ↓reduceIte, reduceCtorEq, Int.reduceBEq, Int.reduceBNe, Int.reduceToNat, Nat.reduceEqDiff, Nat.reduceAdd, Nat.reduceSub, Nat.reduceMul, Nat.reduceDiv, Nat.reduceMod, Nat.reduceLeDiff, Nat.reduceBEq, el31, sz27, sz53, en36, taskC, lV, evC, planC, picksV, wayC, edgeC, askC, batchC]
          (repeat (refine ⟨by first | omega | (simp; done) | assumption | (unfold maxLen; omega) | (simp [maxLen]; omega), ?_⟩)); refine hk _ ?_; clear hk; clear k
          refine h6 _ ?_; clear h6; clear k6
          refine awp_region [] (by rw [hC]; rfl) fun k hk => ?_
          simp (maxSteps := 4000000) (disch := first | omega | (simp only [lens]; omega)) only [argSl, argA_nil, argA_cons, am, ↓amb, aml, mark_eq, lo, ← List.map_take, ← List.map_drop, ← List.map_append, ↓reduceIte, reduceCtorEq, Int.reduceBEq, Int.reduceBNe, Int.reduceToNat, Nat.reduceEqDiff, Nat.reduceAdd, Nat.reduceSub, Nat.reduceMul, Nat.reduceDiv, Nat.reduceMod, Nat.reduceLeDiff, Nat.reduceBEq, taskC, lV, evC, planC, picksV, wayC, edgeC, askC, batchC]
          (repeat (refine ⟨by first | omega | (simp; done) | assumption | (unfold maxLen; omega) | (simp [maxLen]; omega), ?_⟩)); refine hk _ ?_; clear hk; clear k
          refine ⟨i + 1, by omega, le_of [(0, _)] (by rfl) (by rfl) ⟨⟨_, rfl, .p (.of_eq (by first | rfl | (simp only [PV.lit.injEq, Value.int.injEq, true_and]; omega) | (simp; done) | (simp; omega)))⟩, ⟨_, rfl, .ptr rfl⟩, ⟨_, rfl, .p (.of_eq (by first | rfl | (simp only [PV.lit.injEq, Value.int.injEq, true_and]; omega)))⟩, ⟨_, rfl, .p (.of_eq (by first | rfl | (simp only [PV.lit.injEq, Value.int.injEq, true_and]; omega) | (simp; done) | (simp; omega)))⟩, trivial⟩ ⟨⟨_, rfl, _, rfl, .one (.cons (.p (.refl _)) (.cons (.p (.refl _)) (.cons (.p (.refl _)) (.cons (.p (.refl _)) (.cons (.p (.refl _)) (.nil))))))⟩, trivial⟩, by omega⟩
      · -- branch 8
        try simp only [decide_eq_true_eq, decide_eq_false_iff_not, Int.not_lt, Int.not_le, beq_iff_eq, bne_iff_ne, ne_eq, beq_eq_false_iff_ne, bne_eq_false_iff_eq, Bool.not_eq_true, Bool.not_eq_false, Bool.not_true, Bool.not_false, Bool.not_eq_false', Bool.not_eq_true', Decidable.not_not] at hb
        refine awp_exit ((if_pos rfl).mpr ?_)
        refine h3 _ ?_; clear h5; clear k5; clear h3; clear k3
        have htk : l.take i = l := List.take_of_length_le (by omega)
        rw [htk]
        have q2 := Pl.stB_nn w l
        refine awp_testD [] ⟨[0, 0, 3, 0, 0, 31, 63, 127, 255, 255, 255, 1791, 4095, 8191, 16383, 32767, 65535, 131071, 262143], [1, 4, 10], [], [(2, 10), (5, 10)], some []⟩ 4 (decide (True)) [] (by rw [hC]; rfl) (by kernel_rfl) (by kernel_rfl) (fun gd hgd k hk => ?_) ?_
        · have g7 : gd 7 = some 54 := by rw [hgd]; rfl
          have g14 : gd 14 = some 61 := by rw [hgd]; rfl
          clear hgd
          simp (maxSteps := 4000000) (disch := first | omega | (simp only [lens]; omega)) only [argSl, argA_nil, argA_cons, am, ↓amb, aml, mark_eq, lo, ← List.map_take, ← List.map_drop, ← List.map_append, ↓reduceIte, reduceCtorEq, Int.reduceBEq, Int.reduceBNe, Int.reduceToNat, Nat.reduceEqDiff, Nat.reduceAdd, Nat.reduceSub, Nat.reduceMul, Nat.reduceDiv, Nat.reduceMod, Nat.reduceLeDiff, Nat.reduceBEq, sz53, en38, en39, gcase_undef, g7, g14, taskC, lV, evC, planC, picksV, wayC, edgeC, askC, batchC]
          repeat' first | refine hk _ _ rfl rfl rfl rfl ?_ | (refine gsplit (fun hg => ?_) (fun hg => ?_) <;> (try simp only [decide_eq_true_eq, decide_eq_false_iff_not, Int.not_lt, Int.not_le, beq_iff_eq, bne_iff_ne, ne_eq, beq_eq_false_iff_ne, bne_eq_false_iff_eq, Bool.not_eq_true, Bool.not_eq_false, Bool.not_true, Bool.not_false, Bool.not_eq_false', Bool.not_eq_true', Decidable.not_not] at hg) <;> simp (maxSteps := 4000000) (disch := first | omega | (simp only [lens]; omega)) only [argSl, argA_nil, argA_cons, am, ↓amb, aml, mark_eq, lo, ← List.map_take, ← List.map_drop, ← List.map_append, ↓reduceIte, reduceCtorEq, Int.reduceBEq, Int.reduceBNe, Int.reduceToNat, Nat.reduceEqDiff, Nat.reduceAdd, Nat.reduceSub, Nat.reduceMul, Nat.reduceDiv, Nat.reduceMod, Nat.reduceLeDiff, Nat.reduceBEq, sz53, en38, en39, gcase_undef, g7, g14, taskC, lV, evC, planC, picksV, wayC, edgeC, askC, batchC]) | apply And.intro | (refine callK_p (c_bound_Stream false false false false l w (by omega)) rfl ?_; (try simp (maxSteps := 4000000) (disch := first | omega | (simp only [lens]; omega)) only [argSl, argA_nil, argA_cons, am, ↓amb, aml, mark_eq, lo, ← List.map_take, ← List.map_drop, ← List.map_append, ↓reduceIte, reduceCtorEq, Int.reduceBEq, Int.reduceBNe, Int.reduceToNat, Nat.reduceEqDiff, Nat.reduceAdd, Nat.reduceSub, Nat.reduceMul, Nat.reduceDiv, Nat.reduceMod, Nat.reduceLeDiff, Nat.reduceBEq, sz53, en38, en39, gcase_undef, g7, g14, taskC, lV, evC, planC, picksV, wayC, edgeC, askC, batchC])) | (refine callK_p (c_ref31_Stream false false false false l w (by omega)) rfl ?_; (try simp (maxSteps := 4000000) (disch := first | omega | (simp only [lens]; omega)) only [argSl, argA_nil, argA_cons, am, ↓amb, aml, mark_eq, lo, ← List.map_take, ← List.map_drop, ← List.map_append, ↓reduceIte, reduceCtorEq, Int.reduceBEq, Int.reduceBNe, Int.reduceToNat, Nat.reduceEqDiff, Nat.reduceAdd, Nat.reduceSub, Nat.reduceMul, Nat.reduceDiv, Nat.reduceMod, Nat.reduceLeDiff, Nat.reduceBEq, sz53, en38, en39, gcase_undef, g7, g14, taskC, lV, evC, planC, picksV, wayC, edgeC, askC, batchC])) | (refine callK_p (c_bound_Stream false false false false l w (by omega)) rfl ?_; (try simp (maxSteps := 4000000) (disch := first | omega | (simp only [lens]; omega)) only [argSl, argA_nil, argA_cons, am, ↓amb, aml, mark_eq, lo, ← List.map_take, ← List.map_drop, ← List.map_append, ↓reduceIte, reduceCtorEq, Int.reduceBEq, Int.reduceBNe, Int.reduceToNat, Nat.reduceEqDiff, Nat.reduceAdd, Nat.reduceSub, Nat.reduceMul, Nat.reduceDiv, Nat.reduceMod, Nat.reduceLeDiff, Nat.reduceBEq, sz53, en38, en39, gcase_undef, g7, g14, taskC, lV, evC, planC, picksV, wayC, edgeC, askC, batchC])) | fail
          all_goals first | rfl | omega | exact (decide_eq_true (by omega)).symm | exact (decide_eq_false (by omega)).symm | exact decide_eq_decide.mpr (by omega) | (refine Bool.eq_iff_iff.mpr ?_; simp only [beq_iff_eq, bne_iff_ne, ne_eq, decide_eq_true_eq]; omega) | (refine Bool.eq_iff_iff.mpr ?_; simp only [Bool.not_eq_true', Bool.not_eq_false', decide_eq_false_iff_not, decide_eq_true_eq, beq_iff_eq, bne_iff_ne, ne_eq]; omega) | assumption | (simp; done) | (simp [maxLen]; omega) | skip
        simp only [keepL_nil, keepL_cons, keepM_some, keepM_none, argSl, argA_nil, argA_cons, lkp_cons, lkp_nil, Nat.reduceEqDiff, ↓reduceIte, reduceCtorEq, Nat.zero_add, Nat.reduceAdd, List.length_cons, List.length_nil]
        refine awp_ret ?_
        refine ret1 rfl rfl ?_
        exact .p (LeP.refl _)
end Go.Proofs.Ytjkkjiaeeobnkaa
