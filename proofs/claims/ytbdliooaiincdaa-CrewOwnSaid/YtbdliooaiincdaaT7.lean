/-
  The functions of the tasks: what each answers.
-/
import Derived.Test.YtbdliooaiincdaaT3
import Derived.Test.YtbdliooaiincdaaP1
set_option linter.unusedSimpArgs false
set_option linter.unusedVariables false
set_option maxRecDepth 100000
namespace Go.Proofs.Ytbdliooaiincdaa
open Go.Am Go.Proofs
theorem ar43 : tArr Try.prog 43 = some (2, 1, false) := by kernel_rfl
theorem el43 : tEl Try.prog 43 = none := by kernel_rfl
theorem en26 : enters Try.prog 26 = true := by kernel_rfl
theorem en29 : enters Try.prog 29 = true := by kernel_rfl
theorem en31 : enters Try.prog 31 = true := by kernel_rfl
theorem en33 : enters Try.prog 33 = true := by kernel_rfl
theorem en36 : enters Try.prog 36 = true := by kernel_rfl
set_option maxHeartbeats 4000000 in
theorem c27p (c d : Bool) (w : Pl.Work) (h1 : w.ts.length ≤ 1000000) (h2 : w.done.length ≤ 1000000) : PCall Try.prog 27 [workV c d w] (workV false false w) := by
  refine pcall_of_awp Try.func27 rfl (by simp [Try.ntmps27]) fun C hC => ?_
  refine awp_sr [6, 12] (by rw [hC]; rfl) fun k hk => ?_
  simp (maxSteps := 4000000) (disch := first | omega | (simp only [lens]; omega)) only [argSl, argA_nil, argA_cons, am, ↓amb, aml, mark_eq, lo, ← List.map_take, ← List.map_drop, ← List.map_append, ↓reduceIte, reduceCtorEq, Int.reduceBEq, Int.reduceBNe, Int.reduceToNat, Nat.reduceEqDiff, Nat.reduceAdd, Nat.reduceSub, Nat.reduceMul, Nat.reduceDiv, Nat.reduceMod, Nat.reduceLeDiff, Nat.reduceBEq, vr42, taskC]
  (repeat (refine ⟨by first | omega | (simp; done) | assumption | (unfold maxLen; omega) | (simp [maxLen]; omega), ?_⟩)); refine hk _ ?_; clear hk; clear k
  refine awp_sd [6, 12] ⟨[0, 0, 2, 7, 0, 16, 0, 0, 128, 463, 1023, 2047], [2, 3, 5, 8, 9], [11], [(3, 9), (3, 11), (9, 11)], none⟩ (by rw [hC]; rfl) (by kernel_rfl) (by kernel_rfl) fun k hk => ?_
  simp (maxSteps := 4000000) (disch := first | omega | (simp only [lens]; omega)) only [argSl, argA_nil, argA_cons, am, ↓amb, aml, mark_eq, lo, ← List.map_take, ← List.map_drop, ← List.map_append, ↓reduceIte, reduceCtorEq, Int.reduceBEq, Int.reduceBNe, Int.reduceToNat, Nat.reduceEqDiff, Nat.reduceAdd, Nat.reduceSub, Nat.reduceMul, Nat.reduceDiv, Nat.reduceMod, Nat.reduceLeDiff, Nat.reduceBEq, el40, vr60, fl42_0, sz40, by60, fl42_1, sz3, el36, vr4, fl42_2, sz36, by4, vr42, bt42, pl42_0, pl42_1, pl42_2, sz42, taskC]
  (repeat (refine ⟨by first | omega | (simp; done) | assumption | (unfold maxLen; omega) | (simp [maxLen]; omega), ?_⟩)); refine hk _ ?_; clear hk; clear k
  refine awp_ret ?_
  refine retone rfl (retc rfl sz42 ?_)
  simp (maxSteps := 4000000) (disch := first | omega | (simp only [lens]; omega)) only [argSl, argA_nil, argA_cons, am, ↓amb, aml, mark_eq, lo, ← List.map_take, ← List.map_drop, ← List.map_append, ↓reduceIte, reduceCtorEq, Int.reduceBEq, Int.reduceBNe, Int.reduceToNat, Nat.reduceEqDiff, Nat.reduceAdd, Nat.reduceSub, Nat.reduceMul, Nat.reduceDiv, Nat.reduceMod, Nat.reduceLeDiff, Nat.reduceBEq, sz42, taskC]
  exact .agg_cons (.ownE rfl rfl) (.agg_cons (.p (LeP.refl _)) (.agg_cons (.ownE rfl rfl) (.agg_nil)))
set_option maxHeartbeats 4000000 in
theorem c32p (n g : Int) : PCall Try.prog 32 [iV n, iV g] (.tup [workV false false (Pl.beginW n g), iV (Pl.beginE n g)]) := by
  refine pcall_of_awp Try.func32 rfl (by simp [Try.ntmps32]) fun C hC => ?_
  refine awp_sr [16] (by rw [hC]; rfl) fun k hk => ?_
  simp (maxSteps := 4000000) (disch := first | omega | (simp only [lens]; omega)) only [argSl, argA_nil, argA_cons, am, ↓amb, aml, mark_eq, lo, ← List.map_take, ← List.map_drop, ← List.map_append, ↓reduceIte, reduceCtorEq, Int.reduceBEq, Int.reduceBNe, Int.reduceToNat, Nat.reduceEqDiff, Nat.reduceAdd, Nat.reduceSub, Nat.reduceMul, Nat.reduceDiv, Nat.reduceMod, Nat.reduceLeDiff, Nat.reduceBEq, vr42, taskC]
  (repeat (refine ⟨by first | omega | (simp; done) | assumption | (unfold maxLen; omega) | (simp [maxLen]; omega), ?_⟩)); refine hk _ ?_; clear hk; clear k
  refine awp_seq fun k1 h1 => ?_
  refine awp_sr [16] (by rw [hC]; rfl) fun k hk => ?_
  simp (maxSteps := 4000000) (disch := first | omega | (simp only [lens]; omega)) only [argSl, argA_nil, argA_cons, am, ↓amb, aml, mark_eq, lo, ← List.map_take, ← List.map_drop, ← List.map_append, ↓reduceIte, reduceCtorEq, Int.reduceBEq, Int.reduceBNe, Int.reduceToNat, Nat.reduceEqDiff, Nat.reduceAdd, Nat.reduceSub, Nat.reduceMul, Nat.reduceDiv, Nat.reduceMod, Nat.reduceLeDiff, Nat.reduceBEq, en55, taskC]
  (repeat (refine ⟨by first | omega | (simp; done) | assumption | (unfold maxLen; omega) | (simp [maxLen]; omega), ?_⟩))
  refine callK_p (c55 _ _) rfl ?_
  simp (maxSteps := 4000000) (disch := first | omega | (simp only [lens]; omega)) only [argSl, argA_nil, argA_cons, am, ↓amb, aml, mark_eq, lo, ← List.map_take, ← List.map_drop, ← List.map_append, ↓reduceIte, reduceCtorEq, Int.reduceBEq, Int.reduceBNe, Int.reduceToNat, Nat.reduceEqDiff, Nat.reduceAdd, Nat.reduceSub, Nat.reduceMul, Nat.reduceDiv, Nat.reduceMod, Nat.reduceLeDiff, Nat.reduceBEq, en55, taskC]
  (repeat (refine ⟨by first | omega | (simp; done) | assumption | (unfold maxLen; omega) | (simp [maxLen]; omega), ?_⟩)); refine hk _ ?_; clear hk; clear k
  refine awp_cond rfl (fun hb => ?_) (fun hb => ?_)
  · -- branch 1
    try simp only [decide_eq_true_eq, decide_eq_false_iff_not, Int.not_lt, Int.not_le, beq_iff_eq, bne_iff_ne, ne_eq, beq_eq_false_iff_ne, bne_eq_false_iff_eq, Bool.not_eq_true, Bool.not_eq_false, Bool.not_true, Bool.not_false, Bool.not_eq_false', Bool.not_eq_true', Decidable.not_not] at hb
    refine awp_sr [16] (by rw [hC]; rfl) fun k hk => ?_
    simp (maxSteps := 4000000) (disch := first | omega | (simp only [lens]; omega)) only [argSl, argA_nil, argA_cons, am, ↓amb, aml, mark_eq, lo, ← List.map_take, ← List.map_drop, ← List.map_append, ↓reduceIte, reduceCtorEq, Int.reduceBEq, Int.reduceBNe, Int.reduceToNat, Nat.reduceEqDiff, Nat.reduceAdd, Nat.reduceSub, Nat.reduceMul, Nat.reduceDiv, Nat.reduceMod, Nat.reduceLeDiff, Nat.reduceBEq, vr42, bt42, sz42, taskC]
    (repeat (refine ⟨by first | omega | (simp; done) | assumption | (unfold maxLen; omega) | (simp [maxLen]; omega), ?_⟩)); refine hk _ ?_; clear hk; clear k
    refine awp_ret ?_
    have e1 : Pl.beginW n g = ⟨[], 0, []⟩ := by rw [Pl.beginW, if_neg hb]
    have e2 : Pl.beginE n g = 1 := by rw [Pl.beginE, if_neg hb]
    rw [e1, e2]
    refine retl rfl rfl ⟨retc rfl sz42 ?_, rett rfl ?_, trivial⟩
    simp (maxSteps := 4000000) (disch := first | omega | (simp only [lens]; omega)) only [argSl, argA_nil, argA_cons, am, ↓amb, aml, mark_eq, lo, ← List.map_take, ← List.map_drop, ← List.map_append, ↓reduceIte, reduceCtorEq, Int.reduceBEq, Int.reduceBNe, Int.reduceToNat, Nat.reduceEqDiff, Nat.reduceAdd, Nat.reduceSub, Nat.reduceMul, Nat.reduceDiv, Nat.reduceMod, Nat.reduceLeDiff, Nat.reduceBEq, sz42, taskC]
    · exact .p (LeP.agg (.cons (LeP.seq _ _) (.cons (LeP.refl _) (.cons (LeP.seq _ _) .nil))))
    · exact .p (LeP.refl _)
  · -- branch 2
    try simp only [decide_eq_true_eq, decide_eq_false_iff_not, Int.not_lt, Int.not_le, beq_iff_eq, bne_iff_ne, ne_eq, beq_eq_false_iff_ne, bne_eq_false_iff_eq, Bool.not_eq_true, Bool.not_eq_false, Bool.not_true, Bool.not_false, Bool.not_eq_false', Bool.not_eq_true', Decidable.not_not] at hb
    refine awp_skip ?_
    refine h1 _ ?_; clear h1; clear k1
    have hb1 := hb
    simp only [Pl.cnt] at hb1
    refine awp_sr [16] (by rw [hC]; rfl) fun k hk => ?_
    simp (maxSteps := 4000000) (disch := first | omega | (simp only [lens]; omega)) only [argSl, argA_nil, argA_cons, am, ↓amb, aml, mark_eq, lo, ← List.map_take, ← List.map_drop, ← List.map_append, ↓reduceIte, reduceCtorEq, Int.reduceBEq, Int.reduceBNe, Int.reduceToNat, Nat.reduceEqDiff, Nat.reduceAdd, Nat.reduceSub, Nat.reduceMul, Nat.reduceDiv, Nat.reduceMod, Nat.reduceLeDiff, Nat.reduceBEq, vr60, bt60, pl60_1, pl60_2, el40, el36, by4, vr4, vr42, bt42, pl42_0, pl42_1, pl42_2, sz42, taskC]
    (repeat (refine ⟨by first | omega | (simp; done) | assumption | (unfold maxLen; omega) | (simp [maxLen]; omega), ?_⟩)); refine hk _ ?_; clear hk; clear k
    refine awp_ret ?_
    have e1 : Pl.beginW n g = ⟨[⟨0, n, -1, 0⟩], g, List.replicate n.toNat false⟩ := by rw [Pl.beginW, if_pos hb]
    have e2 : Pl.beginE n g = 0 := by rw [Pl.beginE, if_pos hb]
    rw [e1, e2]
    refine retl rfl rfl ⟨retc rfl sz42 ?_, rett rfl ?_, trivial⟩
    simp (maxSteps := 4000000) (disch := first | omega | (simp only [lens]; omega)) only [argSl, argA_nil, argA_cons, am, ↓amb, aml, mark_eq, lo, ← List.map_take, ← List.map_drop, ← List.map_append, ↓reduceIte, reduceCtorEq, Int.reduceBEq, Int.reduceBNe, Int.reduceToNat, Nat.reduceEqDiff, Nat.reduceAdd, Nat.reduceSub, Nat.reduceMul, Nat.reduceDiv, Nat.reduceMod, Nat.reduceLeDiff, Nat.reduceBEq, sz42, taskC]
    · exact .agg_cons (.p (LeP.sq rfl)) (.agg_cons (.p (LeP.refl _)) (.agg_cons (.ownE rfl (by simp)) (.agg_nil)))
    · exact .p (LeP.refl _)
set_option maxHeartbeats 4000000 in
theorem c33p (n g : Int) : PCall Try.prog 33 [iV n, iV g] (.tup [workV false false (Pl.beginW n g), iV (Pl.beginE n g)]) := by
  refine pcall_of_awp Try.func33 rfl (by simp [Try.ntmps33]) fun C hC => ?_
  refine awp_sr [26] (by rw [hC]; rfl) fun k hk => ?_
  simp (maxSteps := 4000000) (disch := first | omega | (simp only [lens]; omega)) only [argSl, argA_nil, argA_cons, am, ↓amb, aml, mark_eq, lo, ← List.map_take, ← List.map_drop, ← List.map_append, ↓reduceIte, reduceCtorEq, Int.reduceBEq, Int.reduceBNe, Int.reduceToNat, Nat.reduceEqDiff, Nat.reduceAdd, Nat.reduceSub, Nat.reduceMul, Nat.reduceDiv, Nat.reduceMod, Nat.reduceLeDiff, Nat.reduceBEq, vr42, taskC]
  (repeat (refine ⟨by first | omega | (simp; done) | assumption | (unfold maxLen; omega) | (simp [maxLen]; omega), ?_⟩)); refine hk _ ?_; clear hk; clear k
  refine awp_seq fun k1 h1 => ?_
  refine awp_test [26] 19 (decide (¬ Pl.cnt n g)) [0, 1, 4, 5] (by rw [hC]; rfl) (fun gd hgd k hk => ?_) ?_
  · have g2 : gd 2 = some 8 := by rw [hgd]; rfl
    have g6 : gd 6 = some 12 := by rw [hgd]; rfl
    have g10 : gd 10 = some 16 := by rw [hgd]; rfl
    clear hgd
    simp (maxSteps := 4000000) (disch := first | omega | (simp only [lens]; omega)) only [argSl, argA_nil, argA_cons, am, ↓amb, aml, mark_eq, lo, ← List.map_take, ← List.map_drop, ← List.map_append, ↓reduceIte, reduceCtorEq, Int.reduceBEq, Int.reduceBNe, Int.reduceToNat, Nat.reduceEqDiff, Nat.reduceAdd, Nat.reduceSub, Nat.reduceMul, Nat.reduceDiv, Nat.reduceMod, Nat.reduceLeDiff, Nat.reduceBEq, gcase_undef, g2, g6, g10, taskC]
    repeat' first | refine hk _ _ rfl rfl rfl rfl ?_ | (refine gsplit (fun hg => ?_) (fun hg => ?_) <;> (try simp only [decide_eq_true_eq, decide_eq_false_iff_not, Int.not_lt, Int.not_le, beq_iff_eq, bne_iff_ne, ne_eq, beq_eq_false_iff_ne, bne_eq_false_iff_eq, Bool.not_eq_true, Bool.not_eq_false, Bool.not_true, Bool.not_false, Bool.not_eq_false', Bool.not_eq_true', Decidable.not_not] at hg) <;> simp (maxSteps := 4000000) (disch := first | omega | (simp only [lens]; omega)) only [argSl, argA_nil, argA_cons, am, ↓amb, aml, mark_eq, lo, ← List.map_take, ← List.map_drop, ← List.map_append, ↓reduceIte, reduceCtorEq, Int.reduceBEq, Int.reduceBNe, Int.reduceToNat, Nat.reduceEqDiff, Nat.reduceAdd, Nat.reduceSub, Nat.reduceMul, Nat.reduceDiv, Nat.reduceMod, Nat.reduceLeDiff, Nat.reduceBEq, gcase_undef, g2, g6, g10, taskC]) | apply And.intro | fail
    all_goals first | rfl | omega | exact (decide_eq_true (by (try simp only [Pl.cnt] at *); omega)).symm | exact (decide_eq_false (by (try simp only [Pl.cnt] at *); omega)).symm | exact decide_eq_decide.mpr (by (try simp only [Pl.cnt] at *); omega) | (refine Bool.eq_iff_iff.mpr ?_; (try simp only [Pl.cnt] at *); simp only [beq_iff_eq, bne_iff_ne, ne_eq, decide_eq_true_eq]; omega) | assumption | (simp; done) | (simp [maxLen]; omega) | skip
  simp only [keepL_nil, keepL_cons, keepM_some, keepM_none, argSl, argA_nil, argA_cons, lkp_cons, lkp_nil, Nat.reduceEqDiff, ↓reduceIte, reduceCtorEq, Nat.zero_add, Nat.reduceAdd, List.length_cons, List.length_nil]
  refine awp_cond rfl (fun hb => ?_) (fun hb => ?_)
  · -- branch 1
    try simp only [decide_eq_true_eq, decide_eq_false_iff_not, Int.not_lt, Int.not_le, beq_iff_eq, bne_iff_ne, ne_eq, beq_eq_false_iff_ne, bne_eq_false_iff_eq, Bool.not_eq_true, Bool.not_eq_false, Bool.not_true, Bool.not_false, Bool.not_eq_false', Bool.not_eq_true', Decidable.not_not] at hb
    refine awp_sr [26] (by rw [hC]; rfl) fun k hk => ?_
    simp (maxSteps := 4000000) (disch := first | omega | (simp only [lens]; omega)) only [argSl, argA_nil, argA_cons, am, ↓amb, aml, mark_eq, lo, ← List.map_take, ← List.map_drop, ← List.map_append, ↓reduceIte, reduceCtorEq, Int.reduceBEq, Int.reduceBNe, Int.reduceToNat, Nat.reduceEqDiff, Nat.reduceAdd, Nat.reduceSub, Nat.reduceMul, Nat.reduceDiv, Nat.reduceMod, Nat.reduceLeDiff, Nat.reduceBEq, vr42, bt42, sz42, taskC]
    (repeat (refine ⟨by first | omega | (simp; done) | assumption | (unfold maxLen; omega) | (simp [maxLen]; omega), ?_⟩)); refine hk _ ?_; clear hk; clear k
    refine awp_ret ?_
    have e1 : Pl.beginW n g = ⟨[], 0, []⟩ := by rw [Pl.beginW, if_neg hb]
    have e2 : Pl.beginE n g = 1 := by rw [Pl.beginE, if_neg hb]
    rw [e1, e2]
    refine retl rfl rfl ⟨retc rfl sz42 ?_, rett rfl ?_, trivial⟩
    simp (maxSteps := 4000000) (disch := first | omega | (simp only [lens]; omega)) only [argSl, argA_nil, argA_cons, am, ↓amb, aml, mark_eq, lo, ← List.map_take, ← List.map_drop, ← List.map_append, ↓reduceIte, reduceCtorEq, Int.reduceBEq, Int.reduceBNe, Int.reduceToNat, Nat.reduceEqDiff, Nat.reduceAdd, Nat.reduceSub, Nat.reduceMul, Nat.reduceDiv, Nat.reduceMod, Nat.reduceLeDiff, Nat.reduceBEq, sz42, taskC]
    · exact .p (LeP.agg (.cons (LeP.seq _ _) (.cons (LeP.refl _) (.cons (LeP.seq _ _) .nil))))
    · exact .p (LeP.refl _)
  · -- branch 2
    try simp only [decide_eq_true_eq, decide_eq_false_iff_not, Int.not_lt, Int.not_le, beq_iff_eq, bne_iff_ne, ne_eq, beq_eq_false_iff_ne, bne_eq_false_iff_eq, Bool.not_eq_true, Bool.not_eq_false, Bool.not_true, Bool.not_false, Bool.not_eq_false', Bool.not_eq_true', Decidable.not_not] at hb
    refine awp_skip ?_
    refine h1 _ ?_; clear h1; clear k1
    have hb1 := hb
    simp only [Pl.cnt] at hb1
    refine awp_sr [26] (by rw [hC]; rfl) fun k hk => ?_
    simp (maxSteps := 4000000) (disch := first | omega | (simp only [lens]; omega)) only [argSl, argA_nil, argA_cons, am, ↓amb, aml, mark_eq, lo, ← List.map_take, ← List.map_drop, ← List.map_append, ↓reduceIte, reduceCtorEq, Int.reduceBEq, Int.reduceBNe, Int.reduceToNat, Nat.reduceEqDiff, Nat.reduceAdd, Nat.reduceSub, Nat.reduceMul, Nat.reduceDiv, Nat.reduceMod, Nat.reduceLeDiff, Nat.reduceBEq, vr60, bt60, pl60_1, pl60_2, el40, el36, by4, vr4, vr42, bt42, pl42_0, pl42_1, pl42_2, sz42, taskC]
    (repeat (refine ⟨by first | omega | (simp; done) | assumption | (unfold maxLen; omega) | (simp [maxLen]; omega), ?_⟩)); refine hk _ ?_; clear hk; clear k
    refine awp_ret ?_
    have e1 : Pl.beginW n g = ⟨[⟨0, n, -1, 0⟩], g, List.replicate n.toNat false⟩ := by rw [Pl.beginW, if_pos hb]
    have e2 : Pl.beginE n g = 0 := by rw [Pl.beginE, if_pos hb]
    rw [e1, e2]
    refine retl rfl rfl ⟨retc rfl sz42 ?_, rett rfl ?_, trivial⟩
    simp (maxSteps := 4000000) (disch := first | omega | (simp only [lens]; omega)) only [argSl, argA_nil, argA_cons, am, ↓amb, aml, mark_eq, lo, ← List.map_take, ← List.map_drop, ← List.map_append, ↓reduceIte, reduceCtorEq, Int.reduceBEq, Int.reduceBNe, Int.reduceToNat, Nat.reduceEqDiff, Nat.reduceAdd, Nat.reduceSub, Nat.reduceMul, Nat.reduceDiv, Nat.reduceMod, Nat.reduceLeDiff, Nat.reduceBEq, sz42, taskC]
    · exact .agg_cons (.p (LeP.sq rfl)) (.agg_cons (.p (LeP.refl _)) (.agg_cons (.ownE rfl (by simp)) (.agg_nil)))
    · exact .p (LeP.refl _)
set_option maxHeartbeats 4000000 in
theorem c7 (w : Pl.Work) (i a b : Int) (hb' : b ≤ 9223372036854775807) : PCall Try.prog 7 [workV false false w, iV i, .agg [iV a, iV b]] (bV true) := by
  refine pcall_of_awp Try.func7 rfl (by simp [Try.ntmps7]) fun C hC => ?_
  refine awp_sr [] (by rw [hC]; rfl) fun k hk => ?_
  simp (maxSteps := 4000000) (disch := first | omega | (simp only [lens]; omega)) only [argSl, argA_nil, argA_cons, am, ↓amb, aml, mark_eq, lo, ← List.map_take, ← List.map_drop, ← List.map_append, ↓reduceIte, reduceCtorEq, Int.reduceBEq, Int.reduceBNe, Int.reduceToNat, Nat.reduceEqDiff, Nat.reduceAdd, Nat.reduceSub, Nat.reduceMul, Nat.reduceDiv, Nat.reduceMod, Nat.reduceLeDiff, Nat.reduceBEq, taskC, beq_self_eq_true, eq_self, decide_true]
  (repeat (refine ⟨by first | omega | (simp; done) | assumption | (unfold maxLen; omega) | (simp [maxLen]; omega), ?_⟩)); refine hk _ ?_; clear hk; clear k
  refine awp_seq fun k1 h1 => ?_
  refine awp_sr [] (by rw [hC]; rfl) fun k hk => ?_
  simp (maxSteps := 4000000) (disch := first | omega | (simp only [lens]; omega)) only [argSl, argA_nil, argA_cons, am, ↓amb, aml, mark_eq, lo, ← List.map_take, ← List.map_drop, ← List.map_append, ↓reduceIte, reduceCtorEq, Int.reduceBEq, Int.reduceBNe, Int.reduceToNat, Nat.reduceEqDiff, Nat.reduceAdd, Nat.reduceSub, Nat.reduceMul, Nat.reduceDiv, Nat.reduceMod, Nat.reduceLeDiff, Nat.reduceBEq, en26, taskC, beq_self_eq_true, eq_self, decide_true]
  (repeat (refine ⟨by first | omega | (simp; done) | assumption | (unfold maxLen; omega) | (simp [maxLen]; omega), ?_⟩))
  refine callK_p (c26) rfl ?_
  simp (maxSteps := 4000000) (disch := first | omega | (simp only [lens]; omega)) only [argSl, argA_nil, argA_cons, am, ↓amb, aml, mark_eq, lo, ← List.map_take, ← List.map_drop, ← List.map_append, ↓reduceIte, reduceCtorEq, Int.reduceBEq, Int.reduceBNe, Int.reduceToNat, Nat.reduceEqDiff, Nat.reduceAdd, Nat.reduceSub, Nat.reduceMul, Nat.reduceDiv, Nat.reduceMod, Nat.reduceLeDiff, Nat.reduceBEq, en26, taskC, beq_self_eq_true, eq_self, decide_true]
  (repeat (refine ⟨by first | omega | (simp; done) | assumption | (unfold maxLen; omega) | (simp [maxLen]; omega), ?_⟩)); refine hk _ ?_; clear hk; clear k
  refine awp_cond rfl (fun hb => ?_) (fun hb => ?_)
  · -- branch 1
    try simp only [decide_eq_true_eq, decide_eq_false_iff_not, Int.not_lt, Int.not_le, beq_iff_eq, bne_iff_ne, ne_eq, beq_eq_false_iff_ne, bne_eq_false_iff_eq, Bool.not_eq_true, Bool.not_eq_false, Bool.not_true, Bool.not_false, Bool.not_eq_false', Bool.not_eq_true', Decidable.not_not] at hb
    refine awp_sr [] (by rw [hC]; rfl) fun k hk => ?_
    simp (maxSteps := 4000000) (disch := first | omega | (simp only [lens]; omega)) only [argSl, argA_nil, argA_cons, am, ↓amb, aml, mark_eq, lo, ← List.map_take, ← List.map_drop, ← List.map_append, ↓reduceIte, reduceCtorEq, Int.reduceBEq, Int.reduceBNe, Int.reduceToNat, Nat.reduceEqDiff, Nat.reduceAdd, Nat.reduceSub, Nat.reduceMul, Nat.reduceDiv, Nat.reduceMod, Nat.reduceLeDiff, Nat.reduceBEq, taskC, beq_self_eq_true, eq_self, decide_true]
    (repeat (refine ⟨by first | omega | (simp; done) | assumption | (unfold maxLen; omega) | (simp [maxLen]; omega), ?_⟩)); refine hk _ ?_; clear hk; clear k
    refine awp_ret ?_
    exact absurd hb (by simp)
  · -- branch 2
    try simp only [decide_eq_true_eq, decide_eq_false_iff_not, Int.not_lt, Int.not_le, beq_iff_eq, bne_iff_ne, ne_eq, beq_eq_false_iff_ne, bne_eq_false_iff_eq, Bool.not_eq_true, Bool.not_eq_false, Bool.not_true, Bool.not_false, Bool.not_eq_false', Bool.not_eq_true', Decidable.not_not] at hb
    refine awp_skip ?_
    refine h1 _ ?_; clear h1; clear k1
    refine awp_seq fun k2 h2 => ?_
    refine awp_test [] 41 (decide (300 < w.ts.length ∨ 1001 < w.done.length)) [1, 3, 5, 6] (by rw [hC]; rfl) (fun gd hgd k hk => ?_) ?_
    · have g4 : gd 4 = some 36 := by rw [hgd]; rfl
      clear hgd
      simp (maxSteps := 4000000) (disch := first | omega | (simp only [lens]; omega)) only [argSl, argA_nil, argA_cons, am, ↓amb, aml, mark_eq, lo, ← List.map_take, ← List.map_drop, ← List.map_append, ↓reduceIte, reduceCtorEq, Int.reduceBEq, Int.reduceBNe, Int.reduceToNat, Nat.reduceEqDiff, Nat.reduceAdd, Nat.reduceSub, Nat.reduceMul, Nat.reduceDiv, Nat.reduceMod, Nat.reduceLeDiff, Nat.reduceBEq, fl42_0, sz40, el40, fl42_2, sz36, el36, gcase_undef, g4, taskC, beq_self_eq_true, eq_self, decide_true]
      repeat' first | refine hk _ _ rfl rfl rfl rfl ?_ | (refine gsplit (fun hg => ?_) (fun hg => ?_) <;> (try simp only [decide_eq_true_eq, decide_eq_false_iff_not, Int.not_lt, Int.not_le, beq_iff_eq, bne_iff_ne, ne_eq, beq_eq_false_iff_ne, bne_eq_false_iff_eq, Bool.not_eq_true, Bool.not_eq_false, Bool.not_true, Bool.not_false, Bool.not_eq_false', Bool.not_eq_true', Decidable.not_not] at hg) <;> simp (maxSteps := 4000000) (disch := first | omega | (simp only [lens]; omega)) only [argSl, argA_nil, argA_cons, am, ↓amb, aml, mark_eq, lo, ← List.map_take, ← List.map_drop, ← List.map_append, ↓reduceIte, reduceCtorEq, Int.reduceBEq, Int.reduceBNe, Int.reduceToNat, Nat.reduceEqDiff, Nat.reduceAdd, Nat.reduceSub, Nat.reduceMul, Nat.reduceDiv, Nat.reduceMod, Nat.reduceLeDiff, Nat.reduceBEq, fl42_0, sz40, el40, fl42_2, sz36, el36, gcase_undef, g4, taskC, beq_self_eq_true, eq_self, decide_true]) | apply And.intro | fail
      all_goals first | rfl | omega | exact (decide_eq_true (by omega)).symm | exact (decide_eq_false (by omega)).symm | exact decide_eq_decide.mpr (by omega) | (refine Bool.eq_iff_iff.mpr ?_; simp only [beq_iff_eq, bne_iff_ne, ne_eq, decide_eq_true_eq]; omega) | assumption | (simp; done) | (simp [maxLen]; omega) | skip
    simp only [keepL_nil, keepL_cons, keepM_some, keepM_none, argSl, argA_nil, argA_cons, lkp_cons, lkp_nil, Nat.reduceEqDiff, ↓reduceIte, reduceCtorEq, Nat.zero_add, Nat.reduceAdd, List.length_cons, List.length_nil]
    refine awp_cond rfl (fun hb => ?_) (fun hb => ?_)
    · -- branch 3
      try simp only [decide_eq_true_eq, decide_eq_false_iff_not, Int.not_lt, Int.not_le, beq_iff_eq, bne_iff_ne, ne_eq, beq_eq_false_iff_ne, bne_eq_false_iff_eq, Bool.not_eq_true, Bool.not_eq_false, Bool.not_true, Bool.not_false, Bool.not_eq_false', Bool.not_eq_true', Decidable.not_not] at hb
      refine awp_sr [] (by rw [hC]; rfl) fun k hk => ?_
      simp (maxSteps := 4000000) (disch := first | omega | (simp only [lens]; omega)) only [argSl, argA_nil, argA_cons, am, ↓amb, aml, mark_eq, lo, ← List.map_take, ← List.map_drop, ← List.map_append, ↓reduceIte, reduceCtorEq, Int.reduceBEq, Int.reduceBNe, Int.reduceToNat, Nat.reduceEqDiff, Nat.reduceAdd, Nat.reduceSub, Nat.reduceMul, Nat.reduceDiv, Nat.reduceMod, Nat.reduceLeDiff, Nat.reduceBEq, taskC, beq_self_eq_true, eq_self, decide_true]
      (repeat (refine ⟨by first | omega | (simp; done) | assumption | (unfold maxLen; omega) | (simp [maxLen]; omega), ?_⟩)); refine hk _ ?_; clear hk; clear k
      refine awp_ret ?_
      refine ret1 rfl rfl ?_
      exact .p (LeP.refl _)
    · -- branch 4
      try simp only [decide_eq_true_eq, decide_eq_false_iff_not, Int.not_lt, Int.not_le, beq_iff_eq, bne_iff_ne, ne_eq, beq_eq_false_iff_ne, bne_eq_false_iff_eq, Bool.not_eq_true, Bool.not_eq_false, Bool.not_true, Bool.not_false, Bool.not_eq_false', Bool.not_eq_true', Decidable.not_not] at hb
      refine awp_skip ?_
      refine h2 _ ?_; clear h2; clear k2
      have hsz := hb
      have z1 := Pl.partW_len w i
      have z2 := Pl.doW_len w i
      have z3 := Pl.beginW_len a b
      refine awp_sr [] (by rw [hC]; rfl) fun k hk => ?_
      simp (maxSteps := 4000000) (disch := first | omega | (simp only [lens]; omega)) only [argSl, argA_nil, argA_cons, am, ↓amb, aml, mark_eq, lo, ← List.map_take, ← List.map_drop, ← List.map_append, ↓reduceIte, reduceCtorEq, Int.reduceBEq, Int.reduceBNe, Int.reduceToNat, Nat.reduceEqDiff, Nat.reduceAdd, Nat.reduceSub, Nat.reduceMul, Nat.reduceDiv, Nat.reduceMod, Nat.reduceLeDiff, Nat.reduceBEq, sz42, en27, vr42, taskC, beq_self_eq_true, eq_self, decide_true]
      (repeat (refine ⟨by first | omega | (simp; done) | assumption | (unfold maxLen; omega) | (simp [maxLen]; omega), ?_⟩))
      refine callK_p (c27p _ _ _ (by omega) (by omega)) rfl ?_
      simp (maxSteps := 4000000) (disch := first | omega | (simp only [lens]; omega)) only [argSl, argA_nil, argA_cons, am, ↓amb, aml, mark_eq, lo, ← List.map_take, ← List.map_drop, ← List.map_append, ↓reduceIte, reduceCtorEq, Int.reduceBEq, Int.reduceBNe, Int.reduceToNat, Nat.reduceEqDiff, Nat.reduceAdd, Nat.reduceSub, Nat.reduceMul, Nat.reduceDiv, Nat.reduceMod, Nat.reduceLeDiff, Nat.reduceBEq, sz42, en27, vr42, taskC, beq_self_eq_true, eq_self, decide_true]
      (repeat (refine ⟨by first | omega | (simp; done) | assumption | (unfold maxLen; omega) | (simp [maxLen]; omega), ?_⟩)); refine hk _ ?_; clear hk; clear k
      refine awp_sr [] (by rw [hC]; rfl) fun k hk => ?_
      simp (maxSteps := 4000000) (disch := first | omega | (simp only [lens]; omega)) only [argSl, argA_nil, argA_cons, am, ↓amb, aml, mark_eq, lo, ← List.map_take, ← List.map_drop, ← List.map_append, ↓reduceIte, reduceCtorEq, Int.reduceBEq, Int.reduceBNe, Int.reduceToNat, Nat.reduceEqDiff, Nat.reduceAdd, Nat.reduceSub, Nat.reduceMul, Nat.reduceDiv, Nat.reduceMod, Nat.reduceLeDiff, Nat.reduceBEq, sz42, en28, vr42, taskC, beq_self_eq_true, eq_self, decide_true]
      (repeat (refine ⟨by first | omega | (simp; done) | assumption | (unfold maxLen; omega) | (simp [maxLen]; omega), ?_⟩))
      refine callK_p (c28 _ _ _ _) rfl ?_
      simp (maxSteps := 4000000) (disch := first | omega | (simp only [lens]; omega)) only [argSl, argA_nil, argA_cons, am, ↓amb, aml, mark_eq, lo, ← List.map_take, ← List.map_drop, ← List.map_append, ↓reduceIte, reduceCtorEq, Int.reduceBEq, Int.reduceBNe, Int.reduceToNat, Nat.reduceEqDiff, Nat.reduceAdd, Nat.reduceSub, Nat.reduceMul, Nat.reduceDiv, Nat.reduceMod, Nat.reduceLeDiff, Nat.reduceBEq, sz42, en28, vr42, taskC, beq_self_eq_true, eq_self, decide_true]
      (repeat (refine ⟨by first | omega | (simp; done) | assumption | (unfold maxLen; omega) | (simp [maxLen]; omega), ?_⟩)); refine hk _ ?_; clear hk; clear k
      refine awp_sr [] (by rw [hC]; rfl) fun k hk => ?_
      simp (maxSteps := 4000000) (disch := first | omega | (simp only [lens]; omega)) only [argSl, argA_nil, argA_cons, am, ↓amb, aml, mark_eq, lo, ← List.map_take, ← List.map_drop, ← List.map_append, ↓reduceIte, reduceCtorEq, Int.reduceBEq, Int.reduceBNe, Int.reduceToNat, Nat.reduceEqDiff, Nat.reduceAdd, Nat.reduceSub, Nat.reduceMul, Nat.reduceDiv, Nat.reduceMod, Nat.reduceLeDiff, Nat.reduceBEq, sz42, en29, vr42, taskC, beq_self_eq_true, eq_self, decide_true]
      (repeat (refine ⟨by first | omega | (simp; done) | assumption | (unfold maxLen; omega) | (simp [maxLen]; omega), ?_⟩))
      refine callK_p (c29 _ _ _ _) rfl ?_
      simp (maxSteps := 4000000) (disch := first | omega | (simp only [lens]; omega)) only [argSl, argA_nil, argA_cons, am, ↓amb, aml, mark_eq, lo, ← List.map_take, ← List.map_drop, ← List.map_append, ↓reduceIte, reduceCtorEq, Int.reduceBEq, Int.reduceBNe, Int.reduceToNat, Nat.reduceEqDiff, Nat.reduceAdd, Nat.reduceSub, Nat.reduceMul, Nat.reduceDiv, Nat.reduceMod, Nat.reduceLeDiff, Nat.reduceBEq, sz42, en29, vr42, taskC, beq_self_eq_true, eq_self, decide_true]
      (repeat (refine ⟨by first | omega | (simp; done) | assumption | (unfold maxLen; omega) | (simp [maxLen]; omega), ?_⟩)); refine hk _ ?_; clear hk; clear k
      refine awp_sr [] (by rw [hC]; rfl) fun k hk => ?_
      simp (maxSteps := 4000000) (disch := first | omega | (simp only [lens]; omega)) only [argSl, argA_nil, argA_cons, am, ↓amb, aml, mark_eq, lo, ← List.map_take, ← List.map_drop, ← List.map_append, ↓reduceIte, reduceCtorEq, Int.reduceBEq, Int.reduceBNe, Int.reduceToNat, Nat.reduceEqDiff, Nat.reduceAdd, Nat.reduceSub, Nat.reduceMul, Nat.reduceDiv, Nat.reduceMod, Nat.reduceLeDiff, Nat.reduceBEq, sz42, en30, vr42, taskC, beq_self_eq_true, eq_self, decide_true]
      (repeat (refine ⟨by first | omega | (simp; done) | assumption | (unfold maxLen; omega) | (simp [maxLen]; omega), ?_⟩))
      refine callK_p (c30 _ _ _ _) rfl ?_
      simp (maxSteps := 4000000) (disch := first | omega | (simp only [lens]; omega)) only [argSl, argA_nil, argA_cons, am, ↓amb, aml, mark_eq, lo, ← List.map_take, ← List.map_drop, ← List.map_append, ↓reduceIte, reduceCtorEq, Int.reduceBEq, Int.reduceBNe, Int.reduceToNat, Nat.reduceEqDiff, Nat.reduceAdd, Nat.reduceSub, Nat.reduceMul, Nat.reduceDiv, Nat.reduceMod, Nat.reduceLeDiff, Nat.reduceBEq, sz42, en30, vr42, taskC, beq_self_eq_true, eq_self, decide_true]
      (repeat (refine ⟨by first | omega | (simp; done) | assumption | (unfold maxLen; omega) | (simp [maxLen]; omega), ?_⟩)); refine hk _ ?_; clear hk; clear k
      refine awp_sr [] (by rw [hC]; rfl) fun k hk => ?_
      simp (maxSteps := 4000000) (disch := first | omega | (simp only [lens]; omega)) only [argSl, argA_nil, argA_cons, am, ↓amb, aml, mark_eq, lo, ← List.map_take, ← List.map_drop, ← List.map_append, ↓reduceIte, reduceCtorEq, Int.reduceBEq, Int.reduceBNe, Int.reduceToNat, Nat.reduceEqDiff, Nat.reduceAdd, Nat.reduceSub, Nat.reduceMul, Nat.reduceDiv, Nat.reduceMod, Nat.reduceLeDiff, Nat.reduceBEq, sz42, en31, vr42, taskC, beq_self_eq_true, eq_self, decide_true]
      (repeat (refine ⟨by first | omega | (simp; done) | assumption | (unfold maxLen; omega) | (simp [maxLen]; omega), ?_⟩))
      refine callK_p (c31 _ _ _ _) rfl ?_
      simp (maxSteps := 4000000) (disch := first | omega | (simp only [lens]; omega)) only [argSl, argA_nil, argA_cons, am, ↓amb, aml, mark_eq, lo, ← List.map_take, ← List.map_drop, ← List.map_append, ↓reduceIte, reduceCtorEq, Int.reduceBEq, Int.reduceBNe, Int.reduceToNat, Nat.reduceEqDiff, Nat.reduceAdd, Nat.reduceSub, Nat.reduceMul, Nat.reduceDiv, Nat.reduceMod, Nat.reduceLeDiff, Nat.reduceBEq, sz42, en31, vr42, taskC, beq_self_eq_true, eq_self, decide_true]
      (repeat (refine ⟨by first | omega | (simp; done) | assumption | (unfold maxLen; omega) | (simp [maxLen]; omega), ?_⟩)); refine hk _ ?_; clear hk; clear k
      refine awp_sr [] (by rw [hC]; rfl) fun k hk => ?_
      simp (maxSteps := 4000000) (disch := first | omega | (simp only [lens]; omega)) only [argSl, argA_nil, argA_cons, am, ↓amb, aml, mark_eq, lo, ← List.map_take, ← List.map_drop, ← List.map_append, ↓reduceIte, reduceCtorEq, Int.reduceBEq, Int.reduceBNe, Int.reduceToNat, Nat.reduceEqDiff, Nat.reduceAdd, Nat.reduceSub, Nat.reduceMul, Nat.reduceDiv, Nat.reduceMod, Nat.reduceLeDiff, Nat.reduceBEq, el43, ar43, sz3, en32, vr42, sz42, taskC, beq_self_eq_true, eq_self, decide_true]
      (repeat (refine ⟨by first | omega | (simp; done) | assumption | (unfold maxLen; omega) | (simp [maxLen]; omega), ?_⟩))
      refine callK_p (c32p _ _) rfl ?_
      simp (maxSteps := 4000000) (disch := first | omega | (simp only [lens]; omega)) only [argSl, argA_nil, argA_cons, am, ↓amb, aml, mark_eq, lo, ← List.map_take, ← List.map_drop, ← List.map_append, ↓reduceIte, reduceCtorEq, Int.reduceBEq, Int.reduceBNe, Int.reduceToNat, Nat.reduceEqDiff, Nat.reduceAdd, Nat.reduceSub, Nat.reduceMul, Nat.reduceDiv, Nat.reduceMod, Nat.reduceLeDiff, Nat.reduceBEq, el43, ar43, sz3, en32, vr42, sz42, taskC, beq_self_eq_true, eq_self, decide_true]
      (repeat (refine ⟨by first | omega | (simp; done) | assumption | (unfold maxLen; omega) | (simp [maxLen]; omega), ?_⟩)); refine hk _ ?_; clear hk; clear k
      refine awp_sr [] (by rw [hC]; rfl) fun k hk => ?_
      simp (maxSteps := 4000000) (disch := first | omega | (simp only [lens]; omega)) only [argSl, argA_nil, argA_cons, am, ↓amb, aml, mark_eq, lo, ← List.map_take, ← List.map_drop, ← List.map_append, ↓reduceIte, reduceCtorEq, Int.reduceBEq, Int.reduceBNe, Int.reduceToNat, Nat.reduceEqDiff, Nat.reduceAdd, Nat.reduceSub, Nat.reduceMul, Nat.reduceDiv, Nat.reduceMod, Nat.reduceLeDiff, Nat.reduceBEq, el43, ar43, sz3, en33, vr42, sz42, taskC, beq_self_eq_true, eq_self, decide_true]
      (repeat (refine ⟨by first | omega | (simp; done) | assumption | (unfold maxLen; omega) | (simp [maxLen]; omega), ?_⟩))
      refine callK_p (c33p _ _) rfl ?_
      simp (maxSteps := 4000000) (disch := first | omega | (simp only [lens]; omega)) only [argSl, argA_nil, argA_cons, am, ↓amb, aml, mark_eq, lo, ← List.map_take, ← List.map_drop, ← List.map_append, ↓reduceIte, reduceCtorEq, Int.reduceBEq, Int.reduceBNe, Int.reduceToNat, Nat.reduceEqDiff, Nat.reduceAdd, Nat.reduceSub, Nat.reduceMul, Nat.reduceDiv, Nat.reduceMod, Nat.reduceLeDiff, Nat.reduceBEq, el43, ar43, sz3, en33, vr42, sz42, taskC, beq_self_eq_true, eq_self, decide_true]
      (repeat (refine ⟨by first | omega | (simp; done) | assumption | (unfold maxLen; omega) | (simp [maxLen]; omega), ?_⟩)); refine hk _ ?_; clear hk; clear k
      refine awp_sr [] (by rw [hC]; rfl) fun k hk => ?_
      simp (maxSteps := 4000000) (disch := first | omega | (simp only [lens]; omega)) only [argSl, argA_nil, argA_cons, am, ↓amb, aml, mark_eq, lo, ← List.map_take, ← List.map_drop, ← List.map_append, ↓reduceIte, reduceCtorEq, Int.reduceBEq, Int.reduceBNe, Int.reduceToNat, Nat.reduceEqDiff, Nat.reduceAdd, Nat.reduceSub, Nat.reduceMul, Nat.reduceDiv, Nat.reduceMod, Nat.reduceLeDiff, Nat.reduceBEq, el43, ar43, sz3, en34, taskC, beq_self_eq_true, eq_self, decide_true]
      (repeat (refine ⟨by first | omega | (simp; done) | assumption | (unfold maxLen; omega) | (simp [maxLen]; omega), ?_⟩))
      refine callK_p (c34 _ _) rfl ?_
      simp (maxSteps := 4000000) (disch := first | omega | (simp only [lens]; omega)) only [argSl, argA_nil, argA_cons, am, ↓amb, aml, mark_eq, lo, ← List.map_take, ← List.map_drop, ← List.map_append, ↓reduceIte, reduceCtorEq, Int.reduceBEq, Int.reduceBNe, Int.reduceToNat, Nat.reduceEqDiff, Nat.reduceAdd, Nat.reduceSub, Nat.reduceMul, Nat.reduceDiv, Nat.reduceMod, Nat.reduceLeDiff, Nat.reduceBEq, el43, ar43, sz3, en34, taskC, beq_self_eq_true, eq_self, decide_true]
      (repeat (refine ⟨by first | omega | (simp; done) | assumption | (unfold maxLen; omega) | (simp [maxLen]; omega), ?_⟩)); refine hk _ ?_; clear hk; clear k
      refine awp_sr [] (by rw [hC]; rfl) fun k hk => ?_
      simp (maxSteps := 4000000) (disch := first | omega | (simp only [lens]; omega)) only [argSl, argA_nil, argA_cons, am, ↓amb, aml, mark_eq, lo, ← List.map_take, ← List.map_drop, ← List.map_append, ↓reduceIte, reduceCtorEq, Int.reduceBEq, Int.reduceBNe, Int.reduceToNat, Nat.reduceEqDiff, Nat.reduceAdd, Nat.reduceSub, Nat.reduceMul, Nat.reduceDiv, Nat.reduceMod, Nat.reduceLeDiff, Nat.reduceBEq, el43, ar43, sz3, en35, taskC, beq_self_eq_true, eq_self, decide_true]
      (repeat (refine ⟨by first | omega | (simp; done) | assumption | (unfold maxLen; omega) | (simp [maxLen]; omega), ?_⟩))
      refine callK_p (c35 _ a.toNat _ (by omega)) rfl ?_
      simp (maxSteps := 4000000) (disch := first | omega | (simp only [lens]; omega)) only [argSl, argA_nil, argA_cons, am, ↓amb, aml, mark_eq, lo, ← List.map_take, ← List.map_drop, ← List.map_append, ↓reduceIte, reduceCtorEq, Int.reduceBEq, Int.reduceBNe, Int.reduceToNat, Nat.reduceEqDiff, Nat.reduceAdd, Nat.reduceSub, Nat.reduceMul, Nat.reduceDiv, Nat.reduceMod, Nat.reduceLeDiff, Nat.reduceBEq, el43, ar43, sz3, en35, taskC, beq_self_eq_true, eq_self, decide_true]
      (repeat (refine ⟨by first | omega | (simp; done) | assumption | (unfold maxLen; omega) | (simp [maxLen]; omega), ?_⟩)); refine hk _ ?_; clear hk; clear k
      refine awp_sdg [] ⟨[0, 0, 3, 7, 15, 15, 63, 127, 255, 511, 511, 2047, 4095, 8191, 16383, 16383, 65535, 131071, 262143, 524287, 524287, 2097151, 4194303, 8388607, 16777215, 16777215, 67108863, 134217727, 268435455, 536870911, 536870911, 2147483647, 4294967295, 8589934591, 17179869183, 17179869183, 68719476735, 137438953471, 274877906943, 549755813887, 549755813887, 2199023255551, 4398046511103, 8796093022207, 17592186044415, 17592186044415, 70368744177663, 140737488355327, 281474976710655, 562949953421311, 562949953421311, 2251799813685247, 4503599627370495, 9007199254740991, 18014398509481983, 36028797018963967, 18014398509481983, 144115188075855871, 288230376151711743, 576460752303423487, 1152921504606846975, 2305843009213693951, 2305843009213693951, 9223372036854775807, 2305843009213693951, 2305843009213693951, 73786976294838206463, 147573952589676412927, 295147905179352825855, 590295810358705651711, 1180591620717411303423, 1180591620717411303423, 4722366482869645213695, 9444732965739290427391, 18889465931478580854783], [0, 1, 19, 20, 34, 35, 54, 56, 61, 64, 70, 71], [], [(2, 19), (2, 20), (2, 34), (21, 34), (2, 35), (21, 35), (2, 54), (21, 54), (36, 54), (2, 56), (21, 56), (36, 56), (2, 61), (21, 61), (36, 61), (55, 61), (57, 61), (2, 64), (21, 64), (36, 64), (55, 64), (57, 64), (2, 70), (21, 70), (36, 70), (55, 70), (57, 70), (63, 70), (66, 70), (2, 71), (21, 71), (36, 71), (55, 71), (57, 71), (63, 71), (66, 71)], some []⟩ (by rw [hC]; rfl) (by kernel_rfl) (by kernel_rfl) fun gd hgd k hk => ?_
      have g3 : gd 3 = some 109 := by rw [hgd]; rfl
      have g8 : gd 8 = some 114 := by rw [hgd]; rfl
      have g13 : gd 13 = some 119 := by rw [hgd]; rfl
      have g18 : gd 18 = some 124 := by rw [hgd]; rfl
      have g23 : gd 23 = some 129 := by rw [hgd]; rfl
      have g28 : gd 28 = some 134 := by rw [hgd]; rfl
      have g33 : gd 33 = some 139 := by rw [hgd]; rfl
      have g38 : gd 38 = some 144 := by rw [hgd]; rfl
      have g43 : gd 43 = some 149 := by rw [hgd]; rfl
      have g48 : gd 48 = some 154 := by rw [hgd]; rfl
      have g53 : gd 53 = some 159 := by rw [hgd]; rfl
      have g60 : gd 60 = some 166 := by rw [hgd]; rfl
      have g69 : gd 69 = some 175 := by rw [hgd]; rfl
      clear hgd
      simp (maxSteps := 4000000) (disch := first | omega | (simp only [lens]; omega)) only [argSl, argA_nil, argA_cons, am, ↓amb, aml, mark_eq, lo, ← List.map_take, ← List.map_drop, ← List.map_append, ↓reduceIte, reduceCtorEq, Int.reduceBEq, Int.reduceBNe, Int.reduceToNat, Nat.reduceEqDiff, Nat.reduceAdd, Nat.reduceSub, Nat.reduceMul, Nat.reduceDiv, Nat.reduceMod, Nat.reduceLeDiff, Nat.reduceBEq, sz42, en36, en37, en38, en39, en40, g3, g8, g13, g18, g23, g28, g33, g38, g43, g48, g53, g60, g69, taskC, beq_self_eq_true, eq_self, decide_true]
      (repeat (refine ⟨by first | omega | (simp; done) | assumption | (unfold maxLen; omega) | (simp [maxLen]; omega), ?_⟩))
      refine callK_p (c36 _ _ _ _ _ _ (by omega) (by omega)) rfl ?_
      simp (maxSteps := 4000000) (disch := first | omega | (simp only [lens]; omega)) only [argSl, argA_nil, argA_cons, am, ↓amb, aml, mark_eq, lo, ← List.map_take, ← List.map_drop, ← List.map_append, ↓reduceIte, reduceCtorEq, Int.reduceBEq, Int.reduceBNe, Int.reduceToNat, Nat.reduceEqDiff, Nat.reduceAdd, Nat.reduceSub, Nat.reduceMul, Nat.reduceDiv, Nat.reduceMod, Nat.reduceLeDiff, Nat.reduceBEq, sz42, en36, en37, en38, en39, en40, g3, g8, g13, g18, g23, g28, g33, g38, g43, g48, g53, g60, g69, taskC, beq_self_eq_true, eq_self, decide_true]
      (repeat (refine ⟨by first | omega | (simp; done) | assumption | (unfold maxLen; omega) | (simp [maxLen]; omega), ?_⟩))
      refine callK_p (c36 _ _ _ _ _ _ (by omega) (by omega)) rfl ?_
      simp (maxSteps := 4000000) (disch := first | omega | (simp only [lens]; omega)) only [argSl, argA_nil, argA_cons, am, ↓amb, aml, mark_eq, lo, ← List.map_take, ← List.map_drop, ← List.map_append, ↓reduceIte, reduceCtorEq, Int.reduceBEq, Int.reduceBNe, Int.reduceToNat, Nat.reduceEqDiff, Nat.reduceAdd, Nat.reduceSub, Nat.reduceMul, Nat.reduceDiv, Nat.reduceMod, Nat.reduceLeDiff, Nat.reduceBEq, sz42, en36, en37, en38, en39, en40, g3, g8, g13, g18, g23, g28, g33, g38, g43, g48, g53, g60, g69, taskC, beq_self_eq_true, eq_self, decide_true]
      (repeat (refine ⟨by first | omega | (simp; done) | assumption | (unfold maxLen; omega) | (simp [maxLen]; omega), ?_⟩))
      refine callK_p (c36 _ _ _ _ _ _ (by omega) (by omega)) rfl ?_
      simp (maxSteps := 4000000) (disch := first | omega | (simp only [lens]; omega)) only [argSl, argA_nil, argA_cons, am, ↓amb, aml, mark_eq, lo, ← List.map_take, ← List.map_drop, ← List.map_append, ↓reduceIte, reduceCtorEq, Int.reduceBEq, Int.reduceBNe, Int.reduceToNat, Nat.reduceEqDiff, Nat.reduceAdd, Nat.reduceSub, Nat.reduceMul, Nat.reduceDiv, Nat.reduceMod, Nat.reduceLeDiff, Nat.reduceBEq, sz42, en36, en37, en38, en39, en40, g3, g8, g13, g18, g23, g28, g33, g38, g43, g48, g53, g60, g69, taskC, beq_self_eq_true, eq_self, decide_true]
      (repeat (refine ⟨by first | omega | (simp; done) | assumption | (unfold maxLen; omega) | (simp [maxLen]; omega), ?_⟩))
      refine callK_p (c37 _ _ _) rfl ?_
      simp (maxSteps := 4000000) (disch := first | omega | (simp only [lens]; omega)) only [argSl, argA_nil, argA_cons, am, ↓amb, aml, mark_eq, lo, ← List.map_take, ← List.map_drop, ← List.map_append, ↓reduceIte, reduceCtorEq, Int.reduceBEq, Int.reduceBNe, Int.reduceToNat, Nat.reduceEqDiff, Nat.reduceAdd, Nat.reduceSub, Nat.reduceMul, Nat.reduceDiv, Nat.reduceMod, Nat.reduceLeDiff, Nat.reduceBEq, sz42, en36, en37, en38, en39, en40, g3, g8, g13, g18, g23, g28, g33, g38, g43, g48, g53, g60, g69, taskC, beq_self_eq_true, eq_self, decide_true]
      (repeat (refine ⟨by first | omega | (simp; done) | assumption | (unfold maxLen; omega) | (simp [maxLen]; omega), ?_⟩))
      refine callK_p (c38 _ _ _) rfl ?_
      simp (maxSteps := 4000000) (disch := first | omega | (simp only [lens]; omega)) only [argSl, argA_nil, argA_cons, am, ↓amb, aml, mark_eq, lo, ← List.map_take, ← List.map_drop, ← List.map_append, ↓reduceIte, reduceCtorEq, Int.reduceBEq, Int.reduceBNe, Int.reduceToNat, Nat.reduceEqDiff, Nat.reduceAdd, Nat.reduceSub, Nat.reduceMul, Nat.reduceDiv, Nat.reduceMod, Nat.reduceLeDiff, Nat.reduceBEq, sz42, en36, en37, en38, en39, en40, g3, g8, g13, g18, g23, g28, g33, g38, g43, g48, g53, g60, g69, taskC, beq_self_eq_true, eq_self, decide_true]
      (repeat (refine ⟨by first | omega | (simp; done) | assumption | (unfold maxLen; omega) | (simp [maxLen]; omega), ?_⟩))
      refine callK_p (c39 _ _ _ _) rfl ?_
      simp (maxSteps := 4000000) (disch := first | omega | (simp only [lens]; omega)) only [argSl, argA_nil, argA_cons, am, ↓amb, aml, mark_eq, lo, ← List.map_take, ← List.map_drop, ← List.map_append, ↓reduceIte, reduceCtorEq, Int.reduceBEq, Int.reduceBNe, Int.reduceToNat, Nat.reduceEqDiff, Nat.reduceAdd, Nat.reduceSub, Nat.reduceMul, Nat.reduceDiv, Nat.reduceMod, Nat.reduceLeDiff, Nat.reduceBEq, sz42, en36, en37, en38, en39, en40, g3, g8, g13, g18, g23, g28, g33, g38, g43, g48, g53, g60, g69, taskC, beq_self_eq_true, eq_self, decide_true]
      (repeat (refine ⟨by first | omega | (simp; done) | assumption | (unfold maxLen; omega) | (simp [maxLen]; omega), ?_⟩))
      refine callK_p (c40 _ _ _ _) rfl ?_
      simp (maxSteps := 4000000) (disch := first | omega | (simp only [lens]; omega)) only [argSl, argA_nil, argA_cons, am, ↓amb, aml, mark_eq, lo, ← List.map_take, ← List.map_drop, ← List.map_append, ↓reduceIte, reduceCtorEq, Int.reduceBEq, Int.reduceBNe, Int.reduceToNat, Nat.reduceEqDiff, Nat.reduceAdd, Nat.reduceSub, Nat.reduceMul, Nat.reduceDiv, Nat.reduceMod, Nat.reduceLeDiff, Nat.reduceBEq, sz42, en36, en37, en38, en39, en40, g3, g8, g13, g18, g23, g28, g33, g38, g43, g48, g53, g60, g69, taskC, beq_self_eq_true, eq_self, decide_true]
      (repeat (refine ⟨by first | omega | (simp; done) | assumption | (unfold maxLen; omega) | (simp [maxLen]; omega), ?_⟩))
      refine callK_p (c36 _ _ _ _ _ _ (by omega) (by omega)) rfl ?_
      simp (maxSteps := 4000000) (disch := first | omega | (simp only [lens]; omega)) only [argSl, argA_nil, argA_cons, am, ↓amb, aml, mark_eq, lo, ← List.map_take, ← List.map_drop, ← List.map_append, ↓reduceIte, reduceCtorEq, Int.reduceBEq, Int.reduceBNe, Int.reduceToNat, Nat.reduceEqDiff, Nat.reduceAdd, Nat.reduceSub, Nat.reduceMul, Nat.reduceDiv, Nat.reduceMod, Nat.reduceLeDiff, Nat.reduceBEq, sz42, en36, en37, en38, en39, en40, g3, g8, g13, g18, g23, g28, g33, g38, g43, g48, g53, g60, g69, taskC, beq_self_eq_true, eq_self, decide_true]
      (repeat (refine ⟨by first | omega | (simp; done) | assumption | (unfold maxLen; omega) | (simp [maxLen]; omega), ?_⟩)); refine hk _ ?_; clear hk; clear k
      refine awp_ret ?_
      refine ret1 rfl rfl ?_
      exact .p (LeP.refl _)
end Go.Proofs.Ytbdliooaiincdaa
