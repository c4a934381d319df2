/-
  The functions of the tasks: what each answers.
-/
import Derived.Test.YtbdliooaiincdaaK2
import Derived.Test.YtbdliooaiincdaaPl3
set_option linter.unusedSimpArgs false
set_option linter.unusedVariables false
set_option maxRecDepth 100000
namespace Go.Proofs.Ytbdliooaiincdaa
open Go.Am Go.Proofs
theorem en53 : enters Try.prog 53 = true := by kernel_rfl
theorem en54 : enters Try.prog 54 = true := by kernel_rfl
set_option maxHeartbeats 4000000 in
theorem c30 (c d : Bool) (w : Pl.Work) (i : Int) : PCall Try.prog 30 [workV c d w, iV i] (.tup [workV false false (Pl.doW w i), bV (Pl.doO w i), iV (Pl.doE w i)]) := by
  refine pcall_of_awp Try.func30 rfl (by simp [Try.ntmps30]) fun C hC => ?_
  refine awp_le (le_keep [0, 1]) ?_
  simp only [keepL_nil, keepL_cons, keepM_some, keepM_none, argSl, lkp_cons, lkp_nil, Nat.reduceEqDiff, ↓reduceIte, reduceCtorEq, Nat.zero_add, Nat.reduceAdd]
  refine awp_sr [] (by rw [hC]; rfl) fun k hk => ?_
  simp (maxSteps := 4000000) (disch := first | omega | (simp only [lens]; omega)) only [argSl, argA_nil, argA_cons, am, ↓amb, aml, mark_eq, lo, ← List.map_take, ← List.map_drop, ← List.map_append, ↓reduceIte, reduceCtorEq, Int.reduceBEq, Int.reduceBNe, Int.reduceToNat, Nat.reduceEqDiff, Nat.reduceAdd, Nat.reduceSub, Nat.reduceMul, Nat.reduceDiv, Nat.reduceMod, Nat.reduceLeDiff, Nat.reduceBEq, vr42, taskC]
  (repeat (refine ⟨by first | omega | (simp; done) | assumption | (unfold maxLen; omega) | (simp [maxLen]; omega), ?_⟩)); refine hk _ ?_; clear hk; clear k
  refine awp_seq fun k1 h1 => ?_
  refine awp_le (le_keep [1, 2, 4, 5, 6]) ?_
  simp only [keepL_nil, keepL_cons, keepM_some, keepM_none, argSl, lkp_cons, lkp_nil, Nat.reduceEqDiff, ↓reduceIte, reduceCtorEq, Nat.zero_add, Nat.reduceAdd]
  refine awp_sr [] (by rw [hC]; rfl) fun k hk => ?_
  simp (maxSteps := 4000000) (disch := first | omega | (simp only [lens]; omega)) only [argSl, argA_nil, argA_cons, am, ↓amb, aml, mark_eq, lo, ← List.map_take, ← List.map_drop, ← List.map_append, ↓reduceIte, reduceCtorEq, Int.reduceBEq, Int.reduceBNe, Int.reduceToNat, Nat.reduceEqDiff, Nat.reduceAdd, Nat.reduceSub, Nat.reduceMul, Nat.reduceDiv, Nat.reduceMod, Nat.reduceLeDiff, Nat.reduceBEq, sz42, en49, taskC]
  (repeat (refine ⟨by first | omega | (simp; done) | assumption | (unfold maxLen; omega) | (simp [maxLen]; omega), ?_⟩))
  refine callK_p (c49 _ _ _ _) rfl ?_
  simp (maxSteps := 4000000) (disch := first | omega | (simp only [lens]; omega)) only [argSl, argA_nil, argA_cons, am, ↓amb, aml, mark_eq, lo, ← List.map_take, ← List.map_drop, ← List.map_append, ↓reduceIte, reduceCtorEq, Int.reduceBEq, Int.reduceBNe, Int.reduceToNat, Nat.reduceEqDiff, Nat.reduceAdd, Nat.reduceSub, Nat.reduceMul, Nat.reduceDiv, Nat.reduceMod, Nat.reduceLeDiff, Nat.reduceBEq, sz42, en49, taskC]
  (repeat (refine ⟨by first | omega | (simp; done) | assumption | (unfold maxLen; omega) | (simp [maxLen]; omega), ?_⟩)); refine hk _ ?_; clear hk; clear k
  refine awp_le (le_keep [1, 2, 4, 5, 6, 7]) ?_
  simp only [keepL_nil, keepL_cons, keepM_some, keepM_none, argSl, lkp_cons, lkp_nil, Nat.reduceEqDiff, ↓reduceIte, reduceCtorEq, Nat.zero_add, Nat.reduceAdd]
  refine awp_sr [] (by rw [hC]; rfl) fun k hk => ?_
  simp (maxSteps := 4000000) (disch := first | omega | (simp only [lens]; omega)) only [argSl, argA_nil, argA_cons, am, ↓amb, aml, mark_eq, lo, ← List.map_take, ← List.map_drop, ← List.map_append, ↓reduceIte, reduceCtorEq, Int.reduceBEq, Int.reduceBNe, Int.reduceToNat, Nat.reduceEqDiff, Nat.reduceAdd, Nat.reduceSub, Nat.reduceMul, Nat.reduceDiv, Nat.reduceMod, Nat.reduceLeDiff, Nat.reduceBEq, taskC]
  (repeat (refine ⟨by first | omega | (simp; done) | assumption | (unfold maxLen; omega) | (simp [maxLen]; omega), ?_⟩)); refine hk _ ?_; clear hk; clear k
  refine awp_cond rfl (fun hb => ?_) (fun hb => ?_)
  · -- branch 1
    try simp only [decide_eq_true_eq, decide_eq_false_iff_not, Int.not_lt, Int.not_le, beq_iff_eq, bne_iff_ne, ne_eq, beq_eq_false_iff_ne, bne_eq_false_iff_eq, Bool.not_eq_true, Bool.not_eq_false, Bool.not_true, Bool.not_false, Bool.not_eq_false', Bool.not_eq_true', Decidable.not_not] at hb
    refine awp_le (le_keep [2, 4, 7]) ?_
    simp only [keepL_nil, keepL_cons, keepM_some, keepM_none, argSl, lkp_cons, lkp_nil, Nat.reduceEqDiff, ↓reduceIte, reduceCtorEq, Nat.zero_add, Nat.reduceAdd]
    refine awp_sr [] (by rw [hC]; rfl) fun k hk => ?_
    simp (maxSteps := 4000000) (disch := first | omega | (simp only [lens]; omega)) only [argSl, argA_nil, argA_cons, am, ↓amb, aml, mark_eq, lo, ← List.map_take, ← List.map_drop, ← List.map_append, ↓reduceIte, reduceCtorEq, Int.reduceBEq, Int.reduceBNe, Int.reduceToNat, Nat.reduceEqDiff, Nat.reduceAdd, Nat.reduceSub, Nat.reduceMul, Nat.reduceDiv, Nat.reduceMod, Nat.reduceLeDiff, Nat.reduceBEq, sz42, taskC]
    (repeat (refine ⟨by first | omega | (simp; done) | assumption | (unfold maxLen; omega) | (simp [maxLen]; omega), ?_⟩)); refine hk _ ?_; clear hk; clear k
    refine awp_ret ?_
    obtain ⟨e1, e2, e4⟩ := Pl.do_err (w := w) (i := i) (Pl.doE1 hb) (hb)
    rw [e1, e2, e4]
    refine retl rfl rfl ⟨retc rfl sz42 ?_, rett rfl ?_, rett rfl ?_, trivial⟩
    simp (maxSteps := 4000000) (disch := first | omega | (simp only [lens]; omega)) only [argSl, argA_nil, argA_cons, am, ↓amb, aml, mark_eq, lo, ← List.map_take, ← List.map_drop, ← List.map_append, ↓reduceIte, reduceCtorEq, Int.reduceBEq, Int.reduceBNe, Int.reduceToNat, Nat.reduceEqDiff, Nat.reduceAdd, Nat.reduceSub, Nat.reduceMul, Nat.reduceDiv, Nat.reduceMod, Nat.reduceLeDiff, Nat.reduceBEq, sz42, taskC]
    · exact .p (LeP.agg (.cons (LeP.seq _ _) (.cons (LeP.refl _) (.cons (LeP.seq _ _) .nil))))
    · exact .p (LeP.refl _)
    · exact .p (LeP.refl _)
  · -- branch 2
    try simp only [decide_eq_true_eq, decide_eq_false_iff_not, Int.not_lt, Int.not_le, beq_iff_eq, bne_iff_ne, ne_eq, beq_eq_false_iff_ne, bne_eq_false_iff_eq, Bool.not_eq_true, Bool.not_eq_false, Bool.not_true, Bool.not_false, Bool.not_eq_false', Bool.not_eq_true', Decidable.not_not] at hb
    refine awp_skip ?_
    refine h1 _ ?_; clear h1; clear k1
    refine awp_le (le_keep [1, 2, 4]) ?_
    simp only [keepL_nil, keepL_cons, keepM_some, keepM_none, argSl, lkp_cons, lkp_nil, Nat.reduceEqDiff, ↓reduceIte, reduceCtorEq, Nat.zero_add, Nat.reduceAdd]
    have hth := hb
    obtain ⟨hR, hi0, hi1, hok, hd1, hg1, hg2, ht1⟩ := Pl.ok_of hth
    simp only [Pl.okT, Pl.task] at hok
    have hin : i.toNat < w.ts.length := by omega
    refine awp_sr [] (by rw [hC]; rfl) fun k hk => ?_
    simp (maxSteps := 4000000) (disch := first | omega | (simp only [lens]; omega)) only [argSl, argA_nil, argA_cons, am, ↓amb, aml, mark_eq, lo, ← List.map_take, ← List.map_drop, ← List.map_append, ↓reduceIte, reduceCtorEq, Int.reduceBEq, Int.reduceBNe, Int.reduceToNat, Nat.reduceEqDiff, Nat.reduceAdd, Nat.reduceSub, Nat.reduceMul, Nat.reduceDiv, Nat.reduceMod, Nat.reduceLeDiff, Nat.reduceBEq, fl42_0, sz40, el40, sz60, vr60, taskC]
    (repeat (refine ⟨by first | omega | (simp; done) | assumption | (unfold maxLen; omega) | (simp [maxLen]; omega), ?_⟩)); refine hk _ ?_; clear hk; clear k
    refine awp_seq fun k2 h2 => ?_
    refine awp_testD [] ⟨[0, 1, 0, 4, 15, 31, 63, 127, 255, 511, 1023, 2047, 4095, 2047, 10239, 32767, 65535, 131071], [0, 3, 7, 12, 14, 16], [], [(1, 7), (1, 12), (1, 14), (1, 16)], some []⟩ 39 (decide (w.grain < (w.ts.getD i.toNat default).high - (w.ts.getD i.toNat default).low ∨ 0 < (w.ts.getD i.toNat default).wait ∨ w.done.getD (w.ts.getD i.toNat default).low.toNat false = true)) [2, 4, 5, 6, 8] (by rw [hC]; rfl) (by kernel_rfl) (by kernel_rfl) (fun gd hgd k hk => ?_) ?_
    · have g5 : gd 5 = some 27 := by rw [hgd]; rfl
      have g10 : gd 10 = some 32 := by rw [hgd]; rfl
      clear hgd
      simp (maxSteps := 4000000) (disch := first | omega | (simp only [lens]; omega)) only [argSl, argA_nil, argA_cons, am, ↓amb, aml, mark_eq, lo, ← List.map_take, ← List.map_drop, ← List.map_append, ↓reduceIte, reduceCtorEq, Int.reduceBEq, Int.reduceBNe, Int.reduceToNat, Nat.reduceEqDiff, Nat.reduceAdd, Nat.reduceSub, Nat.reduceMul, Nat.reduceDiv, Nat.reduceMod, Nat.reduceLeDiff, Nat.reduceBEq, sz60, en50, fl42_1, sz3, fl60_3, fl42_2, sz36, fl60_0, el36, sz4, gcase_undef, g5, g10, taskC]
      repeat' first | refine hk _ _ rfl rfl rfl rfl ?_ | (refine gsplit (fun hg => ?_) (fun hg => ?_) <;> (try simp only [decide_eq_true_eq, decide_eq_false_iff_not, Int.not_lt, Int.not_le, beq_iff_eq, bne_iff_ne, ne_eq, beq_eq_false_iff_ne, bne_eq_false_iff_eq, Bool.not_eq_true, Bool.not_eq_false, Bool.not_true, Bool.not_false, Bool.not_eq_false', Bool.not_eq_true', Decidable.not_not] at hg) <;> simp (maxSteps := 4000000) (disch := first | omega | (simp only [lens]; omega)) only [argSl, argA_nil, argA_cons, am, ↓amb, aml, mark_eq, lo, ← List.map_take, ← List.map_drop, ← List.map_append, ↓reduceIte, reduceCtorEq, Int.reduceBEq, Int.reduceBNe, Int.reduceToNat, Nat.reduceEqDiff, Nat.reduceAdd, Nat.reduceSub, Nat.reduceMul, Nat.reduceDiv, Nat.reduceMod, Nat.reduceLeDiff, Nat.reduceBEq, sz60, en50, fl42_1, sz3, fl60_3, fl42_2, sz36, fl60_0, el36, sz4, gcase_undef, g5, g10, taskC]) | apply And.intro | (refine callK_p (c50 (w.ts.getD i.toNat default) (by omega) (by omega) (by omega) (by omega)) rfl ?_; simp (maxSteps := 4000000) (disch := first | omega | (simp only [lens]; omega)) only [argSl, argA_nil, argA_cons, am, ↓amb, aml, mark_eq, lo, ← List.map_take, ← List.map_drop, ← List.map_append, ↓reduceIte, reduceCtorEq, Int.reduceBEq, Int.reduceBNe, Int.reduceToNat, Nat.reduceEqDiff, Nat.reduceAdd, Nat.reduceSub, Nat.reduceMul, Nat.reduceDiv, Nat.reduceMod, Nat.reduceLeDiff, Nat.reduceBEq, sz60, en50, fl42_1, sz3, fl60_3, fl42_2, sz36, fl60_0, el36, sz4, gcase_undef, g5, g10, taskC]) | fail
      all_goals first | rfl | omega | exact (decide_eq_true (by (try simp only [Pl.task] at *); omega)).symm | exact (decide_eq_false (by (try simp only [Pl.task] at *); omega)).symm | exact decide_eq_decide.mpr (by (try simp only [Pl.task] at *); omega) | (refine Bool.eq_iff_iff.mpr ?_; (try simp only [Pl.task] at *); simp only [beq_iff_eq, bne_iff_ne, ne_eq, decide_eq_true_eq]; omega) | assumption | (simp; done) | (simp [maxLen]; omega) | skip
      all_goals (refine Bool.eq_iff_iff.mpr ?_; simp only [decide_eq_true_eq]; exact ⟨fun h => .inr (.inr h), fun h => by (rcases h with h | h | h; omega; omega; exact h)⟩)
    simp only [keepL_nil, keepL_cons, keepM_some, keepM_none, argSl, argA_nil, argA_cons, lkp_cons, lkp_nil, Nat.reduceEqDiff, ↓reduceIte, reduceCtorEq, Nat.zero_add, Nat.reduceAdd, List.length_cons, List.length_nil]
    refine awp_cond rfl (fun hb => ?_) (fun hb => ?_)
    · -- branch 3
      try simp only [decide_eq_true_eq, decide_eq_false_iff_not, Int.not_lt, Int.not_le, beq_iff_eq, bne_iff_ne, ne_eq, beq_eq_false_iff_ne, bne_eq_false_iff_eq, Bool.not_eq_true, Bool.not_eq_false, Bool.not_true, Bool.not_false, Bool.not_eq_false', Bool.not_eq_true', Decidable.not_not] at hb
      refine awp_le (le_keep [2, 4]) ?_
      simp only [keepL_nil, keepL_cons, keepM_some, keepM_none, argSl, lkp_cons, lkp_nil, Nat.reduceEqDiff, ↓reduceIte, reduceCtorEq, Nat.zero_add, Nat.reduceAdd]
      refine awp_sr [] (by rw [hC]; rfl) fun k hk => ?_
      simp (maxSteps := 4000000) (disch := first | omega | (simp only [lens]; omega)) only [argSl, argA_nil, argA_cons, am, ↓amb, aml, mark_eq, lo, ← List.map_take, ← List.map_drop, ← List.map_append, ↓reduceIte, reduceCtorEq, Int.reduceBEq, Int.reduceBNe, Int.reduceToNat, Nat.reduceEqDiff, Nat.reduceAdd, Nat.reduceSub, Nat.reduceMul, Nat.reduceDiv, Nat.reduceMod, Nat.reduceLeDiff, Nat.reduceBEq, sz42, taskC]
      (repeat (refine ⟨by first | omega | (simp; done) | assumption | (unfold maxLen; omega) | (simp [maxLen]; omega), ?_⟩)); refine hk _ ?_; clear hk; clear k
      refine awp_ret ?_
      obtain ⟨e1, e2, e4⟩ := Pl.do_err (w := w) (i := i) (Pl.doE2 hth hb) (by decide)
      rw [e1, e2, e4]
      refine retl rfl rfl ⟨retc rfl sz42 ?_, rett rfl ?_, rett rfl ?_, trivial⟩
      simp (maxSteps := 4000000) (disch := first | omega | (simp only [lens]; omega)) only [argSl, argA_nil, argA_cons, am, ↓amb, aml, mark_eq, lo, ← List.map_take, ← List.map_drop, ← List.map_append, ↓reduceIte, reduceCtorEq, Int.reduceBEq, Int.reduceBNe, Int.reduceToNat, Nat.reduceEqDiff, Nat.reduceAdd, Nat.reduceSub, Nat.reduceMul, Nat.reduceDiv, Nat.reduceMod, Nat.reduceLeDiff, Nat.reduceBEq, sz42, taskC]
      · exact .p (LeP.agg (.cons (LeP.seq _ _) (.cons (LeP.refl _) (.cons (LeP.seq _ _) .nil))))
      · exact .p (LeP.refl _)
      · exact .p (LeP.refl _)
    · -- branch 4
      try simp only [decide_eq_true_eq, decide_eq_false_iff_not, Int.not_lt, Int.not_le, beq_iff_eq, bne_iff_ne, ne_eq, beq_eq_false_iff_ne, bne_eq_false_iff_eq, Bool.not_eq_true, Bool.not_eq_false, Bool.not_true, Bool.not_false, Bool.not_eq_false', Bool.not_eq_true', Decidable.not_not] at hb
      refine awp_skip ?_
      refine h2 _ ?_; clear h2; clear k2
      refine awp_le (le_keep [2, 4, 8]) ?_
      simp only [keepL_nil, keepL_cons, keepM_some, keepM_none, argSl, lkp_cons, lkp_nil, Nat.reduceEqDiff, ↓reduceIte, reduceCtorEq, Nat.zero_add, Nat.reduceAdd]
      refine awp_sd [] ⟨[0, 1, 3, 0, 8, 31, 31, 127, 255, 511], [1, 4], [7, 9], [(2, 7), (5, 7), (2, 9), (5, 9)], none⟩ (by rw [hC]; rfl) (by kernel_rfl) (by kernel_rfl) fun k hk => ?_
      simp (maxSteps := 4000000) (disch := first | omega | (simp only [lens]; omega)) only [argSl, argA_nil, argA_cons, am, ↓amb, aml, mark_eq, lo, ← List.map_take, ← List.map_drop, ← List.map_append, ↓reduceIte, reduceCtorEq, Int.reduceBEq, Int.reduceBNe, Int.reduceToNat, Nat.reduceEqDiff, Nat.reduceAdd, Nat.reduceSub, Nat.reduceMul, Nat.reduceDiv, Nat.reduceMod, Nat.reduceLeDiff, Nat.reduceBEq, fl42_0, sz40, en51, fl42_2, sz36, en53, taskC]
      (repeat (refine ⟨by first | omega | (simp; done) | assumption | (unfold maxLen; omega) | (simp [maxLen]; omega), ?_⟩))
      refine callK_o (c51 _ _ (by omega)) rfl ?_
      simp (maxSteps := 4000000) (disch := first | omega | (simp only [lens]; omega)) only [argSl, argA_nil, argA_cons, am, ↓amb, aml, mark_eq, lo, ← List.map_take, ← List.map_drop, ← List.map_append, ↓reduceIte, reduceCtorEq, Int.reduceBEq, Int.reduceBNe, Int.reduceToNat, Nat.reduceEqDiff, Nat.reduceAdd, Nat.reduceSub, Nat.reduceMul, Nat.reduceDiv, Nat.reduceMod, Nat.reduceLeDiff, Nat.reduceBEq, fl42_0, sz40, en51, fl42_2, sz36, en53, taskC]
      (repeat (refine ⟨by first | omega | (simp; done) | assumption | (unfold maxLen; omega) | (simp [maxLen]; omega), ?_⟩))
      refine callK_o (c53 _ _ (by omega)) rfl ?_
      simp (maxSteps := 4000000) (disch := first | omega | (simp only [lens]; omega)) only [argSl, argA_nil, argA_cons, am, ↓amb, aml, mark_eq, lo, ← List.map_take, ← List.map_drop, ← List.map_append, ↓reduceIte, reduceCtorEq, Int.reduceBEq, Int.reduceBNe, Int.reduceToNat, Nat.reduceEqDiff, Nat.reduceAdd, Nat.reduceSub, Nat.reduceMul, Nat.reduceDiv, Nat.reduceMod, Nat.reduceLeDiff, Nat.reduceBEq, fl42_0, sz40, en51, fl42_2, sz36, en53, taskC]
      (repeat (refine ⟨by first | omega | (simp; done) | assumption | (unfold maxLen; omega) | (simp [maxLen]; omega), ?_⟩)); refine hk _ ?_; clear hk; clear k
      refine awp_seq fun k3 h3 => ?_
      refine awp_le (le_keep [2, 4, 5, 6, 8]) ?_
      simp only [keepL_nil, keepL_cons, keepM_some, keepM_none, argSl, lkp_cons, lkp_nil, Nat.reduceEqDiff, ↓reduceIte, reduceCtorEq, Nat.zero_add, Nat.reduceAdd]
      have h0 := Pl.doE0 hth hb
      refine awp_sr [] (by rw [hC]; rfl) fun k hk => ?_
      simp (maxSteps := 4000000) (disch := first | omega | (simp only [lens]; omega)) only [argSl, argA_nil, argA_cons, am, ↓amb, aml, mark_eq, lo, ← List.map_take, ← List.map_drop, ← List.map_append, ↓reduceIte, reduceCtorEq, Int.reduceBEq, Int.reduceBNe, Int.reduceToNat, Nat.reduceEqDiff, Nat.reduceAdd, Nat.reduceSub, Nat.reduceMul, Nat.reduceDiv, Nat.reduceMod, Nat.reduceLeDiff, Nat.reduceBEq, fl60_0, sz3, taskC]
      (repeat (refine ⟨by first | omega | (simp; done) | assumption | (unfold maxLen; omega) | (simp [maxLen]; omega), ?_⟩)); refine hk _ ?_; clear hk; clear k
      refine awp_block ?_
      refine awp_loop (σ := Nat) (fun x => (w.ts.getD i.toNat default).low.toNat ≤ x ∧ x ≤ (w.ts.getD i.toNat default).high.toNat) (fun (x : Nat) => ⟨[(2, (.ptr 0 3 0 0)), (4, (.ptr 1 3 0 0)), (8, (.ptr 2 4 0 0)), (9, (.p (iV (x : Int))))], [(0, (.row 3 [[.own 3, .p (iV w.grain), .own 4]])), (1, (.row 3 [[.p (.seq true []), .p (iV 0), .p (.seq true [])]])), (2, (.row 4 [[.p (iV (w.ts.getD i.toNat default).low), .p (iV (w.ts.getD i.toNat default).high), .p (iV (w.ts.getD i.toNat default).up), .p (iV (w.ts.getD i.toNat default).wait)]])), (3, (.row 4 (lift (w.ts.map taskC)))), (4, (.row 1 (lift ((Pl.marked w.done (w.ts.getD i.toNat default).low.toNat x).map fun b => [bV b]))))], 1⟩) (fun x => (w.ts.getD i.toNat default).high.toNat - x) (w.ts.getD i.toNat default).low.toNat ?_ ?_ fun x hx => ?_
      · exact ⟨Nat.le_refl _, by omega⟩
      · exact le_of [(0, _), (1, _), (2, _), (3, _), (4, _)] (by rfl) (by rfl) ⟨⟨_, rfl, .ptr rfl⟩, ⟨_, rfl, .ptr rfl⟩, ⟨_, rfl, .ptr rfl⟩, ⟨_, rfl, .p (.of_eq (by first | rfl | (simp only [PV.lit.injEq, Value.int.injEq, true_and]; omega) | (simp; done) | (simp; omega)))⟩, trivial⟩ ⟨⟨_, rfl, _, rfl, .one (.cons (.own rfl) (.cons (.p (.refl _)) (.cons (.own rfl) .nil)))⟩, ⟨_, rfl, _, rfl, .one (.cons (.p (.refl _)) (.cons (.p (.refl _)) (.cons (.p (.refl _)) .nil)))⟩, ⟨_, rfl, _, rfl, .one (.cons (.p (.refl _)) (.cons (.p (.refl _)) (.cons (.p (.refl _)) (.cons (.p (.refl _)) .nil))))⟩, ⟨_, rfl, _, rfl, .lift _⟩, ⟨_, rfl, _, rfl, .liftE (by first | (rw [Pl.marked_start]; done) | (rw [← Pl.marked_set (by omega) (by omega), List.map_set]; try simp; done))⟩, trivial⟩
      obtain ⟨hx1, hx2⟩ := hx
      have hml := Pl.marked_len (d := w.done) hx1 (by omega)
      refine awp_seq fun k5 h5 => ?_
      refine awp_le (le_keep [0, 1, 2, 3, 4, 5, 6, 8, 9]) ?_
      simp only [keepL_nil, keepL_cons, keepM_some, keepM_none, argSl, lkp_cons, lkp_nil, Nat.reduceEqDiff, ↓reduceIte, reduceCtorEq, Nat.zero_add, Nat.reduceAdd]
      refine awp_sr [] (by rw [hC]; rfl) fun k hk => ?_
      simp (maxSteps := 4000000) (disch := first | omega | (simp only [lens]; omega)) only [argSl, argA_nil, argA_cons, am, ↓amb, aml, mark_eq, lo, ← List.map_take, ← List.map_drop, ← List.map_append, ↓reduceIte, reduceCtorEq, Int.reduceBEq, Int.reduceBNe, Int.reduceToNat, Nat.reduceEqDiff, Nat.reduceAdd, Nat.reduceSub, Nat.reduceMul, Nat.reduceDiv, Nat.reduceMod, Nat.reduceLeDiff, Nat.reduceBEq, fl60_1, sz3, taskC]
      (repeat (refine ⟨by first | omega | (simp; done) | assumption | (unfold maxLen; omega) | (simp [maxLen]; omega), ?_⟩)); refine hk _ ?_; clear hk; clear k
      refine awp_cond rfl (fun hb => ?_) (fun hb => ?_)
      · -- branch 5
        try simp only [decide_eq_true_eq, decide_eq_false_iff_not, Int.not_lt, Int.not_le, beq_iff_eq, bne_iff_ne, ne_eq, beq_eq_false_iff_ne, bne_eq_false_iff_eq, Bool.not_eq_true, Bool.not_eq_false, Bool.not_true, Bool.not_false, Bool.not_eq_false', Bool.not_eq_true', Decidable.not_not] at hb
        refine awp_skip ?_
        refine h5 _ ?_; clear h5; clear k5
        refine awp_seq fun k6 h6 => ?_
        refine awp_block ?_
        refine awp_region [] (by rw [hC]; rfl) fun k hk => ?_
        simp (maxSteps := 4000000) (disch := first | omega | (simp only [lens]; omega)) only [argSl, argA_nil, argA_cons, am, ↓amb, aml, mark_eq, lo, ← List.map_take, ← List.map_drop, ← List.map_append, ↓reduceIte, reduceCtorEq, Int.reduceBEq, Int.reduceBNe, Int.reduceToNat, Nat.reduceEqDiff, Nat.reduceAdd, Nat.reduceSub, Nat.reduceMul, Nat.reduceDiv, Nat.reduceMod, Nat.reduceLeDiff, Nat.reduceBEq, fl42_2, sz36, el36, sz4, taskC]
        (repeat (refine ⟨by first | omega | (simp; done) | assumption | (unfold maxLen; omega) | (simp [maxLen]; omega), ?_⟩)); refine hk _ ?_; clear hk; clear k
        refine h6 _ ?_; clear h6; clear k6
        refine awp_region [] (by rw [hC]; rfl) fun k hk => ?_
        simp (maxSteps := 4000000) (disch := first | omega | (simp only [lens]; omega)) only [argSl, argA_nil, argA_cons, am, ↓amb, aml, mark_eq, lo, ← List.map_take, ← List.map_drop, ← List.map_append, ↓reduceIte, reduceCtorEq, Int.reduceBEq, Int.reduceBNe, Int.reduceToNat, Nat.reduceEqDiff, Nat.reduceAdd, Nat.reduceSub, Nat.reduceMul, Nat.reduceDiv, Nat.reduceMod, Nat.reduceLeDiff, Nat.reduceBEq, taskC]
        (repeat (refine ⟨by first | omega | (simp; done) | assumption | (unfold maxLen; omega) | (simp [maxLen]; omega), ?_⟩)); refine hk _ ?_; clear hk; clear k
        refine ⟨x + 1, ⟨by omega, by omega⟩, le_of [(0, _), (1, _), (2, _), (3, _), (4, _)] (by rfl) (by rfl) ⟨⟨_, rfl, .ptr rfl⟩, ⟨_, rfl, .ptr rfl⟩, ⟨_, rfl, .ptr rfl⟩, ⟨_, rfl, .p (.of_eq (by first | rfl | (simp only [PV.lit.injEq, Value.int.injEq, true_and]; omega) | (simp; done) | (simp; omega)))⟩, trivial⟩ ⟨⟨_, rfl, _, rfl, .one (.cons (.own rfl) (.cons (.p (.refl _)) (.cons (.own rfl) .nil)))⟩, ⟨_, rfl, _, rfl, .one (.cons (.p (.refl _)) (.cons (.p (.refl _)) (.cons (.p (.refl _)) .nil)))⟩, ⟨_, rfl, _, rfl, .one (.cons (.p (.refl _)) (.cons (.p (.refl _)) (.cons (.p (.refl _)) (.cons (.p (.refl _)) .nil))))⟩, ⟨_, rfl, _, rfl, .lift _⟩, ⟨_, rfl, _, rfl, .liftE (by first | (rw [Pl.marked_start]; done) | (rw [← Pl.marked_set (by omega) (by omega), List.map_set]; try simp; done))⟩, trivial⟩, by omega⟩
      · -- branch 6
        try simp only [decide_eq_true_eq, decide_eq_false_iff_not, Int.not_lt, Int.not_le, beq_iff_eq, bne_iff_ne, ne_eq, beq_eq_false_iff_ne, bne_eq_false_iff_eq, Bool.not_eq_true, Bool.not_eq_false, Bool.not_true, Bool.not_false, Bool.not_eq_false', Bool.not_eq_true', Decidable.not_not] at hb
        refine awp_exit ((if_pos rfl).mpr ?_)
        refine h3 _ ?_; clear h5; clear k5; clear h3; clear k3
        refine awp_le (le_keep [2, 4, 8]) ?_
        simp only [keepL_nil, keepL_cons, keepM_some, keepM_none, argSl, lkp_cons, lkp_nil, Nat.reduceEqDiff, ↓reduceIte, reduceCtorEq, Nat.zero_add, Nat.reduceAdd]
        refine awp_sd [] ⟨[0, 0, 2, 0, 8, 30, 63, 127, 255], [], [5, 6], [(5, 6)], some [1, 3]⟩ (by rw [hC]; rfl) (by kernel_rfl) (by kernel_rfl) fun k hk => ?_
        simp (maxSteps := 4000000) (disch := first | omega | (simp only [lens]; omega)) only [argSl, argA_nil, argA_cons, am, ↓amb, aml, mark_eq, lo, ← List.map_take, ← List.map_drop, ← List.map_append, ↓reduceIte, reduceCtorEq, Int.reduceBEq, Int.reduceBNe, Int.reduceToNat, Nat.reduceEqDiff, Nat.reduceAdd, Nat.reduceSub, Nat.reduceMul, Nat.reduceDiv, Nat.reduceMod, Nat.reduceLeDiff, Nat.reduceBEq, sz42, fl42_0, sz40, fl60_2, sz3, en54, taskC]
        (repeat (refine ⟨by first | omega | (simp; done) | assumption | (unfold maxLen; omega) | (simp [maxLen]; omega), ?_⟩))
        refine callK_h (c54 (w.ts.length + 1) w.ts (w.ts.getD i.toNat default).up (Pl.upOk_of hR) (by omega) (by omega) (by omega) (by omega)) [3] [] (by first | rfl | (simp only [hm]; done)) (by first | rfl | (simp [namesOk, lkp]; done)) (by first | trivial | (intro n hn; cases hn; done) | (simp (maxSteps := 4000000) (disch := first | omega | (simp only [lens]; omega)) only [argSl, argA_nil, argA_cons, am, ↓amb, aml, mark_eq, lo, ← List.map_take, ← List.map_drop, ← List.map_append, ↓reduceIte, reduceCtorEq, Int.reduceBEq, Int.reduceBNe, Int.reduceToNat, Nat.reduceEqDiff, Nat.reduceAdd, Nat.reduceSub, Nat.reduceMul, Nat.reduceDiv, Nat.reduceMod, Nat.reduceLeDiff, Nat.reduceBEq, sz42, fl42_0, sz40, fl60_2, sz3, en54, taskC, hm, List.filter_cons, List.filter_nil, List.map_cons, List.map_nil, Option.map_some, Option.map_none, lkp_nil, lkp_cons, a24, a26, Nat.reduceBNe, imp_self, implies_true]; done)) (by first | trivial | (intro n hn; cases hn; done) | (simp (maxSteps := 4000000) (disch := first | omega | (simp only [lens]; omega)) only [argSl, argA_nil, argA_cons, am, ↓amb, aml, mark_eq, lo, ← List.map_take, ← List.map_drop, ← List.map_append, ↓reduceIte, reduceCtorEq, Int.reduceBEq, Int.reduceBNe, Int.reduceToNat, Nat.reduceEqDiff, Nat.reduceAdd, Nat.reduceSub, Nat.reduceMul, Nat.reduceDiv, Nat.reduceMod, Nat.reduceLeDiff, Nat.reduceBEq, sz42, fl42_0, sz40, fl60_2, sz3, en54, taskC, hm, List.filter_cons, List.filter_nil, List.map_cons, List.map_nil, Option.map_some, Option.map_none, lkp_nil, lkp_cons, a24, a26, Nat.reduceBNe, imp_self, implies_true]; done)) (by first | trivial | (intro n hn; cases hn; done) | (simp (maxSteps := 4000000) (disch := first | omega | (simp only [lens]; omega)) only [argSl, argA_nil, argA_cons, am, ↓amb, aml, mark_eq, lo, ← List.map_take, ← List.map_drop, ← List.map_append, ↓reduceIte, reduceCtorEq, Int.reduceBEq, Int.reduceBNe, Int.reduceToNat, Nat.reduceEqDiff, Nat.reduceAdd, Nat.reduceSub, Nat.reduceMul, Nat.reduceDiv, Nat.reduceMod, Nat.reduceLeDiff, Nat.reduceBEq, sz42, fl42_0, sz40, fl60_2, sz3, en54, taskC, hm, List.filter_cons, List.filter_nil, List.map_cons, List.map_nil, Option.map_some, Option.map_none, lkp_nil, lkp_cons, a24, a26, Nat.reduceBNe, imp_self, implies_true]; done)) (by first | trivial | (intro n hn; cases hn; done) | (simp (maxSteps := 4000000) (disch := first | omega | (simp only [lens]; omega)) only [argSl, argA_nil, argA_cons, am, ↓amb, aml, mark_eq, lo, ← List.map_take, ← List.map_drop, ← List.map_append, ↓reduceIte, reduceCtorEq, Int.reduceBEq, Int.reduceBNe, Int.reduceToNat, Nat.reduceEqDiff, Nat.reduceAdd, Nat.reduceSub, Nat.reduceMul, Nat.reduceDiv, Nat.reduceMod, Nat.reduceLeDiff, Nat.reduceBEq, sz42, fl42_0, sz40, fl60_2, sz3, en54, taskC, hm, List.filter_cons, List.filter_nil, List.map_cons, List.map_nil, Option.map_some, Option.map_none, lkp_nil, lkp_cons, a24, a26, Nat.reduceBNe, imp_self, implies_true]; done)) (by first | trivial | (intro n hn; cases hn; done) | (simp (maxSteps := 4000000) (disch := first | omega | (simp only [lens]; omega)) only [argSl, argA_nil, argA_cons, am, ↓amb, aml, mark_eq, lo, ← List.map_take, ← List.map_drop, ← List.map_append, ↓reduceIte, reduceCtorEq, Int.reduceBEq, Int.reduceBNe, Int.reduceToNat, Nat.reduceEqDiff, Nat.reduceAdd, Nat.reduceSub, Nat.reduceMul, Nat.reduceDiv, Nat.reduceMod, Nat.reduceLeDiff, Nat.reduceBEq, sz42, fl42_0, sz40, fl60_2, sz3, en54, taskC, hm, List.filter_cons, List.filter_nil, List.map_cons, List.map_nil, Option.map_some, Option.map_none, lkp_nil, lkp_cons, a24, a26, Nat.reduceBNe, imp_self, implies_true]; done)) (by first | trivial | (intro n hn; cases hn; done) | (simp (maxSteps := 4000000) (disch := first | omega | (simp only [lens]; omega)) only [argSl, argA_nil, argA_cons, am, ↓amb, aml, mark_eq, lo, ← List.map_take, ← List.map_drop, ← List.map_append, ↓reduceIte, reduceCtorEq, Int.reduceBEq, Int.reduceBNe, Int.reduceToNat, Nat.reduceEqDiff, Nat.reduceAdd, Nat.reduceSub, Nat.reduceMul, Nat.reduceDiv, Nat.reduceMod, Nat.reduceLeDiff, Nat.reduceBEq, sz42, fl42_0, sz40, fl60_2, sz3, en54, taskC, hm, List.filter_cons, List.filter_nil, List.map_cons, List.map_nil, Option.map_some, Option.map_none, lkp_nil, lkp_cons, a24, a26, Nat.reduceBNe, imp_self, implies_true]; done)) ?_
        simp (maxSteps := 4000000) (disch := first | omega | (simp only [lens]; omega)) only [argSl, argA_nil, argA_cons, am, ↓amb, aml, mark_eq, lo, ← List.map_take, ← List.map_drop, ← List.map_append, ↓reduceIte, reduceCtorEq, Int.reduceBEq, Int.reduceBNe, Int.reduceToNat, Nat.reduceEqDiff, Nat.reduceAdd, Nat.reduceSub, Nat.reduceMul, Nat.reduceDiv, Nat.reduceMod, Nat.reduceLeDiff, Nat.reduceBEq, sz42, fl42_0, sz40, fl60_2, sz3, en54, taskC, hm, List.filter_cons, List.filter_nil, Nat.reduceBNe, Option.map_none]
        (repeat (refine ⟨by first | omega | (simp; done) | assumption | (unfold maxLen; omega) | (simp [maxLen]; omega), ?_⟩)); refine hk _ ?_; clear hk; clear k
        refine awp_ret ?_
        obtain ⟨e1, e2, e4⟩ := Pl.do_ok h0
        rw [e1, e2, e4]
        refine retl rfl rfl ⟨retc rfl sz42 ?_, rett rfl ?_, rett rfl ?_, trivial⟩
        simp (maxSteps := 4000000) (disch := first | omega | (simp only [lens]; omega)) only [argSl, argA_nil, argA_cons, am, ↓amb, aml, mark_eq, lo, ← List.map_take, ← List.map_drop, ← List.map_append, ↓reduceIte, reduceCtorEq, Int.reduceBEq, Int.reduceBNe, Int.reduceToNat, Nat.reduceEqDiff, Nat.reduceAdd, Nat.reduceSub, Nat.reduceMul, Nat.reduceDiv, Nat.reduceMod, Nat.reduceLeDiff, Nat.reduceBEq, sz42, taskC]
        · exact .agg_cons (.ownE rfl (by rfl)) (.agg_cons (.p (LeP.refl _)) (.agg_cons (.ownE rfl (by simp only [Pl.did, Pl.task]; rw [show x = (w.ts.getD i.toNat default).high.toNat by omega])) (.agg_nil)))
        · exact .p (LeP.refl _)
        · exact .p (LeP.refl _)
set_option maxHeartbeats 4000000 in
theorem c31 (c d : Bool) (w : Pl.Work) (i : Int) : PCall Try.prog 31 [workV c d w, iV i] (.tup [workV false false (Pl.doW w i), bV (Pl.doO w i), iV (Pl.doE w i)]) := by
  refine pcall_of_awp Try.func31 rfl (by simp [Try.ntmps31]) fun C hC => ?_
  refine awp_le (le_keep [0, 1]) ?_
  simp only [keepL_nil, keepL_cons, keepM_some, keepM_none, argSl, lkp_cons, lkp_nil, Nat.reduceEqDiff, ↓reduceIte, reduceCtorEq, Nat.zero_add, Nat.reduceAdd]
  refine awp_sr [] (by rw [hC]; rfl) fun k hk => ?_
  simp (maxSteps := 4000000) (disch := first | omega | (simp only [lens]; omega)) only [argSl, argA_nil, argA_cons, am, ↓amb, aml, mark_eq, lo, ← List.map_take, ← List.map_drop, ← List.map_append, ↓reduceIte, reduceCtorEq, Int.reduceBEq, Int.reduceBNe, Int.reduceToNat, Nat.reduceEqDiff, Nat.reduceAdd, Nat.reduceSub, Nat.reduceMul, Nat.reduceDiv, Nat.reduceMod, Nat.reduceLeDiff, Nat.reduceBEq, vr42, taskC]
  (repeat (refine ⟨by first | omega | (simp; done) | assumption | (unfold maxLen; omega) | (simp [maxLen]; omega), ?_⟩)); refine hk _ ?_; clear hk; clear k
  refine awp_seq fun k1 h1 => ?_
  refine awp_block ?_
  refine awp_le (le_keep [1, 2, 4, 5, 6]) ?_
  simp only [keepL_nil, keepL_cons, keepM_some, keepM_none, argSl, lkp_cons, lkp_nil, Nat.reduceEqDiff, ↓reduceIte, reduceCtorEq, Nat.zero_add, Nat.reduceAdd]
  refine awp_sr [] (by rw [hC]; rfl) fun k hk => ?_
  simp (maxSteps := 4000000) (disch := first | omega | (simp only [lens]; omega)) only [argSl, argA_nil, argA_cons, am, ↓amb, aml, mark_eq, lo, ← List.map_take, ← List.map_drop, ← List.map_append, ↓reduceIte, reduceCtorEq, Int.reduceBEq, Int.reduceBNe, Int.reduceToNat, Nat.reduceEqDiff, Nat.reduceAdd, Nat.reduceSub, Nat.reduceMul, Nat.reduceDiv, Nat.reduceMod, Nat.reduceLeDiff, Nat.reduceBEq, sz42, en38, taskC]
  (repeat (refine ⟨by first | omega | (simp; done) | assumption | (unfold maxLen; omega) | (simp [maxLen]; omega), ?_⟩))
  refine callK_p (c38 _ _ _) rfl ?_
  simp (maxSteps := 4000000) (disch := first | omega | (simp only [lens]; omega)) only [argSl, argA_nil, argA_cons, am, ↓amb, aml, mark_eq, lo, ← List.map_take, ← List.map_drop, ← List.map_append, ↓reduceIte, reduceCtorEq, Int.reduceBEq, Int.reduceBNe, Int.reduceToNat, Nat.reduceEqDiff, Nat.reduceAdd, Nat.reduceSub, Nat.reduceMul, Nat.reduceDiv, Nat.reduceMod, Nat.reduceLeDiff, Nat.reduceBEq, sz42, en38, taskC]
  (repeat (refine ⟨by first | omega | (simp; done) | assumption | (unfold maxLen; omega) | (simp [maxLen]; omega), ?_⟩)); refine hk _ ?_; clear hk; clear k
  refine awp_cond rfl (fun hb => ?_) (fun hb => ?_)
  · -- branch 1
    try simp only [decide_eq_true_eq, decide_eq_false_iff_not, Int.not_lt, Int.not_le, beq_iff_eq, bne_iff_ne, ne_eq, beq_eq_false_iff_ne, bne_eq_false_iff_eq, Bool.not_eq_true, Bool.not_eq_false, Bool.not_true, Bool.not_false, Bool.not_eq_false', Bool.not_eq_true', Decidable.not_not] at hb
    refine awp_le (le_keep [2, 4]) ?_
    simp only [keepL_nil, keepL_cons, keepM_some, keepM_none, argSl, lkp_cons, lkp_nil, Nat.reduceEqDiff, ↓reduceIte, reduceCtorEq, Nat.zero_add, Nat.reduceAdd]
    refine awp_sr [] (by rw [hC]; rfl) fun k hk => ?_
    simp (maxSteps := 4000000) (disch := first | omega | (simp only [lens]; omega)) only [argSl, argA_nil, argA_cons, am, ↓amb, aml, mark_eq, lo, ← List.map_take, ← List.map_drop, ← List.map_append, ↓reduceIte, reduceCtorEq, Int.reduceBEq, Int.reduceBNe, Int.reduceToNat, Nat.reduceEqDiff, Nat.reduceAdd, Nat.reduceSub, Nat.reduceMul, Nat.reduceDiv, Nat.reduceMod, Nat.reduceLeDiff, Nat.reduceBEq, sz42, taskC]
    (repeat (refine ⟨by first | omega | (simp; done) | assumption | (unfold maxLen; omega) | (simp [maxLen]; omega), ?_⟩)); refine hk _ ?_; clear hk; clear k
    refine awp_ret ?_
    obtain ⟨e1, e2, e4⟩ := Pl.do_err (w := w) (i := i) ((Pl.doE1 (by rw [Pl.there, if_pos hb]; decide)).trans (by rw [Pl.there, if_pos hb])) (by decide)
    rw [e1, e2, e4]
    refine retl rfl rfl ⟨retc rfl sz42 ?_, rett rfl ?_, rett rfl ?_, trivial⟩
    simp (maxSteps := 4000000) (disch := first | omega | (simp only [lens]; omega)) only [argSl, argA_nil, argA_cons, am, ↓amb, aml, mark_eq, lo, ← List.map_take, ← List.map_drop, ← List.map_append, ↓reduceIte, reduceCtorEq, Int.reduceBEq, Int.reduceBNe, Int.reduceToNat, Nat.reduceEqDiff, Nat.reduceAdd, Nat.reduceSub, Nat.reduceMul, Nat.reduceDiv, Nat.reduceMod, Nat.reduceLeDiff, Nat.reduceBEq, sz42, taskC]
    · exact .p (LeP.agg (.cons (LeP.seq _ _) (.cons (LeP.refl _) (.cons (LeP.seq _ _) .nil))))
    · exact .p (LeP.refl _)
    · exact .p (LeP.refl _)
  · -- branch 2
    try simp only [decide_eq_true_eq, decide_eq_false_iff_not, Int.not_lt, Int.not_le, beq_iff_eq, bne_iff_ne, ne_eq, beq_eq_false_iff_ne, bne_eq_false_iff_eq, Bool.not_eq_true, Bool.not_eq_false, Bool.not_true, Bool.not_false, Bool.not_eq_false', Bool.not_eq_true', Decidable.not_not] at hb
    refine awp_le (le_keep [1, 2, 4, 5, 6]) ?_
    simp only [keepL_nil, keepL_cons, keepM_some, keepM_none, argSl, lkp_cons, lkp_nil, Nat.reduceEqDiff, ↓reduceIte, reduceCtorEq, Nat.zero_add, Nat.reduceAdd]
    have hR := hb
    refine awp_sr [] (by rw [hC]; rfl) fun k hk => ?_
    simp (maxSteps := 4000000) (disch := first | omega | (simp only [lens]; omega)) only [argSl, argA_nil, argA_cons, am, ↓amb, aml, mark_eq, lo, ← List.map_take, ← List.map_drop, ← List.map_append, ↓reduceIte, reduceCtorEq, Int.reduceBEq, Int.reduceBNe, Int.reduceToNat, Nat.reduceEqDiff, Nat.reduceAdd, Nat.reduceSub, Nat.reduceMul, Nat.reduceDiv, Nat.reduceMod, Nat.reduceLeDiff, Nat.reduceBEq, sz42, en52, taskC]
    (repeat (refine ⟨by first | omega | (simp; done) | assumption | (unfold maxLen; omega) | (simp [maxLen]; omega), ?_⟩))
    refine callK_p (c52 _ _ _ _) rfl ?_
    simp (maxSteps := 4000000) (disch := first | omega | (simp only [lens]; omega)) only [argSl, argA_nil, argA_cons, am, ↓amb, aml, mark_eq, lo, ← List.map_take, ← List.map_drop, ← List.map_append, ↓reduceIte, reduceCtorEq, Int.reduceBEq, Int.reduceBNe, Int.reduceToNat, Nat.reduceEqDiff, Nat.reduceAdd, Nat.reduceSub, Nat.reduceMul, Nat.reduceDiv, Nat.reduceMod, Nat.reduceLeDiff, Nat.reduceBEq, sz42, en52, taskC]
    (repeat (refine ⟨by first | omega | (simp; done) | assumption | (unfold maxLen; omega) | (simp [maxLen]; omega), ?_⟩)); refine hk _ ?_; clear hk; clear k
    refine awp_cond rfl (fun hb => ?_) (fun hb => ?_)
    · -- branch 3
      try simp only [decide_eq_true_eq, decide_eq_false_iff_not, Int.not_lt, Int.not_le, beq_iff_eq, bne_iff_ne, ne_eq, beq_eq_false_iff_ne, bne_eq_false_iff_eq, Bool.not_eq_true, Bool.not_eq_false, Bool.not_true, Bool.not_false, Bool.not_eq_false', Bool.not_eq_true', Decidable.not_not] at hb
      refine awp_le (le_keep [2, 4]) ?_
      simp only [keepL_nil, keepL_cons, keepM_some, keepM_none, argSl, lkp_cons, lkp_nil, Nat.reduceEqDiff, ↓reduceIte, reduceCtorEq, Nat.zero_add, Nat.reduceAdd]
      refine awp_sr [] (by rw [hC]; rfl) fun k hk => ?_
      simp (maxSteps := 4000000) (disch := first | omega | (simp only [lens]; omega)) only [argSl, argA_nil, argA_cons, am, ↓amb, aml, mark_eq, lo, ← List.map_take, ← List.map_drop, ← List.map_append, ↓reduceIte, reduceCtorEq, Int.reduceBEq, Int.reduceBNe, Int.reduceToNat, Nat.reduceEqDiff, Nat.reduceAdd, Nat.reduceSub, Nat.reduceMul, Nat.reduceDiv, Nat.reduceMod, Nat.reduceLeDiff, Nat.reduceBEq, sz42, taskC]
      (repeat (refine ⟨by first | omega | (simp; done) | assumption | (unfold maxLen; omega) | (simp [maxLen]; omega), ?_⟩)); refine hk _ ?_; clear hk; clear k
      refine awp_ret ?_
      obtain ⟨e1, e2, e4⟩ := Pl.do_err (w := w) (i := i) ((Pl.doE1 (by rw [Pl.there, if_neg (by simpa using hR), if_pos (by omega)]; decide)).trans (by rw [Pl.there, if_neg (by simpa using hR), if_pos (by omega)])) (by decide)
      rw [e1, e2, e4]
      refine retl rfl rfl ⟨retc rfl sz42 ?_, rett rfl ?_, rett rfl ?_, trivial⟩
      simp (maxSteps := 4000000) (disch := first | omega | (simp only [lens]; omega)) only [argSl, argA_nil, argA_cons, am, ↓amb, aml, mark_eq, lo, ← List.map_take, ← List.map_drop, ← List.map_append, ↓reduceIte, reduceCtorEq, Int.reduceBEq, Int.reduceBNe, Int.reduceToNat, Nat.reduceEqDiff, Nat.reduceAdd, Nat.reduceSub, Nat.reduceMul, Nat.reduceDiv, Nat.reduceMod, Nat.reduceLeDiff, Nat.reduceBEq, sz42, taskC]
      · exact .p (LeP.agg (.cons (LeP.seq _ _) (.cons (LeP.refl _) (.cons (LeP.seq _ _) .nil))))
      · exact .p (LeP.refl _)
      · exact .p (LeP.refl _)
    · -- branch 4
      try simp only [decide_eq_true_eq, decide_eq_false_iff_not, Int.not_lt, Int.not_le, beq_iff_eq, bne_iff_ne, ne_eq, beq_eq_false_iff_ne, bne_eq_false_iff_eq, Bool.not_eq_true, Bool.not_eq_false, Bool.not_true, Bool.not_false, Bool.not_eq_false', Bool.not_eq_true', Decidable.not_not] at hb
      have hth := Pl.there_of hR (by assumption)
      obtain ⟨_, hi0, hi1, hok, hd1, hg1, hg2, ht1⟩ := Pl.ok_of hth
      simp only [Pl.okT, Pl.task] at hok
      have hin : i.toNat < w.ts.length := by omega
      refine awp_testD [] ⟨[0, 0, 3, 7, 15, 31, 15, 127, 255, 511, 1023, 2047, 4095, 8191, 16383, 8191, 40959, 8191, 237567, 499711, 1023999, 2097151, 4194303, 8388607, 16777215], [0, 5, 9, 14, 16, 20, 22], [], [(2, 5), (2, 9), (2, 14), (2, 16), (2, 20), (2, 22)], some []⟩ 21 (decide (Pl.great w i ∨ 0 < (w.ts.getD i.toNat default).wait ∨ w.done.getD (w.ts.getD i.toNat default).low.toNat false = true)) [1, 2, 4, 5, 6] (by rw [hC]; rfl) (by kernel_rfl) (by kernel_rfl) (fun gd hgd k hk => ?_) ?_
      · have g3 : gd 3 = some 25 := by rw [hgd]; rfl
        have g12 : gd 12 = some 34 := by rw [hgd]; rfl
        clear hgd
        simp (maxSteps := 4000000) (disch := first | omega | (simp only [lens]; omega)) only [argSl, argA_nil, argA_cons, am, ↓amb, aml, mark_eq, lo, ← List.map_take, ← List.map_drop, ← List.map_append, ↓reduceIte, reduceCtorEq, Int.reduceBEq, Int.reduceBNe, Int.reduceToNat, Nat.reduceEqDiff, Nat.reduceAdd, Nat.reduceSub, Nat.reduceMul, Nat.reduceDiv, Nat.reduceMod, Nat.reduceLeDiff, Nat.reduceBEq, sz42, en40, fl42_0, sz40, el40, sz60, fl60_3, sz3, fl42_2, sz36, fl60_0, el36, sz4, gcase_undef, g3, g12, taskC]
        repeat' first | refine hk _ _ rfl rfl rfl rfl ?_ | (refine gsplit (fun hg => ?_) (fun hg => ?_) <;> (try simp only [decide_eq_true_eq, decide_eq_false_iff_not, Int.not_lt, Int.not_le, beq_iff_eq, bne_iff_ne, ne_eq, beq_eq_false_iff_ne, bne_eq_false_iff_eq, Bool.not_eq_true, Bool.not_eq_false, Bool.not_true, Bool.not_false, Bool.not_eq_false', Bool.not_eq_true', Decidable.not_not] at hg) <;> simp (maxSteps := 4000000) (disch := first | omega | (simp only [lens]; omega)) only [argSl, argA_nil, argA_cons, am, ↓amb, aml, mark_eq, lo, ← List.map_take, ← List.map_drop, ← List.map_append, ↓reduceIte, reduceCtorEq, Int.reduceBEq, Int.reduceBNe, Int.reduceToNat, Nat.reduceEqDiff, Nat.reduceAdd, Nat.reduceSub, Nat.reduceMul, Nat.reduceDiv, Nat.reduceMod, Nat.reduceLeDiff, Nat.reduceBEq, sz42, en40, fl42_0, sz40, el40, sz60, fl60_3, sz3, fl42_2, sz36, fl60_0, el36, sz4, gcase_undef, g3, g12, taskC]) | apply And.intro | (refine callK_p (c40 _ _ _ _) rfl ?_; simp (maxSteps := 4000000) (disch := first | omega | (simp only [lens]; omega)) only [argSl, argA_nil, argA_cons, am, ↓amb, aml, mark_eq, lo, ← List.map_take, ← List.map_drop, ← List.map_append, ↓reduceIte, reduceCtorEq, Int.reduceBEq, Int.reduceBNe, Int.reduceToNat, Nat.reduceEqDiff, Nat.reduceAdd, Nat.reduceSub, Nat.reduceMul, Nat.reduceDiv, Nat.reduceMod, Nat.reduceLeDiff, Nat.reduceBEq, sz42, en40, fl42_0, sz40, el40, sz60, fl60_3, sz3, fl42_2, sz36, fl60_0, el36, sz4, gcase_undef, g3, g12, taskC]) | fail
        all_goals first | rfl | omega | exact (decide_eq_true (by omega)).symm | exact (decide_eq_false (by omega)).symm | exact decide_eq_decide.mpr (by omega) | (refine Bool.eq_iff_iff.mpr ?_; simp only [beq_iff_eq, bne_iff_ne, ne_eq, decide_eq_true_eq]; omega) | assumption | (simp; done) | (simp [maxLen]; omega) | skip
        all_goals first | exact (decide_eq_true (.inl (by assumption))).symm | (refine Bool.eq_iff_iff.mpr ?_; simp only [decide_eq_true_eq]; exact ⟨fun h => .inr (.inr h), fun h => by (rcases h with h | h | h; exact absurd h (by assumption); omega; exact h)⟩) | (exact (decide_eq_true (.inr (.inl (by omega)))).symm)
      simp only [keepL_nil, keepL_cons, keepM_some, keepM_none, argSl, argA_nil, argA_cons, lkp_cons, lkp_nil, Nat.reduceEqDiff, ↓reduceIte, reduceCtorEq, Nat.zero_add, Nat.reduceAdd, List.length_cons, List.length_nil]
      refine awp_cond rfl (fun hb => ?_) (fun hb => ?_)
      · -- branch 5
        try simp only [decide_eq_true_eq, decide_eq_false_iff_not, Int.not_lt, Int.not_le, beq_iff_eq, bne_iff_ne, ne_eq, beq_eq_false_iff_ne, bne_eq_false_iff_eq, Bool.not_eq_true, Bool.not_eq_false, Bool.not_true, Bool.not_false, Bool.not_eq_false', Bool.not_eq_true', Decidable.not_not] at hb
        refine awp_le (le_keep [2, 4]) ?_
        simp only [keepL_nil, keepL_cons, keepM_some, keepM_none, argSl, lkp_cons, lkp_nil, Nat.reduceEqDiff, ↓reduceIte, reduceCtorEq, Nat.zero_add, Nat.reduceAdd]
        refine awp_sr [] (by rw [hC]; rfl) fun k hk => ?_
        simp (maxSteps := 4000000) (disch := first | omega | (simp only [lens]; omega)) only [argSl, argA_nil, argA_cons, am, ↓amb, aml, mark_eq, lo, ← List.map_take, ← List.map_drop, ← List.map_append, ↓reduceIte, reduceCtorEq, Int.reduceBEq, Int.reduceBNe, Int.reduceToNat, Nat.reduceEqDiff, Nat.reduceAdd, Nat.reduceSub, Nat.reduceMul, Nat.reduceDiv, Nat.reduceMod, Nat.reduceLeDiff, Nat.reduceBEq, sz42, taskC]
        (repeat (refine ⟨by first | omega | (simp; done) | assumption | (unfold maxLen; omega) | (simp [maxLen]; omega), ?_⟩)); refine hk _ ?_; clear hk; clear k
        refine awp_ret ?_
        obtain ⟨e1, e2, e4⟩ := Pl.do_err (w := w) (i := i) (Pl.doE2 hth (by simp only [Pl.great, Pl.task] at *; rcases hb with h | h | h; exact .inl h.2; exact .inr (.inl h); exact .inr (.inr h))) (by decide)
        rw [e1, e2, e4]
        refine retl rfl rfl ⟨retc rfl sz42 ?_, rett rfl ?_, rett rfl ?_, trivial⟩
        simp (maxSteps := 4000000) (disch := first | omega | (simp only [lens]; omega)) only [argSl, argA_nil, argA_cons, am, ↓amb, aml, mark_eq, lo, ← List.map_take, ← List.map_drop, ← List.map_append, ↓reduceIte, reduceCtorEq, Int.reduceBEq, Int.reduceBNe, Int.reduceToNat, Nat.reduceEqDiff, Nat.reduceAdd, Nat.reduceSub, Nat.reduceMul, Nat.reduceDiv, Nat.reduceMod, Nat.reduceLeDiff, Nat.reduceBEq, sz42, taskC]
        · exact .p (LeP.agg (.cons (LeP.seq _ _) (.cons (LeP.refl _) (.cons (LeP.seq _ _) .nil))))
        · exact .p (LeP.refl _)
        · exact .p (LeP.refl _)
      · -- branch 6
        try simp only [decide_eq_true_eq, decide_eq_false_iff_not, Int.not_lt, Int.not_le, beq_iff_eq, bne_iff_ne, ne_eq, beq_eq_false_iff_ne, bne_eq_false_iff_eq, Bool.not_eq_true, Bool.not_eq_false, Bool.not_true, Bool.not_false, Bool.not_eq_false', Bool.not_eq_true', Decidable.not_not] at hb
        refine awp_skip ?_
        refine h1 _ ?_; clear h1; clear k1
        refine awp_le (le_keep [1, 2, 4]) ?_
        simp only [keepL_nil, keepL_cons, keepM_some, keepM_none, argSl, lkp_cons, lkp_nil, Nat.reduceEqDiff, ↓reduceIte, reduceCtorEq, Nat.zero_add, Nat.reduceAdd]
        have h0 : Pl.doE w i = 0 := Pl.doE0 hth (by simp only [Pl.great, Pl.task] at *; intro h; rcases h with h | h | h; exact hb (.inl ⟨hth, h⟩); exact hb (.inr (.inl h)); exact hb (.inr (.inr h)))
        refine awp_sr [] (by rw [hC]; rfl) fun k hk => ?_
        simp (maxSteps := 4000000) (disch := first | omega | (simp only [lens]; omega)) only [argSl, argA_nil, argA_cons, am, ↓amb, aml, mark_eq, lo, ← List.map_take, ← List.map_drop, ← List.map_append, ↓reduceIte, reduceCtorEq, Int.reduceBEq, Int.reduceBNe, Int.reduceToNat, Nat.reduceEqDiff, Nat.reduceAdd, Nat.reduceSub, Nat.reduceMul, Nat.reduceDiv, Nat.reduceMod, Nat.reduceLeDiff, Nat.reduceBEq, sz42, en27, vr42, taskC]
        (repeat (refine ⟨by first | omega | (simp; done) | assumption | (unfold maxLen; omega) | (simp [maxLen]; omega), ?_⟩))
        refine callK_h (c27 c d w (by omega) (by omega)) [] [] (by first | rfl | (simp only [hm]; done)) (by first | rfl | (simp [namesOk, lkp]; done)) (by first | trivial | (intro n hn; cases hn; done) | (simp (maxSteps := 4000000) (disch := first | omega | (simp only [lens]; omega)) only [argSl, argA_nil, argA_cons, am, ↓amb, aml, mark_eq, lo, ← List.map_take, ← List.map_drop, ← List.map_append, ↓reduceIte, reduceCtorEq, Int.reduceBEq, Int.reduceBNe, Int.reduceToNat, Nat.reduceEqDiff, Nat.reduceAdd, Nat.reduceSub, Nat.reduceMul, Nat.reduceDiv, Nat.reduceMod, Nat.reduceLeDiff, Nat.reduceBEq, sz42, en27, vr42, taskC, hm, List.filter_cons, List.filter_nil, List.map_cons, List.map_nil, Option.map_some, Option.map_none, lkp_nil, lkp_cons, a24, a26, Nat.reduceBNe, imp_self, implies_true]; done)) (by first | trivial | (intro n hn; cases hn; done) | (simp (maxSteps := 4000000) (disch := first | omega | (simp only [lens]; omega)) only [argSl, argA_nil, argA_cons, am, ↓amb, aml, mark_eq, lo, ← List.map_take, ← List.map_drop, ← List.map_append, ↓reduceIte, reduceCtorEq, Int.reduceBEq, Int.reduceBNe, Int.reduceToNat, Nat.reduceEqDiff, Nat.reduceAdd, Nat.reduceSub, Nat.reduceMul, Nat.reduceDiv, Nat.reduceMod, Nat.reduceLeDiff, Nat.reduceBEq, sz42, en27, vr42, taskC, hm, List.filter_cons, List.filter_nil, List.map_cons, List.map_nil, Option.map_some, Option.map_none, lkp_nil, lkp_cons, a24, a26, Nat.reduceBNe, imp_self, implies_true]; done)) (by first | trivial | (intro n hn; cases hn; done) | (simp (maxSteps := 4000000) (disch := first | omega | (simp only [lens]; omega)) only [argSl, argA_nil, argA_cons, am, ↓amb, aml, mark_eq, lo, ← List.map_take, ← List.map_drop, ← List.map_append, ↓reduceIte, reduceCtorEq, Int.reduceBEq, Int.reduceBNe, Int.reduceToNat, Nat.reduceEqDiff, Nat.reduceAdd, Nat.reduceSub, Nat.reduceMul, Nat.reduceDiv, Nat.reduceMod, Nat.reduceLeDiff, Nat.reduceBEq, sz42, en27, vr42, taskC, hm, List.filter_cons, List.filter_nil, List.map_cons, List.map_nil, Option.map_some, Option.map_none, lkp_nil, lkp_cons, a24, a26, Nat.reduceBNe, imp_self, implies_true]; done)) (by first | trivial | (intro n hn; cases hn; done) | (simp (maxSteps := 4000000) (disch := first | omega | (simp only [lens]; omega)) only [argSl, argA_nil, argA_cons, am, ↓amb, aml, mark_eq, lo, ← List.map_take, ← List.map_drop, ← List.map_append, ↓reduceIte, reduceCtorEq, Int.reduceBEq, Int.reduceBNe, Int.reduceToNat, Nat.reduceEqDiff, Nat.reduceAdd, Nat.reduceSub, Nat.reduceMul, Nat.reduceDiv, Nat.reduceMod, Nat.reduceLeDiff, Nat.reduceBEq, sz42, en27, vr42, taskC, hm, List.filter_cons, List.filter_nil, List.map_cons, List.map_nil, Option.map_some, Option.map_none, lkp_nil, lkp_cons, a24, a26, Nat.reduceBNe, imp_self, implies_true]; done)) (by first | trivial | (intro n hn; cases hn; done) | (simp (maxSteps := 4000000) (disch := first | omega | (simp only [lens]; omega)) only [argSl, argA_nil, argA_cons, am, ↓amb, aml, mark_eq, lo, ← List.map_take, ← List.map_drop, ← List.map_append, ↓reduceIte, reduceCtorEq, Int.reduceBEq, Int.reduceBNe, Int.reduceToNat, Nat.reduceEqDiff, Nat.reduceAdd, Nat.reduceSub, Nat.reduceMul, Nat.reduceDiv, Nat.reduceMod, Nat.reduceLeDiff, Nat.reduceBEq, sz42, en27, vr42, taskC, hm, List.filter_cons, List.filter_nil, List.map_cons, List.map_nil, Option.map_some, Option.map_none, lkp_nil, lkp_cons, a24, a26, Nat.reduceBNe, imp_self, implies_true]; done)) (by first | trivial | (intro n hn; cases hn; done) | (simp (maxSteps := 4000000) (disch := first | omega | (simp only [lens]; omega)) only [argSl, argA_nil, argA_cons, am, ↓amb, aml, mark_eq, lo, ← List.map_take, ← List.map_drop, ← List.map_append, ↓reduceIte, reduceCtorEq, Int.reduceBEq, Int.reduceBNe, Int.reduceToNat, Nat.reduceEqDiff, Nat.reduceAdd, Nat.reduceSub, Nat.reduceMul, Nat.reduceDiv, Nat.reduceMod, Nat.reduceLeDiff, Nat.reduceBEq, sz42, en27, vr42, taskC, hm, List.filter_cons, List.filter_nil, List.map_cons, List.map_nil, Option.map_some, Option.map_none, lkp_nil, lkp_cons, a24, a26, Nat.reduceBNe, imp_self, implies_true]; done)) ?_
        simp (maxSteps := 4000000) (disch := first | omega | (simp only [lens]; omega)) only [argSl, argA_nil, argA_cons, am, ↓amb, aml, mark_eq, lo, ← List.map_take, ← List.map_drop, ← List.map_append, ↓reduceIte, reduceCtorEq, Int.reduceBEq, Int.reduceBNe, Int.reduceToNat, Nat.reduceEqDiff, Nat.reduceAdd, Nat.reduceSub, Nat.reduceMul, Nat.reduceDiv, Nat.reduceMod, Nat.reduceLeDiff, Nat.reduceBEq, sz42, en27, vr42, taskC, hm, List.filter_cons, List.filter_nil, Nat.reduceBNe, Option.map_none]
        (repeat (refine ⟨by first | omega | (simp; done) | assumption | (unfold maxLen; omega) | (simp [maxLen]; omega), ?_⟩)); refine hk _ ?_; clear hk; clear k
        refine awp_seq fun k2 h2 => ?_
        refine awp_le (le_keep [1, 2, 4, 5, 6, 7]) ?_
        simp only [keepL_nil, keepL_cons, keepM_some, keepM_none, argSl, lkp_cons, lkp_nil, Nat.reduceEqDiff, ↓reduceIte, reduceCtorEq, Nat.zero_add, Nat.reduceAdd]
        refine awp_sr [] (by rw [hC]; rfl) fun k hk => ?_
        simp (maxSteps := 4000000) (disch := first | omega | (simp only [lens]; omega)) only [argSl, argA_nil, argA_cons, am, ↓amb, aml, mark_eq, lo, ← List.map_take, ← List.map_drop, ← List.map_append, ↓reduceIte, reduceCtorEq, Int.reduceBEq, Int.reduceBNe, Int.reduceToNat, Nat.reduceEqDiff, Nat.reduceAdd, Nat.reduceSub, Nat.reduceMul, Nat.reduceDiv, Nat.reduceMod, Nat.reduceLeDiff, Nat.reduceBEq, fl42_0, sz40, el40, sz60, fl60_0, sz3, taskC]
        (repeat (refine ⟨by first | omega | (simp; done) | assumption | (unfold maxLen; omega) | (simp [maxLen]; omega), ?_⟩)); refine hk _ ?_; clear hk; clear k
        refine awp_block ?_
        refine awp_loop (σ := Nat) (fun x => (w.ts.getD i.toNat default).low.toNat ≤ x ∧ x ≤ (w.ts.getD i.toNat default).high.toNat) (fun (x : Nat) => ⟨[(1, (.p (iV i))), (2, (.ptr 0 3 0 0)), (4, (.ptr 1 3 0 0)), (7, (.ptr 2 3 0 0)), (8, (.p (iV (x : Int))))], [(0, (.row 3 [[.p (.seq c (w.ts.map taskC)), .p (iV w.grain), .p (.seq d (w.done.map fun b => [bV b]))]])), (1, (.row 3 [[.p (.seq true []), .p (iV 0), .p (.seq true [])]])), (2, (.row 3 [[.own 3, .p (iV w.grain), .own 4]])), (3, (.row 4 (lift (w.ts.map taskC)))), (4, (.row 1 (lift ((Pl.marked w.done (w.ts.getD i.toNat default).low.toNat x).map fun b => [bV b]))))], 1⟩) (fun x => (w.ts.getD i.toNat default).high.toNat - x) (w.ts.getD i.toNat default).low.toNat ?_ ?_ fun x hx => ?_
        · exact ⟨Nat.le_refl _, by omega⟩
        · exact le_of [(0, _), (1, _), (2, _), (3, _), (4, _)] (by rfl) (by rfl) ⟨⟨_, rfl, .p (.of_eq (by first | rfl | (simp only [PV.lit.injEq, Value.int.injEq, true_and]; omega) | (simp; done) | (simp; omega)))⟩, ⟨_, rfl, .ptr rfl⟩, ⟨_, rfl, .ptr rfl⟩, ⟨_, rfl, .ptr rfl⟩, ⟨_, rfl, .p (.of_eq (by first | rfl | (simp only [PV.lit.injEq, Value.int.injEq, true_and]; omega) | (simp; done) | (simp; omega)))⟩, trivial⟩ ⟨⟨_, rfl, _, rfl, .one (.cons (.p (.refl _)) (.cons (.p (.refl _)) (.cons (.p (.refl _)) .nil)))⟩, ⟨_, rfl, _, rfl, .one (.cons (.p (.refl _)) (.cons (.p (.refl _)) (.cons (.p (.refl _)) .nil)))⟩, ⟨_, rfl, _, rfl, .one (.cons (.own rfl) (.cons (.p (.refl _)) (.cons (.own rfl) .nil)))⟩, ⟨_, rfl, _, rfl, .lift _⟩, ⟨_, rfl, _, rfl, .liftE (by first | (rw [Pl.marked_start]; done) | (rw [← Pl.marked_set (by omega) (by omega), List.map_set]; try simp; done))⟩, trivial⟩
        obtain ⟨hx1, hx2⟩ := hx
        have hml := Pl.marked_len (d := w.done) hx1 (by omega)
        refine awp_seq fun k4 h4 => ?_
        refine awp_le (le_keep [0, 1, 2, 3, 4, 5, 6, 7, 8]) ?_
        simp only [keepL_nil, keepL_cons, keepM_some, keepM_none, argSl, lkp_cons, lkp_nil, Nat.reduceEqDiff, ↓reduceIte, reduceCtorEq, Nat.zero_add, Nat.reduceAdd]
        refine awp_sr [] (by rw [hC]; rfl) fun k hk => ?_
        simp (maxSteps := 4000000) (disch := first | omega | (simp only [lens]; omega)) only [argSl, argA_nil, argA_cons, am, ↓amb, aml, mark_eq, lo, ← List.map_take, ← List.map_drop, ← List.map_append, ↓reduceIte, reduceCtorEq, Int.reduceBEq, Int.reduceBNe, Int.reduceToNat, Nat.reduceEqDiff, Nat.reduceAdd, Nat.reduceSub, Nat.reduceMul, Nat.reduceDiv, Nat.reduceMod, Nat.reduceLeDiff, Nat.reduceBEq, fl42_0, sz40, el40, sz60, fl60_1, sz3, taskC]
        (repeat (refine ⟨by first | omega | (simp; done) | assumption | (unfold maxLen; omega) | (simp [maxLen]; omega), ?_⟩)); refine hk _ ?_; clear hk; clear k
        refine awp_cond rfl (fun hb => ?_) (fun hb => ?_)
        · -- branch 7
          try simp only [decide_eq_true_eq, decide_eq_false_iff_not, Int.not_lt, Int.not_le, beq_iff_eq, bne_iff_ne, ne_eq, beq_eq_false_iff_ne, bne_eq_false_iff_eq, Bool.not_eq_true, Bool.not_eq_false, Bool.not_true, Bool.not_false, Bool.not_eq_false', Bool.not_eq_true', Decidable.not_not] at hb
          refine awp_skip ?_
          refine h4 _ ?_; clear h4; clear k4
          refine awp_seq fun k5 h5 => ?_
          refine awp_block ?_
          refine awp_region [] (by rw [hC]; rfl) fun k hk => ?_
          simp (maxSteps := 4000000) (disch := first | omega | (simp only [lens]; omega)) only [argSl, argA_nil, argA_cons, am, ↓amb, aml, mark_eq, lo, ← List.map_take, ← List.map_drop, ← List.map_append, ↓reduceIte, reduceCtorEq, Int.reduceBEq, Int.reduceBNe, Int.reduceToNat, Nat.reduceEqDiff, Nat.reduceAdd, Nat.reduceSub, Nat.reduceMul, Nat.reduceDiv, Nat.reduceMod, Nat.reduceLeDiff, Nat.reduceBEq, fl42_2, sz36, el36, sz4, taskC]
          (repeat (refine ⟨by first | omega | (simp; done) | assumption | (unfold maxLen; omega) | (simp [maxLen]; omega), ?_⟩)); refine hk _ ?_; clear hk; clear k
          refine h5 _ ?_; clear h5; clear k5
          refine awp_region [] (by rw [hC]; rfl) fun k hk => ?_
          simp (maxSteps := 4000000) (disch := first | omega | (simp only [lens]; omega)) only [argSl, argA_nil, argA_cons, am, ↓amb, aml, mark_eq, lo, ← List.map_take, ← List.map_drop, ← List.map_append, ↓reduceIte, reduceCtorEq, Int.reduceBEq, Int.reduceBNe, Int.reduceToNat, Nat.reduceEqDiff, Nat.reduceAdd, Nat.reduceSub, Nat.reduceMul, Nat.reduceDiv, Nat.reduceMod, Nat.reduceLeDiff, Nat.reduceBEq, taskC]
          (repeat (refine ⟨by first | omega | (simp; done) | assumption | (unfold maxLen; omega) | (simp [maxLen]; omega), ?_⟩)); refine hk _ ?_; clear hk; clear k
          refine ⟨x + 1, ⟨by omega, by omega⟩, le_of [(0, _), (1, _), (2, _), (3, _), (4, _)] (by rfl) (by rfl) ⟨⟨_, rfl, .p (.of_eq (by first | rfl | (simp only [PV.lit.injEq, Value.int.injEq, true_and]; omega) | (simp; done) | (simp; omega)))⟩, ⟨_, rfl, .ptr rfl⟩, ⟨_, rfl, .ptr rfl⟩, ⟨_, rfl, .ptr rfl⟩, ⟨_, rfl, .p (.of_eq (by first | rfl | (simp only [PV.lit.injEq, Value.int.injEq, true_and]; omega) | (simp; done) | (simp; omega)))⟩, trivial⟩ ⟨⟨_, rfl, _, rfl, .one (.cons (.p (.refl _)) (.cons (.p (.refl _)) (.cons (.p (.refl _)) .nil)))⟩, ⟨_, rfl, _, rfl, .one (.cons (.p (.refl _)) (.cons (.p (.refl _)) (.cons (.p (.refl _)) .nil)))⟩, ⟨_, rfl, _, rfl, .one (.cons (.own rfl) (.cons (.p (.refl _)) (.cons (.own rfl) .nil)))⟩, ⟨_, rfl, _, rfl, .lift _⟩, ⟨_, rfl, _, rfl, .liftE (by first | (rw [Pl.marked_start]; done) | (rw [← Pl.marked_set (by omega) (by omega), List.map_set]; try simp; done))⟩, trivial⟩, by omega⟩
        · -- branch 8
          try simp only [decide_eq_true_eq, decide_eq_false_iff_not, Int.not_lt, Int.not_le, beq_iff_eq, bne_iff_ne, ne_eq, beq_eq_false_iff_ne, bne_eq_false_iff_eq, Bool.not_eq_true, Bool.not_eq_false, Bool.not_true, Bool.not_false, Bool.not_eq_false', Bool.not_eq_true', Decidable.not_not] at hb
          refine awp_exit ((if_pos rfl).mpr ?_)
          refine h2 _ ?_; clear h4; clear k4; clear h2; clear k2
          refine awp_seq fun k6 h6 => ?_
          refine awp_le (le_keep [1, 2, 4, 5, 6, 7]) ?_
          simp only [keepL_nil, keepL_cons, keepM_some, keepM_none, argSl, lkp_cons, lkp_nil, Nat.reduceEqDiff, ↓reduceIte, reduceCtorEq, Nat.zero_add, Nat.reduceAdd]
          have hxe : x = (w.ts.getD i.toNat default).high.toNat := by omega
          subst hxe
          have huo := Pl.upOk_of hR
          refine awp_sr [] (by rw [hC]; rfl) fun k hk => ?_
          simp (maxSteps := 4000000) (disch := first | omega | (simp only [lens]; omega)) only [argSl, argA_nil, argA_cons, am, ↓amb, aml, mark_eq, lo, ← List.map_take, ← List.map_drop, ← List.map_append, ↓reduceIte, reduceCtorEq, Int.reduceBEq, Int.reduceBNe, Int.reduceToNat, Nat.reduceEqDiff, Nat.reduceAdd, Nat.reduceSub, Nat.reduceMul, Nat.reduceDiv, Nat.reduceMod, Nat.reduceLeDiff, Nat.reduceBEq, fl42_0, sz40, el40, sz60, fl60_2, sz3, taskC]
          (repeat (refine ⟨by first | omega | (simp; done) | assumption | (unfold maxLen; omega) | (simp [maxLen]; omega), ?_⟩)); refine hk _ ?_; clear hk; clear k
          refine awp_block ?_
          refine awp_loop (σ := Nat × List Pl.Task × Int) (fun x => Pl.fin x.1 x.2.1 x.2.2 = Pl.fin (w.ts.length + 1) w.ts (w.ts.getD i.toNat default).up ∧ Pl.upOk x.2.1 ∧ x.2.1.length = w.ts.length ∧ -1 ≤ x.2.2 ∧ x.2.2 < w.ts.length ∧ x.2.2 + 1 < x.1) (fun x => ⟨[(4, (.ptr 1 3 0 0)), (7, (.ptr 2 3 0 0)), (9, (.p (iV x.2.2)))], [(1, (.row 3 [[.p (.seq true []), .p (iV 0), .p (.seq true [])]])), (2, (.row 3 [[.own 3, .p (iV w.grain), .own 4]])), (3, (.row 4 (lift (x.2.1.map taskC)))), (4, (.row 1 (lift ((Pl.marked w.done (w.ts.getD i.toNat default).low.toNat (w.ts.getD i.toNat default).high.toNat).map fun b => [bV b]))))], 1⟩) (fun x => x.1) (w.ts.length + 1, w.ts, (w.ts.getD i.toNat default).up) ?_ ?_ fun x hx => ?_
          · exact ⟨rfl, huo, rfl, by show -1 ≤ (w.ts.getD i.toNat default).up; omega, by show (w.ts.getD i.toNat default).up < _; omega, by show (w.ts.getD i.toNat default).up + 1 < ((w.ts.length + 1 : Nat) : Int); omega⟩
          · exact le_of [(1, _), (2, _), (3, _), (4, _)] (by rfl) (by rfl) ⟨⟨_, rfl, .ptr rfl⟩, ⟨_, rfl, .ptr rfl⟩, ⟨_, rfl, .p (.of_eq (by first | rfl | (simp only [PV.lit.injEq, Value.int.injEq, true_and]; omega) | (simp; done) | (simp; omega)))⟩, trivial⟩ ⟨⟨_, rfl, _, rfl, .one (.cons (.p (.refl _)) (.cons (.p (.refl _)) (.cons (.p (.refl _)) .nil)))⟩, ⟨_, rfl, _, rfl, .one (.cons (.own rfl) (.cons (.p (.refl _)) (.cons (.own rfl) .nil)))⟩, ⟨_, rfl, _, rfl, .liftE (by first | rfl | rw [List.map_set])⟩, ⟨_, rfl, _, rfl, .lift _⟩, trivial⟩
          obtain ⟨q, us, p⟩ := x
          obtain ⟨hf, hu, hlen, hp0, hp1, hq⟩ := hx
          dsimp only at hf hu hlen hp0 hp1 hq
          obtain ⟨q, rfl⟩ : ∃ q', q = q' + 1 := ⟨q - 1, by omega⟩
          refine awp_seq fun k8 h8 => ?_
          refine awp_le (le_keep [1, 2, 3, 4, 5, 6, 7, 9]) ?_
          simp only [keepL_nil, keepL_cons, keepM_some, keepM_none, argSl, lkp_cons, lkp_nil, Nat.reduceEqDiff, ↓reduceIte, reduceCtorEq, Nat.zero_add, Nat.reduceAdd]
          refine awp_sr [] (by rw [hC]; rfl) fun k hk => ?_
          simp (maxSteps := 4000000) (disch := first | omega | (simp only [lens]; omega)) only [argSl, argA_nil, argA_cons, am, ↓amb, aml, mark_eq, lo, ← List.map_take, ← List.map_drop, ← List.map_append, ↓reduceIte, reduceCtorEq, Int.reduceBEq, Int.reduceBNe, Int.reduceToNat, Nat.reduceEqDiff, Nat.reduceAdd, Nat.reduceSub, Nat.reduceMul, Nat.reduceDiv, Nat.reduceMod, Nat.reduceLeDiff, Nat.reduceBEq, taskC]
          (repeat (refine ⟨by first | omega | (simp; done) | assumption | (unfold maxLen; omega) | (simp [maxLen]; omega), ?_⟩)); refine hk _ ?_; clear hk; clear k
          refine awp_cond rfl (fun hb => ?_) (fun hb => ?_)
          · -- branch 9
            try simp only [decide_eq_true_eq, decide_eq_false_iff_not, Int.not_lt, Int.not_le, beq_iff_eq, bne_iff_ne, ne_eq, beq_eq_false_iff_ne, bne_eq_false_iff_eq, Bool.not_eq_true, Bool.not_eq_false, Bool.not_true, Bool.not_false, Bool.not_eq_false', Bool.not_eq_true', Decidable.not_not] at hb
            refine awp_skip ?_
            refine h8 _ ?_; clear h8; clear k8
            refine awp_seq fun k9 h9 => ?_
            refine awp_block ?_
            refine awp_seq fun k10 h10 => ?_
            refine awp_le (le_keep [1, 2, 3, 4, 5, 6, 7, 9]) ?_
            simp only [keepL_nil, keepL_cons, keepM_some, keepM_none, argSl, lkp_cons, lkp_nil, Nat.reduceEqDiff, ↓reduceIte, reduceCtorEq, Nat.zero_add, Nat.reduceAdd]
            have hpn := hb
            have hup := hu p.toNat (by omega)
            refine awp_sr [] (by rw [hC]; rfl) fun k hk => ?_
            simp (maxSteps := 4000000) (disch := first | omega | (simp only [lens]; omega)) only [argSl, argA_nil, argA_cons, am, ↓amb, aml, mark_eq, lo, ← List.map_take, ← List.map_drop, ← List.map_append, ↓reduceIte, reduceCtorEq, Int.reduceBEq, Int.reduceBNe, Int.reduceToNat, Nat.reduceEqDiff, Nat.reduceAdd, Nat.reduceSub, Nat.reduceMul, Nat.reduceDiv, Nat.reduceMod, Nat.reduceLeDiff, Nat.reduceBEq, fl42_0, sz40, el40, sz60, fl60_3, sz3, taskC]
            (repeat (refine ⟨by first | omega | (simp; done) | assumption | (unfold maxLen; omega) | (simp [maxLen]; omega), ?_⟩)); refine hk _ ?_; clear hk; clear k
            refine awp_cond rfl (fun hb => ?_) (fun hb => ?_)
            · -- branch 10
              try simp only [decide_eq_true_eq, decide_eq_false_iff_not, Int.not_lt, Int.not_le, beq_iff_eq, bne_iff_ne, ne_eq, beq_eq_false_iff_ne, bne_eq_false_iff_eq, Bool.not_eq_true, Bool.not_eq_false, Bool.not_true, Bool.not_false, Bool.not_eq_false', Bool.not_eq_true', Decidable.not_not] at hb
              refine awp_le (le_keep [4, 7]) ?_
              simp only [keepL_nil, keepL_cons, keepM_some, keepM_none, argSl, lkp_cons, lkp_nil, Nat.reduceEqDiff, ↓reduceIte, reduceCtorEq, Nat.zero_add, Nat.reduceAdd]
              refine awp_sr [] (by rw [hC]; rfl) fun k hk => ?_
              simp (maxSteps := 4000000) (disch := first | omega | (simp only [lens]; omega)) only [argSl, argA_nil, argA_cons, am, ↓amb, aml, mark_eq, lo, ← List.map_take, ← List.map_drop, ← List.map_append, ↓reduceIte, reduceCtorEq, Int.reduceBEq, Int.reduceBNe, Int.reduceToNat, Nat.reduceEqDiff, Nat.reduceAdd, Nat.reduceSub, Nat.reduceMul, Nat.reduceDiv, Nat.reduceMod, Nat.reduceLeDiff, Nat.reduceBEq, sz42, taskC]
              (repeat (refine ⟨by first | omega | (simp; done) | assumption | (unfold maxLen; omega) | (simp [maxLen]; omega), ?_⟩)); refine hk _ ?_; clear hk; clear k
              refine awp_ret ?_
              obtain ⟨e1, e2, e4⟩ := Pl.do_ok h0
              rw [e1, e2, e4]
              refine retl rfl rfl ⟨retc rfl sz42 ?_, rett rfl ?_, rett rfl ?_, trivial⟩
              simp (maxSteps := 4000000) (disch := first | omega | (simp only [lens]; omega)) only [argSl, argA_nil, argA_cons, am, ↓amb, aml, mark_eq, lo, ← List.map_take, ← List.map_drop, ← List.map_append, ↓reduceIte, reduceCtorEq, Int.reduceBEq, Int.reduceBNe, Int.reduceToNat, Nat.reduceEqDiff, Nat.reduceAdd, Nat.reduceSub, Nat.reduceMul, Nat.reduceDiv, Nat.reduceMod, Nat.reduceLeDiff, Nat.reduceBEq, sz42, taskC]
              · exact .agg_cons (.ownE rfl (by simp only [Pl.did, Pl.task]; rw [← hf, Pl.fin_zero hpn hb])) (.agg_cons (.p (LeP.refl _)) (.agg_cons (.ownE rfl rfl) (.agg_nil)))
              · exact .p (LeP.of_eq (by simp only [Pl.did, Pl.task]; rw [← hf, Pl.fin_zero hpn hb]))
              · exact .p (LeP.refl _)
            · -- branch 11
              try simp only [decide_eq_true_eq, decide_eq_false_iff_not, Int.not_lt, Int.not_le, beq_iff_eq, bne_iff_ne, ne_eq, beq_eq_false_iff_ne, bne_eq_false_iff_eq, Bool.not_eq_true, Bool.not_eq_false, Bool.not_true, Bool.not_false, Bool.not_eq_false', Bool.not_eq_true', Decidable.not_not] at hb
              refine awp_skip ?_
              refine h10 _ ?_; clear h10; clear k10
              refine awp_le (le_keep [1, 2, 3, 4, 5, 6, 7, 9]) ?_
              simp only [keepL_nil, keepL_cons, keepM_some, keepM_none, argSl, lkp_cons, lkp_nil, Nat.reduceEqDiff, ↓reduceIte, reduceCtorEq, Nat.zero_add, Nat.reduceAdd]
              refine awp_sr [] (by rw [hC]; rfl) fun k hk => ?_
              simp (maxSteps := 4000000) (disch := first | omega | (simp only [lens]; omega)) only [argSl, argA_nil, argA_cons, am, ↓amb, aml, mark_eq, lo, ← List.map_take, ← List.map_drop, ← List.map_append, ↓reduceIte, reduceCtorEq, Int.reduceBEq, Int.reduceBNe, Int.reduceToNat, Nat.reduceEqDiff, Nat.reduceAdd, Nat.reduceSub, Nat.reduceMul, Nat.reduceDiv, Nat.reduceMod, Nat.reduceLeDiff, Nat.reduceBEq, fl42_0, sz40, el40, sz60, fl60_3, sz3, taskC]
              (repeat (refine ⟨by first | omega | (simp; done) | assumption | (unfold maxLen; omega) | (simp [maxLen]; omega), ?_⟩)); refine hk _ ?_; clear hk; clear k
              refine awp_le (le_keep [1, 2, 3, 4, 5, 6, 7, 9]) ?_
              simp only [keepL_nil, keepL_cons, keepM_some, keepM_none, argSl, lkp_cons, lkp_nil, Nat.reduceEqDiff, ↓reduceIte, reduceCtorEq, Nat.zero_add, Nat.reduceAdd]
              refine awp_sr [] (by rw [hC]; rfl) fun k hk => ?_
              simp (maxSteps := 4000000) (disch := first | omega | (simp only [lens]; omega)) only [argSl, argA_nil, argA_cons, am, ↓amb, aml, mark_eq, lo, ← List.map_take, ← List.map_drop, ← List.map_append, ↓reduceIte, reduceCtorEq, Int.reduceBEq, Int.reduceBNe, Int.reduceToNat, Nat.reduceEqDiff, Nat.reduceAdd, Nat.reduceSub, Nat.reduceMul, Nat.reduceDiv, Nat.reduceMod, Nat.reduceLeDiff, Nat.reduceBEq, fl42_0, sz40, el40, sz60, fl60_3, sz3, taskC]
              (repeat (refine ⟨by first | omega | (simp; done) | assumption | (unfold maxLen; omega) | (simp [maxLen]; omega), ?_⟩)); refine hk _ ?_; clear hk; clear k
              refine awp_cond rfl (fun hb => ?_) (fun hb => ?_)
              · -- branch 12
                try simp only [decide_eq_true_eq, decide_eq_false_iff_not, Int.not_lt, Int.not_le, beq_iff_eq, bne_iff_ne, ne_eq, beq_eq_false_iff_ne, bne_eq_false_iff_eq, Bool.not_eq_true, Bool.not_eq_false, Bool.not_true, Bool.not_false, Bool.not_eq_false', Bool.not_eq_true', Decidable.not_not] at hb
                refine awp_le (le_keep [4, 7]) ?_
                simp only [keepL_nil, keepL_cons, keepM_some, keepM_none, argSl, lkp_cons, lkp_nil, Nat.reduceEqDiff, ↓reduceIte, reduceCtorEq, Nat.zero_add, Nat.reduceAdd]
                refine awp_sr [] (by rw [hC]; rfl) fun k hk => ?_
                simp (maxSteps := 4000000) (disch := first | omega | (simp only [lens]; omega)) only [argSl, argA_nil, argA_cons, am, ↓amb, aml, mark_eq, lo, ← List.map_take, ← List.map_drop, ← List.map_append, ↓reduceIte, reduceCtorEq, Int.reduceBEq, Int.reduceBNe, Int.reduceToNat, Nat.reduceEqDiff, Nat.reduceAdd, Nat.reduceSub, Nat.reduceMul, Nat.reduceDiv, Nat.reduceMod, Nat.reduceLeDiff, Nat.reduceBEq, sz42, taskC]
                (repeat (refine ⟨by first | omega | (simp; done) | assumption | (unfold maxLen; omega) | (simp [maxLen]; omega), ?_⟩)); refine hk _ ?_; clear hk; clear k
                refine awp_ret ?_
                obtain ⟨e1, e2, e4⟩ := Pl.do_ok h0
                rw [e1, e2, e4]
                refine retl rfl rfl ⟨retc rfl sz42 ?_, rett rfl ?_, rett rfl ?_, trivial⟩
                simp (maxSteps := 4000000) (disch := first | omega | (simp only [lens]; omega)) only [argSl, argA_nil, argA_cons, am, ↓amb, aml, mark_eq, lo, ← List.map_take, ← List.map_drop, ← List.map_append, ↓reduceIte, reduceCtorEq, Int.reduceBEq, Int.reduceBNe, Int.reduceToNat, Nat.reduceEqDiff, Nat.reduceAdd, Nat.reduceSub, Nat.reduceMul, Nat.reduceDiv, Nat.reduceMod, Nat.reduceLeDiff, Nat.reduceBEq, sz42, taskC]
                · exact .agg_cons (.ownE rfl (by simp only [Pl.did, Pl.task]; rw [← hf, Pl.fin_stop hpn (by omega) (by omega)]; try rw [List.map_set])) (.agg_cons (.p (LeP.refl _)) (.agg_cons (.ownE rfl rfl) (.agg_nil)))
                · exact .p (LeP.of_eq (by simp only [Pl.did, Pl.task]; rw [← hf, Pl.fin_stop hpn (by omega) (by omega)]))
                · exact .p (LeP.refl _)
              · -- branch 13
                try simp only [decide_eq_true_eq, decide_eq_false_iff_not, Int.not_lt, Int.not_le, beq_iff_eq, bne_iff_ne, ne_eq, beq_eq_false_iff_ne, bne_eq_false_iff_eq, Bool.not_eq_true, Bool.not_eq_false, Bool.not_true, Bool.not_false, Bool.not_eq_false', Bool.not_eq_true', Decidable.not_not] at hb
                refine awp_skip ?_
                refine h9 _ ?_; clear h9; clear k9
                refine awp_region [] (by rw [hC]; rfl) fun k hk => ?_
                simp (maxSteps := 4000000) (disch := first | omega | (simp only [lens]; omega)) only [argSl, argA_nil, argA_cons, am, ↓amb, aml, mark_eq, lo, ← List.map_take, ← List.map_drop, ← List.map_append, ↓reduceIte, reduceCtorEq, Int.reduceBEq, Int.reduceBNe, Int.reduceToNat, Nat.reduceEqDiff, Nat.reduceAdd, Nat.reduceSub, Nat.reduceMul, Nat.reduceDiv, Nat.reduceMod, Nat.reduceLeDiff, Nat.reduceBEq, fl42_0, sz40, el40, sz60, fl60_2, sz3, taskC]
                (repeat (refine ⟨by first | omega | (simp; done) | assumption | (unfold maxLen; omega) | (simp [maxLen]; omega), ?_⟩)); refine hk _ ?_; clear hk; clear k
                refine ⟨(q, us.set p.toNat { us.getD p.toNat default with wait := (us.getD p.toNat default).wait - 1 }, (us.getD p.toNat default).up), ⟨by rw [← hf, Pl.fin_on hpn (by omega) (by omega)], Pl.upOk_set hu (by omega) (by omega), by simpa using hlen, by show -1 ≤ (us.getD p.toNat default).up; omega, by show (us.getD p.toNat default).up < _; omega, by show (us.getD p.toNat default).up + 1 < (q : Int); omega⟩, le_of [(1, _), (2, _), (3, _), (4, _)] (by rfl) (by rfl) ⟨⟨_, rfl, .ptr rfl⟩, ⟨_, rfl, .ptr rfl⟩, ⟨_, rfl, .p (.of_eq (by first | rfl | (simp only [PV.lit.injEq, Value.int.injEq, true_and]; omega) | (simp; done) | (simp; omega)))⟩, trivial⟩ ⟨⟨_, rfl, _, rfl, .one (.cons (.p (.refl _)) (.cons (.p (.refl _)) (.cons (.p (.refl _)) .nil)))⟩, ⟨_, rfl, _, rfl, .one (.cons (.own rfl) (.cons (.p (.refl _)) (.cons (.own rfl) .nil)))⟩, ⟨_, rfl, _, rfl, .liftE (by first | rfl | rw [List.map_set])⟩, ⟨_, rfl, _, rfl, .lift _⟩, trivial⟩, Nat.lt_succ_self q⟩
          · -- branch 14
            try simp only [decide_eq_true_eq, decide_eq_false_iff_not, Int.not_lt, Int.not_le, beq_iff_eq, bne_iff_ne, ne_eq, beq_eq_false_iff_ne, bne_eq_false_iff_eq, Bool.not_eq_true, Bool.not_eq_false, Bool.not_true, Bool.not_false, Bool.not_eq_false', Bool.not_eq_true', Decidable.not_not] at hb
            refine awp_exit ((if_pos rfl).mpr ?_)
            refine h6 _ ?_; clear h8; clear k8; clear h6; clear k6
            refine awp_le (le_keep [4, 7]) ?_
            simp only [keepL_nil, keepL_cons, keepM_some, keepM_none, argSl, lkp_cons, lkp_nil, Nat.reduceEqDiff, ↓reduceIte, reduceCtorEq, Nat.zero_add, Nat.reduceAdd]
            refine awp_sr [] (by rw [hC]; rfl) fun k hk => ?_
            simp (maxSteps := 4000000) (disch := first | omega | (simp only [lens]; omega)) only [argSl, argA_nil, argA_cons, am, ↓amb, aml, mark_eq, lo, ← List.map_take, ← List.map_drop, ← List.map_append, ↓reduceIte, reduceCtorEq, Int.reduceBEq, Int.reduceBNe, Int.reduceToNat, Nat.reduceEqDiff, Nat.reduceAdd, Nat.reduceSub, Nat.reduceMul, Nat.reduceDiv, Nat.reduceMod, Nat.reduceLeDiff, Nat.reduceBEq, sz42, taskC]
            (repeat (refine ⟨by first | omega | (simp; done) | assumption | (unfold maxLen; omega) | (simp [maxLen]; omega), ?_⟩)); refine hk _ ?_; clear hk; clear k
            refine awp_ret ?_
            have hpe : p = -1 := by omega
            subst hpe
            obtain ⟨e1, e2, e4⟩ := Pl.do_ok h0
            rw [e1, e2, e4]
            refine retl rfl rfl ⟨retc rfl sz42 ?_, rett rfl ?_, rett rfl ?_, trivial⟩
            simp (maxSteps := 4000000) (disch := first | omega | (simp only [lens]; omega)) only [argSl, argA_nil, argA_cons, am, ↓amb, aml, mark_eq, lo, ← List.map_take, ← List.map_drop, ← List.map_append, ↓reduceIte, reduceCtorEq, Int.reduceBEq, Int.reduceBNe, Int.reduceToNat, Nat.reduceEqDiff, Nat.reduceAdd, Nat.reduceSub, Nat.reduceMul, Nat.reduceDiv, Nat.reduceMod, Nat.reduceLeDiff, Nat.reduceBEq, sz42, taskC]
            · exact .agg_cons (.ownE rfl (by simp only [Pl.did, Pl.task]; rw [← hf, Pl.fin_end])) (.agg_cons (.p (LeP.refl _)) (.agg_cons (.ownE rfl rfl) (.agg_nil)))
            · exact .p (LeP.of_eq (by simp only [Pl.did, Pl.task]; rw [← hf, Pl.fin_end]))
            · exact .p (LeP.refl _)
end Go.Proofs.Ytbdliooaiincdaa
