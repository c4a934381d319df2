/-
  DequeOnce, walked.
-/
import Derived.Test.YtbdliooaiincdaaD2
import Derived.Test.YtbdliooaiincdaaAm32
import Derived.Test.YtbdliooaiincdaaPl1
set_option linter.unusedSimpArgs false
set_option linter.unusedVariables false
set_option maxRecDepth 100000
namespace Go.Proofs.Ytbdliooaiincdaa
open Go.Am Go.Proofs
theorem by4 : tBytes Try.prog 4 = some 1 := by kernel_rfl
theorem el35 : tEl Try.prog 35 = some 5 := by kernel_rfl
theorem el36 : tEl Try.prog 36 = some 4 := by kernel_rfl
theorem en14 : enters Try.prog 14 = true := by kernel_rfl
theorem sz4 : tSz Try.prog 4 = some (false, 1) := by kernel_rfl
theorem sz5 : tSz Try.prog 5 = some (false, 1) := by kernel_rfl
theorem vr4 : tVar Try.prog 4 = some (false, [.lit (.bool false)]) := by kernel_rfl
set_option maxHeartbeats 4000000 in
theorem c4 (c : Bool) (acts : List Int) (hw : ∀ x, x ∈ acts → 0 ≤ x ∧ x ≤ 255) : PCall Try.prog 4 [.seq c (acts.map fun x => [.lit (.int .u8 x)])] (bV true) := by
  refine pcall_of_awp Try.func4 rfl (by simp [Try.ntmps4]) fun C hC => ?_
  refine awp_le (le_keep [0]) ?_
  simp only [keepL_nil, keepL_cons, keepM_some, keepM_none, argSl, lkp_cons, lkp_nil, Nat.reduceEqDiff, ↓reduceIte, reduceCtorEq, Nat.zero_add, Nat.reduceAdd]
  refine awp_sr [103, 49, 108] (by rw [hC]; rfl) fun k hk => ?_
  simp (maxSteps := 4000000) (disch := first | omega | (simp only [lens]; omega)) only [argSl, am, ↓amb, aml, mark_eq, lo, ← List.map_take, ← List.map_drop, ← List.map_append, ↓reduceIte, reduceCtorEq, Int.reduceBEq, Int.reduceBNe, Int.reduceToNat, Nat.reduceEqDiff, Nat.reduceAdd, Nat.reduceSub, Nat.reduceMul, Nat.reduceDiv, Nat.reduceMod, Nat.reduceLeDiff, Nat.reduceBEq]
  (repeat (refine ⟨by first | omega | (simp; done) | assumption | (unfold maxLen; omega) | (simp [maxLen]; omega), ?_⟩)); refine hk _ ?_; clear hk; clear k
  refine awp_seq fun k1 h1 => ?_
  refine awp_le (le_keep [0, 2]) ?_
  simp only [keepL_nil, keepL_cons, keepM_some, keepM_none, argSl, lkp_cons, lkp_nil, Nat.reduceEqDiff, ↓reduceIte, reduceCtorEq, Nat.zero_add, Nat.reduceAdd]
  refine awp_sr [103, 49, 108] (by rw [hC]; rfl) fun k hk => ?_
  simp (maxSteps := 4000000) (disch := first | omega | (simp only [lens]; omega)) only [argSl, am, ↓amb, aml, mark_eq, lo, ← List.map_take, ← List.map_drop, ← List.map_append, ↓reduceIte, reduceCtorEq, Int.reduceBEq, Int.reduceBNe, Int.reduceToNat, Nat.reduceEqDiff, Nat.reduceAdd, Nat.reduceSub, Nat.reduceMul, Nat.reduceDiv, Nat.reduceMod, Nat.reduceLeDiff, Nat.reduceBEq, en14]
  (repeat (refine ⟨by first | omega | (simp; done) | assumption | (unfold maxLen; omega) | (simp [maxLen]; omega), ?_⟩))
  refine callK_p (c14) rfl ?_
  simp (maxSteps := 4000000) (disch := first | omega | (simp only [lens]; omega)) only [argSl, am, ↓amb, aml, mark_eq, lo, ← List.map_take, ← List.map_drop, ← List.map_append, ↓reduceIte, reduceCtorEq, Int.reduceBEq, Int.reduceBNe, Int.reduceToNat, Nat.reduceEqDiff, Nat.reduceAdd, Nat.reduceSub, Nat.reduceMul, Nat.reduceDiv, Nat.reduceMod, Nat.reduceLeDiff, Nat.reduceBEq, en14]
  (repeat (refine ⟨by first | omega | (simp; done) | assumption | (unfold maxLen; omega) | (simp [maxLen]; omega), ?_⟩)); refine hk _ ?_; clear hk; clear k
  refine awp_cond rfl (fun hb => ?_) (fun hb => ?_)
  · -- branch 1
    try simp only [decide_eq_true_eq, decide_eq_false_iff_not, Int.not_lt, Int.not_le, beq_iff_eq, bne_iff_ne, ne_eq, beq_eq_false_iff_ne, bne_eq_false_iff_eq, Bool.not_eq_true, Bool.not_eq_false, Bool.not_true, Bool.not_false, Bool.not_eq_false', Bool.not_eq_true', Decidable.not_not] at hb
    refine awp_le (le_keep []) ?_
    simp only [keepL_nil, keepL_cons, keepM_some, keepM_none, argSl, lkp_cons, lkp_nil, Nat.reduceEqDiff, ↓reduceIte, reduceCtorEq, Nat.zero_add, Nat.reduceAdd]
    refine awp_sr [103, 49, 108] (by rw [hC]; rfl) fun k hk => ?_
    simp (maxSteps := 4000000) (disch := first | omega | (simp only [lens]; omega)) only [argSl, am, ↓amb, aml, mark_eq, lo, ← List.map_take, ← List.map_drop, ← List.map_append, ↓reduceIte, reduceCtorEq, Int.reduceBEq, Int.reduceBNe, Int.reduceToNat, Nat.reduceEqDiff, Nat.reduceAdd, Nat.reduceSub, Nat.reduceMul, Nat.reduceDiv, Nat.reduceMod, Nat.reduceLeDiff, Nat.reduceBEq]
    (repeat (refine ⟨by first | omega | (simp; done) | assumption | (unfold maxLen; omega) | (simp [maxLen]; omega), ?_⟩)); refine hk _ ?_; clear hk; clear k
    refine awp_ret ?_
    exact absurd hb (by simp)
  · -- branch 2
    try simp only [decide_eq_true_eq, decide_eq_false_iff_not, Int.not_lt, Int.not_le, beq_iff_eq, bne_iff_ne, ne_eq, beq_eq_false_iff_ne, bne_eq_false_iff_eq, Bool.not_eq_true, Bool.not_eq_false, Bool.not_true, Bool.not_false, Bool.not_eq_false', Bool.not_eq_true', Decidable.not_not] at hb
    refine awp_skip ?_
    refine h1 _ ?_; clear h1; clear k1
    refine awp_seq fun k2 h2 => ?_
    refine awp_le (le_keep [0, 2]) ?_
    simp only [keepL_nil, keepL_cons, keepM_some, keepM_none, argSl, lkp_cons, lkp_nil, Nat.reduceEqDiff, ↓reduceIte, reduceCtorEq, Nat.zero_add, Nat.reduceAdd]
    refine awp_sr [103, 49, 108] (by rw [hC]; rfl) fun k hk => ?_
    simp (maxSteps := 4000000) (disch := first | omega | (simp only [lens]; omega)) only [argSl, am, ↓amb, aml, mark_eq, lo, ← List.map_take, ← List.map_drop, ← List.map_append, ↓reduceIte, reduceCtorEq, Int.reduceBEq, Int.reduceBNe, Int.reduceToNat, Nat.reduceEqDiff, Nat.reduceAdd, Nat.reduceSub, Nat.reduceMul, Nat.reduceDiv, Nat.reduceMod, Nat.reduceLeDiff, Nat.reduceBEq, el35]
    (repeat (refine ⟨by first | omega | (simp; done) | assumption | (unfold maxLen; omega) | (simp [maxLen]; omega), ?_⟩)); refine hk _ ?_; clear hk; clear k
    refine awp_cond rfl (fun hb => ?_) (fun hb => ?_)
    · -- branch 3
      try simp only [decide_eq_true_eq, decide_eq_false_iff_not, Int.not_lt, Int.not_le, beq_iff_eq, bne_iff_ne, ne_eq, beq_eq_false_iff_ne, bne_eq_false_iff_eq, Bool.not_eq_true, Bool.not_eq_false, Bool.not_true, Bool.not_false, Bool.not_eq_false', Bool.not_eq_true', Decidable.not_not] at hb
      refine awp_le (le_keep []) ?_
      simp only [keepL_nil, keepL_cons, keepM_some, keepM_none, argSl, lkp_cons, lkp_nil, Nat.reduceEqDiff, ↓reduceIte, reduceCtorEq, Nat.zero_add, Nat.reduceAdd]
      refine awp_sr [103, 49, 108] (by rw [hC]; rfl) fun k hk => ?_
      simp (maxSteps := 4000000) (disch := first | omega | (simp only [lens]; omega)) only [argSl, am, ↓amb, aml, mark_eq, lo, ← List.map_take, ← List.map_drop, ← List.map_append, ↓reduceIte, reduceCtorEq, Int.reduceBEq, Int.reduceBNe, Int.reduceToNat, Nat.reduceEqDiff, Nat.reduceAdd, Nat.reduceSub, Nat.reduceMul, Nat.reduceDiv, Nat.reduceMod, Nat.reduceLeDiff, Nat.reduceBEq]
      (repeat (refine ⟨by first | omega | (simp; done) | assumption | (unfold maxLen; omega) | (simp [maxLen]; omega), ?_⟩)); refine hk _ ?_; clear hk; clear k
      refine awp_ret ?_
      refine ret1 rfl rfl ?_
      exact .p (LeP.refl _)
    · -- branch 4
      try simp only [decide_eq_true_eq, decide_eq_false_iff_not, Int.not_lt, Int.not_le, beq_iff_eq, bne_iff_ne, ne_eq, beq_eq_false_iff_ne, bne_eq_false_iff_eq, Bool.not_eq_true, Bool.not_eq_false, Bool.not_true, Bool.not_false, Bool.not_eq_false', Bool.not_eq_true', Decidable.not_not] at hb
      refine awp_skip ?_
      refine h2 _ ?_; clear h2; clear k2
      refine awp_le (le_keep [0]) ?_
      simp only [keepL_nil, keepL_cons, keepM_some, keepM_none, argSl, lkp_cons, lkp_nil, Nat.reduceEqDiff, ↓reduceIte, reduceCtorEq, Nat.zero_add, Nat.reduceAdd]
      refine awp_sr [103, 49, 108] (by rw [hC]; rfl) fun k hk => ?_
      simp (maxSteps := 4000000) (disch := first | omega | (simp only [lens]; omega)) only [argSl, am, ↓amb, aml, mark_eq, lo, ← List.map_take, ← List.map_drop, ← List.map_append, ↓reduceIte, reduceCtorEq, Int.reduceBEq, Int.reduceBNe, Int.reduceToNat, Nat.reduceEqDiff, Nat.reduceAdd, Nat.reduceSub, Nat.reduceMul, Nat.reduceDiv, Nat.reduceMod, Nat.reduceLeDiff, Nat.reduceBEq]
      (repeat (refine ⟨by first | omega | (simp; done) | assumption | (unfold maxLen; omega) | (simp [maxLen]; omega), ?_⟩)); refine hk _ ?_; clear hk; clear k
      refine awp_le (le_keep [0, 3]) ?_
      simp only [keepL_nil, keepL_cons, keepM_some, keepM_none, argSl, lkp_cons, lkp_nil, Nat.reduceEqDiff, ↓reduceIte, reduceCtorEq, Nat.zero_add, Nat.reduceAdd]
      refine awp_sr [103, 49, 108] (by rw [hC]; rfl) fun k hk => ?_
      simp (maxSteps := 4000000) (disch := first | omega | (simp only [lens]; omega)) only [argSl, am, ↓amb, aml, mark_eq, lo, ← List.map_take, ← List.map_drop, ← List.map_append, ↓reduceIte, reduceCtorEq, Int.reduceBEq, Int.reduceBNe, Int.reduceToNat, Nat.reduceEqDiff, Nat.reduceAdd, Nat.reduceSub, Nat.reduceMul, Nat.reduceDiv, Nat.reduceMod, Nat.reduceLeDiff, Nat.reduceBEq]
      (repeat (refine ⟨by first | omega | (simp; done) | assumption | (unfold maxLen; omega) | (simp [maxLen]; omega), ?_⟩)); refine hk _ ?_; clear hk; clear k
      refine awp_le (le_keep [0, 3, 4, 5]) ?_
      simp only [keepL_nil, keepL_cons, keepM_some, keepM_none, argSl, lkp_cons, lkp_nil, Nat.reduceEqDiff, ↓reduceIte, reduceCtorEq, Nat.zero_add, Nat.reduceAdd]
      refine awp_sr [103, 49, 108] (by rw [hC]; rfl) fun k hk => ?_
      simp (maxSteps := 4000000) (disch := first | omega | (simp only [lens]; omega)) only [argSl, am, ↓amb, aml, mark_eq, lo, ← List.map_take, ← List.map_drop, ← List.map_append, ↓reduceIte, reduceCtorEq, Int.reduceBEq, Int.reduceBNe, Int.reduceToNat, Nat.reduceEqDiff, Nat.reduceAdd, Nat.reduceSub, Nat.reduceMul, Nat.reduceDiv, Nat.reduceMod, Nat.reduceLeDiff, Nat.reduceBEq]
      (repeat (refine ⟨by first | omega | (simp; done) | assumption | (unfold maxLen; omega) | (simp [maxLen]; omega), ?_⟩)); refine hk _ ?_; clear hk; clear k
      refine awp_seq fun k3 h3 => ?_
      refine awp_le (le_keep [0, 2, 3, 4, 5, 6]) ?_
      simp only [keepL_nil, keepL_cons, keepM_some, keepM_none, argSl, lkp_cons, lkp_nil, Nat.reduceEqDiff, ↓reduceIte, reduceCtorEq, Nat.zero_add, Nat.reduceAdd]
      refine awp_own' 6 1 rfl ?_
      refine awp_sr [103, 49, 108] (by rw [hC]; rfl) fun k hk => ?_
      simp (maxSteps := 4000000) (disch := first | omega | (simp only [lens]; omega)) only [argSl, am, ↓amb, aml, mark_eq, lo, ← List.map_take, ← List.map_drop, ← List.map_append, ↓reduceIte, reduceCtorEq, Int.reduceBEq, Int.reduceBNe, Int.reduceToNat, Nat.reduceEqDiff, Nat.reduceAdd, Nat.reduceSub, Nat.reduceMul, Nat.reduceDiv, Nat.reduceMod, Nat.reduceLeDiff, Nat.reduceBEq]
      (repeat (refine ⟨by first | omega | (simp; done) | assumption | (unfold maxLen; omega) | (simp [maxLen]; omega), ?_⟩)); refine hk _ ?_; clear hk; clear k
      refine awp_block ?_
      refine awp_loop (σ := Nat × List Int × List Int × Nat × Int) (fun x => x.1 ≤ acts.length ∧ Pl.OnceI x.2.1 x.2.2.1 x.2.2.2.1 x.2.2.2.2 ∧ x.2.2.2.1 ≤ x.1) (fun x => ⟨[(0, (.p (.seq c (acts.map fun x => [.lit (.int .u8 x)])))), (3, (.p (ints false x.2.1))), (4, (.p (iV (x.2.2.2.1 : Int)))), (5, (.p (iV x.2.2.2.2))), (6, (.own 0)), (7, (.p (iV (x.1 : Int))))], [(0, (.row 1 (lift (x.2.2.1.map fun y => [.lit (.int .i64 y)]))))], 1⟩) (fun x => acts.length - x.1) (0, [], [], 0, 0) ?_ ?_ fun x hx => ?_
      · exact ⟨Nat.zero_le _, Pl.once_start, Nat.le_refl _⟩
      · exact le_of [(0, _)] (by rfl) (by rfl) ⟨⟨_, rfl, .p (.of_eq (by first | rfl | (simp only [PV.lit.injEq, Value.int.injEq, true_and]; omega) | (simp; done) | (simp; omega)))⟩, ⟨_, rfl, .p (LeP.sq (by first | rfl | simp))⟩, ⟨_, rfl, .p (.of_eq (by first | rfl | (simp only [PV.lit.injEq, Value.int.injEq, true_and]; omega) | (simp; done) | (simp; omega)))⟩, ⟨_, rfl, .p (.of_eq (by first | rfl | (simp only [PV.lit.injEq, Value.int.injEq, true_and]; omega) | (simp; done) | (simp; omega)))⟩, ⟨_, rfl, .own rfl⟩, ⟨_, rfl, .p (.of_eq (by first | rfl | (simp only [PV.lit.injEq, Value.int.injEq, true_and]; omega) | (simp; done) | (simp; omega)))⟩, trivial⟩ ⟨⟨_, rfl, _, rfl, .liftE (by first | rfl | simp)⟩, trivial⟩
      obtain ⟨i, l, g, n, f⟩ := x
      obtain ⟨hx1, hx2, hx3⟩ := hx
      dsimp only at hx1 hx2 hx3
      have hlen := Pl.once_len hx2
      refine awp_seq fun k5 h5 => ?_
      refine awp_le (le_keep [0, 2, 3, 4, 5, 6, 7]) ?_
      simp only [keepL_nil, keepL_cons, keepM_some, keepM_none, argSl, lkp_cons, lkp_nil, Nat.reduceEqDiff, ↓reduceIte, reduceCtorEq, Nat.zero_add, Nat.reduceAdd]
      refine awp_sr [103, 49, 108] (by rw [hC]; rfl) fun k hk => ?_
      simp (maxSteps := 4000000) (disch := first | omega | (simp only [lens]; omega)) only [argSl, am, ↓amb, aml, mark_eq, lo, ← List.map_take, ← List.map_drop, ← List.map_append, ↓reduceIte, reduceCtorEq, Int.reduceBEq, Int.reduceBNe, Int.reduceToNat, Nat.reduceEqDiff, Nat.reduceAdd, Nat.reduceSub, Nat.reduceMul, Nat.reduceDiv, Nat.reduceMod, Nat.reduceLeDiff, Nat.reduceBEq, el35]
      (repeat (refine ⟨by first | omega | (simp; done) | assumption | (unfold maxLen; omega) | (simp [maxLen]; omega), ?_⟩)); refine hk _ ?_; clear hk; clear k
      refine awp_cond rfl (fun hb => ?_) (fun hb => ?_)
      · -- branch 5
        try simp only [decide_eq_true_eq, decide_eq_false_iff_not, Int.not_lt, Int.not_le, beq_iff_eq, bne_iff_ne, ne_eq, beq_eq_false_iff_ne, bne_eq_false_iff_eq, Bool.not_eq_true, Bool.not_eq_false, Bool.not_true, Bool.not_false, Bool.not_eq_false', Bool.not_eq_true', Decidable.not_not] at hb
        refine awp_skip ?_
        refine h5 _ ?_; clear h5; clear k5
        refine awp_seq fun k6 h6 => ?_
        refine awp_block ?_
        refine awp_block ?_
        have hu8 : 0 ≤ acts.getD i 0 ∧ acts.getD i 0 ≤ 255 := by apply hw; rw [List.getD_eq_getElem?_getD, List.getElem?_eq_getElem (by omega)]; simp
        refine awp_test [103, 49, 108] 50 (decide (acts.getD i 0 % 3 = 0 ∨ l.length = 0)) [0, 2, 3, 4, 5, 6, 7] (by rw [hC]; rfl) (fun gd hgd k hk => ?_) ?_
        · have g6 : gd 6 = some 57 := by rw [hgd]; rfl
          clear hgd
          simp (maxSteps := 4000000) (disch := first | omega | (simp only [lens]; omega)) only [argSl, am, ↓amb, aml, mark_eq, lo, ← List.map_take, ← List.map_drop, ← List.map_append, ↓reduceIte, reduceCtorEq, Int.reduceBEq, Int.reduceBNe, Int.reduceToNat, Nat.reduceEqDiff, Nat.reduceAdd, Nat.reduceSub, Nat.reduceMul, Nat.reduceDiv, Nat.reduceMod, Nat.reduceLeDiff, Nat.reduceBEq, el35, sz5, el22, a07, gcase_undef, g6]
          repeat' first | refine hk _ _ rfl rfl rfl rfl ?_ | (intro hg; try simp only [decide_eq_true_eq, decide_eq_false_iff_not, Int.not_lt, Int.not_le, beq_iff_eq, bne_iff_ne, ne_eq, beq_eq_false_iff_ne, bne_eq_false_iff_eq, Bool.not_eq_true, Bool.not_eq_false, Bool.not_true, Bool.not_false, Bool.not_eq_false', Bool.not_eq_true', Decidable.not_not] at hg) | apply And.intro
          all_goals first | rfl | omega | exact (decide_eq_true (by omega)).symm | exact (decide_eq_false (by omega)).symm | exact decide_eq_decide.mpr (by omega) | (refine Bool.eq_iff_iff.mpr ?_; simp only [beq_iff_eq, bne_iff_ne, ne_eq, decide_eq_true_eq]; omega) | assumption | (simp; done) | (simp [maxLen]; omega) | (simp at *; omega) | skip
        simp only [keepL_nil, keepL_cons, keepM_some, keepM_none, argSl, argA_nil, argA_cons, lkp_cons, lkp_nil, Nat.reduceEqDiff, ↓reduceIte, reduceCtorEq, Nat.zero_add, Nat.reduceAdd, List.length_cons, List.length_nil]
        refine awp_cond rfl (fun hb => ?_) (fun hb => ?_)
        · -- branch 6
          try simp only [decide_eq_true_eq, decide_eq_false_iff_not, Int.not_lt, Int.not_le, beq_iff_eq, bne_iff_ne, ne_eq, beq_eq_false_iff_ne, bne_eq_false_iff_eq, Bool.not_eq_true, Bool.not_eq_false, Bool.not_true, Bool.not_false, Bool.not_eq_false', Bool.not_eq_true', Decidable.not_not] at hb
          refine awp_le (le_keep [0, 2, 3, 4, 5, 6, 7]) ?_
          simp only [keepL_nil, keepL_cons, keepM_some, keepM_none, argSl, lkp_cons, lkp_nil, Nat.reduceEqDiff, ↓reduceIte, reduceCtorEq, Nat.zero_add, Nat.reduceAdd]
          have p15 : PCall Try.prog 15 [ints false l, iV n] (.tup [ints false (l ++ [(n : Int)]), iV 0]) := by have h := c15 false l n (by omega); simpa only [pushS, if_neg (show ¬ 1000 ≤ l.length by omega)] using h
          refine awp_sr [103, 49, 108] (by rw [hC]; rfl) fun k hk => ?_
          simp (maxSteps := 4000000) (disch := first | omega | (simp only [lens]; omega)) only [argSl, am, ↓amb, aml, mark_eq, lo, ← List.map_take, ← List.map_drop, ← List.map_append, ↓reduceIte, reduceCtorEq, Int.reduceBEq, Int.reduceBNe, Int.reduceToNat, Nat.reduceEqDiff, Nat.reduceAdd, Nat.reduceSub, Nat.reduceMul, Nat.reduceDiv, Nat.reduceMod, Nat.reduceLeDiff, Nat.reduceBEq, en15]
          (repeat (refine ⟨by first | omega | (simp; done) | assumption | (unfold maxLen; omega) | (simp [maxLen]; omega), ?_⟩))
          refine callK_p (p15) rfl ?_
          simp (maxSteps := 4000000) (disch := first | omega | (simp only [lens]; omega)) only [argSl, am, ↓amb, aml, mark_eq, lo, ← List.map_take, ← List.map_drop, ← List.map_append, ↓reduceIte, reduceCtorEq, Int.reduceBEq, Int.reduceBNe, Int.reduceToNat, Nat.reduceEqDiff, Nat.reduceAdd, Nat.reduceSub, Nat.reduceMul, Nat.reduceDiv, Nat.reduceMod, Nat.reduceLeDiff, Nat.reduceBEq, en15]
          (repeat (refine ⟨by first | omega | (simp; done) | assumption | (unfold maxLen; omega) | (simp [maxLen]; omega), ?_⟩)); refine hk _ ?_; clear hk; clear k
          refine awp_seq fun k7 h7 => ?_
          refine awp_le (le_keep [0, 2, 3, 4, 5, 6, 7, 8, 9]) ?_
          simp only [keepL_nil, keepL_cons, keepM_some, keepM_none, argSl, lkp_cons, lkp_nil, Nat.reduceEqDiff, ↓reduceIte, reduceCtorEq, Nat.zero_add, Nat.reduceAdd]
          refine awp_sr [103, 49, 108] (by rw [hC]; rfl) fun k hk => ?_
          simp (maxSteps := 4000000) (disch := first | omega | (simp only [lens]; omega)) only [argSl, am, ↓amb, aml, mark_eq, lo, ← List.map_take, ← List.map_drop, ← List.map_append, ↓reduceIte, reduceCtorEq, Int.reduceBEq, Int.reduceBNe, Int.reduceToNat, Nat.reduceEqDiff, Nat.reduceAdd, Nat.reduceSub, Nat.reduceMul, Nat.reduceDiv, Nat.reduceMod, Nat.reduceLeDiff, Nat.reduceBEq]
          (repeat (refine ⟨by first | omega | (simp; done) | assumption | (unfold maxLen; omega) | (simp [maxLen]; omega), ?_⟩)); refine hk _ ?_; clear hk; clear k
          refine awp_cond rfl (fun hb => ?_) (fun hb => ?_)
          · -- branch 7
            try simp only [decide_eq_true_eq, decide_eq_false_iff_not, Int.not_lt, Int.not_le, beq_iff_eq, bne_iff_ne, ne_eq, beq_eq_false_iff_ne, bne_eq_false_iff_eq, Bool.not_eq_true, Bool.not_eq_false, Bool.not_true, Bool.not_false, Bool.not_eq_false', Bool.not_eq_true', Decidable.not_not] at hb
            refine awp_le (le_keep []) ?_
            simp only [keepL_nil, keepL_cons, keepM_some, keepM_none, argSl, lkp_cons, lkp_nil, Nat.reduceEqDiff, ↓reduceIte, reduceCtorEq, Nat.zero_add, Nat.reduceAdd]
            refine awp_sr [103, 49, 108] (by rw [hC]; rfl) fun k hk => ?_
            simp (maxSteps := 4000000) (disch := first | omega | (simp only [lens]; omega)) only [argSl, am, ↓amb, aml, mark_eq, lo, ← List.map_take, ← List.map_drop, ← List.map_append, ↓reduceIte, reduceCtorEq, Int.reduceBEq, Int.reduceBNe, Int.reduceToNat, Nat.reduceEqDiff, Nat.reduceAdd, Nat.reduceSub, Nat.reduceMul, Nat.reduceDiv, Nat.reduceMod, Nat.reduceLeDiff, Nat.reduceBEq]
            (repeat (refine ⟨by first | omega | (simp; done) | assumption | (unfold maxLen; omega) | (simp [maxLen]; omega), ?_⟩)); refine hk _ ?_; clear hk; clear k
            refine awp_ret ?_
            exact absurd hb (by simp)
          · -- branch 8
            try simp only [decide_eq_true_eq, decide_eq_false_iff_not, Int.not_lt, Int.not_le, beq_iff_eq, bne_iff_ne, ne_eq, beq_eq_false_iff_ne, bne_eq_false_iff_eq, Bool.not_eq_true, Bool.not_eq_false, Bool.not_true, Bool.not_false, Bool.not_eq_false', Bool.not_eq_true', Decidable.not_not] at hb
            refine awp_skip ?_
            refine h7 _ ?_; clear h7; clear k7
            refine awp_le (le_keep [0, 2, 4, 5, 6, 7, 8]) ?_
            simp only [keepL_nil, keepL_cons, keepM_some, keepM_none, argSl, lkp_cons, lkp_nil, Nat.reduceEqDiff, ↓reduceIte, reduceCtorEq, Nat.zero_add, Nat.reduceAdd]
            refine awp_sr [103, 49, 108] (by rw [hC]; rfl) fun k hk => ?_
            simp (maxSteps := 4000000) (disch := first | omega | (simp only [lens]; omega)) only [argSl, am, ↓amb, aml, mark_eq, lo, ← List.map_take, ← List.map_drop, ← List.map_append, ↓reduceIte, reduceCtorEq, Int.reduceBEq, Int.reduceBNe, Int.reduceToNat, Nat.reduceEqDiff, Nat.reduceAdd, Nat.reduceSub, Nat.reduceMul, Nat.reduceDiv, Nat.reduceMod, Nat.reduceLeDiff, Nat.reduceBEq]
            (repeat (refine ⟨by first | omega | (simp; done) | assumption | (unfold maxLen; omega) | (simp [maxLen]; omega), ?_⟩)); refine hk _ ?_; clear hk; clear k
            refine awp_region [103, 49, 108] (by rw [hC]; rfl) fun k hk => ?_
            simp (maxSteps := 4000000) (disch := first | omega | (simp only [lens]; omega)) only [argSl, am, ↓amb, aml, mark_eq, lo, ← List.map_take, ← List.map_drop, ← List.map_append, ↓reduceIte, reduceCtorEq, Int.reduceBEq, Int.reduceBNe, Int.reduceToNat, Nat.reduceEqDiff, Nat.reduceAdd, Nat.reduceSub, Nat.reduceMul, Nat.reduceDiv, Nat.reduceMod, Nat.reduceLeDiff, Nat.reduceBEq]
            (repeat (refine ⟨by first | omega | (simp; done) | assumption | (unfold maxLen; omega) | (simp [maxLen]; omega), ?_⟩)); refine hk _ ?_; clear hk; clear k
            refine h6 _ ?_; clear h6; clear k6
            refine awp_region [103, 49, 108] (by rw [hC]; rfl) fun k hk => ?_
            simp (maxSteps := 4000000) (disch := first | omega | (simp only [lens]; omega)) only [argSl, am, ↓amb, aml, mark_eq, lo, ← List.map_take, ← List.map_drop, ← List.map_append, ↓reduceIte, reduceCtorEq, Int.reduceBEq, Int.reduceBNe, Int.reduceToNat, Nat.reduceEqDiff, Nat.reduceAdd, Nat.reduceSub, Nat.reduceMul, Nat.reduceDiv, Nat.reduceMod, Nat.reduceLeDiff, Nat.reduceBEq]
            (repeat (refine ⟨by first | omega | (simp; done) | assumption | (unfold maxLen; omega) | (simp [maxLen]; omega), ?_⟩)); refine hk _ ?_; clear hk; clear k
            refine ⟨(i + 1, l ++ [(n : Int)], g, n + 1, f), ⟨by show i + 1 ≤ _; omega, Pl.once_push hx2, by show n + 1 ≤ i + 1; omega⟩, le_of [(0, _)] (by rfl) (by rfl) ⟨⟨_, rfl, .p (.of_eq (by first | rfl | (simp only [PV.lit.injEq, Value.int.injEq, true_and]; omega) | (simp; done) | (simp; omega)))⟩, ⟨_, rfl, .p (LeP.sq (by first | rfl | simp))⟩, ⟨_, rfl, .p (.of_eq (by first | rfl | (simp only [PV.lit.injEq, Value.int.injEq, true_and]; omega) | (simp; done) | (simp; omega)))⟩, ⟨_, rfl, .p (.of_eq (by first | rfl | (simp only [PV.lit.injEq, Value.int.injEq, true_and]; omega) | (simp; done) | (simp; omega)))⟩, ⟨_, rfl, .own rfl⟩, ⟨_, rfl, .p (.of_eq (by first | rfl | (simp only [PV.lit.injEq, Value.int.injEq, true_and]; omega) | (simp; done) | (simp; omega)))⟩, trivial⟩ ⟨⟨_, rfl, _, rfl, .liftE (by first | rfl | simp)⟩, trivial⟩, by show acts.length - (i + 1) < acts.length - i; omega⟩
        · -- branch 9
          try simp only [decide_eq_true_eq, decide_eq_false_iff_not, Int.not_lt, Int.not_le, beq_iff_eq, bne_iff_ne, ne_eq, beq_eq_false_iff_ne, bne_eq_false_iff_eq, Bool.not_eq_true, Bool.not_eq_false, Bool.not_true, Bool.not_false, Bool.not_eq_false', Bool.not_eq_true', Decidable.not_not] at hb
          refine awp_le (le_keep [0, 2, 3, 4, 5, 6, 7]) ?_
          simp only [keepL_nil, keepL_cons, keepM_some, keepM_none, argSl, lkp_cons, lkp_nil, Nat.reduceEqDiff, ↓reduceIte, reduceCtorEq, Nat.zero_add, Nat.reduceAdd]
          refine awp_sr [103, 49, 108] (by rw [hC]; rfl) fun k hk => ?_
          simp (maxSteps := 4000000) (disch := first | omega | (simp only [lens]; omega)) only [argSl, am, ↓amb, aml, mark_eq, lo, ← List.map_take, ← List.map_drop, ← List.map_append, ↓reduceIte, reduceCtorEq, Int.reduceBEq, Int.reduceBNe, Int.reduceToNat, Nat.reduceEqDiff, Nat.reduceAdd, Nat.reduceSub, Nat.reduceMul, Nat.reduceDiv, Nat.reduceMod, Nat.reduceLeDiff, Nat.reduceBEq, el35, sz5]
          (repeat (refine ⟨by first | omega | (simp; done) | assumption | (unfold maxLen; omega) | (simp [maxLen]; omega), ?_⟩)); refine hk _ ?_; clear hk; clear k
          refine awp_cond rfl (fun hb => ?_) (fun hb => ?_)
          · -- branch 10
            try simp only [decide_eq_true_eq, decide_eq_false_iff_not, Int.not_lt, Int.not_le, beq_iff_eq, bne_iff_ne, ne_eq, beq_eq_false_iff_ne, bne_eq_false_iff_eq, Bool.not_eq_true, Bool.not_eq_false, Bool.not_true, Bool.not_false, Bool.not_eq_false', Bool.not_eq_true', Decidable.not_not] at hb
            refine awp_le (le_keep [0, 2, 3, 4, 5, 6, 7]) ?_
            simp only [keepL_nil, keepL_cons, keepM_some, keepM_none, argSl, lkp_cons, lkp_nil, Nat.reduceEqDiff, ↓reduceIte, reduceCtorEq, Nat.zero_add, Nat.reduceAdd]
            have hl0 : l.length ≠ 0 := by omega
            have p17 : PCall Try.prog 17 [ints false l] (.tup [ints false l.dropLast, iV (l.getD (l.length - 1) 0), iV 0]) := by have h := c17 false l (by omega); simpa only [popS, if_neg hl0] using h
            refine awp_sr [103, 49, 108] (by rw [hC]; rfl) fun k hk => ?_
            simp (maxSteps := 4000000) (disch := first | omega | (simp only [lens]; omega)) only [argSl, am, ↓amb, aml, mark_eq, lo, ← List.map_take, ← List.map_drop, ← List.map_append, ↓reduceIte, reduceCtorEq, Int.reduceBEq, Int.reduceBNe, Int.reduceToNat, Nat.reduceEqDiff, Nat.reduceAdd, Nat.reduceSub, Nat.reduceMul, Nat.reduceDiv, Nat.reduceMod, Nat.reduceLeDiff, Nat.reduceBEq, el22, sz3]
            (repeat (refine ⟨by first | omega | (simp; done) | assumption | (unfold maxLen; omega) | (simp [maxLen]; omega), ?_⟩)); refine hk _ ?_; clear hk; clear k
            refine awp_le (le_keep [0, 2, 3, 4, 5, 6, 7, 10]) ?_
            simp only [keepL_nil, keepL_cons, keepM_some, keepM_none, argSl, lkp_cons, lkp_nil, Nat.reduceEqDiff, ↓reduceIte, reduceCtorEq, Nat.zero_add, Nat.reduceAdd]
            refine awp_sr [103, 49, 108] (by rw [hC]; rfl) fun k hk => ?_
            simp (maxSteps := 4000000) (disch := first | omega | (simp only [lens]; omega)) only [argSl, am, ↓amb, aml, mark_eq, lo, ← List.map_take, ← List.map_drop, ← List.map_append, ↓reduceIte, reduceCtorEq, Int.reduceBEq, Int.reduceBNe, Int.reduceToNat, Nat.reduceEqDiff, Nat.reduceAdd, Nat.reduceSub, Nat.reduceMul, Nat.reduceDiv, Nat.reduceMod, Nat.reduceLeDiff, Nat.reduceBEq, en17]
            (repeat (refine ⟨by first | omega | (simp; done) | assumption | (unfold maxLen; omega) | (simp [maxLen]; omega), ?_⟩))
            refine callK_p (p17) rfl ?_
            simp (maxSteps := 4000000) (disch := first | omega | (simp only [lens]; omega)) only [argSl, am, ↓amb, aml, mark_eq, lo, ← List.map_take, ← List.map_drop, ← List.map_append, ↓reduceIte, reduceCtorEq, Int.reduceBEq, Int.reduceBNe, Int.reduceToNat, Nat.reduceEqDiff, Nat.reduceAdd, Nat.reduceSub, Nat.reduceMul, Nat.reduceDiv, Nat.reduceMod, Nat.reduceLeDiff, Nat.reduceBEq, en17]
            (repeat (refine ⟨by first | omega | (simp; done) | assumption | (unfold maxLen; omega) | (simp [maxLen]; omega), ?_⟩)); refine hk _ ?_; clear hk; clear k
            refine awp_seq fun k8 h8 => ?_
            refine awp_test [103, 49, 108] 98 (decide (False)) [0, 2, 3, 4, 5, 6, 7, 11, 12] (by rw [hC]; rfl) (fun gd hgd k hk => ?_) ?_
            · have g2 : gd 2 = some 94 := by rw [hgd]; rfl
              clear hgd
              simp (maxSteps := 4000000) (disch := first | omega | (simp only [lens]; omega)) only [argSl, am, ↓amb, aml, mark_eq, lo, ← List.map_take, ← List.map_drop, ← List.map_append, ↓reduceIte, reduceCtorEq, Int.reduceBEq, Int.reduceBNe, Int.reduceToNat, Nat.reduceEqDiff, Nat.reduceAdd, Nat.reduceSub, Nat.reduceMul, Nat.reduceDiv, Nat.reduceMod, Nat.reduceLeDiff, Nat.reduceBEq, a07, gcase_undef, g2]
              repeat' first | refine hk _ _ rfl rfl rfl rfl ?_ | (intro hg; try simp only [decide_eq_true_eq, decide_eq_false_iff_not, Int.not_lt, Int.not_le, beq_iff_eq, bne_iff_ne, ne_eq, beq_eq_false_iff_ne, bne_eq_false_iff_eq, Bool.not_eq_true, Bool.not_eq_false, Bool.not_true, Bool.not_false, Bool.not_eq_false', Bool.not_eq_true', Decidable.not_not] at hg) | apply And.intro
              all_goals first | rfl | omega | exact (decide_eq_true (by omega)).symm | exact (decide_eq_false (by omega)).symm | exact decide_eq_decide.mpr (by omega) | (refine Bool.eq_iff_iff.mpr ?_; simp only [beq_iff_eq, bne_iff_ne, ne_eq, decide_eq_true_eq]; omega) | assumption | (simp; done) | (simp [maxLen]; omega) | (simp at *; omega) | skip
            simp only [keepL_nil, keepL_cons, keepM_some, keepM_none, argSl, argA_nil, argA_cons, lkp_cons, lkp_nil, Nat.reduceEqDiff, ↓reduceIte, reduceCtorEq, Nat.zero_add, Nat.reduceAdd, List.length_cons, List.length_nil]
            refine awp_cond rfl (fun hb => ?_) (fun hb => ?_)
            · exact absurd hb (by simp)
            · -- branch 12
              try simp only [decide_eq_true_eq, decide_eq_false_iff_not, Int.not_lt, Int.not_le, beq_iff_eq, bne_iff_ne, ne_eq, beq_eq_false_iff_ne, bne_eq_false_iff_eq, Bool.not_eq_true, Bool.not_eq_false, Bool.not_true, Bool.not_false, Bool.not_eq_false', Bool.not_eq_true', Decidable.not_not] at hb
              refine awp_skip ?_
              refine h8 _ ?_; clear h8; clear k8
              refine awp_region [103, 49, 108] (by rw [hC]; rfl) fun k hk => ?_
              simp (maxSteps := 4000000) (disch := first | omega | (simp only [lens]; omega)) only [argSl, am, ↓amb, aml, mark_eq, lo, ← List.map_take, ← List.map_drop, ← List.map_append, ↓reduceIte, reduceCtorEq, Int.reduceBEq, Int.reduceBNe, Int.reduceToNat, Nat.reduceEqDiff, Nat.reduceAdd, Nat.reduceSub, Nat.reduceMul, Nat.reduceDiv, Nat.reduceMod, Nat.reduceLeDiff, Nat.reduceBEq, el22, vr3, by3]
              (repeat (refine ⟨by first | omega | (simp; done) | assumption | (unfold maxLen; omega) | (simp [maxLen]; omega), ?_⟩)); refine hk _ ?_; clear hk; clear k
              refine h6 _ ?_; clear h6; clear k6
              refine awp_region [103, 49, 108] (by rw [hC]; rfl) fun k hk => ?_
              simp (maxSteps := 4000000) (disch := first | omega | (simp only [lens]; omega)) only [argSl, am, ↓amb, aml, mark_eq, lo, ← List.map_take, ← List.map_drop, ← List.map_append, ↓reduceIte, reduceCtorEq, Int.reduceBEq, Int.reduceBNe, Int.reduceToNat, Nat.reduceEqDiff, Nat.reduceAdd, Nat.reduceSub, Nat.reduceMul, Nat.reduceDiv, Nat.reduceMod, Nat.reduceLeDiff, Nat.reduceBEq]
              (repeat (refine ⟨by first | omega | (simp; done) | assumption | (unfold maxLen; omega) | (simp [maxLen]; omega), ?_⟩)); refine hk _ ?_; clear hk; clear k
              refine ⟨(i + 1, l.dropLast, g ++ [l.getD (l.length - 1) 0], n, f), ⟨by show i + 1 ≤ _; omega, Pl.once_pop hx2 hl0, by show n ≤ i + 1; omega⟩, le_of [(0, _)] (by rfl) (by rfl) ⟨⟨_, rfl, .p (.of_eq (by first | rfl | (simp only [PV.lit.injEq, Value.int.injEq, true_and]; omega) | (simp; done) | (simp; omega)))⟩, ⟨_, rfl, .p (LeP.sq (by first | rfl | simp))⟩, ⟨_, rfl, .p (.of_eq (by first | rfl | (simp only [PV.lit.injEq, Value.int.injEq, true_and]; omega) | (simp; done) | (simp; omega)))⟩, ⟨_, rfl, .p (.of_eq (by first | rfl | (simp only [PV.lit.injEq, Value.int.injEq, true_and]; omega) | (simp; done) | (simp; omega)))⟩, ⟨_, rfl, .own rfl⟩, ⟨_, rfl, .p (.of_eq (by first | rfl | (simp only [PV.lit.injEq, Value.int.injEq, true_and]; omega) | (simp; done) | (simp; omega)))⟩, trivial⟩ ⟨⟨_, rfl, _, rfl, .liftE (by first | rfl | simp)⟩, trivial⟩, by show acts.length - (i + 1) < acts.length - i; omega⟩
          · -- branch 13
            try simp only [decide_eq_true_eq, decide_eq_false_iff_not, Int.not_lt, Int.not_le, beq_iff_eq, bne_iff_ne, ne_eq, beq_eq_false_iff_ne, bne_eq_false_iff_eq, Bool.not_eq_true, Bool.not_eq_false, Bool.not_true, Bool.not_false, Bool.not_eq_false', Bool.not_eq_true', Decidable.not_not] at hb
            refine awp_le (le_keep [0, 2, 3, 4, 5, 6, 7]) ?_
            simp only [keepL_nil, keepL_cons, keepM_some, keepM_none, argSl, lkp_cons, lkp_nil, Nat.reduceEqDiff, ↓reduceIte, reduceCtorEq, Nat.zero_add, Nat.reduceAdd]
            have hl0 : l.length ≠ 0 := by omega
            have hst := Pl.once_steal hx2 hl0
            have p19 : PCall Try.prog 19 [ints false l] (.tup [ints false (l.drop 1), iV (l.getD 0 0), iV 0]) := by have h := c19 false l (by omega); simpa only [stealS, if_neg hl0] using h
            refine awp_sr [103, 49, 108] (by rw [hC]; rfl) fun k hk => ?_
            simp (maxSteps := 4000000) (disch := first | omega | (simp only [lens]; omega)) only [argSl, am, ↓amb, aml, mark_eq, lo, ← List.map_take, ← List.map_drop, ← List.map_append, ↓reduceIte, reduceCtorEq, Int.reduceBEq, Int.reduceBNe, Int.reduceToNat, Nat.reduceEqDiff, Nat.reduceAdd, Nat.reduceSub, Nat.reduceMul, Nat.reduceDiv, Nat.reduceMod, Nat.reduceLeDiff, Nat.reduceBEq, en19]
            (repeat (refine ⟨by first | omega | (simp; done) | assumption | (unfold maxLen; omega) | (simp [maxLen]; omega), ?_⟩))
            refine callK_p (p19) rfl ?_
            simp (maxSteps := 4000000) (disch := first | omega | (simp only [lens]; omega)) only [argSl, am, ↓amb, aml, mark_eq, lo, ← List.map_take, ← List.map_drop, ← List.map_append, ↓reduceIte, reduceCtorEq, Int.reduceBEq, Int.reduceBNe, Int.reduceToNat, Nat.reduceEqDiff, Nat.reduceAdd, Nat.reduceSub, Nat.reduceMul, Nat.reduceDiv, Nat.reduceMod, Nat.reduceLeDiff, Nat.reduceBEq, en19]
            (repeat (refine ⟨by first | omega | (simp; done) | assumption | (unfold maxLen; omega) | (simp [maxLen]; omega), ?_⟩)); refine hk _ ?_; clear hk; clear k
            refine awp_seq fun k9 h9 => ?_
            refine awp_test [103, 49, 108] 43 (decide (False)) [0, 2, 3, 4, 5, 6, 7, 14, 15] (by rw [hC]; rfl) (fun gd hgd k hk => ?_) ?_
            · have g2 : gd 2 = some 39 := by rw [hgd]; rfl
              clear hgd
              simp (maxSteps := 4000000) (disch := first | omega | (simp only [lens]; omega)) only [argSl, am, ↓amb, aml, mark_eq, lo, ← List.map_take, ← List.map_drop, ← List.map_append, ↓reduceIte, reduceCtorEq, Int.reduceBEq, Int.reduceBNe, Int.reduceToNat, Nat.reduceEqDiff, Nat.reduceAdd, Nat.reduceSub, Nat.reduceMul, Nat.reduceDiv, Nat.reduceMod, Nat.reduceLeDiff, Nat.reduceBEq, a07, gcase_undef, g2]
              repeat' first | refine hk _ _ rfl rfl rfl rfl ?_ | (intro hg; try simp only [decide_eq_true_eq, decide_eq_false_iff_not, Int.not_lt, Int.not_le, beq_iff_eq, bne_iff_ne, ne_eq, beq_eq_false_iff_ne, bne_eq_false_iff_eq, Bool.not_eq_true, Bool.not_eq_false, Bool.not_true, Bool.not_false, Bool.not_eq_false', Bool.not_eq_true', Decidable.not_not] at hg) | apply And.intro
              all_goals first | rfl | omega | exact (decide_eq_true (by omega)).symm | exact (decide_eq_false (by omega)).symm | exact decide_eq_decide.mpr (by omega) | (refine Bool.eq_iff_iff.mpr ?_; simp only [beq_iff_eq, bne_iff_ne, ne_eq, decide_eq_true_eq]; omega) | assumption | (simp; done) | (simp [maxLen]; omega) | (simp at *; omega) | skip
            simp only [keepL_nil, keepL_cons, keepM_some, keepM_none, argSl, argA_nil, argA_cons, lkp_cons, lkp_nil, Nat.reduceEqDiff, ↓reduceIte, reduceCtorEq, Nat.zero_add, Nat.reduceAdd, List.length_cons, List.length_nil]
            refine awp_cond rfl (fun hb => ?_) (fun hb => ?_)
            · exact absurd hb (by simp)
            · -- branch 15
              try simp only [decide_eq_true_eq, decide_eq_false_iff_not, Int.not_lt, Int.not_le, beq_iff_eq, bne_iff_ne, ne_eq, beq_eq_false_iff_ne, bne_eq_false_iff_eq, Bool.not_eq_true, Bool.not_eq_false, Bool.not_true, Bool.not_false, Bool.not_eq_false', Bool.not_eq_true', Decidable.not_not] at hb
              refine awp_skip ?_
              refine h9 _ ?_; clear h9; clear k9
              refine awp_le (le_keep [0, 2, 4, 6, 7, 14, 15]) ?_
              simp only [keepL_nil, keepL_cons, keepM_some, keepM_none, argSl, lkp_cons, lkp_nil, Nat.reduceEqDiff, ↓reduceIte, reduceCtorEq, Nat.zero_add, Nat.reduceAdd]
              refine awp_sr [103, 49, 108] (by rw [hC]; rfl) fun k hk => ?_
              simp (maxSteps := 4000000) (disch := first | omega | (simp only [lens]; omega)) only [argSl, am, ↓amb, aml, mark_eq, lo, ← List.map_take, ← List.map_drop, ← List.map_append, ↓reduceIte, reduceCtorEq, Int.reduceBEq, Int.reduceBNe, Int.reduceToNat, Nat.reduceEqDiff, Nat.reduceAdd, Nat.reduceSub, Nat.reduceMul, Nat.reduceDiv, Nat.reduceMod, Nat.reduceLeDiff, Nat.reduceBEq]
              (repeat (refine ⟨by first | omega | (simp; done) | assumption | (unfold maxLen; omega) | (simp [maxLen]; omega), ?_⟩)); refine hk _ ?_; clear hk; clear k
              refine awp_region [103, 49, 108] (by rw [hC]; rfl) fun k hk => ?_
              simp (maxSteps := 4000000) (disch := first | omega | (simp only [lens]; omega)) only [argSl, am, ↓amb, aml, mark_eq, lo, ← List.map_take, ← List.map_drop, ← List.map_append, ↓reduceIte, reduceCtorEq, Int.reduceBEq, Int.reduceBNe, Int.reduceToNat, Nat.reduceEqDiff, Nat.reduceAdd, Nat.reduceSub, Nat.reduceMul, Nat.reduceDiv, Nat.reduceMod, Nat.reduceLeDiff, Nat.reduceBEq, el22, vr3, by3]
              (repeat (refine ⟨by first | omega | (simp; done) | assumption | (unfold maxLen; omega) | (simp [maxLen]; omega), ?_⟩)); refine hk _ ?_; clear hk; clear k
              refine h6 _ ?_; clear h6; clear k6
              refine awp_region [103, 49, 108] (by rw [hC]; rfl) fun k hk => ?_
              simp (maxSteps := 4000000) (disch := first | omega | (simp only [lens]; omega)) only [argSl, am, ↓amb, aml, mark_eq, lo, ← List.map_take, ← List.map_drop, ← List.map_append, ↓reduceIte, reduceCtorEq, Int.reduceBEq, Int.reduceBNe, Int.reduceToNat, Nat.reduceEqDiff, Nat.reduceAdd, Nat.reduceSub, Nat.reduceMul, Nat.reduceDiv, Nat.reduceMod, Nat.reduceLeDiff, Nat.reduceBEq]
              (repeat (refine ⟨by first | omega | (simp; done) | assumption | (unfold maxLen; omega) | (simp [maxLen]; omega), ?_⟩)); refine hk _ ?_; clear hk; clear k
              refine ⟨(i + 1, l.drop 1, g ++ [l.getD 0 0], n, l.getD 0 0), ⟨by show i + 1 ≤ _; omega, hst.1, by show n ≤ i + 1; omega⟩, le_of [(0, _)] (by rfl) (by rfl) ⟨⟨_, rfl, .p (.of_eq (by first | rfl | (simp only [PV.lit.injEq, Value.int.injEq, true_and]; omega) | (simp; done) | (simp; omega)))⟩, ⟨_, rfl, .p (LeP.sq (by first | rfl | simp))⟩, ⟨_, rfl, .p (.of_eq (by first | rfl | (simp only [PV.lit.injEq, Value.int.injEq, true_and]; omega) | (simp; done) | (simp; omega)))⟩, ⟨_, rfl, .p (.of_eq (by first | rfl | (simp only [PV.lit.injEq, Value.int.injEq, true_and]; omega) | (simp; done) | (simp; omega)))⟩, ⟨_, rfl, .own rfl⟩, ⟨_, rfl, .p (.of_eq (by first | rfl | (simp only [PV.lit.injEq, Value.int.injEq, true_and]; omega) | (simp; done) | (simp; omega)))⟩, trivial⟩ ⟨⟨_, rfl, _, rfl, .liftE (by first | rfl | simp)⟩, trivial⟩, by show acts.length - (i + 1) < acts.length - i; omega⟩
      · -- branch 16
        try simp only [decide_eq_true_eq, decide_eq_false_iff_not, Int.not_lt, Int.not_le, beq_iff_eq, bne_iff_ne, ne_eq, beq_eq_false_iff_ne, bne_eq_false_iff_eq, Bool.not_eq_true, Bool.not_eq_false, Bool.not_true, Bool.not_false, Bool.not_eq_false', Bool.not_eq_true', Decidable.not_not] at hb
        refine awp_exit ((if_pos rfl).mpr ?_)
        refine h3 _ ?_; clear h5; clear k5; clear h3; clear k3
        refine awp_le (le_keep [3, 4, 6]) ?_
        simp only [keepL_nil, keepL_cons, keepM_some, keepM_none, argSl, lkp_cons, lkp_nil, Nat.reduceEqDiff, ↓reduceIte, reduceCtorEq, Nat.zero_add, Nat.reduceAdd]
        refine awp_sr [103, 49, 108] (by rw [hC]; rfl) fun k hk => ?_
        simp (maxSteps := 4000000) (disch := first | omega | (simp only [lens]; omega)) only [argSl, am, ↓amb, aml, mark_eq, lo, ← List.map_take, ← List.map_drop, ← List.map_append, ↓reduceIte, reduceCtorEq, Int.reduceBEq, Int.reduceBNe, Int.reduceToNat, Nat.reduceEqDiff, Nat.reduceAdd, Nat.reduceSub, Nat.reduceMul, Nat.reduceDiv, Nat.reduceMod, Nat.reduceLeDiff, Nat.reduceBEq, el36, by4, vr4]
        (repeat (refine ⟨by first | omega | (simp; done) | assumption | (unfold maxLen; omega) | (simp [maxLen]; omega), ?_⟩)); refine hk _ ?_; clear hk; clear k
        refine awp_le (le_keep [3, 4, 6, 17]) ?_
        simp only [keepL_nil, keepL_cons, keepM_some, keepM_none, argSl, lkp_cons, lkp_nil, Nat.reduceEqDiff, ↓reduceIte, reduceCtorEq, Nat.zero_add, Nat.reduceAdd]
        refine awp_sr [103, 49, 108] (by rw [hC]; rfl) fun k hk => ?_
        simp (maxSteps := 4000000) (disch := first | omega | (simp only [lens]; omega)) only [argSl, am, ↓amb, aml, mark_eq, lo, ← List.map_take, ← List.map_drop, ← List.map_append, ↓reduceIte, reduceCtorEq, Int.reduceBEq, Int.reduceBNe, Int.reduceToNat, Nat.reduceEqDiff, Nat.reduceAdd, Nat.reduceSub, Nat.reduceMul, Nat.reduceDiv, Nat.reduceMod, Nat.reduceLeDiff, Nat.reduceBEq, el22, vr3, by3]
        (repeat (refine ⟨by first | omega | (simp; done) | assumption | (unfold maxLen; omega) | (simp [maxLen]; omega), ?_⟩)); refine hk _ ?_; clear hk; clear k
        refine awp_seq fun k10 h10 => ?_
        refine awp_le (le_keep [2, 4, 17, 18]) ?_
        simp only [keepL_nil, keepL_cons, keepM_some, keepM_none, argSl, lkp_cons, lkp_nil, Nat.reduceEqDiff, ↓reduceIte, reduceCtorEq, Nat.zero_add, Nat.reduceAdd]
        refine awp_sr [103, 49, 108] (by rw [hC]; rfl) fun k hk => ?_
        simp (maxSteps := 4000000) (disch := first | omega | (simp only [lens]; omega)) only [argSl, am, ↓amb, aml, mark_eq, lo, ← List.map_take, ← List.map_drop, ← List.map_append, ↓reduceIte, reduceCtorEq, Int.reduceBEq, Int.reduceBNe, Int.reduceToNat, Nat.reduceEqDiff, Nat.reduceAdd, Nat.reduceSub, Nat.reduceMul, Nat.reduceDiv, Nat.reduceMod, Nat.reduceLeDiff, Nat.reduceBEq]
        (repeat (refine ⟨by first | omega | (simp; done) | assumption | (unfold maxLen; omega) | (simp [maxLen]; omega), ?_⟩)); refine hk _ ?_; clear hk; clear k
        refine awp_block ?_
        refine awp_loop (σ := Nat) (fun i => i ≤ (l ++ g).length) (fun (i : Nat) => ⟨[(17, (.own 0)), (18, (.p (ints false (l ++ g)))), (4, (.p (iV (n : Int)))), (19, (.p (iV (i : Int))))], [(0, (.row 1 (lift ((Pl.metL n ((l ++ g).take i)).map fun b => [.lit (.bool b)]))))], 1⟩) (fun i => (l ++ g).length - i) 0 ?_ ?_ fun x hx => ?_
        · exact Nat.zero_le _
        · exact le_of [(0, _)] (by rfl) (by rfl) ⟨⟨_, rfl, .own rfl⟩, ⟨_, rfl, .p (LeP.sq (by first | rfl | simp))⟩, ⟨_, rfl, .p (.of_eq (by first | rfl | (simp only [PV.lit.injEq, Value.int.injEq, true_and]; omega) | (simp; done) | (simp; omega)))⟩, ⟨_, rfl, .p (.of_eq (by first | rfl | (simp only [PV.lit.injEq, Value.int.injEq, true_and]; omega) | (simp; done) | (simp; omega)))⟩, trivial⟩ ⟨⟨_, rfl, _, rfl, .liftE (by first | (rw [List.take_zero, Pl.metL_nil]; simp; done) | (rw [← Pl.metL_set (by omega) hm.1, List.map_set]; simp; done))⟩, trivial⟩
        refine awp_seq fun k12 h12 => ?_
        refine awp_le (le_keep [0, 2, 4, 17, 18, 19]) ?_
        simp only [keepL_nil, keepL_cons, keepM_some, keepM_none, argSl, lkp_cons, lkp_nil, Nat.reduceEqDiff, ↓reduceIte, reduceCtorEq, Nat.zero_add, Nat.reduceAdd]
        refine awp_sr [103, 49, 108] (by rw [hC]; rfl) fun k hk => ?_
        simp (maxSteps := 4000000) (disch := first | omega | (simp only [lens]; omega)) only [argSl, am, ↓amb, aml, mark_eq, lo, ← List.map_take, ← List.map_drop, ← List.map_append, ↓reduceIte, reduceCtorEq, Int.reduceBEq, Int.reduceBNe, Int.reduceToNat, Nat.reduceEqDiff, Nat.reduceAdd, Nat.reduceSub, Nat.reduceMul, Nat.reduceDiv, Nat.reduceMod, Nat.reduceLeDiff, Nat.reduceBEq, el22]
        (repeat (refine ⟨by first | omega | (simp; done) | assumption | (unfold maxLen; omega) | (simp [maxLen]; omega), ?_⟩)); refine hk _ ?_; clear hk; clear k
        refine awp_cond rfl (fun hb => ?_) (fun hb => ?_)
        · -- branch 17
          try simp only [decide_eq_true_eq, decide_eq_false_iff_not, Int.not_lt, Int.not_le, beq_iff_eq, bne_iff_ne, ne_eq, beq_eq_false_iff_ne, bne_eq_false_iff_eq, Bool.not_eq_true, Bool.not_eq_false, Bool.not_true, Bool.not_false, Bool.not_eq_false', Bool.not_eq_true', Decidable.not_not] at hb
          refine awp_skip ?_
          refine h12 _ ?_; clear h12; clear k12
          refine awp_seq fun k13 h13 => ?_
          refine awp_block ?_
          refine awp_seq fun k14 h14 => ?_
          have hal : (l ++ g).length = n := by rw [List.length_append]; exact hlen
          have hm := Pl.once_mem hx2 (x := (l ++ g).getD x 0) (by rw [List.getD_eq_getElem?_getD, List.getElem?_eq_getElem (by omega)]; simp)
          have hnb := Pl.metL_get (n := n) hm.1 hm.2 (Pl.not_before (Pl.once_nodup hx2) (i := x) (by omega))
          have hml := Pl.metL_len n ((l ++ g).take x)
          refine awp_test [103, 49, 108] 138 (decide (False)) [0, 2, 4, 17, 18, 19] (by rw [hC]; rfl) (fun gd hgd k hk => ?_) ?_
          · have g5 : gd 5 = some 122 := by rw [hgd]; rfl
            have g13 : gd 13 = some 130 := by rw [hgd]; rfl
            clear hgd
            simp (maxSteps := 4000000) (disch := first | omega | (simp only [lens]; omega)) only [argSl, am, ↓amb, aml, mark_eq, lo, ← List.map_take, ← List.map_drop, ← List.map_append, ↓reduceIte, reduceCtorEq, Int.reduceBEq, Int.reduceBNe, Int.reduceToNat, Nat.reduceEqDiff, Nat.reduceAdd, Nat.reduceSub, Nat.reduceMul, Nat.reduceDiv, Nat.reduceMod, Nat.reduceLeDiff, Nat.reduceBEq, el22, sz3, el36, sz4, a07, gcase_undef, g5, g13]
            repeat' first | refine hk _ _ rfl rfl rfl rfl ?_ | (intro hg; try simp only [decide_eq_true_eq, decide_eq_false_iff_not, Int.not_lt, Int.not_le, beq_iff_eq, bne_iff_ne, ne_eq, beq_eq_false_iff_ne, bne_eq_false_iff_eq, Bool.not_eq_true, Bool.not_eq_false, Bool.not_true, Bool.not_false, Bool.not_eq_false', Bool.not_eq_true', Decidable.not_not] at hg) | apply And.intro
            all_goals first | rfl | omega | exact (decide_eq_true (by omega)).symm | exact (decide_eq_false (by omega)).symm | exact decide_eq_decide.mpr (by omega) | (refine Bool.eq_iff_iff.mpr ?_; simp only [beq_iff_eq, bne_iff_ne, ne_eq, decide_eq_true_eq]; omega) | assumption | (simp; done) | (simp [maxLen]; omega) | (simp at *; omega) | skip
          simp only [keepL_nil, keepL_cons, keepM_some, keepM_none, argSl, argA_nil, argA_cons, lkp_cons, lkp_nil, Nat.reduceEqDiff, ↓reduceIte, reduceCtorEq, Nat.zero_add, Nat.reduceAdd, List.length_cons, List.length_nil]
          refine awp_cond rfl (fun hb => ?_) (fun hb => ?_)
          · exact absurd hb (by simp)
          · -- branch 19
            try simp only [decide_eq_true_eq, decide_eq_false_iff_not, Int.not_lt, Int.not_le, beq_iff_eq, bne_iff_ne, ne_eq, beq_eq_false_iff_ne, bne_eq_false_iff_eq, Bool.not_eq_true, Bool.not_eq_false, Bool.not_true, Bool.not_false, Bool.not_eq_false', Bool.not_eq_true', Decidable.not_not] at hb
            refine awp_skip ?_
            refine h14 _ ?_; clear h14; clear k14
            refine awp_region [103, 49, 108] (by rw [hC]; rfl) fun k hk => ?_
            simp (maxSteps := 4000000) (disch := first | omega | (simp only [lens]; omega)) only [argSl, am, ↓amb, aml, mark_eq, lo, ← List.map_take, ← List.map_drop, ← List.map_append, ↓reduceIte, reduceCtorEq, Int.reduceBEq, Int.reduceBNe, Int.reduceToNat, Nat.reduceEqDiff, Nat.reduceAdd, Nat.reduceSub, Nat.reduceMul, Nat.reduceDiv, Nat.reduceMod, Nat.reduceLeDiff, Nat.reduceBEq, el22, sz3, el36, sz4]
            (repeat (refine ⟨by first | omega | (simp; done) | assumption | (unfold maxLen; omega) | (simp [maxLen]; omega), ?_⟩)); refine hk _ ?_; clear hk; clear k
            refine h13 _ ?_; clear h13; clear k13
            refine awp_region [103, 49, 108] (by rw [hC]; rfl) fun k hk => ?_
            simp (maxSteps := 4000000) (disch := first | omega | (simp only [lens]; omega)) only [argSl, am, ↓amb, aml, mark_eq, lo, ← List.map_take, ← List.map_drop, ← List.map_append, ↓reduceIte, reduceCtorEq, Int.reduceBEq, Int.reduceBNe, Int.reduceToNat, Nat.reduceEqDiff, Nat.reduceAdd, Nat.reduceSub, Nat.reduceMul, Nat.reduceDiv, Nat.reduceMod, Nat.reduceLeDiff, Nat.reduceBEq]
            (repeat (refine ⟨by first | omega | (simp; done) | assumption | (unfold maxLen; omega) | (simp [maxLen]; omega), ?_⟩)); refine hk _ ?_; clear hk; clear k
            refine ⟨x + 1, by omega, le_of [(0, _)] (by rfl) (by rfl) ⟨⟨_, rfl, .own rfl⟩, ⟨_, rfl, .p (LeP.sq (by first | rfl | simp))⟩, ⟨_, rfl, .p (.of_eq (by first | rfl | (simp only [PV.lit.injEq, Value.int.injEq, true_and]; omega) | (simp; done) | (simp; omega)))⟩, ⟨_, rfl, .p (.of_eq (by first | rfl | (simp only [PV.lit.injEq, Value.int.injEq, true_and]; omega) | (simp; done) | (simp; omega)))⟩, trivial⟩ ⟨⟨_, rfl, _, rfl, .liftE (by first | (rw [List.take_zero, Pl.metL_nil]; simp; done) | (rw [← Pl.metL_set (by omega) hm.1, List.map_set]; simp; done))⟩, trivial⟩, by omega⟩
        · -- branch 20
          try simp only [decide_eq_true_eq, decide_eq_false_iff_not, Int.not_lt, Int.not_le, beq_iff_eq, bne_iff_ne, ne_eq, beq_eq_false_iff_ne, bne_eq_false_iff_eq, Bool.not_eq_true, Bool.not_eq_false, Bool.not_true, Bool.not_false, Bool.not_eq_false', Bool.not_eq_true', Decidable.not_not] at hb
          refine awp_exit ((if_pos rfl).mpr ?_)
          refine h10 _ ?_; clear h12; clear k12; clear h10; clear k10
          refine awp_le (le_keep [4, 18]) ?_
          simp only [keepL_nil, keepL_cons, keepM_some, keepM_none, argSl, lkp_cons, lkp_nil, Nat.reduceEqDiff, ↓reduceIte, reduceCtorEq, Nat.zero_add, Nat.reduceAdd]
          refine awp_sr [103, 49, 108] (by rw [hC]; rfl) fun k hk => ?_
          simp (maxSteps := 4000000) (disch := first | omega | (simp only [lens]; omega)) only [argSl, am, ↓amb, aml, mark_eq, lo, ← List.map_take, ← List.map_drop, ← List.map_append, ↓reduceIte, reduceCtorEq, Int.reduceBEq, Int.reduceBNe, Int.reduceToNat, Nat.reduceEqDiff, Nat.reduceAdd, Nat.reduceSub, Nat.reduceMul, Nat.reduceDiv, Nat.reduceMod, Nat.reduceLeDiff, Nat.reduceBEq, el22]
          (repeat (refine ⟨by first | omega | (simp; done) | assumption | (unfold maxLen; omega) | (simp [maxLen]; omega), ?_⟩)); refine hk _ ?_; clear hk; clear k
          refine awp_ret ?_
          refine ret1 rfl rfl ?_
          exact .p (LeP.of_eq (by simp; omega))
end Go.Proofs.Ytbdliooaiincdaa
