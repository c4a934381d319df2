/-
  Steps at most, of batches; alive, of the statements of bounds: true.
-/
import Derived.Test.YtjkkjiaeeobnkaaX2
import Derived.Test.YtjkkjiaeeobnkaaX3
set_option linter.unusedSimpArgs false
set_option linter.unusedVariables false
set_option maxRecDepth 100000
namespace Go.Proofs.Ytjkkjiaeeobnkaa
open Go.Am Go.Proofs
theorem bt27 : tBuilt Try.prog 27 = true := by kernel_rfl
theorem bt45 : tBuilt Try.prog 45 = true := by kernel_rfl
theorem bt47 : tBuilt Try.prog 47 = true := by kernel_rfl
theorem bt51 : tBuilt Try.prog 51 = true := by kernel_rfl
theorem bt53 : tBuilt Try.prog 53 = true := by kernel_rfl
theorem bt93 : tBuilt Try.prog 93 = true := by kernel_rfl
theorem el31 : tEl Try.prog 31 = some 27 := by kernel_rfl
theorem en24 : enters Try.prog 24 = true := by kernel_rfl
theorem en25 : enters Try.prog 25 = true := by kernel_rfl
theorem en32 : enters Try.prog 32 = true := by kernel_rfl
theorem en33 : enters Try.prog 33 = true := by kernel_rfl
theorem en34 : enters Try.prog 34 = true := by kernel_rfl
theorem en36 : enters Try.prog 36 = true := by kernel_rfl
theorem en37 : enters Try.prog 37 = true := by kernel_rfl
theorem en38 : enters Try.prog 38 = true := by kernel_rfl
theorem pl27_0 : tPlace Try.prog 27 0 = some (0, 1) := by kernel_rfl
theorem pl27_1 : tPlace Try.prog 27 1 = some (1, 1) := by kernel_rfl
theorem pl27_2 : tPlace Try.prog 27 2 = some (2, 1) := by kernel_rfl
theorem pl45_0 : tPlace Try.prog 45 0 = some (0, 1) := by kernel_rfl
theorem pl47_0 : tPlace Try.prog 47 0 = some (0, 1) := by kernel_rfl
theorem pl47_1 : tPlace Try.prog 47 1 = some (1, 1) := by kernel_rfl
theorem pl51_0 : tPlace Try.prog 51 0 = some (0, 1) := by kernel_rfl
theorem pl51_1 : tPlace Try.prog 51 1 = some (1, 1) := by kernel_rfl
theorem pl51_2 : tPlace Try.prog 51 2 = some (2, 1) := by kernel_rfl
theorem pl53_0 : tPlace Try.prog 53 0 = some (0, 1) := by kernel_rfl
theorem pl53_1 : tPlace Try.prog 53 1 = some (1, 1) := by kernel_rfl
theorem pl53_2 : tPlace Try.prog 53 2 = some (2, 3) := by kernel_rfl
theorem pl93_0 : tPlace Try.prog 93 0 = some (0, 1) := by kernel_rfl
theorem pl93_1 : tPlace Try.prog 93 1 = some (1, 1) := by kernel_rfl
theorem sz27 : tSz Try.prog 27 = some (true, 3) := by kernel_rfl
theorem vr27 : tVar Try.prog 27 = some (true, [.lit (.int .i64 0), .seq true [], .seq true []]) := by kernel_rfl
theorem vr47 : tVar Try.prog 47 = some (true, [.lit (.int .i64 0), .lit (.int .i64 0)]) := by kernel_rfl
theorem vr51 : tVar Try.prog 51 = some (true, [.lit (.int .i64 0), .lit (.int .i64 0), .seq true []]) := by kernel_rfl
theorem vr53 : tVar Try.prog 53 = some (true, [.lit (.int .i64 0), .lit (.int .i64 0), .lit (.int .i64 0), .lit (.int .i64 0), .seq true []]) := by kernel_rfl
theorem vr93 : tVar Try.prog 93 = some (true, [.lit (.int .i64 0), .lit (.int .i64 0)]) := by kernel_rfl
set_option maxHeartbeats 4000000 in
theorem c_bound_Batch (c d e : Bool) (x : Pl.Batch) (w : Pl.Way) : PCall Try.prog 36 [.agg (batchC c d x), .agg (wayC e w)] (iV (Pl.baB x w)) := by
  refine pcall_of_awp Try.func36 rfl (by simp [Try.ntmps36]) fun C hC => ?_
  refine awp_le (le_keep [0, 1]) ?_
  simp only [kp, argSl, Nat.reduceEqDiff, ↓reduceIte, reduceCtorEq, Nat.reduceAdd]
  refine awp_sr [] (by rw [hC]; rfl) fun k hk => ?_
  simp (maxSteps := 4000000) (disch := first | omega | (simp only [lens]; omega)) only [argSl, sm, ↓amb, mark_eq, ↓reduceIte, reduceCtorEq, Int.reduceBEq, Int.reduceBNe, Int.reduceToNat, Nat.reduceEqDiff, Nat.reduceAdd, Nat.reduceSub, Nat.reduceMul, Nat.reduceDiv, Nat.reduceMod, Nat.reduceLeDiff, Nat.reduceBEq, dx]
  (repeat (refine ⟨by first | omega | (simp; done) | assumption | (unfold maxLen; omega) | (simp [maxLen]; omega), ?_⟩)); refine hk _ ?_; clear hk; clear k
  refine awp_seq fun k1 h1 => ?_
  refine awp_block ?_
  refine awp_le (le_keep [2, 3, 4]) ?_
  simp only [kp, argSl, Nat.reduceEqDiff, ↓reduceIte, reduceCtorEq, Nat.reduceAdd]
  refine awp_sr [] (by rw [hC]; rfl) fun k hk => ?_
  simp (maxSteps := 4000000) (disch := first | omega | (simp only [lens]; omega)) only [argSl, sm, ↓amb, mark_eq, ↓reduceIte, reduceCtorEq, Int.reduceBEq, Int.reduceBNe, Int.reduceToNat, Nat.reduceEqDiff, Nat.reduceAdd, Nat.reduceSub, Nat.reduceMul, Nat.reduceDiv, Nat.reduceMod, Nat.reduceLeDiff, Nat.reduceBEq, sz27, en24, dx]
  (repeat (refine ⟨by first | omega | (simp; done) | assumption | (unfold maxLen; omega) | (simp [maxLen]; omega), ?_⟩))
  refine callK_p (c_wire_Right _ _ _) rfl ?_
  simp (maxSteps := 4000000) (disch := first | omega | (simp only [lens]; omega)) only [argSl, sm, ↓amb, mark_eq, ↓reduceIte, reduceCtorEq, Int.reduceBEq, Int.reduceBNe, Int.reduceToNat, Nat.reduceEqDiff, Nat.reduceAdd, Nat.reduceSub, Nat.reduceMul, Nat.reduceDiv, Nat.reduceMod, Nat.reduceLeDiff, Nat.reduceBEq, sz27, en24, dx]
  (repeat (refine ⟨by first | omega | (simp; done) | assumption | (unfold maxLen; omega) | (simp [maxLen]; omega), ?_⟩)); refine hk _ ?_; clear hk; clear k
  refine awp_cond rfl (fun hb => ?_) (fun hb => ?_)
  · -- branch 1
    try simp only [hbx] at hb
    refine awp_le (le_keep []) ?_
    simp only [kp, argSl, Nat.reduceEqDiff, ↓reduceIte, reduceCtorEq, Nat.reduceAdd]
    refine awp_sr [] (by rw [hC]; rfl) fun k hk => ?_
    simp (maxSteps := 4000000) (disch := first | omega | (simp only [lens]; omega)) only [argSl, sm, ↓amb, mark_eq, ↓reduceIte, reduceCtorEq, Int.reduceBEq, Int.reduceBNe, Int.reduceToNat, Nat.reduceEqDiff, Nat.reduceAdd, Nat.reduceSub, Nat.reduceMul, Nat.reduceDiv, Nat.reduceMod, Nat.reduceLeDiff, Nat.reduceBEq, dx]
    (repeat (refine ⟨by first | omega | (simp; done) | assumption | (unfold maxLen; omega) | (simp [maxLen]; omega), ?_⟩)); refine hk _ ?_; clear hk; clear k
    refine awp_ret ?_
    rw [show Pl.baB x w = 0 from if_pos hb]
    refine ret1 rfl rfl ?_
    exact .p (LeP.refl _)
  · -- branch 2
    try simp only [hbx] at hb
    refine awp_le (le_keep [2, 3, 4]) ?_
    simp only [kp, argSl, Nat.reduceEqDiff, ↓reduceIte, reduceCtorEq, Nat.reduceAdd]
    have hr := hb
    refine awp_sr [] (by rw [hC]; rfl) fun k hk => ?_
    simp (maxSteps := 4000000) (disch := first | omega | (simp only [lens]; omega)) only [argSl, sm, ↓amb, mark_eq, ↓reduceIte, reduceCtorEq, Int.reduceBEq, Int.reduceBNe, Int.reduceToNat, Nat.reduceEqDiff, Nat.reduceAdd, Nat.reduceSub, Nat.reduceMul, Nat.reduceDiv, Nat.reduceMod, Nat.reduceLeDiff, Nat.reduceBEq, fl27_0, sz3, dx]
    (repeat (refine ⟨by first | omega | (simp; done) | assumption | (unfold maxLen; omega) | (simp [maxLen]; omega), ?_⟩)); refine hk _ ?_; clear hk; clear k
    refine awp_cond rfl (fun hb => ?_) (fun hb => ?_)
    · -- branch 3
      try simp only [hbx] at hb
      refine awp_le (le_keep [2, 3]) ?_
      simp only [kp, argSl, Nat.reduceEqDiff, ↓reduceIte, reduceCtorEq, Nat.reduceAdd]
      refine awp_sr [] (by rw [hC]; rfl) fun k hk => ?_
      simp (maxSteps := 4000000) (disch := first | omega | (simp only [lens]; omega)) only [argSl, sm, ↓amb, mark_eq, ↓reduceIte, reduceCtorEq, Int.reduceBEq, Int.reduceBNe, Int.reduceToNat, Nat.reduceEqDiff, Nat.reduceAdd, Nat.reduceSub, Nat.reduceMul, Nat.reduceDiv, Nat.reduceMod, Nat.reduceLeDiff, Nat.reduceBEq, fl27_2, sz25, el25, fl53_2, sz51, en28, dx]
      (repeat (refine ⟨by first | omega | (simp; done) | assumption | (unfold maxLen; omega) | (simp [maxLen]; omega), ?_⟩))
      refine callK_p (c_bound_Phase _ _ w.plan) rfl ?_
      simp (maxSteps := 4000000) (disch := first | omega | (simp only [lens]; omega)) only [argSl, sm, ↓amb, mark_eq, ↓reduceIte, reduceCtorEq, Int.reduceBEq, Int.reduceBNe, Int.reduceToNat, Nat.reduceEqDiff, Nat.reduceAdd, Nat.reduceSub, Nat.reduceMul, Nat.reduceDiv, Nat.reduceMod, Nat.reduceLeDiff, Nat.reduceBEq, fl27_2, sz25, el25, fl53_2, sz51, en28, dx]
      (repeat (refine ⟨by first | omega | (simp; done) | assumption | (unfold maxLen; omega) | (simp [maxLen]; omega), ?_⟩)); refine hk _ ?_; clear hk; clear k
      refine awp_ret ?_
      rw [show Pl.baB x w = _ from (if_neg (fun q => q hr)).trans (if_pos hb)]
      refine ret1 rfl rfl ?_
      exact .p (LeP.refl _)
    · -- branch 4
      try simp only [hbx] at hb
      refine awp_le (le_keep [2, 3, 4]) ?_
      simp only [kp, argSl, Nat.reduceEqDiff, ↓reduceIte, reduceCtorEq, Nat.reduceAdd]
      have hk := hb
      refine awp_sr [] (by rw [hC]; rfl) fun k hk => ?_
      simp (maxSteps := 4000000) (disch := first | omega | (simp only [lens]; omega)) only [argSl, sm, ↓amb, mark_eq, ↓reduceIte, reduceCtorEq, Int.reduceBEq, Int.reduceBNe, Int.reduceToNat, Nat.reduceEqDiff, Nat.reduceAdd, Nat.reduceSub, Nat.reduceMul, Nat.reduceDiv, Nat.reduceMod, Nat.reduceLeDiff, Nat.reduceBEq, sz53, en32, dx]
      (repeat (refine ⟨by first | omega | (simp; done) | assumption | (unfold maxLen; omega) | (simp [maxLen]; omega), ?_⟩))
      refine callK_p (c_bound_Sort _ _ w) rfl ?_
      simp (maxSteps := 4000000) (disch := first | omega | (simp only [lens]; omega)) only [argSl, sm, ↓amb, mark_eq, ↓reduceIte, reduceCtorEq, Int.reduceBEq, Int.reduceBNe, Int.reduceToNat, Nat.reduceEqDiff, Nat.reduceAdd, Nat.reduceSub, Nat.reduceMul, Nat.reduceDiv, Nat.reduceMod, Nat.reduceLeDiff, Nat.reduceBEq, sz53, en32, dx]
      (repeat (refine ⟨by first | omega | (simp; done) | assumption | (unfold maxLen; omega) | (simp [maxLen]; omega), ?_⟩)); refine hk _ ?_; clear hk; clear k
      refine awp_cond rfl (fun hb => ?_) (fun hb => ?_)
      · -- branch 5
        try simp only [hbx] at hb
        refine awp_le (le_keep []) ?_
        simp only [kp, argSl, Nat.reduceEqDiff, ↓reduceIte, reduceCtorEq, Nat.reduceAdd]
        refine awp_sr [] (by rw [hC]; rfl) fun k hk => ?_
        simp (maxSteps := 4000000) (disch := first | omega | (simp only [lens]; omega)) only [argSl, sm, ↓amb, mark_eq, ↓reduceIte, reduceCtorEq, Int.reduceBEq, Int.reduceBNe, Int.reduceToNat, Nat.reduceEqDiff, Nat.reduceAdd, Nat.reduceSub, Nat.reduceMul, Nat.reduceDiv, Nat.reduceMod, Nat.reduceLeDiff, Nat.reduceBEq, dx]
        (repeat (refine ⟨by first | omega | (simp; done) | assumption | (unfold maxLen; omega) | (simp [maxLen]; omega), ?_⟩)); refine hk _ ?_; clear hk; clear k
        refine awp_ret ?_
        rw [show Pl.baB x w = _ from (if_neg (fun q => q hr)).trans ((if_neg hk).trans (if_pos hb))]
        refine ret1 rfl rfl ?_
        exact .p (LeP.refl _)
      · -- branch 6
        try simp only [hbx] at hb
        refine awp_skip ?_
        refine h1 _ ?_; clear h1; clear k1
        refine awp_le (le_keep [2, 3]) ?_
        simp only [kp, argSl, Nat.reduceEqDiff, ↓reduceIte, reduceCtorEq, Nat.reduceAdd]
        have hs := hb
        have q1 := Pl.soB_nn x.edges.length w
        have q2 := Pl.phB_nn x.edges.length w.plan
        refine awp_sd [] ⟨[0, 1, 3, 0, 15, 0, 32, 96, 0, 256, 1023, 2047, 4095], [1, 2, 3, 6, 7, 9], [], [], some []⟩ (by rw [hC]; rfl) (by kernel_rfl) (by kernel_rfl) fun k hk => ?_
        simp (maxSteps := 4000000) (disch := first | omega | (simp only [lens]; omega)) only [argSl, sm, ↓amb, mark_eq, ↓reduceIte, reduceCtorEq, Int.reduceBEq, Int.reduceBNe, Int.reduceToNat, Nat.reduceEqDiff, Nat.reduceAdd, Nat.reduceSub, Nat.reduceMul, Nat.reduceDiv, Nat.reduceMod, Nat.reduceLeDiff, Nat.reduceBEq, fl27_1, sz24, el24, sz53, en32, fl53_2, sz51, en28, dx]
        (repeat (refine ⟨by first | omega | (simp; done) | assumption | (unfold maxLen; omega) | (simp [maxLen]; omega), ?_⟩))
        refine callK_p (c_bound_Sort _ _ w) rfl ?_
        simp (maxSteps := 4000000) (disch := first | omega | (simp only [lens]; omega)) only [argSl, sm, ↓amb, mark_eq, ↓reduceIte, reduceCtorEq, Int.reduceBEq, Int.reduceBNe, Int.reduceToNat, Nat.reduceEqDiff, Nat.reduceAdd, Nat.reduceSub, Nat.reduceMul, Nat.reduceDiv, Nat.reduceMod, Nat.reduceLeDiff, Nat.reduceBEq, fl27_1, sz24, el24, sz53, en32, fl53_2, sz51, en28, dx]
        (repeat (refine ⟨by first | omega | (simp; done) | assumption | (unfold maxLen; omega) | (simp [maxLen]; omega), ?_⟩))
        refine callK_p (c_bound_Phase _ _ w.plan) rfl ?_
        simp (maxSteps := 4000000) (disch := first | omega | (simp only [lens]; omega)) only [argSl, sm, ↓amb, mark_eq, ↓reduceIte, reduceCtorEq, Int.reduceBEq, Int.reduceBNe, Int.reduceToNat, Nat.reduceEqDiff, Nat.reduceAdd, Nat.reduceSub, Nat.reduceMul, Nat.reduceDiv, Nat.reduceMod, Nat.reduceLeDiff, Nat.reduceBEq, fl27_1, sz24, el24, sz53, en32, fl53_2, sz51, en28, dx]
        (repeat (refine ⟨by first | omega | (simp; done) | assumption | (unfold maxLen; omega) | (simp [maxLen]; omega), ?_⟩)); refine hk _ ?_; clear hk; clear k
        refine awp_ret ?_
        rw [show Pl.baB x w = _ from (if_neg (fun q => q hr)).trans ((if_neg hk).trans (if_neg hs))]
        refine ret1 rfl rfl ?_
        exact .p (LeP.refl _)
set_option maxHeartbeats 4000000 in
theorem c_ref31_Batch (c d e : Bool) (x : Pl.Batch) (w : Pl.Way) : PCall Try.prog 37 [.agg (batchC c d x), .agg (wayC e w)] (iV (Pl.baB x w)) := by
  refine pcall_of_awp Try.func37 rfl (by simp [Try.ntmps37]) fun C hC => ?_
  refine awp_le (le_keep [0, 1]) ?_
  simp only [kp, argSl, Nat.reduceEqDiff, ↓reduceIte, reduceCtorEq, Nat.reduceAdd]
  refine awp_sr [] (by rw [hC]; rfl) fun k hk => ?_
  simp (maxSteps := 4000000) (disch := first | omega | (simp only [lens]; omega)) only [argSl, sm, ↓amb, mark_eq, ↓reduceIte, reduceCtorEq, Int.reduceBEq, Int.reduceBNe, Int.reduceToNat, Nat.reduceEqDiff, Nat.reduceAdd, Nat.reduceSub, Nat.reduceMul, Nat.reduceDiv, Nat.reduceMod, Nat.reduceLeDiff, Nat.reduceBEq, dx]
  (repeat (refine ⟨by first | omega | (simp; done) | assumption | (unfold maxLen; omega) | (simp [maxLen]; omega), ?_⟩)); refine hk _ ?_; clear hk; clear k
  refine awp_seq fun k1 h1 => ?_
  refine awp_le (le_keep [2, 3, 4]) ?_
  simp only [kp, argSl, Nat.reduceEqDiff, ↓reduceIte, reduceCtorEq, Nat.reduceAdd]
  refine awp_sr [] (by rw [hC]; rfl) fun k hk => ?_
  simp (maxSteps := 4000000) (disch := first | omega | (simp only [lens]; omega)) only [argSl, sm, ↓amb, mark_eq, ↓reduceIte, reduceCtorEq, Int.reduceBEq, Int.reduceBNe, Int.reduceToNat, Nat.reduceEqDiff, Nat.reduceAdd, Nat.reduceSub, Nat.reduceMul, Nat.reduceDiv, Nat.reduceMod, Nat.reduceLeDiff, Nat.reduceBEq, sz27, en25, dx]
  (repeat (refine ⟨by first | omega | (simp; done) | assumption | (unfold maxLen; omega) | (simp [maxLen]; omega), ?_⟩))
  refine callK_p (c_ref25_Right _ _ _) rfl ?_
  simp (maxSteps := 4000000) (disch := first | omega | (simp only [lens]; omega)) only [argSl, sm, ↓amb, mark_eq, ↓reduceIte, reduceCtorEq, Int.reduceBEq, Int.reduceBNe, Int.reduceToNat, Nat.reduceEqDiff, Nat.reduceAdd, Nat.reduceSub, Nat.reduceMul, Nat.reduceDiv, Nat.reduceMod, Nat.reduceLeDiff, Nat.reduceBEq, sz27, en25, dx]
  (repeat (refine ⟨by first | omega | (simp; done) | assumption | (unfold maxLen; omega) | (simp [maxLen]; omega), ?_⟩)); refine hk _ ?_; clear hk; clear k
  refine awp_cond rfl (fun hb => ?_) (fun hb => ?_)
  · -- branch 1
    try simp only [hbx] at hb
    refine awp_le (le_keep []) ?_
    simp only [kp, argSl, Nat.reduceEqDiff, ↓reduceIte, reduceCtorEq, Nat.reduceAdd]
    refine awp_sr [] (by rw [hC]; rfl) fun k hk => ?_
    simp (maxSteps := 4000000) (disch := first | omega | (simp only [lens]; omega)) only [argSl, sm, ↓amb, mark_eq, ↓reduceIte, reduceCtorEq, Int.reduceBEq, Int.reduceBNe, Int.reduceToNat, Nat.reduceEqDiff, Nat.reduceAdd, Nat.reduceSub, Nat.reduceMul, Nat.reduceDiv, Nat.reduceMod, Nat.reduceLeDiff, Nat.reduceBEq, dx]
    (repeat (refine ⟨by first | omega | (simp; done) | assumption | (unfold maxLen; omega) | (simp [maxLen]; omega), ?_⟩)); refine hk _ ?_; clear hk; clear k
    refine awp_ret ?_
    rw [show Pl.baB x w = 0 from if_pos hb]
    refine ret1 rfl rfl ?_
    exact .p (LeP.refl _)
  · -- branch 2
    try simp only [hbx] at hb
    refine awp_skip ?_
    refine h1 _ ?_; clear h1; clear k1
    refine awp_seq fun k2 h2 => ?_
    refine awp_le (le_keep [2, 3, 4]) ?_
    simp only [kp, argSl, Nat.reduceEqDiff, ↓reduceIte, reduceCtorEq, Nat.reduceAdd]
    have hr := hb
    refine awp_sr [] (by rw [hC]; rfl) fun k hk => ?_
    simp (maxSteps := 4000000) (disch := first | omega | (simp only [lens]; omega)) only [argSl, sm, ↓amb, mark_eq, ↓reduceIte, reduceCtorEq, Int.reduceBEq, Int.reduceBNe, Int.reduceToNat, Nat.reduceEqDiff, Nat.reduceAdd, Nat.reduceSub, Nat.reduceMul, Nat.reduceDiv, Nat.reduceMod, Nat.reduceLeDiff, Nat.reduceBEq, fl27_0, sz3, dx]
    (repeat (refine ⟨by first | omega | (simp; done) | assumption | (unfold maxLen; omega) | (simp [maxLen]; omega), ?_⟩)); refine hk _ ?_; clear hk; clear k
    refine awp_cond rfl (fun hb => ?_) (fun hb => ?_)
    · -- branch 3
      try simp only [hbx] at hb
      refine awp_le (le_keep [2, 3]) ?_
      simp only [kp, argSl, Nat.reduceEqDiff, ↓reduceIte, reduceCtorEq, Nat.reduceAdd]
      refine awp_sr [] (by rw [hC]; rfl) fun k hk => ?_
      simp (maxSteps := 4000000) (disch := first | omega | (simp only [lens]; omega)) only [argSl, sm, ↓amb, mark_eq, ↓reduceIte, reduceCtorEq, Int.reduceBEq, Int.reduceBNe, Int.reduceToNat, Nat.reduceEqDiff, Nat.reduceAdd, Nat.reduceSub, Nat.reduceMul, Nat.reduceDiv, Nat.reduceMod, Nat.reduceLeDiff, Nat.reduceBEq, fl27_2, sz25, el25, fl53_2, sz51, en29, dx]
      (repeat (refine ⟨by first | omega | (simp; done) | assumption | (unfold maxLen; omega) | (simp [maxLen]; omega), ?_⟩))
      refine callK_p (c_ref31_Phase _ _ w.plan) rfl ?_
      simp (maxSteps := 4000000) (disch := first | omega | (simp only [lens]; omega)) only [argSl, sm, ↓amb, mark_eq, ↓reduceIte, reduceCtorEq, Int.reduceBEq, Int.reduceBNe, Int.reduceToNat, Nat.reduceEqDiff, Nat.reduceAdd, Nat.reduceSub, Nat.reduceMul, Nat.reduceDiv, Nat.reduceMod, Nat.reduceLeDiff, Nat.reduceBEq, fl27_2, sz25, el25, fl53_2, sz51, en29, dx]
      (repeat (refine ⟨by first | omega | (simp; done) | assumption | (unfold maxLen; omega) | (simp [maxLen]; omega), ?_⟩)); refine hk _ ?_; clear hk; clear k
      refine awp_ret ?_
      rw [show Pl.baB x w = _ from (if_neg (fun q => q hr)).trans (if_pos hb)]
      refine ret1 rfl rfl ?_
      exact .p (LeP.refl _)
    · -- branch 4
      try simp only [hbx] at hb
      refine awp_skip ?_
      refine h2 _ ?_; clear h2; clear k2
      refine awp_seq fun k3 h3 => ?_
      refine awp_le (le_keep [2, 3, 4]) ?_
      simp only [kp, argSl, Nat.reduceEqDiff, ↓reduceIte, reduceCtorEq, Nat.reduceAdd]
      have hk := hb
      refine awp_sr [] (by rw [hC]; rfl) fun k hk => ?_
      simp (maxSteps := 4000000) (disch := first | omega | (simp only [lens]; omega)) only [argSl, sm, ↓amb, mark_eq, ↓reduceIte, reduceCtorEq, Int.reduceBEq, Int.reduceBNe, Int.reduceToNat, Nat.reduceEqDiff, Nat.reduceAdd, Nat.reduceSub, Nat.reduceMul, Nat.reduceDiv, Nat.reduceMod, Nat.reduceLeDiff, Nat.reduceBEq, sz53, en33, dx]
      (repeat (refine ⟨by first | omega | (simp; done) | assumption | (unfold maxLen; omega) | (simp [maxLen]; omega), ?_⟩))
      refine callK_p (c_ref31_Sort _ _ w) rfl ?_
      simp (maxSteps := 4000000) (disch := first | omega | (simp only [lens]; omega)) only [argSl, sm, ↓amb, mark_eq, ↓reduceIte, reduceCtorEq, Int.reduceBEq, Int.reduceBNe, Int.reduceToNat, Nat.reduceEqDiff, Nat.reduceAdd, Nat.reduceSub, Nat.reduceMul, Nat.reduceDiv, Nat.reduceMod, Nat.reduceLeDiff, Nat.reduceBEq, sz53, en33, dx]
      (repeat (refine ⟨by first | omega | (simp; done) | assumption | (unfold maxLen; omega) | (simp [maxLen]; omega), ?_⟩)); refine hk _ ?_; clear hk; clear k
      refine awp_cond rfl (fun hb => ?_) (fun hb => ?_)
      · -- branch 5
        try simp only [hbx] at hb
        refine awp_le (le_keep []) ?_
        simp only [kp, argSl, Nat.reduceEqDiff, ↓reduceIte, reduceCtorEq, Nat.reduceAdd]
        refine awp_sr [] (by rw [hC]; rfl) fun k hk => ?_
        simp (maxSteps := 4000000) (disch := first | omega | (simp only [lens]; omega)) only [argSl, sm, ↓amb, mark_eq, ↓reduceIte, reduceCtorEq, Int.reduceBEq, Int.reduceBNe, Int.reduceToNat, Nat.reduceEqDiff, Nat.reduceAdd, Nat.reduceSub, Nat.reduceMul, Nat.reduceDiv, Nat.reduceMod, Nat.reduceLeDiff, Nat.reduceBEq, dx]
        (repeat (refine ⟨by first | omega | (simp; done) | assumption | (unfold maxLen; omega) | (simp [maxLen]; omega), ?_⟩)); refine hk _ ?_; clear hk; clear k
        refine awp_ret ?_
        rw [show Pl.baB x w = _ from (if_neg (fun q => q hr)).trans ((if_neg hk).trans (if_pos hb))]
        refine ret1 rfl rfl ?_
        exact .p (LeP.refl _)
      · -- branch 6
        try simp only [hbx] at hb
        refine awp_skip ?_
        refine h3 _ ?_; clear h3; clear k3
        refine awp_le (le_keep [2, 3]) ?_
        simp only [kp, argSl, Nat.reduceEqDiff, ↓reduceIte, reduceCtorEq, Nat.reduceAdd]
        have hs := hb
        have q1 := Pl.soB_nn x.edges.length w
        have q2 := Pl.phB_nn x.edges.length w.plan
        refine awp_sd [] ⟨[0, 1, 3, 0, 15, 0, 32, 96, 0, 256, 1023, 2047, 4095], [1, 2, 3, 6, 7, 9], [], [], some []⟩ (by rw [hC]; rfl) (by kernel_rfl) (by kernel_rfl) fun k hk => ?_
        simp (maxSteps := 4000000) (disch := first | omega | (simp only [lens]; omega)) only [argSl, sm, ↓amb, mark_eq, ↓reduceIte, reduceCtorEq, Int.reduceBEq, Int.reduceBNe, Int.reduceToNat, Nat.reduceEqDiff, Nat.reduceAdd, Nat.reduceSub, Nat.reduceMul, Nat.reduceDiv, Nat.reduceMod, Nat.reduceLeDiff, Nat.reduceBEq, fl27_1, sz24, el24, sz53, en33, fl53_2, sz51, en29, dx]
        (repeat (refine ⟨by first | omega | (simp; done) | assumption | (unfold maxLen; omega) | (simp [maxLen]; omega), ?_⟩))
        refine callK_p (c_ref31_Sort _ _ w) rfl ?_
        simp (maxSteps := 4000000) (disch := first | omega | (simp only [lens]; omega)) only [argSl, sm, ↓amb, mark_eq, ↓reduceIte, reduceCtorEq, Int.reduceBEq, Int.reduceBNe, Int.reduceToNat, Nat.reduceEqDiff, Nat.reduceAdd, Nat.reduceSub, Nat.reduceMul, Nat.reduceDiv, Nat.reduceMod, Nat.reduceLeDiff, Nat.reduceBEq, fl27_1, sz24, el24, sz53, en33, fl53_2, sz51, en29, dx]
        (repeat (refine ⟨by first | omega | (simp; done) | assumption | (unfold maxLen; omega) | (simp [maxLen]; omega), ?_⟩))
        refine callK_p (c_ref31_Phase _ _ w.plan) rfl ?_
        simp (maxSteps := 4000000) (disch := first | omega | (simp only [lens]; omega)) only [argSl, sm, ↓amb, mark_eq, ↓reduceIte, reduceCtorEq, Int.reduceBEq, Int.reduceBNe, Int.reduceToNat, Nat.reduceEqDiff, Nat.reduceAdd, Nat.reduceSub, Nat.reduceMul, Nat.reduceDiv, Nat.reduceMod, Nat.reduceLeDiff, Nat.reduceBEq, fl27_1, sz24, el24, sz53, en33, fl53_2, sz51, en29, dx]
        (repeat (refine ⟨by first | omega | (simp; done) | assumption | (unfold maxLen; omega) | (simp [maxLen]; omega), ?_⟩)); refine hk _ ?_; clear hk; clear k
        refine awp_ret ?_
        rw [show Pl.baB x w = _ from (if_neg (fun q => q hr)).trans ((if_neg hk).trans (if_neg hs))]
        refine ret1 rfl rfl ?_
        exact .p (LeP.refl _)
set_option maxHeartbeats 4000000 in
theorem c_bound_Stream (c d e g : Bool) (l : List Pl.Batch) (w : Pl.Way) (hl : l.length ≤ 1000) : PCall Try.prog 38 [.seq c (l.map (batchC d e)), .agg (wayC g w)] (iV (Pl.stB l w)) := by
  refine pcall_of_awp Try.func38 rfl (by simp [Try.ntmps38]) fun C hC => ?_
  refine awp_le (le_keep [0, 1]) ?_
  simp only [kp, argSl, Nat.reduceEqDiff, ↓reduceIte, reduceCtorEq, Nat.reduceAdd]
  refine awp_sr [] (by rw [hC]; rfl) fun k hk => ?_
  simp (maxSteps := 4000000) (disch := first | omega | (simp only [lens]; omega)) only [argSl, sm, ↓amb, mark_eq, ↓reduceIte, reduceCtorEq, Int.reduceBEq, Int.reduceBNe, Int.reduceToNat, Nat.reduceEqDiff, Nat.reduceAdd, Nat.reduceSub, Nat.reduceMul, Nat.reduceDiv, Nat.reduceMod, Nat.reduceLeDiff, Nat.reduceBEq, dx]
  (repeat (refine ⟨by first | omega | (simp; done) | assumption | (unfold maxLen; omega) | (simp [maxLen]; omega), ?_⟩)); refine hk _ ?_; clear hk; clear k
  refine awp_seq fun k1 h1 => ?_
  refine awp_le (le_keep [0, 3, 4]) ?_
  simp only [kp, argSl, Nat.reduceEqDiff, ↓reduceIte, reduceCtorEq, Nat.reduceAdd]
  refine awp_sr [] (by rw [hC]; rfl) fun k hk => ?_
  simp (maxSteps := 4000000) (disch := first | omega | (simp only [lens]; omega)) only [argSl, sm, ↓amb, mark_eq, ↓reduceIte, reduceCtorEq, Int.reduceBEq, Int.reduceBNe, Int.reduceToNat, Nat.reduceEqDiff, Nat.reduceAdd, Nat.reduceSub, Nat.reduceMul, Nat.reduceDiv, Nat.reduceMod, Nat.reduceLeDiff, Nat.reduceBEq, el31, dx]
  (repeat (refine ⟨by first | omega | (simp; done) | assumption | (unfold maxLen; omega) | (simp [maxLen]; omega), ?_⟩)); refine hk _ ?_; clear hk; clear k
  refine awp_block ?_
  refine awp_loop (σ := Nat) (fun i => i ≤ l.length) (fun (i : Nat) => ⟨[(3, (.ptr 0 5 0 0)), (4, (.p (iV (Pl.stB (l.take i) w)))), (7, (.p (.seq c (l.map (batchC d e))))), (8, (.p (iV l.length))), (9, (.p (iV i)))], [(0, (.row 5 [[.p (iV w.bits), .p (iV w.block), .p (iV w.plan.grain), .p (iV w.plan.workers), .p (.seq g (w.plan.picks.map fun q => [iV q.1, iV q.2]))]]))], 1⟩) (fun i => l.length - i) 0 ?_ ?_ fun i hi => ?_
  · exact Nat.zero_le _
  · exact le_of [(0, _)] (by rfl) (by rfl) ⟨⟨_, rfl, .ptr rfl⟩, ⟨_, rfl, .p (.of_eq (by first | rfl | (simp only [PV.lit.injEq, Value.int.injEq, true_and]; omega)))⟩, ⟨_, rfl, .p (.of_eq (by first | rfl | (simp only [PV.lit.injEq, Value.int.injEq, true_and]; omega) | (simp; done) | (simp; omega)))⟩, ⟨_, rfl, .p (.of_eq (by first | rfl | (simp only [PV.lit.injEq, Value.int.injEq, true_and]; omega) | (simp; done) | (simp; omega)))⟩, ⟨_, rfl, .p (.of_eq (by first | rfl | (simp only [PV.lit.injEq, Value.int.injEq, true_and]; omega) | (simp; done) | (simp; omega)))⟩, trivial⟩ ⟨⟨_, rfl, _, rfl, .one (.cons (.p (.refl _)) (.cons (.p (.refl _)) (.cons (.p (.refl _)) (.cons (.p (.refl _)) (.cons (.p (.refl _)) (.nil))))))⟩, trivial⟩
  refine awp_le (le_keep [0, 3, 4, 7, 8, 9]) ?_
  simp only [kp, argSl, Nat.reduceEqDiff, ↓reduceIte, reduceCtorEq, Nat.reduceAdd]
  refine awp_sr [] (by rw [hC]; rfl) fun k hk => ?_
  simp (maxSteps := 4000000) (disch := first | omega | (simp only [lens]; omega)) only [argSl, sm, ↓amb, mark_eq, ↓reduceIte, reduceCtorEq, Int.reduceBEq, Int.reduceBNe, Int.reduceToNat, Nat.reduceEqDiff, Nat.reduceAdd, Nat.reduceSub, Nat.reduceMul, Nat.reduceDiv, Nat.reduceMod, Nat.reduceLeDiff, Nat.reduceBEq, dx]
  (repeat (refine ⟨by first | omega | (simp; done) | assumption | (unfold maxLen; omega) | (simp [maxLen]; omega), ?_⟩)); refine hk _ ?_; clear hk; clear k
  refine awp_seq fun k3 h3 => ?_
  refine awp_cond rfl (fun hb => ?_) (fun hb => ?_)
  · -- branch 1
    try simp only [hbx] at hb
    refine awp_skip ?_
    refine h3 _ ?_; clear h3; clear k3
    refine awp_seq fun k4 h4 => ?_
    refine awp_block ?_
    refine awp_le (le_keep [0, 3, 4, 7, 8, 9]) ?_
    simp only [kp, argSl, Nat.reduceEqDiff, ↓reduceIte, reduceCtorEq, Nat.reduceAdd]
    refine awp_sr [] (by rw [hC]; rfl) fun k hk => ?_
    simp (maxSteps := 4000000) (disch := first | omega | (simp only [lens]; omega)) only [argSl, sm, ↓amb, mark_eq, ↓reduceIte, reduceCtorEq, Int.reduceBEq, Int.reduceBNe, Int.reduceToNat, Nat.reduceEqDiff, Nat.reduceAdd, Nat.reduceSub, Nat.reduceMul, Nat.reduceDiv, Nat.reduceMod, Nat.reduceLeDiff, Nat.reduceBEq, el31, sz27, vr27, dx]
    (repeat (refine ⟨by first | omega | (simp; done) | assumption | (unfold maxLen; omega) | (simp [maxLen]; omega), ?_⟩)); refine hk _ ?_; clear hk; clear k
    have q1 := Pl.baB_nn (l.getD i default) w
    have q2 := Pl.stB_nn w (l.take i)
    have q3 := Pl.stB_take l w i (by omega)
    have q4 : (l.take i).length ≤ 1000 := by rw [List.length_take]; omega
    refine awp_region [] (by rw [hC]; rfl) fun k hk => ?_
    simp (maxSteps := 4000000) (disch := first | omega | (simp only [lens]; omega)) only [argSl, sm, ↓amb, mark_eq, ↓reduceIte, reduceCtorEq, Int.reduceBEq, Int.reduceBNe, Int.reduceToNat, Nat.reduceEqDiff, Nat.reduceAdd, Nat.reduceSub, Nat.reduceMul, Nat.reduceDiv, Nat.reduceMod, Nat.reduceLeDiff, Nat.reduceBEq, sz27, sz53, en36, dx]
    (repeat (refine ⟨by first | omega | (simp; done) | assumption | (unfold maxLen; omega) | (simp [maxLen]; omega), ?_⟩))
    refine callK_p (c_bound_Batch d e g _ w) rfl ?_
    simp (maxSteps := 4000000) (disch := first | omega | (simp only [lens]; omega)) only [argSl, sm, ↓amb, mark_eq, ↓reduceIte, reduceCtorEq, Int.reduceBEq, Int.reduceBNe, Int.reduceToNat, Nat.reduceEqDiff, Nat.reduceAdd, Nat.reduceSub, Nat.reduceMul, Nat.reduceDiv, Nat.reduceMod, Nat.reduceLeDiff, Nat.reduceBEq, sz27, sz53, en36, dx]
    (repeat (refine ⟨by first | omega | (simp; done) | assumption | (unfold maxLen; omega) | (simp [maxLen]; omega), ?_⟩)); refine hk _ ?_; clear hk; clear k
    refine h4 _ ?_; clear h4; clear k4
    refine awp_region [] (by rw [hC]; rfl) fun k hk => ?_
    simp (maxSteps := 4000000) (disch := first | omega | (simp only [lens]; omega)) only [argSl, sm, ↓amb, mark_eq, ↓reduceIte, reduceCtorEq, Int.reduceBEq, Int.reduceBNe, Int.reduceToNat, Nat.reduceEqDiff, Nat.reduceAdd, Nat.reduceSub, Nat.reduceMul, Nat.reduceDiv, Nat.reduceMod, Nat.reduceLeDiff, Nat.reduceBEq, dx]
    (repeat (refine ⟨by first | omega | (simp; done) | assumption | (unfold maxLen; omega) | (simp [maxLen]; omega), ?_⟩)); refine hk _ ?_; clear hk; clear k
    refine ⟨i + 1, by omega, le_of [(0, _)] (by rfl) (by rfl) ⟨⟨_, rfl, .ptr rfl⟩, ⟨_, rfl, .p (.of_eq (by first | rfl | (simp only [PV.lit.injEq, Value.int.injEq, true_and]; omega)))⟩, ⟨_, rfl, .p (.of_eq (by first | rfl | (simp only [PV.lit.injEq, Value.int.injEq, true_and]; omega) | (simp; done) | (simp; omega)))⟩, ⟨_, rfl, .p (.of_eq (by first | rfl | (simp only [PV.lit.injEq, Value.int.injEq, true_and]; omega) | (simp; done) | (simp; omega)))⟩, ⟨_, rfl, .p (.of_eq (by first | rfl | (simp only [PV.lit.injEq, Value.int.injEq, true_and]; omega) | (simp; done) | (simp; omega)))⟩, trivial⟩ ⟨⟨_, rfl, _, rfl, .one (.cons (.p (.refl _)) (.cons (.p (.refl _)) (.cons (.p (.refl _)) (.cons (.p (.refl _)) (.cons (.p (.refl _)) (.nil))))))⟩, trivial⟩, by omega⟩
  · -- branch 2
    try simp only [hbx] at hb
    refine awp_exit ((if_pos rfl).mpr ?_)
    refine h1 _ ?_; clear h3; clear k3; clear h1; clear k1
    refine awp_le (le_keep [4]) ?_
    simp only [kp, argSl, Nat.reduceEqDiff, ↓reduceIte, reduceCtorEq, Nat.reduceAdd]
    have htk : l.take i = l := List.take_of_length_le (by omega)
    rw [htk]
    refine awp_sr [] (by rw [hC]; rfl) fun k hk => ?_
    simp (maxSteps := 4000000) (disch := first | omega | (simp only [lens]; omega)) only [argSl, sm, ↓amb, mark_eq, ↓reduceIte, reduceCtorEq, Int.reduceBEq, Int.reduceBNe, Int.reduceToNat, Nat.reduceEqDiff, Nat.reduceAdd, Nat.reduceSub, Nat.reduceMul, Nat.reduceDiv, Nat.reduceMod, Nat.reduceLeDiff, Nat.reduceBEq, dx]
    (repeat (refine ⟨by first | omega | (simp; done) | assumption | (unfold maxLen; omega) | (simp [maxLen]; omega), ?_⟩)); refine hk _ ?_; clear hk; clear k
    refine awp_ret ?_
    refine ret1 rfl rfl ?_
    exact .p (LeP.refl _)
set_option maxHeartbeats 4000000 in
theorem c_ref31_Stream (c d e g : Bool) (l : List Pl.Batch) (w : Pl.Way) (hl : l.length ≤ 1000) : PCall Try.prog 39 [.seq c (l.map (batchC d e)), .agg (wayC g w)] (iV (Pl.stB l w)) := by
  refine pcall_of_awp Try.func39 rfl (by simp [Try.ntmps39]) fun C hC => ?_
  refine awp_le (le_keep [0, 1]) ?_
  simp only [kp, argSl, Nat.reduceEqDiff, ↓reduceIte, reduceCtorEq, Nat.reduceAdd]
  refine awp_sr [] (by rw [hC]; rfl) fun k hk => ?_
  simp (maxSteps := 4000000) (disch := first | omega | (simp only [lens]; omega)) only [argSl, sm, ↓amb, mark_eq, ↓reduceIte, reduceCtorEq, Int.reduceBEq, Int.reduceBNe, Int.reduceToNat, Nat.reduceEqDiff, Nat.reduceAdd, Nat.reduceSub, Nat.reduceMul, Nat.reduceDiv, Nat.reduceMod, Nat.reduceLeDiff, Nat.reduceBEq, dx]
  (repeat (refine ⟨by first | omega | (simp; done) | assumption | (unfold maxLen; omega) | (simp [maxLen]; omega), ?_⟩)); refine hk _ ?_; clear hk; clear k
  refine awp_le (le_keep [0, 3]) ?_
  simp only [kp, argSl, Nat.reduceEqDiff, ↓reduceIte, reduceCtorEq, Nat.reduceAdd]
  refine awp_sr [] (by rw [hC]; rfl) fun k hk => ?_
  simp (maxSteps := 4000000) (disch := first | omega | (simp only [lens]; omega)) only [argSl, sm, ↓amb, mark_eq, ↓reduceIte, reduceCtorEq, Int.reduceBEq, Int.reduceBNe, Int.reduceToNat, Nat.reduceEqDiff, Nat.reduceAdd, Nat.reduceSub, Nat.reduceMul, Nat.reduceDiv, Nat.reduceMod, Nat.reduceLeDiff, Nat.reduceBEq, dx]
  (repeat (refine ⟨by first | omega | (simp; done) | assumption | (unfold maxLen; omega) | (simp [maxLen]; omega), ?_⟩)); refine hk _ ?_; clear hk; clear k
  refine awp_seq fun k1 h1 => ?_
  refine awp_le (le_keep [0, 3, 4, 5]) ?_
  simp only [kp, argSl, Nat.reduceEqDiff, ↓reduceIte, reduceCtorEq, Nat.reduceAdd]
  refine awp_sr [] (by rw [hC]; rfl) fun k hk => ?_
  simp (maxSteps := 4000000) (disch := first | omega | (simp only [lens]; omega)) only [argSl, sm, ↓amb, mark_eq, ↓reduceIte, reduceCtorEq, Int.reduceBEq, Int.reduceBNe, Int.reduceToNat, Nat.reduceEqDiff, Nat.reduceAdd, Nat.reduceSub, Nat.reduceMul, Nat.reduceDiv, Nat.reduceMod, Nat.reduceLeDiff, Nat.reduceBEq, dx]
  (repeat (refine ⟨by first | omega | (simp; done) | assumption | (unfold maxLen; omega) | (simp [maxLen]; omega), ?_⟩)); refine hk _ ?_; clear hk; clear k
  refine awp_block ?_
  refine awp_loop (σ := Nat) (fun i => i ≤ l.length) (fun (i : Nat) => ⟨[(0, (.p (.seq c (l.map (batchC d e))))), (3, (.ptr 0 5 0 0)), (5, (.p (iV (Pl.stB (l.take i) w)))), (6, (.p (iV i)))], [(0, (.row 5 [[.p (iV w.bits), .p (iV w.block), .p (iV w.plan.grain), .p (iV w.plan.workers), .p (.seq g (w.plan.picks.map fun q => [iV q.1, iV q.2]))]]))], 1⟩) (fun i => l.length - i) 0 ?_ ?_ fun i hi => ?_
  · exact Nat.zero_le _
  · exact le_of [(0, _)] (by rfl) (by rfl) ⟨⟨_, rfl, .p (.of_eq (by first | rfl | (simp only [PV.lit.injEq, Value.int.injEq, true_and]; omega) | (simp; done) | (simp; omega)))⟩, ⟨_, rfl, .ptr rfl⟩, ⟨_, rfl, .p (.of_eq (by first | rfl | (simp only [PV.lit.injEq, Value.int.injEq, true_and]; omega)))⟩, ⟨_, rfl, .p (.of_eq (by first | rfl | (simp only [PV.lit.injEq, Value.int.injEq, true_and]; omega) | (simp; done) | (simp; omega)))⟩, trivial⟩ ⟨⟨_, rfl, _, rfl, .one (.cons (.p (.refl _)) (.cons (.p (.refl _)) (.cons (.p (.refl _)) (.cons (.p (.refl _)) (.cons (.p (.refl _)) (.nil))))))⟩, trivial⟩
  refine awp_seq fun k3 h3 => ?_
  refine awp_le (le_keep [0, 3, 4, 5, 6]) ?_
  simp only [kp, argSl, Nat.reduceEqDiff, ↓reduceIte, reduceCtorEq, Nat.reduceAdd]
  refine awp_sr [] (by rw [hC]; rfl) fun k hk => ?_
  simp (maxSteps := 4000000) (disch := first | omega | (simp only [lens]; omega)) only [argSl, sm, ↓amb, mark_eq, ↓reduceIte, reduceCtorEq, Int.reduceBEq, Int.reduceBNe, Int.reduceToNat, Nat.reduceEqDiff, Nat.reduceAdd, Nat.reduceSub, Nat.reduceMul, Nat.reduceDiv, Nat.reduceMod, Nat.reduceLeDiff, Nat.reduceBEq, el31, dx]
  (repeat (refine ⟨by first | omega | (simp; done) | assumption | (unfold maxLen; omega) | (simp [maxLen]; omega), ?_⟩)); refine hk _ ?_; clear hk; clear k
  refine awp_cond rfl (fun hb => ?_) (fun hb => ?_)
  · -- branch 1
    try simp only [hbx] at hb
    refine awp_skip ?_
    refine h3 _ ?_; clear h3; clear k3
    refine awp_seq fun k4 h4 => ?_
    refine awp_block ?_
    have q1 := Pl.baB_nn (l.getD i default) w
    have q2 := Pl.stB_nn w (l.take i)
    have q3 := Pl.stB_take l w i (by omega)
    have q4 : (l.take i).length ≤ 1000 := by rw [List.length_take]; omega
    refine awp_draw [] ⟨[0, 0, 0, 6, 14, 0, 62, 127, 255], [4, 5], [], [], some []⟩ (by rw [hC]; rfl) (by kernel_rfl) (by kernel_rfl) fun k hk => ?_
    simp (maxSteps := 4000000) (disch := first | omega | (simp only [lens]; omega)) only [argSl, sm, ↓amb, mark_eq, ↓reduceIte, reduceCtorEq, Int.reduceBEq, Int.reduceBNe, Int.reduceToNat, Nat.reduceEqDiff, Nat.reduceAdd, Nat.reduceSub, Nat.reduceMul, Nat.reduceDiv, Nat.reduceMod, Nat.reduceLeDiff, Nat.reduceBEq, el31, sz27, sz53, en37, dx]
    (repeat (refine ⟨by first | omega | (simp; done) | assumption | (unfold maxLen; omega) | (simp [maxLen]; omega), ?_⟩))
    refine callK_p (c_ref31_Batch d e g _ w) rfl ?_
    simp (maxSteps := 4000000) (disch := first | omega | (simp only [lens]; omega)) only [argSl, sm, ↓amb, mark_eq, ↓reduceIte, reduceCtorEq, Int.reduceBEq, Int.reduceBNe, Int.reduceToNat, Nat.reduceEqDiff, Nat.reduceAdd, Nat.reduceSub, Nat.reduceMul, Nat.reduceDiv, Nat.reduceMod, Nat.reduceLeDiff, Nat.reduceBEq, el31, sz27, sz53, en37, dx]
    (repeat (refine ⟨by first | omega | (simp; done) | assumption | (unfold maxLen; omega) | (simp [maxLen]; omega), ?_⟩)); refine hk _ ?_; clear hk; clear k
    refine h4 _ ?_; clear h4; clear k4
    refine awp_region [] (by rw [hC]; rfl) fun k hk => ?_
    simp (maxSteps := 4000000) (disch := first | omega | (simp only [lens]; omega)) only [argSl, sm, ↓amb, mark_eq, ↓reduceIte, reduceCtorEq, Int.reduceBEq, Int.reduceBNe, Int.reduceToNat, Nat.reduceEqDiff, Nat.reduceAdd, Nat.reduceSub, Nat.reduceMul, Nat.reduceDiv, Nat.reduceMod, Nat.reduceLeDiff, Nat.reduceBEq, dx]
    (repeat (refine ⟨by first | omega | (simp; done) | assumption | (unfold maxLen; omega) | (simp [maxLen]; omega), ?_⟩)); refine hk _ ?_; clear hk; clear k
    refine ⟨i + 1, by omega, le_of [(0, _)] (by rfl) (by rfl) ⟨⟨_, rfl, .p (.of_eq (by first | rfl | (simp only [PV.lit.injEq, Value.int.injEq, true_and]; omega) | (simp; done) | (simp; omega)))⟩, ⟨_, rfl, .ptr rfl⟩, ⟨_, rfl, .p (.of_eq (by first | rfl | (simp only [PV.lit.injEq, Value.int.injEq, true_and]; omega)))⟩, ⟨_, rfl, .p (.of_eq (by first | rfl | (simp only [PV.lit.injEq, Value.int.injEq, true_and]; omega) | (simp; done) | (simp; omega)))⟩, trivial⟩ ⟨⟨_, rfl, _, rfl, .one (.cons (.p (.refl _)) (.cons (.p (.refl _)) (.cons (.p (.refl _)) (.cons (.p (.refl _)) (.cons (.p (.refl _)) (.nil))))))⟩, trivial⟩, by omega⟩
  · -- branch 2
    try simp only [hbx] at hb
    refine awp_exit ((if_pos rfl).mpr ?_)
    refine h1 _ ?_; clear h3; clear k3; clear h1; clear k1
    refine awp_le (le_keep [5]) ?_
    simp only [kp, argSl, Nat.reduceEqDiff, ↓reduceIte, reduceCtorEq, Nat.reduceAdd]
    have htk : l.take i = l := List.take_of_length_le (by omega)
    rw [htk]
    refine awp_sr [] (by rw [hC]; rfl) fun k hk => ?_
    simp (maxSteps := 4000000) (disch := first | omega | (simp only [lens]; omega)) only [argSl, sm, ↓amb, mark_eq, ↓reduceIte, reduceCtorEq, Int.reduceBEq, Int.reduceBNe, Int.reduceToNat, Nat.reduceEqDiff, Nat.reduceAdd, Nat.reduceSub, Nat.reduceMul, Nat.reduceDiv, Nat.reduceMod, Nat.reduceLeDiff, Nat.reduceBEq, dx]
    (repeat (refine ⟨by first | omega | (simp; done) | assumption | (unfold maxLen; omega) | (simp [maxLen]; omega), ?_⟩)); refine hk _ ?_; clear hk; clear k
    refine awp_ret ?_
    refine ret1 rfl rfl ?_
    exact .p (LeP.refl _)
set_option maxHeartbeats 4000000 in
theorem c_law31_alive : PCall Try.prog 27 [] (bV true) := by
  refine pcall_of_awp Try.func27 rfl (by simp [Try.ntmps27]) fun C hC => ?_
  have a1 := c_bound_Phase true 3 (⟨1, 2, []⟩ : Pl.Plan)
  rw [show Pl.phB 3 (⟨1, 2, []⟩ : Pl.Plan) = 12 by decide +kernel] at a1
  have a2 := c_bound_Least true 3 (⟨1, 2, []⟩ : Pl.Plan)
  rw [show Pl.leB 3 (⟨1, 2, []⟩ : Pl.Plan) = 5 by decide +kernel] at a2
  have a3 := c_bound_Scan true 3 2 (⟨1, 2, []⟩ : Pl.Plan)
  rw [show Pl.scB 3 2 (⟨1, 2, []⟩ : Pl.Plan) = 16 by decide +kernel] at a3
  have a4 := c_bound_Sort true 3 (⟨8, 2, (⟨1, 2, []⟩ : Pl.Plan)⟩ : Pl.Way)
  rw [show Pl.soB 3 (⟨8, 2, (⟨1, 2, []⟩ : Pl.Plan)⟩ : Pl.Way) = 92 by decide +kernel] at a4
  have a5 := c_bound_Batch true true true (⟨1, [⟨1, 0⟩, ⟨0, 2⟩, ⟨1, 2⟩], []⟩ : Pl.Batch) (⟨8, 2, (⟨1, 2, []⟩ : Pl.Plan)⟩ : Pl.Way)
  rw [show Pl.baB (⟨1, [⟨1, 0⟩, ⟨0, 2⟩, ⟨1, 2⟩], []⟩ : Pl.Batch) (⟨8, 2, (⟨1, 2, []⟩ : Pl.Plan)⟩ : Pl.Way) = 104 by decide +kernel] at a5
  have a6 := c_bound_Batch true true true (⟨3, [], [⟨4, 0, 0⟩]⟩ : Pl.Batch) (⟨8, 2, (⟨1, 2, []⟩ : Pl.Plan)⟩ : Pl.Way)
  rw [show Pl.baB (⟨3, [], [⟨4, 0, 0⟩]⟩ : Pl.Batch) (⟨8, 2, (⟨1, 2, []⟩ : Pl.Plan)⟩ : Pl.Way) = 4 by decide +kernel] at a6
  have a7 := c_bound_Stream true true true true [(⟨1, [⟨1, 0⟩, ⟨0, 2⟩, ⟨1, 2⟩], []⟩ : Pl.Batch), (⟨3, [], [⟨4, 0, 0⟩]⟩ : Pl.Batch), (⟨7, [], []⟩ : Pl.Batch)] (⟨8, 2, (⟨1, 2, []⟩ : Pl.Plan)⟩ : Pl.Way) (by decide)
  rw [show Pl.stB [(⟨1, [⟨1, 0⟩, ⟨0, 2⟩, ⟨1, 2⟩], []⟩ : Pl.Batch), (⟨3, [], [⟨4, 0, 0⟩]⟩ : Pl.Batch), (⟨7, [], []⟩ : Pl.Batch)] (⟨8, 2, (⟨1, 2, []⟩ : Pl.Plan)⟩ : Pl.Way) = 108 by decide +kernel] at a7
  have a8 := c_bound_Phase true 1001 (⟨1, 2, []⟩ : Pl.Plan)
  rw [show Pl.phB 1001 (⟨1, 2, []⟩ : Pl.Plan) = 0 by decide +kernel] at a8
  have a9 := c_bound_Scan true 3 0 (⟨1, 2, []⟩ : Pl.Plan)
  rw [show Pl.scB 3 0 (⟨1, 2, []⟩ : Pl.Plan) = 0 by decide +kernel] at a9
  have a10 := c_bound_Sort true 3 ⟨17, 2, (⟨1, 2, []⟩ : Pl.Plan)⟩
  rw [show Pl.soB 3 ⟨17, 2, (⟨1, 2, []⟩ : Pl.Plan)⟩ = 0 by decide +kernel] at a10
  have a11 := c_bound_Phase true 2 ⟨1, 3, [(1, 1)]⟩
  rw [show Pl.phB 2 ⟨1, 3, [(1, 1)]⟩ = 13 by decide +kernel] at a11
  refine awp_sr [] (by rw [hC]; rfl) fun k hk => ?_
  simp (maxSteps := 4000000) (disch := first | omega | (simp only [lens]; omega)) only [argSl, sm, ↓amb, mark_eq, ↓reduceIte, reduceCtorEq, Int.reduceBEq, Int.reduceBNe, Int.reduceToNat, Nat.reduceEqDiff, Nat.reduceAdd, Nat.reduceSub, Nat.reduceMul, Nat.reduceDiv, Nat.reduceMod, Nat.reduceLeDiff, Nat.reduceBEq, dx]
  (repeat (refine ⟨by first | omega | (simp; done) | assumption | (unfold maxLen; omega) | (simp [maxLen]; omega), ?_⟩)); refine hk _ ?_; clear hk; clear k
  refine awp_sr [] (by rw [hC]; rfl) fun k hk => ?_
  simp (maxSteps := 4000000) (disch := first | omega | (simp only [lens]; omega)) only [argSl, sm, ↓amb, mark_eq, ↓reduceIte, reduceCtorEq, Int.reduceBEq, Int.reduceBNe, Int.reduceToNat, Nat.reduceEqDiff, Nat.reduceAdd, Nat.reduceSub, Nat.reduceMul, Nat.reduceDiv, Nat.reduceMod, Nat.reduceLeDiff, Nat.reduceBEq, vr51, bt51, pl51_0, pl51_1, sz51, dx]
  (repeat (refine ⟨by first | omega | (simp; done) | assumption | (unfold maxLen; omega) | (simp [maxLen]; omega), ?_⟩)); refine hk _ ?_; clear hk; clear k
  refine awp_sr [] (by rw [hC]; rfl) fun k hk => ?_
  simp (maxSteps := 4000000) (disch := first | omega | (simp only [lens]; omega)) only [argSl, sm, ↓amb, mark_eq, ↓reduceIte, reduceCtorEq, Int.reduceBEq, Int.reduceBNe, Int.reduceToNat, Nat.reduceEqDiff, Nat.reduceAdd, Nat.reduceSub, Nat.reduceMul, Nat.reduceDiv, Nat.reduceMod, Nat.reduceLeDiff, Nat.reduceBEq, sz51, vr53, bt53, pl53_0, pl53_1, pl53_2, sz53, dx]
  (repeat (refine ⟨by first | omega | (simp; done) | assumption | (unfold maxLen; omega) | (simp [maxLen]; omega), ?_⟩)); refine hk _ ?_; clear hk; clear k
  refine awp_sr [] (by rw [hC]; rfl) fun k hk => ?_
  simp (maxSteps := 4000000) (disch := first | omega | (simp only [lens]; omega)) only [argSl, sm, ↓amb, mark_eq, ↓reduceIte, reduceCtorEq, Int.reduceBEq, Int.reduceBNe, Int.reduceToNat, Nat.reduceEqDiff, Nat.reduceAdd, Nat.reduceSub, Nat.reduceMul, Nat.reduceDiv, Nat.reduceMod, Nat.reduceLeDiff, Nat.reduceBEq, vr47, bt47, pl47_0, pl47_1, el24, vr27, bt27, pl27_0, pl27_1, vr45, bt45, pl45_0, el25, pl27_2, el31, dx]
  (repeat (refine ⟨by first | omega | (simp; done) | assumption | (unfold maxLen; omega) | (simp [maxLen]; omega), ?_⟩)); refine hk _ ?_; clear hk; clear k
  refine awp_sdg [] ⟨[0, 1, 3, 7, 15, 31, 63, 127, 255, 511, 1023, 2047, 4095, 8191, 16383, 32767, 65535, 131071, 262143, 524287, 1048575, 2097151, 524287, 8388607, 16777215, 33554431, 67108863, 134217727, 268435455, 536870911, 134217727, 2147483647, 4294967295, 8589934591, 17179869183, 34359738367, 34359738367, 137438953471, 274877906943, 549755813887, 1099511627775, 2199023255551, 4398046511103, 8796093022207, 17592186044415, 35184372088831, 70368744177663, 140737488355327, 281474976710655, 562949953421311, 1125899906842623, 2251799813685247, 4503599627370495, 9007199254740991, 18014398509481983, 36028797018963967, 72057594037927935, 144115188075855871, 288230376151711743, 576460752303423487, 1152921504606846975, 2305843009213693951, 4611686018427387903, 9223372036854775807], [0, 4, 9, 14, 21, 22, 29, 30, 36, 41, 46, 51], [], [(1, 4), (1, 9), (5, 9), (1, 14), (5, 14), (10, 14), (1, 21), (5, 21), (10, 21), (15, 21), (1, 22), (5, 22), (10, 22), (15, 22), (1, 29), (5, 29), (10, 29), (15, 29), (23, 29), (1, 30), (5, 30), (10, 30), (15, 30), (23, 30), (1, 36), (5, 36), (10, 36), (15, 36), (23, 36), (31, 36), (1, 41), (5, 41), (10, 41), (15, 41), (23, 41), (31, 41), (37, 41), (1, 46), (5, 46), (10, 46), (15, 46), (23, 46), (31, 46), (37, 46), (42, 46), (1, 51), (5, 51), (10, 51), (15, 51), (23, 51), (31, 51), (37, 51), (42, 51), (47, 51)], some []⟩ (by rw [hC]; rfl) (by kernel_rfl) (by kernel_rfl) fun gd hgd k hk => ?_
  have g3 : gd 3 = some 20 := by rw [hgd]; rfl
  have g8 : gd 8 = some 25 := by rw [hgd]; rfl
  have g13 : gd 13 = some 30 := by rw [hgd]; rfl
  have g18 : gd 18 = some 35 := by rw [hgd]; rfl
  have g26 : gd 26 = some 43 := by rw [hgd]; rfl
  have g34 : gd 34 = some 51 := by rw [hgd]; rfl
  have g40 : gd 40 = some 57 := by rw [hgd]; rfl
  have g45 : gd 45 = some 62 := by rw [hgd]; rfl
  have g50 : gd 50 = some 67 := by rw [hgd]; rfl
  have g56 : gd 56 = some 73 := by rw [hgd]; rfl
  clear hgd
  simp (maxSteps := 4000000) (disch := first | omega | (simp only [lens]; omega)) only [argSl, sm, ↓amb, mark_eq, ↓reduceIte, reduceCtorEq, Int.reduceBEq, Int.reduceBNe, Int.reduceToNat, Nat.reduceEqDiff, Nat.reduceAdd, Nat.reduceSub, Nat.reduceMul, Nat.reduceDiv, Nat.reduceMod, Nat.reduceLeDiff, Nat.reduceBEq, sz51, en28, en34, en30, sz53, en32, el31, sz27, en36, en38, vr53, bt53, pl53_0, pl53_1, pl53_2, vr93, bt93, pl93_0, pl93_1, el49, vr51, bt51, pl51_0, pl51_1, pl51_2, g3, g8, g13, g18, g26, g34, g40, g45, g50, g56, dx]
  (repeat (refine ⟨by first | omega | (simp; done) | assumption | (unfold maxLen; omega) | (simp [maxLen]; omega), ?_⟩))
  refine callK_p (a1) rfl ?_
  simp (maxSteps := 4000000) (disch := first | omega | (simp only [lens]; omega)) only [argSl, sm, ↓amb, mark_eq, ↓reduceIte, reduceCtorEq, Int.reduceBEq, Int.reduceBNe, Int.reduceToNat, Nat.reduceEqDiff, Nat.reduceAdd, Nat.reduceSub, Nat.reduceMul, Nat.reduceDiv, Nat.reduceMod, Nat.reduceLeDiff, Nat.reduceBEq, sz51, en28, en34, en30, sz53, en32, el31, sz27, en36, en38, vr53, bt53, pl53_0, pl53_1, pl53_2, vr93, bt93, pl93_0, pl93_1, el49, vr51, bt51, pl51_0, pl51_1, pl51_2, g3, g8, g13, g18, g26, g34, g40, g45, g50, g56, dx]
  (repeat (refine ⟨by first | omega | (simp; done) | assumption | (unfold maxLen; omega) | (simp [maxLen]; omega), ?_⟩))
  refine callK_p (a2) rfl ?_
  simp (maxSteps := 4000000) (disch := first | omega | (simp only [lens]; omega)) only [argSl, sm, ↓amb, mark_eq, ↓reduceIte, reduceCtorEq, Int.reduceBEq, Int.reduceBNe, Int.reduceToNat, Nat.reduceEqDiff, Nat.reduceAdd, Nat.reduceSub, Nat.reduceMul, Nat.reduceDiv, Nat.reduceMod, Nat.reduceLeDiff, Nat.reduceBEq, sz51, en28, en34, en30, sz53, en32, el31, sz27, en36, en38, vr53, bt53, pl53_0, pl53_1, pl53_2, vr93, bt93, pl93_0, pl93_1, el49, vr51, bt51, pl51_0, pl51_1, pl51_2, g3, g8, g13, g18, g26, g34, g40, g45, g50, g56, dx]
  (repeat (refine ⟨by first | omega | (simp; done) | assumption | (unfold maxLen; omega) | (simp [maxLen]; omega), ?_⟩))
  refine callK_p (a3) rfl ?_
  simp (maxSteps := 4000000) (disch := first | omega | (simp only [lens]; omega)) only [argSl, sm, ↓amb, mark_eq, ↓reduceIte, reduceCtorEq, Int.reduceBEq, Int.reduceBNe, Int.reduceToNat, Nat.reduceEqDiff, Nat.reduceAdd, Nat.reduceSub, Nat.reduceMul, Nat.reduceDiv, Nat.reduceMod, Nat.reduceLeDiff, Nat.reduceBEq, sz51, en28, en34, en30, sz53, en32, el31, sz27, en36, en38, vr53, bt53, pl53_0, pl53_1, pl53_2, vr93, bt93, pl93_0, pl93_1, el49, vr51, bt51, pl51_0, pl51_1, pl51_2, g3, g8, g13, g18, g26, g34, g40, g45, g50, g56, dx]
  (repeat (refine ⟨by first | omega | (simp; done) | assumption | (unfold maxLen; omega) | (simp [maxLen]; omega), ?_⟩))
  refine callK_p (a4) rfl ?_
  simp (maxSteps := 4000000) (disch := first | omega | (simp only [lens]; omega)) only [argSl, sm, ↓amb, mark_eq, ↓reduceIte, reduceCtorEq, Int.reduceBEq, Int.reduceBNe, Int.reduceToNat, Nat.reduceEqDiff, Nat.reduceAdd, Nat.reduceSub, Nat.reduceMul, Nat.reduceDiv, Nat.reduceMod, Nat.reduceLeDiff, Nat.reduceBEq, sz51, en28, en34, en30, sz53, en32, el31, sz27, en36, en38, vr53, bt53, pl53_0, pl53_1, pl53_2, vr93, bt93, pl93_0, pl93_1, el49, vr51, bt51, pl51_0, pl51_1, pl51_2, g3, g8, g13, g18, g26, g34, g40, g45, g50, g56, dx]
  (repeat (refine ⟨by first | omega | (simp; done) | assumption | (unfold maxLen; omega) | (simp [maxLen]; omega), ?_⟩))
  refine callK_p (a5) rfl ?_
  simp (maxSteps := 4000000) (disch := first | omega | (simp only [lens]; omega)) only [argSl, sm, ↓amb, mark_eq, ↓reduceIte, reduceCtorEq, Int.reduceBEq, Int.reduceBNe, Int.reduceToNat, Nat.reduceEqDiff, Nat.reduceAdd, Nat.reduceSub, Nat.reduceMul, Nat.reduceDiv, Nat.reduceMod, Nat.reduceLeDiff, Nat.reduceBEq, sz51, en28, en34, en30, sz53, en32, el31, sz27, en36, en38, vr53, bt53, pl53_0, pl53_1, pl53_2, vr93, bt93, pl93_0, pl93_1, el49, vr51, bt51, pl51_0, pl51_1, pl51_2, g3, g8, g13, g18, g26, g34, g40, g45, g50, g56, dx]
  (repeat (refine ⟨by first | omega | (simp; done) | assumption | (unfold maxLen; omega) | (simp [maxLen]; omega), ?_⟩))
  refine callK_p (a6) rfl ?_
  simp (maxSteps := 4000000) (disch := first | omega | (simp only [lens]; omega)) only [argSl, sm, ↓amb, mark_eq, ↓reduceIte, reduceCtorEq, Int.reduceBEq, Int.reduceBNe, Int.reduceToNat, Nat.reduceEqDiff, Nat.reduceAdd, Nat.reduceSub, Nat.reduceMul, Nat.reduceDiv, Nat.reduceMod, Nat.reduceLeDiff, Nat.reduceBEq, sz51, en28, en34, en30, sz53, en32, el31, sz27, en36, en38, vr53, bt53, pl53_0, pl53_1, pl53_2, vr93, bt93, pl93_0, pl93_1, el49, vr51, bt51, pl51_0, pl51_1, pl51_2, g3, g8, g13, g18, g26, g34, g40, g45, g50, g56, dx]
  (repeat (refine ⟨by first | omega | (simp; done) | assumption | (unfold maxLen; omega) | (simp [maxLen]; omega), ?_⟩))
  refine callK_p (a7) rfl ?_
  simp (maxSteps := 4000000) (disch := first | omega | (simp only [lens]; omega)) only [argSl, sm, ↓amb, mark_eq, ↓reduceIte, reduceCtorEq, Int.reduceBEq, Int.reduceBNe, Int.reduceToNat, Nat.reduceEqDiff, Nat.reduceAdd, Nat.reduceSub, Nat.reduceMul, Nat.reduceDiv, Nat.reduceMod, Nat.reduceLeDiff, Nat.reduceBEq, sz51, en28, en34, en30, sz53, en32, el31, sz27, en36, en38, vr53, bt53, pl53_0, pl53_1, pl53_2, vr93, bt93, pl93_0, pl93_1, el49, vr51, bt51, pl51_0, pl51_1, pl51_2, g3, g8, g13, g18, g26, g34, g40, g45, g50, g56, dx]
  (repeat (refine ⟨by first | omega | (simp; done) | assumption | (unfold maxLen; omega) | (simp [maxLen]; omega), ?_⟩))
  refine callK_p (a8) rfl ?_
  simp (maxSteps := 4000000) (disch := first | omega | (simp only [lens]; omega)) only [argSl, sm, ↓amb, mark_eq, ↓reduceIte, reduceCtorEq, Int.reduceBEq, Int.reduceBNe, Int.reduceToNat, Nat.reduceEqDiff, Nat.reduceAdd, Nat.reduceSub, Nat.reduceMul, Nat.reduceDiv, Nat.reduceMod, Nat.reduceLeDiff, Nat.reduceBEq, sz51, en28, en34, en30, sz53, en32, el31, sz27, en36, en38, vr53, bt53, pl53_0, pl53_1, pl53_2, vr93, bt93, pl93_0, pl93_1, el49, vr51, bt51, pl51_0, pl51_1, pl51_2, g3, g8, g13, g18, g26, g34, g40, g45, g50, g56, dx]
  (repeat (refine ⟨by first | omega | (simp; done) | assumption | (unfold maxLen; omega) | (simp [maxLen]; omega), ?_⟩))
  refine callK_p (a9) rfl ?_
  simp (maxSteps := 4000000) (disch := first | omega | (simp only [lens]; omega)) only [argSl, sm, ↓amb, mark_eq, ↓reduceIte, reduceCtorEq, Int.reduceBEq, Int.reduceBNe, Int.reduceToNat, Nat.reduceEqDiff, Nat.reduceAdd, Nat.reduceSub, Nat.reduceMul, Nat.reduceDiv, Nat.reduceMod, Nat.reduceLeDiff, Nat.reduceBEq, sz51, en28, en34, en30, sz53, en32, el31, sz27, en36, en38, vr53, bt53, pl53_0, pl53_1, pl53_2, vr93, bt93, pl93_0, pl93_1, el49, vr51, bt51, pl51_0, pl51_1, pl51_2, g3, g8, g13, g18, g26, g34, g40, g45, g50, g56, dx]
  (repeat (refine ⟨by first | omega | (simp; done) | assumption | (unfold maxLen; omega) | (simp [maxLen]; omega), ?_⟩))
  refine callK_p (a10) rfl ?_
  simp (maxSteps := 4000000) (disch := first | omega | (simp only [lens]; omega)) only [argSl, sm, ↓amb, mark_eq, ↓reduceIte, reduceCtorEq, Int.reduceBEq, Int.reduceBNe, Int.reduceToNat, Nat.reduceEqDiff, Nat.reduceAdd, Nat.reduceSub, Nat.reduceMul, Nat.reduceDiv, Nat.reduceMod, Nat.reduceLeDiff, Nat.reduceBEq, sz51, en28, en34, en30, sz53, en32, el31, sz27, en36, en38, vr53, bt53, pl53_0, pl53_1, pl53_2, vr93, bt93, pl93_0, pl93_1, el49, vr51, bt51, pl51_0, pl51_1, pl51_2, g3, g8, g13, g18, g26, g34, g40, g45, g50, g56, dx]
  (repeat (refine ⟨by first | omega | (simp; done) | assumption | (unfold maxLen; omega) | (simp [maxLen]; omega), ?_⟩))
  refine callK_p (a11) rfl ?_
  simp (maxSteps := 4000000) (disch := first | omega | (simp only [lens]; omega)) only [argSl, sm, ↓amb, mark_eq, ↓reduceIte, reduceCtorEq, Int.reduceBEq, Int.reduceBNe, Int.reduceToNat, Nat.reduceEqDiff, Nat.reduceAdd, Nat.reduceSub, Nat.reduceMul, Nat.reduceDiv, Nat.reduceMod, Nat.reduceLeDiff, Nat.reduceBEq, sz51, en28, en34, en30, sz53, en32, el31, sz27, en36, en38, vr53, bt53, pl53_0, pl53_1, pl53_2, vr93, bt93, pl93_0, pl93_1, el49, vr51, bt51, pl51_0, pl51_1, pl51_2, g3, g8, g13, g18, g26, g34, g40, g45, g50, g56, dx]
  (repeat (refine ⟨by first | omega | (simp; done) | assumption | (unfold maxLen; omega) | (simp [maxLen]; omega), ?_⟩)); refine hk _ ?_; clear hk; clear k
  refine awp_ret ?_
  refine ret1 rfl rfl ?_
  exact .p (LeP.refl _)
end Go.Proofs.Ytjkkjiaeeobnkaa
