/-
  RadixAnswers, walked.
-/
import Derived.Test.YthelnccjcbnjfaaSB
import Derived.Test.YthelnccjcbnjfaaS7
set_option linter.unusedSimpArgs false
set_option linter.unusedVariables false
set_option maxRecDepth 100000
namespace Go.Proofs.Ythelnccjcbnjfaa
open Go.Am Go.Proofs
theorem ar59 : tArr Try.prog 59 = some (3, 1, false) := by kernel_rfl
theorem el59 : tEl Try.prog 59 = none := by kernel_rfl
theorem en41 : enters Try.prog 41 = true := by kernel_rfl
theorem en43 : enters Try.prog 43 = true := by kernel_rfl
theorem en45 : enters Try.prog 45 = true := by kernel_rfl
set_option maxHeartbeats 4000000 in
theorem c_law10_RadixAnswers (l o : List Int) (q : Int × Int × Int) (hl : ∀ x, x ∈ l → Pl.W32 x) (hol : ∀ x, x ∈ o → -9223372036854775808 ≤ x ∧ x ≤ 9223372036854775807) : PCall Try.prog 11 [words false l, ints false o, .agg [iV q.1, iV q.2.1, iV q.2.2]] (bV true) := by
  refine pcall_of_awp Try.func11 rfl (by simp [Try.ntmps11]) fun C hC => ?_
  refine awp_le (le_keep [0, 1, 2]) ?_
  simp only [kp, argSl, Nat.reduceEqDiff, ↓reduceIte, reduceCtorEq, Nat.reduceAdd]
  refine awp_sr [] (by rw [hC]; rfl) fun k hk => ?_
  simp (maxSteps := 4000000) (disch := first | omega | (simp only [lens]; omega)) only [argSl, sm, ↓amb, mark_eq, ↓reduceIte, reduceCtorEq, Int.reduceBEq, Int.reduceBNe, Int.reduceToNat, Nat.reduceEqDiff, Nat.reduceAdd, Nat.reduceSub, Nat.reduceMul, Nat.reduceDiv, Nat.reduceMod, Nat.reduceLeDiff, Nat.reduceBEq, wr_u32, dx]
  (repeat (refine ⟨by first | omega | (simp; done) | assumption | (unfold maxLen; omega) | (simp [maxLen]; omega), ?_⟩)); refine hk _ ?_; clear hk; clear k
  refine awp_seq fun k1 h1 => ?_
  refine awp_le (le_keep [0, 1, 5, 6]) ?_
  simp only [kp, argSl, Nat.reduceEqDiff, ↓reduceIte, reduceCtorEq, Nat.reduceAdd]
  refine awp_sr [] (by rw [hC]; rfl) fun k hk => ?_
  simp (maxSteps := 4000000) (disch := first | omega | (simp only [lens]; omega)) only [argSl, sm, ↓amb, mark_eq, ↓reduceIte, reduceCtorEq, Int.reduceBEq, Int.reduceBNe, Int.reduceToNat, Nat.reduceEqDiff, Nat.reduceAdd, Nat.reduceSub, Nat.reduceMul, Nat.reduceDiv, Nat.reduceMod, Nat.reduceLeDiff, Nat.reduceBEq, en41, wr_u32, dx]
  (repeat (refine ⟨by first | omega | (simp; done) | assumption | (unfold maxLen; omega) | (simp [maxLen]; omega), ?_⟩))
  refine callK_p (c_law10_alive) rfl ?_
  simp (maxSteps := 4000000) (disch := first | omega | (simp only [lens]; omega)) only [argSl, sm, ↓amb, mark_eq, ↓reduceIte, reduceCtorEq, Int.reduceBEq, Int.reduceBNe, Int.reduceToNat, Nat.reduceEqDiff, Nat.reduceAdd, Nat.reduceSub, Nat.reduceMul, Nat.reduceDiv, Nat.reduceMod, Nat.reduceLeDiff, Nat.reduceBEq, en41, wr_u32, dx]
  (repeat (refine ⟨by first | omega | (simp; done) | assumption | (unfold maxLen; omega) | (simp [maxLen]; omega), ?_⟩)); refine hk _ ?_; clear hk; clear k
  refine awp_cond rfl (fun hb => ?_) (fun hb => ?_)
  · -- branch 1
    try simp only [hbx] at hb
    refine awp_le (le_keep []) ?_
    simp only [kp, argSl, Nat.reduceEqDiff, ↓reduceIte, reduceCtorEq, Nat.reduceAdd]
    refine awp_sr [] (by rw [hC]; rfl) fun k hk => ?_
    simp (maxSteps := 4000000) (disch := first | omega | (simp only [lens]; omega)) only [argSl, sm, ↓amb, mark_eq, ↓reduceIte, reduceCtorEq, Int.reduceBEq, Int.reduceBNe, Int.reduceToNat, Nat.reduceEqDiff, Nat.reduceAdd, Nat.reduceSub, Nat.reduceMul, Nat.reduceDiv, Nat.reduceMod, Nat.reduceLeDiff, Nat.reduceBEq, wr_u32, dx]
    (repeat (refine ⟨by first | omega | (simp; done) | assumption | (unfold maxLen; omega) | (simp [maxLen]; omega), ?_⟩)); refine hk _ ?_; clear hk; clear k
    refine awp_ret ?_
    exact absurd hb (by simp)
  · -- branch 2
    try simp only [hbx] at hb
    refine awp_skip ?_
    refine h1 _ ?_; clear h1; clear k1
    refine awp_seq fun k2 h2 => ?_
    refine awp_test [] 25 (decide (60 < l.length ∨ 60 < o.length)) [0, 1, 5, 6] (by rw [hC]; rfl) (fun gd hgd k hk => ?_) ?_
    · have g3 : gd 3 = some 21 := by rw [hgd]; rfl
      clear hgd
      simp (maxSteps := 4000000) (disch := first | omega | (simp only [lens]; omega)) only [argSl, sm, ↓amb, mark_eq, ↓reduceIte, reduceCtorEq, Int.reduceBEq, Int.reduceBNe, Int.reduceToNat, Nat.reduceEqDiff, Nat.reduceAdd, Nat.reduceSub, Nat.reduceMul, Nat.reduceDiv, Nat.reduceMod, Nat.reduceLeDiff, Nat.reduceBEq, el22, el32, gcase_undef, g3, wr_u32, dx]
      repeat' first | refine hk _ _ rfl rfl rfl rfl ?_ | (refine gsplit (fun hg => ?_) (fun hg => ?_) <;> (try simp only [hbx] at hg) <;> simp (maxSteps := 4000000) (disch := first | omega | (simp only [lens]; omega)) only [argSl, sm, ↓amb, mark_eq, ↓reduceIte, reduceCtorEq, Int.reduceBEq, Int.reduceBNe, Int.reduceToNat, Nat.reduceEqDiff, Nat.reduceAdd, Nat.reduceSub, Nat.reduceMul, Nat.reduceDiv, Nat.reduceMod, Nat.reduceLeDiff, Nat.reduceBEq, el22, el32, gcase_undef, g3, wr_u32, dx]) | apply And.intro | fail
      all_goals first | rfl | omega | exact (decide_eq_true (by omega)).symm | exact (decide_eq_false (by omega)).symm | exact decide_eq_decide.mpr (by omega) | (refine Bool.eq_iff_iff.mpr ?_; simp only [beq_iff_eq, bne_iff_ne, ne_eq, decide_eq_true_eq]; omega) | (refine Bool.eq_iff_iff.mpr ?_; simp only [Bool.not_eq_true', Bool.not_eq_false', decide_eq_false_iff_not, decide_eq_true_eq, beq_iff_eq, bne_iff_ne, ne_eq]; omega) | assumption | (simp; done) | (simp [maxLen]; omega) | skip
    simp only [kp, argSl, Nat.reduceEqDiff, ↓reduceIte, reduceCtorEq, Nat.reduceAdd, List.length_cons, List.length_nil]
    refine awp_cond rfl (fun hb => ?_) (fun hb => ?_)
    · -- branch 3
      try simp only [hbx] at hb
      refine awp_le (le_keep []) ?_
      simp only [kp, argSl, Nat.reduceEqDiff, ↓reduceIte, reduceCtorEq, Nat.reduceAdd]
      refine awp_sr [] (by rw [hC]; rfl) fun k hk => ?_
      simp (maxSteps := 4000000) (disch := first | omega | (simp only [lens]; omega)) only [argSl, sm, ↓amb, mark_eq, ↓reduceIte, reduceCtorEq, Int.reduceBEq, Int.reduceBNe, Int.reduceToNat, Nat.reduceEqDiff, Nat.reduceAdd, Nat.reduceSub, Nat.reduceMul, Nat.reduceDiv, Nat.reduceMod, Nat.reduceLeDiff, Nat.reduceBEq, wr_u32, dx]
      (repeat (refine ⟨by first | omega | (simp; done) | assumption | (unfold maxLen; omega) | (simp [maxLen]; omega), ?_⟩)); refine hk _ ?_; clear hk; clear k
      refine awp_ret ?_
      refine ret1 rfl rfl ?_
      exact .p (LeP.refl _)
    · -- branch 4
      try simp only [hbx] at hb
      refine awp_skip ?_
      refine h2 _ ?_; clear h2; clear k2
      refine awp_le (le_keep [0, 1, 5]) ?_
      simp only [kp, argSl, Nat.reduceEqDiff, ↓reduceIte, reduceCtorEq, Nat.reduceAdd]
      refine awp_sr [] (by rw [hC]; rfl) fun k hk => ?_
      simp (maxSteps := 4000000) (disch := first | omega | (simp only [lens]; omega)) only [argSl, sm, ↓amb, mark_eq, ↓reduceIte, reduceCtorEq, Int.reduceBEq, Int.reduceBNe, Int.reduceToNat, Nat.reduceEqDiff, Nat.reduceAdd, Nat.reduceSub, Nat.reduceMul, Nat.reduceDiv, Nat.reduceMod, Nat.reduceLeDiff, Nat.reduceBEq, el59, ar59, sz3, en42, wr_u32, dx]
      (repeat (refine ⟨by first | omega | (simp; done) | assumption | (unfold maxLen; omega) | (simp [maxLen]; omega), ?_⟩))
      refine callK_p (c_radix_Pass _ _ l o q.1 q.2.1 hl hol (by omega) (by omega)) rfl ?_
      simp (maxSteps := 4000000) (disch := first | omega | (simp only [lens]; omega)) only [argSl, sm, ↓amb, mark_eq, ↓reduceIte, reduceCtorEq, Int.reduceBEq, Int.reduceBNe, Int.reduceToNat, Nat.reduceEqDiff, Nat.reduceAdd, Nat.reduceSub, Nat.reduceMul, Nat.reduceDiv, Nat.reduceMod, Nat.reduceLeDiff, Nat.reduceBEq, el59, ar59, sz3, en42, wr_u32, dx]
      (repeat (refine ⟨by first | omega | (simp; done) | assumption | (unfold maxLen; omega) | (simp [maxLen]; omega), ?_⟩)); refine hk _ ?_; clear hk; clear k
      refine awp_le (le_keep [0, 1, 5, 7, 8]) ?_
      simp only [kp, argSl, Nat.reduceEqDiff, ↓reduceIte, reduceCtorEq, Nat.reduceAdd]
      refine awp_sr [] (by rw [hC]; rfl) fun k hk => ?_
      simp (maxSteps := 4000000) (disch := first | omega | (simp only [lens]; omega)) only [argSl, sm, ↓amb, mark_eq, ↓reduceIte, reduceCtorEq, Int.reduceBEq, Int.reduceBNe, Int.reduceToNat, Nat.reduceEqDiff, Nat.reduceAdd, Nat.reduceSub, Nat.reduceMul, Nat.reduceDiv, Nat.reduceMod, Nat.reduceLeDiff, Nat.reduceBEq, el59, ar59, sz3, en43, wr_u32, dx]
      (repeat (refine ⟨by first | omega | (simp; done) | assumption | (unfold maxLen; omega) | (simp [maxLen]; omega), ?_⟩))
      refine callK_p (c_ref10_Pass _ _ l o q.1 q.2.1 hl (by omega) (by omega)) rfl ?_
      simp (maxSteps := 4000000) (disch := first | omega | (simp only [lens]; omega)) only [argSl, sm, ↓amb, mark_eq, ↓reduceIte, reduceCtorEq, Int.reduceBEq, Int.reduceBNe, Int.reduceToNat, Nat.reduceEqDiff, Nat.reduceAdd, Nat.reduceSub, Nat.reduceMul, Nat.reduceDiv, Nat.reduceMod, Nat.reduceLeDiff, Nat.reduceBEq, el59, ar59, sz3, en43, wr_u32, dx]
      (repeat (refine ⟨by first | omega | (simp; done) | assumption | (unfold maxLen; omega) | (simp [maxLen]; omega), ?_⟩)); refine hk _ ?_; clear hk; clear k
      refine awp_le (le_keep [0, 1, 5, 7, 8, 9, 10]) ?_
      simp only [kp, argSl, Nat.reduceEqDiff, ↓reduceIte, reduceCtorEq, Nat.reduceAdd]
      refine awp_sr [] (by rw [hC]; rfl) fun k hk => ?_
      simp (maxSteps := 4000000) (disch := first | omega | (simp only [lens]; omega)) only [argSl, sm, ↓amb, mark_eq, ↓reduceIte, reduceCtorEq, Int.reduceBEq, Int.reduceBNe, Int.reduceToNat, Nat.reduceEqDiff, Nat.reduceAdd, Nat.reduceSub, Nat.reduceMul, Nat.reduceDiv, Nat.reduceMod, Nat.reduceLeDiff, Nat.reduceBEq, en44, wr_u32, dx]
      (repeat (refine ⟨by first | omega | (simp; done) | assumption | (unfold maxLen; omega) | (simp [maxLen]; omega), ?_⟩))
      refine callK_p (c_radix_Sorted _ _ l o hl hol (by omega) (by omega)) rfl ?_
      simp (maxSteps := 4000000) (disch := first | omega | (simp only [lens]; omega)) only [argSl, sm, ↓amb, mark_eq, ↓reduceIte, reduceCtorEq, Int.reduceBEq, Int.reduceBNe, Int.reduceToNat, Nat.reduceEqDiff, Nat.reduceAdd, Nat.reduceSub, Nat.reduceMul, Nat.reduceDiv, Nat.reduceMod, Nat.reduceLeDiff, Nat.reduceBEq, en44, wr_u32, dx]
      (repeat (refine ⟨by first | omega | (simp; done) | assumption | (unfold maxLen; omega) | (simp [maxLen]; omega), ?_⟩)); refine hk _ ?_; clear hk; clear k
      refine awp_le (le_keep [0, 1, 5, 7, 8, 9, 10, 11, 12]) ?_
      simp only [kp, argSl, Nat.reduceEqDiff, ↓reduceIte, reduceCtorEq, Nat.reduceAdd]
      refine awp_sr [] (by rw [hC]; rfl) fun k hk => ?_
      simp (maxSteps := 4000000) (disch := first | omega | (simp only [lens]; omega)) only [argSl, sm, ↓amb, mark_eq, ↓reduceIte, reduceCtorEq, Int.reduceBEq, Int.reduceBNe, Int.reduceToNat, Nat.reduceEqDiff, Nat.reduceAdd, Nat.reduceSub, Nat.reduceMul, Nat.reduceDiv, Nat.reduceMod, Nat.reduceLeDiff, Nat.reduceBEq, en45, wr_u32, dx]
      (repeat (refine ⟨by first | omega | (simp; done) | assumption | (unfold maxLen; omega) | (simp [maxLen]; omega), ?_⟩))
      refine callK_p (c_ref10_Sorted _ _ l o hl hol (by omega) (by omega)) rfl ?_
      simp (maxSteps := 4000000) (disch := first | omega | (simp only [lens]; omega)) only [argSl, sm, ↓amb, mark_eq, ↓reduceIte, reduceCtorEq, Int.reduceBEq, Int.reduceBNe, Int.reduceToNat, Nat.reduceEqDiff, Nat.reduceAdd, Nat.reduceSub, Nat.reduceMul, Nat.reduceDiv, Nat.reduceMod, Nat.reduceLeDiff, Nat.reduceBEq, en45, wr_u32, dx]
      (repeat (refine ⟨by first | omega | (simp; done) | assumption | (unfold maxLen; omega) | (simp [maxLen]; omega), ?_⟩)); refine hk _ ?_; clear hk; clear k
      refine awp_le (le_keep [5, 7, 8, 9, 10, 11, 12, 13, 14]) ?_
      simp only [kp, argSl, Nat.reduceEqDiff, ↓reduceIte, reduceCtorEq, Nat.reduceAdd]
      refine awp_sr [] (by rw [hC]; rfl) fun k hk => ?_
      simp (maxSteps := 4000000) (disch := first | omega | (simp only [lens]; omega)) only [argSl, sm, ↓amb, mark_eq, ↓reduceIte, reduceCtorEq, Int.reduceBEq, Int.reduceBNe, Int.reduceToNat, Nat.reduceEqDiff, Nat.reduceAdd, Nat.reduceSub, Nat.reduceMul, Nat.reduceDiv, Nat.reduceMod, Nat.reduceLeDiff, Nat.reduceBEq, el59, ar59, sz3, it28, un3, wr_u32, dx]
      (repeat (refine ⟨by first | omega | (simp; done) | assumption | (unfold maxLen; omega) | (simp [maxLen]; omega), ?_⟩)); refine hk _ ?_; clear hk; clear k
      have hpl := Pl.passP_len hl o q.1 q.2.1
      have hsl : (if Pl.onceP o l.length then Pl.sortedL l o else []).length ≤ 1000000 := by split; rw [Pl.sortedL_len]; omega; exact Nat.zero_le _
      refine awp_testD [] ⟨[0, 0, 3, 7, 15, 15, 63, 127, 255, 511, 511, 2047, 4095, 8191, 16383, 16383, 65535, 131071, 262143, 524287, 1048575, 2097151, 524287, 4718591, 16777215, 33554431, 67108863, 134217727, 268435455, 268435455, 805306367, 268435455, 2415919103, 8589934591, 268435455, 268435455, 34628173823, 268435455, 137707388927, 549755813887, 1099511627775, 2199023255551, 4398046511103], [20, 23, 30, 32, 36, 38], [], [(2, 20), (11, 20), (2, 23), (11, 23), (2, 30), (11, 30), (21, 30), (24, 30), (2, 32), (11, 32), (21, 32), (24, 32), (2, 36), (11, 36), (21, 36), (24, 36), (2, 38), (11, 38), (21, 38), (24, 38)], some []⟩ 6 (decide (True)) [] (by rw [hC]; rfl) (by kernel_rfl) (by kernel_rfl) (fun gd hgd k hk => ?_) ?_
      · have g3 : gd 3 = some 64 := by rw [hgd]; rfl
        have g8 : gd 8 = some 69 := by rw [hgd]; rfl
        have g13 : gd 13 = some 74 := by rw [hgd]; rfl
        have g18 : gd 18 = some 79 := by rw [hgd]; rfl
        have g27 : gd 27 = some 88 := by rw [hgd]; rfl
        clear hgd
        simp (maxSteps := 4000000) (disch := first | omega | (simp only [lens]; omega)) only [argSl, sm, ↓amb, mark_eq, ↓reduceIte, reduceCtorEq, Int.reduceBEq, Int.reduceBNe, Int.reduceToNat, Nat.reduceEqDiff, Nat.reduceAdd, Nat.reduceSub, Nat.reduceMul, Nat.reduceDiv, Nat.reduceMod, Nat.reduceLeDiff, Nat.reduceBEq, en23, en22, el59, ar59, sz3, en46, en47, en48, en49, gcase_undef, g3, g8, g13, g18, g27, wr_u32, dx]
        repeat' first | refine hk _ _ rfl rfl rfl rfl ?_ | (refine gsplit (fun hg => ?_) (fun hg => ?_) <;> (try simp only [hbx] at hg) <;> simp (maxSteps := 4000000) (disch := first | omega | (simp only [lens]; omega)) only [argSl, sm, ↓amb, mark_eq, ↓reduceIte, reduceCtorEq, Int.reduceBEq, Int.reduceBNe, Int.reduceToNat, Nat.reduceEqDiff, Nat.reduceAdd, Nat.reduceSub, Nat.reduceMul, Nat.reduceDiv, Nat.reduceMod, Nat.reduceLeDiff, Nat.reduceBEq, en23, en22, el59, ar59, sz3, en46, en47, en48, en49, gcase_undef, g3, g8, g13, g18, g27, wr_u32, dx]) | apply And.intro | (refine callK_p (c23 false false (Pl.passP l o q.1 q.2.1) (Pl.passP l o q.1 q.2.1) (by omega)) rfl ?_; (try simp (maxSteps := 4000000) (disch := first | omega | (simp only [lens]; omega)) only [argSl, sm, ↓amb, mark_eq, ↓reduceIte, reduceCtorEq, Int.reduceBEq, Int.reduceBNe, Int.reduceToNat, Nat.reduceEqDiff, Nat.reduceAdd, Nat.reduceSub, Nat.reduceMul, Nat.reduceDiv, Nat.reduceMod, Nat.reduceLeDiff, Nat.reduceBEq, en23, en22, el59, ar59, sz3, en46, en47, en48, en49, gcase_undef, g3, g8, g13, g18, g27, wr_u32, dx])) | (refine callK_p (c_ref07_Words false false (if Pl.onceP o l.length then Pl.sortedL l o else []) (if Pl.onceP o l.length then Pl.sortedL l o else []) (by omega)) rfl ?_; (try simp (maxSteps := 4000000) (disch := first | omega | (simp only [lens]; omega)) only [argSl, sm, ↓amb, mark_eq, ↓reduceIte, reduceCtorEq, Int.reduceBEq, Int.reduceBNe, Int.reduceToNat, Nat.reduceEqDiff, Nat.reduceAdd, Nat.reduceSub, Nat.reduceMul, Nat.reduceDiv, Nat.reduceMod, Nat.reduceLeDiff, Nat.reduceBEq, en23, en22, el59, ar59, sz3, en46, en47, en48, en49, gcase_undef, g3, g8, g13, g18, g27, wr_u32, dx])) | (refine callK_p (c_radix_Passes _) rfl ?_; (try simp (maxSteps := 4000000) (disch := first | omega | (simp only [lens]; omega)) only [argSl, sm, ↓amb, mark_eq, ↓reduceIte, reduceCtorEq, Int.reduceBEq, Int.reduceBNe, Int.reduceToNat, Nat.reduceEqDiff, Nat.reduceAdd, Nat.reduceSub, Nat.reduceMul, Nat.reduceDiv, Nat.reduceMod, Nat.reduceLeDiff, Nat.reduceBEq, en23, en22, el59, ar59, sz3, en46, en47, en48, en49, gcase_undef, g3, g8, g13, g18, g27, wr_u32, dx])) | (refine callK_p (c_ref10_Passes _) rfl ?_; (try simp (maxSteps := 4000000) (disch := first | omega | (simp only [lens]; omega)) only [argSl, sm, ↓amb, mark_eq, ↓reduceIte, reduceCtorEq, Int.reduceBEq, Int.reduceBNe, Int.reduceToNat, Nat.reduceEqDiff, Nat.reduceAdd, Nat.reduceSub, Nat.reduceMul, Nat.reduceDiv, Nat.reduceMod, Nat.reduceLeDiff, Nat.reduceBEq, en23, en22, el59, ar59, sz3, en46, en47, en48, en49, gcase_undef, g3, g8, g13, g18, g27, wr_u32, dx])) | (refine callK_p (c_radix_Digit _ _ _ (by omega)) rfl ?_; (try simp (maxSteps := 4000000) (disch := first | omega | (simp only [lens]; omega)) only [argSl, sm, ↓amb, mark_eq, ↓reduceIte, reduceCtorEq, Int.reduceBEq, Int.reduceBNe, Int.reduceToNat, Nat.reduceEqDiff, Nat.reduceAdd, Nat.reduceSub, Nat.reduceMul, Nat.reduceDiv, Nat.reduceMod, Nat.reduceLeDiff, Nat.reduceBEq, en23, en22, el59, ar59, sz3, en46, en47, en48, en49, gcase_undef, g3, g8, g13, g18, g27, wr_u32, dx])) | (refine callK_p (c_ref10_Digit _ _ _ (by omega)) rfl ?_; (try simp (maxSteps := 4000000) (disch := first | omega | (simp only [lens]; omega)) only [argSl, sm, ↓amb, mark_eq, ↓reduceIte, reduceCtorEq, Int.reduceBEq, Int.reduceBNe, Int.reduceToNat, Nat.reduceEqDiff, Nat.reduceAdd, Nat.reduceSub, Nat.reduceMul, Nat.reduceDiv, Nat.reduceMod, Nat.reduceLeDiff, Nat.reduceBEq, en23, en22, el59, ar59, sz3, en46, en47, en48, en49, gcase_undef, g3, g8, g13, g18, g27, wr_u32, dx])) | fail
        all_goals first | rfl | omega | exact (decide_eq_true (by omega)).symm | exact (decide_eq_false (by omega)).symm | exact decide_eq_decide.mpr (by omega) | (refine Bool.eq_iff_iff.mpr ?_; simp only [beq_iff_eq, bne_iff_ne, ne_eq, decide_eq_true_eq]; omega) | (refine Bool.eq_iff_iff.mpr ?_; simp only [Bool.not_eq_true', Bool.not_eq_false', decide_eq_false_iff_not, decide_eq_true_eq, beq_iff_eq, bne_iff_ne, ne_eq]; omega) | assumption | (simp; done) | (simp [maxLen]; omega) | skip
      simp only [kp, argSl, Nat.reduceEqDiff, ↓reduceIte, reduceCtorEq, Nat.reduceAdd, List.length_cons, List.length_nil]
      refine awp_ret ?_
      refine ret1 rfl rfl ?_
      exact .p (LeP.refl _)
end Go.Proofs.Ythelnccjcbnjfaa
