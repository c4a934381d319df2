/-
  RadixDigits, walked.
-/
import Derived.Test.YthelnccjcbnjfaaS7
set_option linter.unusedSimpArgs false
set_option linter.unusedVariables false
set_option maxRecDepth 100000
namespace Go.Proofs.Ythelnccjcbnjfaa
open Go.Am Go.Proofs
theorem en41 : enters Try.prog 41 = true := by kernel_rfl
theorem it3 : tInt Try.prog 3 = some .i64 := by kernel_rfl
theorem it69 : tInt Try.prog 69 = some .u64 := by kernel_rfl
theorem un28 : (Try.prog.underlying 28).isSome = true := by kernel_rfl
theorem un5 : (Try.prog.underlying 5).isSome = true := by kernel_rfl
set_option maxHeartbeats 4000000 in
theorem c_law10_RadixDigits (x y : Int) (hx : Pl.W32 x) (hy : 0 ≤ y ∧ y ≤ 255) : PCall Try.prog 14 [u32V x, .lit (.int .u8 y)] (bV true) := by
  obtain ⟨b, hb0⟩ : ∃ b, b = (1 + y % 16) := ⟨_, rfl⟩
  have hb1 : 1 ≤ b ∧ b ≤ 16 := by omega
  have hps := Pl.pas_nn b
  have hp2 := Pl.pas_x hb1
  have hp3 : (Pl.pas b - 1) * b = Pl.pas b * b - b := by rw [Int.sub_mul, Int.one_mul]
  have hsh := Pl.shl_b hb1
  refine pcall_of_awp Try.func14 rfl (by simp [Try.ntmps14]) fun C hC => ?_
  refine awp_le (le_keep [0, 1]) ?_
  simp only [kp, argSl, Nat.reduceEqDiff, ↓reduceIte, reduceCtorEq, Nat.reduceAdd]
  refine awp_sr [] (by rw [hC]; rfl) fun k hk => ?_
  simp (maxSteps := 4000000) (disch := first | omega | (simp only [lens]; omega)) only [argSl, sm, ↓amb, mark_eq, ↓reduceIte, reduceCtorEq, Int.reduceBEq, Int.reduceBNe, Int.reduceToNat, Nat.reduceEqDiff, Nat.reduceAdd, Nat.reduceSub, Nat.reduceMul, Nat.reduceDiv, Nat.reduceMod, Nat.reduceLeDiff, Nat.reduceBEq, wr_u32, wr_u64, dx]
  (repeat (refine ⟨by first | omega | (simp; done) | assumption | (unfold maxLen; omega) | (simp [maxLen]; omega), ?_⟩)); refine hk _ ?_; clear hk; clear k
  refine awp_seq fun k1 h1 => ?_
  refine awp_le (le_keep [0, 1, 4]) ?_
  simp only [kp, argSl, Nat.reduceEqDiff, ↓reduceIte, reduceCtorEq, Nat.reduceAdd]
  refine awp_sr [] (by rw [hC]; rfl) fun k hk => ?_
  simp (maxSteps := 4000000) (disch := first | omega | (simp only [lens]; omega)) only [argSl, sm, ↓amb, mark_eq, ↓reduceIte, reduceCtorEq, Int.reduceBEq, Int.reduceBNe, Int.reduceToNat, Nat.reduceEqDiff, Nat.reduceAdd, Nat.reduceSub, Nat.reduceMul, Nat.reduceDiv, Nat.reduceMod, Nat.reduceLeDiff, Nat.reduceBEq, en41, wr_u32, wr_u64, dx]
  (repeat (refine ⟨by first | omega | (simp; done) | assumption | (unfold maxLen; omega) | (simp [maxLen]; omega), ?_⟩))
  refine callK_p (c_law10_alive) rfl ?_
  simp (maxSteps := 4000000) (disch := first | omega | (simp only [lens]; omega)) only [argSl, sm, ↓amb, mark_eq, ↓reduceIte, reduceCtorEq, Int.reduceBEq, Int.reduceBNe, Int.reduceToNat, Nat.reduceEqDiff, Nat.reduceAdd, Nat.reduceSub, Nat.reduceMul, Nat.reduceDiv, Nat.reduceMod, Nat.reduceLeDiff, Nat.reduceBEq, en41, wr_u32, wr_u64, dx]
  (repeat (refine ⟨by first | omega | (simp; done) | assumption | (unfold maxLen; omega) | (simp [maxLen]; omega), ?_⟩)); refine hk _ ?_; clear hk; clear k
  refine awp_cond rfl (fun hb => ?_) (fun hb => ?_)
  · -- branch 1
    try simp only [hbx] at hb
    refine awp_le (le_keep []) ?_
    simp only [kp, argSl, Nat.reduceEqDiff, ↓reduceIte, reduceCtorEq, Nat.reduceAdd]
    refine awp_sr [] (by rw [hC]; rfl) fun k hk => ?_
    simp (maxSteps := 4000000) (disch := first | omega | (simp only [lens]; omega)) only [argSl, sm, ↓amb, mark_eq, ↓reduceIte, reduceCtorEq, Int.reduceBEq, Int.reduceBNe, Int.reduceToNat, Nat.reduceEqDiff, Nat.reduceAdd, Nat.reduceSub, Nat.reduceMul, Nat.reduceDiv, Nat.reduceMod, Nat.reduceLeDiff, Nat.reduceBEq, wr_u32, wr_u64, dx]
    (repeat (refine ⟨by first | omega | (simp; done) | assumption | (unfold maxLen; omega) | (simp [maxLen]; omega), ?_⟩)); refine hk _ ?_; clear hk; clear k
    refine awp_ret ?_
    exact absurd hb (by simp)
  · -- branch 2
    try simp only [hbx] at hb
    refine awp_skip ?_
    refine h1 _ ?_; clear h1; clear k1
    refine awp_le (le_keep [0, 1]) ?_
    simp only [kp, argSl, Nat.reduceEqDiff, ↓reduceIte, reduceCtorEq, Nat.reduceAdd]
    refine awp_sr [] (by rw [hC]; rfl) fun k hk => ?_
    simp (maxSteps := 4000000) (disch := first | omega | (simp only [lens]; omega)) only [argSl, sm, ↓amb, mark_eq, ↓reduceIte, reduceCtorEq, Int.reduceBEq, Int.reduceBNe, Int.reduceToNat, Nat.reduceEqDiff, Nat.reduceAdd, Nat.reduceSub, Nat.reduceMul, Nat.reduceDiv, Nat.reduceMod, Nat.reduceLeDiff, Nat.reduceBEq, it3, un5, wr_u32, wr_u64, dx]
    (repeat (refine ⟨by first | omega | (simp; done) | assumption | (unfold maxLen; omega) | (simp [maxLen]; omega), ?_⟩)); refine hk _ ?_; clear hk; clear k
    refine awp_le (le_keep [0, 5]) ?_
    simp only [kp, argSl, Nat.reduceEqDiff, ↓reduceIte, reduceCtorEq, Nat.reduceAdd]
    rw [← hb0]
    refine awp_sr [] (by rw [hC]; rfl) fun k hk => ?_
    simp (maxSteps := 4000000) (disch := first | omega | (simp only [lens]; omega)) only [argSl, sm, ↓amb, mark_eq, ↓reduceIte, reduceCtorEq, Int.reduceBEq, Int.reduceBNe, Int.reduceToNat, Nat.reduceEqDiff, Nat.reduceAdd, Nat.reduceSub, Nat.reduceMul, Nat.reduceDiv, Nat.reduceMod, Nat.reduceLeDiff, Nat.reduceBEq, en46, wr_u32, wr_u64, dx]
    (repeat (refine ⟨by first | omega | (simp; done) | assumption | (unfold maxLen; omega) | (simp [maxLen]; omega), ?_⟩))
    refine callK_p (c_radix_Passes _) rfl ?_
    simp (maxSteps := 4000000) (disch := first | omega | (simp only [lens]; omega)) only [argSl, sm, ↓amb, mark_eq, ↓reduceIte, reduceCtorEq, Int.reduceBEq, Int.reduceBNe, Int.reduceToNat, Nat.reduceEqDiff, Nat.reduceAdd, Nat.reduceSub, Nat.reduceMul, Nat.reduceDiv, Nat.reduceMod, Nat.reduceLeDiff, Nat.reduceBEq, en46, wr_u32, wr_u64, dx]
    (repeat (refine ⟨by first | omega | (simp; done) | assumption | (unfold maxLen; omega) | (simp [maxLen]; omega), ?_⟩)); refine hk _ ?_; clear hk; clear k
    refine awp_le (le_keep [0, 5, 6]) ?_
    simp only [kp, argSl, Nat.reduceEqDiff, ↓reduceIte, reduceCtorEq, Nat.reduceAdd]
    refine awp_sr [] (by rw [hC]; rfl) fun k hk => ?_
    simp (maxSteps := 4000000) (disch := first | omega | (simp only [lens]; omega)) only [argSl, sm, ↓amb, mark_eq, ↓reduceIte, reduceCtorEq, Int.reduceBEq, Int.reduceBNe, Int.reduceToNat, Nat.reduceEqDiff, Nat.reduceAdd, Nat.reduceSub, Nat.reduceMul, Nat.reduceDiv, Nat.reduceMod, Nat.reduceLeDiff, Nat.reduceBEq, wr_u32, wr_u64, dx]
    (repeat (refine ⟨by first | omega | (simp; done) | assumption | (unfold maxLen; omega) | (simp [maxLen]; omega), ?_⟩)); refine hk _ ?_; clear hk; clear k
    refine awp_seq fun k2 h2 => ?_
    refine awp_le (le_keep [0, 4, 5, 6, 7]) ?_
    simp only [kp, argSl, Nat.reduceEqDiff, ↓reduceIte, reduceCtorEq, Nat.reduceAdd]
    refine awp_sr [] (by rw [hC]; rfl) fun k hk => ?_
    simp (maxSteps := 4000000) (disch := first | omega | (simp only [lens]; omega)) only [argSl, sm, ↓amb, mark_eq, ↓reduceIte, reduceCtorEq, Int.reduceBEq, Int.reduceBNe, Int.reduceToNat, Nat.reduceEqDiff, Nat.reduceAdd, Nat.reduceSub, Nat.reduceMul, Nat.reduceDiv, Nat.reduceMod, Nat.reduceLeDiff, Nat.reduceBEq, wr_u32, wr_u64, dx]
    (repeat (refine ⟨by first | omega | (simp; done) | assumption | (unfold maxLen; omega) | (simp [maxLen]; omega), ?_⟩)); refine hk _ ?_; clear hk; clear k
    refine awp_block ?_
    refine awp_loop (σ := Nat) (fun v => (v : Int) ≤ Pl.pas b) (fun (v : Nat) => ⟨[(0, (.p (u32V x))), (5, (.p (iV b))), (6, (.p (iV (Pl.pas b)))), (7, (.p (.lit (.int .u64 (x / 2 ^ (v * b.toNat)))))), (8, (.p (iV ((v : Int) - 1))))], [], 1⟩) (fun v => v) (Pl.pas b).toNat ?_ ?_ fun v hv => ?_
    · show (((Pl.pas b).toNat : Nat) : Int) ≤ _; omega
    · exact le_of [] (by rfl) (by rfl) ⟨⟨_, rfl, .p (.of_eq (by first | rfl | (simp only [PV.lit.injEq, Value.int.injEq, true_and]; omega) | (simp; done) | (simp; omega)))⟩, ⟨_, rfl, .p (.of_eq (by first | rfl | (simp only [PV.lit.injEq, Value.int.injEq, true_and]; omega) | (simp; done) | (simp; omega)))⟩, ⟨_, rfl, .p (.of_eq (by first | rfl | (simp only [PV.lit.injEq, Value.int.injEq, true_and]; omega) | (simp; done) | (simp; omega)))⟩, ⟨_, rfl, .p (.of_eq (by first | (rw [← Pl.word_top hx hb1]; done) | (rw [Pl.dig_step hx hb1 (show 1 ≤ v by omega) hv]; done) | trace_state))⟩, ⟨_, rfl, .p (.of_eq (by first | rfl | (simp only [PV.lit.injEq, Value.int.injEq, true_and]; omega) | (simp; done) | (simp; omega)))⟩, trivial⟩ trivial
    refine awp_seq fun k4 h4 => ?_
    refine awp_le (le_keep [0, 4, 5, 6, 7, 8]) ?_
    simp only [kp, argSl, Nat.reduceEqDiff, ↓reduceIte, reduceCtorEq, Nat.reduceAdd]
    refine awp_sr [] (by rw [hC]; rfl) fun k hk => ?_
    simp (maxSteps := 4000000) (disch := first | omega | (simp only [lens]; omega)) only [argSl, sm, ↓amb, mark_eq, ↓reduceIte, reduceCtorEq, Int.reduceBEq, Int.reduceBNe, Int.reduceToNat, Nat.reduceEqDiff, Nat.reduceAdd, Nat.reduceSub, Nat.reduceMul, Nat.reduceDiv, Nat.reduceMod, Nat.reduceLeDiff, Nat.reduceBEq, wr_u32, wr_u64, dx]
    (repeat (refine ⟨by first | omega | (simp; done) | assumption | (unfold maxLen; omega) | (simp [maxLen]; omega), ?_⟩)); refine hk _ ?_; clear hk; clear k
    refine awp_cond rfl (fun hb => ?_) (fun hb => ?_)
    · -- branch 3
      try simp only [hbx] at hb
      refine awp_skip ?_
      refine h4 _ ?_; clear h4; clear k4
      refine awp_seq fun k5 h5 => ?_
      refine awp_block ?_
      refine awp_le (le_keep [0, 4, 5, 6, 7, 8]) ?_
      simp only [kp, argSl, Nat.reduceEqDiff, ↓reduceIte, reduceCtorEq, Nat.reduceAdd]
      have hdg := Pl.digW_b (x := x) (t := (v : Int) - 1) (b := b) hx.1
      refine awp_sr [] (by rw [hC]; rfl) fun k hk => ?_
      simp (maxSteps := 4000000) (disch := first | omega | (simp only [lens]; omega)) only [argSl, sm, ↓amb, mark_eq, ↓reduceIte, reduceCtorEq, Int.reduceBEq, Int.reduceBNe, Int.reduceToNat, Nat.reduceEqDiff, Nat.reduceAdd, Nat.reduceSub, Nat.reduceMul, Nat.reduceDiv, Nat.reduceMod, Nat.reduceLeDiff, Nat.reduceBEq, en48, wr_u32, wr_u64, dx]
      (repeat (refine ⟨by first | omega | (simp; done) | assumption | (unfold maxLen; omega) | (simp [maxLen]; omega), ?_⟩))
      refine callK_p (c_radix_Digit _ _ _ hx) rfl ?_
      simp (maxSteps := 4000000) (disch := first | omega | (simp only [lens]; omega)) only [argSl, sm, ↓amb, mark_eq, ↓reduceIte, reduceCtorEq, Int.reduceBEq, Int.reduceBNe, Int.reduceToNat, Nat.reduceEqDiff, Nat.reduceAdd, Nat.reduceSub, Nat.reduceMul, Nat.reduceDiv, Nat.reduceMod, Nat.reduceLeDiff, Nat.reduceBEq, en48, wr_u32, wr_u64, dx]
      (repeat (refine ⟨by first | omega | (simp; done) | assumption | (unfold maxLen; omega) | (simp [maxLen]; omega), ?_⟩)); refine hk _ ?_; clear hk; clear k
      refine awp_seq fun k6 h6 => ?_
      refine awp_test [] 32 (decide (False)) [0, 4, 5, 6, 7, 8, 9] (by rw [hC]; rfl) (fun gd hgd k hk => ?_) ?_
      · clear hgd
        simp (maxSteps := 4000000) (disch := first | omega | (simp only [lens]; omega)) only [argSl, sm, ↓amb, mark_eq, ↓reduceIte, reduceCtorEq, Int.reduceBEq, Int.reduceBNe, Int.reduceToNat, Nat.reduceEqDiff, Nat.reduceAdd, Nat.reduceSub, Nat.reduceMul, Nat.reduceDiv, Nat.reduceMod, Nat.reduceLeDiff, Nat.reduceBEq, it70, un3, gcase_undef, wr_u32, wr_u64, dx]
        repeat' first | refine hk _ _ rfl rfl rfl rfl ?_ | (refine gsplit (fun hg => ?_) (fun hg => ?_) <;> (try simp only [hbx] at hg) <;> simp (maxSteps := 4000000) (disch := first | omega | (simp only [lens]; omega)) only [argSl, sm, ↓amb, mark_eq, ↓reduceIte, reduceCtorEq, Int.reduceBEq, Int.reduceBNe, Int.reduceToNat, Nat.reduceEqDiff, Nat.reduceAdd, Nat.reduceSub, Nat.reduceMul, Nat.reduceDiv, Nat.reduceMod, Nat.reduceLeDiff, Nat.reduceBEq, it70, un3, gcase_undef, wr_u32, wr_u64, dx]) | apply And.intro | fail
        all_goals first | rfl | omega | exact (decide_eq_true (by omega)).symm | exact (decide_eq_false (by omega)).symm | exact decide_eq_decide.mpr (by omega) | (refine Bool.eq_iff_iff.mpr ?_; simp only [beq_iff_eq, bne_iff_ne, ne_eq, decide_eq_true_eq]; omega) | (refine Bool.eq_iff_iff.mpr ?_; simp only [Bool.not_eq_true', Bool.not_eq_false', decide_eq_false_iff_not, decide_eq_true_eq, beq_iff_eq, bne_iff_ne, ne_eq]; omega) | assumption | (simp; done) | (simp [maxLen]; omega) | skip
        all_goals (refine decide_eq_decide.mpr ⟨fun h => ?_, False.elim⟩; rw [hsh] at h; omega)
      simp only [kp, argSl, Nat.reduceEqDiff, ↓reduceIte, reduceCtorEq, Nat.reduceAdd, List.length_cons, List.length_nil]
      refine awp_cond rfl (fun hb => ?_) (fun hb => ?_)
      · exact absurd hb (by simp)
      · -- branch 5
        try simp only [hbx] at hb
        refine awp_skip ?_
        refine h6 _ ?_; clear h6; clear k6
        refine awp_region [] (by rw [hC]; rfl) fun k hk => ?_
        simp (maxSteps := 4000000) (disch := first | omega | (simp only [lens]; omega)) only [argSl, sm, ↓amb, mark_eq, ↓reduceIte, reduceCtorEq, Int.reduceBEq, Int.reduceBNe, Int.reduceToNat, Nat.reduceEqDiff, Nat.reduceAdd, Nat.reduceSub, Nat.reduceMul, Nat.reduceDiv, Nat.reduceMod, Nat.reduceLeDiff, Nat.reduceBEq, it70, un3, it69, un28, wr_u32, wr_u64, dx]
        (repeat (refine ⟨by first | omega | (simp; done) | assumption | (unfold maxLen; omega) | (simp [maxLen]; omega), ?_⟩)); refine hk _ ?_; clear hk; clear k
        refine h5 _ ?_; clear h5; clear k5
        refine awp_region [] (by rw [hC]; rfl) fun k hk => ?_
        simp (maxSteps := 4000000) (disch := first | omega | (simp only [lens]; omega)) only [argSl, sm, ↓amb, mark_eq, ↓reduceIte, reduceCtorEq, Int.reduceBEq, Int.reduceBNe, Int.reduceToNat, Nat.reduceEqDiff, Nat.reduceAdd, Nat.reduceSub, Nat.reduceMul, Nat.reduceDiv, Nat.reduceMod, Nat.reduceLeDiff, Nat.reduceBEq, wr_u32, wr_u64, dx]
        (repeat (refine ⟨by first | omega | (simp; done) | assumption | (unfold maxLen; omega) | (simp [maxLen]; omega), ?_⟩)); refine hk _ ?_; clear hk; clear k
        refine ⟨v - 1, by omega, le_of [] (by rfl) (by rfl) ⟨⟨_, rfl, .p (.of_eq (by first | rfl | (simp only [PV.lit.injEq, Value.int.injEq, true_and]; omega) | (simp; done) | (simp; omega)))⟩, ⟨_, rfl, .p (.of_eq (by first | rfl | (simp only [PV.lit.injEq, Value.int.injEq, true_and]; omega) | (simp; done) | (simp; omega)))⟩, ⟨_, rfl, .p (.of_eq (by first | rfl | (simp only [PV.lit.injEq, Value.int.injEq, true_and]; omega) | (simp; done) | (simp; omega)))⟩, ⟨_, rfl, .p (.of_eq (by first | (rw [← Pl.word_top hx hb1]; done) | (rw [Pl.dig_step hx hb1 (show 1 ≤ v by omega) hv]; done) | trace_state))⟩, ⟨_, rfl, .p (.of_eq (by first | rfl | (simp only [PV.lit.injEq, Value.int.injEq, true_and]; omega) | (simp; done) | (simp; omega)))⟩, trivial⟩ trivial, by omega⟩
    · -- branch 6
      try simp only [hbx] at hb
      refine awp_exit ((if_pos rfl).mpr ?_)
      refine h2 _ ?_; clear h4; clear k4; clear h2; clear k2
      obtain rfl : v = 0 := by omega
      have f1 : x / 2 ^ (0 * b.toNat) = x % 18446744073709551616 := by rw [Nat.zero_mul, Int.pow_zero, Int.ediv_one]; omega
      have f2 : Pl.digW x (Pl.pas b) b = 0 := if_neg (by omega)
      have f3 : Pl.digW x (-1) b = 0 := if_neg (by omega)
      refine awp_test [] 4 (decide (True)) [] (by rw [hC]; rfl) (fun gd hgd k hk => ?_) ?_
      · have g4 : gd 4 = some 44 := by rw [hgd]; rfl
        have g10 : gd 10 = some 50 := by rw [hgd]; rfl
        have g17 : gd 17 = some 57 := by rw [hgd]; rfl
        have g24 : gd 24 = some 64 := by rw [hgd]; rfl
        clear hgd
        simp (maxSteps := 4000000) (disch := first | omega | (simp only [lens]; omega)) only [argSl, sm, ↓amb, mark_eq, ↓reduceIte, reduceCtorEq, Int.reduceBEq, Int.reduceBNe, Int.reduceToNat, Nat.reduceEqDiff, Nat.reduceAdd, Nat.reduceSub, Nat.reduceMul, Nat.reduceDiv, Nat.reduceMod, Nat.reduceLeDiff, Nat.reduceBEq, it69, un28, en48, gcase_undef, g4, g10, g17, g24, wr_u32, wr_u64, dx]
        repeat' first | refine hk _ _ rfl rfl rfl rfl ?_ | (refine gsplit (fun hg => ?_) (fun hg => ?_) <;> (try simp only [hbx] at hg) <;> simp (maxSteps := 4000000) (disch := first | omega | (simp only [lens]; omega)) only [argSl, sm, ↓amb, mark_eq, ↓reduceIte, reduceCtorEq, Int.reduceBEq, Int.reduceBNe, Int.reduceToNat, Nat.reduceEqDiff, Nat.reduceAdd, Nat.reduceSub, Nat.reduceMul, Nat.reduceDiv, Nat.reduceMod, Nat.reduceLeDiff, Nat.reduceBEq, it69, un28, en48, gcase_undef, g4, g10, g17, g24, wr_u32, wr_u64, dx]) | apply And.intro | (refine callK_p (c_radix_Digit _ _ _ hx) rfl ?_; (try simp (maxSteps := 4000000) (disch := first | omega | (simp only [lens]; omega)) only [argSl, sm, ↓amb, mark_eq, ↓reduceIte, reduceCtorEq, Int.reduceBEq, Int.reduceBNe, Int.reduceToNat, Nat.reduceEqDiff, Nat.reduceAdd, Nat.reduceSub, Nat.reduceMul, Nat.reduceDiv, Nat.reduceMod, Nat.reduceLeDiff, Nat.reduceBEq, it69, un28, en48, gcase_undef, g4, g10, g17, g24, wr_u32, wr_u64, dx])) | (refine callK_p (c_radix_Digit _ _ _ hx) rfl ?_; (try simp (maxSteps := 4000000) (disch := first | omega | (simp only [lens]; omega)) only [argSl, sm, ↓amb, mark_eq, ↓reduceIte, reduceCtorEq, Int.reduceBEq, Int.reduceBNe, Int.reduceToNat, Nat.reduceEqDiff, Nat.reduceAdd, Nat.reduceSub, Nat.reduceMul, Nat.reduceDiv, Nat.reduceMod, Nat.reduceLeDiff, Nat.reduceBEq, it69, un28, en48, gcase_undef, g4, g10, g17, g24, wr_u32, wr_u64, dx])) | fail
        all_goals first | rfl | omega | exact (decide_eq_true (by omega)).symm | exact (decide_eq_false (by omega)).symm | exact decide_eq_decide.mpr (by omega) | (refine Bool.eq_iff_iff.mpr ?_; simp only [beq_iff_eq, bne_iff_ne, ne_eq, decide_eq_true_eq]; omega) | (refine Bool.eq_iff_iff.mpr ?_; simp only [Bool.not_eq_true', Bool.not_eq_false', decide_eq_false_iff_not, decide_eq_true_eq, beq_iff_eq, bne_iff_ne, ne_eq]; omega) | assumption | (simp; done) | (simp [maxLen]; omega) | skip
        all_goals first | exact absurd f1 hg | exact absurd f2 hg | exact absurd f3 hg | (exfalso; omega) | (rw [f3]; rfl) | (rw [decide_eq_true f3]; rfl) | trace_state
      simp only [kp, argSl, Nat.reduceEqDiff, ↓reduceIte, reduceCtorEq, Nat.reduceAdd, List.length_cons, List.length_nil]
      refine awp_ret ?_
      refine ret1 rfl rfl ?_
      exact .p (LeP.refl _)
end Go.Proofs.Ythelnccjcbnjfaa
