/-
  Alive, of the statements of radix: true.
-/
import Derived.Test.YthelnccjcbnjfaaS6
set_option linter.unusedSimpArgs false
set_option linter.unusedVariables false
set_option maxRecDepth 100000
namespace Go.Proofs.Ythelnccjcbnjfaa
open Go.Am Go.Proofs
theorem bt26 : tBuilt Try.prog 26 = true := by kernel_rfl
theorem en22 : enters Try.prog 22 = true := by kernel_rfl
theorem en42 : enters Try.prog 42 = true := by kernel_rfl
theorem en44 : enters Try.prog 44 = true := by kernel_rfl
theorem en50 : enters Try.prog 50 = true := by kernel_rfl
theorem pl26_0 : tPlace Try.prog 26 0 = some (0, 1) := by kernel_rfl
theorem pl26_1 : tPlace Try.prog 26 1 = some (1, 1) := by kernel_rfl
theorem vr26 : tVar Try.prog 26 = some (true, [.lit (.int .i64 0), .lit (.int .i64 0), .seq true []]) := by kernel_rfl
set_option maxHeartbeats 4000000 in
theorem c_law10_alive : PCall Try.prog 41 [] (bV true) := by
  refine pcall_of_awp Try.func41 rfl (by simp [Try.ntmps41]) fun C hC => ?_
  refine awp_le (le_keep []) ?_
  simp only [kp, argSl, Nat.reduceEqDiff, ↓reduceIte, reduceCtorEq, Nat.reduceAdd]
  have a1 := c_radix_Sort true true ([196609, 7, 131073, 7] : List Int) 8 2 (⟨1, 1, []⟩ : Pl.Plan) (by decide) (by decide)
  rw [show Pl.raL ([196609, 7, 131073, 7] : List Int) 8 2 (⟨1, 1, []⟩ : Pl.Plan) = ([1, 3, 2, 0] : List Int) from by decide +kernel] at a1
  rw [show Pl.raS ([196609, 7, 131073, 7] : List Int).length 8 2 (⟨1, 1, []⟩ : Pl.Plan) = 24 from by decide +kernel] at a1
  rw [show Pl.raE ([196609, 7, 131073, 7] : List Int).length 8 2 (⟨1, 1, []⟩ : Pl.Plan) = 0 from by decide +kernel] at a1
  have a2 := c_radix_Sorted true false ([196609, 7, 131073, 7] : List Int) ([1, 3, 2, 0] : List Int) (by decide) (Pl.i64_of (by decide : ∀ x, x ∈ ([1, 3, 2, 0] : List Int) → 0 ≤ x ∧ x < 4)) (by decide) (by decide)
  rw [show (if Pl.onceP ([1, 3, 2, 0] : List Int) ([196609, 7, 131073, 7] : List Int).length then Pl.sortedL ([196609, 7, 131073, 7] : List Int) ([1, 3, 2, 0] : List Int) else []) = ([7, 7, 131073, 196609] : List Int) from by decide +kernel] at a2
  rw [show decide (Pl.onceP ([1, 3, 2, 0] : List Int) ([196609, 7, 131073, 7] : List Int).length) = true from by decide +kernel] at a2
  have h3 : Pl.passP ([196609, 7, 131073, 7] : List Int) ([0, 1, 2, 3] : List Int) 0 16 = ([0, 2, 1, 3] : List Int) := (if_pos (by decide +kernel)).trans ((Pl.bucket_more (B := 8) (by decide) (by decide +kernel)).trans (by decide +kernel))
  have a3 := c_radix_Pass true true ([196609, 7, 131073, 7] : List Int) ([0, 1, 2, 3] : List Int) 0 16 (by decide) (Pl.i64_of (by decide : ∀ x, x ∈ ([0, 1, 2, 3] : List Int) → 0 ≤ x ∧ x < 4)) (by decide) (by decide)
  rw [h3, show decide (Pl.onceP ([0, 1, 2, 3] : List Int) ([196609, 7, 131073, 7] : List Int).length ∧ (0 : Int) ≤ 0 ∧ 0 < Pl.pas 16) = true from by decide +kernel] at a3
  have a4 := c_radix_Pass true true ([196609, 7, 131073, 7] : List Int) ([0, 1, 2, 2] : List Int) 0 16 (by decide) (Pl.i64_of (by decide : ∀ x, x ∈ ([0, 1, 2, 2] : List Int) → 0 ≤ x ∧ x < 4)) (by decide) (by decide)
  rw [show Pl.passP ([196609, 7, 131073, 7] : List Int) ([0, 1, 2, 2] : List Int) 0 16 = [] from if_neg (by decide +kernel), show decide (Pl.onceP ([0, 1, 2, 2] : List Int) ([196609, 7, 131073, 7] : List Int).length ∧ (0 : Int) ≤ 0 ∧ 0 < Pl.pas 16) = false from by decide +kernel] at a4
  have a5 := c23 false true ([1, 3, 2, 0] : List Int) ([1, 3, 2, 0] : List Int) (by decide)
  have a6 := c_ref07_Words false true ([7, 7, 131073, 196609] : List Int) ([7, 7, 131073, 196609] : List Int) (by decide)
  have a7 := c23 false true ([0, 2, 1, 3] : List Int) ([0, 2, 1, 3] : List Int) (by decide)
  have a8 := c_radix_Passes 5
  rw [show Pl.pas 5 = 7 from by decide +kernel] at a8
  have a9 := c_radix_Digit 196609 2 8 ⟨by decide, by decide⟩
  rw [show Pl.digW 196609 2 8 = 3 from by decide +kernel] at a9
  refine awp_sr [] (by rw [hC]; rfl) fun k hk => ?_
  simp (maxSteps := 4000000) (disch := first | omega | (simp only [lens]; omega)) only [argSl, sm, ↓amb, mark_eq, ↓reduceIte, reduceCtorEq, Int.reduceBEq, Int.reduceBNe, Int.reduceToNat, Nat.reduceEqDiff, Nat.reduceAdd, Nat.reduceSub, Nat.reduceMul, Nat.reduceDiv, Nat.reduceMod, Nat.reduceLeDiff, Nat.reduceBEq, dx]
  (repeat (refine ⟨by first | omega | (simp; done) | assumption | (unfold maxLen; omega) | (simp [maxLen]; omega), ?_⟩)); refine hk _ ?_; clear hk; clear k
  refine awp_le (le_keep []) ?_
  simp only [kp, argSl, Nat.reduceEqDiff, ↓reduceIte, reduceCtorEq, Nat.reduceAdd]
  refine awp_sr [] (by rw [hC]; rfl) fun k hk => ?_
  simp (maxSteps := 4000000) (disch := first | omega | (simp only [lens]; omega)) only [argSl, sm, ↓amb, mark_eq, ↓reduceIte, reduceCtorEq, Int.reduceBEq, Int.reduceBNe, Int.reduceToNat, Nat.reduceEqDiff, Nat.reduceAdd, Nat.reduceSub, Nat.reduceMul, Nat.reduceDiv, Nat.reduceMod, Nat.reduceLeDiff, Nat.reduceBEq, vr26, bt26, pl26_0, pl26_1, sz26, dx]
  (repeat (refine ⟨by first | omega | (simp; done) | assumption | (unfold maxLen; omega) | (simp [maxLen]; omega), ?_⟩)); refine hk _ ?_; clear hk; clear k
  refine awp_le (le_keep [1]) ?_
  simp only [kp, argSl, Nat.reduceEqDiff, ↓reduceIte, reduceCtorEq, Nat.reduceAdd]
  refine awp_sr [] (by rw [hC]; rfl) fun k hk => ?_
  simp (maxSteps := 4000000) (disch := first | omega | (simp only [lens]; omega)) only [argSl, sm, ↓amb, mark_eq, ↓reduceIte, reduceCtorEq, Int.reduceBEq, Int.reduceBNe, Int.reduceToNat, Nat.reduceEqDiff, Nat.reduceAdd, Nat.reduceSub, Nat.reduceMul, Nat.reduceDiv, Nat.reduceMod, Nat.reduceLeDiff, Nat.reduceBEq, el22, vr28, dx]
  (repeat (refine ⟨by first | omega | (simp; done) | assumption | (unfold maxLen; omega) | (simp [maxLen]; omega), ?_⟩)); refine hk _ ?_; clear hk; clear k
  refine awp_le (le_keep [1, 2]) ?_
  simp only [kp, argSl, Nat.reduceEqDiff, ↓reduceIte, reduceCtorEq, Nat.reduceAdd]
  refine awp_sr [] (by rw [hC]; rfl) fun k hk => ?_
  simp (maxSteps := 4000000) (disch := first | omega | (simp only [lens]; omega)) only [argSl, sm, ↓amb, mark_eq, ↓reduceIte, reduceCtorEq, Int.reduceBEq, Int.reduceBNe, Int.reduceToNat, Nat.reduceEqDiff, Nat.reduceAdd, Nat.reduceSub, Nat.reduceMul, Nat.reduceDiv, Nat.reduceMod, Nat.reduceLeDiff, Nat.reduceBEq, sz26, en50, dx]
  (repeat (refine ⟨by first | omega | (simp; done) | assumption | (unfold maxLen; omega) | (simp [maxLen]; omega), ?_⟩))
  refine callK_p (a1) rfl ?_
  simp (maxSteps := 4000000) (disch := first | omega | (simp only [lens]; omega)) only [argSl, sm, ↓amb, mark_eq, ↓reduceIte, reduceCtorEq, Int.reduceBEq, Int.reduceBNe, Int.reduceToNat, Nat.reduceEqDiff, Nat.reduceAdd, Nat.reduceSub, Nat.reduceMul, Nat.reduceDiv, Nat.reduceMod, Nat.reduceLeDiff, Nat.reduceBEq, sz26, en50, dx]
  (repeat (refine ⟨by first | omega | (simp; done) | assumption | (unfold maxLen; omega) | (simp [maxLen]; omega), ?_⟩)); refine hk _ ?_; clear hk; clear k
  refine awp_le (le_keep [2, 3, 4, 5]) ?_
  simp only [kp, argSl, Nat.reduceEqDiff, ↓reduceIte, reduceCtorEq, Nat.reduceAdd]
  refine awp_sr [] (by rw [hC]; rfl) fun k hk => ?_
  simp (maxSteps := 4000000) (disch := first | omega | (simp only [lens]; omega)) only [argSl, sm, ↓amb, mark_eq, ↓reduceIte, reduceCtorEq, Int.reduceBEq, Int.reduceBNe, Int.reduceToNat, Nat.reduceEqDiff, Nat.reduceAdd, Nat.reduceSub, Nat.reduceMul, Nat.reduceDiv, Nat.reduceMod, Nat.reduceLeDiff, Nat.reduceBEq, en44, dx]
  (repeat (refine ⟨by first | omega | (simp; done) | assumption | (unfold maxLen; omega) | (simp [maxLen]; omega), ?_⟩))
  refine callK_p (a2) rfl ?_
  simp (maxSteps := 4000000) (disch := first | omega | (simp only [lens]; omega)) only [argSl, sm, ↓amb, mark_eq, ↓reduceIte, reduceCtorEq, Int.reduceBEq, Int.reduceBNe, Int.reduceToNat, Nat.reduceEqDiff, Nat.reduceAdd, Nat.reduceSub, Nat.reduceMul, Nat.reduceDiv, Nat.reduceMod, Nat.reduceLeDiff, Nat.reduceBEq, en44, dx]
  (repeat (refine ⟨by first | omega | (simp; done) | assumption | (unfold maxLen; omega) | (simp [maxLen]; omega), ?_⟩)); refine hk _ ?_; clear hk; clear k
  refine awp_le (le_keep [2, 3, 4, 5, 6, 7]) ?_
  simp only [kp, argSl, Nat.reduceEqDiff, ↓reduceIte, reduceCtorEq, Nat.reduceAdd]
  refine awp_sr [] (by rw [hC]; rfl) fun k hk => ?_
  simp (maxSteps := 4000000) (disch := first | omega | (simp only [lens]; omega)) only [argSl, sm, ↓amb, mark_eq, ↓reduceIte, reduceCtorEq, Int.reduceBEq, Int.reduceBNe, Int.reduceToNat, Nat.reduceEqDiff, Nat.reduceAdd, Nat.reduceSub, Nat.reduceMul, Nat.reduceDiv, Nat.reduceMod, Nat.reduceLeDiff, Nat.reduceBEq, el32, vr3, en42, dx]
  (repeat (refine ⟨by first | omega | (simp; done) | assumption | (unfold maxLen; omega) | (simp [maxLen]; omega), ?_⟩))
  refine callK_p (a3) rfl ?_
  simp (maxSteps := 4000000) (disch := first | omega | (simp only [lens]; omega)) only [argSl, sm, ↓amb, mark_eq, ↓reduceIte, reduceCtorEq, Int.reduceBEq, Int.reduceBNe, Int.reduceToNat, Nat.reduceEqDiff, Nat.reduceAdd, Nat.reduceSub, Nat.reduceMul, Nat.reduceDiv, Nat.reduceMod, Nat.reduceLeDiff, Nat.reduceBEq, el32, vr3, en42, dx]
  (repeat (refine ⟨by first | omega | (simp; done) | assumption | (unfold maxLen; omega) | (simp [maxLen]; omega), ?_⟩)); refine hk _ ?_; clear hk; clear k
  refine awp_le (le_keep [2, 3, 4, 5, 6, 7, 8, 9]) ?_
  simp only [kp, argSl, Nat.reduceEqDiff, ↓reduceIte, reduceCtorEq, Nat.reduceAdd]
  refine awp_sr [] (by rw [hC]; rfl) fun k hk => ?_
  simp (maxSteps := 4000000) (disch := first | omega | (simp only [lens]; omega)) only [argSl, sm, ↓amb, mark_eq, ↓reduceIte, reduceCtorEq, Int.reduceBEq, Int.reduceBNe, Int.reduceToNat, Nat.reduceEqDiff, Nat.reduceAdd, Nat.reduceSub, Nat.reduceMul, Nat.reduceDiv, Nat.reduceMod, Nat.reduceLeDiff, Nat.reduceBEq, el32, vr3, en42, dx]
  (repeat (refine ⟨by first | omega | (simp; done) | assumption | (unfold maxLen; omega) | (simp [maxLen]; omega), ?_⟩))
  refine callK_p (a4) rfl ?_
  simp (maxSteps := 4000000) (disch := first | omega | (simp only [lens]; omega)) only [argSl, sm, ↓amb, mark_eq, ↓reduceIte, reduceCtorEq, Int.reduceBEq, Int.reduceBNe, Int.reduceToNat, Nat.reduceEqDiff, Nat.reduceAdd, Nat.reduceSub, Nat.reduceMul, Nat.reduceDiv, Nat.reduceMod, Nat.reduceLeDiff, Nat.reduceBEq, el32, vr3, en42, dx]
  (repeat (refine ⟨by first | omega | (simp; done) | assumption | (unfold maxLen; omega) | (simp [maxLen]; omega), ?_⟩)); refine hk _ ?_; clear hk; clear k
  refine awp_test [] 0 (decide (True)) [] (by rw [hC]; rfl) (fun gd hgd k hk => ?_) ?_
  · have g2 : gd 2 = some 41 := by rw [hgd]; rfl
    have g6 : gd 6 = some 45 := by rw [hgd]; rfl
    have g11 : gd 11 = some 50 := by rw [hgd]; rfl
    have g14 : gd 14 = some 53 := by rw [hgd]; rfl
    have g19 : gd 19 = some 58 := by rw [hgd]; rfl
    have g22 : gd 22 = some 61 := by rw [hgd]; rfl
    have g26 : gd 26 = some 65 := by rw [hgd]; rfl
    have g31 : gd 31 = some 70 := by rw [hgd]; rfl
    have g35 : gd 35 = some 74 := by rw [hgd]; rfl
    clear hgd
    simp (maxSteps := 4000000) (disch := first | omega | (simp only [lens]; omega)) only [argSl, sm, ↓amb, mark_eq, ↓reduceIte, reduceCtorEq, Int.reduceBEq, Int.reduceBNe, Int.reduceToNat, Nat.reduceEqDiff, Nat.reduceAdd, Nat.reduceSub, Nat.reduceMul, Nat.reduceDiv, Nat.reduceMod, Nat.reduceLeDiff, Nat.reduceBEq, el32, vr3, en23, el22, vr28, en22, en46, en48, gcase_undef, g2, g6, g11, g14, g19, g22, g26, g31, g35, dx]
    repeat' first | refine hk _ _ rfl rfl rfl rfl ?_ | (refine gsplit (fun hg => ?_) (fun hg => ?_) <;> (try simp only [hbx] at hg) <;> simp (maxSteps := 4000000) (disch := first | omega | (simp only [lens]; omega)) only [argSl, sm, ↓amb, mark_eq, ↓reduceIte, reduceCtorEq, Int.reduceBEq, Int.reduceBNe, Int.reduceToNat, Nat.reduceEqDiff, Nat.reduceAdd, Nat.reduceSub, Nat.reduceMul, Nat.reduceDiv, Nat.reduceMod, Nat.reduceLeDiff, Nat.reduceBEq, el32, vr3, en23, el22, vr28, en22, en46, en48, gcase_undef, g2, g6, g11, g14, g19, g22, g26, g31, g35, dx]) | apply And.intro | (refine callK_p (a5) rfl ?_; (try simp (maxSteps := 4000000) (disch := first | omega | (simp only [lens]; omega)) only [argSl, sm, ↓amb, mark_eq, ↓reduceIte, reduceCtorEq, Int.reduceBEq, Int.reduceBNe, Int.reduceToNat, Nat.reduceEqDiff, Nat.reduceAdd, Nat.reduceSub, Nat.reduceMul, Nat.reduceDiv, Nat.reduceMod, Nat.reduceLeDiff, Nat.reduceBEq, el32, vr3, en23, el22, vr28, en22, en46, en48, gcase_undef, g2, g6, g11, g14, g19, g22, g26, g31, g35, dx])) | (refine callK_p (a6) rfl ?_; (try simp (maxSteps := 4000000) (disch := first | omega | (simp only [lens]; omega)) only [argSl, sm, ↓amb, mark_eq, ↓reduceIte, reduceCtorEq, Int.reduceBEq, Int.reduceBNe, Int.reduceToNat, Nat.reduceEqDiff, Nat.reduceAdd, Nat.reduceSub, Nat.reduceMul, Nat.reduceDiv, Nat.reduceMod, Nat.reduceLeDiff, Nat.reduceBEq, el32, vr3, en23, el22, vr28, en22, en46, en48, gcase_undef, g2, g6, g11, g14, g19, g22, g26, g31, g35, dx])) | (refine callK_p (a7) rfl ?_; (try simp (maxSteps := 4000000) (disch := first | omega | (simp only [lens]; omega)) only [argSl, sm, ↓amb, mark_eq, ↓reduceIte, reduceCtorEq, Int.reduceBEq, Int.reduceBNe, Int.reduceToNat, Nat.reduceEqDiff, Nat.reduceAdd, Nat.reduceSub, Nat.reduceMul, Nat.reduceDiv, Nat.reduceMod, Nat.reduceLeDiff, Nat.reduceBEq, el32, vr3, en23, el22, vr28, en22, en46, en48, gcase_undef, g2, g6, g11, g14, g19, g22, g26, g31, g35, dx])) | (refine callK_p (a8) rfl ?_; (try simp (maxSteps := 4000000) (disch := first | omega | (simp only [lens]; omega)) only [argSl, sm, ↓amb, mark_eq, ↓reduceIte, reduceCtorEq, Int.reduceBEq, Int.reduceBNe, Int.reduceToNat, Nat.reduceEqDiff, Nat.reduceAdd, Nat.reduceSub, Nat.reduceMul, Nat.reduceDiv, Nat.reduceMod, Nat.reduceLeDiff, Nat.reduceBEq, el32, vr3, en23, el22, vr28, en22, en46, en48, gcase_undef, g2, g6, g11, g14, g19, g22, g26, g31, g35, dx])) | (refine callK_p (a9) rfl ?_; (try simp (maxSteps := 4000000) (disch := first | omega | (simp only [lens]; omega)) only [argSl, sm, ↓amb, mark_eq, ↓reduceIte, reduceCtorEq, Int.reduceBEq, Int.reduceBNe, Int.reduceToNat, Nat.reduceEqDiff, Nat.reduceAdd, Nat.reduceSub, Nat.reduceMul, Nat.reduceDiv, Nat.reduceMod, Nat.reduceLeDiff, Nat.reduceBEq, el32, vr3, en23, el22, vr28, en22, en46, en48, gcase_undef, g2, g6, g11, g14, g19, g22, g26, g31, g35, dx])) | fail
    all_goals first | rfl | omega | exact (decide_eq_true (by omega)).symm | exact (decide_eq_false (by omega)).symm | exact decide_eq_decide.mpr (by omega) | (refine Bool.eq_iff_iff.mpr ?_; simp only [beq_iff_eq, bne_iff_ne, ne_eq, decide_eq_true_eq]; omega) | (refine Bool.eq_iff_iff.mpr ?_; simp only [Bool.not_eq_true', Bool.not_eq_false', decide_eq_false_iff_not, decide_eq_true_eq, beq_iff_eq, bne_iff_ne, ne_eq]; omega) | assumption | (simp; done) | (simp [maxLen]; omega) | skip
  simp only [kp, argSl, Nat.reduceEqDiff, ↓reduceIte, reduceCtorEq, Nat.reduceAdd, List.length_cons, List.length_nil]
  refine awp_ret ?_
  refine ret1 rfl rfl ?_
  exact .p (LeP.refl _)
end Go.Proofs.Ythelnccjcbnjfaa
