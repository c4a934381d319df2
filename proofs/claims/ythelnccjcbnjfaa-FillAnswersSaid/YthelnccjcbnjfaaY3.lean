/-
  Alive, of the statements of cells: true.
-/
import Derived.Test.YthelnccjcbnjfaaY2
set_option linter.unusedSimpArgs false
set_option linter.unusedVariables false
set_option maxRecDepth 100000
namespace Go.Proofs.Ythelnccjcbnjfaa
open Go.Am Go.Proofs
theorem bt23 : tBuilt Try.prog 23 = true := by kernel_rfl
theorem bt26 : tBuilt Try.prog 26 = true := by kernel_rfl
theorem en16 : enters Try.prog 16 = true := by kernel_rfl
theorem en22 : enters Try.prog 22 = true := by kernel_rfl
theorem en26 : enters Try.prog 26 = true := by kernel_rfl
theorem pl23_0 : tPlace Try.prog 23 0 = some (0, 1) := by kernel_rfl
theorem pl23_1 : tPlace Try.prog 23 1 = some (1, 1) := by kernel_rfl
theorem pl26_0 : tPlace Try.prog 26 0 = some (0, 1) := by kernel_rfl
theorem pl26_1 : tPlace Try.prog 26 1 = some (1, 1) := by kernel_rfl
theorem pl26_2 : tPlace Try.prog 26 2 = some (2, 1) := by kernel_rfl
theorem vr26 : tVar Try.prog 26 = some (true, [.lit (.int .i64 0), .lit (.int .i64 0), .seq true []]) := by kernel_rfl
set_option maxHeartbeats 4000000 in
theorem c_law07_alive : PCall Try.prog 15 [] (bV true) := by
 refine pcall_of_awp Try.func15 rfl (by simp [Try.ntmps15]) fun C hC => ?_
 refine awp_le (le_keep []) ?_
 simp only [kp, argSl, simprocAttr]
 have a1 := c_fill_Order true 3 (⟨1, 2, [(0, 0), (1, 0)]⟩ : Pl.Plan)
 rw [show Pl.ordU 3 (⟨1, 2, [(0, 0), (1, 0)]⟩ : Pl.Plan) = ([0, 1, 2] : List Int) from by decide +kernel] at a1
 rw [show Pl.ordS 3 (⟨1, 2, [(0, 0), (1, 0)]⟩ : Pl.Plan) = 6 from by decide +kernel] at a1
 rw [show Pl.ordE 3 (⟨1, 2, [(0, 0), (1, 0)]⟩ : Pl.Plan) = 0 from by decide +kernel] at a1
 have a2 := c_fill_Fill true true ([1, 2, 4294967295] : List Int) 1 10 (⟨1, 2, [(0, 0), (1, 0)]⟩ : Pl.Plan) (by decide) ⟨by decide, by decide⟩ (by decide)
 rw [show Pl.celL ([1, 2, 4294967295] : List Int).length (fun j => Pl.one (([1, 2, 4294967295] : List Int).getD j 0) 1 10) 1 (⟨1, 2, [(0, 0), (1, 0)]⟩ : Pl.Plan) = ([11, 12, 9] : List Int) from by decide +kernel] at a2
 rw [show Pl.celS ([1, 2, 4294967295] : List Int).length 1 (⟨1, 2, [(0, 0), (1, 0)]⟩ : Pl.Plan) = 6 from by decide +kernel] at a2
 rw [show Pl.celE ([1, 2, 4294967295] : List Int).length 1 (⟨1, 2, [(0, 0), (1, 0)]⟩ : Pl.Plan) = 0 from by decide +kernel] at a2
 have a3 := c_fill_Zip true true true ([1, 2] : List Int) ([5, 1] : List Int) 3 (⟨1, 2, [(0, 0), (1, 0)]⟩ : Pl.Plan) (by decide) (by decide) (by decide)
 rw [show (if ([1, 2] : List Int).length = ([5, 1] : List Int).length then Pl.celL ([1, 2] : List Int).length (fun j => Pl.one (([1, 2] : List Int).getD j 0) 3 (([5, 1] : List Int).getD j 0)) 3 (⟨1, 2, [(0, 0), (1, 0)]⟩ : Pl.Plan) else []) = ([32, 4] : List Int) from by decide +kernel] at a3
 rw [show (if ([1, 2] : List Int).length = ([5, 1] : List Int).length then Pl.celS ([1, 2] : List Int).length 3 (⟨1, 2, [(0, 0), (1, 0)]⟩ : Pl.Plan) else 0) = 3 from by decide +kernel] at a3
 rw [show (if ([1, 2] : List Int).length = ([5, 1] : List Int).length then Pl.celE ([1, 2] : List Int).length 3 (⟨1, 2, [(0, 0), (1, 0)]⟩ : Pl.Plan) else 1) = 0 from by decide +kernel] at a3
 have a4 := c_fill_Fill true true ([] : List Int) 7 0 (⟨1, 2, [(0, 0), (1, 0)]⟩ : Pl.Plan) (by decide) ⟨by decide, by decide⟩ (by decide)
 rw [show Pl.celL ([] : List Int).length (fun j => Pl.one (([] : List Int).getD j 0) 7 0) 7 (⟨1, 2, [(0, 0), (1, 0)]⟩ : Pl.Plan) = ([] : List Int) from by decide +kernel] at a4
 rw [show Pl.celS ([] : List Int).length 7 (⟨1, 2, [(0, 0), (1, 0)]⟩ : Pl.Plan) = 0 from by decide +kernel] at a4
 rw [show Pl.celE ([] : List Int).length 7 (⟨1, 2, [(0, 0), (1, 0)]⟩ : Pl.Plan) = 1 from by decide +kernel] at a4
 have a5 := c_ref07_Words false true ([11, 12, 9] : List Int) ([11, 12, 9] : List Int) (by decide)
 have a6 := c_ref07_Words false true ([32, 4] : List Int) ([32, 4] : List Int) (by decide)
 have a7 := c_fill_One 6 5 3 ⟨by decide, by decide⟩ ⟨by decide, by decide⟩
 rw [show Pl.one 6 5 3 = 2 from by decide +kernel] at a7
 have a8 := c_fill_Right true (⟨1, 2, [(0, 0), (1, 0)]⟩ : Pl.Plan)
 rw [show decide (Pl.planRight (⟨1, 2, [(0, 0), (1, 0)]⟩ : Pl.Plan)) = true from by decide] at a8
 refine awp_sr [] (by rw [hC]; rfl) fun k hk => ?_
 simp (maxSteps := 9^9) (disch := (try simp only [lens]); omega) only [argSl, sm, ↓amb, mark_eq, simprocAttr, dx]
 repeat refine ⟨by first | omega | (simp; done) | (unfold maxLen; omega) | (simp [maxLen]; omega) | assumption, ?_⟩
 refine hk _ ?_; clear hk k
 refine awp_le (le_keep []) ?_
 simp only [kp, argSl, simprocAttr]
 refine awp_sr [] (by rw [hC]; rfl) fun k hk => ?_
 simp (maxSteps := 9^9) (disch := (try simp only [lens]); omega) only [argSl, sm, ↓amb, mark_eq, simprocAttr, vr23, bt23, pl23_0, pl23_1, el24, vr26, bt26, pl26_0, pl26_1, pl26_2, sz26, dx]
 repeat refine ⟨by first | omega | (simp; done) | (unfold maxLen; omega) | (simp [maxLen]; omega) | assumption, ?_⟩
 refine hk _ ?_; clear hk k
 refine awp_le (le_keep [1]) ?_
 simp only [kp, argSl, simprocAttr]
 refine awp_sr [] (by rw [hC]; rfl) fun k hk => ?_
 simp (maxSteps := 9^9) (disch := (try simp only [lens]); omega) only [argSl, sm, ↓amb, mark_eq, simprocAttr, sz26, en18, dx]
 repeat refine ⟨by first | omega | (simp; done) | (unfold maxLen; omega) | (simp [maxLen]; omega) | assumption, ?_⟩
 refine callK_p (a1) rfl ?_
 simp (maxSteps := 9^9) (disch := (try simp only [lens]); omega) only [argSl, sm, ↓amb, mark_eq, simprocAttr, sz26, en18, dx]
 repeat refine ⟨by first | omega | (simp; done) | (unfold maxLen; omega) | (simp [maxLen]; omega) | assumption, ?_⟩
 refine hk _ ?_; clear hk k
 refine awp_le (le_keep [1, 2, 3, 4]) ?_
 simp only [kp, argSl, simprocAttr]
 refine awp_sr [] (by rw [hC]; rfl) fun k hk => ?_
 simp (maxSteps := 9^9) (disch := (try simp only [lens]); omega) only [argSl, sm, ↓amb, mark_eq, simprocAttr, el22, vr28, sz26, en16, dx]
 repeat refine ⟨by first | omega | (simp; done) | (unfold maxLen; omega) | (simp [maxLen]; omega) | assumption, ?_⟩
 refine callK_p (a2) rfl ?_
 simp (maxSteps := 9^9) (disch := (try simp only [lens]); omega) only [argSl, sm, ↓amb, mark_eq, simprocAttr, el22, vr28, sz26, en16, dx]
 repeat refine ⟨by first | omega | (simp; done) | (unfold maxLen; omega) | (simp [maxLen]; omega) | assumption, ?_⟩
 refine hk _ ?_; clear hk k
 refine awp_le (le_keep [1, 2, 3, 4, 5, 6, 7]) ?_
 simp only [kp, argSl, simprocAttr]
 refine awp_sr [] (by rw [hC]; rfl) fun k hk => ?_
 simp (maxSteps := 9^9) (disch := (try simp only [lens]); omega) only [argSl, sm, ↓amb, mark_eq, simprocAttr, el22, vr28, sz26, en26, dx]
 repeat refine ⟨by first | omega | (simp; done) | (unfold maxLen; omega) | (simp [maxLen]; omega) | assumption, ?_⟩
 refine callK_p (a3) rfl ?_
 simp (maxSteps := 9^9) (disch := (try simp only [lens]); omega) only [argSl, sm, ↓amb, mark_eq, simprocAttr, el22, vr28, sz26, en26, dx]
 repeat refine ⟨by first | omega | (simp; done) | (unfold maxLen; omega) | (simp [maxLen]; omega) | assumption, ?_⟩
 refine hk _ ?_; clear hk k
 refine awp_le (le_keep [1, 2, 3, 4, 5, 6, 7, 8, 9, 10]) ?_
 simp only [kp, argSl, simprocAttr]
 refine awp_sr [] (by rw [hC]; rfl) fun k hk => ?_
 simp (maxSteps := 9^9) (disch := (try simp only [lens]); omega) only [argSl, sm, ↓amb, mark_eq, simprocAttr, sz26, en16, dx]
 repeat refine ⟨by first | omega | (simp; done) | (unfold maxLen; omega) | (simp [maxLen]; omega) | assumption, ?_⟩
 refine callK_p (a4) rfl ?_
 simp (maxSteps := 9^9) (disch := (try simp only [lens]); omega) only [argSl, sm, ↓amb, mark_eq, simprocAttr, sz26, en16, dx]
 repeat refine ⟨by first | omega | (simp; done) | (unfold maxLen; omega) | (simp [maxLen]; omega) | assumption, ?_⟩
 refine hk _ ?_; clear hk k
 refine awp_test [] 0 (decide (True)) [] (by rw [hC]; rfl) (fun gd hgd k hk => ?_) ?_
 ·have g2 : gd 2 = some 47 := by rw [hgd]; rfl
  have g6 : gd 6 = some 51 := by rw [hgd]; rfl
  have g10 : gd 10 = some 55 := by rw [hgd]; rfl
  have g14 : gd 14 = some 59 := by rw [hgd]; rfl
  have g19 : gd 19 = some 64 := by rw [hgd]; rfl
  have g24 : gd 24 = some 69 := by rw [hgd]; rfl
  have g28 : gd 28 = some 73 := by rw [hgd]; rfl
  have g33 : gd 33 = some 78 := by rw [hgd]; rfl
  have g38 : gd 38 = some 83 := by rw [hgd]; rfl
  have g42 : gd 42 = some 87 := by rw [hgd]; rfl
  have g46 : gd 46 = some 91 := by rw [hgd]; rfl
  clear hgd
  simp (maxSteps := 9^9) (disch := (try simp only [lens]); omega) only [argSl, sm, ↓amb, mark_eq, simprocAttr, el32, el22, vr28, en22, en20, sz26, en24, gcase_undef, g2, g6, g10, g14, g19, g24, g28, g33, g38, g42, g46, dx]
  repeat' first | refine hk _ _ rfl rfl rfl rfl ?_ | (refine gsplit (fun hg => ?_) (fun hg => ?_) <;> (try simp only [hbx] at hg) <;> simp (maxSteps := 9^9) (disch := (try simp only [lens]); omega) only [argSl, sm, ↓amb, mark_eq, simprocAttr, el32, el22, vr28, en22, en20, sz26, en24, gcase_undef, g2, g6, g10, g14, g19, g24, g28, g33, g38, g42, g46, dx]) | apply And.intro | (refine callK_p (a5) rfl ?_; (try simp (maxSteps := 9^9) (disch := (try simp only [lens]); omega) only [argSl, sm, ↓amb, mark_eq, simprocAttr, el32, el22, vr28, en22, en20, sz26, en24, gcase_undef, g2, g6, g10, g14, g19, g24, g28, g33, g38, g42, g46, dx])) | (refine callK_p (a6) rfl ?_; (try simp (maxSteps := 9^9) (disch := (try simp only [lens]); omega) only [argSl, sm, ↓amb, mark_eq, simprocAttr, el32, el22, vr28, en22, en20, sz26, en24, gcase_undef, g2, g6, g10, g14, g19, g24, g28, g33, g38, g42, g46, dx])) | (refine callK_p (a7) rfl ?_; (try simp (maxSteps := 9^9) (disch := (try simp only [lens]); omega) only [argSl, sm, ↓amb, mark_eq, simprocAttr, el32, el22, vr28, en22, en20, sz26, en24, gcase_undef, g2, g6, g10, g14, g19, g24, g28, g33, g38, g42, g46, dx])) | (refine callK_p (a8) rfl ?_; (try simp (maxSteps := 9^9) (disch := (try simp only [lens]); omega) only [argSl, sm, ↓amb, mark_eq, simprocAttr, el32, el22, vr28, en22, en20, sz26, en24, gcase_undef, g2, g6, g10, g14, g19, g24, g28, g33, g38, g42, g46, dx])) | fail
  all_goals first | rfl | omega | exact (decide_eq_true (by omega)).symm | exact (decide_eq_false (by omega)).symm | exact decide_eq_decide.mpr (by omega) | (refine Bool.eq_iff_iff.mpr ?_; simp only [beq_iff_eq, bne_iff_ne, ne_eq, decide_eq_true_eq]; omega) | (refine Bool.eq_iff_iff.mpr ?_; simp only [Bool.not_eq_true', Bool.not_eq_false', decide_eq_false_iff_not, decide_eq_true_eq, beq_iff_eq, bne_iff_ne, ne_eq]; omega) | assumption | (simp; done) | (simp [maxLen]; omega) | skip
 simp only [kp, argSl, simprocAttr, List.length_cons, List.length_nil]
 refine awp_ret ?_
 refine ret1 rfl rfl ?_
 exact .p (LeP.refl _)
end Go.Proofs.Ythelnccjcbnjfaa
