/-
  FillZips, walked.
-/
import Derived.Test.YthelnccjcbnjfaaRB
import Derived.Test.YthelnccjcbnjfaaY3
set_option linter.unusedSimpArgs false
set_option linter.unusedVariables false
set_option maxRecDepth 100000
namespace Go.Proofs.Ythelnccjcbnjfaa
open Go.Am Go.Proofs
theorem en15 : enters Try.prog 15 = true := by kernel_rfl
theorem en27 : enters Try.prog 27 = true := by kernel_rfl
theorem fl41_0 : tFld Try.prog 41 0 = some (0, 1, false) := by kernel_rfl
theorem fl41_1 : tFld Try.prog 41 1 = some (1, 3, true) := by kernel_rfl
set_option maxHeartbeats 4000000 in
theorem c_law07_FillZips (a b : List Int) (q : Int × Pl.Plan) (ha : ∀ x, x ∈ a → Pl.W32 x) (hb' : ∀ x, x ∈ b → Pl.W32 x) : PCall Try.prog 4 [words false a, words false b, .agg (iV q.1 :: planC false q.2)] (bV true) := by
 refine pcall_of_awp Try.func4 rfl (by simp [Try.ntmps4]) fun C hC => ?_
 refine awp_le (le_keep [0, 1, 2]) ?_
 simp only [kp, argSl, simprocAttr]
 refine awp_sr [] (by rw [hC]; rfl) fun k hk => ?_
 simp (maxSteps := 9^9) (disch := (try simp only [lens]); omega) only [argSl, sm, ↓amb, mark_eq, simprocAttr, dx]
 repeat refine ⟨by first | omega | (simp; done) | (unfold maxLen; omega) | (simp [maxLen]; omega) | assumption, ?_⟩
 refine hk _ ?_; clear hk k
 refine awp_seq fun k1 h1 => ?_
 refine awp_le (le_keep [0, 1, 5, 6]) ?_
 simp only [kp, argSl, simprocAttr]
 refine awp_sr [] (by rw [hC]; rfl) fun k hk => ?_
 simp (maxSteps := 9^9) (disch := (try simp only [lens]); omega) only [argSl, sm, ↓amb, mark_eq, simprocAttr, en15, dx]
 repeat refine ⟨by first | omega | (simp; done) | (unfold maxLen; omega) | (simp [maxLen]; omega) | assumption, ?_⟩
 refine callK_p (c_law07_alive) rfl ?_
 simp (maxSteps := 9^9) (disch := (try simp only [lens]); omega) only [argSl, sm, ↓amb, mark_eq, simprocAttr, en15, dx]
 repeat refine ⟨by first | omega | (simp; done) | (unfold maxLen; omega) | (simp [maxLen]; omega) | assumption, ?_⟩
 refine hk _ ?_; clear hk k
 refine awp_cond rfl (fun hb => ?_) (fun hb => ?_)
 ·try simp only [hbx] at hb
  refine awp_le (le_keep []) ?_
  simp only [kp, argSl, simprocAttr]
  refine awp_sr [] (by rw [hC]; rfl) fun k hk => ?_
  simp (maxSteps := 9^9) (disch := (try simp only [lens]); omega) only [argSl, sm, ↓amb, mark_eq, simprocAttr, dx]
  repeat refine ⟨by first | omega | (simp; done) | (unfold maxLen; omega) | (simp [maxLen]; omega) | assumption, ?_⟩
  refine hk _ ?_; clear hk k
  refine awp_ret ?_
  exact absurd hb (by simp)
 ·try simp only [hbx] at hb
  refine awp_skip ?_
  refine h1 _ ?_; clear h1 k1
  refine awp_seq fun k2 h2 => ?_
  refine awp_test [] 29 (decide (60 < a.length ∨ 60 < b.length ∨ 200 < q.2.picks.length)) [0, 1, 5, 6] (by rw [hC]; rfl) (fun gd hgd k hk => ?_) ?_
  ·have g3 : gd 3 = some 18 := by rw [hgd]; rfl
   have g8 : gd 8 = some 23 := by rw [hgd]; rfl
   clear hgd
   simp (maxSteps := 9^9) (disch := (try simp only [lens]); omega) only [argSl, sm, ↓amb, mark_eq, simprocAttr, el22, fl41_1, fl26_2, sz24, el24, gcase_undef, g3, g8, dx]
   repeat' first | refine hk _ _ rfl rfl rfl rfl ?_ | (refine gsplit (fun hg => ?_) (fun hg => ?_) <;> (try simp only [hbx] at hg) <;> simp (maxSteps := 9^9) (disch := (try simp only [lens]); omega) only [argSl, sm, ↓amb, mark_eq, simprocAttr, el22, fl41_1, fl26_2, sz24, el24, gcase_undef, g3, g8, dx]) | apply And.intro | fail
   all_goals first | rfl | omega | exact (decide_eq_true (by omega)).symm | exact (decide_eq_false (by omega)).symm | exact decide_eq_decide.mpr (by omega) | (refine Bool.eq_iff_iff.mpr ?_; simp only [beq_iff_eq, bne_iff_ne, ne_eq, decide_eq_true_eq]; omega) | (refine Bool.eq_iff_iff.mpr ?_; simp only [Bool.not_eq_true', Bool.not_eq_false', decide_eq_false_iff_not, decide_eq_true_eq, beq_iff_eq, bne_iff_ne, ne_eq]; omega) | assumption | (simp; done) | (simp [maxLen]; omega) | skip
  simp only [kp, argSl, simprocAttr, List.length_cons, List.length_nil]
  refine awp_cond rfl (fun hb => ?_) (fun hb => ?_)
  ·try simp only [hbx] at hb
   refine awp_le (le_keep []) ?_
   simp only [kp, argSl, simprocAttr]
   refine awp_sr [] (by rw [hC]; rfl) fun k hk => ?_
   simp (maxSteps := 9^9) (disch := (try simp only [lens]); omega) only [argSl, sm, ↓amb, mark_eq, simprocAttr, dx]
   repeat refine ⟨by first | omega | (simp; done) | (unfold maxLen; omega) | (simp [maxLen]; omega) | assumption, ?_⟩
   refine hk _ ?_; clear hk k
   refine awp_ret ?_
   refine ret1 rfl rfl ?_
   exact .p (LeP.refl _)
  ·try simp only [hbx] at hb
   refine awp_skip ?_
   refine h2 _ ?_; clear h2 k2
   refine awp_le (le_keep [0, 1, 5]) ?_
   simp only [kp, argSl, simprocAttr]
   have hcl : (if a.length = b.length then Pl.celL a.length (fun j => Pl.one (a.getD j 0) q.1 (b.getD j 0)) q.1 q.2 else []).length ≤ 1000000 := by
    split
    ·unfold Pl.celL; split; rw [Pl.mapR_len]; omega; exact Nat.zero_le _
    ·exact Nat.zero_le _
   refine awp_sr [] (by rw [hC]; rfl) fun k hk => ?_
   simp (maxSteps := 9^9) (disch := (try simp only [lens]); omega) only [argSl, sm, ↓amb, mark_eq, simprocAttr, fl41_0, sz3, fl41_1, sz26, en26, dx]
   repeat refine ⟨by first | omega | (simp; done) | (unfold maxLen; omega) | (simp [maxLen]; omega) | assumption, ?_⟩
   refine callK_p (c_fill_Zip false false false a b q.1 q.2 ha hb' (by omega)) rfl ?_
   simp (maxSteps := 9^9) (disch := (try simp only [lens]); omega) only [argSl, sm, ↓amb, mark_eq, simprocAttr, fl41_0, sz3, fl41_1, sz26, en26, dx]
   repeat refine ⟨by first | omega | (simp; done) | (unfold maxLen; omega) | (simp [maxLen]; omega) | assumption, ?_⟩
   refine hk _ ?_; clear hk k
   refine awp_le (le_keep [0, 1, 5, 7, 8, 9]) ?_
   simp only [kp, argSl, simprocAttr]
   refine awp_sr [] (by rw [hC]; rfl) fun k hk => ?_
   simp (maxSteps := 9^9) (disch := (try simp only [lens]); omega) only [argSl, sm, ↓amb, mark_eq, simprocAttr, fl41_0, sz3, fl41_1, sz26, en27, dx]
   repeat refine ⟨by first | omega | (simp; done) | (unfold maxLen; omega) | (simp [maxLen]; omega) | assumption, ?_⟩
   refine callK_p (c_ref07_Zip false false false a b q.1 q.2 ha hb' (by omega)) rfl ?_
   simp (maxSteps := 9^9) (disch := (try simp only [lens]); omega) only [argSl, sm, ↓amb, mark_eq, simprocAttr, fl41_0, sz3, fl41_1, sz26, en27, dx]
   repeat refine ⟨by first | omega | (simp; done) | (unfold maxLen; omega) | (simp [maxLen]; omega) | assumption, ?_⟩
   refine hk _ ?_; clear hk k
   refine awp_test [] 6 (decide (True)) [] (by rw [hC]; rfl) (fun gd hgd k hk => ?_) ?_
   ·have g3 : gd 3 = some 55 := by rw [hgd]; rfl
    have g8 : gd 8 = some 60 := by rw [hgd]; rfl
    clear hgd
    simp (maxSteps := 9^9) (disch := (try simp only [lens]); omega) only [argSl, sm, ↓amb, mark_eq, simprocAttr, en22, gcase_undef, g3, g8, dx]
    repeat' first | refine hk _ _ rfl rfl rfl rfl ?_ | (refine gsplit (fun hg => ?_) (fun hg => ?_) <;> (try simp only [hbx] at hg) <;> simp (maxSteps := 9^9) (disch := (try simp only [lens]); omega) only [argSl, sm, ↓amb, mark_eq, simprocAttr, en22, gcase_undef, g3, g8, dx]) | apply And.intro | (refine callK_p (c_ref07_Words false false (if a.length = b.length then Pl.celL a.length (fun j => Pl.one (a.getD j 0) q.1 (b.getD j 0)) q.1 q.2 else []) (if a.length = b.length then Pl.celL a.length (fun j => Pl.one (a.getD j 0) q.1 (b.getD j 0)) q.1 q.2 else []) hcl) rfl ?_; (try simp (maxSteps := 9^9) (disch := (try simp only [lens]); omega) only [argSl, sm, ↓amb, mark_eq, simprocAttr, en22, gcase_undef, g3, g8, dx])) | fail
    all_goals first | rfl | omega | exact (decide_eq_true (by omega)).symm | exact (decide_eq_false (by omega)).symm | exact decide_eq_decide.mpr (by omega) | (refine Bool.eq_iff_iff.mpr ?_; simp only [beq_iff_eq, bne_iff_ne, ne_eq, decide_eq_true_eq]; omega) | (refine Bool.eq_iff_iff.mpr ?_; simp only [Bool.not_eq_true', Bool.not_eq_false', decide_eq_false_iff_not, decide_eq_true_eq, beq_iff_eq, bne_iff_ne, ne_eq]; omega) | assumption | (simp; done) | (simp [maxLen]; omega) | skip
    all_goals first | (exfalso; omega) | rfl | (exfalso; exact absurd rfl (by assumption)) | (simp; done) | (simp_all; done) | trace_state
   simp only [kp, argSl, simprocAttr, List.length_cons, List.length_nil]
   refine awp_ret ?_
   refine ret1 rfl rfl ?_
   exact .p (LeP.refl _)
end Go.Proofs.Ythelnccjcbnjfaa
