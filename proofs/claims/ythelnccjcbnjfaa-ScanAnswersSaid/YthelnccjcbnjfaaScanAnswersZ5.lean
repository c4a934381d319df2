/-
  ScanAnswers, part 5 of 7: what the proof that the law holds at whatever arguments stands on; the last part holds the theorem. No condition.
-/
import Derived.Test.YthelnccjcbnjfaaScanAnswersZ4
import Derived.Test.YthelnccjcbnjfaaRows
section
set_option linter.unusedSimpArgs false
set_option linter.unusedVariables false
set_option maxRecDepth 100000
namespace Go.Proofs.Ythelnccjcbnjfaa
open Go.Am Go.Proofs
theorem en102 : enters Try.prog 102 = true := by kernel_rfl
theorem en103 : enters Try.prog 103 = true := by kernel_rfl
theorem en104 : enters Try.prog 104 = true := by kernel_rfl
theorem en92 : enters Try.prog 92 = true := by kernel_rfl
set_option maxHeartbeats 4000000 in
theorem c38 (c d : Bool) (w : Pl.Work) : PCall Try.prog 102 [workV c d w] (bV (decide (Pl.right w))) := by
 refine pcall_of_awp Try.func102 rfl (by simp [Try.ntmps102]) fun C hC => ?_
 refine awp_le (le_keep [0]) ?_
 simp only [kp, argSl, simprocAttr]
 refine awp_sr [] (by rw [hC]; rfl) fun k hk => ?_
 simp (maxSteps := 9^9) (disch := (try simp only [lens]); omega) only [argSl, sm, ↓amb, mark_eq, simprocAttr, dx]
 repeat refine ⟨by first | omega | (simp; done) | (unfold maxLen; omega) | (simp [maxLen]; omega) | assumption, ?_⟩
 refine hk _ ?_; clear hk k
 refine awp_le (le_keep [1]) ?_
 simp only [kp, argSl, simprocAttr]
 refine awp_sr [] (by rw [hC]; rfl) fun k hk => ?_
 simp (maxSteps := 9^9) (disch := (try simp only [lens]); omega) only [argSl, sm, ↓amb, mark_eq, simprocAttr, fl78_2, sz76, el76, dx]
 repeat refine ⟨by first | omega | (simp; done) | (unfold maxLen; omega) | (simp [maxLen]; omega) | assumption, ?_⟩
 refine hk _ ?_; clear hk k
 refine awp_seq fun k1 h1 => ?_
 refine awp_test [] 36 (decide (¬ (Pl.cnt w.done.length w.grain ∧ 1 ≤ w.ts.length ∧ w.ts.length ≤ 2000))) [1, 2, 3] (by rw [hC]; rfl) (fun gd hgd k hk => ?_) ?_
 ·have g3 : gd 3 = some 12 := by rw [hgd]; rfl
  have g8 : gd 8 = some 17 := by rw [hgd]; rfl
  have g12 : gd 12 = some 21 := by rw [hgd]; rfl
  have g16 : gd 16 = some 25 := by rw [hgd]; rfl
  have g22 : gd 22 = some 31 := by rw [hgd]; rfl
  clear hgd
  simp (maxSteps := 9^9) (disch := (try simp only [lens]); omega) only [argSl, sm, ↓amb, mark_eq, simprocAttr, fl78_1, sz3, fl78_0, sz75, el75, gcase_undef, g3, g8, g12, g16, g22, dx]
  repeat' first | refine hk _ _ rfl rfl rfl rfl ?_ | (refine gsplit (fun hg => ?_) (fun hg => ?_) <;> (try simp only [hbx] at hg) <;> simp (maxSteps := 9^9) (disch := (try simp only [lens]); omega) only [argSl, sm, ↓amb, mark_eq, simprocAttr, fl78_1, sz3, fl78_0, sz75, el75, gcase_undef, g3, g8, g12, g16, g22, dx]) | apply And.intro | fail
  all_goals first | rfl | omega | exact (decide_eq_true (by (try simp only [Pl.right, Pl.cnt, Pl.okT] at *); omega)).symm | exact (decide_eq_false (by (try simp only [Pl.right, Pl.cnt, Pl.okT] at *); omega)).symm | exact decide_eq_decide.mpr (by (try simp only [Pl.right, Pl.cnt, Pl.okT] at *); omega) | (refine Bool.eq_iff_iff.mpr ?_; (try simp only [Pl.right, Pl.cnt, Pl.okT] at *); simp only [beq_iff_eq, bne_iff_ne, ne_eq, decide_eq_true_eq]; omega) | (refine Bool.eq_iff_iff.mpr ?_; simp only [Bool.not_eq_true', Bool.not_eq_false', decide_eq_false_iff_not, decide_eq_true_eq, beq_iff_eq, bne_iff_ne, ne_eq]; (try simp only [Pl.right, Pl.cnt, Pl.okT] at *); omega) | assumption | (simp; done) | (simp [maxLen]; omega) | skip
 simp only [kp, argSl, simprocAttr, List.length_cons, List.length_nil]
 refine awp_cond rfl (fun hb => ?_) (fun hb => ?_)
 ·try simp only [hbx] at hb
  refine awp_le (le_keep []) ?_
  simp only [kp, argSl, simprocAttr]
  refine awp_sr [] (by rw [hC]; rfl) fun k hk => ?_
  simp (maxSteps := 9^9) (disch := (try simp only [lens]); omega) only [argSl, sm, ↓amb, mark_eq, simprocAttr, dx]
  repeat refine ⟨by first | omega | (simp; done) | (unfold maxLen; omega) | (simp [maxLen]; omega) | assumption, ?_⟩
  refine hk _ ?_; clear hk k
  refine awp_ret ?_
  refine ret1 rfl rfl ?_
  exact .p (LeP.of_eq (by rw [decide_eq_false (by intro h; simp only [Pl.right, Pl.cnt] at h hb; omega)]))
 ·try simp only [hbx] at hb
  refine awp_skip ?_
  refine h1 _ ?_; clear h1 k1
  refine awp_seq fun k2 h2 => ?_
  refine awp_le (le_keep [1, 2, 3]) ?_
  simp only [kp, argSl, simprocAttr]
  have hb0 := hb
  refine awp_sr [] (by rw [hC]; rfl) fun k hk => ?_
  simp (maxSteps := 9^9) (disch := (try simp only [lens]); omega) only [argSl, sm, ↓amb, mark_eq, simprocAttr, dx]
  repeat refine ⟨by first | omega | (simp; done) | (unfold maxLen; omega) | (simp [maxLen]; omega) | assumption, ?_⟩
  refine hk _ ?_; clear hk k
  refine awp_block ?_
  refine awp_loop (σ := Nat) (fun (i : Nat) => i ≤ w.ts.length ∧ ∀ j, j < i → Pl.okT w.done.length j (w.ts.getD j default)) (fun (i : Nat) => ⟨[(1, (.ptr 0 3 0 0)), (3, (.p (iV w.done.length))), (4, (.p (iV i)))], [(0, (.row 3 [[.p (.seq c (w.ts.map taskC)), .p (iV w.grain), .p (.seq d (w.done.map fun b => [bV b]))]]))], 1⟩) (fun i => w.ts.length - i) 0 ?_ ?_ fun x hx => ?_
  ·exact ⟨Nat.zero_le _, fun j hj => by omega⟩
  ·exact le_of [(0, _)] (by rfl) (by rfl) ⟨⟨_, rfl, .ptr rfl⟩, ⟨_, rfl, .p (.of_eq (by first | rfl | (simp only [PV.lit.injEq, Value.int.injEq, true_and]; omega) | (simp; done) | (simp; omega)))⟩, ⟨_, rfl, .p (.of_eq (by first | rfl | (simp only [PV.lit.injEq, Value.int.injEq, true_and]; omega) | (simp; done) | (simp; omega)))⟩, trivial⟩ ⟨⟨_, rfl, _, rfl, .one (.cons (.p (.refl _)) (.cons (.p (.refl _)) (.cons (.p (.refl _)) .nil)))⟩, trivial⟩
  obtain ⟨hx1, hx2⟩ := hx
  refine awp_seq fun k4 h4 => ?_
  refine awp_le (le_keep [0, 1, 2, 3, 4]) ?_
  simp only [kp, argSl, simprocAttr]
  refine awp_sr [] (by rw [hC]; rfl) fun k hk => ?_
  simp (maxSteps := 9^9) (disch := (try simp only [lens]); omega) only [argSl, sm, ↓amb, mark_eq, simprocAttr, fl78_0, sz75, el75, dx]
  repeat refine ⟨by first | omega | (simp; done) | (unfold maxLen; omega) | (simp [maxLen]; omega) | assumption, ?_⟩
  refine hk _ ?_; clear hk k
  refine awp_cond rfl (fun hb => ?_) (fun hb => ?_)
  ·try simp only [hbx] at hb
   refine awp_skip ?_
   refine h4 _ ?_; clear h4 k4
   refine awp_seq fun k5 h5 => ?_
   refine awp_block ?_
   refine awp_le (le_keep [0, 1, 2, 3, 4]) ?_
   simp only [kp, argSl, simprocAttr]
   refine awp_sr [] (by rw [hC]; rfl) fun k hk => ?_
   simp (maxSteps := 9^9) (disch := (try simp only [lens]); omega) only [argSl, sm, ↓amb, mark_eq, simprocAttr, fl78_0, sz75, el75, sz114, vr114, dx]
   repeat refine ⟨by first | omega | (simp; done) | (unfold maxLen; omega) | (simp [maxLen]; omega) | assumption, ?_⟩
   refine hk _ ?_; clear hk k
   refine awp_test [] 85 (decide (¬ Pl.okT w.done.length x (w.ts.getD x default))) [0, 1, 2, 3, 4] (by rw [hC]; rfl) (fun gd hgd k hk => ?_) ?_
   ·have g3 : gd 3 = some 52 := by rw [hgd]; rfl
    have g10 : gd 10 = some 59 := by rw [hgd]; rfl
    have g16 : gd 16 = some 65 := by rw [hgd]; rfl
    have g21 : gd 21 = some 70 := by rw [hgd]; rfl
    have g27 : gd 27 = some 76 := by rw [hgd]; rfl
    have g32 : gd 32 = some 81 := by rw [hgd]; rfl
    clear hgd
    simp (maxSteps := 9^9) (disch := (try simp only [lens]); omega) only [argSl, sm, ↓amb, mark_eq, simprocAttr, fl114_0, sz3, fl114_1, fl114_2, fl114_3, gcase_undef, g3, g10, g16, g21, g27, g32, dx]
    repeat' first | refine hk _ _ rfl rfl rfl rfl ?_ | (refine gsplit (fun hg => ?_) (fun hg => ?_) <;> (try simp only [hbx] at hg) <;> simp (maxSteps := 9^9) (disch := (try simp only [lens]); omega) only [argSl, sm, ↓amb, mark_eq, simprocAttr, fl114_0, sz3, fl114_1, fl114_2, fl114_3, gcase_undef, g3, g10, g16, g21, g27, g32, dx]) | apply And.intro | fail
    all_goals first | rfl | omega | exact (decide_eq_true (by (try simp only [Pl.right, Pl.cnt, Pl.okT] at *); omega)).symm | exact (decide_eq_false (by (try simp only [Pl.right, Pl.cnt, Pl.okT] at *); omega)).symm | exact decide_eq_decide.mpr (by (try simp only [Pl.right, Pl.cnt, Pl.okT] at *); omega) | (refine Bool.eq_iff_iff.mpr ?_; (try simp only [Pl.right, Pl.cnt, Pl.okT] at *); simp only [beq_iff_eq, bne_iff_ne, ne_eq, decide_eq_true_eq]; omega) | (refine Bool.eq_iff_iff.mpr ?_; simp only [Bool.not_eq_true', Bool.not_eq_false', decide_eq_false_iff_not, decide_eq_true_eq, beq_iff_eq, bne_iff_ne, ne_eq]; (try simp only [Pl.right, Pl.cnt, Pl.okT] at *); omega) | assumption | (simp; done) | (simp [maxLen]; omega) | skip
   simp only [kp, argSl, simprocAttr, List.length_cons, List.length_nil]
   refine awp_cond rfl (fun hb => ?_) (fun hb => ?_)
   ·try simp only [hbx] at hb
    refine awp_le (le_keep []) ?_
    simp only [kp, argSl, simprocAttr]
    refine awp_sr [] (by rw [hC]; rfl) fun k hk => ?_
    simp (maxSteps := 9^9) (disch := (try simp only [lens]); omega) only [argSl, sm, ↓amb, mark_eq, simprocAttr, dx]
    repeat refine ⟨by first | omega | (simp; done) | (unfold maxLen; omega) | (simp [maxLen]; omega) | assumption, ?_⟩
    refine hk _ ?_; clear hk k
    refine awp_ret ?_
    refine ret1 rfl rfl ?_
    exact .p (LeP.of_eq (by rw [decide_eq_false (fun h => by have h2 := h.2.2.2 x (by omega); have h3 := h.1; simp only [Pl.okT] at h2 hb; omega)]))
   ·try simp only [hbx] at hb
    refine awp_skip ?_
    refine h5 _ ?_; clear h5 k5
    refine awp_region [] (by rw [hC]; rfl) fun k hk => ?_
    simp (maxSteps := 9^9) (disch := (try simp only [lens]); omega) only [argSl, sm, ↓amb, mark_eq, simprocAttr, dx]
    repeat refine ⟨by first | omega | (simp; done) | (unfold maxLen; omega) | (simp [maxLen]; omega) | assumption, ?_⟩
    refine hk _ ?_; clear hk k
    refine ⟨x + 1, ⟨by omega, fun j hj => by by_cases e : j = x; subst e; exact hb; exact hx2 j (by omega)⟩, le_of [(0, _)] (by rfl) (by rfl) ⟨⟨_, rfl, .ptr rfl⟩, ⟨_, rfl, .p (.of_eq (by first | rfl | (simp only [PV.lit.injEq, Value.int.injEq, true_and]; omega) | (simp; done) | (simp; omega)))⟩, ⟨_, rfl, .p (.of_eq (by first | rfl | (simp only [PV.lit.injEq, Value.int.injEq, true_and]; omega) | (simp; done) | (simp; omega)))⟩, trivial⟩ ⟨⟨_, rfl, _, rfl, .one (.cons (.p (.refl _)) (.cons (.p (.refl _)) (.cons (.p (.refl _)) .nil)))⟩, trivial⟩, by omega⟩
  ·try simp only [hbx] at hb
   refine awp_exit ((if_pos rfl).mpr ?_)
   refine h2 _ ?_; clear h4 k4; clear h2 k2
   refine awp_le (le_keep []) ?_
   simp only [kp, argSl, simprocAttr]
   refine awp_sr [] (by rw [hC]; rfl) fun k hk => ?_
   simp (maxSteps := 9^9) (disch := (try simp only [lens]); omega) only [argSl, sm, ↓amb, mark_eq, simprocAttr, dx]
   repeat refine ⟨by first | omega | (simp; done) | (unfold maxLen; omega) | (simp [maxLen]; omega) | assumption, ?_⟩
   refine hk _ ?_; clear hk k
   refine awp_ret ?_
   refine ret1 rfl rfl ?_
   exact .p (LeP.of_eq (by rw [decide_eq_true (Pl.right_of (by omega) hb0 hx2)]))
set_option maxHeartbeats 4000000 in
theorem c52 (c d : Bool) (w : Pl.Work) (i : Int) : PCall Try.prog 104 [workV c d w, iV i] (bV (decide (0 ≤ i ∧ i < w.ts.length))) := by
 refine pcall_of_awp Try.func104 rfl (by simp [Try.ntmps104]) fun C hC => ?_
 refine awp_sr [] (by rw [hC]; rfl) fun k hk => ?_
 simp (maxSteps := 9^9) (disch := (try simp only [lens]); omega) only [argSl, sm, ↓amb, mark_eq, simprocAttr, dx]
 repeat refine ⟨by first | omega | (simp; done) | (unfold maxLen; omega) | (simp [maxLen]; omega) | assumption, ?_⟩
 refine hk _ ?_; clear hk k
 refine awp_test [] 4 (decide (0 ≤ i ∧ i < w.ts.length)) [] (by rw [hC]; rfl) (fun gd hgd k hk => ?_) ?_
 ·have g2 : gd 2 = some 7 := by rw [hgd]; rfl
  clear hgd
  simp (maxSteps := 9^9) (disch := (try simp only [lens]); omega) only [argSl, sm, ↓amb, mark_eq, simprocAttr, fl78_0, sz75, el75, gcase_undef, g2, dx]
  repeat' first | refine hk _ _ rfl rfl rfl rfl ?_ | (refine gsplit (fun hg => ?_) (fun hg => ?_) <;> (try simp only [hbx] at hg) <;> simp (maxSteps := 9^9) (disch := (try simp only [lens]); omega) only [argSl, sm, ↓amb, mark_eq, simprocAttr, fl78_0, sz75, el75, gcase_undef, g2, dx]) | apply And.intro | fail
  all_goals first | rfl | omega | exact (decide_eq_true (by omega)).symm | exact (decide_eq_false (by omega)).symm | exact decide_eq_decide.mpr (by omega) | (refine Bool.eq_iff_iff.mpr ?_; simp only [beq_iff_eq, bne_iff_ne, ne_eq, decide_eq_true_eq]; omega) | (refine Bool.eq_iff_iff.mpr ?_; simp only [Bool.not_eq_true', Bool.not_eq_false', decide_eq_false_iff_not, decide_eq_true_eq, beq_iff_eq, bne_iff_ne, ne_eq]; omega) | assumption | (simp; done) | (simp [maxLen]; omega) | skip
 simp only [kp, argSl, simprocAttr, List.length_cons, List.length_nil]
 refine awp_ret ?_
 refine ret1 rfl rfl ?_
 exact .p (LeP.refl _)
set_option maxHeartbeats 4000000 in
theorem c40 (c d : Bool) (w : Pl.Work) (i : Int) : PCall Try.prog 92 [workV c d w, iV i] (bV (decide (Pl.great w i))) := by
 refine pcall_of_awp Try.func92 rfl (by simp [Try.ntmps92]) fun C hC => ?_
 refine awp_sr [] (by rw [hC]; rfl) fun k hk => ?_
 simp (maxSteps := 9^9) (disch := (try simp only [lens]); omega) only [argSl, sm, ↓amb, mark_eq, simprocAttr, dx]
 repeat refine ⟨by first | omega | (simp; done) | (unfold maxLen; omega) | (simp [maxLen]; omega) | assumption, ?_⟩
 refine hk _ ?_; clear hk k
 refine awp_testD [] ⟨[0, 1, 3, 7, 7, 31, 63, 127, 255, 511, 255, 2047, 4095, 8191, 255, 16639, 255, 114943, 246015, 508159, 1048575, 255, 2097407, 8388607, 16777215, 33554431], [0, 3, 9, 13, 15, 19, 22], [], [(1, 3), (1, 9), (5, 9), (1, 13), (5, 13), (1, 15), (5, 15), (1, 19), (5, 19), (1, 22), (5, 22)], some []⟩ 4 (decide (Pl.great w i)) [] (by rw [hC]; rfl) (by kernel_rfl) (by kernel_rfl) (fun gd hgd k hk => ?_) ?_
 ·have g2 : gd 2 = some 7 := by rw [hgd]; rfl
  have g7 : gd 7 = some 12 := by rw [hgd]; rfl
  clear hgd
  simp (maxSteps := 9^9) (disch := (try simp only [lens]); omega) only [argSl, sm, ↓amb, mark_eq, simprocAttr, sz78, en102, en104, fl78_0, sz75, el75, sz114, fl114_1, sz3, fl114_0, fl78_1, gcase_undef, g2, g7, dx]
  repeat' first | refine hk _ _ rfl rfl rfl rfl ?_ | (refine gsplit (fun hg => ?_) (fun hg => ?_) <;> (try simp only [hbx] at hg) <;> (try (have hth := Pl.there_of (by assumption) hg; have q := Pl.ok_of hth; obtain ⟨_, hi0, hi1, hok, _, _, _, _⟩ := q; simp only [Pl.okT, Pl.task] at hok)) <;> simp (maxSteps := 9^9) (disch := (try simp only [lens]); omega) only [argSl, sm, ↓amb, mark_eq, simprocAttr, sz78, en102, en104, fl78_0, sz75, el75, sz114, fl114_1, sz3, fl114_0, fl78_1, gcase_undef, g2, g7, dx]) | apply And.intro | (refine callK_p (c38 _ _ _) rfl ?_; (try simp (maxSteps := 9^9) (disch := (try simp only [lens]); omega) only [argSl, sm, ↓amb, mark_eq, simprocAttr, sz78, en102, en104, fl78_0, sz75, el75, sz114, fl114_1, sz3, fl114_0, fl78_1, gcase_undef, g2, g7, dx])) | (refine callK_p (c52 _ _ _ _) rfl ?_; (try simp (maxSteps := 9^9) (disch := (try simp only [lens]); omega) only [argSl, sm, ↓amb, mark_eq, simprocAttr, sz78, en102, en104, fl78_0, sz75, el75, sz114, fl114_1, sz3, fl114_0, fl78_1, gcase_undef, g2, g7, dx])) | fail
  all_goals first | rfl | omega | exact (decide_eq_true (by (try simp only [Pl.great] at *); omega)).symm | exact (decide_eq_false (by (try simp only [Pl.great] at *); omega)).symm | exact decide_eq_decide.mpr (by (try simp only [Pl.great] at *); omega) | (refine Bool.eq_iff_iff.mpr ?_; (try simp only [Pl.great] at *); simp only [beq_iff_eq, bne_iff_ne, ne_eq, decide_eq_true_eq]; omega) | (refine Bool.eq_iff_iff.mpr ?_; simp only [Bool.not_eq_true', Bool.not_eq_false', decide_eq_false_iff_not, decide_eq_true_eq, beq_iff_eq, bne_iff_ne, ne_eq]; (try simp only [Pl.great] at *); omega) | assumption | (simp; done) | (simp [maxLen]; omega) | skip
  all_goals first | exact decide_eq_decide.mpr ⟨fun h => ⟨hth, h⟩, fun h => h.2⟩ | exact (decide_eq_false (p := Pl.great w i) (by intro h; obtain ⟨a, b, e, _⟩ := Pl.ok_of h.1; first | exact hg a | exact hg ⟨b, e⟩ | omega)).symm
 simp only [kp, argSl, simprocAttr, List.length_cons, List.length_nil]
 refine awp_ret ?_
 refine ret1 rfl rfl ?_
 exact .p (LeP.refl _)
set_option maxHeartbeats 4000000 in
theorem c27 (c d : Bool) (w : Pl.Work) (h1 : w.ts.length ≤ 1000000) (h2 : w.done.length ≤ 1000000) : HCall Try.prog 103 [.p (workV c d w)] [] (.agg [.own 0, .p (iV w.grain), .own 1]) [(0, .row 4 (lift (w.ts.map taskC))), (1, .row 1 (lift (w.done.map fun b => [bV b])))] := by
 refine hcall_of_awp Try.func103 rfl (by simp [Try.ntmps103]) fun C hC => ?_
 refine awp_sr [6, 12] (by rw [hC]; rfl) fun k hk => ?_
 simp (maxSteps := 9^9) (disch := (try simp only [lens]); omega) only [argSl, sm, ↓amb, mark_eq, simprocAttr, vr78, dx]
 repeat refine ⟨by first | omega | (simp; done) | (unfold maxLen; omega) | (simp [maxLen]; omega) | assumption, ?_⟩
 refine hk _ ?_; clear hk k
 refine awp_sd [6, 12] ⟨[0, 0, 2, 7, 0, 16, 0, 0, 128, 463, 1023, 2047], [2, 3, 5, 8, 9], [11], [(3, 9), (3, 11), (9, 11)], none⟩ (by rw [hC]; rfl) (by kernel_rfl) (by kernel_rfl) fun k hk => ?_
 simp (maxSteps := 9^9) (disch := (try simp only [lens]); omega) only [argSl, sm, ↓amb, mark_eq, simprocAttr, el75, vr114, fl78_0, sz75, by114, fl78_1, sz3, el76, vr4, fl78_2, sz76, by4, vr78, bt78, pl78_0, pl78_1, pl78_2, sz78, dx]
 repeat refine ⟨by first | omega | (simp; done) | (unfold maxLen; omega) | (simp [maxLen]; omega) | assumption, ?_⟩
 refine hk _ ?_; clear hk k
 refine awp_ret ?_
 refine rethc rfl rfl sz78 ?_
 simp (maxSteps := 9^9) (disch := (try simp only [lens]); omega) only [argSl, sm, ↓amb, mark_eq, simprocAttr, sz78, dx]
 exact le_of [(0, _), (1, _)] (by rfl) (by rfl) ⟨⟨_, rfl, .agg rfl (LeRow.cons (.own rfl) (LeRow.cons (.p (.refl _)) (LeRow.cons (.own rfl) .nil))).2⟩, trivial⟩ ⟨⟨_, rfl, _, rfl, .lift _⟩, ⟨_, rfl, _, rfl, .lift _⟩, trivial⟩
set_option maxHeartbeats 4000000 in
theorem c27p (c d : Bool) (w : Pl.Work) (h1 : w.ts.length ≤ 1000000) (h2 : w.done.length ≤ 1000000) : PCall Try.prog 103 [workV c d w] (workV false false w) := by
 refine pcall_of_awp Try.func103 rfl (by simp [Try.ntmps103]) fun C hC => ?_
 refine awp_sr [6, 12] (by rw [hC]; rfl) fun k hk => ?_
 simp (maxSteps := 9^9) (disch := (try simp only [lens]); omega) only [argSl, sm, ↓amb, mark_eq, simprocAttr, vr78, dx]
 repeat refine ⟨by first | omega | (simp; done) | (unfold maxLen; omega) | (simp [maxLen]; omega) | assumption, ?_⟩
 refine hk _ ?_; clear hk k
 refine awp_sd [6, 12] ⟨[0, 0, 2, 7, 0, 16, 0, 0, 128, 463, 1023, 2047], [2, 3, 5, 8, 9], [11], [(3, 9), (3, 11), (9, 11)], none⟩ (by rw [hC]; rfl) (by kernel_rfl) (by kernel_rfl) fun k hk => ?_
 simp (maxSteps := 9^9) (disch := (try simp only [lens]); omega) only [argSl, sm, ↓amb, mark_eq, simprocAttr, el75, vr114, fl78_0, sz75, by114, fl78_1, sz3, el76, vr4, fl78_2, sz76, by4, vr78, bt78, pl78_0, pl78_1, pl78_2, sz78, dx]
 repeat refine ⟨by first | omega | (simp; done) | (unfold maxLen; omega) | (simp [maxLen]; omega) | assumption, ?_⟩
 refine hk _ ?_; clear hk k
 refine awp_ret ?_
 refine retone rfl (retc rfl sz78 ?_)
 simp (maxSteps := 9^9) (disch := (try simp only [lens]); omega) only [argSl, sm, ↓amb, mark_eq, simprocAttr, sz78, dx]
 exact .agg_cons (.ownE rfl rfl) (.agg_cons (.p (LeP.refl _)) (.agg_cons (.ownE rfl rfl) (.agg_nil)))
set_option maxHeartbeats 4000000 in
theorem c29 (c d : Bool) (w : Pl.Work) (i : Int) : PCall Try.prog 93 [workV c d w, iV i] (.tup [workV false false (Pl.partW w i), iV (Pl.partA w i), iV (Pl.partB w i), iV (Pl.partE w i)]) := by
 refine pcall_of_awp Try.func93 rfl (by simp [Try.ntmps93]) fun C hC => ?_
 refine awp_sr [] (by rw [hC]; rfl) fun k hk => ?_
 simp (maxSteps := 9^9) (disch := (try simp only [lens]); omega) only [argSl, sm, ↓amb, mark_eq, simprocAttr, vr78, dx]
 repeat refine ⟨by first | omega | (simp; done) | (unfold maxLen; omega) | (simp [maxLen]; omega) | assumption, ?_⟩
 refine hk _ ?_; clear hk k
 refine awp_seq fun k1 h1 => ?_
 refine awp_block ?_
 refine awp_sr [] (by rw [hC]; rfl) fun k hk => ?_
 simp (maxSteps := 9^9) (disch := (try simp only [lens]); omega) only [argSl, sm, ↓amb, mark_eq, simprocAttr, sz78, en102, dx]
 repeat refine ⟨by first | omega | (simp; done) | (unfold maxLen; omega) | (simp [maxLen]; omega) | assumption, ?_⟩
 refine callK_p (c38 _ _ _) rfl ?_
 simp (maxSteps := 9^9) (disch := (try simp only [lens]); omega) only [argSl, sm, ↓amb, mark_eq, simprocAttr, sz78, en102, dx]
 repeat refine ⟨by first | omega | (simp; done) | (unfold maxLen; omega) | (simp [maxLen]; omega) | assumption, ?_⟩
 refine hk _ ?_; clear hk k
 refine awp_cond rfl (fun hb => ?_) (fun hb => ?_)
 ·try simp only [hbx] at hb
  refine awp_sr [] (by rw [hC]; rfl) fun k hk => ?_
  simp (maxSteps := 9^9) (disch := (try simp only [lens]); omega) only [argSl, sm, ↓amb, mark_eq, simprocAttr, sz78, dx]
  repeat refine ⟨by first | omega | (simp; done) | (unfold maxLen; omega) | (simp [maxLen]; omega) | assumption, ?_⟩
  refine hk _ ?_; clear hk k
  refine awp_ret ?_
  obtain ⟨e1, e2, e3, e4⟩ := Pl.part_err (w := w) (i := i) ((Pl.partE1 (by rw [Pl.there, if_pos hb]; decide)).trans (by rw [Pl.there, if_pos hb])) (by decide)
  rw [e1, e2, e3, e4]
  refine retl rfl rfl ⟨retc rfl sz78 ?_, rett rfl ?_, rett rfl ?_, rett rfl ?_, trivial⟩
  simp (maxSteps := 9^9) (disch := (try simp only [lens]); omega) only [argSl, sm, ↓amb, mark_eq, simprocAttr, sz78, dx]
  ·exact .p (LeP.agg (.cons (LeP.seq _ _) (.cons (LeP.refl _) (.cons (LeP.seq _ _) .nil))))
  ·exact .p (LeP.refl _)
  ·exact .p (LeP.refl _)
  ·exact .p (LeP.refl _)
 ·try simp only [hbx] at hb
  have hR := hb
  refine awp_sr [] (by rw [hC]; rfl) fun k hk => ?_
  simp (maxSteps := 9^9) (disch := (try simp only [lens]); omega) only [argSl, sm, ↓amb, mark_eq, simprocAttr, sz78, en104, dx]
  repeat refine ⟨by first | omega | (simp; done) | (unfold maxLen; omega) | (simp [maxLen]; omega) | assumption, ?_⟩
  refine callK_p (c52 _ _ _ _) rfl ?_
  simp (maxSteps := 9^9) (disch := (try simp only [lens]); omega) only [argSl, sm, ↓amb, mark_eq, simprocAttr, sz78, en104, dx]
  repeat refine ⟨by first | omega | (simp; done) | (unfold maxLen; omega) | (simp [maxLen]; omega) | assumption, ?_⟩
  refine hk _ ?_; clear hk k
  refine awp_cond rfl (fun hb => ?_) (fun hb => ?_)
  ·try simp only [hbx] at hb
   refine awp_sr [] (by rw [hC]; rfl) fun k hk => ?_
   simp (maxSteps := 9^9) (disch := (try simp only [lens]); omega) only [argSl, sm, ↓amb, mark_eq, simprocAttr, sz78, dx]
   repeat refine ⟨by first | omega | (simp; done) | (unfold maxLen; omega) | (simp [maxLen]; omega) | assumption, ?_⟩
   refine hk _ ?_; clear hk k
   refine awp_ret ?_
   obtain ⟨e1, e2, e3, e4⟩ := Pl.part_err (w := w) (i := i) ((Pl.partE1 (by rw [Pl.there, if_neg (by simpa using hR), if_pos (by omega)]; decide)).trans (by rw [Pl.there, if_neg (by simpa using hR), if_pos (by omega)])) (by decide)
   rw [e1, e2, e3, e4]
   refine retl rfl rfl ⟨retc rfl sz78 ?_, rett rfl ?_, rett rfl ?_, rett rfl ?_, trivial⟩
   simp (maxSteps := 9^9) (disch := (try simp only [lens]); omega) only [argSl, sm, ↓amb, mark_eq, simprocAttr, sz78, dx]
   ·exact .p (LeP.agg (.cons (LeP.seq _ _) (.cons (LeP.refl _) (.cons (LeP.seq _ _) .nil))))
   ·exact .p (LeP.refl _)
   ·exact .p (LeP.refl _)
   ·exact .p (LeP.refl _)
  ·try simp only [hbx] at hb
   have hth := Pl.there_of hR (by assumption)
   obtain ⟨_, hi0, hi1, hok, hd1, hg1, hg2, ht1⟩ := Pl.ok_of hth
   simp only [Pl.okT, Pl.task] at hok
   have hin : i.toNat < w.ts.length := by omega
   refine awp_test [] 23 (decide (¬ Pl.great w i ∨ ¬ (w.ts.getD i.toNat default).wait = 0)) [1, 2, 4, 5, 6, 7] (by rw [hC]; rfl) (fun gd hgd k hk => ?_) ?_
   ·have g4 : gd 4 = some 28 := by rw [hgd]; rfl
    clear hgd
    simp (maxSteps := 9^9) (disch := (try simp only [lens]); omega) only [argSl, sm, ↓amb, mark_eq, simprocAttr, sz78, en92, fl78_0, sz75, el75, sz114, fl114_3, sz3, gcase_undef, g4, dx]
    repeat' first | refine hk _ _ rfl rfl rfl rfl ?_ | (refine gsplit (fun hg => ?_) (fun hg => ?_) <;> (try simp only [hbx] at hg) <;> simp (maxSteps := 9^9) (disch := (try simp only [lens]); omega) only [argSl, sm, ↓amb, mark_eq, simprocAttr, sz78, en92, fl78_0, sz75, el75, sz114, fl114_3, sz3, gcase_undef, g4, dx]) | apply And.intro | (refine callK_p (c40 _ _ _ _) rfl ?_; (try simp (maxSteps := 9^9) (disch := (try simp only [lens]); omega) only [argSl, sm, ↓amb, mark_eq, simprocAttr, sz78, en92, fl78_0, sz75, el75, sz114, fl114_3, sz3, gcase_undef, g4, dx])) | fail
    all_goals first | rfl | omega | exact (decide_eq_true (by (try simp only [Pl.great, Pl.task] at *); omega)).symm | exact (decide_eq_false (by (try simp only [Pl.great, Pl.task] at *); omega)).symm | exact decide_eq_decide.mpr (by (try simp only [Pl.great, Pl.task] at *); omega) | (refine Bool.eq_iff_iff.mpr ?_; (try simp only [Pl.great, Pl.task] at *); simp only [beq_iff_eq, bne_iff_ne, ne_eq, decide_eq_true_eq]; omega) | (refine Bool.eq_iff_iff.mpr ?_; simp only [Bool.not_eq_true', Bool.not_eq_false', decide_eq_false_iff_not, decide_eq_true_eq, beq_iff_eq, bne_iff_ne, ne_eq]; (try simp only [Pl.great, Pl.task] at *); omega) | assumption | (simp; done) | (simp [maxLen]; omega) | skip
    all_goals first | (simp only [hg, not_true_eq_false, false_or]; exact Pl.int_ne _) | (simp [hg]; done)
   simp only [kp, argSl, simprocAttr, List.length_cons, List.length_nil]
   refine awp_cond rfl (fun hb => ?_) (fun hb => ?_)
   ·try simp only [hbx] at hb
    refine awp_sr [] (by rw [hC]; rfl) fun k hk => ?_
    simp (maxSteps := 9^9) (disch := (try simp only [lens]); omega) only [argSl, sm, ↓amb, mark_eq, simprocAttr, sz78, dx]
    repeat refine ⟨by first | omega | (simp; done) | (unfold maxLen; omega) | (simp [maxLen]; omega) | assumption, ?_⟩
    refine hk _ ?_; clear hk k
    refine awp_ret ?_
    obtain ⟨e1, e2, e3, e4⟩ := Pl.part_err (w := w) (i := i) (Pl.partE2 hth (by simp only [Pl.great, Pl.task] at *; omega)) (by decide)
    rw [e1, e2, e3, e4]
    refine retl rfl rfl ⟨retc rfl sz78 ?_, rett rfl ?_, rett rfl ?_, rett rfl ?_, trivial⟩
    simp (maxSteps := 9^9) (disch := (try simp only [lens]); omega) only [argSl, sm, ↓amb, mark_eq, simprocAttr, sz78, dx]
    ·exact .p (LeP.agg (.cons (LeP.seq _ _) (.cons (LeP.refl _) (.cons (LeP.seq _ _) .nil))))
    ·exact .p (LeP.refl _)
    ·exact .p (LeP.refl _)
    ·exact .p (LeP.refl _)
   ·try simp only [hbx] at hb
    have hgr := hb
    refine awp_sr [] (by rw [hC]; rfl) fun k hk => ?_
    simp (maxSteps := 9^9) (disch := (try simp only [lens]); omega) only [argSl, sm, ↓amb, mark_eq, simprocAttr, fl78_0, sz75, el75, dx]
    repeat refine ⟨by first | omega | (simp; done) | (unfold maxLen; omega) | (simp [maxLen]; omega) | assumption, ?_⟩
    refine hk _ ?_; clear hk k
    refine awp_cond rfl (fun hb => ?_) (fun hb => ?_)
    ·try simp only [hbx] at hb
     refine awp_sr [] (by rw [hC]; rfl) fun k hk => ?_
     simp (maxSteps := 9^9) (disch := (try simp only [lens]); omega) only [argSl, sm, ↓amb, mark_eq, simprocAttr, sz78, dx]
     repeat refine ⟨by first | omega | (simp; done) | (unfold maxLen; omega) | (simp [maxLen]; omega) | assumption, ?_⟩
     refine hk _ ?_; clear hk k
     refine awp_ret ?_
     obtain ⟨e1, e2, e3, e4⟩ := Pl.part_err (w := w) (i := i) (Pl.partE3 hth (by simp only [Pl.great, Pl.task] at *; omega) (by omega)) (by decide)
     rw [e1, e2, e3, e4]
     refine retl rfl rfl ⟨retc rfl sz78 ?_, rett rfl ?_, rett rfl ?_, rett rfl ?_, trivial⟩
     simp (maxSteps := 9^9) (disch := (try simp only [lens]); omega) only [argSl, sm, ↓amb, mark_eq, simprocAttr, sz78, dx]
     ·exact .p (LeP.agg (.cons (LeP.seq _ _) (.cons (LeP.refl _) (.cons (LeP.seq _ _) .nil))))
     ·exact .p (LeP.refl _)
     ·exact .p (LeP.refl _)
     ·exact .p (LeP.refl _)
    ·try simp only [hbx] at hb
     refine awp_skip ?_
     refine h1 _ ?_; clear h1 k1
     have h0 := Pl.partE0 hth (by simp only [Pl.great, Pl.task] at *; omega) (by omega)
     refine awp_sr [] (by rw [hC]; rfl) fun k hk => ?_
     simp (maxSteps := 9^9) (disch := (try simp only [lens]); omega) only [argSl, sm, ↓amb, mark_eq, simprocAttr, sz78, en103, vr78, dx]
     repeat refine ⟨by first | omega | (simp; done) | (unfold maxLen; omega) | (simp [maxLen]; omega) | assumption, ?_⟩
     refine callK_h (c27 c d w (by omega) (by omega)) [] [] (by first | rfl | (simp only [hm]; done)) (by first | rfl | (simp [namesOk, lkp]; done)) ?_ ?_ ?_ ?_ ?_ ?_ ?_
     (iterate 6 (focus (first | trivial | (intro n hn; cases hn; done) | (simp (maxSteps := 9^9) (disch := (try simp only [lens]); omega) only [argSl, sm, ↓amb, mark_eq, simprocAttr, sz78, en103, vr78, dx, hmx, List.filter_cons, Nat.reduceBNe, imp_self, implies_true]; done))))
     simp (maxSteps := 9^9) (disch := (try simp only [lens]); omega) only [argSl, sm, ↓amb, mark_eq, simprocAttr, sz78, en103, vr78, dx, hm, List.filter_cons, List.filter_nil, Nat.reduceBNe, Option.map_none]
     repeat refine ⟨by first | omega | (simp; done) | (unfold maxLen; omega) | (simp [maxLen]; omega) | assumption, ?_⟩
     refine hk _ ?_; clear hk k
     refine awp_sr [] (by rw [hC]; rfl) fun k hk => ?_
     simp (maxSteps := 9^9) (disch := (try simp only [lens]); omega) only [argSl, sm, ↓amb, mark_eq, simprocAttr, fl78_0, sz75, el75, dx]
     repeat refine ⟨by first | omega | (simp; done) | (unfold maxLen; omega) | (simp [maxLen]; omega) | assumption, ?_⟩
     refine hk _ ?_; clear hk k
     refine awp_sr [] (by rw [hC]; rfl) fun k hk => ?_
     simp (maxSteps := 9^9) (disch := (try simp only [lens]); omega) only [argSl, sm, ↓amb, mark_eq, simprocAttr, fl78_0, sz75, el75, sz114, vr114, dx]
     repeat refine ⟨by first | omega | (simp; done) | (unfold maxLen; omega) | (simp [maxLen]; omega) | assumption, ?_⟩
     refine hk _ ?_; clear hk k
     refine awp_sr [] (by rw [hC]; rfl) fun k hk => ?_
     simp (maxSteps := 9^9) (disch := (try simp only [lens]); omega) only [argSl, sm, ↓amb, mark_eq, simprocAttr, fl114_0, sz3, fl114_1, dx]
     repeat refine ⟨by first | omega | (simp; done) | (unfold maxLen; omega) | (simp [maxLen]; omega) | assumption, ?_⟩
     refine hk _ ?_; clear hk k
     refine awp_sr [] (by rw [hC]; rfl) fun k hk => ?_
     simp (maxSteps := 9^9) (disch := (try simp only [lens]); omega) only [argSl, sm, ↓amb, mark_eq, simprocAttr, fl78_0, sz75, el75, sz114, fl114_3, sz3, dx]
     repeat refine ⟨by first | omega | (simp; done) | (unfold maxLen; omega) | (simp [maxLen]; omega) | assumption, ?_⟩
     refine hk _ ?_; clear hk k
     refine awp_sr [] (by rw [hC]; rfl) fun k hk => ?_
     simp (maxSteps := 9^9) (disch := (try simp only [lens]); omega) only [argSl, sm, ↓amb, mark_eq, simprocAttr, fl78_0, sz75, fl114_0, sz3, vr114, bt114, pl114_0, pl114_1, pl114_2, fl114_1, el75, by114, dx]
     repeat refine ⟨by first | omega | (simp; done) | (unfold maxLen; omega) | (simp [maxLen]; omega) | assumption, ?_⟩
     refine hk _ ?_; clear hk k
     refine awp_sr [] (by rw [hC]; rfl) fun k hk => ?_
     simp (maxSteps := 9^9) (disch := (try simp only [lens]); omega) only [argSl, sm, ↓amb, mark_eq, simprocAttr, sz78, dx]
     repeat refine ⟨by first | omega | (simp; done) | (unfold maxLen; omega) | (simp [maxLen]; omega) | assumption, ?_⟩
     refine hk _ ?_; clear hk k
     refine awp_ret ?_
     obtain ⟨e1, e2, e3, e4⟩ := Pl.part_ok h0
     rw [e1, e2, e3, e4]
     refine retl rfl rfl ⟨retc rfl sz78 ?_, rett rfl ?_, rett rfl ?_, rett rfl ?_, trivial⟩
     simp (maxSteps := 9^9) (disch := (try simp only [lens]); omega) only [argSl, sm, ↓amb, mark_eq, simprocAttr, sz78, dx]
     ·exact .agg_cons (.p (LeP.sq (by simp [Pl.parted, Pl.mid, List.map_set]))) (.agg_cons (.p (LeP.refl _)) (.agg_cons (.ownE rfl rfl) (.agg_nil)))
     ·exact .p (LeP.refl _)
     ·exact .p (LeP.refl _)
     ·exact .p (LeP.refl _)
set_option maxHeartbeats 4000000 in
theorem c31 (c d : Bool) (w : Pl.Work) (i : Int) : PCall Try.prog 94 [workV c d w, iV i] (.tup [workV false false (Pl.doW w i), bV (Pl.doO w i), iV (Pl.doE w i)]) := by
 refine pcall_of_awp Try.func94 rfl (by simp [Try.ntmps94]) fun C hC => ?_
 refine awp_le (le_keep [0, 1]) ?_
 simp only [kp, argSl, simprocAttr]
 refine awp_sr [] (by rw [hC]; rfl) fun k hk => ?_
 simp (maxSteps := 9^9) (disch := (try simp only [lens]); omega) only [argSl, sm, ↓amb, mark_eq, simprocAttr, vr78, dx]
 repeat refine ⟨by first | omega | (simp; done) | (unfold maxLen; omega) | (simp [maxLen]; omega) | assumption, ?_⟩
 refine hk _ ?_; clear hk k
 refine awp_seq fun k1 h1 => ?_
 refine awp_block ?_
 refine awp_le (le_keep [1, 2, 4, 5, 6]) ?_
 simp only [kp, argSl, simprocAttr]
 refine awp_sr [] (by rw [hC]; rfl) fun k hk => ?_
 simp (maxSteps := 9^9) (disch := (try simp only [lens]); omega) only [argSl, sm, ↓amb, mark_eq, simprocAttr, sz78, en102, dx]
 repeat refine ⟨by first | omega | (simp; done) | (unfold maxLen; omega) | (simp [maxLen]; omega) | assumption, ?_⟩
 refine callK_p (c38 _ _ _) rfl ?_
 simp (maxSteps := 9^9) (disch := (try simp only [lens]); omega) only [argSl, sm, ↓amb, mark_eq, simprocAttr, sz78, en102, dx]
 repeat refine ⟨by first | omega | (simp; done) | (unfold maxLen; omega) | (simp [maxLen]; omega) | assumption, ?_⟩
 refine hk _ ?_; clear hk k
 refine awp_cond rfl (fun hb => ?_) (fun hb => ?_)
 ·try simp only [hbx] at hb
  refine awp_le (le_keep [2, 4]) ?_
  simp only [kp, argSl, simprocAttr]
  refine awp_sr [] (by rw [hC]; rfl) fun k hk => ?_
  simp (maxSteps := 9^9) (disch := (try simp only [lens]); omega) only [argSl, sm, ↓amb, mark_eq, simprocAttr, sz78, dx]
  repeat refine ⟨by first | omega | (simp; done) | (unfold maxLen; omega) | (simp [maxLen]; omega) | assumption, ?_⟩
  refine hk _ ?_; clear hk k
  refine awp_ret ?_
  obtain ⟨e1, e2, e4⟩ := Pl.do_err (w := w) (i := i) ((Pl.doE1 (by rw [Pl.there, if_pos hb]; decide)).trans (by rw [Pl.there, if_pos hb])) (by decide)
  rw [e1, e2, e4]
  refine retl rfl rfl ⟨retc rfl sz78 ?_, rett rfl ?_, rett rfl ?_, trivial⟩
  simp (maxSteps := 9^9) (disch := (try simp only [lens]); omega) only [argSl, sm, ↓amb, mark_eq, simprocAttr, sz78, dx]
  ·exact .p (LeP.agg (.cons (LeP.seq _ _) (.cons (LeP.refl _) (.cons (LeP.seq _ _) .nil))))
  ·exact .p (LeP.refl _)
  ·exact .p (LeP.refl _)
 ·try simp only [hbx] at hb
  refine awp_le (le_keep [1, 2, 4, 5, 6]) ?_
  simp only [kp, argSl, simprocAttr]
  have hR := hb
  refine awp_sr [] (by rw [hC]; rfl) fun k hk => ?_
  simp (maxSteps := 9^9) (disch := (try simp only [lens]); omega) only [argSl, sm, ↓amb, mark_eq, simprocAttr, sz78, en104, dx]
  repeat refine ⟨by first | omega | (simp; done) | (unfold maxLen; omega) | (simp [maxLen]; omega) | assumption, ?_⟩
  refine callK_p (c52 _ _ _ _) rfl ?_
  simp (maxSteps := 9^9) (disch := (try simp only [lens]); omega) only [argSl, sm, ↓amb, mark_eq, simprocAttr, sz78, en104, dx]
  repeat refine ⟨by first | omega | (simp; done) | (unfold maxLen; omega) | (simp [maxLen]; omega) | assumption, ?_⟩
  refine hk _ ?_; clear hk k
  refine awp_cond rfl (fun hb => ?_) (fun hb => ?_)
  ·try simp only [hbx] at hb
   refine awp_le (le_keep [2, 4]) ?_
   simp only [kp, argSl, simprocAttr]
   refine awp_sr [] (by rw [hC]; rfl) fun k hk => ?_
   simp (maxSteps := 9^9) (disch := (try simp only [lens]); omega) only [argSl, sm, ↓amb, mark_eq, simprocAttr, sz78, dx]
   repeat refine ⟨by first | omega | (simp; done) | (unfold maxLen; omega) | (simp [maxLen]; omega) | assumption, ?_⟩
   refine hk _ ?_; clear hk k
   refine awp_ret ?_
   obtain ⟨e1, e2, e4⟩ := Pl.do_err (w := w) (i := i) ((Pl.doE1 (by rw [Pl.there, if_neg (by simpa using hR), if_pos (by omega)]; decide)).trans (by rw [Pl.there, if_neg (by simpa using hR), if_pos (by omega)])) (by decide)
   rw [e1, e2, e4]
   refine retl rfl rfl ⟨retc rfl sz78 ?_, rett rfl ?_, rett rfl ?_, trivial⟩
   simp (maxSteps := 9^9) (disch := (try simp only [lens]); omega) only [argSl, sm, ↓amb, mark_eq, simprocAttr, sz78, dx]
   ·exact .p (LeP.agg (.cons (LeP.seq _ _) (.cons (LeP.refl _) (.cons (LeP.seq _ _) .nil))))
   ·exact .p (LeP.refl _)
   ·exact .p (LeP.refl _)
  ·try simp only [hbx] at hb
   have hth := Pl.there_of hR (by assumption)
   obtain ⟨_, hi0, hi1, hok, hd1, hg1, hg2, ht1⟩ := Pl.ok_of hth
   simp only [Pl.okT, Pl.task] at hok
   have hin : i.toNat < w.ts.length := by omega
   refine awp_testD [] ⟨[0, 0, 3, 7, 15, 31, 15, 127, 255, 511, 1023, 2047, 4095, 8191, 16383, 8191, 40959, 8191, 237567, 499711, 1023999, 2097151, 4194303, 8388607, 16777215], [0, 5, 9, 14, 16, 20, 22], [], [(2, 5), (2, 9), (2, 14), (2, 16), (2, 20), (2, 22)], some []⟩ 21 (decide (Pl.great w i ∨ 0 < (w.ts.getD i.toNat default).wait ∨ w.done.getD (w.ts.getD i.toNat default).low.toNat false = true)) [1, 2, 4, 5, 6] (by rw [hC]; rfl) (by kernel_rfl) (by kernel_rfl) (fun gd hgd k hk => ?_) ?_
   ·have g3 : gd 3 = some 25 := by rw [hgd]; rfl
    have g12 : gd 12 = some 34 := by rw [hgd]; rfl
    clear hgd
    simp (maxSteps := 9^9) (disch := (try simp only [lens]); omega) only [argSl, sm, ↓amb, mark_eq, simprocAttr, sz78, en92, fl78_0, sz75, el75, sz114, fl114_3, sz3, fl78_2, sz76, fl114_0, el76, sz4, gcase_undef, g3, g12, dx]
    repeat' first | refine hk _ _ rfl rfl rfl rfl ?_ | (refine gsplit (fun hg => ?_) (fun hg => ?_) <;> (try simp only [hbx] at hg) <;> simp (maxSteps := 9^9) (disch := (try simp only [lens]); omega) only [argSl, sm, ↓amb, mark_eq, simprocAttr, sz78, en92, fl78_0, sz75, el75, sz114, fl114_3, sz3, fl78_2, sz76, fl114_0, el76, sz4, gcase_undef, g3, g12, dx]) | apply And.intro | (refine callK_p (c40 _ _ _ _) rfl ?_; (try simp (maxSteps := 9^9) (disch := (try simp only [lens]); omega) only [argSl, sm, ↓amb, mark_eq, simprocAttr, sz78, en92, fl78_0, sz75, el75, sz114, fl114_3, sz3, fl78_2, sz76, fl114_0, el76, sz4, gcase_undef, g3, g12, dx])) | fail
    all_goals first | rfl | omega | exact (decide_eq_true (by omega)).symm | exact (decide_eq_false (by omega)).symm | exact decide_eq_decide.mpr (by omega) | (refine Bool.eq_iff_iff.mpr ?_; simp only [beq_iff_eq, bne_iff_ne, ne_eq, decide_eq_true_eq]; omega) | (refine Bool.eq_iff_iff.mpr ?_; simp only [Bool.not_eq_true', Bool.not_eq_false', decide_eq_false_iff_not, decide_eq_true_eq, beq_iff_eq, bne_iff_ne, ne_eq]; omega) | assumption | (simp; done) | (simp [maxLen]; omega) | skip
    all_goals first | exact (decide_eq_true (.inl (by assumption))).symm | (refine Bool.eq_iff_iff.mpr ?_; simp only [decide_eq_true_eq]; exact ⟨fun h => .inr (.inr h), fun h => by (rcases h with h | h | h; exact absurd h (by assumption); omega; exact h)⟩) | (exact (decide_eq_true (.inr (.inl (by omega)))).symm)
   simp only [kp, argSl, simprocAttr, List.length_cons, List.length_nil]
   refine awp_cond rfl (fun hb => ?_) (fun hb => ?_)
   ·try simp only [hbx] at hb
    refine awp_le (le_keep [2, 4]) ?_
    simp only [kp, argSl, simprocAttr]
    refine awp_sr [] (by rw [hC]; rfl) fun k hk => ?_
    simp (maxSteps := 9^9) (disch := (try simp only [lens]); omega) only [argSl, sm, ↓amb, mark_eq, simprocAttr, sz78, dx]
    repeat refine ⟨by first | omega | (simp; done) | (unfold maxLen; omega) | (simp [maxLen]; omega) | assumption, ?_⟩
    refine hk _ ?_; clear hk k
    refine awp_ret ?_
    obtain ⟨e1, e2, e4⟩ := Pl.do_err (w := w) (i := i) (Pl.doE2 hth (by simp only [Pl.great, Pl.task] at *; rcases hb with h | h | h; exact .inl h.2; exact .inr (.inl h); exact .inr (.inr h))) (by decide)
    rw [e1, e2, e4]
    refine retl rfl rfl ⟨retc rfl sz78 ?_, rett rfl ?_, rett rfl ?_, trivial⟩
    simp (maxSteps := 9^9) (disch := (try simp only [lens]); omega) only [argSl, sm, ↓amb, mark_eq, simprocAttr, sz78, dx]
    ·exact .p (LeP.agg (.cons (LeP.seq _ _) (.cons (LeP.refl _) (.cons (LeP.seq _ _) .nil))))
    ·exact .p (LeP.refl _)
    ·exact .p (LeP.refl _)
   ·try simp only [hbx] at hb
    refine awp_skip ?_
    refine h1 _ ?_; clear h1 k1
    refine awp_le (le_keep [1, 2, 4]) ?_
    simp only [kp, argSl, simprocAttr]
    have h0 : Pl.doE w i = 0 := Pl.doE0 hth (by simp only [Pl.great, Pl.task] at *; intro h; rcases h with h | h | h; exact hb (.inl ⟨hth, h⟩); exact hb (.inr (.inl h)); exact hb (.inr (.inr h)))
    refine awp_sr [] (by rw [hC]; rfl) fun k hk => ?_
    simp (maxSteps := 9^9) (disch := (try simp only [lens]); omega) only [argSl, sm, ↓amb, mark_eq, simprocAttr, sz78, en103, vr78, dx]
    repeat refine ⟨by first | omega | (simp; done) | (unfold maxLen; omega) | (simp [maxLen]; omega) | assumption, ?_⟩
    refine callK_h (c27 c d w (by omega) (by omega)) [] [] (by first | rfl | (simp only [hm]; done)) (by first | rfl | (simp [namesOk, lkp]; done)) ?_ ?_ ?_ ?_ ?_ ?_ ?_
    (iterate 6 (focus (first | trivial | (intro n hn; cases hn; done) | (simp (maxSteps := 9^9) (disch := (try simp only [lens]); omega) only [argSl, sm, ↓amb, mark_eq, simprocAttr, sz78, en103, vr78, dx, hmx, List.filter_cons, Nat.reduceBNe, imp_self, implies_true]; done))))
    simp (maxSteps := 9^9) (disch := (try simp only [lens]); omega) only [argSl, sm, ↓amb, mark_eq, simprocAttr, sz78, en103, vr78, dx, hm, List.filter_cons, List.filter_nil, Nat.reduceBNe, Option.map_none]
    repeat refine ⟨by first | omega | (simp; done) | (unfold maxLen; omega) | (simp [maxLen]; omega) | assumption, ?_⟩
    refine hk _ ?_; clear hk k
    refine awp_seq fun k2 h2 => ?_
    refine awp_le (le_keep [1, 2, 4, 5, 6, 7]) ?_
    simp only [kp, argSl, simprocAttr]
    refine awp_sr [] (by rw [hC]; rfl) fun k hk => ?_
    simp (maxSteps := 9^9) (disch := (try simp only [lens]); omega) only [argSl, sm, ↓amb, mark_eq, simprocAttr, fl78_0, sz75, el75, sz114, fl114_0, sz3, dx]
    repeat refine ⟨by first | omega | (simp; done) | (unfold maxLen; omega) | (simp [maxLen]; omega) | assumption, ?_⟩
    refine hk _ ?_; clear hk k
    refine awp_block ?_
    refine awp_loop (σ := Nat) (fun x => (w.ts.getD i.toNat default).low.toNat ≤ x ∧ x ≤ (w.ts.getD i.toNat default).high.toNat) (fun (x : Nat) => ⟨[(1, (.p (iV i))), (2, (.ptr 0 3 0 0)), (4, (.ptr 1 3 0 0)), (7, (.ptr 2 3 0 0)), (8, (.p (iV (x : Int))))], [(0, (.row 3 [[.p (.seq c (w.ts.map taskC)), .p (iV w.grain), .p (.seq d (w.done.map fun b => [bV b]))]])), (1, (.row 3 [[.p (.seq true []), .p (iV 0), .p (.seq true [])]])), (2, (.row 3 [[.own 3, .p (iV w.grain), .own 4]])), (3, (.row 4 (lift (w.ts.map taskC)))), (4, (.row 1 (lift ((Pl.marked w.done (w.ts.getD i.toNat default).low.toNat x).map fun b => [bV b]))))], 1⟩) (fun x => (w.ts.getD i.toNat default).high.toNat - x) (w.ts.getD i.toNat default).low.toNat ?_ ?_ fun x hx => ?_
    ·exact ⟨Nat.le_refl _, by omega⟩
    ·exact le_of [(0, _), (1, _), (2, _), (3, _), (4, _)] (by rfl) (by rfl) ⟨⟨_, rfl, .p (.of_eq (by first | rfl | (simp only [PV.lit.injEq, Value.int.injEq, true_and]; omega) | (simp; done) | (simp; omega)))⟩, ⟨_, rfl, .ptr rfl⟩, ⟨_, rfl, .ptr rfl⟩, ⟨_, rfl, .ptr rfl⟩, ⟨_, rfl, .p (.of_eq (by first | rfl | (simp only [PV.lit.injEq, Value.int.injEq, true_and]; omega) | (simp; done) | (simp; omega)))⟩, trivial⟩ ⟨⟨_, rfl, _, rfl, .one (.cons (.p (.refl _)) (.cons (.p (.refl _)) (.cons (.p (.refl _)) .nil)))⟩, ⟨_, rfl, _, rfl, .one (.cons (.p (.refl _)) (.cons (.p (.refl _)) (.cons (.p (.refl _)) .nil)))⟩, ⟨_, rfl, _, rfl, .one (.cons (.own rfl) (.cons (.p (.refl _)) (.cons (.own rfl) .nil)))⟩, ⟨_, rfl, _, rfl, .lift _⟩, ⟨_, rfl, _, rfl, .liftE (by first | (rw [Pl.marked_start]; done) | (rw [← Pl.marked_set (by omega) (by omega), List.map_set]; try simp; done))⟩, trivial⟩
    obtain ⟨hx1, hx2⟩ := hx
    have hml := Pl.marked_len (d := w.done) hx1 (by omega)
    refine awp_seq fun k4 h4 => ?_
    refine awp_le (le_keep [0, 1, 2, 3, 4, 5, 6, 7, 8]) ?_
    simp only [kp, argSl, simprocAttr]
    refine awp_sr [] (by rw [hC]; rfl) fun k hk => ?_
    simp (maxSteps := 9^9) (disch := (try simp only [lens]); omega) only [argSl, sm, ↓amb, mark_eq, simprocAttr, fl78_0, sz75, el75, sz114, fl114_1, sz3, dx]
    repeat refine ⟨by first | omega | (simp; done) | (unfold maxLen; omega) | (simp [maxLen]; omega) | assumption, ?_⟩
    refine hk _ ?_; clear hk k
    refine awp_cond rfl (fun hb => ?_) (fun hb => ?_)
    ·try simp only [hbx] at hb
     refine awp_skip ?_
     refine h4 _ ?_; clear h4 k4
     refine awp_seq fun k5 h5 => ?_
     refine awp_block ?_
     refine awp_region [] (by rw [hC]; rfl) fun k hk => ?_
     simp (maxSteps := 9^9) (disch := (try simp only [lens]); omega) only [argSl, sm, ↓amb, mark_eq, simprocAttr, fl78_2, sz76, el76, sz4, dx]
     repeat refine ⟨by first | omega | (simp; done) | (unfold maxLen; omega) | (simp [maxLen]; omega) | assumption, ?_⟩
     refine hk _ ?_; clear hk k
     refine h5 _ ?_; clear h5 k5
     refine awp_region [] (by rw [hC]; rfl) fun k hk => ?_
     simp (maxSteps := 9^9) (disch := (try simp only [lens]); omega) only [argSl, sm, ↓amb, mark_eq, simprocAttr, dx]
     repeat refine ⟨by first | omega | (simp; done) | (unfold maxLen; omega) | (simp [maxLen]; omega) | assumption, ?_⟩
     refine hk _ ?_; clear hk k
     refine ⟨x + 1, ⟨by omega, by omega⟩, le_of [(0, _), (1, _), (2, _), (3, _), (4, _)] (by rfl) (by rfl) ⟨⟨_, rfl, .p (.of_eq (by first | rfl | (simp only [PV.lit.injEq, Value.int.injEq, true_and]; omega) | (simp; done) | (simp; omega)))⟩, ⟨_, rfl, .ptr rfl⟩, ⟨_, rfl, .ptr rfl⟩, ⟨_, rfl, .ptr rfl⟩, ⟨_, rfl, .p (.of_eq (by first | rfl | (simp only [PV.lit.injEq, Value.int.injEq, true_and]; omega) | (simp; done) | (simp; omega)))⟩, trivial⟩ ⟨⟨_, rfl, _, rfl, .one (.cons (.p (.refl _)) (.cons (.p (.refl _)) (.cons (.p (.refl _)) .nil)))⟩, ⟨_, rfl, _, rfl, .one (.cons (.p (.refl _)) (.cons (.p (.refl _)) (.cons (.p (.refl _)) .nil)))⟩, ⟨_, rfl, _, rfl, .one (.cons (.own rfl) (.cons (.p (.refl _)) (.cons (.own rfl) .nil)))⟩, ⟨_, rfl, _, rfl, .lift _⟩, ⟨_, rfl, _, rfl, .liftE (by first | (rw [Pl.marked_start]; done) | (rw [← Pl.marked_set (by omega) (by omega), List.map_set]; try simp; done))⟩, trivial⟩, by omega⟩
    ·try simp only [hbx] at hb
     refine awp_exit ((if_pos rfl).mpr ?_)
     refine h2 _ ?_; clear h4 k4; clear h2 k2
     refine awp_seq fun k6 h6 => ?_
     refine awp_le (le_keep [1, 2, 4, 5, 6, 7]) ?_
     simp only [kp, argSl, simprocAttr]
     have hxe : x = (w.ts.getD i.toNat default).high.toNat := by omega
     subst hxe
     have huo := Pl.upOk_of hR
     refine awp_sr [] (by rw [hC]; rfl) fun k hk => ?_
     simp (maxSteps := 9^9) (disch := (try simp only [lens]); omega) only [argSl, sm, ↓amb, mark_eq, simprocAttr, fl78_0, sz75, el75, sz114, fl114_2, sz3, dx]
     repeat refine ⟨by first | omega | (simp; done) | (unfold maxLen; omega) | (simp [maxLen]; omega) | assumption, ?_⟩
     refine hk _ ?_; clear hk k
     refine awp_block ?_
     refine awp_loop (σ := Nat × List Pl.Task × Int) (fun x => Pl.fin x.1 x.2.1 x.2.2 = Pl.fin (w.ts.length + 1) w.ts (w.ts.getD i.toNat default).up ∧ Pl.upOk x.2.1 ∧ x.2.1.length = w.ts.length ∧ -1 ≤ x.2.2 ∧ x.2.2 < w.ts.length ∧ x.2.2 + 1 < x.1) (fun x => ⟨[(4, (.ptr 1 3 0 0)), (7, (.ptr 2 3 0 0)), (9, (.p (iV x.2.2)))], [(1, (.row 3 [[.p (.seq true []), .p (iV 0), .p (.seq true [])]])), (2, (.row 3 [[.own 3, .p (iV w.grain), .own 4]])), (3, (.row 4 (lift (x.2.1.map taskC)))), (4, (.row 1 (lift ((Pl.marked w.done (w.ts.getD i.toNat default).low.toNat (w.ts.getD i.toNat default).high.toNat).map fun b => [bV b]))))], 1⟩) (fun x => x.1) (w.ts.length + 1, w.ts, (w.ts.getD i.toNat default).up) ?_ ?_ fun x hx => ?_
     ·exact ⟨rfl, huo, rfl, by show -1 ≤ (w.ts.getD i.toNat default).up; omega, by show (w.ts.getD i.toNat default).up < _; omega, by show (w.ts.getD i.toNat default).up + 1 < ((w.ts.length + 1 : Nat) : Int); omega⟩
     ·exact le_of [(1, _), (2, _), (3, _), (4, _)] (by rfl) (by rfl) ⟨⟨_, rfl, .ptr rfl⟩, ⟨_, rfl, .ptr rfl⟩, ⟨_, rfl, .p (.of_eq (by first | rfl | (simp only [PV.lit.injEq, Value.int.injEq, true_and]; omega) | (simp; done) | (simp; omega)))⟩, trivial⟩ ⟨⟨_, rfl, _, rfl, .one (.cons (.p (.refl _)) (.cons (.p (.refl _)) (.cons (.p (.refl _)) .nil)))⟩, ⟨_, rfl, _, rfl, .one (.cons (.own rfl) (.cons (.p (.refl _)) (.cons (.own rfl) .nil)))⟩, ⟨_, rfl, _, rfl, .liftE (by first | rfl | rw [List.map_set])⟩, ⟨_, rfl, _, rfl, .lift _⟩, trivial⟩
     obtain ⟨q, us, p⟩ := x
     obtain ⟨hf, hu, hlen, hp0, hp1, hq⟩ := hx
     dsimp only at hf hu hlen hp0 hp1 hq
     obtain ⟨q, rfl⟩ : ∃ q', q = q' + 1 := ⟨q - 1, by omega⟩
     refine awp_seq fun k8 h8 => ?_
     refine awp_le (le_keep [1, 2, 3, 4, 5, 6, 7, 9]) ?_
     simp only [kp, argSl, simprocAttr]
     refine awp_sr [] (by rw [hC]; rfl) fun k hk => ?_
     simp (maxSteps := 9^9) (disch := (try simp only [lens]); omega) only [argSl, sm, ↓amb, mark_eq, simprocAttr, dx]
     repeat refine ⟨by first | omega | (simp; done) | (unfold maxLen; omega) | (simp [maxLen]; omega) | assumption, ?_⟩
     refine hk _ ?_; clear hk k
     refine awp_cond rfl (fun hb => ?_) (fun hb => ?_)
     ·try simp only [hbx] at hb
      refine awp_skip ?_
      refine h8 _ ?_; clear h8 k8
      refine awp_seq fun k9 h9 => ?_
      refine awp_block ?_
      refine awp_seq fun k10 h10 => ?_
      refine awp_le (le_keep [1, 2, 3, 4, 5, 6, 7, 9]) ?_
      simp only [kp, argSl, simprocAttr]
      have hpn := hb
      have hup := hu p.toNat (by omega)
      refine awp_sr [] (by rw [hC]; rfl) fun k hk => ?_
      simp (maxSteps := 9^9) (disch := (try simp only [lens]); omega) only [argSl, sm, ↓amb, mark_eq, simprocAttr, fl78_0, sz75, el75, sz114, fl114_3, sz3, dx]
      repeat refine ⟨by first | omega | (simp; done) | (unfold maxLen; omega) | (simp [maxLen]; omega) | assumption, ?_⟩
      refine hk _ ?_; clear hk k
      refine awp_cond rfl (fun hb => ?_) (fun hb => ?_)
      ·try simp only [hbx] at hb
       refine awp_le (le_keep [4, 7]) ?_
       simp only [kp, argSl, simprocAttr]
       refine awp_sr [] (by rw [hC]; rfl) fun k hk => ?_
       simp (maxSteps := 9^9) (disch := (try simp only [lens]); omega) only [argSl, sm, ↓amb, mark_eq, simprocAttr, sz78, dx]
       repeat refine ⟨by first | omega | (simp; done) | (unfold maxLen; omega) | (simp [maxLen]; omega) | assumption, ?_⟩
       refine hk _ ?_; clear hk k
       refine awp_ret ?_
       obtain ⟨e1, e2, e4⟩ := Pl.do_ok h0
       rw [e1, e2, e4]
       refine retl rfl rfl ⟨retc rfl sz78 ?_, rett rfl ?_, rett rfl ?_, trivial⟩
       simp (maxSteps := 9^9) (disch := (try simp only [lens]); omega) only [argSl, sm, ↓amb, mark_eq, simprocAttr, sz78, dx]
       ·exact .agg_cons (.ownE rfl (by simp only [Pl.did, Pl.task]; rw [← hf, Pl.fin_zero hpn hb])) (.agg_cons (.p (LeP.refl _)) (.agg_cons (.ownE rfl rfl) (.agg_nil)))
       ·exact .p (LeP.of_eq (by simp only [Pl.did, Pl.task]; rw [← hf, Pl.fin_zero hpn hb]))
       ·exact .p (LeP.refl _)
      ·try simp only [hbx] at hb
       refine awp_skip ?_
       refine h10 _ ?_; clear h10 k10
       refine awp_le (le_keep [1, 2, 3, 4, 5, 6, 7, 9]) ?_
       simp only [kp, argSl, simprocAttr]
       refine awp_sr [] (by rw [hC]; rfl) fun k hk => ?_
       simp (maxSteps := 9^9) (disch := (try simp only [lens]); omega) only [argSl, sm, ↓amb, mark_eq, simprocAttr, fl78_0, sz75, el75, sz114, fl114_3, sz3, dx]
       repeat refine ⟨by first | omega | (simp; done) | (unfold maxLen; omega) | (simp [maxLen]; omega) | assumption, ?_⟩
       refine hk _ ?_; clear hk k
       refine awp_le (le_keep [1, 2, 3, 4, 5, 6, 7, 9]) ?_
       simp only [kp, argSl, simprocAttr]
       refine awp_sr [] (by rw [hC]; rfl) fun k hk => ?_
       simp (maxSteps := 9^9) (disch := (try simp only [lens]); omega) only [argSl, sm, ↓amb, mark_eq, simprocAttr, fl78_0, sz75, el75, sz114, fl114_3, sz3, dx]
       repeat refine ⟨by first | omega | (simp; done) | (unfold maxLen; omega) | (simp [maxLen]; omega) | assumption, ?_⟩
       refine hk _ ?_; clear hk k
       refine awp_cond rfl (fun hb => ?_) (fun hb => ?_)
       ·try simp only [hbx] at hb
        refine awp_le (le_keep [4, 7]) ?_
        simp only [kp, argSl, simprocAttr]
        refine awp_sr [] (by rw [hC]; rfl) fun k hk => ?_
        simp (maxSteps := 9^9) (disch := (try simp only [lens]); omega) only [argSl, sm, ↓amb, mark_eq, simprocAttr, sz78, dx]
        repeat refine ⟨by first | omega | (simp; done) | (unfold maxLen; omega) | (simp [maxLen]; omega) | assumption, ?_⟩
        refine hk _ ?_; clear hk k
        refine awp_ret ?_
        obtain ⟨e1, e2, e4⟩ := Pl.do_ok h0
        rw [e1, e2, e4]
        refine retl rfl rfl ⟨retc rfl sz78 ?_, rett rfl ?_, rett rfl ?_, trivial⟩
        simp (maxSteps := 9^9) (disch := (try simp only [lens]); omega) only [argSl, sm, ↓amb, mark_eq, simprocAttr, sz78, dx]
        ·exact .agg_cons (.ownE rfl (by simp only [Pl.did, Pl.task]; rw [← hf, Pl.fin_stop hpn (by omega) (by omega)]; try rw [List.map_set])) (.agg_cons (.p (LeP.refl _)) (.agg_cons (.ownE rfl rfl) (.agg_nil)))
        ·exact .p (LeP.of_eq (by simp only [Pl.did, Pl.task]; rw [← hf, Pl.fin_stop hpn (by omega) (by omega)]))
        ·exact .p (LeP.refl _)
       ·try simp only [hbx] at hb
        refine awp_skip ?_
        refine h9 _ ?_; clear h9 k9
        refine awp_region [] (by rw [hC]; rfl) fun k hk => ?_
        simp (maxSteps := 9^9) (disch := (try simp only [lens]); omega) only [argSl, sm, ↓amb, mark_eq, simprocAttr, fl78_0, sz75, el75, sz114, fl114_2, sz3, dx]
        repeat refine ⟨by first | omega | (simp; done) | (unfold maxLen; omega) | (simp [maxLen]; omega) | assumption, ?_⟩
        refine hk _ ?_; clear hk k
        refine ⟨(q, us.set p.toNat { us.getD p.toNat default with wait := (us.getD p.toNat default).wait - 1 }, (us.getD p.toNat default).up), ⟨by rw [← hf, Pl.fin_on hpn (by omega) (by omega)], Pl.upOk_set hu (by omega) (by omega), by simpa using hlen, by show -1 ≤ (us.getD p.toNat default).up; omega, by show (us.getD p.toNat default).up < _; omega, by show (us.getD p.toNat default).up + 1 < (q : Int); omega⟩, le_of [(1, _), (2, _), (3, _), (4, _)] (by rfl) (by rfl) ⟨⟨_, rfl, .ptr rfl⟩, ⟨_, rfl, .ptr rfl⟩, ⟨_, rfl, .p (.of_eq (by first | rfl | (simp only [PV.lit.injEq, Value.int.injEq, true_and]; omega) | (simp; done) | (simp; omega)))⟩, trivial⟩ ⟨⟨_, rfl, _, rfl, .one (.cons (.p (.refl _)) (.cons (.p (.refl _)) (.cons (.p (.refl _)) .nil)))⟩, ⟨_, rfl, _, rfl, .one (.cons (.own rfl) (.cons (.p (.refl _)) (.cons (.own rfl) .nil)))⟩, ⟨_, rfl, _, rfl, .liftE (by first | rfl | rw [List.map_set])⟩, ⟨_, rfl, _, rfl, .lift _⟩, trivial⟩, Nat.lt_succ_self q⟩
     ·try simp only [hbx] at hb
      refine awp_exit ((if_pos rfl).mpr ?_)
      refine h6 _ ?_; clear h8 k8; clear h6 k6
      refine awp_le (le_keep [4, 7]) ?_
      simp only [kp, argSl, simprocAttr]
      refine awp_sr [] (by rw [hC]; rfl) fun k hk => ?_
      simp (maxSteps := 9^9) (disch := (try simp only [lens]); omega) only [argSl, sm, ↓amb, mark_eq, simprocAttr, sz78, dx]
      repeat refine ⟨by first | omega | (simp; done) | (unfold maxLen; omega) | (simp [maxLen]; omega) | assumption, ?_⟩
      refine hk _ ?_; clear hk k
      refine awp_ret ?_
      have hpe : p = -1 := by omega
      subst hpe
      obtain ⟨e1, e2, e4⟩ := Pl.do_ok h0
      rw [e1, e2, e4]
      refine retl rfl rfl ⟨retc rfl sz78 ?_, rett rfl ?_, rett rfl ?_, trivial⟩
      simp (maxSteps := 9^9) (disch := (try simp only [lens]); omega) only [argSl, sm, ↓amb, mark_eq, simprocAttr, sz78, dx]
      ·exact .agg_cons (.ownE rfl (by simp only [Pl.did, Pl.task]; rw [← hf, Pl.fin_end])) (.agg_cons (.p (LeP.refl _)) (.agg_cons (.ownE rfl rfl) (.agg_nil)))
      ·exact .p (LeP.of_eq (by simp only [Pl.did, Pl.task]; rw [← hf, Pl.fin_end]))
      ·exact .p (LeP.refl _)
set_option maxHeartbeats 4000000 in
theorem c18 (c : Bool) (l : List Int) (hl : l.length ≤ 1000000) : PCall Try.prog 90 [ints c l] (popS l) := by
 refine pcall_of_awp Try.func90 rfl (by simp [Try.ntmps90]) fun C hC => ?_
 refine awp_sr [] (by rw [hC]; rfl) fun k hk => ?_
 simp (maxSteps := 9^9) (disch := (try simp only [lens]); omega) only [argSl, sm, ↓amb, mark_eq, simprocAttr, dx]
 repeat refine ⟨by first | omega | (simp; done) | (unfold maxLen; omega) | (simp [maxLen]; omega) | assumption, ?_⟩
 refine hk _ ?_; clear hk k
 refine awp_seq fun k1 h1 => ?_
 refine awp_sr [] (by rw [hC]; rfl) fun k hk => ?_
 simp (maxSteps := 9^9) (disch := (try simp only [lens]); omega) only [argSl, sm, ↓amb, mark_eq, simprocAttr, el32, dx]
 repeat refine ⟨by first | omega | (simp; done) | (unfold maxLen; omega) | (simp [maxLen]; omega) | assumption, ?_⟩
 refine hk _ ?_; clear hk k
 refine awp_cond rfl (fun hb => ?_) (fun hb => ?_)
 ·try simp only [hbx] at hb
  refine awp_sr [] (by rw [hC]; rfl) fun k hk => ?_
  simp (maxSteps := 9^9) (disch := (try simp only [lens]); omega) only [argSl, sm, ↓amb, mark_eq, simprocAttr, dx]
  repeat refine ⟨by first | omega | (simp; done) | (unfold maxLen; omega) | (simp [maxLen]; omega) | assumption, ?_⟩
  refine hk _ ?_; clear hk k
  refine awp_ret ?_
  obtain rfl : l = [] := List.eq_nil_of_length_eq_zero (by omega)
  refine ret3 rfl rfl rfl rfl ?_ ?_ ?_
  ·exact .p (LeP.seq _ _)
  ·exact .p (LeP.refl _)
  ·exact .p (LeP.refl _)
 ·try simp only [hbx] at hb
  refine awp_skip ?_
  refine h1 _ ?_; clear h1 k1
  refine awp_sr [] (by rw [hC]; rfl) fun k hk => ?_
  simp (maxSteps := 9^9) (disch := (try simp only [lens]); omega) only [argSl, sm, ↓amb, mark_eq, simprocAttr, el32, dx]
  repeat refine ⟨by first | omega | (simp; done) | (unfold maxLen; omega) | (simp [maxLen]; omega) | assumption, ?_⟩
  refine hk _ ?_; clear hk k
  refine awp_sd [] ⟨[0, 0, 0, 6, 15, 0, 0, 96, 224, 31, 1023, 2047], [4, 8], [], [], some []⟩ (by rw [hC]; rfl) (by kernel_rfl) (by kernel_rfl) fun k hk => ?_
  simp (maxSteps := 9^9) (disch := (try simp only [lens]); omega) only [argSl, sm, ↓amb, mark_eq, simprocAttr, el32, vr3, sz3, by3, dx]
  repeat refine ⟨by first | omega | (simp; done) | (unfold maxLen; omega) | (simp [maxLen]; omega) | assumption, ?_⟩
  refine hk _ ?_; clear hk k
  refine awp_ret ?_
  refine ret3 rfl rfl rfl rfl ?_ ?_ ?_
  ·exact .p (LeP.sq (by simp [List.dropLast_eq_take]))
  ·exact .p (LeP.refl _)
  ·exact .p (LeP.of_eq (by rw [if_neg (by omega)]))
set_option maxHeartbeats 4000000 in
theorem c20 (c : Bool) (l : List Int) (hl : l.length ≤ 1000000) : PCall Try.prog 91 [ints c l] (stealS l) := by
 refine pcall_of_awp Try.func91 rfl (by simp [Try.ntmps91]) fun C hC => ?_
 refine awp_sr [] (by rw [hC]; rfl) fun k hk => ?_
 simp (maxSteps := 9^9) (disch := (try simp only [lens]); omega) only [argSl, sm, ↓amb, mark_eq, simprocAttr, dx]
 repeat refine ⟨by first | omega | (simp; done) | (unfold maxLen; omega) | (simp [maxLen]; omega) | assumption, ?_⟩
 refine hk _ ?_; clear hk k
 refine awp_seq fun k1 h1 => ?_
 refine awp_sr [] (by rw [hC]; rfl) fun k hk => ?_
 simp (maxSteps := 9^9) (disch := (try simp only [lens]); omega) only [argSl, sm, ↓amb, mark_eq, simprocAttr, el32, dx]
 repeat refine ⟨by first | omega | (simp; done) | (unfold maxLen; omega) | (simp [maxLen]; omega) | assumption, ?_⟩
 refine hk _ ?_; clear hk k
 refine awp_cond rfl (fun hb => ?_) (fun hb => ?_)
 ·try simp only [hbx] at hb
  refine awp_sr [] (by rw [hC]; rfl) fun k hk => ?_
  simp (maxSteps := 9^9) (disch := (try simp only [lens]); omega) only [argSl, sm, ↓amb, mark_eq, simprocAttr, dx]
  repeat refine ⟨by first | omega | (simp; done) | (unfold maxLen; omega) | (simp [maxLen]; omega) | assumption, ?_⟩
  refine hk _ ?_; clear hk k
  refine awp_ret ?_
  obtain rfl : l = [] := List.eq_nil_of_length_eq_zero (by omega)
  refine ret3 rfl rfl rfl rfl ?_ ?_ ?_
  ·exact .p (LeP.seq _ _)
  ·exact .p (LeP.refl _)
  ·exact .p (LeP.refl _)
 ·try simp only [hbx] at hb
  refine awp_skip ?_
  refine h1 _ ?_; clear h1 k1
  refine awp_sd [] ⟨[0, 0, 2, 7, 0, 16, 48, 15, 255, 511], [3, 6], [], [], some []⟩ (by rw [hC]; rfl) (by kernel_rfl) (by kernel_rfl) fun k hk => ?_
  simp (maxSteps := 9^9) (disch := (try simp only [lens]); omega) only [argSl, sm, ↓amb, mark_eq, simprocAttr, el32, vr3, sz3, by3, dx]
  repeat refine ⟨by first | omega | (simp; done) | (unfold maxLen; omega) | (simp [maxLen]; omega) | assumption, ?_⟩
  refine hk _ ?_; clear hk k
  refine awp_ret ?_
  refine ret3 rfl rfl rfl rfl ?_ ?_ ?_
  ·exact .p (LeP.sq (by simp))
  ·exact .p (LeP.refl _)
  ·exact .p (LeP.of_eq (by rw [if_neg (by omega)]))
set_option maxHeartbeats 4000000 in
theorem c_ref05_cut (n w : Int) (hw : 1 ≤ w ∧ w ≤ 8) : PCall Try.prog 88 [iV n, iV w] (iV (n % w)) := by
 refine pcall_of_awp Try.func88 rfl (by simp [Try.ntmps88]) fun C hC => ?_
 refine awp_sr [] (by rw [hC]; rfl) fun k hk => ?_
 simp (maxSteps := 9^9) (disch := (try simp only [lens]); omega) only [argSl, sm, ↓amb, mark_eq, simprocAttr, dx]
 repeat refine ⟨by first | omega | (simp; done) | (unfold maxLen; omega) | (simp [maxLen]; omega) | assumption, ?_⟩
 refine hk _ ?_; clear hk k
 obtain ⟨hm1, hm2⟩ := Pl.tmod_bound n (m := w) (by omega)
 obtain ⟨hc1, hc2⟩ := Pl.cut_eq (n := n) (w := w) (by omega)
 refine awp_sr [] (by rw [hC]; rfl) fun k hk => ?_
 simp (maxSteps := 9^9) (disch := (try simp only [lens]); omega) only [argSl, sm, ↓amb, mark_eq, simprocAttr, dx]
 repeat refine ⟨by first | omega | (simp; done) | (unfold maxLen; omega) | (simp [maxLen]; omega) | assumption, ?_⟩
 refine hk _ ?_; clear hk k
 refine awp_seq fun k1 h1 => ?_
 refine awp_sr [] (by rw [hC]; rfl) fun k hk => ?_
 simp (maxSteps := 9^9) (disch := (try simp only [lens]); omega) only [argSl, sm, ↓amb, mark_eq, simprocAttr, dx]
 repeat refine ⟨by first | omega | (simp; done) | (unfold maxLen; omega) | (simp [maxLen]; omega) | assumption, ?_⟩
 refine hk _ ?_; clear hk k
 refine awp_cond rfl (fun hb => ?_) (fun hb => ?_)
 ·try simp only [hbx] at hb
  refine awp_region [] (by rw [hC]; rfl) fun k hk => ?_
  simp (maxSteps := 9^9) (disch := (try simp only [lens]); omega) only [argSl, sm, ↓amb, mark_eq, simprocAttr, dx]
  repeat refine ⟨by first | omega | (simp; done) | (unfold maxLen; omega) | (simp [maxLen]; omega) | assumption, ?_⟩
  refine hk _ ?_; clear hk k
  refine h1 _ ?_; clear h1 k1
  refine awp_sr [] (by rw [hC]; rfl) fun k hk => ?_
  simp (maxSteps := 9^9) (disch := (try simp only [lens]); omega) only [argSl, sm, ↓amb, mark_eq, simprocAttr, dx]
  repeat refine ⟨by first | omega | (simp; done) | (unfold maxLen; omega) | (simp [maxLen]; omega) | assumption, ?_⟩
  refine hk _ ?_; clear hk k
  refine awp_ret ?_
  refine ret1 rfl rfl ?_
  exact .p (LeP.of_eq (by rw [hc1 (by omega)]))
 ·try simp only [hbx] at hb
  refine awp_skip ?_
  refine h1 _ ?_; clear h1 k1
  refine awp_sr [] (by rw [hC]; rfl) fun k hk => ?_
  simp (maxSteps := 9^9) (disch := (try simp only [lens]); omega) only [argSl, sm, ↓amb, mark_eq, simprocAttr, dx]
  repeat refine ⟨by first | omega | (simp; done) | (unfold maxLen; omega) | (simp [maxLen]; omega) | assumption, ?_⟩
  refine hk _ ?_; clear hk k
  refine awp_ret ?_
  refine ret1 rfl rfl ?_
  exact .p (LeP.of_eq (by rw [hc2 (by omega)]))
set_option maxHeartbeats 4000000 in
theorem c_ref05_Held (c : Pl.Crew) (hb' : Pl.held c.dq ≤ 1000000000) (hd : c.dq.length ≤ 1000000) : PCall Try.prog 95 [.agg (crewC c)] (iV (Pl.held c.dq)) := by
 refine pcall_of_awp Try.func95 rfl (by simp [Try.ntmps95]) fun C hC => ?_
 refine awp_le (le_keep [0]) ?_
 simp only [kp, argSl, simprocAttr]
 refine awp_sr [] (by rw [hC]; rfl) fun k hk => ?_
 simp (maxSteps := 9^9) (disch := (try simp only [lens]); omega) only [argSl, sm, ↓amb, mark_eq, simprocAttr, dx]
 repeat refine ⟨by first | omega | (simp; done) | (unfold maxLen; omega) | (simp [maxLen]; omega) | assumption, ?_⟩
 refine hk _ ?_; clear hk k
 refine awp_le (le_keep [1]) ?_
 simp only [kp, argSl, simprocAttr]
 refine awp_sr [] (by rw [hC]; rfl) fun k hk => ?_
 simp (maxSteps := 9^9) (disch := (try simp only [lens]); omega) only [argSl, sm, ↓amb, mark_eq, simprocAttr, dx]
 repeat refine ⟨by first | omega | (simp; done) | (unfold maxLen; omega) | (simp [maxLen]; omega) | assumption, ?_⟩
 refine hk _ ?_; clear hk k
 refine awp_seq fun k1 h1 => ?_
 refine awp_le (le_keep [1, 2, 3]) ?_
 simp only [kp, argSl, simprocAttr]
 refine awp_sr [] (by rw [hC]; rfl) fun k hk => ?_
 simp (maxSteps := 9^9) (disch := (try simp only [lens]); omega) only [argSl, sm, ↓amb, mark_eq, simprocAttr, dx]
 repeat refine ⟨by first | omega | (simp; done) | (unfold maxLen; omega) | (simp [maxLen]; omega) | assumption, ?_⟩
 refine hk _ ?_; clear hk k
 refine awp_block ?_
 refine awp_loop (σ := Nat) (fun i => i ≤ c.dq.length) (fun (i : Nat) => ⟨[(1, (.ptr 0 7 0 0)), (3, (.p (iV (Pl.held (c.dq.take i))))), (4, (.p (iV (i : Int))))], [(0, (.row 7 [[.p (.seq false (c.work.ts.map taskC)), .p (iV c.work.grain), .p (.seq false (c.work.done.map fun b => [bV b])), .p (.seq false (c.dq.map lV)), .p (bV c.over), .p (iV c.steps), .p (iV c.idle)]]))], 1⟩) (fun i => c.dq.length - i) 0 ?_ ?_ fun x hx => ?_
 ·exact Nat.zero_le _
 ·exact le_of [(0, _)] (by rfl) (by rfl) ⟨⟨_, rfl, .ptr rfl⟩, ⟨_, rfl, .p (.of_eq (by first | rfl | (rw [Pl.held_take_succ c.dq x (by omega)]; simp only [PV.lit.injEq, Value.int.injEq, true_and]; omega)))⟩, ⟨_, rfl, .p (.of_eq (by first | rfl | (simp only [PV.lit.injEq, Value.int.injEq, true_and]; omega) | (simp; done) | (simp; omega)))⟩, trivial⟩ ⟨⟨_, rfl, _, rfl, .one (.cons (.p (.refl _)) (.cons (.p (.refl _)) (.cons (.p (.refl _)) (.cons (.p (.refl _)) (.cons (.p (.refl _)) (.cons (.p (.refl _)) (.cons (.p (.refl _)) (.nil))))))))⟩, trivial⟩
 refine awp_seq fun k3 h3 => ?_
 refine awp_le (le_keep [0, 1, 2, 3, 4]) ?_
 simp only [kp, argSl, simprocAttr]
 refine awp_sr [] (by rw [hC]; rfl) fun k hk => ?_
 simp (maxSteps := 9^9) (disch := (try simp only [lens]); omega) only [argSl, sm, ↓amb, mark_eq, simprocAttr, fl81_1, sz79, el79, dx]
 repeat refine ⟨by first | omega | (simp; done) | (unfold maxLen; omega) | (simp [maxLen]; omega) | assumption, ?_⟩
 refine hk _ ?_; clear hk k
 refine awp_cond rfl (fun hb => ?_) (fun hb => ?_)
 ·try simp only [hbx] at hb
  refine awp_skip ?_
  refine h3 _ ?_; clear h3 k3
  refine awp_seq fun k4 h4 => ?_
  refine awp_block ?_
  have hs := Pl.held_take_succ c.dq x (by omega)
  have hl := Pl.held_le c.dq (x + 1)
  refine awp_region [] (by rw [hC]; rfl) fun k hk => ?_
  simp (maxSteps := 9^9) (disch := (try simp only [lens]); omega) only [argSl, sm, ↓amb, mark_eq, simprocAttr, fl81_1, sz79, el79, sz32, el32, dx]
  repeat refine ⟨by first | omega | (simp; done) | (unfold maxLen; omega) | (simp [maxLen]; omega) | assumption, ?_⟩
  refine hk _ ?_; clear hk k
  refine h4 _ ?_; clear h4 k4
  refine awp_region [] (by rw [hC]; rfl) fun k hk => ?_
  simp (maxSteps := 9^9) (disch := (try simp only [lens]); omega) only [argSl, sm, ↓amb, mark_eq, simprocAttr, dx]
  repeat refine ⟨by first | omega | (simp; done) | (unfold maxLen; omega) | (simp [maxLen]; omega) | assumption, ?_⟩
  refine hk _ ?_; clear hk k
  refine ⟨x + 1, by omega, le_of [(0, _)] (by rfl) (by rfl) ⟨⟨_, rfl, .ptr rfl⟩, ⟨_, rfl, .p (.of_eq (by first | rfl | (rw [Pl.held_take_succ c.dq x (by omega)]; simp only [PV.lit.injEq, Value.int.injEq, true_and]; omega)))⟩, ⟨_, rfl, .p (.of_eq (by first | rfl | (simp only [PV.lit.injEq, Value.int.injEq, true_and]; omega) | (simp; done) | (simp; omega)))⟩, trivial⟩ ⟨⟨_, rfl, _, rfl, .one (.cons (.p (.refl _)) (.cons (.p (.refl _)) (.cons (.p (.refl _)) (.cons (.p (.refl _)) (.cons (.p (.refl _)) (.cons (.p (.refl _)) (.cons (.p (.refl _)) (.nil))))))))⟩, trivial⟩, by omega⟩
 ·try simp only [hbx] at hb
  refine awp_exit ((if_pos rfl).mpr ?_)
  refine h1 _ ?_; clear h3 k3; clear h1 k1
  refine awp_le (le_keep [3]) ?_
  simp only [kp, argSl, simprocAttr]
  have hx2 : c.dq.take x = c.dq := List.take_of_length_le (by omega)
  rw [hx2]
  refine awp_sr [] (by rw [hC]; rfl) fun k hk => ?_
  simp (maxSteps := 9^9) (disch := (try simp only [lens]); omega) only [argSl, sm, ↓amb, mark_eq, simprocAttr, dx]
  repeat refine ⟨by first | omega | (simp; done) | (unfold maxLen; omega) | (simp [maxLen]; omega) | assumption, ?_⟩
  refine hk _ ?_; clear hk k
  refine awp_ret ?_
  refine ret1 rfl rfl ?_
  exact .p (LeP.refl _)
end Go.Proofs.Ythelnccjcbnjfaa
end
section
set_option linter.unusedSimpArgs false
set_option linter.unusedVariables false
set_option maxRecDepth 100000
namespace Go.Proofs.Ythelnccjcbnjfaa
open Go.Am Go.Proofs
set_option maxHeartbeats 4000000 in
theorem c_ref05_Right (c : Pl.Crew) (hl : ∀ l, l ∈ c.dq → l.length ≤ 1000000 ∧ ∀ t, t ∈ l → -9223372036854775808 ≤ t ∧ t ≤ 9223372036854775807) : PCall Try.prog 87 [.agg (crewC c)] (bV (decide (Pl.crewRight c))) := by
 refine pcall_of_awp Try.func87 rfl (by simp [Try.ntmps87]) fun C hC => ?_
 refine awp_le (le_keep [0]) ?_
 simp only [kp, argSl, simprocAttr]
 refine awp_sr [47] (by rw [hC]; rfl) fun k hk => ?_
 simp (maxSteps := 9^9) (disch := (try simp only [lens]); omega) only [argSl, sm, ↓amb, mark_eq, simprocAttr, taskC, lV, dx]
 repeat refine ⟨by first | omega | (simp; done) | (unfold maxLen; omega) | (simp [maxLen]; omega) | assumption, ?_⟩
 refine hk _ ?_; clear hk k
 refine awp_le (le_keep [1]) ?_
 simp only [kp, argSl, simprocAttr]
 refine awp_sr [47] (by rw [hC]; rfl) fun k hk => ?_
 simp (maxSteps := 9^9) (disch := (try simp only [lens]); omega) only [argSl, sm, ↓amb, mark_eq, simprocAttr, fl81_1, sz79, el79, taskC, lV, dx]
 repeat refine ⟨by first | omega | (simp; done) | (unfold maxLen; omega) | (simp [maxLen]; omega) | assumption, ?_⟩
 refine hk _ ?_; clear hk k
 refine awp_seq fun k1 h1 => ?_
 refine awp_test [47] 42 (decide (¬ (Pl.right c.work ∧ 1 ≤ c.dq.length ∧ c.dq.length ≤ 8 ∧ (0 ≤ c.steps ∧ c.steps ≤ 100000) ∧ (0 ≤ c.idle ∧ c.idle ≤ 100000)))) [1, 2, 3] (by rw [hC]; rfl) (fun gd hgd k hk => ?_) ?_
 ·have g4 : gd 4 = some 15 := by rw [hgd]; rfl
  have g8 : gd 8 = some 19 := by rw [hgd]; rfl
  have g12 : gd 12 = some 23 := by rw [hgd]; rfl
  have g17 : gd 17 = some 28 := by rw [hgd]; rfl
  have g22 : gd 22 = some 33 := by rw [hgd]; rfl
  have g27 : gd 27 = some 38 := by rw [hgd]; rfl
  clear hgd
  simp (maxSteps := 9^9) (disch := (try simp only [lens]); omega) only [argSl, sm, ↓amb, mark_eq, simprocAttr, fl81_0, sz78, en102, fl81_3, sz3, fl81_4, gcase_undef, g4, g8, g12, g17, g22, g27, taskC, lV, dx]
  repeat' first | refine hk _ _ rfl rfl rfl rfl ?_ | (refine gsplit (fun hg => ?_) (fun hg => ?_) <;> (try simp only [hbx] at hg) <;> (try (have hin : ((c.dq.getD x default).getD y 0).toNat < c.work.ts.length := by omega); try (have hok := hR.2.2.2 _ hin; simp only [Pl.okT] at hok; have hcn := hR.1; simp only [Pl.cnt] at hcn)) <;> simp (maxSteps := 9^9) (disch := (try simp only [lens]); omega) only [argSl, sm, ↓amb, mark_eq, simprocAttr, fl81_0, sz78, en102, fl81_3, sz3, fl81_4, gcase_undef, g4, g8, g12, g17, g22, g27, taskC, lV, dx]) | apply And.intro | (refine callK_p (c38 _ _ _) rfl ?_; (try simp (maxSteps := 9^9) (disch := (try simp only [lens]); omega) only [argSl, sm, ↓amb, mark_eq, simprocAttr, fl81_0, sz78, en102, fl81_3, sz3, fl81_4, gcase_undef, g4, g8, g12, g17, g22, g27, taskC, lV, dx])) | fail
  all_goals first | rfl | omega | exact (decide_eq_true (by omega)).symm | exact (decide_eq_false (by omega)).symm | exact decide_eq_decide.mpr (by omega) | (refine Bool.eq_iff_iff.mpr ?_; simp only [beq_iff_eq, bne_iff_ne, ne_eq, decide_eq_true_eq]; omega) | (refine Bool.eq_iff_iff.mpr ?_; simp only [Bool.not_eq_true', Bool.not_eq_false', decide_eq_false_iff_not, decide_eq_true_eq, beq_iff_eq, bne_iff_ne, ne_eq]; omega) | assumption | (simp; done) | (simp [maxLen]; omega) | skip
  all_goals first | (refine Eq.symm (decide_eq_true ?_); intro q; exact absurd q.1 (by assumption)) | (refine Eq.symm (decide_eq_true ?_); intro q; omega) | (rw [← decide_not]; exact decide_eq_decide.mpr ⟨fun h q => by omega, fun h => by refine Decidable.byContradiction fun w => h ⟨by assumption, by omega, by omega, by omega, by omega⟩⟩) | (refine decide_eq_decide.mpr ⟨fun h q => by omega, fun h => by refine Decidable.byContradiction fun w => h ⟨by assumption, by omega, by omega, by omega, by omega⟩⟩) | trace_state
 simp only [kp, argSl, simprocAttr, List.length_cons, List.length_nil]
 refine awp_cond rfl (fun hb => ?_) (fun hb => ?_)
 ·try simp only [hbx] at hb
  refine awp_le (le_keep []) ?_
  simp only [kp, argSl, simprocAttr]
  have hb1 := hb
  refine awp_sr [47] (by rw [hC]; rfl) fun k hk => ?_
  simp (maxSteps := 9^9) (disch := (try simp only [lens]); omega) only [argSl, sm, ↓amb, mark_eq, simprocAttr, taskC, lV, dx]
  repeat refine ⟨by first | omega | (simp; done) | (unfold maxLen; omega) | (simp [maxLen]; omega) | assumption, ?_⟩
  refine hk _ ?_; clear hk k
  refine awp_ret ?_
  refine ret1 rfl rfl ?_
  exact .p (LeP.of_eq (by rw [decide_eq_false (fun q => hb ⟨q.1, q.2.1, q.2.2.1, q.2.2.2.1, q.2.2.2.2.1⟩)]))
 ·try simp only [hbx] at hb
  refine awp_skip ?_
  refine h1 _ ?_; clear h1 k1
  refine awp_le (le_keep [1, 3]) ?_
  simp only [kp, argSl, simprocAttr]
  have hq := hb
  have hR := hq.1
  have hts : c.work.ts.length ≤ 2000 := hR.2.2.1
  refine awp_sr [47] (by rw [hC]; rfl) fun k hk => ?_
  simp (maxSteps := 9^9) (disch := (try simp only [lens]); omega) only [argSl, sm, ↓amb, mark_eq, simprocAttr, fl81_0, fl78_0, sz75, el75, el76, by4, vr4, taskC, lV, dx]
  repeat refine ⟨by first | omega | (simp; done) | (unfold maxLen; omega) | (simp [maxLen]; omega) | assumption, ?_⟩
  refine hk _ ?_; clear hk k
  refine awp_seq fun k2 h2 => ?_
  refine awp_le (le_keep [1, 2, 3, 4]) ?_
  simp only [kp, argSl, simprocAttr]
  refine awp_sr [47] (by rw [hC]; rfl) fun k hk => ?_
  simp (maxSteps := 9^9) (disch := (try simp only [lens]); omega) only [argSl, sm, ↓amb, mark_eq, simprocAttr, taskC, lV, dx]
  repeat refine ⟨by first | omega | (simp; done) | (unfold maxLen; omega) | (simp [maxLen]; omega) | assumption, ?_⟩
  refine hk _ ?_; clear hk k
  refine awp_block ?_
  refine awp_loop (σ := Nat) (fun i => i ≤ c.dq.length ∧ Pl.metOk c.work (c.dq.take i).flatten) (fun (i : Nat) => ⟨[(1, (.ptr 0 7 0 0)), (3, (.p (iV c.dq.length))), (4, (.own 1)), (5, (.p (iV (i : Int))))], [(0, (.row 7 [[.p (.seq false (c.work.ts.map taskC)), .p (iV c.work.grain), .p (.seq false (c.work.done.map fun b => [bV b])), .p (.seq false (c.dq.map lV)), .p (bV c.over), .p (iV c.steps), .p (iV c.idle)]])), (1, (.row 1 (lift ((Pl.metL c.work.ts.length (c.dq.take i).flatten).map fun b => [bV b]))))], 1⟩) (fun i => c.dq.length - i) 0 ?_ ?_ fun x hx => ?_
  ·exact ⟨Nat.zero_le _, Pl.metOk_nil _⟩
  ·exact le_of [(0, _), (1, _)] (by rfl) (by rfl) ⟨⟨_, rfl, .ptr rfl⟩, ⟨_, rfl, .p (.of_eq (by first | rfl | (simp only [PV.lit.injEq, Value.int.injEq, true_and]; omega) | (simp; done) | (simp; omega)))⟩, ⟨_, rfl, .own rfl⟩, ⟨_, rfl, .p (.of_eq (by first | rfl | (simp only [PV.lit.injEq, Value.int.injEq, true_and]; omega) | (simp; done) | (simp; omega)))⟩, trivial⟩ ⟨⟨_, rfl, _, rfl, .one (.cons (.p (.refl _)) (.cons (.p (.refl _)) (.cons (.p (.refl _)) (.cons (.p (.refl _)) (.cons (.p (.refl _)) (.cons (.p (.refl _)) (.cons (.p (.refl _)) (.nil))))))))⟩, ⟨_, rfl, _, rfl, .liftE (by first | (rw [show (c.dq.take 0).flatten = [] from rfl, Pl.metL_nil, List.map_replicate]; done) | (rw [Pl.flat_succ c.dq x (by omega), List.take_of_length_le (l := (c.dq.getD x default)) (i := y) (by omega)]; done) | trace_state)⟩, trivial⟩
  obtain ⟨hx1, hx2⟩ := hx
  refine awp_seq fun k4 h4 => ?_
  refine awp_le (le_keep [0, 1, 2, 3, 4, 5]) ?_
  simp only [kp, argSl, simprocAttr]
  refine awp_sr [47] (by rw [hC]; rfl) fun k hk => ?_
  simp (maxSteps := 9^9) (disch := (try simp only [lens]); omega) only [argSl, sm, ↓amb, mark_eq, simprocAttr, taskC, lV, dx]
  repeat refine ⟨by first | omega | (simp; done) | (unfold maxLen; omega) | (simp [maxLen]; omega) | assumption, ?_⟩
  refine hk _ ?_; clear hk k
  refine awp_cond rfl (fun hb => ?_) (fun hb => ?_)
  ·try simp only [hbx] at hb
   refine awp_skip ?_
   refine h4 _ ?_; clear h4 k4
   refine awp_seq fun k5 h5 => ?_
   refine awp_block ?_
   refine awp_le (le_keep [0, 1, 2, 3, 4, 5]) ?_
   simp only [kp, argSl, simprocAttr]
   refine awp_sr [47] (by rw [hC]; rfl) fun k hk => ?_
   simp (maxSteps := 9^9) (disch := (try simp only [lens]); omega) only [argSl, sm, ↓amb, mark_eq, simprocAttr, taskC, lV, dx]
   repeat refine ⟨by first | omega | (simp; done) | (unfold maxLen; omega) | (simp [maxLen]; omega) | assumption, ?_⟩
   refine hk _ ?_; clear hk k
   refine awp_block ?_
   refine awp_loop (σ := Nat) (fun y => y ≤ (c.dq.getD x default).length ∧ Pl.metOk c.work ((c.dq.take x).flatten ++ (c.dq.getD x default).take y)) (fun (y : Nat) => ⟨[(1, (.ptr 0 7 0 0)), (3, (.p (iV c.dq.length))), (4, (.own 1)), (5, (.p (iV (x : Int)))), (6, (.p (iV (y : Int))))], [(0, (.row 7 [[.p (.seq false (c.work.ts.map taskC)), .p (iV c.work.grain), .p (.seq false (c.work.done.map fun b => [bV b])), .p (.seq false (c.dq.map lV)), .p (bV c.over), .p (iV c.steps), .p (iV c.idle)]])), (1, (.row 1 (lift ((Pl.metL c.work.ts.length ((c.dq.take x).flatten ++ (c.dq.getD x default).take y)).map fun b => [bV b]))))], 1⟩) (fun y => (c.dq.getD x default).length - y) 0 ?_ ?_ fun y hy => ?_
   ·exact ⟨Nat.zero_le _, by rw [List.take_zero, List.append_nil]; exact hx2⟩
   ·exact le_of [(0, _), (1, _)] (by rfl) (by rfl) ⟨⟨_, rfl, .ptr rfl⟩, ⟨_, rfl, .p (.of_eq (by first | rfl | (simp only [PV.lit.injEq, Value.int.injEq, true_and]; omega) | (simp; done) | (simp; omega)))⟩, ⟨_, rfl, .own rfl⟩, ⟨_, rfl, .p (.of_eq (by first | rfl | (simp only [PV.lit.injEq, Value.int.injEq, true_and]; omega) | (simp; done) | (simp; omega)))⟩, ⟨_, rfl, .p (.of_eq (by first | rfl | (simp only [PV.lit.injEq, Value.int.injEq, true_and]; omega) | (simp; done) | (simp; omega)))⟩, trivial⟩ ⟨⟨_, rfl, _, rfl, .one (.cons (.p (.refl _)) (.cons (.p (.refl _)) (.cons (.p (.refl _)) (.cons (.p (.refl _)) (.cons (.p (.refl _)) (.cons (.p (.refl _)) (.cons (.p (.refl _)) (.nil))))))))⟩, ⟨_, rfl, _, rfl, .liftE (by first | (rw [List.take_zero, List.append_nil]; done) | (rw [Pl.take_succ_at _ _ (by omega), ← List.append_assoc]; exact (List.map_set ..).symm.trans (congrArg (List.map _) (Pl.metL_snoc hho.1))) | trace_state)⟩, trivial⟩
   obtain ⟨hy1, hy2⟩ := hy
   refine awp_seq fun k7 h7 => ?_
   refine awp_le (le_keep [0, 1, 2, 3, 4, 5, 6]) ?_
   simp only [kp, argSl, simprocAttr]
   have hll := hl (c.dq.getD x default) (Pl.getD_mem _ _ _ (by omega))
   refine awp_sr [47] (by rw [hC]; rfl) fun k hk => ?_
   simp (maxSteps := 9^9) (disch := (try simp only [lens]); omega) only [argSl, sm, ↓amb, mark_eq, simprocAttr, fl81_1, sz79, el79, sz32, el32, taskC, lV, dx]
   repeat refine ⟨by first | omega | (simp; done) | (unfold maxLen; omega) | (simp [maxLen]; omega) | assumption, ?_⟩
   refine hk _ ?_; clear hk k
   refine awp_cond rfl (fun hb => ?_) (fun hb => ?_)
   ·try simp only [hbx] at hb
    refine awp_skip ?_
    refine h7 _ ?_; clear h7 k7
    refine awp_seq fun k8 h8 => ?_
    refine awp_block ?_
    refine awp_le (le_keep [0, 1, 2, 3, 4, 5, 6]) ?_
    simp only [kp, argSl, simprocAttr]
    refine awp_sr [47] (by rw [hC]; rfl) fun k hk => ?_
    simp (maxSteps := 9^9) (disch := (try simp only [lens]); omega) only [argSl, sm, ↓amb, mark_eq, simprocAttr, fl81_1, sz79, el79, sz32, el32, sz3, taskC, lV, dx]
    repeat refine ⟨by first | omega | (simp; done) | (unfold maxLen; omega) | (simp [maxLen]; omega) | assumption, ?_⟩
    refine hk _ ?_; clear hk k
    refine awp_seq fun k9 h9 => ?_
    have hkl := hll.2 ((c.dq.getD x default).getD y 0) (Pl.getD_mem _ _ _ (by omega))
    have hml := Pl.metL_len c.work.ts.length ((c.dq.take x).flatten ++ (c.dq.getD x default).take y)
    refine awp_testD [47] ⟨[0, 1, 3, 7, 7, 23, 63, 127, 255, 511, 511, 2047, 4095, 8191, 16383, 32767, 65535, 131071, 32767, 524287, 1048575, 2097151, 4194303, 8388607, 16777215, 33554431, 67108863, 33554431, 268435455, 536870911, 1073741823, 2147483647, 4294967295, 8589934591, 2147483647, 19327352831, 53687091199, 2147483647, 259845521407, 534723428351, 1084479242239, 2199023255551, 4398046511103, 8796093022207, 17592186044415], [5, 12, 17, 21, 26, 33, 36, 40, 42], [], [(28, 33), (28, 36), (28, 40), (28, 42)], some []⟩ 115 (decide (¬ Pl.heldOk c.work ((c.dq.take x).flatten ++ (c.dq.getD x default).take y) ((c.dq.getD x default).getD y 0))) [0, 1, 2, 3, 4, 5, 6, 7] (by rw [hC]; rfl) (by kernel_rfl) (by kernel_rfl) (fun gd hgd k hk => ?_) ?_
    ·have g2 : gd 2 = some 73 := by rw [hgd]; rfl
     have g8 : gd 8 = some 79 := by rw [hgd]; rfl
     have g14 : gd 14 = some 85 := by rw [hgd]; rfl
     have g24 : gd 24 = some 95 := by rw [hgd]; rfl
     have g30 : gd 30 = some 101 := by rw [hgd]; rfl
     clear hgd
     simp (maxSteps := 9^9) (disch := (try simp only [lens]); omega) only [argSl, sm, ↓amb, mark_eq, simprocAttr, el76, sz4, fl81_0, fl78_0, sz75, el75, sz114, fl114_3, sz3, sz78, en92, fl78_2, sz76, fl114_0, gcase_undef, g2, g8, g14, g24, g30, taskC, lV, dx]
     repeat' first | refine hk _ _ rfl rfl rfl rfl ?_ | (refine gsplit (fun hg => ?_) (fun hg => ?_) <;> (try simp only [hbx] at hg) <;> (try (have hin : ((c.dq.getD x default).getD y 0).toNat < c.work.ts.length := by omega); try (have hok := hR.2.2.2 _ hin; simp only [Pl.okT] at hok; have hcn := hR.1; simp only [Pl.cnt] at hcn)) <;> simp (maxSteps := 9^9) (disch := (try simp only [lens]); omega) only [argSl, sm, ↓amb, mark_eq, simprocAttr, el76, sz4, fl81_0, fl78_0, sz75, el75, sz114, fl114_3, sz3, sz78, en92, fl78_2, sz76, fl114_0, gcase_undef, g2, g8, g14, g24, g30, taskC, lV, dx]) | apply And.intro | (refine callK_p (c40 _ _ _ _) rfl ?_; (try simp (maxSteps := 9^9) (disch := (try simp only [lens]); omega) only [argSl, sm, ↓amb, mark_eq, simprocAttr, el76, sz4, fl81_0, fl78_0, sz75, el75, sz114, fl114_3, sz3, sz78, en92, fl78_2, sz76, fl114_0, gcase_undef, g2, g8, g14, g24, g30, taskC, lV, dx])) | fail
     all_goals first | rfl | omega | exact (decide_eq_true (by omega)).symm | exact (decide_eq_false (by omega)).symm | exact decide_eq_decide.mpr (by omega) | (refine Bool.eq_iff_iff.mpr ?_; simp only [beq_iff_eq, bne_iff_ne, ne_eq, decide_eq_true_eq]; omega) | (refine Bool.eq_iff_iff.mpr ?_; simp only [Bool.not_eq_true', Bool.not_eq_false', decide_eq_false_iff_not, decide_eq_true_eq, beq_iff_eq, bne_iff_ne, ne_eq]; omega) | assumption | (simp; done) | (simp [maxLen]; omega) | skip
     all_goals first | (refine (decide_eq_true ?_).symm; intro q; first | (have q1 := q.1; have q2 := q.2.1; omega) | exact q.2.2.1 (Pl.metL_in q.1 q.2.1 (by assumption)) | exact absurd q.2.2.2.1 (by assumption)) | (refine (decide_eq_false ?_).symm; intro q; exact q ⟨by omega, by omega, Pl.metL_out (n := c.work.ts.length) (by omega) (by omega) (by assumption), by assumption, .inl (by assumption)⟩) | exact Pl.held_last (by omega) (by omega) (Pl.metL_out (n := c.work.ts.length) (by omega) (by omega) (by assumption)) (by assumption) (by assumption) | trace_state
    simp only [kp, argSl, simprocAttr, List.length_cons, List.length_nil]
    refine awp_cond rfl (fun hb => ?_) (fun hb => ?_)
    ·try simp only [hbx] at hb
     refine awp_le (le_keep []) ?_
     simp only [kp, argSl, simprocAttr]
     refine awp_sr [47] (by rw [hC]; rfl) fun k hk => ?_
     simp (maxSteps := 9^9) (disch := (try simp only [lens]); omega) only [argSl, sm, ↓amb, mark_eq, simprocAttr, taskC, lV, dx]
     repeat refine ⟨by first | omega | (simp; done) | (unfold maxLen; omega) | (simp [maxLen]; omega) | assumption, ?_⟩
     refine hk _ ?_; clear hk k
     refine awp_ret ?_
     obtain ⟨r, hr⟩ := Pl.flat_at c.dq x y (by omega) (by omega)
     refine ret1 rfl rfl ?_
     exact .p (LeP.of_eq (by rw [decide_eq_false (Pl.crewRight_not hb hr)]))
    ·try simp only [hbx] at hb
     refine awp_skip ?_
     refine h9 _ ?_; clear h9 k9
     have hho := hb
     have hq0 := hho.1
     have hq1 := hho.2.1
     refine awp_region [47] (by rw [hC]; rfl) fun k hk => ?_
     simp (maxSteps := 9^9) (disch := (try simp only [lens]); omega) only [argSl, sm, ↓amb, mark_eq, simprocAttr, el76, sz4, taskC, lV, dx]
     repeat refine ⟨by first | omega | (simp; done) | (unfold maxLen; omega) | (simp [maxLen]; omega) | assumption, ?_⟩
     refine hk _ ?_; clear hk k
     refine h8 _ ?_; clear h8 k8
     refine awp_region [47] (by rw [hC]; rfl) fun k hk => ?_
     simp (maxSteps := 9^9) (disch := (try simp only [lens]); omega) only [argSl, sm, ↓amb, mark_eq, simprocAttr, taskC, lV, dx]
     repeat refine ⟨by first | omega | (simp; done) | (unfold maxLen; omega) | (simp [maxLen]; omega) | assumption, ?_⟩
     refine hk _ ?_; clear hk k
     refine ⟨y + 1, ⟨by omega, by rw [Pl.take_succ_at _ _ (by omega), ← List.append_assoc]; exact Pl.metOk_more hy2 hho⟩, le_of [(0, _), (1, _)] (by rfl) (by rfl) ⟨⟨_, rfl, .ptr rfl⟩, ⟨_, rfl, .p (.of_eq (by first | rfl | (simp only [PV.lit.injEq, Value.int.injEq, true_and]; omega) | (simp; done) | (simp; omega)))⟩, ⟨_, rfl, .own rfl⟩, ⟨_, rfl, .p (.of_eq (by first | rfl | (simp only [PV.lit.injEq, Value.int.injEq, true_and]; omega) | (simp; done) | (simp; omega)))⟩, ⟨_, rfl, .p (.of_eq (by first | rfl | (simp only [PV.lit.injEq, Value.int.injEq, true_and]; omega) | (simp; done) | (simp; omega)))⟩, trivial⟩ ⟨⟨_, rfl, _, rfl, .one (.cons (.p (.refl _)) (.cons (.p (.refl _)) (.cons (.p (.refl _)) (.cons (.p (.refl _)) (.cons (.p (.refl _)) (.cons (.p (.refl _)) (.cons (.p (.refl _)) (.nil))))))))⟩, ⟨_, rfl, _, rfl, .liftE (by first | (rw [List.take_zero, List.append_nil]; done) | (rw [Pl.take_succ_at _ _ (by omega), ← List.append_assoc]; exact (List.map_set ..).symm.trans (congrArg (List.map _) (Pl.metL_snoc hho.1))) | trace_state)⟩, trivial⟩, by omega⟩
   ·try simp only [hbx] at hb
    refine awp_exit ((if_pos rfl).mpr ?_)
    refine h5 _ ?_; clear h7 k7; clear h5 k5
    refine awp_region [47] (by rw [hC]; rfl) fun k hk => ?_
    simp (maxSteps := 9^9) (disch := (try simp only [lens]); omega) only [argSl, sm, ↓amb, mark_eq, simprocAttr, taskC, lV, dx]
    repeat refine ⟨by first | omega | (simp; done) | (unfold maxLen; omega) | (simp [maxLen]; omega) | assumption, ?_⟩
    refine hk _ ?_; clear hk k
    refine ⟨x + 1, ⟨by omega, by rw [Pl.flat_succ c.dq x (by omega)]; rw [List.take_of_length_le (l := (c.dq.getD x default)) (i := y) (by omega)] at hy2; exact hy2⟩, le_of [(0, _), (1, _)] (by rfl) (by rfl) ⟨⟨_, rfl, .ptr rfl⟩, ⟨_, rfl, .p (.of_eq (by first | rfl | (simp only [PV.lit.injEq, Value.int.injEq, true_and]; omega) | (simp; done) | (simp; omega)))⟩, ⟨_, rfl, .own rfl⟩, ⟨_, rfl, .p (.of_eq (by first | rfl | (simp only [PV.lit.injEq, Value.int.injEq, true_and]; omega) | (simp; done) | (simp; omega)))⟩, trivial⟩ ⟨⟨_, rfl, _, rfl, .one (.cons (.p (.refl _)) (.cons (.p (.refl _)) (.cons (.p (.refl _)) (.cons (.p (.refl _)) (.cons (.p (.refl _)) (.cons (.p (.refl _)) (.cons (.p (.refl _)) (.nil))))))))⟩, ⟨_, rfl, _, rfl, .liftE (by first | (rw [show (c.dq.take 0).flatten = [] from rfl, Pl.metL_nil, List.map_replicate]; done) | (rw [Pl.flat_succ c.dq x (by omega), List.take_of_length_le (l := (c.dq.getD x default)) (i := y) (by omega)]; done) | trace_state)⟩, trivial⟩, by omega⟩
  ·try simp only [hbx] at hb
   refine awp_exit ((if_pos rfl).mpr ?_)
   refine h2 _ ?_; clear h4 k4; clear h2 k2
   refine awp_le (le_keep []) ?_
   simp only [kp, argSl, simprocAttr]
   refine awp_sr [47] (by rw [hC]; rfl) fun k hk => ?_
   simp (maxSteps := 9^9) (disch := (try simp only [lens]); omega) only [argSl, sm, ↓amb, mark_eq, simprocAttr, taskC, lV, dx]
   repeat refine ⟨by first | omega | (simp; done) | (unfold maxLen; omega) | (simp [maxLen]; omega) | assumption, ?_⟩
   refine hk _ ?_; clear hk k
   refine awp_ret ?_
   rw [List.take_of_length_le (by omega)] at hx2
   refine ret1 rfl rfl ?_
   exact .p (LeP.of_eq (by rw [decide_eq_true (show Pl.crewRight c from ⟨hq.1, hq.2.1, hq.2.2.1, hq.2.2.2.1, hq.2.2.2.2, hx2.1, hx2.2⟩)]))
end Go.Proofs.Ythelnccjcbnjfaa
end
section
set_option linter.unusedSimpArgs false
set_option linter.unusedVariables false
set_option maxRecDepth 100000
namespace Go.Proofs.Ythelnccjcbnjfaa
open Go.Am Go.Proofs
@[reducible] def lE (l : List Int) : List PV := [.seq l.isEmpty (l.map fun n => [iV n])]
theorem lE_next (d : List (List Int)) (x : Nat) (h : x < d.length) : (d.take x).map lE ++ [[PV.seq (List.map (fun n => [iV n]) (d.getD x default)).isEmpty ((d.getD x default).map fun n => [iV n])]] = (d.take (x + 1)).map lE := by
  rw [take_snoc d x h, List.map_append, List.isEmpty_map]; rfl
theorem pl81_2 : tPlace Try.prog 81 2 = some (4, 1) := by kernel_rfl
theorem pl81_3 : tPlace Try.prog 81 3 = some (5, 1) := by kernel_rfl
theorem pl81_4 : tPlace Try.prog 81 4 = some (6, 1) := by kernel_rfl
set_option maxHeartbeats 4000000 in
theorem c_Copy_h (c : Pl.Crew) (h1 : c.work.ts.length ≤ 1000000) (h2 : c.work.done.length ≤ 1000000) (h3 : c.dq.length ≤ 1000000) (hl : ∀ l, l ∈ c.dq → l.length ≤ 1000000) : HCall Try.prog 89 [.p (.agg (crewC c))] [] (.agg [.p (.seq false (c.work.ts.map taskC)), .p (iV c.work.grain), .p (.seq false (c.work.done.map fun b => [bV b])), .own 0, .p (bV c.over), .p (iV c.steps), .p (iV c.idle)]) [(0, .row 1 (lift (c.dq.map lE)))] := by
 refine hcall_of_awp Try.func89 rfl (by simp [Try.ntmps89]) fun C hC => ?_
 refine awp_le (le_keep [0]) ?_
 simp only [kp, argSl, simprocAttr]
 refine awp_sr [32] (by rw [hC]; rfl) fun k hk => ?_
 simp (maxSteps := 9^9) (disch := (try simp only [lens]); omega) only [argSl, sm, ↓amb, mark_eq, simprocAttr, vr81, dx]
 repeat refine ⟨by first | omega | (simp; done) | (unfold maxLen; omega) | (simp [maxLen]; omega) | assumption, ?_⟩
 refine hk _ ?_; clear hk k
 refine awp_le (le_keep [1, 2]) ?_
 simp only [kp, argSl, simprocAttr]
 refine awp_sd [32] ⟨[0, 1, 3, 0, 8, 0, 32, 0, 128, 511, 0, 2047], [1, 4, 6, 8], [11], [(2, 11), (10, 11)], none⟩ (by rw [hC]; rfl) (by kernel_rfl) (by kernel_rfl) fun k hk => ?_
 simp (maxSteps := 9^9) (disch := (try simp only [lens]); omega) only [argSl, sm, ↓amb, mark_eq, simprocAttr, fl81_0, sz78, en103, fl81_2, sz4, fl81_3, sz3, fl81_4, vr81, bt81, pl81_0, pl81_2, pl81_3, pl81_4, sz81, dx]
 repeat refine ⟨by first | omega | (simp; done) | (unfold maxLen; omega) | (simp [maxLen]; omega) | assumption, ?_⟩
 refine callK_p (c27p _ _ _ h1 h2) rfl ?_
 simp (maxSteps := 9^9) (disch := (try simp only [lens]); omega) only [argSl, sm, ↓amb, mark_eq, simprocAttr, fl81_0, sz78, en103, fl81_2, sz4, fl81_3, sz3, fl81_4, vr81, bt81, pl81_0, pl81_2, pl81_3, pl81_4, sz81, dx]
 repeat refine ⟨by first | omega | (simp; done) | (unfold maxLen; omega) | (simp [maxLen]; omega) | assumption, ?_⟩
 refine hk _ ?_; clear hk k
 refine awp_seq fun k1 h1 => ?_
 refine awp_le (le_keep [1, 2, 3]) ?_
 simp only [kp, argSl, simprocAttr]
 refine awp_ownCs 3 1 3 rfl rfl rfl ?_
 simp only [am, List.set_cons_succ, List.set_cons_zero, Nat.reduceEqDiff, ↓reduceIte, reduceCtorEq, Nat.reduceAdd, Nat.reduceMul]
 refine awp_sr [32] (by rw [hC]; rfl) fun k hk => ?_
 simp (maxSteps := 9^9) (disch := (try simp only [lens]); omega) only [argSl, sm, ↓amb, mark_eq, simprocAttr, dx]
 repeat refine ⟨by first | omega | (simp; done) | (unfold maxLen; omega) | (simp [maxLen]; omega) | assumption, ?_⟩
 refine hk _ ?_; clear hk k
 refine awp_block ?_
 refine awp_loop (σ := Nat) (fun i => i ≤ c.dq.length) (fun (i : Nat) => ⟨[(1, (.ptr 0 7 0 0)), (2, (.ptr 1 7 0 0)), (3, (.ptr 2 7 0 0)), (4, (.p (iV (i : Int))))], [(0, (.row 7 [[.p (.seq false (c.work.ts.map taskC)), .p (iV c.work.grain), .p (.seq false (c.work.done.map fun b => [bV b])), .p (.seq false (c.dq.map lV)), .p (bV c.over), .p (iV c.steps), .p (iV c.idle)]])), (1, (.row 7 [[.p (.seq true []), .p (iV 0), .p (.seq true []), .p (.seq true []), .p (bV false), .p (iV 0), .p (iV 0)]])), (2, (.row 7 [[.p (.seq false (c.work.ts.map taskC)), .p (iV c.work.grain), .p (.seq false (c.work.done.map fun b => [bV b])), .own 3, .p (bV c.over), .p (iV c.steps), .p (iV c.idle)]])), (3, (.row 1 (lift ((c.dq.take i).map lE))))], 1⟩) (fun i => c.dq.length - i) 0 ?_ ?_ fun i hi => ?_
 ·exact Nat.zero_le _
 ·exact le_of [(0, _), (1, _), (2, _), (3, _)] (by rfl) (by rfl) ⟨⟨_, rfl, .ptr rfl⟩, ⟨_, rfl, .ptr rfl⟩, ⟨_, rfl, .ptr rfl⟩, ⟨_, rfl, .p (.of_eq (by first | rfl | (simp only [PV.lit.injEq, Value.int.injEq, true_and]; omega) | (simp; done) | (simp; omega)))⟩, trivial⟩ ⟨⟨_, rfl, _, rfl, .one (.cons (.p (.refl _)) (.cons (.p (.refl _)) (.cons (.p (.refl _)) (.cons (.p (.refl _)) (.cons (.p (.refl _)) (.cons (.p (.refl _)) (.cons (.p (.refl _)) (.nil))))))))⟩, ⟨_, rfl, _, rfl, .one (.cons (.p (.refl _)) (.cons (.p (.refl _)) (.cons (.p (.refl _)) (.cons (.p (.refl _)) (.cons (.p (.refl _)) (.cons (.p (.refl _)) (.cons (.p (.refl _)) (.nil))))))))⟩, ⟨_, rfl, _, rfl, .one (.cons (.p (.refl _)) (.cons (.p (.refl _)) (.cons (.p (.refl _)) (.cons (.own rfl) (.cons (.p (.refl _)) (.cons (.p (.refl _)) (.cons (.p (.refl _)) (.nil))))))))⟩, ⟨_, rfl, _, rfl, .liftE (by first | rfl | exact lE_next _ _ (by omega) | trace_state)⟩, trivial⟩
 refine awp_seq fun k3 h3 => ?_
 refine awp_le (le_keep [0, 1, 2, 3, 4]) ?_
 simp only [kp, argSl, simprocAttr]
 refine awp_sr [32] (by rw [hC]; rfl) fun k hk => ?_
 simp (maxSteps := 9^9) (disch := (try simp only [lens]); omega) only [argSl, sm, ↓amb, mark_eq, simprocAttr, fl81_1, sz79, el79, dx]
 repeat refine ⟨by first | omega | (simp; done) | (unfold maxLen; omega) | (simp [maxLen]; omega) | assumption, ?_⟩
 refine hk _ ?_; clear hk k
 refine awp_cond rfl (fun hb => ?_) (fun hb => ?_)
 ·try simp only [hbx] at hb
  refine awp_skip ?_
  refine h3 _ ?_; clear h3 k3
  refine awp_seq fun k4 h4 => ?_
  refine awp_block ?_
  have hll := hl (c.dq.getD i default) (Pl.getD_mem _ _ _ (by omega))
  refine awp_draw [32] ⟨[0, 1, 0, 0, 8, 0, 56, 120, 252, 508, 1023, 2047, 4095], [1], [10, 12], [(10, 12)], some [2, 3]⟩ (by rw [hC]; rfl) (by kernel_rfl) (by kernel_rfl) fun k hk => ?_
  simp (maxSteps := 9^9) (disch := (try simp only [lens]); omega) only [argSl, sm, ↓amb, mark_eq, simprocAttr, fl81_1, sz79, el32, vr3, el79, sz32, by3, vr32, by32, dx]
  repeat refine ⟨by first | omega | (simp; done) | (unfold maxLen; omega) | (simp [maxLen]; omega) | assumption, ?_⟩
  refine hk _ ?_; clear hk k
  refine h4 _ ?_; clear h4 k4
  refine awp_region [32] (by rw [hC]; rfl) fun k hk => ?_
  simp (maxSteps := 9^9) (disch := (try simp only [lens]); omega) only [argSl, sm, ↓amb, mark_eq, simprocAttr, dx]
  repeat refine ⟨by first | omega | (simp; done) | (unfold maxLen; omega) | (simp [maxLen]; omega) | assumption, ?_⟩
  refine hk _ ?_; clear hk k
  refine ⟨i + 1, by omega, le_of [(0, _), (1, _), (2, _), (3, _)] (by rfl) (by rfl) ⟨⟨_, rfl, .ptr rfl⟩, ⟨_, rfl, .ptr rfl⟩, ⟨_, rfl, .ptr rfl⟩, ⟨_, rfl, .p (.of_eq (by first | rfl | (simp only [PV.lit.injEq, Value.int.injEq, true_and]; omega) | (simp; done) | (simp; omega)))⟩, trivial⟩ ⟨⟨_, rfl, _, rfl, .one (.cons (.p (.refl _)) (.cons (.p (.refl _)) (.cons (.p (.refl _)) (.cons (.p (.refl _)) (.cons (.p (.refl _)) (.cons (.p (.refl _)) (.cons (.p (.refl _)) (.nil))))))))⟩, ⟨_, rfl, _, rfl, .one (.cons (.p (.refl _)) (.cons (.p (.refl _)) (.cons (.p (.refl _)) (.cons (.p (.refl _)) (.cons (.p (.refl _)) (.cons (.p (.refl _)) (.cons (.p (.refl _)) (.nil))))))))⟩, ⟨_, rfl, _, rfl, .one (.cons (.p (.refl _)) (.cons (.p (.refl _)) (.cons (.p (.refl _)) (.cons (.own rfl) (.cons (.p (.refl _)) (.cons (.p (.refl _)) (.cons (.p (.refl _)) (.nil))))))))⟩, ⟨_, rfl, _, rfl, .liftE (by first | rfl | exact lE_next _ _ (by omega) | trace_state)⟩, trivial⟩, by omega⟩
 ·try simp only [hbx] at hb
  refine awp_exit ((if_pos rfl).mpr ?_)
  refine h1 _ ?_; clear h3 k3; clear h1 k1
  refine awp_le (le_keep [2, 3]) ?_
  simp only [kp, argSl, simprocAttr]
  have htk : c.dq.take i = c.dq := List.take_of_length_le (by omega)
  rw [htk]
  refine awp_sr [32] (by rw [hC]; rfl) fun k hk => ?_
  simp (maxSteps := 9^9) (disch := (try simp only [lens]); omega) only [argSl, sm, ↓amb, mark_eq, simprocAttr, sz81, dx]
  repeat refine ⟨by first | omega | (simp; done) | (unfold maxLen; omega) | (simp [maxLen]; omega) | assumption, ?_⟩
  refine hk _ ?_; clear hk k
  refine awp_ret ?_
  refine rethc rfl rfl sz81 ?_
  simp (maxSteps := 9^9) (disch := (try simp only [lens]); omega) only [argSl, sm, ↓amb, mark_eq, simprocAttr, sz81, dx]
  exact le_of [(0, _)] (by rfl) (by rfl) ⟨⟨_, rfl, .agg rfl (LeRow.cons (.p (.refl _)) (LeRow.cons (.p (.refl _)) (LeRow.cons (.p (.refl _)) (LeRow.cons (.own rfl) (LeRow.cons (.p (.refl _)) (LeRow.cons (.p (.refl _)) (LeRow.cons (.p (.refl _)) .nil))))))).2⟩, trivial⟩ ⟨⟨_, rfl, _, rfl, .liftE rfl⟩, trivial⟩
set_option maxHeartbeats 4000000 in
theorem c_Pop_h (c : Bool) (l : List Int) (hl : l.length ≤ 1000000) (h0 : 0 < l.length) : HCall Try.prog 90 [.p (ints c l)] [] (.tup [.own 0, .p (iV (l.getD (l.length - 1) 0)), .p (iV 0)]) [(0, .row 1 (lift ((l.take (l.length - 1)).map fun n => [iV n])))] := by
 refine hcall_of_awp Try.func90 rfl (by simp [Try.ntmps90]) fun C hC => ?_
 refine awp_le (le_keep [0]) ?_
 simp only [kp, argSl, simprocAttr]
 refine awp_sr [17] (by rw [hC]; rfl) fun k hk => ?_
 simp (maxSteps := 9^9) (disch := (try simp only [lens]); omega) only [argSl, sm, ↓amb, mark_eq, simprocAttr, dx]
 repeat refine ⟨by first | omega | (simp; done) | (unfold maxLen; omega) | (simp [maxLen]; omega) | assumption, ?_⟩
 refine hk _ ?_; clear hk k
 refine awp_seq fun k1 h1 => ?_
 refine awp_le (le_keep [0, 2, 3, 4]) ?_
 simp only [kp, argSl, simprocAttr]
 refine awp_sr [17] (by rw [hC]; rfl) fun k hk => ?_
 simp (maxSteps := 9^9) (disch := (try simp only [lens]); omega) only [argSl, sm, ↓amb, mark_eq, simprocAttr, el32, dx]
 repeat refine ⟨by first | omega | (simp; done) | (unfold maxLen; omega) | (simp [maxLen]; omega) | assumption, ?_⟩
 refine hk _ ?_; clear hk k
 refine awp_cond rfl (fun hb => ?_) (fun hb => ?_)
 ·exact absurd (beq_iff_eq.mp hb) (by omega)
 ·try simp only [hbx] at hb
  refine awp_skip ?_
  refine h1 _ ?_; clear h1 k1
  refine awp_le (le_keep [0]) ?_
  simp only [kp, argSl, simprocAttr]
  refine awp_sr [17] (by rw [hC]; rfl) fun k hk => ?_
  simp (maxSteps := 9^9) (disch := (try simp only [lens]); omega) only [argSl, sm, ↓amb, mark_eq, simprocAttr, el32, dx]
  repeat refine ⟨by first | omega | (simp; done) | (unfold maxLen; omega) | (simp [maxLen]; omega) | assumption, ?_⟩
  refine hk _ ?_; clear hk k
  refine awp_le (le_keep [0, 5]) ?_
  simp only [kp, argSl, simprocAttr]
  refine awp_sd [17] ⟨[0, 0, 0, 6, 15, 0, 0, 96, 224, 31, 1023, 2047], [4, 8], [], [], some []⟩ (by rw [hC]; rfl) (by kernel_rfl) (by kernel_rfl) fun k hk => ?_
  simp (maxSteps := 9^9) (disch := (try simp only [lens]); omega) only [argSl, sm, ↓amb, mark_eq, simprocAttr, el32, vr3, sz3, by3, dx]
  repeat refine ⟨by first | omega | (simp; done) | (unfold maxLen; omega) | (simp [maxLen]; omega) | assumption, ?_⟩
  refine hk _ ?_; clear hk k
  refine awp_ret ?_
  refine reth3 rfl rfl rfl rfl ?_
  exact le_of [(0, _)] (by rfl) (by rfl) ⟨⟨_, rfl, leTup (LeRow.cons (.own rfl) (LeRow.cons (.p (.of_eq (by first | rfl | trace_state))) (LeRow.cons (.p (.refl _)) .nil)))⟩, trivial⟩ ⟨⟨_, rfl, _, rfl, .liftE (by first | rfl | trace_state)⟩, trivial⟩
end Go.Proofs.Ythelnccjcbnjfaa
end
section
set_option linter.unusedSimpArgs false
set_option linter.unusedVariables false
set_option maxRecDepth 100000
namespace Go.Proofs.Ythelnccjcbnjfaa
open Go.Am Go.Proofs
theorem mx1 (es : List (List PV)) (id sz k off : Nat) (vs : List AV) (K : Upd → Prop) : storeL none es id sz k off vs K = K ⟨.p (.lit undef), [(id, some (.row sz ((lift es).set k (splice ((es.getD k []).map .p) off vs))))]⟩ := rfl
theorem mx2 (es : List (List PV)) (sz k off n : Nat) (cs : List AV) (K : AV → Prop) : loadB (some (.row sz ((lift es).set k cs))) sz k off false n K = (k < es.length ∧ onE cs[off]? K) := by
  have hl : (lift es).length = es.length := by simp [lift]
  refine propext ⟨?_, ?_⟩
  · rintro ⟨_, h, ds, hd, hk⟩
    injection h with h; injection h with h1 h2; subst h2
    rw [List.getElem?_set] at hd
    split at hd
    · split at hd
      · injection hd with hd; subst hd; exact ⟨by omega, by simpa [onE] using hk⟩
      · cases hd
    · exact absurd rfl ‹_›
  · rintro ⟨h1, x, h2, h3⟩
    exact ⟨_, rfl, cs, List.getElem?_set_self (by omega), by simpa using ⟨x, h2, h3⟩⟩
theorem mx3 (es : List (List PV)) (id sz k off : Nat) (cs vs : List AV) (K : Upd → Prop) : storeB (some (.row sz ((lift es).set k cs))) id sz k off vs K = (k < es.length ∧ off + vs.length ≤ cs.length ∧ K ⟨.p (.lit undef), [(id, some (.row sz ((lift es).set k (splice cs off vs))))]⟩) := by
  have hl : (lift es).length = es.length := by simp [lift]
  refine propext ⟨?_, ?_⟩
  · rintro ⟨_, h, ds, hd, h4, hk⟩
    injection h with h; injection h with h1 h2; subst h2
    rw [List.getElem?_set] at hd
    split at hd
    · split at hd
      · injection hd with hd; subst hd
        rw [List.set_set] at hk
        exact ⟨by omega, h4, hk⟩
      · cases hd
    · exact absurd rfl ‹_›
  · rintro ⟨h1, h2, h3⟩
    exact ⟨_, rfl, cs, List.getElem?_set_self (by omega), h2, by rw [List.set_set]; exact h3⟩
theorem mx4 (es : List (List PV)) (k : Nat) (cs : List AV) : ((lift es).set k cs).length = es.length := by simp [lift]
theorem mx : type_of% (And.intro (And.intro @mx1 @mx2) (And.intro @mx3 @mx4)) := And.intro (And.intro @mx1 @mx2) (And.intro @mx3 @mx4)
theorem leB_setO {hp : List (Nat × Blk)} {π : List (Nat × Nat)} {sz : Nat} {es : List (List PV)} {i a b : Nat} (h : lkq π b = some a) : LeB hp π (.row sz ((lift es).set i [.own a])) (.row sz ((lift es).set i [.own b])) := by
  refine ⟨rfl, by simp, fun k cs ds h1 h2 => ?_⟩
  rw [List.getElem?_set] at h1 h2
  by_cases e : i = k
  · rw [if_pos e] at h1 h2
    split at h1
    · rename_i hlt
      rw [if_pos hlt] at h2
      injection h1 with h1; injection h2 with h2; subst h1 h2
      exact LeRow.cons (.own h) LeRow.nil
    · cases h1
  · rw [if_neg e] at h1 h2
    rw [h1] at h2; injection h2 with h2; subst h2
    simp only [lift, List.getElem?_map, Option.map_eq_some_iff] at h1
    obtain ⟨r, _, rfl⟩ := h1
    exact ⟨rfl, fun j u w hu hw => by
      rw [hu] at hw; injection hw with hw; subst hw
      rw [List.getElem?_map, Option.map_eq_some_iff] at hu
      obtain ⟨z, _, rfl⟩ := hu
      exact .p (.refl _)⟩
theorem leB_outF {hp : List (Nat × Blk)} {π : List (Nat × Nat)} {D : List (List Int)} {P k : Nat} {X : List Int} (hk : lkp hp k = some (.row 1 (lift (X.map fun n => [iV n])))) (hn : (π.all (fun q => q.2 != k) && k % 8 != 7) = true) :
    LeB hp π (.row 1 ((lift (D.map lE)).set P [.own k])) (.row 1 (lift ((D.set P X).map lV))) := by
  refine ⟨rfl, by simp [lift], fun i cs ds h1 h2 => ?_⟩
  rw [List.getElem?_set] at h1
  simp only [lift, List.getElem?_map, List.getElem?_set, List.length_map] at h1 h2
  by_cases e : P = i
  · rw [if_pos e] at h1 h2
    split at h1
    · rename_i hlt
      rw [if_pos hlt] at h2
      injection h1 with h1; simp only [Option.map_some, Option.some.injEq] at h2; subst h1 h2
      exact LeRow.cons (.frz hk hn) LeRow.nil
    · cases h1
  · rw [if_neg e] at h1 h2
    cases hd : D[i]? with
    | none => rw [hd] at h1; cases h1
    | some l =>
      rw [hd] at h1 h2
      simp only [Option.map_some, Option.some.injEq] at h1 h2; subst h1 h2
      exact LeRow.cons (.p (LeP.seq _ _)) LeRow.nil
def LvE (es : List (List PV)) (D : List (List Int)) : Prop := es.length = D.length ∧ ∀ (i : Nat) (l : List Int), D[i]? = some l → ∃ b, es[i]? = some [PV.seq b (l.map fun n => [iV n])]
theorem leB_outV {hp : List (Nat × Blk)} {π : List (Nat × Nat)} {es : List (List PV)} {D : List (List Int)} (h : LvE es D) :
    LeB hp π (.row 1 (lift es)) (.row 1 (lift (D.map lV))) := by
  refine Pl.leB_pt (by simpa using h.1) fun i x y h1 h2 => ?_
  rw [List.getElem?_map, Option.map_eq_some_iff] at h2
  obtain ⟨l, hl2, rfl⟩ := h2
  obtain ⟨b, hb⟩ := h.2 i l hl2
  rw [hb] at h1; injection h1 with h1; subst h1
  exact LeRow.cons (.p (LeP.seq _ _)) LeRow.nil
theorem lE_all (D : List (List Int)) : LvE (D.map lE) D := ⟨by simp, fun i l h => by
  rw [List.getElem?_map, h]; exact ⟨_, rfl⟩⟩
theorem lE_set {D : List (List Int)} {es : List (List PV)} (h : LvE es D) (P : Nat) (b : Bool) (X : List Int) : LvE (es.set P [PV.seq b (X.map fun n => [iV n])]) (D.set P X) := ⟨by simpa using h.1, fun i l hi => by
  rw [List.getElem?_set] at hi ⊢
  by_cases e : P = i
  · rw [if_pos e] at hi ⊢
    split at hi
    · rename_i hlt
      injection hi with hi; subst hi
      rw [if_pos (by rw [h.1]; exact hlt)]; exact ⟨_, rfl⟩
    · cases hi
  · rw [if_neg e] at hi ⊢; exact h.2 i l hi⟩
theorem lE_get {D : List (List Int)} {P V : Nat} (hP : P < D.length) (hne : V ≠ P) (h : D.getD P default = []) (y : List PV) : ((D.map lE).set V y).getD P default = [.seq true []] := by
  rw [List.getD_eq_getElem?_getD, List.getElem?_set_ne hne, List.getElem?_map, List.getElem?_eq_getElem hP]
  rw [List.getD_eq_getElem?_getD, List.getElem?_eq_getElem hP] at h
  simp only [Option.getD_some] at h
  simp [lE, h]
theorem en87 : enters Try.prog 87 = true := by kernel_rfl
theorem en88 : enters Try.prog 88 = true := by kernel_rfl
theorem en89 : enters Try.prog 89 = true := by kernel_rfl
theorem en90 : enters Try.prog 90 = true := by kernel_rfl
theorem en93 : enters Try.prog 93 = true := by kernel_rfl
theorem en94 : enters Try.prog 94 = true := by kernel_rfl
theorem pl112_0 : tPlace Try.prog 112 0 = some (0, 1) := by kernel_rfl
set_option maxHeartbeats 4000000 in
theorem c_Step_p (c : Pl.Crew) (p v : Int) (hl : ∀ l, l ∈ c.dq → l.length ≤ 1000000 ∧ ∀ t, t ∈ l → -9223372036854775808 ≤ t ∧ t ≤ 9223372036854775807) (h0 : (Pl.step c p v).2.2 = 0) (hp : 0 < (c.dq.getD (Pl.num c.dq p).toNat default).length) : PCall Try.prog 78 [.agg (crewC c), iV p, iV v] (.tup [.agg (crewC (Pl.step c p v).1), .agg (evC (Pl.step c p v).2.1), iV 0]) := by
 obtain ⟨P, V, hcp, hcv, hP, hV, hN, hPl, hVl, hcr, hst⟩ := Pl.step_at h0
 obtain ⟨hr1, hr2, hr3, hr4, hr5, hr6, hr7⟩ := id hcr
 have hRr : c.work.ts.length ≤ 2000 ∧ c.work.done.length ≤ 1000 := ⟨hr1.2.2.1, by have := hr1.1; unfold Pl.cnt at this; omega⟩
 have hlP := hl _ (Pl.getD_mem c.dq P default hPl)
 have hlV := hl _ (Pl.getD_mem c.dq V default hVl)
 rw [hP] at hp
 have hso := Pl.step_own h0 hP hN hV hp (t := ((c.dq.getD P default).getD ((c.dq.getD P default).length - 1) 0)) rfl
 refine pcall_of_awp Try.func78 rfl (by simp [Try.ntmps78]) fun C hC => ?_
 refine awp_le (le_keep [0, 1, 2]) ?_
 simp only [kp, argSl, simprocAttr]
 refine awp_sr [141] (by rw [hC]; rfl) fun k hk => ?_
 simp (maxSteps := 9^9) (disch := (try simp only [lens]); omega) only [argSl, sm, ↓amb, mark_eq, simprocAttr, vr81, vr112, lE, mx, dx]
 repeat refine ⟨by first | omega | (simp; done) | (unfold maxLen; omega) | (simp [maxLen]; omega) | assumption, ?_⟩
 refine hk _ ?_; clear hk k
 refine awp_seq fun k1 h1 => ?_
 refine awp_block ?_
 refine awp_le (le_keep [1, 2, 3, 6, 7, 8]) ?_
 simp only [kp, argSl, simprocAttr]
 refine awp_sr [141] (by rw [hC]; rfl) fun k hk => ?_
 simp (maxSteps := 9^9) (disch := (try simp only [lens]); omega) only [argSl, sm, ↓amb, mark_eq, simprocAttr, sz81, en87, lE, mx, dx]
 repeat refine ⟨by first | omega | (simp; done) | (unfold maxLen; omega) | (simp [maxLen]; omega) | assumption, ?_⟩
 refine callK_p (c_ref05_Right _ hl) rfl ?_
 simp (maxSteps := 9^9) (disch := (try simp only [lens]); omega) only [argSl, sm, ↓amb, mark_eq, simprocAttr, sz81, en87, lE, mx, dx]
 repeat refine ⟨by first | omega | (simp; done) | (unfold maxLen; omega) | (simp [maxLen]; omega) | assumption, ?_⟩
 refine hk _ ?_; clear hk k
 refine awp_cond rfl (fun hb => ?_) (fun hb => ?_)
 ·exact absurd hcr (by simpa using hb)
 ·try simp only [hbx] at hb
  refine awp_le (le_keep [1, 2, 3, 6, 7, 8]) ?_
  simp only [kp, argSl, simprocAttr]
  refine awp_sr [141] (by rw [hC]; rfl) fun k hk => ?_
  simp (maxSteps := 9^9) (disch := (try simp only [lens]); omega) only [argSl, sm, ↓amb, mark_eq, simprocAttr, fl81_3, sz3, lE, mx, dx]
  repeat refine ⟨by first | omega | (simp; done) | (unfold maxLen; omega) | (simp [maxLen]; omega) | assumption, ?_⟩
  refine hk _ ?_; clear hk k
  refine awp_cond rfl (fun hb => ?_) (fun hb => ?_)
  ·exact absurd (beq_iff_eq.mp hb) hst
  ·try simp only [hbx] at hb
   refine awp_skip ?_
   refine h1 _ ?_; clear h1 k1
   refine awp_le (le_keep [1, 2, 3, 6, 7]) ?_
   simp only [kp, argSl, simprocAttr]
   refine awp_sr [141] (by rw [hC]; rfl) fun k hk => ?_
   simp (maxSteps := 9^9) (disch := (try simp only [lens]); omega) only [argSl, sm, ↓amb, mark_eq, simprocAttr, fl81_1, sz79, el79, lE, mx, dx]
   repeat refine ⟨by first | omega | (simp; done) | (unfold maxLen; omega) | (simp [maxLen]; omega) | assumption, ?_⟩
   refine hk _ ?_; clear hk k
   refine awp_le (le_keep [1, 2, 3, 6, 7, 9]) ?_
   simp only [kp, argSl, simprocAttr]
   refine awp_sr [141] (by rw [hC]; rfl) fun k hk => ?_
   simp (maxSteps := 9^9) (disch := (try simp only [lens]); omega) only [argSl, sm, ↓amb, mark_eq, simprocAttr, en88, lE, mx, dx]
   repeat refine ⟨by first | omega | (simp; done) | (unfold maxLen; omega) | (simp [maxLen]; omega) | assumption, ?_⟩
   refine callK_p (c_ref05_cut _ _ (by omega)) rfl ?_
   simp (maxSteps := 9^9) (disch := (try simp only [lens]); omega) only [argSl, sm, ↓amb, mark_eq, simprocAttr, en88, lE, mx, dx]
   repeat refine ⟨by first | omega | (simp; done) | (unfold maxLen; omega) | (simp [maxLen]; omega) | assumption, ?_⟩
   refine callK_p (c_ref05_cut _ _ (by omega)) rfl ?_
   simp (maxSteps := 9^9) (disch := (try simp only [lens]); omega) only [argSl, sm, ↓amb, mark_eq, simprocAttr, en88, lE, mx, dx]
   repeat refine ⟨by first | omega | (simp; done) | (unfold maxLen; omega) | (simp [maxLen]; omega) | assumption, ?_⟩
   refine hk _ ?_; clear hk k
   refine awp_le (le_keep [1, 2, 3, 6, 7]) ?_
   simp only [kp, argSl, simprocAttr]
   rw [hcp, hcv]
   refine awp_sr [141] (by rw [hC]; rfl) fun k hk => ?_
   simp (maxSteps := 9^9) (disch := (try simp only [lens]); omega) only [argSl, sm, ↓amb, mark_eq, simprocAttr, sz81, en89, vr81, lE, mx, dx]
   repeat refine ⟨by first | omega | (simp; done) | (unfold maxLen; omega) | (simp [maxLen]; omega) | assumption, ?_⟩
   refine callK_h (c_Copy_h c (by omega) (by omega) (by omega) (fun l h => (hl l h).1)) [] [] (by first | rfl | (simp only [hm]; done)) (by first | rfl | (simp [namesOk, lkp]; done)) ?_ ?_ ?_ ?_ ?_ ?_ ?_
   (iterate 6 (focus (first | trivial | (intro n hn; cases hn; done) | (simp (maxSteps := 9^9) (disch := (try simp only [lens]); omega) only [argSl, sm, ↓amb, mark_eq, simprocAttr, sz81, en89, vr81, lE, mx, dx, hmx, List.filter_cons, Nat.reduceBNe, imp_self, implies_true]; done))))
   simp (maxSteps := 9^9) (disch := (try simp only [lens]); omega) only [argSl, sm, ↓amb, mark_eq, simprocAttr, sz81, en89, vr81, lE, mx, dx, hm, List.filter_cons, List.filter_nil, Nat.reduceBNe, Option.map_none]
   repeat refine ⟨by first | omega | (simp; done) | (unfold maxLen; omega) | (simp [maxLen]; omega) | assumption, ?_⟩
   refine hk _ ?_; clear hk k
   refine awp_le (le_keep [1, 2, 3, 6, 7, 10]) ?_
   simp only [kp, argSl, simprocAttr]
   refine awp_sr [141] (by rw [hC]; rfl) fun k hk => ?_
   simp (maxSteps := 9^9) (disch := (try simp only [lens]); omega) only [argSl, sm, ↓amb, mark_eq, simprocAttr, fl81_3, sz3, lE, mx, dx]
   repeat refine ⟨by first | omega | (simp; done) | (unfold maxLen; omega) | (simp [maxLen]; omega) | assumption, ?_⟩
   refine hk _ ?_; clear hk k
   refine awp_le (le_keep [1, 2, 3, 6, 7, 10]) ?_
   simp only [kp, argSl, simprocAttr]
   refine awp_sr [141] (by rw [hC]; rfl) fun k hk => ?_
   simp (maxSteps := 9^9) (disch := (try simp only [lens]); omega) only [argSl, sm, ↓amb, mark_eq, simprocAttr, vr112, bt112, pl112_0, pl112_1, pl112_2, sz112, lE, mx, dx]
   repeat refine ⟨by first | omega | (simp; done) | (unfold maxLen; omega) | (simp [maxLen]; omega) | assumption, ?_⟩
   refine hk _ ?_; clear hk k
   refine awp_seq fun k2 h2 => ?_
   refine awp_le (le_keep [1, 2, 3, 6, 7, 8, 10, 11]) ?_
   simp only [kp, argSl, simprocAttr]
   refine awp_sr [141] (by rw [hC]; rfl) fun k hk => ?_
   simp (maxSteps := 9^9) (disch := (try simp only [lens]); omega) only [argSl, sm, ↓amb, mark_eq, simprocAttr, fl81_1, sz79, el79, sz32, en90, lE, mx, dx]
   repeat refine ⟨by first | omega | (simp; done) | (unfold maxLen; omega) | (simp [maxLen]; omega) | assumption, ?_⟩
   refine callK_h (c_Pop_h false (c.dq.getD P default) hlP.1 hp) [] [] (by first | rfl | (simp only [hm]; done)) (by first | rfl | (simp [namesOk, lkp]; done)) ?_ ?_ ?_ ?_ ?_ ?_ ?_
   (iterate 6 (focus (first | trivial | (intro n hn; cases hn; done) | (simp (maxSteps := 9^9) (disch := (try simp only [lens]); omega) only [argSl, sm, ↓amb, mark_eq, simprocAttr, fl81_1, sz79, el79, sz32, en90, lE, mx, dx, hmx, List.filter_cons, Nat.reduceBNe, imp_self, implies_true]; done))))
   simp (maxSteps := 9^9) (disch := (try simp only [lens]); omega) only [argSl, sm, ↓amb, mark_eq, simprocAttr, fl81_1, sz79, el79, sz32, en90, lE, mx, dx, hm, List.filter_cons, List.filter_nil, Nat.reduceBNe, Option.map_none]
   repeat refine ⟨by first | omega | (simp; done) | (unfold maxLen; omega) | (simp [maxLen]; omega) | assumption, ?_⟩
   refine hk _ ?_; clear hk k
   refine awp_le (le_keep [1, 2, 3, 6, 7, 8, 10, 11, 12, 13, 14]) ?_
   simp only [kp, argSl, simprocAttr]
   refine awp_sr [141] (by rw [hC]; rfl) fun k hk => ?_
   simp (maxSteps := 9^9) (disch := (try simp only [lens]); omega) only [argSl, sm, ↓amb, mark_eq, simprocAttr, lE, mx, dx]
   repeat refine ⟨by first | omega | (simp; done) | (unfold maxLen; omega) | (simp [maxLen]; omega) | assumption, ?_⟩
   refine hk _ ?_; clear hk k
   refine awp_cond rfl (fun hb => ?_) (fun hb => ?_)
   ·try simp only [hbx] at hb
    refine awp_region [141] (by rw [hC]; rfl) fun k hk => ?_
    simp (maxSteps := 9^9) (disch := (try simp only [lens]); omega) only [argSl, sm, ↓amb, mark_eq, simprocAttr, fl81_1, sz79, el79, sz32, fl112_1, sz3, fl112_2, lE, mx, dx]
    repeat refine ⟨by first | omega | (simp; done) | (unfold maxLen; omega) | (simp [maxLen]; omega) | assumption, ?_⟩
    refine hk _ ?_; clear hk k
    refine h2 _ ?_; clear h2 k2
    refine awp_seq fun k3 h3 => ?_
    refine awp_le (le_keep [1, 3, 6, 7, 8, 10, 11]) ?_
    simp only [kp, argSl, simprocAttr]
    refine awp_le (show LE _ (⟨[(1, (.p (iV (P : Int)))), (3, (.ptr 0 7 0 0)), (6, (.ptr 1 7 0 0)), (7, (.ptr 2 4 0 0)), (10, (.ptr 3 7 0 0)), (11, (.ptr 4 4 0 0))], [(0, (.row 7 [[.p (.seq false (c.work.ts.map taskC)), .p (iV c.work.grain), .p (.seq false (c.work.done.map fun b => [bV b])), .p (.seq false (c.dq.map lV)), .p (bV c.over), .p (iV c.steps), .p (iV c.idle)]])), (1, (.row 7 [[.p (.seq true []), .p (iV 0), .p (.seq true []), .p (.seq true []), .p (bV false), .p (iV 0), .p (iV 0)]])), (2, (.row 4 [[.p (iV 0), .p (iV 0), .p (iV 0), .p (bV false)]])), (3, (.row 7 [[.p (.seq false (c.work.ts.map taskC)), .p (iV c.work.grain), .p (.seq false (c.work.done.map fun b => [bV b])), .own 5, .p (bV c.over), .p (iV (c.steps + 1)), .p (iV c.idle)]])), (4, (.row 4 [[.p (iV (P : Int)), .p (iV (P : Int)), .p (iV ((c.dq.getD P default).getD ((c.dq.getD P default).length - 1) 0)), .p (bV false)]])), (5, (.row 1 ((lift (c.dq.map lE)).set P [.own 6]))), (6, (.row 1 (lift (((c.dq.getD P default).take ((c.dq.getD P default).length - 1)).map fun n => [iV n]))))], 1⟩ : LS) from le_of [(0, _), (1, _), (2, _), (3, _), (4, _), (5, _), (6, 336)] (by rfl) (by rfl) ⟨⟨_, rfl, .p (.of_eq (by first | rfl | (simp only [PV.lit.injEq, Value.int.injEq, true_and]; omega) | (simp; done) | (simp; omega)))⟩, ⟨_, rfl, .ptr rfl⟩, ⟨_, rfl, .ptr rfl⟩, ⟨_, rfl, .ptr rfl⟩, ⟨_, rfl, .ptr rfl⟩, ⟨_, rfl, .ptr rfl⟩, trivial⟩ ⟨⟨_, rfl, _, rfl, .one (.cons (.p (.refl _)) (.cons (.p (.refl _)) (.cons (.p (.refl _)) (.cons (.p (.refl _)) (.cons (.p (.refl _)) (.cons (.p (.refl _)) (.cons (.p (.refl _)) (.nil))))))))⟩, ⟨_, rfl, _, rfl, .one (.cons (.p (.refl _)) (.cons (.p (.refl _)) (.cons (.p (.refl _)) (.cons (.p (.refl _)) (.cons (.p (.refl _)) (.cons (.p (.refl _)) (.cons (.p (.refl _)) (.nil))))))))⟩, ⟨_, rfl, _, rfl, .one (.cons (.p (.refl _)) (.cons (.p (.refl _)) (.cons (.p (.refl _)) (.cons (.p (.refl _)) (.nil)))))⟩, ⟨_, rfl, _, rfl, .one (.cons (.p (.refl _)) (.cons (.p (.refl _)) (.cons (.p (.refl _)) (.cons (.own rfl) (.cons (.p (.refl _)) (.cons (.p (.refl _)) (.cons (.p (.refl _)) (.nil))))))))⟩, ⟨_, rfl, _, rfl, .one (.cons (.p (.refl _)) (.cons (.p (.refl _)) (.cons (.p (.refl _)) (.cons (.p (.refl _)) (.nil)))))⟩, ⟨_, rfl, _, rfl, leB_setO (by rfl)⟩, ⟨_, rfl, _, rfl, .liftE rfl⟩, trivial⟩) ?_
    refine awp_sr [141] (by rw [hC]; rfl) fun k hk => ?_
    simp (maxSteps := 9^9) (disch := (try simp only [lens]); omega) only [argSl, sm, ↓amb, mark_eq, simprocAttr, fl81_0, sz78, fl112_2, sz3, en92, lE, mx, dx]
    repeat refine ⟨by first | omega | (simp; done) | (unfold maxLen; omega) | (simp [maxLen]; omega) | assumption, ?_⟩
    refine callK_p (c40 _ _ _ _) rfl ?_
    simp (maxSteps := 9^9) (disch := (try simp only [lens]); omega) only [argSl, sm, ↓amb, mark_eq, simprocAttr, fl81_0, sz78, fl112_2, sz3, en92, lE, mx, dx]
    repeat refine ⟨by first | omega | (simp; done) | (unfold maxLen; omega) | (simp [maxLen]; omega) | assumption, ?_⟩
    refine hk _ ?_; clear hk k
    refine awp_cond rfl (fun hb => ?_) (fun hb => ?_)
    ·try simp only [hbx] at hb
     refine awp_le (le_keep [1, 3, 6, 7, 10, 11]) ?_
     simp only [kp, argSl, simprocAttr]
     have hgp := hso.1 hb
     refine awp_sr [141] (by rw [hC]; rfl) fun k hk => ?_
     simp (maxSteps := 9^9) (disch := (try simp only [lens]); omega) only [argSl, sm, ↓amb, mark_eq, simprocAttr, fl81_0, sz78, fl112_2, sz3, en93, vr78, lE, mx, dx]
     repeat refine ⟨by first | omega | (simp; done) | (unfold maxLen; omega) | (simp [maxLen]; omega) | assumption, ?_⟩
     refine callK_p (c29 _ _ _ _) rfl ?_
     simp (maxSteps := 9^9) (disch := (try simp only [lens]); omega) only [argSl, sm, ↓amb, mark_eq, simprocAttr, fl81_0, sz78, fl112_2, sz3, en93, vr78, lE, mx, dx]
     repeat refine ⟨by first | omega | (simp; done) | (unfold maxLen; omega) | (simp [maxLen]; omega) | assumption, ?_⟩
     refine hk _ ?_; clear hk k
     refine awp_seq fun k4 h4 => ?_
     refine awp_le (le_keep [1, 3, 6, 7, 8, 10, 11, 18, 19, 20, 21]) ?_
     simp only [kp, argSl, simprocAttr]
     refine awp_sr [141] (by rw [hC]; rfl) fun k hk => ?_
     simp (maxSteps := 9^9) (disch := (try simp only [lens]); omega) only [argSl, sm, ↓amb, mark_eq, simprocAttr, lE, mx, dx]
     repeat refine ⟨by first | omega | (simp; done) | (unfold maxLen; omega) | (simp [maxLen]; omega) | assumption, ?_⟩
     refine hk _ ?_; clear hk k
     refine awp_cond rfl (fun hb => ?_) (fun hb => ?_)
     ·rw [hgp.1] at hb; exact absurd hb (by simp)
     ·try simp only [hbx] at hb
      refine awp_skip ?_
      refine h4 _ ?_; clear h4 k4
      refine awp_le (le_keep [1, 6, 7, 10, 11, 18, 19, 20]) ?_
      simp only [kp, argSl, simprocAttr]
      refine awp_sr [141] (by rw [hC]; rfl) fun k hk => ?_
      simp (maxSteps := 9^9) (disch := (try simp only [lens]); omega) only [argSl, sm, ↓amb, mark_eq, simprocAttr, sz78, fl81_0, fl112_3, sz4, lE, mx, dx]
      repeat refine ⟨by first | omega | (simp; done) | (unfold maxLen; omega) | (simp [maxLen]; omega) | assumption, ?_⟩
      refine hk _ ?_; clear hk k
      refine awp_le (le_keep [1, 6, 7, 10, 11, 19, 20]) ?_
      simp only [kp, argSl, simprocAttr]
      refine awp_sd [141] ⟨[0, 1, 0, 0, 8, 0, 56, 120, 0, 0, 768, 2040, 4095, 8191], [6, 7, 12], [11, 13], [(11, 13)], some [5, 6]⟩ (by rw [hC]; rfl) (by kernel_rfl) (by kernel_rfl) fun k hk => ?_
      simp (maxSteps := 9^9) (disch := (try simp only [lens]); omega) only [argSl, sm, ↓amb, mark_eq, simprocAttr, fl81_1, sz79, el79, sz32, el32, vr3, by3, lE, mx, dx]
      repeat refine ⟨by first | omega | (simp; done) | (unfold maxLen; omega) | (simp [maxLen]; omega) | assumption, ?_⟩
      refine hk _ ?_; clear hk k
      refine awp_le (le_keep [6, 7, 10, 11]) ?_
      simp only [kp, argSl, simprocAttr]
      refine awp_le (show LE _ (⟨[(6, (.ptr 1 7 0 0)), (7, (.ptr 2 4 0 0)), (10, (.ptr 3 7 0 0)), (11, (.ptr 4 4 0 0))], [(1, (.row 7 [[.p (.seq true []), .p (iV 0), .p (.seq true []), .p (.seq true []), .p (bV false), .p (iV 0), .p (iV 0)]])), (2, (.row 4 [[.p (iV 0), .p (iV 0), .p (iV 0), .p (bV false)]])), (3, (.row 7 [[.p (.seq false ((Pl.partW c.work ((c.dq.getD P default).getD ((c.dq.getD P default).length - 1) 0)).ts.map taskC)), .p (iV (Pl.partW c.work ((c.dq.getD P default).getD ((c.dq.getD P default).length - 1) 0)).grain), .p (.seq false ((Pl.partW c.work ((c.dq.getD P default).getD ((c.dq.getD P default).length - 1) 0)).done.map fun b => [bV b])), .own 5, .p (bV c.over), .p (iV (c.steps + 1)), .p (iV c.idle)]])), (4, (.row 4 [[.p (iV (P : Int)), .p (iV (P : Int)), .p (iV ((c.dq.getD P default).getD ((c.dq.getD P default).length - 1) 0)), .p (bV true)]])), (5, (.row 1 (lift ((c.dq.set P (((c.dq.getD P default).take ((c.dq.getD P default).length - 1)) ++ [Pl.partB c.work ((c.dq.getD P default).getD ((c.dq.getD P default).length - 1) 0), Pl.partA c.work ((c.dq.getD P default).getD ((c.dq.getD P default).length - 1) 0)])).map lV))))], 1⟩ : LS) from le_of [(1, _), (2, _), (3, _), (4, _), (5, 5)] (by rfl) (by rfl) ⟨⟨_, rfl, .ptr rfl⟩, ⟨_, rfl, .ptr rfl⟩, ⟨_, rfl, .ptr rfl⟩, ⟨_, rfl, .ptr rfl⟩, trivial⟩ ⟨⟨_, rfl, _, rfl, .one (.cons (.p (.refl _)) (.cons (.p (.refl _)) (.cons (.p (.refl _)) (.cons (.p (.refl _)) (.cons (.p (.refl _)) (.cons (.p (.refl _)) (.cons (.p (.refl _)) (.nil))))))))⟩, ⟨_, rfl, _, rfl, .one (.cons (.p (.refl _)) (.cons (.p (.refl _)) (.cons (.p (.refl _)) (.cons (.p (.refl _)) (.nil)))))⟩, ⟨_, rfl, _, rfl, .one (.cons (.p (.refl _)) (.cons (.p (.refl _)) (.cons (.p (.refl _)) (.cons (.own rfl) (.cons (.p (.refl _)) (.cons (.p (.refl _)) (.cons (.p (.refl _)) (.nil))))))))⟩, ⟨_, rfl, _, rfl, .one (.cons (.p (.refl _)) (.cons (.p (.refl _)) (.cons (.p (.refl _)) (.cons (.p (.refl _)) (.nil)))))⟩, ⟨_, rfl, _, rfl, leB_outF (k := 312) (by rw [List.map_append]; rfl) (by rfl)⟩, trivial⟩) ?_
      refine awp_sd [141] ⟨[0, 0, 1, 7, 15], [], [2, 3], [], some [1, 2]⟩ (by rw [hC]; rfl) (by kernel_rfl) (by kernel_rfl) fun k hk => ?_
      simp (maxSteps := 9^9) (disch := (try simp only [lens]); omega) only [argSl, sm, ↓amb, mark_eq, simprocAttr, sz81, sz112, lE, mx, dx]
      repeat refine ⟨by first | omega | (simp; done) | (unfold maxLen; omega) | (simp [maxLen]; omega) | assumption, ?_⟩
      refine hk _ ?_; clear hk k
      refine awp_ret ?_
      rw [hgp.2]
      refine retl rfl rfl ⟨retc rfl sz81 ?_, retc rfl sz112 ?_, rett rfl ?_, trivial⟩
      all_goals first | (simp (maxSteps := 9^9) (disch := (try simp only [lens]); omega) only [argSl, sm, ↓amb, mark_eq, simprocAttr, sz112, sz81, lE, mx, dx]) | skip
      ·exact .agg_cons (.p (LeP.refl _)) (.agg_cons (.p (LeP.refl _)) (.agg_cons (.p (LeP.refl _)) (.agg_cons (.ownE rfl rfl) (.agg_cons (.p (LeP.refl _)) (.agg_cons (.p (LeP.refl _)) (.agg_cons (.p (LeP.refl _)) (.agg_nil)))))))
      ·exact .p (LeP.refl _)
      ·exact .p (LeP.refl _)
    ·try simp only [hbx] at hb
     refine awp_skip ?_
     refine h3 _ ?_; clear h3 k3
     refine awp_le (le_keep [3, 6, 7, 10, 11]) ?_
     simp only [kp, argSl, simprocAttr]
     have hgp := hso.2 hb
     refine awp_sr [141] (by rw [hC]; rfl) fun k hk => ?_
     simp (maxSteps := 9^9) (disch := (try simp only [lens]); omega) only [argSl, sm, ↓amb, mark_eq, simprocAttr, fl81_0, sz78, fl112_2, sz3, en94, vr78, lE, mx, dx]
     repeat refine ⟨by first | omega | (simp; done) | (unfold maxLen; omega) | (simp [maxLen]; omega) | assumption, ?_⟩
     refine callK_p (c31 _ _ _ _) rfl ?_
     simp (maxSteps := 9^9) (disch := (try simp only [lens]); omega) only [argSl, sm, ↓amb, mark_eq, simprocAttr, fl81_0, sz78, fl112_2, sz3, en94, vr78, lE, mx, dx]
     repeat refine ⟨by first | omega | (simp; done) | (unfold maxLen; omega) | (simp [maxLen]; omega) | assumption, ?_⟩
     refine hk _ ?_; clear hk k
     refine awp_seq fun k5 h5 => ?_
     refine awp_le (le_keep [3, 6, 7, 8, 10, 11, 22, 23, 24]) ?_
     simp only [kp, argSl, simprocAttr]
     refine awp_sr [141] (by rw [hC]; rfl) fun k hk => ?_
     simp (maxSteps := 9^9) (disch := (try simp only [lens]); omega) only [argSl, sm, ↓amb, mark_eq, simprocAttr, lE, mx, dx]
     repeat refine ⟨by first | omega | (simp; done) | (unfold maxLen; omega) | (simp [maxLen]; omega) | assumption, ?_⟩
     refine hk _ ?_; clear hk k
     refine awp_cond rfl (fun hb => ?_) (fun hb => ?_)
     ·rw [hgp.1] at hb; exact absurd hb (by simp)
     ·try simp only [hbx] at hb
      refine awp_skip ?_
      refine h5 _ ?_; clear h5 k5
      refine awp_le (le_keep [6, 7, 10, 11, 22, 23]) ?_
      simp only [kp, argSl, simprocAttr]
      refine awp_sr [141] (by rw [hC]; rfl) fun k hk => ?_
      simp (maxSteps := 9^9) (disch := (try simp only [lens]); omega) only [argSl, sm, ↓amb, mark_eq, simprocAttr, sz78, fl81_0, lE, mx, dx]
      repeat refine ⟨by first | omega | (simp; done) | (unfold maxLen; omega) | (simp [maxLen]; omega) | assumption, ?_⟩
      refine hk _ ?_; clear hk k
      refine awp_le (le_keep [6, 7, 10, 11, 23]) ?_
      simp only [kp, argSl, simprocAttr]
      obtain ⟨ov, hov⟩ : ∃ o, o = c.over := ⟨_, rfl⟩
      rw [← hov]
      refine awp_srg [141] (by rw [hC]; rfl) fun gd hgd k hk => ?_
      have g2 : gd 2 = some 163 := by rw [hgd]; rfl
      clear hgd
      simp (maxSteps := 9^9) (disch := (try simp only [lens]); omega) only [argSl, sm, ↓amb, mark_eq, simprocAttr, fl81_2, sz4, g2, a07, lE, mx, dx]
      repeat refine ⟨by first | omega | (simp; done) | (unfold maxLen; omega) | (simp [maxLen]; omega) | assumption, ?_⟩
      refine ⟨fun hg => ?_, fun hg => ?_⟩
      ·try simp only [hbx] at hg
       repeat refine ⟨by first | omega | (simp; done) | (unfold maxLen; omega) | (simp [maxLen]; omega) | assumption, ?_⟩
       refine hk _ ?_; clear hk k
       refine awp_le (le_keep [6, 7, 10, 11]) ?_
       simp only [kp, argSl, simprocAttr]
       refine awp_le (show LE _ (⟨[(6, (.ptr 1 7 0 0)), (7, (.ptr 2 4 0 0)), (10, (.ptr 3 7 0 0)), (11, (.ptr 4 4 0 0))], [(1, (.row 7 [[.p (.seq true []), .p (iV 0), .p (.seq true []), .p (.seq true []), .p (bV false), .p (iV 0), .p (iV 0)]])), (2, (.row 4 [[.p (iV 0), .p (iV 0), .p (iV 0), .p (bV false)]])), (3, (.row 7 [[.p (.seq false ((Pl.doW c.work ((c.dq.getD P default).getD ((c.dq.getD P default).length - 1) 0)).ts.map taskC)), .p (iV (Pl.doW c.work ((c.dq.getD P default).getD ((c.dq.getD P default).length - 1) 0)).grain), .p (.seq false ((Pl.doW c.work ((c.dq.getD P default).getD ((c.dq.getD P default).length - 1) 0)).done.map fun b => [bV b])), .own 5, .p (bV (false || Pl.doO c.work ((c.dq.getD P default).getD ((c.dq.getD P default).length - 1) 0))), .p (iV (c.steps + 1)), .p (iV c.idle)]])), (4, (.row 4 [[.p (iV (P : Int)), .p (iV (P : Int)), .p (iV ((c.dq.getD P default).getD ((c.dq.getD P default).length - 1) 0)), .p (bV false)]])), (5, (.row 1 (lift ((c.dq.set P ((c.dq.getD P default).take ((c.dq.getD P default).length - 1))).map lV))))], 1⟩ : LS) from le_of [(1, _), (2, _), (3, _), (4, _), (5, 5)] (by rfl) (by rfl) ⟨⟨_, rfl, .ptr rfl⟩, ⟨_, rfl, .ptr rfl⟩, ⟨_, rfl, .ptr rfl⟩, ⟨_, rfl, .ptr rfl⟩, trivial⟩ ⟨⟨_, rfl, _, rfl, .one (.cons (.p (.refl _)) (.cons (.p (.refl _)) (.cons (.p (.refl _)) (.cons (.p (.refl _)) (.cons (.p (.refl _)) (.cons (.p (.refl _)) (.cons (.p (.refl _)) (.nil))))))))⟩, ⟨_, rfl, _, rfl, .one (.cons (.p (.refl _)) (.cons (.p (.refl _)) (.cons (.p (.refl _)) (.cons (.p (.refl _)) (.nil)))))⟩, ⟨_, rfl, _, rfl, .one (.cons (.p (.refl _)) (.cons (.p (.refl _)) (.cons (.p (.refl _)) (.cons (.own rfl) (.cons (.p (.refl _)) (.cons (.p (.refl _)) (.cons (.p (.refl _)) (.nil))))))))⟩, ⟨_, rfl, _, rfl, .one (.cons (.p (.refl _)) (.cons (.p (.refl _)) (.cons (.p (.refl _)) (.cons (.p (.refl _)) (.nil)))))⟩, ⟨_, rfl, _, rfl, leB_outF (k := 6) (by rfl) (by rfl)⟩, trivial⟩) ?_
       refine awp_sd [141] ⟨[0, 0, 1, 7, 15], [], [2, 3], [], some [1, 2]⟩ (by rw [hC]; rfl) (by kernel_rfl) (by kernel_rfl) fun k hk => ?_
       simp (maxSteps := 9^9) (disch := (try simp only [lens]); omega) only [argSl, sm, ↓amb, mark_eq, simprocAttr, sz81, sz112, lE, mx, dx]
       repeat refine ⟨by first | omega | (simp; done) | (unfold maxLen; omega) | (simp [maxLen]; omega) | assumption, ?_⟩
       refine hk _ ?_; clear hk k
       refine awp_ret ?_
       subst hg
       rw [hgp.2, ← hov]
       refine retl rfl rfl ⟨retc rfl sz81 ?_, retc rfl sz112 ?_, rett rfl ?_, trivial⟩
       all_goals first | (simp (maxSteps := 9^9) (disch := (try simp only [lens]); omega) only [argSl, sm, ↓amb, mark_eq, simprocAttr, sz112, sz81, lE, mx, dx]) | skip
       ·exact .agg_cons (.p (LeP.refl _)) (.agg_cons (.p (LeP.refl _)) (.agg_cons (.p (LeP.refl _)) (.agg_cons (.ownE rfl rfl) (.agg_cons (.p (LeP.refl _)) (.agg_cons (.p (LeP.refl _)) (.agg_cons (.p (LeP.refl _)) (.agg_nil)))))))
       ·exact .p (LeP.refl _)
       ·exact .p (LeP.refl _)
      ·try simp only [hbx] at hg
       repeat refine ⟨by first | omega | (simp; done) | (unfold maxLen; omega) | (simp [maxLen]; omega) | assumption, ?_⟩
       refine hk _ ?_; clear hk k
       refine awp_le (le_keep [6, 7, 10, 11]) ?_
       simp only [kp, argSl, simprocAttr]
       refine awp_le (show LE _ (⟨[(6, (.ptr 1 7 0 0)), (7, (.ptr 2 4 0 0)), (10, (.ptr 3 7 0 0)), (11, (.ptr 4 4 0 0))], [(1, (.row 7 [[.p (.seq true []), .p (iV 0), .p (.seq true []), .p (.seq true []), .p (bV false), .p (iV 0), .p (iV 0)]])), (2, (.row 4 [[.p (iV 0), .p (iV 0), .p (iV 0), .p (bV false)]])), (3, (.row 7 [[.p (.seq false ((Pl.doW c.work ((c.dq.getD P default).getD ((c.dq.getD P default).length - 1) 0)).ts.map taskC)), .p (iV (Pl.doW c.work ((c.dq.getD P default).getD ((c.dq.getD P default).length - 1) 0)).grain), .p (.seq false ((Pl.doW c.work ((c.dq.getD P default).getD ((c.dq.getD P default).length - 1) 0)).done.map fun b => [bV b])), .own 5, .p (bV (true || Pl.doO c.work ((c.dq.getD P default).getD ((c.dq.getD P default).length - 1) 0))), .p (iV (c.steps + 1)), .p (iV c.idle)]])), (4, (.row 4 [[.p (iV (P : Int)), .p (iV (P : Int)), .p (iV ((c.dq.getD P default).getD ((c.dq.getD P default).length - 1) 0)), .p (bV false)]])), (5, (.row 1 (lift ((c.dq.set P ((c.dq.getD P default).take ((c.dq.getD P default).length - 1))).map lV))))], 1⟩ : LS) from le_of [(1, _), (2, _), (3, _), (4, _), (5, 5)] (by rfl) (by rfl) ⟨⟨_, rfl, .ptr rfl⟩, ⟨_, rfl, .ptr rfl⟩, ⟨_, rfl, .ptr rfl⟩, ⟨_, rfl, .ptr rfl⟩, trivial⟩ ⟨⟨_, rfl, _, rfl, .one (.cons (.p (.refl _)) (.cons (.p (.refl _)) (.cons (.p (.refl _)) (.cons (.p (.refl _)) (.cons (.p (.refl _)) (.cons (.p (.refl _)) (.cons (.p (.refl _)) (.nil))))))))⟩, ⟨_, rfl, _, rfl, .one (.cons (.p (.refl _)) (.cons (.p (.refl _)) (.cons (.p (.refl _)) (.cons (.p (.refl _)) (.nil)))))⟩, ⟨_, rfl, _, rfl, .one (.cons (.p (.refl _)) (.cons (.p (.refl _)) (.cons (.p (.refl _)) (.cons (.own rfl) (.cons (.p (.refl _)) (.cons (.p (.refl _)) (.cons (.p (.refl _)) (.nil))))))))⟩, ⟨_, rfl, _, rfl, .one (.cons (.p (.refl _)) (.cons (.p (.refl _)) (.cons (.p (.refl _)) (.cons (.p (.refl _)) (.nil)))))⟩, ⟨_, rfl, _, rfl, leB_outF (k := 6) (by rfl) (by rfl)⟩, trivial⟩) ?_
       refine awp_sd [141] ⟨[0, 0, 1, 7, 15], [], [2, 3], [], some [1, 2]⟩ (by rw [hC]; rfl) (by kernel_rfl) (by kernel_rfl) fun k hk => ?_
       simp (maxSteps := 9^9) (disch := (try simp only [lens]); omega) only [argSl, sm, ↓amb, mark_eq, simprocAttr, sz81, sz112, lE, mx, dx]
       repeat refine ⟨by first | omega | (simp; done) | (unfold maxLen; omega) | (simp [maxLen]; omega) | assumption, ?_⟩
       refine hk _ ?_; clear hk k
       refine awp_ret ?_
       subst hg
       rw [hgp.2, ← hov]
       refine retl rfl rfl ⟨retc rfl sz81 ?_, retc rfl sz112 ?_, rett rfl ?_, trivial⟩
       all_goals first | (simp (maxSteps := 9^9) (disch := (try simp only [lens]); omega) only [argSl, sm, ↓amb, mark_eq, simprocAttr, sz112, sz81, lE, mx, dx]) | skip
       ·exact .agg_cons (.p (LeP.refl _)) (.agg_cons (.p (LeP.refl _)) (.agg_cons (.p (LeP.refl _)) (.agg_cons (.ownE rfl rfl) (.agg_cons (.p (LeP.refl _)) (.agg_cons (.p (LeP.refl _)) (.agg_cons (.p (LeP.refl _)) (.agg_nil)))))))
       ·exact .p (LeP.refl _)
       ·exact .p (LeP.refl _)
   ·exact absurd hb (by simp)
end Go.Proofs.Ythelnccjcbnjfaa
end
section
set_option linter.unusedSimpArgs false
set_option linter.unusedVariables false
set_option maxRecDepth 100000
namespace Go.Proofs.Ythelnccjcbnjfaa
open Go.Am Go.Proofs
theorem en91 : enters Try.prog 91 = true := by kernel_rfl
set_option maxHeartbeats 4000000 in
theorem c_Step_s (c : Pl.Crew) (p v : Int) (hl : ∀ l, l ∈ c.dq → l.length ≤ 1000000 ∧ ∀ t, t ∈ l → -9223372036854775808 ≤ t ∧ t ≤ 9223372036854775807) (h0 : (Pl.step c p v).2.2 = 0) (hp : ¬ 0 < (c.dq.getD (Pl.num c.dq p).toNat default).length) (hv : 0 < (c.dq.getD (Pl.num c.dq v).toNat default).length) : PCall Try.prog 78 [.agg (crewC c), iV p, iV v] (.tup [.agg (crewC (Pl.step c p v).1), .agg (evC (Pl.step c p v).2.1), iV 0]) := by
 obtain ⟨P, V, hcp, hcv, hP, hV, hN, hPl, hVl, hcr, hst⟩ := Pl.step_at h0
 obtain ⟨hr1, hr2, hr3, hr4, hr5, hr6, hr7⟩ := id hcr
 have hRr : c.work.ts.length ≤ 2000 ∧ c.work.done.length ≤ 1000 := ⟨hr1.2.2.1, by have := hr1.1; unfold Pl.cnt at this; omega⟩
 have hlP := hl _ (Pl.getD_mem c.dq P default hPl)
 have hlV := hl _ (Pl.getD_mem c.dq V default hVl)
 rw [hP] at hp
 rw [hV] at hv
 have hso := Pl.step_steal h0 hP hN hV hp hv (t := ((c.dq.getD V default).getD 0 0)) rfl
 have hle : (c.dq.getD P default) = [] := List.eq_nil_of_length_eq_zero (by omega)
 have hpop : PCall Try.prog 90 [ints false (c.dq.getD P default)] (.tup [ints false [], iV 0, iV 4]) := by rw [hle]; exact c18 false [] (by decide)
 have hne : V ≠ P := fun e => hp (e ▸ hv)
 have hgP : ((c.dq.map lE).set V [PV.seq false (((c.dq.getD V default).drop 1).map fun n => [iV n])]).getD P [] = [PV.seq true []] := lE_get hPl hne hle _
 have hsl : PCall Try.prog 91 [ints false (c.dq.getD V default)] (.tup [ints false ((c.dq.getD V default).drop 1), iV ((c.dq.getD V default).getD 0 0), iV 0]) := by have q := c20 false (c.dq.getD V default) hlV.1; unfold stealS at q; rw [if_neg (by intro e; rw [e] at hv; exact absurd hv (by decide))] at q; exact q
 refine pcall_of_awp Try.func78 rfl (by simp [Try.ntmps78]) fun C hC => ?_
 refine awp_le (le_keep [0, 1, 2]) ?_
 simp only [kp, argSl, simprocAttr]
 refine awp_sr [] (by rw [hC]; rfl) fun k hk => ?_
 simp (maxSteps := 9^9) (disch := (try simp only [lens]); omega) only [argSl, sm, ↓amb, mark_eq, simprocAttr, vr81, vr112, lE, mx, hgP, dx]
 repeat refine ⟨by first | omega | (simp; done) | (unfold maxLen; omega) | (simp [maxLen]; omega) | assumption, ?_⟩
 refine hk _ ?_; clear hk k
 refine awp_seq fun k1 h1 => ?_
 refine awp_block ?_
 refine awp_le (le_keep [1, 2, 3, 6, 7, 8]) ?_
 simp only [kp, argSl, simprocAttr]
 refine awp_sr [] (by rw [hC]; rfl) fun k hk => ?_
 simp (maxSteps := 9^9) (disch := (try simp only [lens]); omega) only [argSl, sm, ↓amb, mark_eq, simprocAttr, sz81, en87, lE, mx, hgP, dx]
 repeat refine ⟨by first | omega | (simp; done) | (unfold maxLen; omega) | (simp [maxLen]; omega) | assumption, ?_⟩
 refine callK_p (c_ref05_Right _ hl) rfl ?_
 simp (maxSteps := 9^9) (disch := (try simp only [lens]); omega) only [argSl, sm, ↓amb, mark_eq, simprocAttr, sz81, en87, lE, mx, hgP, dx]
 repeat refine ⟨by first | omega | (simp; done) | (unfold maxLen; omega) | (simp [maxLen]; omega) | assumption, ?_⟩
 refine hk _ ?_; clear hk k
 refine awp_cond rfl (fun hb => ?_) (fun hb => ?_)
 ·exact absurd hcr (by simpa using hb)
 ·try simp only [hbx] at hb
  refine awp_le (le_keep [1, 2, 3, 6, 7, 8]) ?_
  simp only [kp, argSl, simprocAttr]
  refine awp_sr [] (by rw [hC]; rfl) fun k hk => ?_
  simp (maxSteps := 9^9) (disch := (try simp only [lens]); omega) only [argSl, sm, ↓amb, mark_eq, simprocAttr, fl81_3, sz3, lE, mx, hgP, dx]
  repeat refine ⟨by first | omega | (simp; done) | (unfold maxLen; omega) | (simp [maxLen]; omega) | assumption, ?_⟩
  refine hk _ ?_; clear hk k
  refine awp_cond rfl (fun hb => ?_) (fun hb => ?_)
  ·exact absurd (beq_iff_eq.mp hb) hst
  ·try simp only [hbx] at hb
   refine awp_skip ?_
   refine h1 _ ?_; clear h1 k1
   refine awp_le (le_keep [1, 2, 3, 6, 7]) ?_
   simp only [kp, argSl, simprocAttr]
   refine awp_sr [] (by rw [hC]; rfl) fun k hk => ?_
   simp (maxSteps := 9^9) (disch := (try simp only [lens]); omega) only [argSl, sm, ↓amb, mark_eq, simprocAttr, fl81_1, sz79, el79, lE, mx, hgP, dx]
   repeat refine ⟨by first | omega | (simp; done) | (unfold maxLen; omega) | (simp [maxLen]; omega) | assumption, ?_⟩
   refine hk _ ?_; clear hk k
   refine awp_le (le_keep [1, 2, 3, 6, 7, 9]) ?_
   simp only [kp, argSl, simprocAttr]
   refine awp_sr [] (by rw [hC]; rfl) fun k hk => ?_
   simp (maxSteps := 9^9) (disch := (try simp only [lens]); omega) only [argSl, sm, ↓amb, mark_eq, simprocAttr, en88, lE, mx, hgP, dx]
   repeat refine ⟨by first | omega | (simp; done) | (unfold maxLen; omega) | (simp [maxLen]; omega) | assumption, ?_⟩
   refine callK_p (c_ref05_cut _ _ (by omega)) rfl ?_
   simp (maxSteps := 9^9) (disch := (try simp only [lens]); omega) only [argSl, sm, ↓amb, mark_eq, simprocAttr, en88, lE, mx, hgP, dx]
   repeat refine ⟨by first | omega | (simp; done) | (unfold maxLen; omega) | (simp [maxLen]; omega) | assumption, ?_⟩
   refine callK_p (c_ref05_cut _ _ (by omega)) rfl ?_
   simp (maxSteps := 9^9) (disch := (try simp only [lens]); omega) only [argSl, sm, ↓amb, mark_eq, simprocAttr, en88, lE, mx, hgP, dx]
   repeat refine ⟨by first | omega | (simp; done) | (unfold maxLen; omega) | (simp [maxLen]; omega) | assumption, ?_⟩
   refine hk _ ?_; clear hk k
   refine awp_le (le_keep [1, 2, 3, 6, 7]) ?_
   simp only [kp, argSl, simprocAttr]
   rw [hcp, hcv]
   refine awp_sr [] (by rw [hC]; rfl) fun k hk => ?_
   simp (maxSteps := 9^9) (disch := (try simp only [lens]); omega) only [argSl, sm, ↓amb, mark_eq, simprocAttr, sz81, en89, vr81, lE, mx, hgP, dx]
   repeat refine ⟨by first | omega | (simp; done) | (unfold maxLen; omega) | (simp [maxLen]; omega) | assumption, ?_⟩
   refine callK_h (c_Copy_h c (by omega) (by omega) (by omega) (fun l h => (hl l h).1)) [] [] (by first | rfl | (simp only [hm]; done)) (by first | rfl | (simp [namesOk, lkp]; done)) ?_ ?_ ?_ ?_ ?_ ?_ ?_
   (iterate 6 (focus (first | trivial | (intro n hn; cases hn; done) | (simp (maxSteps := 9^9) (disch := (try simp only [lens]); omega) only [argSl, sm, ↓amb, mark_eq, simprocAttr, sz81, en89, vr81, lE, mx, hgP, dx, hmx, List.filter_cons, Nat.reduceBNe, imp_self, implies_true]; done))))
   simp (maxSteps := 9^9) (disch := (try simp only [lens]); omega) only [argSl, sm, ↓amb, mark_eq, simprocAttr, sz81, en89, vr81, lE, mx, hgP, dx, hm, List.filter_cons, List.filter_nil, Nat.reduceBNe, Option.map_none]
   repeat refine ⟨by first | omega | (simp; done) | (unfold maxLen; omega) | (simp [maxLen]; omega) | assumption, ?_⟩
   refine hk _ ?_; clear hk k
   refine awp_le (le_keep [1, 2, 3, 6, 7, 10]) ?_
   simp only [kp, argSl, simprocAttr]
   refine awp_sr [] (by rw [hC]; rfl) fun k hk => ?_
   simp (maxSteps := 9^9) (disch := (try simp only [lens]); omega) only [argSl, sm, ↓amb, mark_eq, simprocAttr, fl81_3, sz3, lE, mx, hgP, dx]
   repeat refine ⟨by first | omega | (simp; done) | (unfold maxLen; omega) | (simp [maxLen]; omega) | assumption, ?_⟩
   refine hk _ ?_; clear hk k
   refine awp_le (le_keep [1, 2, 3, 6, 7, 10]) ?_
   simp only [kp, argSl, simprocAttr]
   refine awp_sr [] (by rw [hC]; rfl) fun k hk => ?_
   simp (maxSteps := 9^9) (disch := (try simp only [lens]); omega) only [argSl, sm, ↓amb, mark_eq, simprocAttr, vr112, bt112, pl112_0, pl112_1, pl112_2, sz112, lE, mx, hgP, dx]
   repeat refine ⟨by first | omega | (simp; done) | (unfold maxLen; omega) | (simp [maxLen]; omega) | assumption, ?_⟩
   refine hk _ ?_; clear hk k
   refine awp_seq fun k2 h2 => ?_
   refine awp_le (le_keep [1, 2, 3, 6, 7, 8, 10, 11]) ?_
   simp only [kp, argSl, simprocAttr]
   refine awp_sr [] (by rw [hC]; rfl) fun k hk => ?_
   simp (maxSteps := 9^9) (disch := (try simp only [lens]); omega) only [argSl, sm, ↓amb, mark_eq, simprocAttr, fl81_1, sz79, el79, sz32, en90, lE, mx, hgP, dx]
   repeat refine ⟨by first | omega | (simp; done) | (unfold maxLen; omega) | (simp [maxLen]; omega) | assumption, ?_⟩
   refine callK_p (hpop) rfl ?_
   simp (maxSteps := 9^9) (disch := (try simp only [lens]); omega) only [argSl, sm, ↓amb, mark_eq, simprocAttr, fl81_1, sz79, el79, sz32, en90, lE, mx, hgP, dx]
   repeat refine ⟨by first | omega | (simp; done) | (unfold maxLen; omega) | (simp [maxLen]; omega) | assumption, ?_⟩
   refine hk _ ?_; clear hk k
   refine awp_le (le_keep [1, 2, 3, 6, 7, 8, 10, 11, 12, 13, 14]) ?_
   simp only [kp, argSl, simprocAttr]
   refine awp_sr [] (by rw [hC]; rfl) fun k hk => ?_
   simp (maxSteps := 9^9) (disch := (try simp only [lens]); omega) only [argSl, sm, ↓amb, mark_eq, simprocAttr, lE, mx, hgP, dx]
   repeat refine ⟨by first | omega | (simp; done) | (unfold maxLen; omega) | (simp [maxLen]; omega) | assumption, ?_⟩
   refine hk _ ?_; clear hk k
   refine awp_cond rfl (fun hb => ?_) (fun hb => ?_)
   ·exact absurd hb (by simp)
   ·try simp only [hbx] at hb
    refine awp_le (le_keep [1, 2, 3, 6, 7, 8, 10, 11]) ?_
    simp only [kp, argSl, simprocAttr]
    refine awp_sr [] (by rw [hC]; rfl) fun k hk => ?_
    simp (maxSteps := 9^9) (disch := (try simp only [lens]); omega) only [argSl, sm, ↓amb, mark_eq, simprocAttr, fl81_1, sz79, el79, sz32, en91, lE, mx, hgP, dx]
    repeat refine ⟨by first | omega | (simp; done) | (unfold maxLen; omega) | (simp [maxLen]; omega) | assumption, ?_⟩
    refine callK_p (hsl) rfl ?_
    simp (maxSteps := 9^9) (disch := (try simp only [lens]); omega) only [argSl, sm, ↓amb, mark_eq, simprocAttr, fl81_1, sz79, el79, sz32, en91, lE, mx, hgP, dx]
    repeat refine ⟨by first | omega | (simp; done) | (unfold maxLen; omega) | (simp [maxLen]; omega) | assumption, ?_⟩
    refine hk _ ?_; clear hk k
    refine awp_le (le_keep [1, 2, 3, 6, 7, 8, 10, 11, 15, 16, 17]) ?_
    simp only [kp, argSl, simprocAttr]
    refine awp_sr [] (by rw [hC]; rfl) fun k hk => ?_
    simp (maxSteps := 9^9) (disch := (try simp only [lens]); omega) only [argSl, sm, ↓amb, mark_eq, simprocAttr, lE, mx, hgP, dx]
    repeat refine ⟨by first | omega | (simp; done) | (unfold maxLen; omega) | (simp [maxLen]; omega) | assumption, ?_⟩
    refine hk _ ?_; clear hk k
    refine awp_cond rfl (fun hb => ?_) (fun hb => ?_)
    ·try simp only [hbx] at hb
     refine awp_region [] (by rw [hC]; rfl) fun k hk => ?_
     simp (maxSteps := 9^9) (disch := (try simp only [lens]); omega) only [argSl, sm, ↓amb, mark_eq, simprocAttr, fl81_1, sz79, el79, sz32, fl112_1, sz3, fl112_2, lE, mx, hgP, dx]
     repeat refine ⟨by first | omega | (simp; done) | (unfold maxLen; omega) | (simp [maxLen]; omega) | assumption, ?_⟩
     refine hk _ ?_; clear hk k
     refine h2 _ ?_; clear h2 k2
     refine awp_seq fun k3 h3 => ?_
     refine awp_le (le_keep [1, 3, 6, 7, 8, 10, 11]) ?_
     simp only [kp, argSl, simprocAttr]
     refine awp_le (show LE _ (⟨[(1, (.p (iV (P : Int)))), (3, (.ptr 0 7 0 0)), (6, (.ptr 1 7 0 0)), (7, (.ptr 2 4 0 0)), (10, (.ptr 3 7 0 0)), (11, (.ptr 4 4 0 0))], [(0, (.row 7 [[.p (.seq false (c.work.ts.map taskC)), .p (iV c.work.grain), .p (.seq false (c.work.done.map fun b => [bV b])), .p (.seq false (c.dq.map lV)), .p (bV c.over), .p (iV c.steps), .p (iV c.idle)]])), (1, (.row 7 [[.p (.seq true []), .p (iV 0), .p (.seq true []), .p (.seq true []), .p (bV false), .p (iV 0), .p (iV 0)]])), (2, (.row 4 [[.p (iV 0), .p (iV 0), .p (iV 0), .p (bV false)]])), (3, (.row 7 [[.p (.seq false (c.work.ts.map taskC)), .p (iV c.work.grain), .p (.seq false (c.work.done.map fun b => [bV b])), .own 5, .p (bV c.over), .p (iV (c.steps + 1)), .p (iV c.idle)]])), (4, (.row 4 [[.p (iV (P : Int)), .p (iV (V : Int)), .p (iV ((c.dq.getD V default).getD 0 0)), .p (bV false)]])), (5, (.row 1 (lift ((c.dq.map lE).set V [PV.seq false (((c.dq.getD V default).drop 1).map fun n => [iV n])]))))], 1⟩ : LS) from le_of [(0, _), (1, _), (2, _), (3, _), (4, _), (5, _)] (by rfl) (by rfl) ⟨⟨_, rfl, .p (.of_eq (by first | rfl | (simp only [PV.lit.injEq, Value.int.injEq, true_and]; omega) | (simp; done) | (simp; omega)))⟩, ⟨_, rfl, .ptr rfl⟩, ⟨_, rfl, .ptr rfl⟩, ⟨_, rfl, .ptr rfl⟩, ⟨_, rfl, .ptr rfl⟩, ⟨_, rfl, .ptr rfl⟩, trivial⟩ ⟨⟨_, rfl, _, rfl, .one (.cons (.p (.refl _)) (.cons (.p (.refl _)) (.cons (.p (.refl _)) (.cons (.p (.refl _)) (.cons (.p (.refl _)) (.cons (.p (.refl _)) (.cons (.p (.refl _)) (.nil))))))))⟩, ⟨_, rfl, _, rfl, .one (.cons (.p (.refl _)) (.cons (.p (.refl _)) (.cons (.p (.refl _)) (.cons (.p (.refl _)) (.cons (.p (.refl _)) (.cons (.p (.refl _)) (.cons (.p (.refl _)) (.nil))))))))⟩, ⟨_, rfl, _, rfl, .one (.cons (.p (.refl _)) (.cons (.p (.refl _)) (.cons (.p (.refl _)) (.cons (.p (.refl _)) (.nil)))))⟩, ⟨_, rfl, _, rfl, .one (.cons (.p (.refl _)) (.cons (.p (.refl _)) (.cons (.p (.refl _)) (.cons (.own rfl) (.cons (.p (.refl _)) (.cons (.p (.refl _)) (.cons (.p (.refl _)) (.nil))))))))⟩, ⟨_, rfl, _, rfl, .one (.cons (.p (.refl _)) (.cons (.p (.refl _)) (.cons (.p (.refl _)) (.cons (.p (.refl _)) (.nil)))))⟩, ⟨_, rfl, _, rfl, .liftE rfl⟩, trivial⟩) ?_
     refine awp_sr [] (by rw [hC]; rfl) fun k hk => ?_
     simp (maxSteps := 9^9) (disch := (try simp only [lens]); omega) only [argSl, sm, ↓amb, mark_eq, simprocAttr, fl81_0, sz78, fl112_2, sz3, en92, lE, mx, hgP, dx]
     repeat refine ⟨by first | omega | (simp; done) | (unfold maxLen; omega) | (simp [maxLen]; omega) | assumption, ?_⟩
     refine callK_p (c40 _ _ _ _) rfl ?_
     simp (maxSteps := 9^9) (disch := (try simp only [lens]); omega) only [argSl, sm, ↓amb, mark_eq, simprocAttr, fl81_0, sz78, fl112_2, sz3, en92, lE, mx, hgP, dx]
     repeat refine ⟨by first | omega | (simp; done) | (unfold maxLen; omega) | (simp [maxLen]; omega) | assumption, ?_⟩
     refine hk _ ?_; clear hk k
     refine awp_cond rfl (fun hb => ?_) (fun hb => ?_)
     ·try simp only [hbx] at hb
      refine awp_le (le_keep [1, 3, 6, 7, 10, 11]) ?_
      simp only [kp, argSl, simprocAttr]
      have hgp := hso.1 hb
      refine awp_sr [] (by rw [hC]; rfl) fun k hk => ?_
      simp (maxSteps := 9^9) (disch := (try simp only [lens]); omega) only [argSl, sm, ↓amb, mark_eq, simprocAttr, fl81_0, sz78, fl112_2, sz3, en93, vr78, lE, mx, hgP, dx]
      repeat refine ⟨by first | omega | (simp; done) | (unfold maxLen; omega) | (simp [maxLen]; omega) | assumption, ?_⟩
      refine callK_p (c29 _ _ _ _) rfl ?_
      simp (maxSteps := 9^9) (disch := (try simp only [lens]); omega) only [argSl, sm, ↓amb, mark_eq, simprocAttr, fl81_0, sz78, fl112_2, sz3, en93, vr78, lE, mx, hgP, dx]
      repeat refine ⟨by first | omega | (simp; done) | (unfold maxLen; omega) | (simp [maxLen]; omega) | assumption, ?_⟩
      refine hk _ ?_; clear hk k
      refine awp_seq fun k4 h4 => ?_
      refine awp_le (le_keep [1, 3, 6, 7, 8, 10, 11, 18, 19, 20, 21]) ?_
      simp only [kp, argSl, simprocAttr]
      refine awp_sr [] (by rw [hC]; rfl) fun k hk => ?_
      simp (maxSteps := 9^9) (disch := (try simp only [lens]); omega) only [argSl, sm, ↓amb, mark_eq, simprocAttr, lE, mx, hgP, dx]
      repeat refine ⟨by first | omega | (simp; done) | (unfold maxLen; omega) | (simp [maxLen]; omega) | assumption, ?_⟩
      refine hk _ ?_; clear hk k
      refine awp_cond rfl (fun hb => ?_) (fun hb => ?_)
      ·rw [hgp.1] at hb; exact absurd hb (by simp)
      ·try simp only [hbx] at hb
       refine awp_skip ?_
       refine h4 _ ?_; clear h4 k4
       refine awp_le (le_keep [1, 6, 7, 10, 11, 18, 19, 20]) ?_
       simp only [kp, argSl, simprocAttr]
       refine awp_sr [] (by rw [hC]; rfl) fun k hk => ?_
       simp (maxSteps := 9^9) (disch := (try simp only [lens]); omega) only [argSl, sm, ↓amb, mark_eq, simprocAttr, sz78, fl81_0, fl112_3, sz4, lE, mx, hgP, dx]
       repeat refine ⟨by first | omega | (simp; done) | (unfold maxLen; omega) | (simp [maxLen]; omega) | assumption, ?_⟩
       refine hk _ ?_; clear hk k
       refine awp_le (le_keep [1, 6, 7, 10, 11, 19, 20]) ?_
       simp only [kp, argSl, simprocAttr]
       refine awp_sd [] ⟨[0, 1, 0, 0, 8, 0, 56, 120, 0, 0, 768, 2040, 4095, 8191], [6, 7, 12], [13], [], some [5]⟩ (by rw [hC]; rfl) (by kernel_rfl) (by kernel_rfl) fun k hk => ?_
       simp (maxSteps := 9^9) (disch := (try simp only [lens]); omega) only [argSl, sm, ↓amb, mark_eq, simprocAttr, fl81_1, sz79, el79, sz32, el32, vr3, by3, lE, mx, hgP, dx]
       repeat refine ⟨by first | omega | (simp; done) | (unfold maxLen; omega) | (simp [maxLen]; omega) | assumption, ?_⟩
       refine hk _ ?_; clear hk k
       refine awp_le (le_keep [6, 7, 10, 11]) ?_
       simp only [kp, argSl, simprocAttr]
       refine awp_le (show LE _ (⟨[(6, (.ptr 1 7 0 0)), (7, (.ptr 2 4 0 0)), (10, (.ptr 3 7 0 0)), (11, (.ptr 4 4 0 0))], [(1, (.row 7 [[.p (.seq true []), .p (iV 0), .p (.seq true []), .p (.seq true []), .p (bV false), .p (iV 0), .p (iV 0)]])), (2, (.row 4 [[.p (iV 0), .p (iV 0), .p (iV 0), .p (bV false)]])), (3, (.row 7 [[.p (.seq false ((Pl.partW c.work ((c.dq.getD V default).getD 0 0)).ts.map taskC)), .p (iV (Pl.partW c.work ((c.dq.getD V default).getD 0 0)).grain), .p (.seq false ((Pl.partW c.work ((c.dq.getD V default).getD 0 0)).done.map fun b => [bV b])), .own 5, .p (bV c.over), .p (iV (c.steps + 1)), .p (iV c.idle)]])), (4, (.row 4 [[.p (iV (P : Int)), .p (iV (V : Int)), .p (iV ((c.dq.getD V default).getD 0 0)), .p (bV true)]])), (5, (.row 1 (lift (((c.dq.set V ((c.dq.getD V default).drop 1)).set P [Pl.partB c.work ((c.dq.getD V default).getD 0 0), Pl.partA c.work ((c.dq.getD V default).getD 0 0)]).map lV))))], 1⟩ : LS) from le_of [(1, _), (2, _), (3, _), (4, _), (5, 5)] (by rfl) (by rfl) ⟨⟨_, rfl, .ptr rfl⟩, ⟨_, rfl, .ptr rfl⟩, ⟨_, rfl, .ptr rfl⟩, ⟨_, rfl, .ptr rfl⟩, trivial⟩ ⟨⟨_, rfl, _, rfl, .one (.cons (.p (.refl _)) (.cons (.p (.refl _)) (.cons (.p (.refl _)) (.cons (.p (.refl _)) (.cons (.p (.refl _)) (.cons (.p (.refl _)) (.cons (.p (.refl _)) (.nil))))))))⟩, ⟨_, rfl, _, rfl, .one (.cons (.p (.refl _)) (.cons (.p (.refl _)) (.cons (.p (.refl _)) (.cons (.p (.refl _)) (.nil)))))⟩, ⟨_, rfl, _, rfl, .one (.cons (.p (.refl _)) (.cons (.p (.refl _)) (.cons (.p (.refl _)) (.cons (.own rfl) (.cons (.p (.refl _)) (.cons (.p (.refl _)) (.cons (.p (.refl _)) (.nil))))))))⟩, ⟨_, rfl, _, rfl, .one (.cons (.p (.refl _)) (.cons (.p (.refl _)) (.cons (.p (.refl _)) (.cons (.p (.refl _)) (.nil)))))⟩, ⟨_, rfl, _, rfl, leB_outV (lE_set (lE_set (lE_all _) V false ((c.dq.getD V default).drop 1)) P false [Pl.partB c.work ((c.dq.getD V default).getD 0 0), Pl.partA c.work ((c.dq.getD V default).getD 0 0)])⟩, trivial⟩) ?_
       refine awp_sd [] ⟨[0, 0, 1, 7, 15], [], [2, 3], [], some [1, 2]⟩ (by rw [hC]; rfl) (by kernel_rfl) (by kernel_rfl) fun k hk => ?_
       simp (maxSteps := 9^9) (disch := (try simp only [lens]); omega) only [argSl, sm, ↓amb, mark_eq, simprocAttr, sz81, sz112, lE, mx, hgP, dx]
       repeat refine ⟨by first | omega | (simp; done) | (unfold maxLen; omega) | (simp [maxLen]; omega) | assumption, ?_⟩
       refine hk _ ?_; clear hk k
       refine awp_ret ?_
       rw [hgp.2]
       refine retl rfl rfl ⟨retc rfl sz81 ?_, retc rfl sz112 ?_, rett rfl ?_, trivial⟩
       all_goals first | (simp (maxSteps := 9^9) (disch := (try simp only [lens]); omega) only [argSl, sm, ↓amb, mark_eq, simprocAttr, sz112, sz81, lE, mx, hgP, dx]) | skip
       ·exact .agg_cons (.p (LeP.refl _)) (.agg_cons (.p (LeP.refl _)) (.agg_cons (.p (LeP.refl _)) (.agg_cons (.ownE rfl rfl) (.agg_cons (.p (LeP.refl _)) (.agg_cons (.p (LeP.refl _)) (.agg_cons (.p (LeP.refl _)) (.agg_nil)))))))
       ·exact .p (LeP.refl _)
       ·exact .p (LeP.refl _)
     ·try simp only [hbx] at hb
      refine awp_skip ?_
      refine h3 _ ?_; clear h3 k3
      refine awp_le (le_keep [3, 6, 7, 10, 11]) ?_
      simp only [kp, argSl, simprocAttr]
      have hgp := hso.2 hb
      refine awp_sr [] (by rw [hC]; rfl) fun k hk => ?_
      simp (maxSteps := 9^9) (disch := (try simp only [lens]); omega) only [argSl, sm, ↓amb, mark_eq, simprocAttr, fl81_0, sz78, fl112_2, sz3, en94, vr78, lE, mx, hgP, dx]
      repeat refine ⟨by first | omega | (simp; done) | (unfold maxLen; omega) | (simp [maxLen]; omega) | assumption, ?_⟩
      refine callK_p (c31 _ _ _ _) rfl ?_
      simp (maxSteps := 9^9) (disch := (try simp only [lens]); omega) only [argSl, sm, ↓amb, mark_eq, simprocAttr, fl81_0, sz78, fl112_2, sz3, en94, vr78, lE, mx, hgP, dx]
      repeat refine ⟨by first | omega | (simp; done) | (unfold maxLen; omega) | (simp [maxLen]; omega) | assumption, ?_⟩
      refine hk _ ?_; clear hk k
      refine awp_seq fun k5 h5 => ?_
      refine awp_le (le_keep [3, 6, 7, 8, 10, 11, 22, 23, 24]) ?_
      simp only [kp, argSl, simprocAttr]
      refine awp_sr [] (by rw [hC]; rfl) fun k hk => ?_
      simp (maxSteps := 9^9) (disch := (try simp only [lens]); omega) only [argSl, sm, ↓amb, mark_eq, simprocAttr, lE, mx, hgP, dx]
      repeat refine ⟨by first | omega | (simp; done) | (unfold maxLen; omega) | (simp [maxLen]; omega) | assumption, ?_⟩
      refine hk _ ?_; clear hk k
      refine awp_cond rfl (fun hb => ?_) (fun hb => ?_)
      ·rw [hgp.1] at hb; exact absurd hb (by simp)
      ·try simp only [hbx] at hb
       refine awp_skip ?_
       refine h5 _ ?_; clear h5 k5
       refine awp_le (le_keep [6, 7, 10, 11, 22, 23]) ?_
       simp only [kp, argSl, simprocAttr]
       refine awp_sr [] (by rw [hC]; rfl) fun k hk => ?_
       simp (maxSteps := 9^9) (disch := (try simp only [lens]); omega) only [argSl, sm, ↓amb, mark_eq, simprocAttr, sz78, fl81_0, lE, mx, hgP, dx]
       repeat refine ⟨by first | omega | (simp; done) | (unfold maxLen; omega) | (simp [maxLen]; omega) | assumption, ?_⟩
       refine hk _ ?_; clear hk k
       refine awp_le (le_keep [6, 7, 10, 11, 23]) ?_
       simp only [kp, argSl, simprocAttr]
       obtain ⟨ov, hov⟩ : ∃ o, o = c.over := ⟨_, rfl⟩
       rw [← hov]
       refine awp_srg [] (by rw [hC]; rfl) fun gd hgd k hk => ?_
       have g2 : gd 2 = some 163 := by rw [hgd]; rfl
       clear hgd
       simp (maxSteps := 9^9) (disch := (try simp only [lens]); omega) only [argSl, sm, ↓amb, mark_eq, simprocAttr, fl81_2, sz4, g2, a07, lE, mx, hgP, dx]
       repeat refine ⟨by first | omega | (simp; done) | (unfold maxLen; omega) | (simp [maxLen]; omega) | assumption, ?_⟩
       refine ⟨fun hg => ?_, fun hg => ?_⟩
       ·try simp only [hbx] at hg
        repeat refine ⟨by first | omega | (simp; done) | (unfold maxLen; omega) | (simp [maxLen]; omega) | assumption, ?_⟩
        refine hk _ ?_; clear hk k
        refine awp_le (le_keep [6, 7, 10, 11]) ?_
        simp only [kp, argSl, simprocAttr]
        refine awp_le (show LE _ (⟨[(6, (.ptr 1 7 0 0)), (7, (.ptr 2 4 0 0)), (10, (.ptr 3 7 0 0)), (11, (.ptr 4 4 0 0))], [(1, (.row 7 [[.p (.seq true []), .p (iV 0), .p (.seq true []), .p (.seq true []), .p (bV false), .p (iV 0), .p (iV 0)]])), (2, (.row 4 [[.p (iV 0), .p (iV 0), .p (iV 0), .p (bV false)]])), (3, (.row 7 [[.p (.seq false ((Pl.doW c.work ((c.dq.getD V default).getD 0 0)).ts.map taskC)), .p (iV (Pl.doW c.work ((c.dq.getD V default).getD 0 0)).grain), .p (.seq false ((Pl.doW c.work ((c.dq.getD V default).getD 0 0)).done.map fun b => [bV b])), .own 5, .p (bV (false || Pl.doO c.work ((c.dq.getD V default).getD 0 0))), .p (iV (c.steps + 1)), .p (iV c.idle)]])), (4, (.row 4 [[.p (iV (P : Int)), .p (iV (V : Int)), .p (iV ((c.dq.getD V default).getD 0 0)), .p (bV false)]])), (5, (.row 1 (lift ((c.dq.set V ((c.dq.getD V default).drop 1)).map lV))))], 1⟩ : LS) from le_of [(1, _), (2, _), (3, _), (4, _), (5, 5)] (by rfl) (by rfl) ⟨⟨_, rfl, .ptr rfl⟩, ⟨_, rfl, .ptr rfl⟩, ⟨_, rfl, .ptr rfl⟩, ⟨_, rfl, .ptr rfl⟩, trivial⟩ ⟨⟨_, rfl, _, rfl, .one (.cons (.p (.refl _)) (.cons (.p (.refl _)) (.cons (.p (.refl _)) (.cons (.p (.refl _)) (.cons (.p (.refl _)) (.cons (.p (.refl _)) (.cons (.p (.refl _)) (.nil))))))))⟩, ⟨_, rfl, _, rfl, .one (.cons (.p (.refl _)) (.cons (.p (.refl _)) (.cons (.p (.refl _)) (.cons (.p (.refl _)) (.nil)))))⟩, ⟨_, rfl, _, rfl, .one (.cons (.p (.refl _)) (.cons (.p (.refl _)) (.cons (.p (.refl _)) (.cons (.own rfl) (.cons (.p (.refl _)) (.cons (.p (.refl _)) (.cons (.p (.refl _)) (.nil))))))))⟩, ⟨_, rfl, _, rfl, .one (.cons (.p (.refl _)) (.cons (.p (.refl _)) (.cons (.p (.refl _)) (.cons (.p (.refl _)) (.nil)))))⟩, ⟨_, rfl, _, rfl, leB_outV (lE_set (lE_all _) V false ((c.dq.getD V default).drop 1))⟩, trivial⟩) ?_
        refine awp_sd [] ⟨[0, 0, 1, 7, 15], [], [2, 3], [], some [1, 2]⟩ (by rw [hC]; rfl) (by kernel_rfl) (by kernel_rfl) fun k hk => ?_
        simp (maxSteps := 9^9) (disch := (try simp only [lens]); omega) only [argSl, sm, ↓amb, mark_eq, simprocAttr, sz81, sz112, lE, mx, hgP, dx]
        repeat refine ⟨by first | omega | (simp; done) | (unfold maxLen; omega) | (simp [maxLen]; omega) | assumption, ?_⟩
        refine hk _ ?_; clear hk k
        refine awp_ret ?_
        subst hg
        rw [hgp.2, ← hov]
        refine retl rfl rfl ⟨retc rfl sz81 ?_, retc rfl sz112 ?_, rett rfl ?_, trivial⟩
        all_goals first | (simp (maxSteps := 9^9) (disch := (try simp only [lens]); omega) only [argSl, sm, ↓amb, mark_eq, simprocAttr, sz112, sz81, lE, mx, hgP, dx]) | skip
        ·exact .agg_cons (.p (LeP.refl _)) (.agg_cons (.p (LeP.refl _)) (.agg_cons (.p (LeP.refl _)) (.agg_cons (.ownE rfl rfl) (.agg_cons (.p (LeP.refl _)) (.agg_cons (.p (LeP.refl _)) (.agg_cons (.p (LeP.refl _)) (.agg_nil)))))))
        ·exact .p (LeP.refl _)
        ·exact .p (LeP.refl _)
       ·try simp only [hbx] at hg
        repeat refine ⟨by first | omega | (simp; done) | (unfold maxLen; omega) | (simp [maxLen]; omega) | assumption, ?_⟩
        refine hk _ ?_; clear hk k
        refine awp_le (le_keep [6, 7, 10, 11]) ?_
        simp only [kp, argSl, simprocAttr]
        refine awp_le (show LE _ (⟨[(6, (.ptr 1 7 0 0)), (7, (.ptr 2 4 0 0)), (10, (.ptr 3 7 0 0)), (11, (.ptr 4 4 0 0))], [(1, (.row 7 [[.p (.seq true []), .p (iV 0), .p (.seq true []), .p (.seq true []), .p (bV false), .p (iV 0), .p (iV 0)]])), (2, (.row 4 [[.p (iV 0), .p (iV 0), .p (iV 0), .p (bV false)]])), (3, (.row 7 [[.p (.seq false ((Pl.doW c.work ((c.dq.getD V default).getD 0 0)).ts.map taskC)), .p (iV (Pl.doW c.work ((c.dq.getD V default).getD 0 0)).grain), .p (.seq false ((Pl.doW c.work ((c.dq.getD V default).getD 0 0)).done.map fun b => [bV b])), .own 5, .p (bV (true || Pl.doO c.work ((c.dq.getD V default).getD 0 0))), .p (iV (c.steps + 1)), .p (iV c.idle)]])), (4, (.row 4 [[.p (iV (P : Int)), .p (iV (V : Int)), .p (iV ((c.dq.getD V default).getD 0 0)), .p (bV false)]])), (5, (.row 1 (lift ((c.dq.set V ((c.dq.getD V default).drop 1)).map lV))))], 1⟩ : LS) from le_of [(1, _), (2, _), (3, _), (4, _), (5, 5)] (by rfl) (by rfl) ⟨⟨_, rfl, .ptr rfl⟩, ⟨_, rfl, .ptr rfl⟩, ⟨_, rfl, .ptr rfl⟩, ⟨_, rfl, .ptr rfl⟩, trivial⟩ ⟨⟨_, rfl, _, rfl, .one (.cons (.p (.refl _)) (.cons (.p (.refl _)) (.cons (.p (.refl _)) (.cons (.p (.refl _)) (.cons (.p (.refl _)) (.cons (.p (.refl _)) (.cons (.p (.refl _)) (.nil))))))))⟩, ⟨_, rfl, _, rfl, .one (.cons (.p (.refl _)) (.cons (.p (.refl _)) (.cons (.p (.refl _)) (.cons (.p (.refl _)) (.nil)))))⟩, ⟨_, rfl, _, rfl, .one (.cons (.p (.refl _)) (.cons (.p (.refl _)) (.cons (.p (.refl _)) (.cons (.own rfl) (.cons (.p (.refl _)) (.cons (.p (.refl _)) (.cons (.p (.refl _)) (.nil))))))))⟩, ⟨_, rfl, _, rfl, .one (.cons (.p (.refl _)) (.cons (.p (.refl _)) (.cons (.p (.refl _)) (.cons (.p (.refl _)) (.nil)))))⟩, ⟨_, rfl, _, rfl, leB_outV (lE_set (lE_all _) V false ((c.dq.getD V default).drop 1))⟩, trivial⟩) ?_
        refine awp_sd [] ⟨[0, 0, 1, 7, 15], [], [2, 3], [], some [1, 2]⟩ (by rw [hC]; rfl) (by kernel_rfl) (by kernel_rfl) fun k hk => ?_
        simp (maxSteps := 9^9) (disch := (try simp only [lens]); omega) only [argSl, sm, ↓amb, mark_eq, simprocAttr, sz81, sz112, lE, mx, hgP, dx]
        repeat refine ⟨by first | omega | (simp; done) | (unfold maxLen; omega) | (simp [maxLen]; omega) | assumption, ?_⟩
        refine hk _ ?_; clear hk k
        refine awp_ret ?_
        subst hg
        rw [hgp.2, ← hov]
        refine retl rfl rfl ⟨retc rfl sz81 ?_, retc rfl sz112 ?_, rett rfl ?_, trivial⟩
        all_goals first | (simp (maxSteps := 9^9) (disch := (try simp only [lens]); omega) only [argSl, sm, ↓amb, mark_eq, simprocAttr, sz112, sz81, lE, mx, hgP, dx]) | skip
        ·exact .agg_cons (.p (LeP.refl _)) (.agg_cons (.p (LeP.refl _)) (.agg_cons (.p (LeP.refl _)) (.agg_cons (.ownE rfl rfl) (.agg_cons (.p (LeP.refl _)) (.agg_cons (.p (LeP.refl _)) (.agg_cons (.p (LeP.refl _)) (.agg_nil)))))))
        ·exact .p (LeP.refl _)
        ·exact .p (LeP.refl _)
    ·exact absurd hb (by simp)
set_option maxHeartbeats 4000000 in
theorem c_Step_i (c : Pl.Crew) (p v : Int) (hl : ∀ l, l ∈ c.dq → l.length ≤ 1000000 ∧ ∀ t, t ∈ l → -9223372036854775808 ≤ t ∧ t ≤ 9223372036854775807) (h0 : (Pl.step c p v).2.2 = 0) (hp : ¬ 0 < (c.dq.getD (Pl.num c.dq p).toNat default).length) (hv : ¬ 0 < (c.dq.getD (Pl.num c.dq v).toNat default).length) : PCall Try.prog 78 [.agg (crewC c), iV p, iV v] (.tup [.agg (crewC (Pl.step c p v).1), .agg (evC (Pl.step c p v).2.1), iV 0]) := by
 obtain ⟨P, V, hcp, hcv, hP, hV, hN, hPl, hVl, hcr, hst⟩ := Pl.step_at h0
 obtain ⟨hr1, hr2, hr3, hr4, hr5, hr6, hr7⟩ := id hcr
 have hRr : c.work.ts.length ≤ 2000 ∧ c.work.done.length ≤ 1000 := ⟨hr1.2.2.1, by have := hr1.1; unfold Pl.cnt at this; omega⟩
 have hlP := hl _ (Pl.getD_mem c.dq P default hPl)
 have hlV := hl _ (Pl.getD_mem c.dq V default hVl)
 rw [hP] at hp
 rw [hV] at hv
 have hso := Pl.step_idle' h0 hP hN hV hp hv
 have hle : (c.dq.getD P default) = [] := List.eq_nil_of_length_eq_zero (by omega)
 have hpop : PCall Try.prog 90 [ints false (c.dq.getD P default)] (.tup [ints false [], iV 0, iV 4]) := by rw [hle]; exact c18 false [] (by decide)
 have hlv : (c.dq.getD V default) = [] := List.eq_nil_of_length_eq_zero (by omega)
 have hsl : PCall Try.prog 91 [ints false (c.dq.getD V default)] (.tup [ints false [], iV 0, iV 4]) := by rw [hlv]; exact c20 false [] (by decide)
 refine pcall_of_awp Try.func78 rfl (by simp [Try.ntmps78]) fun C hC => ?_
 refine awp_le (le_keep [0, 1, 2]) ?_
 simp only [kp, argSl, simprocAttr]
 refine awp_sr [] (by rw [hC]; rfl) fun k hk => ?_
 simp (maxSteps := 9^9) (disch := (try simp only [lens]); omega) only [argSl, sm, ↓amb, mark_eq, simprocAttr, vr81, vr112, lE, mx, dx]
 repeat refine ⟨by first | omega | (simp; done) | (unfold maxLen; omega) | (simp [maxLen]; omega) | assumption, ?_⟩
 refine hk _ ?_; clear hk k
 refine awp_seq fun k1 h1 => ?_
 refine awp_block ?_
 refine awp_le (le_keep [1, 2, 3, 6, 7, 8]) ?_
 simp only [kp, argSl, simprocAttr]
 refine awp_sr [] (by rw [hC]; rfl) fun k hk => ?_
 simp (maxSteps := 9^9) (disch := (try simp only [lens]); omega) only [argSl, sm, ↓amb, mark_eq, simprocAttr, sz81, en87, lE, mx, dx]
 repeat refine ⟨by first | omega | (simp; done) | (unfold maxLen; omega) | (simp [maxLen]; omega) | assumption, ?_⟩
 refine callK_p (c_ref05_Right _ hl) rfl ?_
 simp (maxSteps := 9^9) (disch := (try simp only [lens]); omega) only [argSl, sm, ↓amb, mark_eq, simprocAttr, sz81, en87, lE, mx, dx]
 repeat refine ⟨by first | omega | (simp; done) | (unfold maxLen; omega) | (simp [maxLen]; omega) | assumption, ?_⟩
 refine hk _ ?_; clear hk k
 refine awp_cond rfl (fun hb => ?_) (fun hb => ?_)
 ·exact absurd hcr (by simpa using hb)
 ·try simp only [hbx] at hb
  refine awp_le (le_keep [1, 2, 3, 6, 7, 8]) ?_
  simp only [kp, argSl, simprocAttr]
  refine awp_sr [] (by rw [hC]; rfl) fun k hk => ?_
  simp (maxSteps := 9^9) (disch := (try simp only [lens]); omega) only [argSl, sm, ↓amb, mark_eq, simprocAttr, fl81_3, sz3, lE, mx, dx]
  repeat refine ⟨by first | omega | (simp; done) | (unfold maxLen; omega) | (simp [maxLen]; omega) | assumption, ?_⟩
  refine hk _ ?_; clear hk k
  refine awp_cond rfl (fun hb => ?_) (fun hb => ?_)
  ·exact absurd (beq_iff_eq.mp hb) hst
  ·try simp only [hbx] at hb
   refine awp_skip ?_
   refine h1 _ ?_; clear h1 k1
   refine awp_le (le_keep [1, 2, 3, 6, 7]) ?_
   simp only [kp, argSl, simprocAttr]
   refine awp_sr [] (by rw [hC]; rfl) fun k hk => ?_
   simp (maxSteps := 9^9) (disch := (try simp only [lens]); omega) only [argSl, sm, ↓amb, mark_eq, simprocAttr, fl81_1, sz79, el79, lE, mx, dx]
   repeat refine ⟨by first | omega | (simp; done) | (unfold maxLen; omega) | (simp [maxLen]; omega) | assumption, ?_⟩
   refine hk _ ?_; clear hk k
   refine awp_le (le_keep [1, 2, 3, 6, 7, 9]) ?_
   simp only [kp, argSl, simprocAttr]
   refine awp_sr [] (by rw [hC]; rfl) fun k hk => ?_
   simp (maxSteps := 9^9) (disch := (try simp only [lens]); omega) only [argSl, sm, ↓amb, mark_eq, simprocAttr, en88, lE, mx, dx]
   repeat refine ⟨by first | omega | (simp; done) | (unfold maxLen; omega) | (simp [maxLen]; omega) | assumption, ?_⟩
   refine callK_p (c_ref05_cut _ _ (by omega)) rfl ?_
   simp (maxSteps := 9^9) (disch := (try simp only [lens]); omega) only [argSl, sm, ↓amb, mark_eq, simprocAttr, en88, lE, mx, dx]
   repeat refine ⟨by first | omega | (simp; done) | (unfold maxLen; omega) | (simp [maxLen]; omega) | assumption, ?_⟩
   refine callK_p (c_ref05_cut _ _ (by omega)) rfl ?_
   simp (maxSteps := 9^9) (disch := (try simp only [lens]); omega) only [argSl, sm, ↓amb, mark_eq, simprocAttr, en88, lE, mx, dx]
   repeat refine ⟨by first | omega | (simp; done) | (unfold maxLen; omega) | (simp [maxLen]; omega) | assumption, ?_⟩
   refine hk _ ?_; clear hk k
   refine awp_le (le_keep [1, 2, 3, 6, 7]) ?_
   simp only [kp, argSl, simprocAttr]
   rw [hcp, hcv]
   refine awp_sr [] (by rw [hC]; rfl) fun k hk => ?_
   simp (maxSteps := 9^9) (disch := (try simp only [lens]); omega) only [argSl, sm, ↓amb, mark_eq, simprocAttr, sz81, en89, vr81, lE, mx, dx]
   repeat refine ⟨by first | omega | (simp; done) | (unfold maxLen; omega) | (simp [maxLen]; omega) | assumption, ?_⟩
   refine callK_h (c_Copy_h c (by omega) (by omega) (by omega) (fun l h => (hl l h).1)) [] [] (by first | rfl | (simp only [hm]; done)) (by first | rfl | (simp [namesOk, lkp]; done)) ?_ ?_ ?_ ?_ ?_ ?_ ?_
   (iterate 6 (focus (first | trivial | (intro n hn; cases hn; done) | (simp (maxSteps := 9^9) (disch := (try simp only [lens]); omega) only [argSl, sm, ↓amb, mark_eq, simprocAttr, sz81, en89, vr81, lE, mx, dx, hmx, List.filter_cons, Nat.reduceBNe, imp_self, implies_true]; done))))
   simp (maxSteps := 9^9) (disch := (try simp only [lens]); omega) only [argSl, sm, ↓amb, mark_eq, simprocAttr, sz81, en89, vr81, lE, mx, dx, hm, List.filter_cons, List.filter_nil, Nat.reduceBNe, Option.map_none]
   repeat refine ⟨by first | omega | (simp; done) | (unfold maxLen; omega) | (simp [maxLen]; omega) | assumption, ?_⟩
   refine hk _ ?_; clear hk k
   refine awp_le (le_keep [1, 2, 3, 6, 7, 10]) ?_
   simp only [kp, argSl, simprocAttr]
   refine awp_sr [] (by rw [hC]; rfl) fun k hk => ?_
   simp (maxSteps := 9^9) (disch := (try simp only [lens]); omega) only [argSl, sm, ↓amb, mark_eq, simprocAttr, fl81_3, sz3, lE, mx, dx]
   repeat refine ⟨by first | omega | (simp; done) | (unfold maxLen; omega) | (simp [maxLen]; omega) | assumption, ?_⟩
   refine hk _ ?_; clear hk k
   refine awp_le (le_keep [1, 2, 3, 6, 7, 10]) ?_
   simp only [kp, argSl, simprocAttr]
   refine awp_sr [] (by rw [hC]; rfl) fun k hk => ?_
   simp (maxSteps := 9^9) (disch := (try simp only [lens]); omega) only [argSl, sm, ↓amb, mark_eq, simprocAttr, vr112, bt112, pl112_0, pl112_1, pl112_2, sz112, lE, mx, dx]
   repeat refine ⟨by first | omega | (simp; done) | (unfold maxLen; omega) | (simp [maxLen]; omega) | assumption, ?_⟩
   refine hk _ ?_; clear hk k
   refine awp_seq fun k2 h2 => ?_
   refine awp_le (le_keep [1, 2, 3, 6, 7, 8, 10, 11]) ?_
   simp only [kp, argSl, simprocAttr]
   refine awp_sr [] (by rw [hC]; rfl) fun k hk => ?_
   simp (maxSteps := 9^9) (disch := (try simp only [lens]); omega) only [argSl, sm, ↓amb, mark_eq, simprocAttr, fl81_1, sz79, el79, sz32, en90, lE, mx, dx]
   repeat refine ⟨by first | omega | (simp; done) | (unfold maxLen; omega) | (simp [maxLen]; omega) | assumption, ?_⟩
   refine callK_p (hpop) rfl ?_
   simp (maxSteps := 9^9) (disch := (try simp only [lens]); omega) only [argSl, sm, ↓amb, mark_eq, simprocAttr, fl81_1, sz79, el79, sz32, en90, lE, mx, dx]
   repeat refine ⟨by first | omega | (simp; done) | (unfold maxLen; omega) | (simp [maxLen]; omega) | assumption, ?_⟩
   refine hk _ ?_; clear hk k
   refine awp_le (le_keep [1, 2, 3, 6, 7, 8, 10, 11, 12, 13, 14]) ?_
   simp only [kp, argSl, simprocAttr]
   refine awp_sr [] (by rw [hC]; rfl) fun k hk => ?_
   simp (maxSteps := 9^9) (disch := (try simp only [lens]); omega) only [argSl, sm, ↓amb, mark_eq, simprocAttr, lE, mx, dx]
   repeat refine ⟨by first | omega | (simp; done) | (unfold maxLen; omega) | (simp [maxLen]; omega) | assumption, ?_⟩
   refine hk _ ?_; clear hk k
   refine awp_cond rfl (fun hb => ?_) (fun hb => ?_)
   ·exact absurd hb (by simp)
   ·try simp only [hbx] at hb
    refine awp_le (le_keep [1, 2, 3, 6, 7, 8, 10, 11]) ?_
    simp only [kp, argSl, simprocAttr]
    refine awp_sr [] (by rw [hC]; rfl) fun k hk => ?_
    simp (maxSteps := 9^9) (disch := (try simp only [lens]); omega) only [argSl, sm, ↓amb, mark_eq, simprocAttr, fl81_1, sz79, el79, sz32, en91, lE, mx, dx]
    repeat refine ⟨by first | omega | (simp; done) | (unfold maxLen; omega) | (simp [maxLen]; omega) | assumption, ?_⟩
    refine callK_p (hsl) rfl ?_
    simp (maxSteps := 9^9) (disch := (try simp only [lens]); omega) only [argSl, sm, ↓amb, mark_eq, simprocAttr, fl81_1, sz79, el79, sz32, en91, lE, mx, dx]
    repeat refine ⟨by first | omega | (simp; done) | (unfold maxLen; omega) | (simp [maxLen]; omega) | assumption, ?_⟩
    refine hk _ ?_; clear hk k
    refine awp_le (le_keep [1, 2, 3, 6, 7, 8, 10, 11, 15, 16, 17]) ?_
    simp only [kp, argSl, simprocAttr]
    refine awp_sr [] (by rw [hC]; rfl) fun k hk => ?_
    simp (maxSteps := 9^9) (disch := (try simp only [lens]); omega) only [argSl, sm, ↓amb, mark_eq, simprocAttr, lE, mx, dx]
    repeat refine ⟨by first | omega | (simp; done) | (unfold maxLen; omega) | (simp [maxLen]; omega) | assumption, ?_⟩
    refine hk _ ?_; clear hk k
    refine awp_cond rfl (fun hb => ?_) (fun hb => ?_)
    ·exact absurd hb (by simp)
    ·try simp only [hbx] at hb
     refine awp_seq fun k3 h3 => ?_
     refine awp_le (le_keep [1, 3, 6, 7, 8, 10, 11]) ?_
     simp only [kp, argSl, simprocAttr]
     refine awp_sr [] (by rw [hC]; rfl) fun k hk => ?_
     simp (maxSteps := 9^9) (disch := (try simp only [lens]); omega) only [argSl, sm, ↓amb, mark_eq, simprocAttr, fl81_4, sz3, lE, mx, dx]
     repeat refine ⟨by first | omega | (simp; done) | (unfold maxLen; omega) | (simp [maxLen]; omega) | assumption, ?_⟩
     refine hk _ ?_; clear hk k
     refine awp_cond rfl (fun hb => ?_) (fun hb => ?_)
     ·exact absurd (beq_iff_eq.mp hb) hso.1
     ·try simp only [hbx] at hb
      refine awp_skip ?_
      refine h3 _ ?_; clear h3 k3
      refine awp_le (le_keep [6, 7, 10, 11]) ?_
      simp only [kp, argSl, simprocAttr]
      refine awp_sr [] (by rw [hC]; rfl) fun k hk => ?_
      simp (maxSteps := 9^9) (disch := (try simp only [lens]); omega) only [argSl, sm, ↓amb, mark_eq, simprocAttr, fl81_4, sz3, lE, mx, dx]
      repeat refine ⟨by first | omega | (simp; done) | (unfold maxLen; omega) | (simp [maxLen]; omega) | assumption, ?_⟩
      refine hk _ ?_; clear hk k
      refine awp_le (le_keep [6, 7, 10, 11]) ?_
      simp only [kp, argSl, simprocAttr]
      refine awp_le (show LE _ (⟨[(6, (.ptr 1 7 0 0)), (7, (.ptr 2 4 0 0)), (10, (.ptr 3 7 0 0)), (11, (.ptr 4 4 0 0))], [(1, (.row 7 [[.p (.seq true []), .p (iV 0), .p (.seq true []), .p (.seq true []), .p (bV false), .p (iV 0), .p (iV 0)]])), (2, (.row 4 [[.p (iV 0), .p (iV 0), .p (iV 0), .p (bV false)]])), (3, (.row 7 [[.p (.seq false (c.work.ts.map taskC)), .p (iV c.work.grain), .p (.seq false (c.work.done.map fun b => [bV b])), .own 5, .p (bV c.over), .p (iV (c.steps + 1)), .p (iV (c.idle + 1))]])), (4, (.row 4 [[.p (iV (P : Int)), .p (iV (-1)), .p (iV (-1)), .p (bV false)]])), (5, (.row 1 (lift (c.dq.map lV))))], 1⟩ : LS) from le_of [(1, _), (2, _), (3, _), (4, _), (5, _)] (by rfl) (by rfl) ⟨⟨_, rfl, .ptr rfl⟩, ⟨_, rfl, .ptr rfl⟩, ⟨_, rfl, .ptr rfl⟩, ⟨_, rfl, .ptr rfl⟩, trivial⟩ ⟨⟨_, rfl, _, rfl, .one (.cons (.p (.refl _)) (.cons (.p (.refl _)) (.cons (.p (.refl _)) (.cons (.p (.refl _)) (.cons (.p (.refl _)) (.cons (.p (.refl _)) (.cons (.p (.refl _)) (.nil))))))))⟩, ⟨_, rfl, _, rfl, .one (.cons (.p (.refl _)) (.cons (.p (.refl _)) (.cons (.p (.refl _)) (.cons (.p (.refl _)) (.nil)))))⟩, ⟨_, rfl, _, rfl, .one (.cons (.p (.refl _)) (.cons (.p (.refl _)) (.cons (.p (.refl _)) (.cons (.own rfl) (.cons (.p (.refl _)) (.cons (.p (.refl _)) (.cons (.p (.refl _)) (.nil))))))))⟩, ⟨_, rfl, _, rfl, .one (.cons (.p (.refl _)) (.cons (.p (.refl _)) (.cons (.p (.refl _)) (.cons (.p (.refl _)) (.nil)))))⟩, ⟨_, rfl, _, rfl, leB_outV (lE_all _)⟩, trivial⟩) ?_
      refine awp_sd [] ⟨[0, 0, 1, 7, 15], [], [2, 3], [], some [1, 2]⟩ (by rw [hC]; rfl) (by kernel_rfl) (by kernel_rfl) fun k hk => ?_
      simp (maxSteps := 9^9) (disch := (try simp only [lens]); omega) only [argSl, sm, ↓amb, mark_eq, simprocAttr, sz81, sz112, lE, mx, dx]
      repeat refine ⟨by first | omega | (simp; done) | (unfold maxLen; omega) | (simp [maxLen]; omega) | assumption, ?_⟩
      refine hk _ ?_; clear hk k
      refine awp_ret ?_
      rw [hso.2]
      refine retl rfl rfl ⟨retc rfl sz81 ?_, retc rfl sz112 ?_, rett rfl ?_, trivial⟩
      all_goals first | (simp (maxSteps := 9^9) (disch := (try simp only [lens]); omega) only [argSl, sm, ↓amb, mark_eq, simprocAttr, sz112, sz81, lE, mx, dx]) | skip
      ·exact .agg_cons (.p (LeP.refl _)) (.agg_cons (.p (LeP.refl _)) (.agg_cons (.p (LeP.refl _)) (.agg_cons (.ownE rfl rfl) (.agg_cons (.p (LeP.refl _)) (.agg_cons (.p (LeP.refl _)) (.agg_cons (.p (LeP.refl _)) (.agg_nil)))))))
      ·exact .p (LeP.refl _)
      ·exact .p (LeP.refl _)
end Go.Proofs.Ythelnccjcbnjfaa
end
section
set_option linter.unusedSimpArgs false
set_option linter.unusedVariables false
set_option maxRecDepth 100000
namespace Go.Proofs.Ythelnccjcbnjfaa
open Go.Am Go.Proofs
theorem c_ref05_Step (c : Pl.Crew) (p v : Int) (hl : ∀ l, l ∈ c.dq → l.length ≤ 1000000 ∧ ∀ t, t ∈ l → -9223372036854775808 ≤ t ∧ t ≤ 9223372036854775807) (h0 : (Pl.step c p v).2.2 = 0) :
    PCall Try.prog 78 [.agg (crewC c), iV p, iV v] (.tup [.agg (crewC (Pl.step c p v).1), .agg (evC (Pl.step c p v).2.1), iV 0]) := by
  by_cases hp : 0 < (c.dq.getD (Pl.num c.dq p).toNat default).length
  · exact c_Step_p c p v hl h0 hp
  · by_cases hv : 0 < (c.dq.getD (Pl.num c.dq v).toNat default).length
    · exact c_Step_s c p v hl h0 hp hv
    · exact c_Step_i c p v hl h0 hp hv
end Go.Proofs.Ythelnccjcbnjfaa
end
section
set_option linter.unusedSimpArgs false
set_option linter.unusedVariables false
set_option maxRecDepth 100000
namespace Go.Proofs.Ythelnccjcbnjfaa
open Go.Am Go.Proofs
theorem by112 : tBytes Try.prog 112 = some 32 := by kernel_rfl
theorem el82 : tEl Try.prog 82 = some 112 := by kernel_rfl
theorem en78 : enters Try.prog 78 = true := by kernel_rfl
theorem en95 : enters Try.prog 95 = true := by kernel_rfl
set_option maxHeartbeats 4000000 in
theorem c_ref06_Drain (n g : Int) (c : Pl.Crew) (ev : List Pl.Event) (hR : Pl.Run n g c ev) (hM : Pl.most n g 0 c ev ≤ 16010) (he : ev.length ≤ 70000) : PCall Try.prog 79 [.agg (crewC c)] (.tup [.agg (crewC (Pl.rounds 20000 0 c ev).1), .seq false (((Pl.rounds 20000 0 c ev).2.1.drop ev.length).map evC), iV 0]) := by
 have hcr := hR.right (by omega)
 refine pcall_of_awp Try.func79 rfl (by simp [Try.ntmps79]) fun C hC => ?_
 refine awp_le (le_keep [0]) ?_
 simp only [kp, argSl, simprocAttr]
 refine awp_sr [63] (by rw [hC]; rfl) fun k hk => ?_
 simp (maxSteps := 9^9) (disch := (try simp only [lens]); omega) only [argSl, sm, ↓amb, mark_eq, simprocAttr, vr81, dx]
 repeat refine ⟨by first | omega | (simp; done) | (unfold maxLen; omega) | (simp [maxLen]; omega) | assumption, ?_⟩
 refine hk _ ?_; clear hk k
 refine awp_seq fun k1 h1 => ?_
 refine awp_test [63] 23 (decide (False)) [1, 2, 3, 4] (by rw [hC]; rfl) (fun gd hgd k hk => ?_) ?_
 ·have g3 : gd 3 = some 14 := by rw [hgd]; rfl
  have g7 : gd 7 = some 18 := by rw [hgd]; rfl
  clear hgd
  simp (maxSteps := 9^9) (disch := (try simp only [lens]); omega) only [argSl, sm, ↓amb, mark_eq, simprocAttr, sz81, en87, fl81_2, sz4, en95, gcase_undef, g3, g7, dx]
  repeat' first | refine hk _ _ rfl rfl rfl rfl ?_ | (refine gsplit (fun hg => ?_) (fun hg => ?_) <;> (try simp only [hbx] at hg) <;> simp (maxSteps := 9^9) (disch := (try simp only [lens]); omega) only [argSl, sm, ↓amb, mark_eq, simprocAttr, sz81, en87, fl81_2, sz4, en95, gcase_undef, g3, g7, dx]) | apply And.intro | (refine callK_p (c_ref05_Right _ (Pl.good_hl hR.gd)) rfl ?_; (try simp (maxSteps := 9^9) (disch := (try simp only [lens]); omega) only [argSl, sm, ↓amb, mark_eq, simprocAttr, sz81, en87, fl81_2, sz4, en95, gcase_undef, g3, g7, dx])) | (refine callK_p (c_ref05_Held _ hR.held.2 (by have := hR.dqlen; omega)) rfl ?_; (try simp (maxSteps := 9^9) (disch := (try simp only [lens]); omega) only [argSl, sm, ↓amb, mark_eq, simprocAttr, sz81, en87, fl81_2, sz4, en95, gcase_undef, g3, g7, dx])) | fail
  all_goals first | rfl | omega | exact (decide_eq_true (by omega)).symm | exact (decide_eq_false (by omega)).symm | exact decide_eq_decide.mpr (by omega) | (refine Bool.eq_iff_iff.mpr ?_; simp only [beq_iff_eq, bne_iff_ne, ne_eq, decide_eq_true_eq]; omega) | (refine Bool.eq_iff_iff.mpr ?_; simp only [Bool.not_eq_true', Bool.not_eq_false', decide_eq_false_iff_not, decide_eq_true_eq, beq_iff_eq, bne_iff_ne, ne_eq]; omega) | assumption | (simp; done) | (simp [maxLen]; omega) | skip
  all_goals first | exact absurd hcr (by assumption) | (have hov : ¬ c.over = true := (by rw [show c.over = false from by assumption]; decide); have hne : ¬ Pl.held c.dq = 0 := (fun q => hov (hR.held.1.2 q)); rw [beq_eq_false_iff_ne.mpr (by omega)]; rfl) | rfl | trace_state
 simp only [kp, argSl, simprocAttr, List.length_cons, List.length_nil]
 refine awp_cond rfl (fun hb => ?_) (fun hb => ?_)
 ·exact absurd hb (by simp)
 ·try simp only [hbx] at hb
  refine awp_skip ?_
  refine h1 _ ?_; clear h1 k1
  refine awp_le (le_keep [1, 2]) ?_
  simp only [kp, argSl, simprocAttr]
  refine awp_sr [63] (by rw [hC]; rfl) fun k hk => ?_
  simp (maxSteps := 9^9) (disch := (try simp only [lens]); omega) only [argSl, sm, ↓amb, mark_eq, simprocAttr, dx]
  repeat refine ⟨by first | omega | (simp; done) | (unfold maxLen; omega) | (simp [maxLen]; omega) | assumption, ?_⟩
  refine hk _ ?_; clear hk k
  refine awp_le (le_keep [1, 2, 5]) ?_
  simp only [kp, argSl, simprocAttr]
  refine awp_own' 5 4 rfl ?_
  refine awp_sr [63] (by rw [hC]; rfl) fun k hk => ?_
  simp (maxSteps := 9^9) (disch := (try simp only [lens]); omega) only [argSl, sm, ↓amb, mark_eq, simprocAttr, dx]
  repeat refine ⟨by first | omega | (simp; done) | (unfold maxLen; omega) | (simp [maxLen]; omega) | assumption, ?_⟩
  refine hk _ ?_; clear hk k
  refine awp_block ?_
  refine awp_loop (σ := Nat × Pl.Crew × List Pl.Event) (fun x => Pl.Run n g x.2.1 (ev ++ x.2.2) ∧ x.2.1.dq.length = c.dq.length ∧ Pl.rounds (20000 - (x.1 * c.dq.length)) (x.1 * c.dq.length) x.2.1 (ev ++ x.2.2) = (Pl.rounds 20000 0 c ev) ∧ Pl.most n g (x.1 * c.dq.length) x.2.1 (ev ++ x.2.2) + (((x.1 * c.dq.length) : Nat) : Int) ≤ 16010 ∧ (ev ++ x.2.2).length = ev.length + (x.1 * c.dq.length)) (fun x => ⟨[(1, (.ptr 0 7 0 0)), (2, (.ptr 1 7 0 0)), (5, (.own 2)), (6, (.p (iV (x.1 : Int))))], [(0, (.row 7 [[.p (.seq false (x.2.1.work.ts.map taskC)), .p (iV x.2.1.work.grain), .p (.seq false (x.2.1.work.done.map fun b => [bV b])), .p (.seq false (x.2.1.dq.map lV)), .p (bV x.2.1.over), .p (iV x.2.1.steps), .p (iV x.2.1.idle)]])), (1, (.row 7 [[.p (.seq true []), .p (iV 0), .p (.seq true []), .p (.seq true []), .p (bV false), .p (iV 0), .p (iV 0)]])), (2, (.row 4 (lift (x.2.2.map evC))))], 1⟩) (fun x => 16011 - x.1 * c.dq.length) (0, c, []) ?_ ?_ fun x hx => ?_
  ·dsimp only; rw [Nat.zero_mul, List.append_nil]; exact ⟨hR, rfl, rfl, by omega, by omega⟩
  ·exact le_of [(0, _), (1, _), (2, _)] (by rfl) (by rfl) ⟨⟨_, rfl, .ptr rfl⟩, ⟨_, rfl, .ptr rfl⟩, ⟨_, rfl, .own rfl⟩, ⟨_, rfl, .p (.of_eq (by first | rfl | (simp only [PV.lit.injEq, Value.int.injEq, true_and]; omega) | (simp; done) | (simp; omega)))⟩, trivial⟩ ⟨⟨_, rfl, _, rfl, .one (.cons (.p (.refl _)) (.cons (.p (.refl _)) (.cons (.p (.refl _)) (.cons (.p (.refl _)) (.cons (.p (.refl _)) (.cons (.p (.refl _)) (.cons (.p (.refl _)) (.nil))))))))⟩, ⟨_, rfl, _, rfl, .one (.cons (.p (.refl _)) (.cons (.p (.refl _)) (.cons (.p (.refl _)) (.cons (.p (.refl _)) (.cons (.p (.refl _)) (.cons (.p (.refl _)) (.cons (.p (.refl _)) (.nil))))))))⟩, ⟨_, rfl, _, rfl, .liftE (by first | rfl | (rw [List.map_append]; rfl))⟩, trivial⟩
  obtain ⟨r, c1, m1⟩ := x
  obtain ⟨hR1, hRw, hRr, hRm, hRe⟩ := hx
  dsimp only at hR1 hRw hRr hRm hRe
  refine awp_seq fun k3 h3 => ?_
  refine awp_block ?_
  refine awp_le (le_keep [0, 1, 2, 3, 4, 5, 6]) ?_
  simp only [kp, argSl, simprocAttr]
  refine awp_sr [63] (by rw [hC]; rfl) fun k hk => ?_
  simp (maxSteps := 9^9) (disch := (try simp only [lens]); omega) only [argSl, sm, ↓amb, mark_eq, simprocAttr, dx]
  repeat refine ⟨by first | omega | (simp; done) | (unfold maxLen; omega) | (simp [maxLen]; omega) | assumption, ?_⟩
  refine hk _ ?_; clear hk k
  refine awp_block ?_
  refine awp_loop (σ := Nat × Pl.Crew × List Pl.Event) (fun x => x.1 ≤ c.dq.length ∧ Pl.Run n g x.2.1 (ev ++ x.2.2) ∧ x.2.1.dq.length = c.dq.length ∧ Pl.rounds (20000 - (r * c.dq.length + x.1)) (r * c.dq.length + x.1) x.2.1 (ev ++ x.2.2) = (Pl.rounds 20000 0 c ev) ∧ Pl.most n g (r * c.dq.length + x.1) x.2.1 (ev ++ x.2.2) + (((r * c.dq.length + x.1) : Nat) : Int) ≤ 16010 ∧ (ev ++ x.2.2).length = ev.length + (r * c.dq.length + x.1)) (fun x => ⟨[(1, (.ptr 0 7 0 0)), (2, (.ptr 1 7 0 0)), (5, (.own 2)), (6, (.p (iV (r : Int)))), (7, (.p (iV (x.1 : Int))))], [(0, (.row 7 [[.p (.seq false (x.2.1.work.ts.map taskC)), .p (iV x.2.1.work.grain), .p (.seq false (x.2.1.work.done.map fun b => [bV b])), .p (.seq false (x.2.1.dq.map lV)), .p (bV x.2.1.over), .p (iV x.2.1.steps), .p (iV x.2.1.idle)]])), (1, (.row 7 [[.p (.seq true []), .p (iV 0), .p (.seq true []), .p (.seq true []), .p (bV false), .p (iV 0), .p (iV 0)]])), (2, (.row 4 (lift (x.2.2.map evC))))], 1⟩) (fun x => c.dq.length - x.1) (0, c1, m1) ?_ ?_ fun x hx => ?_
  ·dsimp only; rw [Nat.add_zero]; exact ⟨Nat.zero_le _, hR1, hRw, hRr, hRm, hRe⟩
  ·exact le_of [(0, _), (1, _), (2, _)] (by rfl) (by rfl) ⟨⟨_, rfl, .ptr rfl⟩, ⟨_, rfl, .ptr rfl⟩, ⟨_, rfl, .own rfl⟩, ⟨_, rfl, .p (.of_eq (by first | rfl | (simp only [PV.lit.injEq, Value.int.injEq, true_and]; omega) | (simp; done) | (simp; omega)))⟩, ⟨_, rfl, .p (.of_eq (by first | rfl | (simp only [PV.lit.injEq, Value.int.injEq, true_and]; omega) | (simp; done) | (simp; omega)))⟩, trivial⟩ ⟨⟨_, rfl, _, rfl, .one (.cons (.p (.refl _)) (.cons (.p (.refl _)) (.cons (.p (.refl _)) (.cons (.p (.refl _)) (.cons (.p (.refl _)) (.cons (.p (.refl _)) (.cons (.p (.refl _)) (.nil))))))))⟩, ⟨_, rfl, _, rfl, .one (.cons (.p (.refl _)) (.cons (.p (.refl _)) (.cons (.p (.refl _)) (.cons (.p (.refl _)) (.cons (.p (.refl _)) (.cons (.p (.refl _)) (.cons (.p (.refl _)) (.nil))))))))⟩, ⟨_, rfl, _, rfl, .liftE (by first | rfl | (rw [List.map_append]; rfl))⟩, trivial⟩
  obtain ⟨p, c2, m2⟩ := x
  obtain ⟨hp1, hR2, hR3, hR4, hR5, hR6⟩ := hx
  dsimp only at hp1 hR2 hR3 hR4 hR5 hR6
  have hdl := hR1.dqlen
  have hm0 := hR1.most_0 (k := r * c.dq.length) (r := r) (by rw [hRw])
  have hrr : r ≤ r * c.dq.length := Nat.le_mul_of_pos_right r (by omega)
  have hml : m2.length = r * c.dq.length + p := by rw [List.length_append] at hR6; omega
  refine awp_seq fun k5 h5 => ?_
  refine awp_le (le_keep [0, 1, 2, 3, 4, 5, 6, 7]) ?_
  simp only [kp, argSl, simprocAttr]
  refine awp_sr [63] (by rw [hC]; rfl) fun k hk => ?_
  simp (maxSteps := 9^9) (disch := (try simp only [lens]); omega) only [argSl, sm, ↓amb, mark_eq, simprocAttr, fl81_1, sz79, el79, dx]
  repeat refine ⟨by first | omega | (simp; done) | (unfold maxLen; omega) | (simp [maxLen]; omega) | assumption, ?_⟩
  refine hk _ ?_; clear hk k
  refine awp_cond rfl (fun hb => ?_) (fun hb => ?_)
  ·try simp only [hbx] at hb
   refine awp_skip ?_
   refine h5 _ ?_; clear h5 k5
   refine awp_seq fun k6 h6 => ?_
   refine awp_block ?_
   refine awp_seq fun k7 h7 => ?_
   refine awp_le (le_keep [0, 1, 2, 3, 4, 5, 6, 7]) ?_
   simp only [kp, argSl, simprocAttr]
   refine awp_sr [63] (by rw [hC]; rfl) fun k hk => ?_
   simp (maxSteps := 9^9) (disch := (try simp only [lens]); omega) only [argSl, sm, ↓amb, mark_eq, simprocAttr, fl81_2, sz4, dx]
   repeat refine ⟨by first | omega | (simp; done) | (unfold maxLen; omega) | (simp [maxLen]; omega) | assumption, ?_⟩
   refine hk _ ?_; clear hk k
   refine awp_cond rfl (fun hb => ?_) (fun hb => ?_)
   ·try simp only [hbx] at hb
    refine awp_le (le_keep [1, 2, 5]) ?_
    simp only [kp, argSl, simprocAttr]
    have ho := hb
    refine awp_sr [63] (by rw [hC]; rfl) fun k hk => ?_
    simp (maxSteps := 9^9) (disch := (try simp only [lens]); omega) only [argSl, sm, ↓amb, mark_eq, simprocAttr, sz81, dx]
    repeat refine ⟨by first | omega | (simp; done) | (unfold maxLen; omega) | (simp [maxLen]; omega) | assumption, ?_⟩
    refine hk _ ?_; clear hk k
    refine awp_ret ?_
    rw [Pl.rounds_over ho] at hR4
    rw [← hR4, List.drop_left]
    refine retl rfl rfl ⟨retc rfl sz81 ?_, rett rfl ?_, rett rfl ?_, trivial⟩
    simp (maxSteps := 9^9) (disch := (try simp only [lens]); omega) only [argSl, sm, ↓amb, mark_eq, simprocAttr, sz81, dx]
    ·exact .p (LeP.refl _)
    ·exact .ownE rfl rfl
    ·exact .p (LeP.refl _)
   ·try simp only [hbx] at hb
    refine awp_skip ?_
    refine h7 _ ?_; clear h7 k7
    refine awp_seq fun k8 h8 => ?_
    refine awp_le (le_keep [0, 1, 2, 3, 4, 5, 6, 7]) ?_
    simp only [kp, argSl, simprocAttr]
    have ho : ¬ c2.over = true := by simp [hb]
    refine awp_sr [63] (by rw [hC]; rfl) fun k hk => ?_
    simp (maxSteps := 9^9) (disch := (try simp only [lens]); omega) only [argSl, sm, ↓amb, mark_eq, simprocAttr, sz81, en95, dx]
    repeat refine ⟨by first | omega | (simp; done) | (unfold maxLen; omega) | (simp [maxLen]; omega) | assumption, ?_⟩
    refine callK_p (c_ref05_Held _ hR2.held.2 (by have := hR2.dqlen; omega)) rfl ?_
    simp (maxSteps := 9^9) (disch := (try simp only [lens]); omega) only [argSl, sm, ↓amb, mark_eq, simprocAttr, sz81, en95, dx]
    repeat refine ⟨by first | omega | (simp; done) | (unfold maxLen; omega) | (simp [maxLen]; omega) | assumption, ?_⟩
    refine hk _ ?_; clear hk k
    refine awp_cond rfl (fun hb => ?_) (fun hb => ?_)
    ·exact absurd (hR2.held.1.2 (by have := beq_iff_eq.mp hb; omega)) ho
    ·try simp only [hbx] at hb
     refine awp_skip ?_
     refine h8 _ ?_; clear h8 k8
     refine awp_le (le_keep [0, 1, 2, 3, 4, 5, 6, 7]) ?_
     simp only [kp, argSl, simprocAttr]
     have hh : ¬ Pl.held c2.dq = 0 := by omega
     have hk1 := (hR2.most_pos (r * c.dq.length + p) ho).1
     obtain ⟨hs1, hs2⟩ := hR2.step (by omega) p (p + 1 + r)
     have hs3 := Pl.rounds_on (f := 20000) (k := r * c.dq.length + p) (W := c.dq.length) (r := r) (p := p) (ev := ev ++ m2) hR3 (by omega) rfl ho hh hs1 (by omega)
     have hs4 := hR2.most_on (by omega) (W := c.dq.length) (r := r) (p := p) hR3 (by omega) rfl ho
     refine awp_sr [63] (by rw [hC]; rfl) fun k hk => ?_
     simp (maxSteps := 9^9) (disch := (try simp only [lens]); omega) only [argSl, sm, ↓amb, mark_eq, simprocAttr, sz81, en78, vr81, vr112, sz112, dx]
     repeat refine ⟨by first | omega | (simp; done) | (unfold maxLen; omega) | (simp [maxLen]; omega) | assumption, ?_⟩
     refine callK_p (c_ref05_Step c2 p (p + 1 + r) (Pl.good_hl hR2.gd) hs1) rfl ?_
     simp (maxSteps := 9^9) (disch := (try simp only [lens]); omega) only [argSl, sm, ↓amb, mark_eq, simprocAttr, sz81, en78, vr81, vr112, sz112, dx]
     repeat refine ⟨by first | omega | (simp; done) | (unfold maxLen; omega) | (simp [maxLen]; omega) | assumption, ?_⟩
     refine hk _ ?_; clear hk k
     refine awp_seq fun k9 h9 => ?_
     refine awp_le (le_keep [0, 1, 2, 3, 4, 5, 6, 7, 8, 9, 10]) ?_
     simp only [kp, argSl, simprocAttr]
     refine awp_sr [63] (by rw [hC]; rfl) fun k hk => ?_
     simp (maxSteps := 9^9) (disch := (try simp only [lens]); omega) only [argSl, sm, ↓amb, mark_eq, simprocAttr, dx]
     repeat refine ⟨by first | omega | (simp; done) | (unfold maxLen; omega) | (simp [maxLen]; omega) | assumption, ?_⟩
     refine hk _ ?_; clear hk k
     refine awp_cond rfl (fun hb => ?_) (fun hb => ?_)
     ·exact absurd hb (by simp)
     ·try simp only [hbx] at hb
      refine awp_skip ?_
      refine h9 _ ?_; clear h9 k9
      refine awp_draw [63] ⟨[0, 0, 0, 4, 14, 31, 63], [], [4, 5], [(4, 5)], some [0, 2]⟩ (by rw [hC]; rfl) (by kernel_rfl) (by kernel_rfl) fun k hk => ?_
      simp (maxSteps := 9^9) (disch := (try simp only [lens]); omega) only [argSl, sm, ↓amb, mark_eq, simprocAttr, sz81, sz112, el82, vr112, by112, dx]
      repeat refine ⟨by first | omega | (simp; done) | (unfold maxLen; omega) | (simp [maxLen]; omega) | assumption, ?_⟩
      refine hk _ ?_; clear hk k
      refine h6 _ ?_; clear h6 k6
      refine awp_region [63] (by rw [hC]; rfl) fun k hk => ?_
      simp (maxSteps := 9^9) (disch := (try simp only [lens]); omega) only [argSl, sm, ↓amb, mark_eq, simprocAttr, dx]
      repeat refine ⟨by first | omega | (simp; done) | (unfold maxLen; omega) | (simp [maxLen]; omega) | assumption, ?_⟩
      refine hk _ ?_; clear hk k
      refine ⟨(p + 1, (Pl.step c2 p (p + 1 + r)).1, m2 ++ [(Pl.step c2 p (p + 1 + r)).2.1]), (by dsimp only; rw [← Nat.add_assoc, ← List.append_assoc]; exact ⟨by omega, hs2, by rw [Pl.step_dqlen]; exact hR3, by rw [← hs3]; exact hR4, by omega, by rw [List.length_append, List.length_singleton]; omega⟩), le_of [(0, _), (1, _), (2, _)] (by rfl) (by rfl) ⟨⟨_, rfl, .ptr rfl⟩, ⟨_, rfl, .ptr rfl⟩, ⟨_, rfl, .own rfl⟩, ⟨_, rfl, .p (.of_eq (by first | rfl | (simp only [PV.lit.injEq, Value.int.injEq, true_and]; omega) | (simp; done) | (simp; omega)))⟩, ⟨_, rfl, .p (.of_eq (by first | rfl | (simp only [PV.lit.injEq, Value.int.injEq, true_and]; omega) | (simp; done) | (simp; omega)))⟩, trivial⟩ ⟨⟨_, rfl, _, rfl, .one (.cons (.p (.refl _)) (.cons (.p (.refl _)) (.cons (.p (.refl _)) (.cons (.p (.refl _)) (.cons (.p (.refl _)) (.cons (.p (.refl _)) (.cons (.p (.refl _)) (.nil))))))))⟩, ⟨_, rfl, _, rfl, .one (.cons (.p (.refl _)) (.cons (.p (.refl _)) (.cons (.p (.refl _)) (.cons (.p (.refl _)) (.cons (.p (.refl _)) (.cons (.p (.refl _)) (.cons (.p (.refl _)) (.nil))))))))⟩, ⟨_, rfl, _, rfl, .liftE (by first | rfl | (rw [List.map_append]; rfl))⟩, trivial⟩, (by dsimp only; omega)⟩
  ·try simp only [hbx] at hb
   refine awp_exit ((if_pos rfl).mpr ?_)
   refine h3 _ ?_; clear h5 k5; clear h3 k3
   have hp2 : r * c.dq.length + p = r * c.dq.length + c.dq.length := by omega
   refine awp_region [63] (by rw [hC]; rfl) fun k hk => ?_
   simp (maxSteps := 9^9) (disch := (try simp only [lens]); omega) only [argSl, sm, ↓amb, mark_eq, simprocAttr, dx]
   repeat refine ⟨by first | omega | (simp; done) | (unfold maxLen; omega) | (simp [maxLen]; omega) | assumption, ?_⟩
   refine hk _ ?_; clear hk k
   refine ⟨(r + 1, c2, m2), (by dsimp only; rw [Nat.add_mul, Nat.one_mul]; rw [hp2] at hR4 hR5 hR6; exact ⟨hR2, hR3, hR4, hR5, hR6⟩), le_of [(0, _), (1, _), (2, _)] (by rfl) (by rfl) ⟨⟨_, rfl, .ptr rfl⟩, ⟨_, rfl, .ptr rfl⟩, ⟨_, rfl, .own rfl⟩, ⟨_, rfl, .p (.of_eq (by first | rfl | (simp only [PV.lit.injEq, Value.int.injEq, true_and]; omega) | (simp; done) | (simp; omega)))⟩, trivial⟩ ⟨⟨_, rfl, _, rfl, .one (.cons (.p (.refl _)) (.cons (.p (.refl _)) (.cons (.p (.refl _)) (.cons (.p (.refl _)) (.cons (.p (.refl _)) (.cons (.p (.refl _)) (.cons (.p (.refl _)) (.nil))))))))⟩, ⟨_, rfl, _, rfl, .one (.cons (.p (.refl _)) (.cons (.p (.refl _)) (.cons (.p (.refl _)) (.cons (.p (.refl _)) (.cons (.p (.refl _)) (.cons (.p (.refl _)) (.cons (.p (.refl _)) (.nil))))))))⟩, ⟨_, rfl, _, rfl, .liftE (by first | rfl | (rw [List.map_append]; rfl))⟩, trivial⟩, (by dsimp only; rw [Nat.add_mul, Nat.one_mul]; have := hR1.most_0 (k := r * c.dq.length) (r := r) (by rw [hRw]); have := hR1.dqlen; omega)⟩
end Go.Proofs.Ythelnccjcbnjfaa
end
section
set_option linter.unusedSimpArgs false
set_option linter.unusedVariables false
set_option maxRecDepth 100000
namespace Go.Proofs.Ythelnccjcbnjfaa
open Go.Am Go.Proofs
theorem ar23 : tArr Try.prog 23 = some (2, 1, false) := by kernel_rfl
theorem el23 : tEl Try.prog 23 = none := by kernel_rfl
theorem el24 : tEl Try.prog 24 = some 23 := by kernel_rfl
theorem en61 : enters Try.prog 61 = true := by kernel_rfl
theorem en79 : enters Try.prog 79 = true := by kernel_rfl
theorem sz23 : tSz Try.prog 23 = some (true, 2) := by kernel_rfl
set_option maxHeartbeats 4000000 in
theorem c_ref06_Whole (cp : Bool) (n g w : Int) (P : List (Int × Int)) (hok : Pl.bdOk n g w) (hP : P.length ≤ 70000) : PCall Try.prog 57 [iV n, iV g, iV w, picksV cp P] (.tup [.agg (crewC (Pl.whole n g w P).1), .seq false ((Pl.whole n g w P).2.1.map evC), iV 0]) := by
 obtain ⟨hcn, hww⟩ := hok
 obtain ⟨b0, b1, b2, b3, b4, b5, b6⟩ := Pl.picked_ok (P := P) hcn hww hP
 have hcn' := hcn
 unfold Pl.cnt at hcn'
 refine pcall_of_awp Try.func57 rfl (by simp [Try.ntmps57]) fun C hC => ?_
 refine awp_le (le_keep [0, 1, 2, 3]) ?_
 simp only [kp, argSl, simprocAttr]
 refine awp_sr [66, 76] (by rw [hC]; rfl) fun k hk => ?_
 simp (maxSteps := 9^9) (disch := (try simp only [lens]); omega) only [argSl, sm, ↓amb, mark_eq, simprocAttr, vr81, dx]
 repeat refine ⟨by first | omega | (simp; done) | (unfold maxLen; omega) | (simp [maxLen]; omega) | assumption, ?_⟩
 refine hk _ ?_; clear hk k
 refine awp_le (le_keep [0, 1, 2, 3, 8]) ?_
 simp only [kp, argSl, simprocAttr]
 refine awp_sr [66, 76] (by rw [hC]; rfl) fun k hk => ?_
 simp (maxSteps := 9^9) (disch := (try simp only [lens]); omega) only [argSl, sm, ↓amb, mark_eq, simprocAttr, en61, vr81, sz81, dx]
 repeat refine ⟨by first | omega | (simp; done) | (unfold maxLen; omega) | (simp [maxLen]; omega) | assumption, ?_⟩
 refine callK_p (c_ref05_Begin _ _ _ (by omega)) rfl ?_
 simp (maxSteps := 9^9) (disch := (try simp only [lens]); omega) only [argSl, sm, ↓amb, mark_eq, simprocAttr, en61, vr81, sz81, dx]
 repeat refine ⟨by first | omega | (simp; done) | (unfold maxLen; omega) | (simp [maxLen]; omega) | assumption, ?_⟩
 refine hk _ ?_; clear hk k
 refine awp_seq fun k1 h1 => ?_
 refine awp_le (le_keep [3, 8, 9, 10, 11, 12]) ?_
 simp only [kp, argSl, simprocAttr]
 rw [b0]
 refine awp_sr [66, 76] (by rw [hC]; rfl) fun k hk => ?_
 simp (maxSteps := 9^9) (disch := (try simp only [lens]); omega) only [argSl, sm, ↓amb, mark_eq, simprocAttr, dx]
 repeat refine ⟨by first | omega | (simp; done) | (unfold maxLen; omega) | (simp [maxLen]; omega) | assumption, ?_⟩
 refine hk _ ?_; clear hk k
 refine awp_cond rfl (fun hb => ?_) (fun hb => ?_)
 ·exact absurd hb (by simp)
 ·try simp only [hbx] at hb
  refine awp_skip ?_
  refine h1 _ ?_; clear h1 k1
  refine awp_le (le_keep [3, 8, 11]) ?_
  simp only [kp, argSl, simprocAttr]
  refine awp_sr [66, 76] (by rw [hC]; rfl) fun k hk => ?_
  simp (maxSteps := 9^9) (disch := (try simp only [lens]); omega) only [argSl, sm, ↓amb, mark_eq, simprocAttr, dx]
  repeat refine ⟨by first | omega | (simp; done) | (unfold maxLen; omega) | (simp [maxLen]; omega) | assumption, ?_⟩
  refine hk _ ?_; clear hk k
  refine awp_seq fun k2 h2 => ?_
  refine awp_le (le_keep [3, 8, 9, 10, 11, 13]) ?_
  simp only [kp, argSl, simprocAttr]
  refine awp_own' 13 4 rfl ?_
  refine awp_sr [66, 76] (by rw [hC]; rfl) fun k hk => ?_
  simp (maxSteps := 9^9) (disch := (try simp only [lens]); omega) only [argSl, sm, ↓amb, mark_eq, simprocAttr, dx]
  repeat refine ⟨by first | omega | (simp; done) | (unfold maxLen; omega) | (simp [maxLen]; omega) | assumption, ?_⟩
  refine hk _ ?_; clear hk k
  refine awp_block ?_
  refine awp_loop (σ := Nat × Pl.Crew × List Pl.Event) (fun x => x.1 ≤ P.length ∧ Pl.Run n g x.2.1 x.2.2 ∧ Pl.picked (P.drop x.1) x.2.1 x.2.2 = (Pl.picked P (Pl.crewBegin n g w).1 []) ∧ x.2.2.length ≤ x.1) (fun x => ⟨[(3, (.p (picksV cp P))), (8, (.ptr 0 7 0 0)), (11, (.ptr 1 7 0 0)), (13, (.own 2)), (14, (.p (iV (x.1 : Int))))], [(0, (.row 7 [[.p (.seq true []), .p (iV 0), .p (.seq true []), .p (.seq true []), .p (bV false), .p (iV 0), .p (iV 0)]])), (1, (.row 7 [[.p (.seq false (x.2.1.work.ts.map taskC)), .p (iV x.2.1.work.grain), .p (.seq false (x.2.1.work.done.map fun b => [bV b])), .p (.seq false (x.2.1.dq.map lV)), .p (bV x.2.1.over), .p (iV x.2.1.steps), .p (iV x.2.1.idle)]])), (2, (.row 4 (lift (x.2.2.map evC))))], 1⟩) (fun x => P.length - x.1) (0, (Pl.crewBegin n g w).1, []) ?_ ?_ fun x hx => ?_
  ·exact ⟨Nat.zero_le _, b1, rfl, Nat.le_refl _⟩
  ·exact le_of [(0, _), (1, _), (2, _)] (by rfl) (by rfl) ⟨⟨_, rfl, .p (.of_eq (by first | rfl | (simp only [PV.lit.injEq, Value.int.injEq, true_and]; omega) | (simp; done) | (simp; omega)))⟩, ⟨_, rfl, .ptr rfl⟩, ⟨_, rfl, .ptr rfl⟩, ⟨_, rfl, .own rfl⟩, ⟨_, rfl, .p (.of_eq (by first | rfl | (simp only [PV.lit.injEq, Value.int.injEq, true_and]; omega) | (simp; done) | (simp; omega)))⟩, trivial⟩ ⟨⟨_, rfl, _, rfl, .one (.cons (.p (.refl _)) (.cons (.p (.refl _)) (.cons (.p (.refl _)) (.cons (.p (.refl _)) (.cons (.p (.refl _)) (.cons (.p (.refl _)) (.cons (.p (.refl _)) (.nil))))))))⟩, ⟨_, rfl, _, rfl, .one (.cons (.p (.refl _)) (.cons (.p (.refl _)) (.cons (.p (.refl _)) (.cons (.p (.refl _)) (.cons (.p (.refl _)) (.cons (.p (.refl _)) (.cons (.p (.refl _)) (.nil))))))))⟩, ⟨_, rfl, _, rfl, .liftE (by first | rfl | (rw [List.map_append]; rfl))⟩, trivial⟩
  obtain ⟨i, c, ev⟩ := x
  obtain ⟨hi, hR, hK, hel⟩ := hx
  dsimp only at hi hR hK hel
  refine awp_seq fun k4 h4 => ?_
  refine awp_test [66, 76] 38 (decide ((i : Int) < P.length ∧ ¬ c.over = true)) [0, 1, 2, 3, 8, 9, 10, 11, 13, 14] (by rw [hC]; rfl) (fun gd hgd k hk => ?_) ?_
  ·have g4 : gd 4 = some 34 := by rw [hgd]; rfl
   clear hgd
   simp (maxSteps := 9^9) (disch := (try simp only [lens]); omega) only [argSl, sm, ↓amb, mark_eq, simprocAttr, el24, fl81_2, sz4, gcase_undef, g4, dx]
   repeat' first | refine hk _ _ rfl rfl rfl rfl ?_ | (refine gsplit (fun hg => ?_) (fun hg => ?_) <;> (try simp only [hbx] at hg) <;> simp (maxSteps := 9^9) (disch := (try simp only [lens]); omega) only [argSl, sm, ↓amb, mark_eq, simprocAttr, el24, fl81_2, sz4, gcase_undef, g4, dx]) | apply And.intro | fail
   all_goals first | rfl | omega | exact (decide_eq_true (by omega)).symm | exact (decide_eq_false (by omega)).symm | exact decide_eq_decide.mpr (by omega) | (refine Bool.eq_iff_iff.mpr ?_; simp only [beq_iff_eq, bne_iff_ne, ne_eq, decide_eq_true_eq]; omega) | (refine Bool.eq_iff_iff.mpr ?_; simp only [Bool.not_eq_true', Bool.not_eq_false', decide_eq_false_iff_not, decide_eq_true_eq, beq_iff_eq, bne_iff_ne, ne_eq]; omega) | assumption | (simp; done) | (simp [maxLen]; omega) | skip
   all_goals first | (refine Bool.eq_iff_iff.mpr ?_; simp_all; done) | (refine (decide_eq_false ?_).symm; omega) | (refine (decide_eq_false ?_); omega) | trace_state
  simp only [kp, argSl, simprocAttr, List.length_cons, List.length_nil]
  refine awp_cond rfl (fun hb => ?_) (fun hb => ?_)
  ·try simp only [hbx] at hb
   refine awp_skip ?_
   refine h4 _ ?_; clear h4 k4
   refine awp_seq fun k5 h5 => ?_
   refine awp_block ?_
   refine awp_le (le_keep [0, 1, 2, 3, 8, 9, 10, 11, 13, 14]) ?_
   simp only [kp, argSl, simprocAttr]
   have ho : ¬ c.over = true := by simp [hb.2]
   obtain ⟨hs1, hs2⟩ := hR.step (by omega) (P.getD i default).1 (P.getD i default).2
   have hs3 := Pl.picked_on (l := ev) (P := P) (i := i) (by omega) ho hs1
   refine awp_sd [66, 76] ⟨[0, 0, 0, 6, 14, 30, 0, 0, 192, 448, 960, 2047, 4095, 8191, 8191, 8191, 0, 0, 212991, 491519, 1048575], [0, 5, 10], [18, 19], [(11, 18), (16, 18), (17, 18), (11, 19), (16, 19), (17, 19)], none⟩ (by rw [hC]; rfl) (by kernel_rfl) (by kernel_rfl) fun k hk => ?_
   simp (maxSteps := 9^9) (disch := (try simp only [lens]); omega) only [argSl, sm, ↓amb, mark_eq, simprocAttr, sz81, el24, sz23, el23, ar23, sz3, en78, vr81, vr112, sz112, dx]
   repeat refine ⟨by first | omega | (simp; done) | (unfold maxLen; omega) | (simp [maxLen]; omega) | assumption, ?_⟩
   refine callK_p (c_ref05_Step c (P.getD i default).1 (P.getD i default).2 (Pl.good_hl hR.gd) hs1) rfl ?_
   simp (maxSteps := 9^9) (disch := (try simp only [lens]); omega) only [argSl, sm, ↓amb, mark_eq, simprocAttr, sz81, el24, sz23, el23, ar23, sz3, en78, vr81, vr112, sz112, dx]
   repeat refine ⟨by first | omega | (simp; done) | (unfold maxLen; omega) | (simp [maxLen]; omega) | assumption, ?_⟩
   refine hk _ ?_; clear hk k
   refine awp_seq fun k6 h6 => ?_
   refine awp_le (le_keep [0, 1, 2, 3, 8, 9, 10, 11, 13, 14, 15, 16, 17]) ?_
   simp only [kp, argSl, simprocAttr]
   refine awp_sr [66, 76] (by rw [hC]; rfl) fun k hk => ?_
   simp (maxSteps := 9^9) (disch := (try simp only [lens]); omega) only [argSl, sm, ↓amb, mark_eq, simprocAttr, dx]
   repeat refine ⟨by first | omega | (simp; done) | (unfold maxLen; omega) | (simp [maxLen]; omega) | assumption, ?_⟩
   refine hk _ ?_; clear hk k
   refine awp_cond rfl (fun hb => ?_) (fun hb => ?_)
   ·exact absurd hb (by simp)
   ·try simp only [hbx] at hb
    refine awp_skip ?_
    refine h6 _ ?_; clear h6 k6
    refine awp_draw [66, 76] ⟨[0, 0, 0, 4, 14, 31, 63], [], [4, 5], [(4, 5)], some [1, 2]⟩ (by rw [hC]; rfl) (by kernel_rfl) (by kernel_rfl) fun k hk => ?_
    simp (maxSteps := 9^9) (disch := (try simp only [lens]); omega) only [argSl, sm, ↓amb, mark_eq, simprocAttr, sz81, sz112, el82, vr112, by112, dx]
    repeat refine ⟨by first | omega | (simp; done) | (unfold maxLen; omega) | (simp [maxLen]; omega) | assumption, ?_⟩
    refine hk _ ?_; clear hk k
    refine h5 _ ?_; clear h5 k5
    refine awp_region [66, 76] (by rw [hC]; rfl) fun k hk => ?_
    simp (maxSteps := 9^9) (disch := (try simp only [lens]); omega) only [argSl, sm, ↓amb, mark_eq, simprocAttr, dx]
    repeat refine ⟨by first | omega | (simp; done) | (unfold maxLen; omega) | (simp [maxLen]; omega) | assumption, ?_⟩
    refine hk _ ?_; clear hk k
    refine ⟨(i + 1, (Pl.step c (P.getD i default).1 (P.getD i default).2).1, ev ++ [(Pl.step c (P.getD i default).1 (P.getD i default).2).2.1]), ⟨by dsimp only; omega, hs2, by rw [← hK, hs3], by simp; omega⟩, le_of [(0, _), (1, _), (2, _)] (by rfl) (by rfl) ⟨⟨_, rfl, .p (.of_eq (by first | rfl | (simp only [PV.lit.injEq, Value.int.injEq, true_and]; omega) | (simp; done) | (simp; omega)))⟩, ⟨_, rfl, .ptr rfl⟩, ⟨_, rfl, .ptr rfl⟩, ⟨_, rfl, .own rfl⟩, ⟨_, rfl, .p (.of_eq (by first | rfl | (simp only [PV.lit.injEq, Value.int.injEq, true_and]; omega) | (simp; done) | (simp; omega)))⟩, trivial⟩ ⟨⟨_, rfl, _, rfl, .one (.cons (.p (.refl _)) (.cons (.p (.refl _)) (.cons (.p (.refl _)) (.cons (.p (.refl _)) (.cons (.p (.refl _)) (.cons (.p (.refl _)) (.cons (.p (.refl _)) (.nil))))))))⟩, ⟨_, rfl, _, rfl, .one (.cons (.p (.refl _)) (.cons (.p (.refl _)) (.cons (.p (.refl _)) (.cons (.p (.refl _)) (.cons (.p (.refl _)) (.cons (.p (.refl _)) (.cons (.p (.refl _)) (.nil))))))))⟩, ⟨_, rfl, _, rfl, .liftE (by first | rfl | (rw [List.map_append]; rfl))⟩, trivial⟩, by dsimp only; omega⟩
  ·try simp only [hbx] at hb
   refine awp_exit ((if_pos rfl).mpr ?_)
   refine h2 _ ?_; clear h4 k4; clear h2 k2
   refine awp_le (le_keep [8, 11, 13]) ?_
   simp only [kp, argSl, simprocAttr]
   have he0 : (Pl.picked P (Pl.crewBegin n g w).1 []) = (c, ev, 0) := by
    rw [← hK]
    by_cases hov : c.over = true
    ·exact Pl.picked_over _ hov
    ·exact Pl.picked_nil (Nat.le_of_not_lt fun q => hb ⟨by omega, by simpa using hov⟩)
   have hM : Pl.most n g 0 c ev ≤ 16010 := by rw [he0] at b5; exact b5
   have hW : (Pl.whole n g w P) = Pl.rounds 20000 0 c ev := by rw [b6, he0]
   rw [hW]
   have hrl : (Pl.rounds 20000 0 c ev).2.1.length - ev.length ≤ 1000000 := by
    have h1 := (Pl.whole_ok (P := P) hcn hww hP).2.2.2.2.2.1
    have h2 := Pl.bd_nn ⟨hcn, hww⟩
    rw [hW] at h1; rw [Int.mul_add, Int.mul_comm w] at h2; omega
   have hall : ∀ y, y ∈ List.map evC ((Pl.rounds 20000 0 c ev).2.1.drop ev.length) → y.length = 4 := fun y hy => by
    obtain ⟨e, _, rfl⟩ := List.mem_map.1 hy; rfl
   refine awp_sr [66, 76] (by rw [hC]; rfl) fun k hk => ?_
   simp (maxSteps := 9^9) (disch := (try simp only [lens]); omega) only [argSl, sm, ↓amb, mark_eq, simprocAttr, sz81, en79, dx]
   repeat refine ⟨by first | omega | (simp; done) | (unfold maxLen; omega) | (simp [maxLen]; omega) | assumption, ?_⟩
   refine callK_p (c_ref06_Drain n g c ev hR hM (by omega)) rfl ?_
   simp (maxSteps := 9^9) (disch := (try simp only [lens]); omega) only [argSl, sm, ↓amb, mark_eq, simprocAttr, sz81, en79, dx]
   repeat refine ⟨by first | omega | (simp; done) | (unfold maxLen; omega) | (simp [maxLen]; omega) | assumption, ?_⟩
   refine hk _ ?_; clear hk k
   refine awp_le (le_keep [8, 11, 12, 13, 18]) ?_
   simp only [kp, argSl, simprocAttr]
   refine awp_sd [66, 76] ⟨[0, 0, 0, 6, 0, 15, 47, 127], [], [3, 5], [(3, 5)], some [0, 2]⟩ (by rw [hC]; rfl) (by kernel_rfl) (by kernel_rfl) fun k hk => ?_
   simp (maxSteps := 9^9) (disch := (try simp only [lens]); omega) only [argSl, sm, ↓amb, mark_eq, simprocAttr, sz81, el82, vr112, by112, dx]
   repeat refine ⟨by first | omega | (simp; done) | (unfold maxLen; omega) | (simp [maxLen]; omega) | assumption, ?_⟩
   refine hk _ ?_; clear hk k
   refine awp_ret ?_
   refine retl rfl rfl ⟨retc rfl sz81 ?_, rett rfl ?_, rett rfl ?_, trivial⟩
   simp (maxSteps := 9^9) (disch := (try simp only [lens]); omega) only [argSl, sm, ↓amb, mark_eq, simprocAttr, sz81, dx]
   ·exact .p (LeP.refl _)
   ·exact .ownE rfl (by rw [Pl.rounds_rest])
   ·exact .p (LeP.refl _)
end Go.Proofs.Ythelnccjcbnjfaa
end
section
set_option linter.unusedSimpArgs false
set_option linter.unusedVariables false
set_option maxRecDepth 100000
namespace Go.Proofs.Ythelnccjcbnjfaa
open Go.Am Go.Proofs
theorem en85 : enters Try.prog 85 = true := by kernel_rfl
theorem fl108_0 : tFld Try.prog 108 0 = some (0, 7, true) := by kernel_rfl
theorem fl108_1 : tFld Try.prog 108 1 = some (7, 1, false) := by kernel_rfl
theorem sz82 : tSz Try.prog 82 = some (false, 1) := by kernel_rfl
set_option maxHeartbeats 4000000 in
theorem c_drain_go1_step (c : Pl.Crew) (ev : List Pl.Event) (p v : Int) (hl : ∀ l, l ∈ c.dq → l.length ≤ 1000000 ∧ ∀ t, t ∈ l → -9223372036854775808 ≤ t ∧ t ≤ 9223372036854775807) (h0 : (Pl.step c p v).2.2 = 0) (he : ev.length ≤ 1000000) : HCall Try.prog 76 [.ptr 7 8 0 0, .p (iV p), .p (iV v)] [(7, (.row 8 [[.p (.seq false (c.work.ts.map taskC)), .p (iV c.work.grain), .p (.seq false (c.work.done.map fun b => [bV b])), .p (.seq false (c.dq.map lV)), .p (bV c.over), .p (iV c.steps), .p (iV c.idle), .own 15]])), (15, (.row 4 (lift (ev.map evC))))] (.p (iV 0)) [(7, (.row 8 [[.p (.seq false ((Pl.step c p v).1.work.ts.map taskC)), .p (iV (Pl.step c p v).1.work.grain), .p (.seq false ((Pl.step c p v).1.work.done.map fun b => [bV b])), .p (.seq false ((Pl.step c p v).1.dq.map lV)), .p (bV (Pl.step c p v).1.over), .p (iV (Pl.step c p v).1.steps), .p (iV (Pl.step c p v).1.idle), .own 0]])), (0, (.row 4 (lift ((ev ++ [(Pl.step c p v).2.1]).map evC))))] := by
 refine hcall_of_awp Try.func76 rfl (by simp [Try.ntmps76]) fun C hC => ?_
 refine awp_le (le_keep [0, 1, 2]) ?_
 simp only [kp, argSl, simprocAttr]
 refine awp_sr [32] (by rw [hC]; rfl) fun k hk => ?_
 simp (maxSteps := 9^9) (disch := (try simp only [lens]); omega) only [argSl, sm, ↓amb, mark_eq, simprocAttr, dx]
 repeat refine ⟨by first | omega | (simp; done) | (unfold maxLen; omega) | (simp [maxLen]; omega) | assumption, ?_⟩
 refine hk _ ?_; clear hk k
 refine awp_le (le_keep [0, 1, 2]) ?_
 simp only [kp, argSl, simprocAttr]
 refine awp_sr [32] (by rw [hC]; rfl) fun k hk => ?_
 simp (maxSteps := 9^9) (disch := (try simp only [lens]); omega) only [argSl, sm, ↓amb, mark_eq, simprocAttr, fl108_0, sz81, en85, vr81, vr112, sz112, dx]
 repeat refine ⟨by first | omega | (simp; done) | (unfold maxLen; omega) | (simp [maxLen]; omega) | assumption, ?_⟩
 refine callK_p (c43 _ _ _ hl) rfl ?_
 simp (maxSteps := 9^9) (disch := (try simp only [lens]); omega) only [argSl, sm, ↓amb, mark_eq, simprocAttr, fl108_0, sz81, en85, vr81, vr112, sz112, dx]
 repeat refine ⟨by first | omega | (simp; done) | (unfold maxLen; omega) | (simp [maxLen]; omega) | assumption, ?_⟩
 refine hk _ ?_; clear hk k
 refine awp_seq fun k1 h1 => ?_
 refine awp_le (le_keep [0, 6, 7, 8, 9]) ?_
 simp only [kp, argSl, simprocAttr]
 rw [h0]
 refine awp_sr [32] (by rw [hC]; rfl) fun k hk => ?_
 simp (maxSteps := 9^9) (disch := (try simp only [lens]); omega) only [argSl, sm, ↓amb, mark_eq, simprocAttr, dx]
 repeat refine ⟨by first | omega | (simp; done) | (unfold maxLen; omega) | (simp [maxLen]; omega) | assumption, ?_⟩
 refine hk _ ?_; clear hk k
 refine awp_cond rfl (fun hb => ?_) (fun hb => ?_)
 ·try simp only [hbx] at hb
  refine awp_draw [32] ⟨[0, 0, 0, 0, 8, 24, 56, 0, 128, 504, 1021, 2045, 4093, 8191, 16383, 32767], [6], [9, 12, 15], [(9, 12), (9, 15)], some [7, 15]⟩ (by rw [hC]; rfl) (by kernel_rfl) (by kernel_rfl) fun k hk => ?_
  simp (maxSteps := 9^9) (disch := (try simp only [lens]); omega) only [argSl, sm, ↓amb, mark_eq, simprocAttr, sz81, fl108_1, sz82, sz112, el82, vr112, by112, fl108_0, dx]
  repeat refine ⟨by first | omega | (simp; done) | (unfold maxLen; omega) | (simp [maxLen]; omega) | assumption, ?_⟩
  refine hk _ ?_; clear hk k
  refine h1 _ ?_; clear h1 k1
  refine awp_le (le_keep [9]) ?_
  simp only [kp, argSl, simprocAttr]
  refine awp_sr [32] (by rw [hC]; rfl) fun k hk => ?_
  simp (maxSteps := 9^9) (disch := (try simp only [lens]); omega) only [argSl, sm, ↓amb, mark_eq, simprocAttr, dx]
  repeat refine ⟨by first | omega | (simp; done) | (unfold maxLen; omega) | (simp [maxLen]; omega) | assumption, ?_⟩
  refine hk _ ?_; clear hk k
  refine awp_ret ?_
  refine reth1 rfl rfl ?_
  exact le_of [(0, _)] (by rfl) (by rfl) ⟨⟨_, rfl, .p (.of_eq (by first | rfl | rw [h0]))⟩, trivial⟩ ⟨⟨_, rfl, _, rfl, .one (.cons (.p (.refl _)) (.cons (.p (.refl _)) (.cons (.p (.refl _)) (.cons (.p (.refl _)) (.cons (.p (.refl _)) (.cons (.p (.refl _)) (.cons (.p (.refl _)) (.cons (.own rfl) (.nil)))))))))⟩, ⟨_, rfl, _, rfl, .liftE (by simp)⟩, trivial⟩
 ·exact absurd hb (by simp)
end Go.Proofs.Ythelnccjcbnjfaa
end
section
set_option linter.unusedSimpArgs false
set_option linter.unusedVariables false
set_option maxRecDepth 100000
namespace Go.Proofs.Ythelnccjcbnjfaa
open Go.Am Go.Proofs
theorem en76 : enters Try.prog 76 = true := by kernel_rfl
theorem en86 : enters Try.prog 86 = true := by kernel_rfl
set_option maxHeartbeats 4000000 in
theorem c_drain_go1_rounds (n g : Int) (c : Pl.Crew) (ev : List Pl.Event) (hR : Pl.Run n g c ev) (hM : Pl.most n g 0 c ev ≤ 16010) (he : ev.length ≤ 70000) : HCall Try.prog 77 [.ptr 7 8 0 0] [(7, (.row 8 [[.p (.seq false (c.work.ts.map taskC)), .p (iV c.work.grain), .p (.seq false (c.work.done.map fun b => [bV b])), .p (.seq false (c.dq.map lV)), .p (bV c.over), .p (iV c.steps), .p (iV c.idle), .own 15]])), (15, (.row 4 (lift (ev.map evC))))] (.p (iV 0)) [(7, (.row 8 [[.p (.seq false ((Pl.rounds 20000 0 c ev).1.work.ts.map taskC)), .p (iV (Pl.rounds 20000 0 c ev).1.work.grain), .p (.seq false ((Pl.rounds 20000 0 c ev).1.work.done.map fun b => [bV b])), .p (.seq false ((Pl.rounds 20000 0 c ev).1.dq.map lV)), .p (bV (Pl.rounds 20000 0 c ev).1.over), .p (iV (Pl.rounds 20000 0 c ev).1.steps), .p (iV (Pl.rounds 20000 0 c ev).1.idle), .p (.seq false ((Pl.rounds 20000 0 c ev).2.1.map evC))]]))] := by
 refine hcall_of_awp Try.func77 rfl (by simp [Try.ntmps77]) fun C hC => ?_
 refine awp_le (le_keep [0]) ?_
 simp only [kp, argSl, simprocAttr]
 refine awp_sr [] (by rw [hC]; rfl) fun k hk => ?_
 simp (maxSteps := 9^9) (disch := (try simp only [lens]); omega) only [argSl, sm, ↓amb, mark_eq, simprocAttr, dx]
 repeat refine ⟨by first | omega | (simp; done) | (unfold maxLen; omega) | (simp [maxLen]; omega) | assumption, ?_⟩
 refine hk _ ?_; clear hk k
 refine awp_le (le_keep [0]) ?_
 simp only [kp, argSl, simprocAttr]
 refine awp_sr [] (by rw [hC]; rfl) fun k hk => ?_
 simp (maxSteps := 9^9) (disch := (try simp only [lens]); omega) only [argSl, sm, ↓amb, mark_eq, simprocAttr, dx]
 repeat refine ⟨by first | omega | (simp; done) | (unfold maxLen; omega) | (simp [maxLen]; omega) | assumption, ?_⟩
 refine hk _ ?_; clear hk k
 refine awp_block ?_
 refine awp_loop (σ := Nat × Pl.Crew × List Pl.Event) (fun x => Pl.Run n g x.2.1 x.2.2 ∧ x.2.1.dq.length = c.dq.length ∧ Pl.rounds (20000 - (x.1 * c.dq.length)) (x.1 * c.dq.length) x.2.1 x.2.2 = (Pl.rounds 20000 0 c ev) ∧ Pl.most n g (x.1 * c.dq.length) x.2.1 x.2.2 + (((x.1 * c.dq.length) : Nat) : Int) ≤ 16010 ∧ x.2.2.length = ev.length + (x.1 * c.dq.length)) (fun x => ⟨[(0, (.ptr 7 8 0 0)), (3, (.p (iV (x.1 : Int))))], [(7, (.row 8 [[.p (.seq false (x.2.1.work.ts.map taskC)), .p (iV x.2.1.work.grain), .p (.seq false (x.2.1.work.done.map fun b => [bV b])), .p (.seq false (x.2.1.dq.map lV)), .p (bV x.2.1.over), .p (iV x.2.1.steps), .p (iV x.2.1.idle), .own 0]])), (0, (.row 4 (lift (x.2.2.map evC))))], 1⟩) (fun x => 16011 - x.1 * c.dq.length) (0, c, ev) ?_ ?_ fun x hx => ?_
 ·dsimp only; rw [Nat.zero_mul]; exact ⟨hR, rfl, rfl, by omega, by omega⟩
 ·exact le_of2 [(0, _)] (by rfl) (by rfl) ⟨⟨_, rfl, .ptr rfl⟩, ⟨_, rfl, .p (.of_eq (by first | rfl | (simp only [PV.lit.injEq, Value.int.injEq, true_and]; omega) | (simp; done) | (simp; omega)))⟩, trivial⟩ ⟨⟨_, rfl, _, rfl, .one (.cons (.p (.refl _)) (.cons (.p (.refl _)) (.cons (.p (.refl _)) (.cons (.p (.refl _)) (.cons (.p (.refl _)) (.cons (.p (.refl _)) (.cons (.p (.refl _)) (.cons (.own rfl) (.nil)))))))))⟩, ⟨_, rfl, _, rfl, .liftE rfl⟩, trivial⟩
 obtain ⟨r, c1, e1⟩ := x
 obtain ⟨hR1, hRw, hRr, hRm, hRe⟩ := hx
 dsimp only at hR1 hRw hRr hRm hRe
 refine awp_seq fun k2 h2 => ?_
 refine awp_block ?_
 refine awp_le (le_keep [0, 2, 3, 7]) ?_
 simp only [kp, argSl, simprocAttr]
 refine awp_sr [] (by rw [hC]; rfl) fun k hk => ?_
 simp (maxSteps := 9^9) (disch := (try simp only [lens]); omega) only [argSl, sm, ↓amb, mark_eq, simprocAttr, fl108_0, fl81_1, sz79, el79, dx]
 repeat refine ⟨by first | omega | (simp; done) | (unfold maxLen; omega) | (simp [maxLen]; omega) | assumption, ?_⟩
 refine hk _ ?_; clear hk k
 refine awp_block ?_
 refine awp_loop (σ := Nat × Pl.Crew × List Pl.Event) (fun x => x.1 ≤ c.dq.length ∧ Pl.Run n g x.2.1 x.2.2 ∧ x.2.1.dq.length = c.dq.length ∧ Pl.rounds (20000 - (r * c.dq.length + x.1)) (r * c.dq.length + x.1) x.2.1 x.2.2 = (Pl.rounds 20000 0 c ev) ∧ Pl.most n g (r * c.dq.length + x.1) x.2.1 x.2.2 + (((r * c.dq.length + x.1) : Nat) : Int) ≤ 16010 ∧ x.2.2.length = ev.length + (r * c.dq.length + x.1)) (fun x => ⟨[(0, (.ptr 7 8 0 0)), (3, (.p (iV (r : Int)))), (13, (.p (iV (c.dq.length : Int)))), (14, (.p (iV (x.1 : Int))))], [(7, (.row 8 [[.p (.seq false (x.2.1.work.ts.map taskC)), .p (iV x.2.1.work.grain), .p (.seq false (x.2.1.work.done.map fun b => [bV b])), .p (.seq false (x.2.1.dq.map lV)), .p (bV x.2.1.over), .p (iV x.2.1.steps), .p (iV x.2.1.idle), .own 0]])), (0, (.row 4 (lift (x.2.2.map evC))))], 1⟩) (fun x => c.dq.length - x.1) (0, c1, e1) ?_ ?_ fun x hx => ?_
 ·dsimp only; rw [Nat.add_zero]; exact ⟨Nat.zero_le _, hR1, hRw, hRr, hRm, hRe⟩
 ·exact le_of [(0, _)] (by rfl) (by rfl) ⟨⟨_, rfl, .ptr rfl⟩, ⟨_, rfl, .p (.of_eq (by first | rfl | (simp only [PV.lit.injEq, Value.int.injEq, true_and]; omega) | (simp; done) | (simp; omega)))⟩, ⟨_, rfl, .p (.of_eq (by first | rfl | rw [hRw]))⟩, ⟨_, rfl, .p (.of_eq (by first | rfl | (simp only [PV.lit.injEq, Value.int.injEq, true_and]; omega) | (simp; done) | (simp; omega)))⟩, trivial⟩ ⟨⟨_, rfl, _, rfl, .one (.cons (.p (.refl _)) (.cons (.p (.refl _)) (.cons (.p (.refl _)) (.cons (.p (.refl _)) (.cons (.p (.refl _)) (.cons (.p (.refl _)) (.cons (.p (.refl _)) (.cons (.own rfl) (.nil)))))))))⟩, ⟨_, rfl, _, rfl, .liftE rfl⟩, trivial⟩
 obtain ⟨p, c2, e2⟩ := x
 obtain ⟨hp1, hR2, hR3, hR4, hR5, hR6⟩ := hx
 dsimp only at hp1 hR2 hR3 hR4 hR5 hR6
 have hdl := hR1.dqlen
 have hm0 := hR1.most_0 (k := r * c.dq.length) (r := r) (by rw [hRw])
 have hrr : r ≤ r * c.dq.length := Nat.le_mul_of_pos_right r (by omega)
 refine awp_le (le_keep [0, 2, 3, 7, 13, 14]) ?_
 simp only [kp, argSl, simprocAttr]
 refine awp_sr [] (by rw [hC]; rfl) fun k hk => ?_
 simp (maxSteps := 9^9) (disch := (try simp only [lens]); omega) only [argSl, sm, ↓amb, mark_eq, simprocAttr, dx]
 repeat refine ⟨by first | omega | (simp; done) | (unfold maxLen; omega) | (simp [maxLen]; omega) | assumption, ?_⟩
 refine hk _ ?_; clear hk k
 refine awp_seq fun k4 h4 => ?_
 refine awp_cond rfl (fun hb => ?_) (fun hb => ?_)
 ·try simp only [hbx] at hb
  refine awp_skip ?_
  refine h4 _ ?_; clear h4 k4
  refine awp_seq fun k5 h5 => ?_
  refine awp_block ?_
  refine awp_le (le_keep [0, 2, 3, 7, 13, 14]) ?_
  simp only [kp, argSl, simprocAttr]
  refine awp_sr [] (by rw [hC]; rfl) fun k hk => ?_
  simp (maxSteps := 9^9) (disch := (try simp only [lens]); omega) only [argSl, sm, ↓amb, mark_eq, simprocAttr, dx]
  repeat refine ⟨by first | omega | (simp; done) | (unfold maxLen; omega) | (simp [maxLen]; omega) | assumption, ?_⟩
  refine hk _ ?_; clear hk k
  refine awp_seq fun k6 h6 => ?_
  refine awp_block ?_
  refine awp_le (le_keep [0, 2, 3, 4, 7, 13, 14]) ?_
  simp only [kp, argSl, simprocAttr]
  refine awp_sr [] (by rw [hC]; rfl) fun k hk => ?_
  simp (maxSteps := 9^9) (disch := (try simp only [lens]); omega) only [argSl, sm, ↓amb, mark_eq, simprocAttr, fl108_0, fl81_2, sz4, dx]
  repeat refine ⟨by first | omega | (simp; done) | (unfold maxLen; omega) | (simp [maxLen]; omega) | assumption, ?_⟩
  refine hk _ ?_; clear hk k
  refine awp_cond rfl (fun hb => ?_) (fun hb => ?_)
  ·try simp only [hbx] at hb
   refine awp_le (le_keep []) ?_
   simp only [kp, argSl, simprocAttr]
   have ho := hb
   refine awp_sr [] (by rw [hC]; rfl) fun k hk => ?_
   simp (maxSteps := 9^9) (disch := (try simp only [lens]); omega) only [argSl, sm, ↓amb, mark_eq, simprocAttr, dx]
   repeat refine ⟨by first | omega | (simp; done) | (unfold maxLen; omega) | (simp [maxLen]; omega) | assumption, ?_⟩
   refine hk _ ?_; clear hk k
   refine awp_ret ?_
   rw [Pl.rounds_over ho] at hR4
   rw [← hR4]
   refine reth1 rfl rfl ?_
   exact le_of [] (by rfl) (by rfl) ⟨⟨_, rfl, .p (.refl _)⟩, trivial⟩ ⟨⟨_, rfl, _, rfl, .one (.cons (.p (.refl _)) (.cons (.p (.refl _)) (.cons (.p (.refl _)) (.cons (.p (.refl _)) (.cons (.p (.refl _)) (.cons (.p (.refl _)) (.cons (.p (.refl _)) (.cons (.frz rfl (by rfl)) .nil))))))))⟩, trivial⟩
  ·try simp only [hbx] at hb
   refine awp_le (le_keep [0, 2, 3, 4, 7, 13, 14]) ?_
   simp only [kp, argSl, simprocAttr]
   have ho : ¬ c2.over = true := by simp [hb]
   refine awp_sr [] (by rw [hC]; rfl) fun k hk => ?_
   simp (maxSteps := 9^9) (disch := (try simp only [lens]); omega) only [argSl, sm, ↓amb, mark_eq, simprocAttr, fl108_0, sz81, en86, dx]
   repeat refine ⟨by first | omega | (simp; done) | (unfold maxLen; omega) | (simp [maxLen]; omega) | assumption, ?_⟩
   refine callK_p (c45 _ hR2.held.2 (by have := hR2.dqlen; omega)) rfl ?_
   simp (maxSteps := 9^9) (disch := (try simp only [lens]); omega) only [argSl, sm, ↓amb, mark_eq, simprocAttr, fl108_0, sz81, en86, dx]
   repeat refine ⟨by first | omega | (simp; done) | (unfold maxLen; omega) | (simp [maxLen]; omega) | assumption, ?_⟩
   refine hk _ ?_; clear hk k
   refine awp_cond rfl (fun hb => ?_) (fun hb => ?_)
   ·exact absurd (hR2.held.1.2 (by have := beq_iff_eq.mp hb; omega)) ho
   ·try simp only [hbx] at hb
    refine awp_skip ?_
    refine h6 _ ?_; clear h6 k6
    refine awp_le (le_keep [0, 2, 3, 4, 7, 13, 14]) ?_
    simp only [kp, argSl, simprocAttr]
    have hh : ¬ Pl.held c2.dq = 0 := by omega
    have hk1 := (hR2.most_pos (r * c.dq.length + p) ho).1
    obtain ⟨hs1, hs2⟩ := hR2.step (by omega) p (p + 1 + r)
    have hs3 := Pl.rounds_on (f := 20000) (k := r * c.dq.length + p) (W := c.dq.length) (r := r) (p := p) (ev := e2) hR3 (by omega) rfl ho hh hs1 (by omega)
    have hs4 := hR2.most_on (by omega) (W := c.dq.length) (r := r) (p := p) hR3 (by omega) rfl ho
    refine awp_sr [] (by rw [hC]; rfl) fun k hk => ?_
    simp (maxSteps := 9^9) (disch := (try simp only [lens]); omega) only [argSl, sm, ↓amb, mark_eq, simprocAttr, en76, dx]
    repeat refine ⟨by first | omega | (simp; done) | (unfold maxLen; omega) | (simp [maxLen]; omega) | assumption, ?_⟩
    refine callK_h (c_drain_go1_step c2 e2 p (p + 1 + r) (Pl.good_hl hR2.gd) hs1 (by omega)) [7, 0] [] (by first | rfl | (simp only [hm]; done)) (by first | rfl | (simp [namesOk, lkp]; done)) ?_ ?_ ?_ ?_ ?_ ?_ ?_
    (iterate 6 (focus (first | trivial | (intro n hn; cases hn; done) | (simp (maxSteps := 9^9) (disch := (try simp only [lens]); omega) only [argSl, sm, ↓amb, mark_eq, simprocAttr, en76, dx, hmx, List.filter_cons, Nat.reduceBNe, imp_self, implies_true]; done))))
    simp (maxSteps := 9^9) (disch := (try simp only [lens]); omega) only [argSl, sm, ↓amb, mark_eq, simprocAttr, en76, dx, hm, List.filter_cons, List.filter_nil, Nat.reduceBNe, Option.map_none]
    repeat refine ⟨by first | omega | (simp; done) | (unfold maxLen; omega) | (simp [maxLen]; omega) | assumption, ?_⟩
    refine hk _ ?_; clear hk k
    refine awp_le (le_keep [0, 2, 3, 5, 7, 13, 14]) ?_
    simp only [kp, argSl, simprocAttr]
    refine awp_sr [] (by rw [hC]; rfl) fun k hk => ?_
    simp (maxSteps := 9^9) (disch := (try simp only [lens]); omega) only [argSl, sm, ↓amb, mark_eq, simprocAttr, dx]
    repeat refine ⟨by first | omega | (simp; done) | (unfold maxLen; omega) | (simp [maxLen]; omega) | assumption, ?_⟩
    refine hk _ ?_; clear hk k
    refine awp_cond rfl (fun hb => ?_) (fun hb => ?_)
    ·exact absurd hb (by simp)
    ·try simp only [hbx] at hb
     refine awp_skip ?_
     refine h5 _ ?_; clear h5 k5
     refine awp_region [] (by rw [hC]; rfl) fun k hk => ?_
     simp (maxSteps := 9^9) (disch := (try simp only [lens]); omega) only [argSl, sm, ↓amb, mark_eq, simprocAttr, dx]
     repeat refine ⟨by first | omega | (simp; done) | (unfold maxLen; omega) | (simp [maxLen]; omega) | assumption, ?_⟩
     refine hk _ ?_; clear hk k
     refine ⟨(p + 1, (Pl.step c2 p (p + 1 + r)).1, e2 ++ [(Pl.step c2 p (p + 1 + r)).2.1]), (by dsimp only; rw [← Nat.add_assoc]; exact ⟨by omega, hs2, by rw [Pl.step_dqlen]; exact hR3, by rw [← hs3]; exact hR4, by omega, by rw [List.length_append, List.length_singleton]; omega⟩), le_of [(0, _)] (by rfl) (by rfl) ⟨⟨_, rfl, .ptr rfl⟩, ⟨_, rfl, .p (.of_eq (by first | rfl | (simp only [PV.lit.injEq, Value.int.injEq, true_and]; omega) | (simp; done) | (simp; omega)))⟩, ⟨_, rfl, .p (.of_eq (by first | rfl | rw [hRw]))⟩, ⟨_, rfl, .p (.of_eq (by first | rfl | (simp only [PV.lit.injEq, Value.int.injEq, true_and]; omega) | (simp; done) | (simp; omega)))⟩, trivial⟩ ⟨⟨_, rfl, _, rfl, .one (.cons (.p (.refl _)) (.cons (.p (.refl _)) (.cons (.p (.refl _)) (.cons (.p (.refl _)) (.cons (.p (.refl _)) (.cons (.p (.refl _)) (.cons (.p (.refl _)) (.cons (.own rfl) (.nil)))))))))⟩, ⟨_, rfl, _, rfl, .liftE rfl⟩, trivial⟩, (by dsimp only; omega)⟩
 ·try simp only [hbx] at hb
  refine awp_exit ((if_pos rfl).mpr ?_)
  refine h2 _ ?_; clear h4 k4; clear h2 k2
  have hp2 : r * c.dq.length + p = r * c.dq.length + c.dq.length := by omega
  refine awp_region [] (by rw [hC]; rfl) fun k hk => ?_
  simp (maxSteps := 9^9) (disch := (try simp only [lens]); omega) only [argSl, sm, ↓amb, mark_eq, simprocAttr, dx]
  repeat refine ⟨by first | omega | (simp; done) | (unfold maxLen; omega) | (simp [maxLen]; omega) | assumption, ?_⟩
  refine hk _ ?_; clear hk k
  refine ⟨(r + 1, c2, e2), (by dsimp only; rw [Nat.add_mul, Nat.one_mul]; rw [hp2] at hR4 hR5 hR6; exact ⟨hR2, hR3, hR4, hR5, hR6⟩), le_of [(0, _)] (by rfl) (by rfl) ⟨⟨_, rfl, .ptr rfl⟩, ⟨_, rfl, .p (.of_eq (by first | rfl | (simp only [PV.lit.injEq, Value.int.injEq, true_and]; omega) | (simp; done) | (simp; omega)))⟩, trivial⟩ ⟨⟨_, rfl, _, rfl, .one (.cons (.p (.refl _)) (.cons (.p (.refl _)) (.cons (.p (.refl _)) (.cons (.p (.refl _)) (.cons (.p (.refl _)) (.cons (.p (.refl _)) (.cons (.p (.refl _)) (.cons (.own rfl) (.nil)))))))))⟩, ⟨_, rfl, _, rfl, .liftE rfl⟩, trivial⟩, (by dsimp only; rw [Nat.add_mul, Nat.one_mul]; have := hR1.most_0 (k := r * c.dq.length) (r := r) (by rw [hRw]); have := hR1.dqlen; omega)⟩
end Go.Proofs.Ythelnccjcbnjfaa
end
