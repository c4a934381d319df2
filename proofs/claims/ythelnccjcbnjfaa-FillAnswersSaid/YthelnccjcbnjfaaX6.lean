/-
  Work that is parted: what each function answers.
-/
import Derived.Test.YthelnccjcbnjfaaX1
import Derived.Test.YthelnccjcbnjfaaP3
set_option linter.unusedSimpArgs false
set_option linter.unusedVariables false
set_option maxRecDepth 100000
namespace Go.Proofs.Ythelnccjcbnjfaa
open Go.Am Go.Proofs
theorem by114 : tBytes Try.prog 114 = some 32 := by kernel_rfl
theorem en105 : enters Try.prog 105 = true := by kernel_rfl
theorem en112 : enters Try.prog 112 = true := by kernel_rfl
theorem en113 : enters Try.prog 113 = true := by kernel_rfl
theorem en114 : enters Try.prog 114 = true := by kernel_rfl
theorem en115 : enters Try.prog 115 = true := by kernel_rfl
theorem en116 : enters Try.prog 116 = true := by kernel_rfl
theorem fl114_0 : tFld Try.prog 114 0 = some (0, 1, false) := by kernel_rfl
theorem fl114_1 : tFld Try.prog 114 1 = some (1, 1, false) := by kernel_rfl
theorem fl114_2 : tFld Try.prog 114 2 = some (2, 1, false) := by kernel_rfl
theorem fl114_3 : tFld Try.prog 114 3 = some (3, 1, false) := by kernel_rfl
theorem fl78_0 : tFld Try.prog 78 0 = some (0, 1, false) := by kernel_rfl
theorem fl78_1 : tFld Try.prog 78 1 = some (1, 1, false) := by kernel_rfl
theorem fl78_2 : tFld Try.prog 78 2 = some (2, 1, false) := by kernel_rfl
theorem pl114_0 : tPlace Try.prog 114 0 = some (0, 1) := by kernel_rfl
theorem sz114 : tSz Try.prog 114 = some (true, 4) := by kernel_rfl
theorem sz3 : tSz Try.prog 3 = some (false, 1) := by kernel_rfl
theorem sz4 : tSz Try.prog 4 = some (false, 1) := by kernel_rfl
theorem sz75 : tSz Try.prog 75 = some (false, 1) := by kernel_rfl
theorem sz76 : tSz Try.prog 76 = some (false, 1) := by kernel_rfl
set_option maxHeartbeats 4000000 in
theorem c37 (c d : Bool) (w : Pl.Work) : PCall Try.prog 105 [workV c d w] (bV (decide (Pl.right w))) := by
 refine pcall_of_awp Try.func105 rfl (by simp [Try.ntmps105]) fun C hC => ?_
 refine awp_le (le_keep [0]) ?_
 simp only [kp, argSl, simprocAttr]
 refine awp_sr [] (by rw [hC]; rfl) fun k hk => ?_
 simp (maxSteps := 9^9) (disch := (try simp only [lens]); omega) only [argSl, sm, ↓amb, mark_eq, simprocAttr, dx]
 repeat refine ⟨by first | omega | (simp; done) | (unfold maxLen; omega) | (simp [maxLen]; omega) | assumption, ?_⟩
 refine hk _ ?_; clear hk k
 refine awp_seq fun k1 h1 => ?_
 refine awp_test [] 23 (decide (¬ (Pl.cnt w.done.length w.grain ∧ 1 ≤ w.ts.length ∧ w.ts.length ≤ 2000))) [1, 2] (by rw [hC]; rfl) (fun gd hgd k hk => ?_) ?_
 ·have g7 : gd 7 = some 12 := by rw [hgd]; rfl
  have g13 : gd 13 = some 18 := by rw [hgd]; rfl
  clear hgd
  simp (maxSteps := 9^9) (disch := (try simp only [lens]); omega) only [argSl, sm, ↓amb, mark_eq, simprocAttr, fl78_2, sz76, el76, fl78_1, sz3, en96, fl78_0, sz75, el75, gcase_undef, g7, g13, dx]
  repeat' first | refine hk _ _ rfl rfl rfl rfl ?_ | (refine gsplit (fun hg => ?_) (fun hg => ?_) <;> (try simp only [hbx] at hg) <;> simp (maxSteps := 9^9) (disch := (try simp only [lens]); omega) only [argSl, sm, ↓amb, mark_eq, simprocAttr, fl78_2, sz76, el76, fl78_1, sz3, en96, fl78_0, sz75, el75, gcase_undef, g7, g13, dx]) | apply And.intro | (refine callK_p (c55 _ _) rfl ?_; (try simp (maxSteps := 9^9) (disch := (try simp only [lens]); omega) only [argSl, sm, ↓amb, mark_eq, simprocAttr, fl78_2, sz76, el76, fl78_1, sz3, en96, fl78_0, sz75, el75, gcase_undef, g7, g13, dx])) | fail
  all_goals first | rfl | omega | exact (decide_eq_true (by (try simp only [Pl.right, Pl.cnt, Pl.okT] at *); omega)).symm | exact (decide_eq_false (by (try simp only [Pl.right, Pl.cnt, Pl.okT] at *); omega)).symm | exact decide_eq_decide.mpr (by (try simp only [Pl.right, Pl.cnt, Pl.okT] at *); omega) | (refine Bool.eq_iff_iff.mpr ?_; (try simp only [Pl.right, Pl.cnt, Pl.okT] at *); simp only [beq_iff_eq, bne_iff_ne, ne_eq, decide_eq_true_eq]; omega) | (refine Bool.eq_iff_iff.mpr ?_; simp only [Bool.not_eq_true', Bool.not_eq_false', decide_eq_false_iff_not, decide_eq_true_eq, beq_iff_eq, bne_iff_ne, ne_eq]; (try simp only [Pl.right, Pl.cnt, Pl.okT] at *); omega) | assumption | (simp; done) | (simp [maxLen]; omega) | skip
 simp only [kp, argSl, simprocAttr, List.length_cons, List.length_nil]
 refine awp_cond rfl (fun hb => ?_) (fun hb => ?_)
 ·try simp only [hbx] at hb
  refine awp_le (le_keep []) ?_
  simp only [kp, argSl, simprocAttr]
  refine awp_sr [] (by rw [hC]; rfl) fun k hk => ?_
  simp (maxSteps := 9^9) (disch := (try simp only [lens]); omega) only [argSl, sm, ↓amb, mark_eq, simprocAttr, dx]
  repeat refine ⟨by first | omega | (simp; done) | (unfold maxLen; omega) | (simp [maxLen]; omega) | assumption, ?_⟩
  refine hk _ ?_; clear hk k
  refine awp_ret ?_
  refine ret1 rfl rfl ?_
  exact .p (LeP.of_eq (by rw [decide_eq_false (by intro h; simp only [Pl.right, Pl.cnt] at h hb; omega)]))
 ·try simp only [hbx] at hb
  refine awp_skip ?_
  refine h1 _ ?_; clear h1 k1
  refine awp_seq fun k2 h2 => ?_
  refine awp_le (le_keep [1, 2]) ?_
  simp only [kp, argSl, simprocAttr]
  have hb0 := hb
  refine awp_sr [] (by rw [hC]; rfl) fun k hk => ?_
  simp (maxSteps := 9^9) (disch := (try simp only [lens]); omega) only [argSl, sm, ↓amb, mark_eq, simprocAttr, fl78_0, sz75, el75, dx]
  repeat refine ⟨by first | omega | (simp; done) | (unfold maxLen; omega) | (simp [maxLen]; omega) | assumption, ?_⟩
  refine hk _ ?_; clear hk k
  refine awp_block ?_
  refine awp_loop (σ := Nat) (fun (i : Nat) => i ≤ w.ts.length ∧ ∀ j, j < i → Pl.okT w.done.length j (w.ts.getD j default)) (fun (i : Nat) => ⟨[(1, (.ptr 0 3 0 0)), (25, (.p (.seq c (w.ts.map taskC)))), (26, (.p (iV w.ts.length))), (27, (.p (iV i)))], [(0, (.row 3 [[.p (.seq c (w.ts.map taskC)), .p (iV w.grain), .p (.seq d (w.done.map fun b => [bV b]))]]))], 1⟩) (fun i => w.ts.length - i) 0 ?_ ?_ fun x hx => ?_
  ·exact ⟨Nat.zero_le _, fun j hj => by omega⟩
  ·exact le_of [(0, _)] (by rfl) (by rfl) ⟨⟨_, rfl, .ptr rfl⟩, ⟨_, rfl, .p (.of_eq (by first | rfl | (simp only [PV.lit.injEq, Value.int.injEq, true_and]; omega) | (simp; done) | (simp; omega)))⟩, ⟨_, rfl, .p (.of_eq (by first | rfl | (simp only [PV.lit.injEq, Value.int.injEq, true_and]; omega) | (simp; done) | (simp; omega)))⟩, ⟨_, rfl, .p (.of_eq (by first | rfl | (simp only [PV.lit.injEq, Value.int.injEq, true_and]; omega) | (simp; done) | (simp; omega)))⟩, trivial⟩ ⟨⟨_, rfl, _, rfl, .one (.cons (.p (.refl _)) (.cons (.p (.refl _)) (.cons (.p (.refl _)) .nil)))⟩, trivial⟩
  obtain ⟨hx1, hx2⟩ := hx
  refine awp_le (le_keep [0, 1, 2, 25, 26, 27]) ?_
  simp only [kp, argSl, simprocAttr]
  refine awp_sr [] (by rw [hC]; rfl) fun k hk => ?_
  simp (maxSteps := 9^9) (disch := (try simp only [lens]); omega) only [argSl, sm, ↓amb, mark_eq, simprocAttr, dx]
  repeat refine ⟨by first | omega | (simp; done) | (unfold maxLen; omega) | (simp [maxLen]; omega) | assumption, ?_⟩
  refine hk _ ?_; clear hk k
  refine awp_seq fun k4 h4 => ?_
  refine awp_cond rfl (fun hb => ?_) (fun hb => ?_)
  ·try simp only [hbx] at hb
   refine awp_skip ?_
   refine h4 _ ?_; clear h4 k4
   refine awp_seq fun k5 h5 => ?_
   refine awp_block ?_
   refine awp_le (le_keep [0, 1, 2, 25, 26, 27]) ?_
   simp only [kp, argSl, simprocAttr]
   refine awp_sr [] (by rw [hC]; rfl) fun k hk => ?_
   simp (maxSteps := 9^9) (disch := (try simp only [lens]); omega) only [argSl, sm, ↓amb, mark_eq, simprocAttr, el75, sz114, vr114, dx]
   repeat refine ⟨by first | omega | (simp; done) | (unfold maxLen; omega) | (simp [maxLen]; omega) | assumption, ?_⟩
   refine hk _ ?_; clear hk k
   refine awp_test [] 70 (decide (¬ Pl.okT w.done.length x (w.ts.getD x default))) [0, 1, 2, 25, 26, 27] (by rw [hC]; rfl) (fun gd hgd k hk => ?_) ?_
   ·have g3 : gd 3 = some 35 := by rw [hgd]; rfl
    have g10 : gd 10 = some 42 := by rw [hgd]; rfl
    have g18 : gd 18 = some 50 := by rw [hgd]; rfl
    have g23 : gd 23 = some 55 := by rw [hgd]; rfl
    have g29 : gd 29 = some 61 := by rw [hgd]; rfl
    have g34 : gd 34 = some 66 := by rw [hgd]; rfl
    clear hgd
    simp (maxSteps := 9^9) (disch := (try simp only [lens]); omega) only [argSl, sm, ↓amb, mark_eq, simprocAttr, fl114_0, sz3, fl114_1, fl78_2, sz76, el76, fl114_2, fl114_3, gcase_undef, g3, g10, g18, g23, g29, g34, dx]
    repeat' first | refine hk _ _ rfl rfl rfl rfl ?_ | (refine gsplit (fun hg => ?_) (fun hg => ?_) <;> (try simp only [hbx] at hg) <;> simp (maxSteps := 9^9) (disch := (try simp only [lens]); omega) only [argSl, sm, ↓amb, mark_eq, simprocAttr, fl114_0, sz3, fl114_1, fl78_2, sz76, el76, fl114_2, fl114_3, gcase_undef, g3, g10, g18, g23, g29, g34, dx]) | apply And.intro | fail
    all_goals first | rfl | omega | exact (decide_eq_true (by (try simp only [Pl.right, Pl.cnt, Pl.okT] at *); omega)).symm | exact (decide_eq_false (by (try simp only [Pl.right, Pl.cnt, Pl.okT] at *); omega)).symm | exact decide_eq_decide.mpr (by (try simp only [Pl.right, Pl.cnt, Pl.okT] at *); omega) | (refine Bool.eq_iff_iff.mpr ?_; (try simp only [Pl.right, Pl.cnt, Pl.okT] at *); simp only [beq_iff_eq, bne_iff_ne, ne_eq, decide_eq_true_eq]; omega) | (refine Bool.eq_iff_iff.mpr ?_; simp only [Bool.not_eq_true', Bool.not_eq_false', decide_eq_false_iff_not, decide_eq_true_eq, beq_iff_eq, bne_iff_ne, ne_eq]; (try simp only [Pl.right, Pl.cnt, Pl.okT] at *); omega) | assumption | (simp; done) | (simp [maxLen]; omega) | skip
   simp only [kp, argSl, simprocAttr, List.length_cons, List.length_nil]
   refine awp_cond rfl (fun hb => ?_) (fun hb => ?_)
   ·try simp only [hbx] at hb
    refine awp_le (le_keep []) ?_
    simp only [kp, argSl, simprocAttr]
    refine awp_sr [] (by rw [hC]; rfl) fun k hk => ?_
    simp (maxSteps := 9^9) (disch := (try simp only [lens]); omega) only [argSl, sm, ↓amb, mark_eq, simprocAttr, dx]
    repeat refine ⟨by first | omega | (simp; done) | (unfold maxLen; omega) | (simp [maxLen]; omega) | assumption, ?_⟩
    refine hk _ ?_; clear hk k
    refine awp_ret ?_
    refine ret1 rfl rfl ?_
    exact .p (LeP.of_eq (by rw [decide_eq_false (fun h => by have h2 := h.2.2.2 x (by omega); have h3 := h.1; simp only [Pl.okT] at h2 hb; omega)]))
   ·try simp only [hbx] at hb
    refine awp_skip ?_
    refine h5 _ ?_; clear h5 k5
    refine awp_region [] (by rw [hC]; rfl) fun k hk => ?_
    simp (maxSteps := 9^9) (disch := (try simp only [lens]); omega) only [argSl, sm, ↓amb, mark_eq, simprocAttr, dx]
    repeat refine ⟨by first | omega | (simp; done) | (unfold maxLen; omega) | (simp [maxLen]; omega) | assumption, ?_⟩
    refine hk _ ?_; clear hk k
    refine ⟨x + 1, ⟨by omega, fun j hj => by by_cases e : j = x; subst e; exact hb; exact hx2 j (by omega)⟩, le_of [(0, _)] (by rfl) (by rfl) ⟨⟨_, rfl, .ptr rfl⟩, ⟨_, rfl, .p (.of_eq (by first | rfl | (simp only [PV.lit.injEq, Value.int.injEq, true_and]; omega) | (simp; done) | (simp; omega)))⟩, ⟨_, rfl, .p (.of_eq (by first | rfl | (simp only [PV.lit.injEq, Value.int.injEq, true_and]; omega) | (simp; done) | (simp; omega)))⟩, ⟨_, rfl, .p (.of_eq (by first | rfl | (simp only [PV.lit.injEq, Value.int.injEq, true_and]; omega) | (simp; done) | (simp; omega)))⟩, trivial⟩ ⟨⟨_, rfl, _, rfl, .one (.cons (.p (.refl _)) (.cons (.p (.refl _)) (.cons (.p (.refl _)) .nil)))⟩, trivial⟩, by omega⟩
  ·try simp only [hbx] at hb
   refine awp_exit ((if_pos rfl).mpr ?_)
   refine h2 _ ?_; clear h4 k4; clear h2 k2
   refine awp_le (le_keep []) ?_
   simp only [kp, argSl, simprocAttr]
   refine awp_sr [] (by rw [hC]; rfl) fun k hk => ?_
   simp (maxSteps := 9^9) (disch := (try simp only [lens]); omega) only [argSl, sm, ↓amb, mark_eq, simprocAttr, dx]
   repeat refine ⟨by first | omega | (simp; done) | (unfold maxLen; omega) | (simp [maxLen]; omega) | assumption, ?_⟩
   refine hk _ ?_; clear hk k
   refine awp_ret ?_
   refine ret1 rfl rfl ?_
   exact .p (LeP.of_eq (by rw [decide_eq_true (Pl.right_of (by omega) hb0 hx2)]))
set_option maxHeartbeats 4000000 in
theorem c50 (t : Pl.Task) (h0 : -4000000000 ≤ t.low) (h1 : t.low ≤ 4000000000) (h2 : -4000000000 ≤ t.high) (h3 : t.high ≤ 4000000000) : PCall Try.prog 113 [.agg (taskC t)] (iV (t.high - t.low)) := by
 refine pcall_of_awp Try.func113 rfl (by simp [Try.ntmps113]) fun C hC => ?_
 refine awp_sr [] (by rw [hC]; rfl) fun k hk => ?_
 simp (maxSteps := 9^9) (disch := (try simp only [lens]); omega) only [argSl, sm, ↓amb, mark_eq, simprocAttr, dx]
 repeat refine ⟨by first | omega | (simp; done) | (unfold maxLen; omega) | (simp [maxLen]; omega) | assumption, ?_⟩
 refine hk _ ?_; clear hk k
 refine awp_sr [] (by rw [hC]; rfl) fun k hk => ?_
 simp (maxSteps := 9^9) (disch := (try simp only [lens]); omega) only [argSl, sm, ↓amb, mark_eq, simprocAttr, fl114_1, sz3, fl114_0, dx]
 repeat refine ⟨by first | omega | (simp; done) | (unfold maxLen; omega) | (simp [maxLen]; omega) | assumption, ?_⟩
 refine hk _ ?_; clear hk k
 refine awp_ret ?_
 refine ret1 rfl rfl ?_
 exact .p (LeP.refl _)
set_option maxHeartbeats 4000000 in
theorem c49 (c d : Bool) (w : Pl.Work) (i : Int) : PCall Try.prog 112 [workV c d w, iV i] (iV (Pl.there w i)) := by
 refine pcall_of_awp Try.func112 rfl (by simp [Try.ntmps112]) fun C hC => ?_
 refine awp_sr [] (by rw [hC]; rfl) fun k hk => ?_
 simp (maxSteps := 9^9) (disch := (try simp only [lens]); omega) only [argSl, sm, ↓amb, mark_eq, simprocAttr, dx]
 repeat refine ⟨by first | omega | (simp; done) | (unfold maxLen; omega) | (simp [maxLen]; omega) | assumption, ?_⟩
 refine hk _ ?_; clear hk k
 refine awp_seq fun k1 h1 => ?_
 refine awp_block ?_
 refine awp_sr [] (by rw [hC]; rfl) fun k hk => ?_
 simp (maxSteps := 9^9) (disch := (try simp only [lens]); omega) only [argSl, sm, ↓amb, mark_eq, simprocAttr, sz78, en105, dx]
 repeat refine ⟨by first | omega | (simp; done) | (unfold maxLen; omega) | (simp [maxLen]; omega) | assumption, ?_⟩
 refine callK_p (c37 _ _ _) rfl ?_
 simp (maxSteps := 9^9) (disch := (try simp only [lens]); omega) only [argSl, sm, ↓amb, mark_eq, simprocAttr, sz78, en105, dx]
 repeat refine ⟨by first | omega | (simp; done) | (unfold maxLen; omega) | (simp [maxLen]; omega) | assumption, ?_⟩
 refine hk _ ?_; clear hk k
 refine awp_cond rfl (fun hb => ?_) (fun hb => ?_)
 ·try simp only [hbx] at hb
  refine awp_sr [] (by rw [hC]; rfl) fun k hk => ?_
  simp (maxSteps := 9^9) (disch := (try simp only [lens]); omega) only [argSl, sm, ↓amb, mark_eq, simprocAttr, dx]
  repeat refine ⟨by first | omega | (simp; done) | (unfold maxLen; omega) | (simp [maxLen]; omega) | assumption, ?_⟩
  refine hk _ ?_; clear hk k
  refine awp_ret ?_
  refine ret1 rfl rfl ?_
  exact .p (LeP.of_eq (by rw [Pl.there, if_pos hb]))
 ·try simp only [hbx] at hb
  have hR := hb
  refine awp_test [] 9 (decide (i < 0 ∨ (w.ts.length : Int) ≤ i)) [4] (by rw [hC]; rfl) (fun gd hgd k hk => ?_) ?_
  ·have g2 : gd 2 = some 12 := by rw [hgd]; rfl
   clear hgd
   simp (maxSteps := 9^9) (disch := (try simp only [lens]); omega) only [argSl, sm, ↓amb, mark_eq, simprocAttr, fl78_0, sz75, el75, gcase_undef, g2, dx]
   repeat' first | refine hk _ _ rfl rfl rfl rfl ?_ | (refine gsplit (fun hg => ?_) (fun hg => ?_) <;> (try simp only [hbx] at hg) <;> simp (maxSteps := 9^9) (disch := (try simp only [lens]); omega) only [argSl, sm, ↓amb, mark_eq, simprocAttr, fl78_0, sz75, el75, gcase_undef, g2, dx]) | apply And.intro | fail
   all_goals first | rfl | omega | exact (decide_eq_true (by omega)).symm | exact (decide_eq_false (by omega)).symm | exact decide_eq_decide.mpr (by omega) | (refine Bool.eq_iff_iff.mpr ?_; simp only [beq_iff_eq, bne_iff_ne, ne_eq, decide_eq_true_eq]; omega) | (refine Bool.eq_iff_iff.mpr ?_; simp only [Bool.not_eq_true', Bool.not_eq_false', decide_eq_false_iff_not, decide_eq_true_eq, beq_iff_eq, bne_iff_ne, ne_eq]; omega) | assumption | (simp; done) | (simp [maxLen]; omega) | skip
  simp only [kp, argSl, simprocAttr, List.length_cons, List.length_nil]
  refine awp_cond rfl (fun hb => ?_) (fun hb => ?_)
  ·try simp only [hbx] at hb
   refine awp_sr [] (by rw [hC]; rfl) fun k hk => ?_
   simp (maxSteps := 9^9) (disch := (try simp only [lens]); omega) only [argSl, sm, ↓amb, mark_eq, simprocAttr, dx]
   repeat refine ⟨by first | omega | (simp; done) | (unfold maxLen; omega) | (simp [maxLen]; omega) | assumption, ?_⟩
   refine hk _ ?_; clear hk k
   refine awp_ret ?_
   refine ret1 rfl rfl ?_
   exact .p (LeP.of_eq (by rw [Pl.there, if_neg (by simpa using hR), if_pos hb]))
  ·try simp only [hbx] at hb
   refine awp_skip ?_
   refine h1 _ ?_; clear h1 k1
   refine awp_sr [] (by rw [hC]; rfl) fun k hk => ?_
   simp (maxSteps := 9^9) (disch := (try simp only [lens]); omega) only [argSl, sm, ↓amb, mark_eq, simprocAttr, dx]
   repeat refine ⟨by first | omega | (simp; done) | (unfold maxLen; omega) | (simp [maxLen]; omega) | assumption, ?_⟩
   refine hk _ ?_; clear hk k
   refine awp_ret ?_
   refine ret1 rfl rfl ?_
   exact .p (LeP.of_eq (by rw [Pl.there, if_neg (by simpa using hR), if_neg hb]))
set_option maxHeartbeats 4000000 in
theorem c51 (c : Bool) (l : List Pl.Task) (hl : l.length ≤ 1000000) : OCall Try.prog 114 [.seq c (l.map taskC)] 4 (l.map taskC) := by
 refine ocall_of_awp Try.func114 rfl (by simp [Try.ntmps114]) fun C hC => ?_
 refine awp_sr [7] (by rw [hC]; rfl) fun k hk => ?_
 simp (maxSteps := 9^9) (disch := (try simp only [lens]); omega) only [argSl, sm, ↓amb, mark_eq, simprocAttr, dx]
 repeat refine ⟨by first | omega | (simp; done) | (unfold maxLen; omega) | (simp [maxLen]; omega) | assumption, ?_⟩
 refine hk _ ?_; clear hk k
 refine awp_seq fun k1 h1 => ?_
 refine awp_nil 114 (of_decide_eq_true (by rw [hC]; rfl)) (of_decide_eq_true (by rw [hC]; rfl)) el75 rfl fun bq1 hq1 => ?_
 refine awp_cond rfl (fun hb => ?_) (fun hb => ?_)
 ·try simp only [hbx] at hb
  have he := hq1 hb
  refine awp_sr [7] (by rw [hC]; rfl) fun k hk => ?_
  simp (maxSteps := 9^9) (disch := (try simp only [lens]); omega) only [argSl, sm, ↓amb, mark_eq, simprocAttr, dx]
  repeat refine ⟨by first | omega | (simp; done) | (unfold maxLen; omega) | (simp [maxLen]; omega) | assumption, ?_⟩
  refine hk _ ?_; clear hk k
  refine awp_ret ?_
  exact reton (by rw [he]) rfl rfl
 ·try simp only [hbx] at hb
  refine awp_skip ?_
  refine h1 _ ?_; clear h1 k1
  refine awp_sr [7] (by rw [hC]; rfl) fun k hk => ?_
  simp (maxSteps := 9^9) (disch := (try simp only [lens]); omega) only [argSl, sm, ↓amb, mark_eq, simprocAttr, el75, vr114, by114, dx]
  repeat refine ⟨by first | omega | (simp; done) | (unfold maxLen; omega) | (simp [maxLen]; omega) | assumption, ?_⟩
  refine hk _ ?_; clear hk k
  refine awp_ret ?_
  refine reto1 rfl rfl ?_
  rfl
set_option maxHeartbeats 4000000 in
theorem c53 (c : Bool) (l : List Bool) (hl : l.length ≤ 1000000) : OCall Try.prog 115 [.seq c (l.map (fun b => [bV b]))] 1 (l.map (fun b => [bV b])) := by
 refine ocall_of_awp Try.func115 rfl (by simp [Try.ntmps115]) fun C hC => ?_
 refine awp_sr [7] (by rw [hC]; rfl) fun k hk => ?_
 simp (maxSteps := 9^9) (disch := (try simp only [lens]); omega) only [argSl, sm, ↓amb, mark_eq, simprocAttr, dx]
 repeat refine ⟨by first | omega | (simp; done) | (unfold maxLen; omega) | (simp [maxLen]; omega) | assumption, ?_⟩
 refine hk _ ?_; clear hk k
 refine awp_seq fun k1 h1 => ?_
 refine awp_nil 4 (of_decide_eq_true (by rw [hC]; rfl)) (of_decide_eq_true (by rw [hC]; rfl)) el76 rfl fun bq1 hq1 => ?_
 refine awp_cond rfl (fun hb => ?_) (fun hb => ?_)
 ·try simp only [hbx] at hb
  have he := hq1 hb
  refine awp_sr [7] (by rw [hC]; rfl) fun k hk => ?_
  simp (maxSteps := 9^9) (disch := (try simp only [lens]); omega) only [argSl, sm, ↓amb, mark_eq, simprocAttr, dx]
  repeat refine ⟨by first | omega | (simp; done) | (unfold maxLen; omega) | (simp [maxLen]; omega) | assumption, ?_⟩
  refine hk _ ?_; clear hk k
  refine awp_ret ?_
  exact reton (by rw [he]) rfl rfl
 ·try simp only [hbx] at hb
  refine awp_skip ?_
  refine h1 _ ?_; clear h1 k1
  refine awp_sr [7] (by rw [hC]; rfl) fun k hk => ?_
  simp (maxSteps := 9^9) (disch := (try simp only [lens]); omega) only [argSl, sm, ↓amb, mark_eq, simprocAttr, el76, vr4, by4, dx]
  repeat refine ⟨by first | omega | (simp; done) | (unfold maxLen; omega) | (simp [maxLen]; omega) | assumption, ?_⟩
  refine hk _ ?_; clear hk k
  refine awp_ret ?_
  refine reto1 rfl rfl ?_
  rfl
set_option maxHeartbeats 4000000 in
theorem c39 (c d : Bool) (w : Pl.Work) (i : Int) : PCall Try.prog 108 [workV c d w, iV i] (bV (decide (Pl.great w i))) := by
 refine pcall_of_awp Try.func108 rfl (by simp [Try.ntmps108]) fun C hC => ?_
 refine awp_sr [] (by rw [hC]; rfl) fun k hk => ?_
 simp (maxSteps := 9^9) (disch := (try simp only [lens]); omega) only [argSl, sm, ↓amb, mark_eq, simprocAttr, dx]
 repeat refine ⟨by first | omega | (simp; done) | (unfold maxLen; omega) | (simp [maxLen]; omega) | assumption, ?_⟩
 refine hk _ ?_; clear hk k
 refine awp_testD [] ⟨[0, 0, 3, 7, 15, 31, 63, 31, 255, 511, 1023, 31, 2079, 8191, 16383, 32767], [0, 6, 9, 12], [], [(2, 6), (2, 9), (2, 12)], some []⟩ 4 (decide (Pl.great w i)) [] (by rw [hC]; rfl) (by kernel_rfl) (by kernel_rfl) (fun gd hgd k hk => ?_) ?_
 ·have g4 : gd 4 = some 9 := by rw [hgd]; rfl
  clear hgd
  simp (maxSteps := 9^9) (disch := (try simp only [lens]); omega) only [argSl, sm, ↓amb, mark_eq, simprocAttr, sz78, en112, fl78_0, sz75, el75, sz114, en113, fl78_1, sz3, gcase_undef, g4, dx]
  repeat' first | refine hk _ _ rfl rfl rfl rfl ?_ | (refine gsplit (fun hg => ?_) (fun hg => ?_) <;> (try simp only [hbx] at hg) <;> (try (have q := Pl.ok_of hg; obtain ⟨_, hi0, hi1, hok, _, _, _, _⟩ := q; simp only [Pl.okT, Pl.task] at hok)) <;> simp (maxSteps := 9^9) (disch := (try simp only [lens]); omega) only [argSl, sm, ↓amb, mark_eq, simprocAttr, sz78, en112, fl78_0, sz75, el75, sz114, en113, fl78_1, sz3, gcase_undef, g4, dx]) | apply And.intro | (refine callK_p (c49 _ _ _ _) rfl ?_; (try simp (maxSteps := 9^9) (disch := (try simp only [lens]); omega) only [argSl, sm, ↓amb, mark_eq, simprocAttr, sz78, en112, fl78_0, sz75, el75, sz114, en113, fl78_1, sz3, gcase_undef, g4, dx])) | (refine callK_p (c50 (Pl.task w i) (by have := (Pl.ok_of hg).2.2.2.1; simp only [Pl.okT] at this; omega) (by have := (Pl.ok_of hg).2.2.2; simp only [Pl.okT] at this; omega) (by have := (Pl.ok_of hg).2.2.2; simp only [Pl.okT] at this; omega) (by have := (Pl.ok_of hg).2.2.2; simp only [Pl.okT] at this; omega)) rfl ?_; (try simp (maxSteps := 9^9) (disch := (try simp only [lens]); omega) only [argSl, sm, ↓amb, mark_eq, simprocAttr, sz78, en112, fl78_0, sz75, el75, sz114, en113, fl78_1, sz3, gcase_undef, g4, dx])) | fail
  all_goals first | rfl | omega | exact (decide_eq_true (by (try simp only [Pl.great] at *); omega)).symm | exact (decide_eq_false (by (try simp only [Pl.great] at *); omega)).symm | exact decide_eq_decide.mpr (by (try simp only [Pl.great] at *); omega) | (refine Bool.eq_iff_iff.mpr ?_; (try simp only [Pl.great] at *); simp only [beq_iff_eq, bne_iff_ne, ne_eq, decide_eq_true_eq]; omega) | (refine Bool.eq_iff_iff.mpr ?_; simp only [Bool.not_eq_true', Bool.not_eq_false', decide_eq_false_iff_not, decide_eq_true_eq, beq_iff_eq, bne_iff_ne, ne_eq]; (try simp only [Pl.great] at *); omega) | assumption | (simp; done) | (simp [maxLen]; omega) | skip
 simp only [kp, argSl, simprocAttr, List.length_cons, List.length_nil]
 refine awp_ret ?_
 refine ret1 rfl rfl ?_
 exact .p (LeP.refl _)
set_option maxHeartbeats 4000000 in
theorem c28 (c d : Bool) (w : Pl.Work) (i : Int) : PCall Try.prog 109 [workV c d w, iV i] (.tup [workV false false (Pl.partW w i), iV (Pl.partA w i), iV (Pl.partB w i), iV (Pl.partE w i)]) := by
 refine pcall_of_awp Try.func109 rfl (by simp [Try.ntmps109]) fun C hC => ?_
 refine awp_sr [64] (by rw [hC]; rfl) fun k hk => ?_
 simp (maxSteps := 9^9) (disch := (try simp only [lens]); omega) only [argSl, sm, ↓amb, mark_eq, simprocAttr, vr78, dx]
 repeat refine ⟨by first | omega | (simp; done) | (unfold maxLen; omega) | (simp [maxLen]; omega) | assumption, ?_⟩
 refine hk _ ?_; clear hk k
 refine awp_seq fun k1 h1 => ?_
 refine awp_sr [64] (by rw [hC]; rfl) fun k hk => ?_
 simp (maxSteps := 9^9) (disch := (try simp only [lens]); omega) only [argSl, sm, ↓amb, mark_eq, simprocAttr, sz78, en112, dx]
 repeat refine ⟨by first | omega | (simp; done) | (unfold maxLen; omega) | (simp [maxLen]; omega) | assumption, ?_⟩
 refine callK_p (c49 _ _ _ _) rfl ?_
 simp (maxSteps := 9^9) (disch := (try simp only [lens]); omega) only [argSl, sm, ↓amb, mark_eq, simprocAttr, sz78, en112, dx]
 repeat refine ⟨by first | omega | (simp; done) | (unfold maxLen; omega) | (simp [maxLen]; omega) | assumption, ?_⟩
 refine hk _ ?_; clear hk k
 refine awp_sr [64] (by rw [hC]; rfl) fun k hk => ?_
 simp (maxSteps := 9^9) (disch := (try simp only [lens]); omega) only [argSl, sm, ↓amb, mark_eq, simprocAttr, dx]
 repeat refine ⟨by first | omega | (simp; done) | (unfold maxLen; omega) | (simp [maxLen]; omega) | assumption, ?_⟩
 refine hk _ ?_; clear hk k
 refine awp_cond rfl (fun hb => ?_) (fun hb => ?_)
 ·try simp only [hbx] at hb
  refine awp_sr [64] (by rw [hC]; rfl) fun k hk => ?_
  simp (maxSteps := 9^9) (disch := (try simp only [lens]); omega) only [argSl, sm, ↓amb, mark_eq, simprocAttr, sz78, dx]
  repeat refine ⟨by first | omega | (simp; done) | (unfold maxLen; omega) | (simp [maxLen]; omega) | assumption, ?_⟩
  refine hk _ ?_; clear hk k
  refine awp_ret ?_
  obtain ⟨e1, e2, e3, e4⟩ := Pl.part_err (w := w) (i := i) (Pl.partE1 hb) (hb)
  rw [e1, e2, e3, e4]
  refine retl rfl rfl ⟨retc rfl sz78 ?_, rett rfl ?_, rett rfl ?_, rett rfl ?_, trivial⟩
  simp (maxSteps := 9^9) (disch := (try simp only [lens]); omega) only [argSl, sm, ↓amb, mark_eq, simprocAttr, sz78, dx]
  ·exact .p (LeP.agg (.cons (LeP.seq _ _) (.cons (LeP.refl _) (.cons (LeP.seq _ _) .nil))))
  ·exact .p (LeP.refl _)
  ·exact .p (LeP.refl _)
  ·exact .p (LeP.refl _)
 ·try simp only [hbx] at hb
  refine awp_skip ?_
  refine h1 _ ?_; clear h1 k1
  have hth := hb
  obtain ⟨hR, hi0, hi1, hok, hd1, hg1, hg2, ht1⟩ := Pl.ok_of hth
  simp only [Pl.okT, Pl.task] at hok
  have hin : i.toNat < w.ts.length := by omega
  refine awp_sr [64] (by rw [hC]; rfl) fun k hk => ?_
  simp (maxSteps := 9^9) (disch := (try simp only [lens]); omega) only [argSl, sm, ↓amb, mark_eq, simprocAttr, fl78_0, sz75, el75, sz114, vr114, dx]
  repeat refine ⟨by first | omega | (simp; done) | (unfold maxLen; omega) | (simp [maxLen]; omega) | assumption, ?_⟩
  refine hk _ ?_; clear hk k
  refine awp_sr [64] (by rw [hC]; rfl) fun k hk => ?_
  simp (maxSteps := 9^9) (disch := (try simp only [lens]); omega) only [argSl, sm, ↓amb, mark_eq, simprocAttr, fl78_0, sz75, el75, dx]
  repeat refine ⟨by first | omega | (simp; done) | (unfold maxLen; omega) | (simp [maxLen]; omega) | assumption, ?_⟩
  refine hk _ ?_; clear hk k
  refine awp_seq fun k2 h2 => ?_
  refine awp_block ?_
  refine awp_testD [64] ⟨[0, 1, 0, 4, 15, 31, 63, 127, 255, 511, 1023], [0, 3, 7], [], [(1, 7)], some []⟩ 27 (decide ((w.ts.getD i.toNat default).high - (w.ts.getD i.toNat default).low ≤ w.grain ∨ 0 < (w.ts.getD i.toNat default).wait)) [1, 2, 4, 5, 6, 7, 9, 10] (by rw [hC]; rfl) (by kernel_rfl) (by kernel_rfl) (fun gd hgd k hk => ?_) ?_
  ·have g5 : gd 5 = some 33 := by rw [hgd]; rfl
   clear hgd
   simp (maxSteps := 9^9) (disch := (try simp only [lens]); omega) only [argSl, sm, ↓amb, mark_eq, simprocAttr, sz114, en113, fl78_1, sz3, fl114_3, gcase_undef, g5, dx]
   repeat' first | refine hk _ _ rfl rfl rfl rfl ?_ | (refine gsplit (fun hg => ?_) (fun hg => ?_) <;> (try simp only [hbx] at hg) <;> simp (maxSteps := 9^9) (disch := (try simp only [lens]); omega) only [argSl, sm, ↓amb, mark_eq, simprocAttr, sz114, en113, fl78_1, sz3, fl114_3, gcase_undef, g5, dx]) | apply And.intro | (refine callK_p (c50 (w.ts.getD i.toNat default) (by omega) (by omega) (by omega) (by omega)) rfl ?_; (try simp (maxSteps := 9^9) (disch := (try simp only [lens]); omega) only [argSl, sm, ↓amb, mark_eq, simprocAttr, sz114, en113, fl78_1, sz3, fl114_3, gcase_undef, g5, dx])) | fail
   all_goals first | rfl | omega | exact (decide_eq_true (by omega)).symm | exact (decide_eq_false (by omega)).symm | exact decide_eq_decide.mpr (by omega) | (refine Bool.eq_iff_iff.mpr ?_; simp only [beq_iff_eq, bne_iff_ne, ne_eq, decide_eq_true_eq]; omega) | (refine Bool.eq_iff_iff.mpr ?_; simp only [Bool.not_eq_true', Bool.not_eq_false', decide_eq_false_iff_not, decide_eq_true_eq, beq_iff_eq, bne_iff_ne, ne_eq]; omega) | assumption | (simp; done) | (simp [maxLen]; omega) | skip
  simp only [kp, argSl, simprocAttr, List.length_cons, List.length_nil]
  refine awp_cond rfl (fun hb => ?_) (fun hb => ?_)
  ·try simp only [hbx] at hb
   refine awp_sr [64] (by rw [hC]; rfl) fun k hk => ?_
   simp (maxSteps := 9^9) (disch := (try simp only [lens]); omega) only [argSl, sm, ↓amb, mark_eq, simprocAttr, sz78, dx]
   repeat refine ⟨by first | omega | (simp; done) | (unfold maxLen; omega) | (simp [maxLen]; omega) | assumption, ?_⟩
   refine hk _ ?_; clear hk k
   refine awp_ret ?_
   obtain ⟨e1, e2, e3, e4⟩ := Pl.part_err (w := w) (i := i) (Pl.partE2 hth hb) (by decide)
   rw [e1, e2, e3, e4]
   refine retl rfl rfl ⟨retc rfl sz78 ?_, rett rfl ?_, rett rfl ?_, rett rfl ?_, trivial⟩
   simp (maxSteps := 9^9) (disch := (try simp only [lens]); omega) only [argSl, sm, ↓amb, mark_eq, simprocAttr, sz78, dx]
   ·exact .p (LeP.agg (.cons (LeP.seq _ _) (.cons (LeP.refl _) (.cons (LeP.seq _ _) .nil))))
   ·exact .p (LeP.refl _)
   ·exact .p (LeP.refl _)
   ·exact .p (LeP.refl _)
  ·try simp only [hbx] at hb
   have hgr := hb
   refine awp_sr [64] (by rw [hC]; rfl) fun k hk => ?_
   simp (maxSteps := 9^9) (disch := (try simp only [lens]); omega) only [argSl, sm, ↓amb, mark_eq, simprocAttr, dx]
   repeat refine ⟨by first | omega | (simp; done) | (unfold maxLen; omega) | (simp [maxLen]; omega) | assumption, ?_⟩
   refine hk _ ?_; clear hk k
   refine awp_cond rfl (fun hb => ?_) (fun hb => ?_)
   ·try simp only [hbx] at hb
    refine awp_sr [64] (by rw [hC]; rfl) fun k hk => ?_
    simp (maxSteps := 9^9) (disch := (try simp only [lens]); omega) only [argSl, sm, ↓amb, mark_eq, simprocAttr, sz78, dx]
    repeat refine ⟨by first | omega | (simp; done) | (unfold maxLen; omega) | (simp [maxLen]; omega) | assumption, ?_⟩
    refine hk _ ?_; clear hk k
    refine awp_ret ?_
    obtain ⟨e1, e2, e3, e4⟩ := Pl.part_err (w := w) (i := i) (Pl.partE3 hth hgr (by omega)) (by decide)
    rw [e1, e2, e3, e4]
    refine retl rfl rfl ⟨retc rfl sz78 ?_, rett rfl ?_, rett rfl ?_, rett rfl ?_, trivial⟩
    simp (maxSteps := 9^9) (disch := (try simp only [lens]); omega) only [argSl, sm, ↓amb, mark_eq, simprocAttr, sz78, dx]
    ·exact .p (LeP.agg (.cons (LeP.seq _ _) (.cons (LeP.refl _) (.cons (LeP.seq _ _) .nil))))
    ·exact .p (LeP.refl _)
    ·exact .p (LeP.refl _)
    ·exact .p (LeP.refl _)
   ·try simp only [hbx] at hb
    refine awp_skip ?_
    refine h2 _ ?_; clear h2 k2
    have h0 := Pl.partE0 hth hgr (by omega)
    refine awp_sd [64] ⟨[0, 1, 0, 4, 12, 31, 63], [1, 2], [], [], some []⟩ (by rw [hC]; rfl) (by kernel_rfl) (by kernel_rfl) fun k hk => ?_
    simp (maxSteps := 9^9) (disch := (try simp only [lens]); omega) only [argSl, sm, ↓amb, mark_eq, simprocAttr, fl114_0, sz3, sz114, en113, dx]
    repeat refine ⟨by first | omega | (simp; done) | (unfold maxLen; omega) | (simp [maxLen]; omega) | assumption, ?_⟩
    refine callK_p (c50 (w.ts.getD i.toNat default) (by omega) (by omega) (by omega) (by omega)) rfl ?_
    simp (maxSteps := 9^9) (disch := (try simp only [lens]); omega) only [argSl, sm, ↓amb, mark_eq, simprocAttr, fl114_0, sz3, sz114, en113, dx]
    repeat refine ⟨by first | omega | (simp; done) | (unfold maxLen; omega) | (simp [maxLen]; omega) | assumption, ?_⟩
    refine hk _ ?_; clear hk k
    refine awp_sd [64] ⟨[0, 1, 3, 0, 8, 0, 0, 120, 0, 0, 512, 0, 3840, 8184, 16383, 32767, 65535], [1, 4, 10], [14, 16], [(2, 14), (2, 16), (14, 16)], none⟩ (by rw [hC]; rfl) (by kernel_rfl) (by kernel_rfl) fun k hk => ?_
    simp (maxSteps := 9^9) (disch := (try simp only [lens]); omega) only [argSl, sm, ↓amb, mark_eq, simprocAttr, fl78_0, sz75, en114, fl114_0, sz3, vr114, bt114, pl114_0, pl114_1, pl114_2, fl114_1, el75, by114, dx]
    repeat refine ⟨by first | omega | (simp; done) | (unfold maxLen; omega) | (simp [maxLen]; omega) | assumption, ?_⟩
    refine callK_o (c51 _ _ (by omega)) rfl ?_
    simp (maxSteps := 9^9) (disch := (try simp only [lens]); omega) only [argSl, sm, ↓amb, mark_eq, simprocAttr, fl78_0, sz75, en114, fl114_0, sz3, vr114, bt114, pl114_0, pl114_1, pl114_2, fl114_1, el75, by114, dx]
    repeat refine ⟨by first | omega | (simp; done) | (unfold maxLen; omega) | (simp [maxLen]; omega) | assumption, ?_⟩
    refine hk _ ?_; clear hk k
    refine awp_sr [64] (by rw [hC]; rfl) fun k hk => ?_
    simp (maxSteps := 9^9) (disch := (try simp only [lens]); omega) only [argSl, sm, ↓amb, mark_eq, simprocAttr, fl78_0, sz75, el75, sz114, fl114_3, sz3, dx]
    repeat refine ⟨by first | omega | (simp; done) | (unfold maxLen; omega) | (simp [maxLen]; omega) | assumption, ?_⟩
    refine hk _ ?_; clear hk k
    refine awp_sr [64] (by rw [hC]; rfl) fun k hk => ?_
    simp (maxSteps := 9^9) (disch := (try simp only [lens]); omega) only [argSl, sm, ↓amb, mark_eq, simprocAttr, sz78, dx]
    repeat refine ⟨by first | omega | (simp; done) | (unfold maxLen; omega) | (simp [maxLen]; omega) | assumption, ?_⟩
    refine hk _ ?_; clear hk k
    refine awp_ret ?_
    obtain ⟨e1, e2, e3, e4⟩ := Pl.part_ok h0
    rw [e1, e2, e3, e4]
    refine retl rfl rfl ⟨retc rfl sz78 ?_, rett rfl ?_, rett rfl ?_, rett rfl ?_, trivial⟩
    simp (maxSteps := 9^9) (disch := (try simp only [lens]); omega) only [argSl, sm, ↓amb, mark_eq, simprocAttr, sz78, dx]
    ·exact .agg_cons (.ownE rfl (by simp [Pl.parted, Pl.mid, List.map_set, List.set_append_left _ _ (show i.toNat < (w.ts.map taskC).length by simpa using hin)])) (.agg_cons (.p (LeP.refl _)) (.agg_cons (.p (LeP.seq _ _)) (.agg_nil)))
    ·exact .p (LeP.refl _)
    ·exact .p (LeP.refl _)
    ·exact .p (LeP.refl _)
set_option maxHeartbeats 4000000 in
theorem c54 (k : Nat) (ts : List Pl.Task) (up : Int) (ho : Pl.upOk ts) (hup0 : -1 ≤ up) (hup1 : up < ts.length) (hup2 : up + 1 < k) (hl : ts.length ≤ 1000000) : HCall Try.prog 116 [.own 7, .p (iV up)] [(7, .row 4 (lift (ts.map taskC)))] (.p (bV (Pl.fin k ts up).2)) [(7, .row 4 (lift ((Pl.fin k ts up).1.map taskC)))] := by
 refine hcall_of_awp Try.func116 rfl (by simp [Try.ntmps116]) fun C hC => ?_
 refine awp_sr [] (by rw [hC]; rfl) fun k hk => ?_
 simp (maxSteps := 9^9) (disch := (try simp only [lens]); omega) only [argSl, sm, ↓amb, mark_eq, simprocAttr, dx]
 repeat refine ⟨by first | omega | (simp; done) | (unfold maxLen; omega) | (simp [maxLen]; omega) | assumption, ?_⟩
 refine hk _ ?_; clear hk k
 refine awp_seq fun k1 h1 => ?_
 refine awp_block ?_
 refine awp_loop (σ := Nat × List Pl.Task × Int) (fun x => Pl.fin x.1 x.2.1 x.2.2 = Pl.fin k ts up ∧ Pl.upOk x.2.1 ∧ x.2.1.length = ts.length ∧ -1 ≤ x.2.2 ∧ x.2.2 < ts.length ∧ x.2.2 + 1 < x.1) (fun x => ⟨[(0, (.own 7)), (1, (.p (iV x.2.2)))], [(7, (.row 4 (lift (x.2.1.map taskC))))], 1⟩) (fun x => x.1) (k, ts, up) ?_ ?_ fun x hx => ?_
 ·exact ⟨rfl, ho, rfl, hup0, hup1, hup2⟩
 ·exact le_of [] (by rfl) (by rfl) ⟨⟨_, rfl, .own rfl⟩, ⟨_, rfl, .p (.of_eq (by first | rfl | (simp only [PV.lit.injEq, Value.int.injEq, true_and]; omega) | (simp; done) | (simp; omega)))⟩, trivial⟩ ⟨⟨_, rfl, _, rfl, .liftE (by first | rfl | rw [List.map_set])⟩, trivial⟩
 obtain ⟨q, us, p⟩ := x
 obtain ⟨hf, hu, hlen, hp0, hp1, hq⟩ := hx
 dsimp only at hf hu hlen hp0 hp1 hq
 obtain ⟨q, rfl⟩ : ∃ q', q = q' + 1 := ⟨q - 1, by omega⟩
 refine awp_seq fun k3 h3 => ?_
 refine awp_sr [] (by rw [hC]; rfl) fun k hk => ?_
 simp (maxSteps := 9^9) (disch := (try simp only [lens]); omega) only [argSl, sm, ↓amb, mark_eq, simprocAttr, dx]
 repeat refine ⟨by first | omega | (simp; done) | (unfold maxLen; omega) | (simp [maxLen]; omega) | assumption, ?_⟩
 refine hk _ ?_; clear hk k
 refine awp_cond rfl (fun hb => ?_) (fun hb => ?_)
 ·try simp only [hbx] at hb
  refine awp_skip ?_
  refine h3 _ ?_; clear h3 k3
  refine awp_block ?_
  have hpn := hb
  refine awp_sr [] (by rw [hC]; rfl) fun k hk => ?_
  simp (maxSteps := 9^9) (disch := (try simp only [lens]); omega) only [argSl, sm, ↓amb, mark_eq, simprocAttr, el75, sz114, dx]
  repeat refine ⟨by first | omega | (simp; done) | (unfold maxLen; omega) | (simp [maxLen]; omega) | assumption, ?_⟩
  refine hk _ ?_; clear hk k
  refine awp_seq fun k4 h4 => ?_
  have hup := hu p.toNat (by omega)
  refine awp_sr [] (by rw [hC]; rfl) fun k hk => ?_
  simp (maxSteps := 9^9) (disch := (try simp only [lens]); omega) only [argSl, sm, ↓amb, mark_eq, simprocAttr, fl114_3, sz3, dx]
  repeat refine ⟨by first | omega | (simp; done) | (unfold maxLen; omega) | (simp [maxLen]; omega) | assumption, ?_⟩
  refine hk _ ?_; clear hk k
  refine awp_cond rfl (fun hb => ?_) (fun hb => ?_)
  ·try simp only [hbx] at hb
   refine awp_sr [] (by rw [hC]; rfl) fun k hk => ?_
   simp (maxSteps := 9^9) (disch := (try simp only [lens]); omega) only [argSl, sm, ↓amb, mark_eq, simprocAttr, dx]
   repeat refine ⟨by first | omega | (simp; done) | (unfold maxLen; omega) | (simp [maxLen]; omega) | assumption, ?_⟩
   refine hk _ ?_; clear hk k
   refine awp_ret ?_
   refine reth1 rfl rfl ?_
   exact le_of [] (by rfl) (by rfl) ⟨⟨_, rfl, .p (.of_eq (by rw [← hf, Pl.fin_zero hpn hb]))⟩, trivial⟩ ⟨⟨_, rfl, _, rfl, .liftE (by rw [← hf, Pl.fin_zero hpn hb])⟩, trivial⟩
  ·try simp only [hbx] at hb
   refine awp_skip ?_
   refine h4 _ ?_; clear h4 k4
   refine awp_seq fun k5 h5 => ?_
   refine awp_sr [] (by rw [hC]; rfl) fun k hk => ?_
   simp (maxSteps := 9^9) (disch := (try simp only [lens]); omega) only [argSl, sm, ↓amb, mark_eq, simprocAttr, fl114_3, sz3, dx]
   repeat refine ⟨by first | omega | (simp; done) | (unfold maxLen; omega) | (simp [maxLen]; omega) | assumption, ?_⟩
   refine hk _ ?_; clear hk k
   refine awp_sr [] (by rw [hC]; rfl) fun k hk => ?_
   simp (maxSteps := 9^9) (disch := (try simp only [lens]); omega) only [argSl, sm, ↓amb, mark_eq, simprocAttr, fl114_3, sz3, dx]
   repeat refine ⟨by first | omega | (simp; done) | (unfold maxLen; omega) | (simp [maxLen]; omega) | assumption, ?_⟩
   refine hk _ ?_; clear hk k
   refine awp_cond rfl (fun hb => ?_) (fun hb => ?_)
   ·try simp only [hbx] at hb
    refine awp_sr [] (by rw [hC]; rfl) fun k hk => ?_
    simp (maxSteps := 9^9) (disch := (try simp only [lens]); omega) only [argSl, sm, ↓amb, mark_eq, simprocAttr, dx]
    repeat refine ⟨by first | omega | (simp; done) | (unfold maxLen; omega) | (simp [maxLen]; omega) | assumption, ?_⟩
    refine hk _ ?_; clear hk k
    refine awp_ret ?_
    refine reth1 rfl rfl ?_
    exact le_of [] (by rfl) (by rfl) ⟨⟨_, rfl, .p (.of_eq (by rw [← hf, Pl.fin_stop hpn (by omega) (by omega)]))⟩, trivial⟩ ⟨⟨_, rfl, _, rfl, .liftE (by rw [← hf, Pl.fin_stop hpn (by omega) (by omega)]; try rw [List.map_set])⟩, trivial⟩
   ·try simp only [hbx] at hb
    refine awp_skip ?_
    refine h5 _ ?_; clear h5 k5
    refine awp_region [] (by rw [hC]; rfl) fun k hk => ?_
    simp (maxSteps := 9^9) (disch := (try simp only [lens]); omega) only [argSl, sm, ↓amb, mark_eq, simprocAttr, fl114_2, sz3, dx]
    repeat refine ⟨by first | omega | (simp; done) | (unfold maxLen; omega) | (simp [maxLen]; omega) | assumption, ?_⟩
    refine hk _ ?_; clear hk k
    refine ⟨(q, us.set p.toNat { us.getD p.toNat default with wait := (us.getD p.toNat default).wait - 1 }, (us.getD p.toNat default).up), ⟨by rw [← hf, Pl.fin_on hpn (by omega) (by omega)], Pl.upOk_set hu (by omega) (by omega), by simpa using hlen, by show -1 ≤ (us.getD p.toNat default).up; omega, by show (us.getD p.toNat default).up < _; omega, by show (us.getD p.toNat default).up + 1 < (q : Int); omega⟩, le_of [] (by rfl) (by rfl) ⟨⟨_, rfl, .own rfl⟩, ⟨_, rfl, .p (.of_eq (by first | rfl | (simp only [PV.lit.injEq, Value.int.injEq, true_and]; omega) | (simp; done) | (simp; omega)))⟩, trivial⟩ ⟨⟨_, rfl, _, rfl, .liftE (by first | rfl | rw [List.map_set])⟩, trivial⟩, Nat.lt_succ_self q⟩
 ·try simp only [hbx] at hb
  refine awp_exit ((if_pos rfl).mpr ?_)
  refine h1 _ ?_; clear h3 k3; clear h1 k1
  refine awp_sr [] (by rw [hC]; rfl) fun k hk => ?_
  simp (maxSteps := 9^9) (disch := (try simp only [lens]); omega) only [argSl, sm, ↓amb, mark_eq, simprocAttr, dx]
  repeat refine ⟨by first | omega | (simp; done) | (unfold maxLen; omega) | (simp [maxLen]; omega) | assumption, ?_⟩
  refine hk _ ?_; clear hk k
  refine awp_ret ?_
  have hpe : p = -1 := by omega
  subst hpe
  refine reth1 rfl rfl ?_
  exact le_of [] (by rfl) (by rfl) ⟨⟨_, rfl, .p (.of_eq (by rw [← hf, Pl.fin_end]))⟩, trivial⟩ ⟨⟨_, rfl, _, rfl, .liftE (by rw [← hf, Pl.fin_end])⟩, trivial⟩
set_option maxHeartbeats 4000000 in
theorem c30 (c d : Bool) (w : Pl.Work) (i : Int) : PCall Try.prog 111 [workV c d w, iV i] (.tup [workV false false (Pl.doW w i), bV (Pl.doO w i), iV (Pl.doE w i)]) := by
 refine pcall_of_awp Try.func111 rfl (by simp [Try.ntmps111]) fun C hC => ?_
 refine awp_le (le_keep [0, 1]) ?_
 simp only [kp, argSl, simprocAttr]
 refine awp_sr [] (by rw [hC]; rfl) fun k hk => ?_
 simp (maxSteps := 9^9) (disch := (try simp only [lens]); omega) only [argSl, sm, ↓amb, mark_eq, simprocAttr, vr78, dx]
 repeat refine ⟨by first | omega | (simp; done) | (unfold maxLen; omega) | (simp [maxLen]; omega) | assumption, ?_⟩
 refine hk _ ?_; clear hk k
 refine awp_seq fun k1 h1 => ?_
 refine awp_le (le_keep [1, 2, 4, 5, 6]) ?_
 simp only [kp, argSl, simprocAttr]
 refine awp_sr [] (by rw [hC]; rfl) fun k hk => ?_
 simp (maxSteps := 9^9) (disch := (try simp only [lens]); omega) only [argSl, sm, ↓amb, mark_eq, simprocAttr, sz78, en112, dx]
 repeat refine ⟨by first | omega | (simp; done) | (unfold maxLen; omega) | (simp [maxLen]; omega) | assumption, ?_⟩
 refine callK_p (c49 _ _ _ _) rfl ?_
 simp (maxSteps := 9^9) (disch := (try simp only [lens]); omega) only [argSl, sm, ↓amb, mark_eq, simprocAttr, sz78, en112, dx]
 repeat refine ⟨by first | omega | (simp; done) | (unfold maxLen; omega) | (simp [maxLen]; omega) | assumption, ?_⟩
 refine hk _ ?_; clear hk k
 refine awp_le (le_keep [1, 2, 4, 5, 6, 7]) ?_
 simp only [kp, argSl, simprocAttr]
 refine awp_sr [] (by rw [hC]; rfl) fun k hk => ?_
 simp (maxSteps := 9^9) (disch := (try simp only [lens]); omega) only [argSl, sm, ↓amb, mark_eq, simprocAttr, dx]
 repeat refine ⟨by first | omega | (simp; done) | (unfold maxLen; omega) | (simp [maxLen]; omega) | assumption, ?_⟩
 refine hk _ ?_; clear hk k
 refine awp_cond rfl (fun hb => ?_) (fun hb => ?_)
 ·try simp only [hbx] at hb
  refine awp_le (le_keep [2, 4, 7]) ?_
  simp only [kp, argSl, simprocAttr]
  refine awp_sr [] (by rw [hC]; rfl) fun k hk => ?_
  simp (maxSteps := 9^9) (disch := (try simp only [lens]); omega) only [argSl, sm, ↓amb, mark_eq, simprocAttr, sz78, dx]
  repeat refine ⟨by first | omega | (simp; done) | (unfold maxLen; omega) | (simp [maxLen]; omega) | assumption, ?_⟩
  refine hk _ ?_; clear hk k
  refine awp_ret ?_
  obtain ⟨e1, e2, e4⟩ := Pl.do_err (w := w) (i := i) (Pl.doE1 hb) (hb)
  rw [e1, e2, e4]
  refine retl rfl rfl ⟨retc rfl sz78 ?_, rett rfl ?_, rett rfl ?_, trivial⟩
  simp (maxSteps := 9^9) (disch := (try simp only [lens]); omega) only [argSl, sm, ↓amb, mark_eq, simprocAttr, sz78, dx]
  ·exact .p (LeP.agg (.cons (LeP.seq _ _) (.cons (LeP.refl _) (.cons (LeP.seq _ _) .nil))))
  ·exact .p (LeP.refl _)
  ·exact .p (LeP.refl _)
 ·try simp only [hbx] at hb
  refine awp_skip ?_
  refine h1 _ ?_; clear h1 k1
  refine awp_le (le_keep [1, 2, 4]) ?_
  simp only [kp, argSl, simprocAttr]
  have hth := hb
  obtain ⟨hR, hi0, hi1, hok, hd1, hg1, hg2, ht1⟩ := Pl.ok_of hth
  simp only [Pl.okT, Pl.task] at hok
  have hin : i.toNat < w.ts.length := by omega
  refine awp_sr [] (by rw [hC]; rfl) fun k hk => ?_
  simp (maxSteps := 9^9) (disch := (try simp only [lens]); omega) only [argSl, sm, ↓amb, mark_eq, simprocAttr, fl78_0, sz75, el75, sz114, vr114, dx]
  repeat refine ⟨by first | omega | (simp; done) | (unfold maxLen; omega) | (simp [maxLen]; omega) | assumption, ?_⟩
  refine hk _ ?_; clear hk k
  refine awp_seq fun k2 h2 => ?_
  refine awp_testD [] ⟨[0, 1, 0, 4, 15, 31, 63, 127, 255, 511, 1023, 2047, 4095, 2047, 10239, 32767, 65535, 131071], [0, 3, 7, 12, 14, 16], [], [(1, 7), (1, 12), (1, 14), (1, 16)], some []⟩ 39 (decide (w.grain < (w.ts.getD i.toNat default).high - (w.ts.getD i.toNat default).low ∨ 0 < (w.ts.getD i.toNat default).wait ∨ w.done.getD (w.ts.getD i.toNat default).low.toNat false = true)) [2, 4, 5, 6, 8] (by rw [hC]; rfl) (by kernel_rfl) (by kernel_rfl) (fun gd hgd k hk => ?_) ?_
  ·have g5 : gd 5 = some 27 := by rw [hgd]; rfl
   have g10 : gd 10 = some 32 := by rw [hgd]; rfl
   clear hgd
   simp (maxSteps := 9^9) (disch := (try simp only [lens]); omega) only [argSl, sm, ↓amb, mark_eq, simprocAttr, sz114, en113, fl78_1, sz3, fl114_3, fl78_2, sz76, fl114_0, el76, sz4, gcase_undef, g5, g10, dx]
   repeat' first | refine hk _ _ rfl rfl rfl rfl ?_ | (refine gsplit (fun hg => ?_) (fun hg => ?_) <;> (try simp only [hbx] at hg) <;> simp (maxSteps := 9^9) (disch := (try simp only [lens]); omega) only [argSl, sm, ↓amb, mark_eq, simprocAttr, sz114, en113, fl78_1, sz3, fl114_3, fl78_2, sz76, fl114_0, el76, sz4, gcase_undef, g5, g10, dx]) | apply And.intro | (refine callK_p (c50 (w.ts.getD i.toNat default) (by omega) (by omega) (by omega) (by omega)) rfl ?_; (try simp (maxSteps := 9^9) (disch := (try simp only [lens]); omega) only [argSl, sm, ↓amb, mark_eq, simprocAttr, sz114, en113, fl78_1, sz3, fl114_3, fl78_2, sz76, fl114_0, el76, sz4, gcase_undef, g5, g10, dx])) | fail
   all_goals first | rfl | omega | exact (decide_eq_true (by (try simp only [Pl.task] at *); omega)).symm | exact (decide_eq_false (by (try simp only [Pl.task] at *); omega)).symm | exact decide_eq_decide.mpr (by (try simp only [Pl.task] at *); omega) | (refine Bool.eq_iff_iff.mpr ?_; (try simp only [Pl.task] at *); simp only [beq_iff_eq, bne_iff_ne, ne_eq, decide_eq_true_eq]; omega) | (refine Bool.eq_iff_iff.mpr ?_; simp only [Bool.not_eq_true', Bool.not_eq_false', decide_eq_false_iff_not, decide_eq_true_eq, beq_iff_eq, bne_iff_ne, ne_eq]; (try simp only [Pl.task] at *); omega) | assumption | (simp; done) | (simp [maxLen]; omega) | skip
   all_goals (refine Bool.eq_iff_iff.mpr ?_; simp only [decide_eq_true_eq]; exact ⟨fun h => .inr (.inr h), fun h => by (rcases h with h | h | h; omega; omega; exact h)⟩)
  simp only [kp, argSl, simprocAttr, List.length_cons, List.length_nil]
  refine awp_cond rfl (fun hb => ?_) (fun hb => ?_)
  ·try simp only [hbx] at hb
   refine awp_le (le_keep [2, 4]) ?_
   simp only [kp, argSl, simprocAttr]
   refine awp_sr [] (by rw [hC]; rfl) fun k hk => ?_
   simp (maxSteps := 9^9) (disch := (try simp only [lens]); omega) only [argSl, sm, ↓amb, mark_eq, simprocAttr, sz78, dx]
   repeat refine ⟨by first | omega | (simp; done) | (unfold maxLen; omega) | (simp [maxLen]; omega) | assumption, ?_⟩
   refine hk _ ?_; clear hk k
   refine awp_ret ?_
   obtain ⟨e1, e2, e4⟩ := Pl.do_err (w := w) (i := i) (Pl.doE2 hth hb) (by decide)
   rw [e1, e2, e4]
   refine retl rfl rfl ⟨retc rfl sz78 ?_, rett rfl ?_, rett rfl ?_, trivial⟩
   simp (maxSteps := 9^9) (disch := (try simp only [lens]); omega) only [argSl, sm, ↓amb, mark_eq, simprocAttr, sz78, dx]
   ·exact .p (LeP.agg (.cons (LeP.seq _ _) (.cons (LeP.refl _) (.cons (LeP.seq _ _) .nil))))
   ·exact .p (LeP.refl _)
   ·exact .p (LeP.refl _)
  ·try simp only [hbx] at hb
   refine awp_skip ?_
   refine h2 _ ?_; clear h2 k2
   refine awp_le (le_keep [2, 4, 8]) ?_
   simp only [kp, argSl, simprocAttr]
   refine awp_sd [] ⟨[0, 1, 3, 0, 8, 31, 31, 127, 255, 511], [1, 4], [7, 9], [(2, 7), (5, 7), (2, 9), (5, 9)], none⟩ (by rw [hC]; rfl) (by kernel_rfl) (by kernel_rfl) fun k hk => ?_
   simp (maxSteps := 9^9) (disch := (try simp only [lens]); omega) only [argSl, sm, ↓amb, mark_eq, simprocAttr, fl78_0, sz75, en114, fl78_2, sz76, en115, dx]
   repeat refine ⟨by first | omega | (simp; done) | (unfold maxLen; omega) | (simp [maxLen]; omega) | assumption, ?_⟩
   refine callK_o (c51 _ _ (by omega)) rfl ?_
   simp (maxSteps := 9^9) (disch := (try simp only [lens]); omega) only [argSl, sm, ↓amb, mark_eq, simprocAttr, fl78_0, sz75, en114, fl78_2, sz76, en115, dx]
   repeat refine ⟨by first | omega | (simp; done) | (unfold maxLen; omega) | (simp [maxLen]; omega) | assumption, ?_⟩
   refine callK_o (c53 _ _ (by omega)) rfl ?_
   simp (maxSteps := 9^9) (disch := (try simp only [lens]); omega) only [argSl, sm, ↓amb, mark_eq, simprocAttr, fl78_0, sz75, en114, fl78_2, sz76, en115, dx]
   repeat refine ⟨by first | omega | (simp; done) | (unfold maxLen; omega) | (simp [maxLen]; omega) | assumption, ?_⟩
   refine hk _ ?_; clear hk k
   refine awp_seq fun k3 h3 => ?_
   refine awp_le (le_keep [2, 4, 5, 6, 8]) ?_
   simp only [kp, argSl, simprocAttr]
   have h0 := Pl.doE0 hth hb
   refine awp_sr [] (by rw [hC]; rfl) fun k hk => ?_
   simp (maxSteps := 9^9) (disch := (try simp only [lens]); omega) only [argSl, sm, ↓amb, mark_eq, simprocAttr, fl114_0, sz3, dx]
   repeat refine ⟨by first | omega | (simp; done) | (unfold maxLen; omega) | (simp [maxLen]; omega) | assumption, ?_⟩
   refine hk _ ?_; clear hk k
   refine awp_block ?_
   refine awp_loop (σ := Nat) (fun x => (w.ts.getD i.toNat default).low.toNat ≤ x ∧ x ≤ (w.ts.getD i.toNat default).high.toNat) (fun (x : Nat) => ⟨[(2, (.ptr 0 3 0 0)), (4, (.ptr 1 3 0 0)), (8, (.ptr 2 4 0 0)), (9, (.p (iV (x : Int))))], [(0, (.row 3 [[.own 3, .p (iV w.grain), .own 4]])), (1, (.row 3 [[.p (.seq true []), .p (iV 0), .p (.seq true [])]])), (2, (.row 4 [[.p (iV (w.ts.getD i.toNat default).low), .p (iV (w.ts.getD i.toNat default).high), .p (iV (w.ts.getD i.toNat default).up), .p (iV (w.ts.getD i.toNat default).wait)]])), (3, (.row 4 (lift (w.ts.map taskC)))), (4, (.row 1 (lift ((Pl.marked w.done (w.ts.getD i.toNat default).low.toNat x).map fun b => [bV b]))))], 1⟩) (fun x => (w.ts.getD i.toNat default).high.toNat - x) (w.ts.getD i.toNat default).low.toNat ?_ ?_ fun x hx => ?_
   ·exact ⟨Nat.le_refl _, by omega⟩
   ·exact le_of [(0, _), (1, _), (2, _), (3, _), (4, _)] (by rfl) (by rfl) ⟨⟨_, rfl, .ptr rfl⟩, ⟨_, rfl, .ptr rfl⟩, ⟨_, rfl, .ptr rfl⟩, ⟨_, rfl, .p (.of_eq (by first | rfl | (simp only [PV.lit.injEq, Value.int.injEq, true_and]; omega) | (simp; done) | (simp; omega)))⟩, trivial⟩ ⟨⟨_, rfl, _, rfl, .one (.cons (.own rfl) (.cons (.p (.refl _)) (.cons (.own rfl) .nil)))⟩, ⟨_, rfl, _, rfl, .one (.cons (.p (.refl _)) (.cons (.p (.refl _)) (.cons (.p (.refl _)) .nil)))⟩, ⟨_, rfl, _, rfl, .one (.cons (.p (.refl _)) (.cons (.p (.refl _)) (.cons (.p (.refl _)) (.cons (.p (.refl _)) .nil))))⟩, ⟨_, rfl, _, rfl, .lift _⟩, ⟨_, rfl, _, rfl, .liftE (by first | (rw [Pl.marked_start]; done) | (rw [← Pl.marked_set (by omega) (by omega), List.map_set]; try simp; done))⟩, trivial⟩
   obtain ⟨hx1, hx2⟩ := hx
   have hml := Pl.marked_len (d := w.done) hx1 (by omega)
   refine awp_seq fun k5 h5 => ?_
   refine awp_le (le_keep [0, 1, 2, 3, 4, 5, 6, 8, 9]) ?_
   simp only [kp, argSl, simprocAttr]
   refine awp_sr [] (by rw [hC]; rfl) fun k hk => ?_
   simp (maxSteps := 9^9) (disch := (try simp only [lens]); omega) only [argSl, sm, ↓amb, mark_eq, simprocAttr, fl114_1, sz3, dx]
   repeat refine ⟨by first | omega | (simp; done) | (unfold maxLen; omega) | (simp [maxLen]; omega) | assumption, ?_⟩
   refine hk _ ?_; clear hk k
   refine awp_cond rfl (fun hb => ?_) (fun hb => ?_)
   ·try simp only [hbx] at hb
    refine awp_skip ?_
    refine h5 _ ?_; clear h5 k5
    refine awp_seq fun k6 h6 => ?_
    refine awp_block ?_
    refine awp_region [] (by rw [hC]; rfl) fun k hk => ?_
    simp (maxSteps := 9^9) (disch := (try simp only [lens]); omega) only [argSl, sm, ↓amb, mark_eq, simprocAttr, fl78_2, sz76, el76, sz4, dx]
    repeat refine ⟨by first | omega | (simp; done) | (unfold maxLen; omega) | (simp [maxLen]; omega) | assumption, ?_⟩
    refine hk _ ?_; clear hk k
    refine h6 _ ?_; clear h6 k6
    refine awp_region [] (by rw [hC]; rfl) fun k hk => ?_
    simp (maxSteps := 9^9) (disch := (try simp only [lens]); omega) only [argSl, sm, ↓amb, mark_eq, simprocAttr, dx]
    repeat refine ⟨by first | omega | (simp; done) | (unfold maxLen; omega) | (simp [maxLen]; omega) | assumption, ?_⟩
    refine hk _ ?_; clear hk k
    refine ⟨x + 1, ⟨by omega, by omega⟩, le_of [(0, _), (1, _), (2, _), (3, _), (4, _)] (by rfl) (by rfl) ⟨⟨_, rfl, .ptr rfl⟩, ⟨_, rfl, .ptr rfl⟩, ⟨_, rfl, .ptr rfl⟩, ⟨_, rfl, .p (.of_eq (by first | rfl | (simp only [PV.lit.injEq, Value.int.injEq, true_and]; omega) | (simp; done) | (simp; omega)))⟩, trivial⟩ ⟨⟨_, rfl, _, rfl, .one (.cons (.own rfl) (.cons (.p (.refl _)) (.cons (.own rfl) .nil)))⟩, ⟨_, rfl, _, rfl, .one (.cons (.p (.refl _)) (.cons (.p (.refl _)) (.cons (.p (.refl _)) .nil)))⟩, ⟨_, rfl, _, rfl, .one (.cons (.p (.refl _)) (.cons (.p (.refl _)) (.cons (.p (.refl _)) (.cons (.p (.refl _)) .nil))))⟩, ⟨_, rfl, _, rfl, .lift _⟩, ⟨_, rfl, _, rfl, .liftE (by first | (rw [Pl.marked_start]; done) | (rw [← Pl.marked_set (by omega) (by omega), List.map_set]; try simp; done))⟩, trivial⟩, by omega⟩
   ·try simp only [hbx] at hb
    refine awp_exit ((if_pos rfl).mpr ?_)
    refine h3 _ ?_; clear h5 k5; clear h3 k3
    refine awp_le (le_keep [2, 4, 8]) ?_
    simp only [kp, argSl, simprocAttr]
    refine awp_sd [] ⟨[0, 0, 2, 0, 8, 30, 63, 127, 255], [], [5, 6], [(5, 6)], some [1, 3]⟩ (by rw [hC]; rfl) (by kernel_rfl) (by kernel_rfl) fun k hk => ?_
    simp (maxSteps := 9^9) (disch := (try simp only [lens]); omega) only [argSl, sm, ↓amb, mark_eq, simprocAttr, sz78, fl78_0, sz75, fl114_2, sz3, en116, dx]
    repeat refine ⟨by first | omega | (simp; done) | (unfold maxLen; omega) | (simp [maxLen]; omega) | assumption, ?_⟩
    refine callK_h (c54 (w.ts.length + 1) w.ts (w.ts.getD i.toNat default).up (Pl.upOk_of hR) (by omega) (by omega) (by omega) (by omega)) [3] [] (by first | rfl | (simp only [hm]; done)) (by first | rfl | (simp [namesOk, lkp]; done)) ?_ ?_ ?_ ?_ ?_ ?_ ?_
    (iterate 6 (focus (first | trivial | (intro n hn; cases hn; done) | (simp (maxSteps := 9^9) (disch := (try simp only [lens]); omega) only [argSl, sm, ↓amb, mark_eq, simprocAttr, sz78, fl78_0, sz75, fl114_2, sz3, en116, dx, hmx, List.filter_cons, Nat.reduceBNe, imp_self, implies_true]; done))))
    simp (maxSteps := 9^9) (disch := (try simp only [lens]); omega) only [argSl, sm, ↓amb, mark_eq, simprocAttr, sz78, fl78_0, sz75, fl114_2, sz3, en116, dx, hm, List.filter_cons, List.filter_nil, Nat.reduceBNe, Option.map_none]
    repeat refine ⟨by first | omega | (simp; done) | (unfold maxLen; omega) | (simp [maxLen]; omega) | assumption, ?_⟩
    refine hk _ ?_; clear hk k
    refine awp_ret ?_
    obtain ⟨e1, e2, e4⟩ := Pl.do_ok h0
    rw [e1, e2, e4]
    refine retl rfl rfl ⟨retc rfl sz78 ?_, rett rfl ?_, rett rfl ?_, trivial⟩
    simp (maxSteps := 9^9) (disch := (try simp only [lens]); omega) only [argSl, sm, ↓amb, mark_eq, simprocAttr, sz78, dx]
    ·exact .agg_cons (.ownE rfl (by rfl)) (.agg_cons (.p (LeP.refl _)) (.agg_cons (.ownE rfl (by simp only [Pl.did, Pl.task]; rw [show x = (w.ts.getD i.toNat default).high.toNat by omega])) (.agg_nil)))
    ·exact .p (LeP.refl _)
    ·exact .p (LeP.refl _)
set_option maxHeartbeats 4000000 in
theorem c47 (c : Bool) (l : List Int) (hl : l.length ≤ 1000000) : PCall Try.prog 110 [ints c l] (ints true l) := by
 refine pcall_of_awp Try.func110 rfl (by simp [Try.ntmps110]) fun C hC => ?_
 refine awp_sr [] (by rw [hC]; rfl) fun k hk => ?_
 simp (maxSteps := 9^9) (disch := (try simp only [lens]); omega) only [argSl, sm, ↓amb, mark_eq, simprocAttr, dx]
 repeat refine ⟨by first | omega | (simp; done) | (unfold maxLen; omega) | (simp [maxLen]; omega) | assumption, ?_⟩
 refine hk _ ?_; clear hk k
 refine awp_sr [] (by rw [hC]; rfl) fun k hk => ?_
 simp (maxSteps := 9^9) (disch := (try simp only [lens]); omega) only [argSl, sm, ↓amb, mark_eq, simprocAttr, el32, sz3, dx]
 repeat refine ⟨by first | omega | (simp; done) | (unfold maxLen; omega) | (simp [maxLen]; omega) | assumption, ?_⟩
 refine hk _ ?_; clear hk k
 refine awp_ret ?_
 refine ret1 rfl rfl ?_
 exact .p (LeP.of_eq (by simp))
end Go.Proofs.Ythelnccjcbnjfaa
