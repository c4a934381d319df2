/-
  Which crews may be, by the document.
-/
import Derived.Test.YthelnccjcbnjfaaR1
set_option linter.unusedSimpArgs false
set_option linter.unusedVariables false
set_option maxRecDepth 100000
namespace Go.Proofs.Ythelnccjcbnjfaa
open Go.Am Go.Proofs

set_option maxHeartbeats 4000000 in
theorem c_ref05_Right (c : Pl.Crew) (hl : ∀ l, l ∈ c.dq → l.length ≤ 1000000 ∧ ∀ t, t ∈ l → -9223372036854775808 ≤ t ∧ t ≤ 9223372036854775807) : PCall Try.prog 87 [.agg (crewC c)] (bV (decide (Pl.crewRight c))) := by
 refine pcall_of_awp Try.func87 rfl (by simp [Try.ntmps87]) fun C hC => ?_
 refine awp_le (le_keep [0]) ?_
 simp only [kp, argSl, simprocAttr]
 refine awp_sr [47] (by rw [hC]; rfl) fun k hk => ?_
 simp (maxSteps := 9^9) (disch := (try simp only [lens]); omega) only [argSl, sm, ↓amb, mark_eq, simprocAttr, taskC, lV, dx]
 repeat refine ⟨by first | omega | (simp; done) | (unfold maxLen; omega) | (simp [maxLen]; omega) | assumption, ?_⟩
 refine hk _ ?_; clear hk k
 refine awp_le (le_keep [1]) ?_
 simp only [kp, argSl, simprocAttr]
 refine awp_sr [47] (by rw [hC]; rfl) fun k hk => ?_
 simp (maxSteps := 9^9) (disch := (try simp only [lens]); omega) only [argSl, sm, ↓amb, mark_eq, simprocAttr, fl81_1, sz79, el79, taskC, lV, dx]
 repeat refine ⟨by first | omega | (simp; done) | (unfold maxLen; omega) | (simp [maxLen]; omega) | assumption, ?_⟩
 refine hk _ ?_; clear hk k
 refine awp_seq fun k1 h1 => ?_
 refine awp_test [47] 42 (decide (¬ (Pl.right c.work ∧ 1 ≤ c.dq.length ∧ c.dq.length ≤ 8 ∧ (0 ≤ c.steps ∧ c.steps ≤ 100000) ∧ (0 ≤ c.idle ∧ c.idle ≤ 100000)))) [1, 2, 3] (by rw [hC]; rfl) (fun gd hgd k hk => ?_) ?_
 ·have g4 : gd 4 = some 15 := by rw [hgd]; rfl
  have g8 : gd 8 = some 19 := by rw [hgd]; rfl
  have g12 : gd 12 = some 23 := by rw [hgd]; rfl
  have g17 : gd 17 = some 28 := by rw [hgd]; rfl
  have g22 : gd 22 = some 33 := by rw [hgd]; rfl
  have g27 : gd 27 = some 38 := by rw [hgd]; rfl
  clear hgd
  simp (maxSteps := 9^9) (disch := (try simp only [lens]); omega) only [argSl, sm, ↓amb, mark_eq, simprocAttr, fl81_0, sz78, en102, fl81_3, sz3, fl81_4, gcase_undef, g4, g8, g12, g17, g22, g27, taskC, lV, dx]
  repeat' first | refine hk _ _ rfl rfl rfl rfl ?_ | (refine gsplit (fun hg => ?_) (fun hg => ?_) <;> (try simp only [hbx] at hg) <;> (try (have hin : ((c.dq.getD x default).getD y 0).toNat < c.work.ts.length := by omega); try (have hok := hR.2.2.2 _ hin; simp only [Pl.okT] at hok; have hcn := hR.1; simp only [Pl.cnt] at hcn)) <;> simp (maxSteps := 9^9) (disch := (try simp only [lens]); omega) only [argSl, sm, ↓amb, mark_eq, simprocAttr, fl81_0, sz78, en102, fl81_3, sz3, fl81_4, gcase_undef, g4, g8, g12, g17, g22, g27, taskC, lV, dx]) | apply And.intro | (refine callK_p (c38 _ _ _) rfl ?_; (try simp (maxSteps := 9^9) (disch := (try simp only [lens]); omega) only [argSl, sm, ↓amb, mark_eq, simprocAttr, fl81_0, sz78, en102, fl81_3, sz3, fl81_4, gcase_undef, g4, g8, g12, g17, g22, g27, taskC, lV, dx])) | fail
  all_goals first | rfl | omega | exact (decide_eq_true (by omega)).symm | exact (decide_eq_false (by omega)).symm | exact decide_eq_decide.mpr (by omega) | (refine Bool.eq_iff_iff.mpr ?_; simp only [beq_iff_eq, bne_iff_ne, ne_eq, decide_eq_true_eq]; omega) | (refine Bool.eq_iff_iff.mpr ?_; simp only [Bool.not_eq_true', Bool.not_eq_false', decide_eq_false_iff_not, decide_eq_true_eq, beq_iff_eq, bne_iff_ne, ne_eq]; omega) | assumption | (simp; done) | (simp [maxLen]; omega) | skip
  all_goals first | (refine Eq.symm (decide_eq_true ?_); intro q; exact absurd q.1 (by assumption)) | (refine Eq.symm (decide_eq_true ?_); intro q; omega) | (rw [← decide_not]; exact decide_eq_decide.mpr ⟨fun h q => by omega, fun h => by refine Decidable.byContradiction fun w => h ⟨by assumption, by omega, by omega, by omega, by omega⟩⟩) | (refine decide_eq_decide.mpr ⟨fun h q => by omega, fun h => by refine Decidable.byContradiction fun w => h ⟨by assumption, by omega, by omega, by omega, by omega⟩⟩) | trace_state
 simp only [kp, argSl, simprocAttr, List.length_cons, List.length_nil]
 refine awp_cond rfl (fun hb => ?_) (fun hb => ?_)
 ·try simp only [hbx] at hb
  refine awp_le (le_keep []) ?_
  simp only [kp, argSl, simprocAttr]
  have hb1 := hb
  refine awp_sr [47] (by rw [hC]; rfl) fun k hk => ?_
  simp (maxSteps := 9^9) (disch := (try simp only [lens]); omega) only [argSl, sm, ↓amb, mark_eq, simprocAttr, taskC, lV, dx]
  repeat refine ⟨by first | omega | (simp; done) | (unfold maxLen; omega) | (simp [maxLen]; omega) | assumption, ?_⟩
  refine hk _ ?_; clear hk k
  refine awp_ret ?_
  refine ret1 rfl rfl ?_
  exact .p (LeP.of_eq (by rw [decide_eq_false (fun q => hb ⟨q.1, q.2.1, q.2.2.1, q.2.2.2.1, q.2.2.2.2.1⟩)]))
 ·try simp only [hbx] at hb
  refine awp_skip ?_
  refine h1 _ ?_; clear h1 k1
  refine awp_le (le_keep [1, 3]) ?_
  simp only [kp, argSl, simprocAttr]
  have hq := hb
  have hR := hq.1
  have hts : c.work.ts.length ≤ 2000 := hR.2.2.1
  refine awp_sr [47] (by rw [hC]; rfl) fun k hk => ?_
  simp (maxSteps := 9^9) (disch := (try simp only [lens]); omega) only [argSl, sm, ↓amb, mark_eq, simprocAttr, fl81_0, fl78_0, sz75, el75, el76, by4, vr4, taskC, lV, dx]
  repeat refine ⟨by first | omega | (simp; done) | (unfold maxLen; omega) | (simp [maxLen]; omega) | assumption, ?_⟩
  refine hk _ ?_; clear hk k
  refine awp_seq fun k2 h2 => ?_
  refine awp_le (le_keep [1, 2, 3, 4]) ?_
  simp only [kp, argSl, simprocAttr]
  refine awp_sr [47] (by rw [hC]; rfl) fun k hk => ?_
  simp (maxSteps := 9^9) (disch := (try simp only [lens]); omega) only [argSl, sm, ↓amb, mark_eq, simprocAttr, taskC, lV, dx]
  repeat refine ⟨by first | omega | (simp; done) | (unfold maxLen; omega) | (simp [maxLen]; omega) | assumption, ?_⟩
  refine hk _ ?_; clear hk k
  refine awp_block ?_
  refine awp_loop (σ := Nat) (fun i => i ≤ c.dq.length ∧ Pl.metOk c.work (c.dq.take i).flatten) (fun (i : Nat) => ⟨[(1, (.ptr 0 7 0 0)), (3, (.p (iV c.dq.length))), (4, (.own 1)), (5, (.p (iV (i : Int))))], [(0, (.row 7 [[.p (.seq false (c.work.ts.map taskC)), .p (iV c.work.grain), .p (.seq false (c.work.done.map fun b => [bV b])), .p (.seq false (c.dq.map lV)), .p (bV c.over), .p (iV c.steps), .p (iV c.idle)]])), (1, (.row 1 (lift ((Pl.metL c.work.ts.length (c.dq.take i).flatten).map fun b => [bV b]))))], 1⟩) (fun i => c.dq.length - i) 0 ?_ ?_ fun x hx => ?_
  ·exact ⟨Nat.zero_le _, Pl.metOk_nil _⟩
  ·exact le_of [(0, _), (1, _)] (by rfl) (by rfl) ⟨⟨_, rfl, .ptr rfl⟩, ⟨_, rfl, .p (.of_eq (by first | rfl | (simp only [PV.lit.injEq, Value.int.injEq, true_and]; omega) | (simp; done) | (simp; omega)))⟩, ⟨_, rfl, .own rfl⟩, ⟨_, rfl, .p (.of_eq (by first | rfl | (simp only [PV.lit.injEq, Value.int.injEq, true_and]; omega) | (simp; done) | (simp; omega)))⟩, trivial⟩ ⟨⟨_, rfl, _, rfl, .one (.cons (.p (.refl _)) (.cons (.p (.refl _)) (.cons (.p (.refl _)) (.cons (.p (.refl _)) (.cons (.p (.refl _)) (.cons (.p (.refl _)) (.cons (.p (.refl _)) (.nil))))))))⟩, ⟨_, rfl, _, rfl, .liftE (by first | (rw [show (c.dq.take 0).flatten = [] from rfl, Pl.metL_nil, List.map_replicate]; done) | (rw [Pl.flat_succ c.dq x (by omega), List.take_of_length_le (l := (c.dq.getD x default)) (i := y) (by omega)]; done) | trace_state)⟩, trivial⟩
  obtain ⟨hx1, hx2⟩ := hx
  refine awp_seq fun k4 h4 => ?_
  refine awp_le (le_keep [0, 1, 2, 3, 4, 5]) ?_
  simp only [kp, argSl, simprocAttr]
  refine awp_sr [47] (by rw [hC]; rfl) fun k hk => ?_
  simp (maxSteps := 9^9) (disch := (try simp only [lens]); omega) only [argSl, sm, ↓amb, mark_eq, simprocAttr, taskC, lV, dx]
  repeat refine ⟨by first | omega | (simp; done) | (unfold maxLen; omega) | (simp [maxLen]; omega) | assumption, ?_⟩
  refine hk _ ?_; clear hk k
  refine awp_cond rfl (fun hb => ?_) (fun hb => ?_)
  ·try simp only [hbx] at hb
   refine awp_skip ?_
   refine h4 _ ?_; clear h4 k4
   refine awp_seq fun k5 h5 => ?_
   refine awp_block ?_
   refine awp_le (le_keep [0, 1, 2, 3, 4, 5]) ?_
   simp only [kp, argSl, simprocAttr]
   refine awp_sr [47] (by rw [hC]; rfl) fun k hk => ?_
   simp (maxSteps := 9^9) (disch := (try simp only [lens]); omega) only [argSl, sm, ↓amb, mark_eq, simprocAttr, taskC, lV, dx]
   repeat refine ⟨by first | omega | (simp; done) | (unfold maxLen; omega) | (simp [maxLen]; omega) | assumption, ?_⟩
   refine hk _ ?_; clear hk k
   refine awp_block ?_
   refine awp_loop (σ := Nat) (fun y => y ≤ (c.dq.getD x default).length ∧ Pl.metOk c.work ((c.dq.take x).flatten ++ (c.dq.getD x default).take y)) (fun (y : Nat) => ⟨[(1, (.ptr 0 7 0 0)), (3, (.p (iV c.dq.length))), (4, (.own 1)), (5, (.p (iV (x : Int)))), (6, (.p (iV (y : Int))))], [(0, (.row 7 [[.p (.seq false (c.work.ts.map taskC)), .p (iV c.work.grain), .p (.seq false (c.work.done.map fun b => [bV b])), .p (.seq false (c.dq.map lV)), .p (bV c.over), .p (iV c.steps), .p (iV c.idle)]])), (1, (.row 1 (lift ((Pl.metL c.work.ts.length ((c.dq.take x).flatten ++ (c.dq.getD x default).take y)).map fun b => [bV b]))))], 1⟩) (fun y => (c.dq.getD x default).length - y) 0 ?_ ?_ fun y hy => ?_
   ·exact ⟨Nat.zero_le _, by rw [List.take_zero, List.append_nil]; exact hx2⟩
   ·exact le_of [(0, _), (1, _)] (by rfl) (by rfl) ⟨⟨_, rfl, .ptr rfl⟩, ⟨_, rfl, .p (.of_eq (by first | rfl | (simp only [PV.lit.injEq, Value.int.injEq, true_and]; omega) | (simp; done) | (simp; omega)))⟩, ⟨_, rfl, .own rfl⟩, ⟨_, rfl, .p (.of_eq (by first | rfl | (simp only [PV.lit.injEq, Value.int.injEq, true_and]; omega) | (simp; done) | (simp; omega)))⟩, ⟨_, rfl, .p (.of_eq (by first | rfl | (simp only [PV.lit.injEq, Value.int.injEq, true_and]; omega) | (simp; done) | (simp; omega)))⟩, trivial⟩ ⟨⟨_, rfl, _, rfl, .one (.cons (.p (.refl _)) (.cons (.p (.refl _)) (.cons (.p (.refl _)) (.cons (.p (.refl _)) (.cons (.p (.refl _)) (.cons (.p (.refl _)) (.cons (.p (.refl _)) (.nil))))))))⟩, ⟨_, rfl, _, rfl, .liftE (by first | (rw [List.take_zero, List.append_nil]; done) | (rw [Pl.take_succ_at _ _ (by omega), ← List.append_assoc]; exact (List.map_set ..).symm.trans (congrArg (List.map _) (Pl.metL_snoc hho.1))) | trace_state)⟩, trivial⟩
   obtain ⟨hy1, hy2⟩ := hy
   refine awp_seq fun k7 h7 => ?_
   refine awp_le (le_keep [0, 1, 2, 3, 4, 5, 6]) ?_
   simp only [kp, argSl, simprocAttr]
   have hll := hl (c.dq.getD x default) (Pl.getD_mem _ _ _ (by omega))
   refine awp_sr [47] (by rw [hC]; rfl) fun k hk => ?_
   simp (maxSteps := 9^9) (disch := (try simp only [lens]); omega) only [argSl, sm, ↓amb, mark_eq, simprocAttr, fl81_1, sz79, el79, sz32, el32, taskC, lV, dx]
   repeat refine ⟨by first | omega | (simp; done) | (unfold maxLen; omega) | (simp [maxLen]; omega) | assumption, ?_⟩
   refine hk _ ?_; clear hk k
   refine awp_cond rfl (fun hb => ?_) (fun hb => ?_)
   ·try simp only [hbx] at hb
    refine awp_skip ?_
    refine h7 _ ?_; clear h7 k7
    refine awp_seq fun k8 h8 => ?_
    refine awp_block ?_
    refine awp_le (le_keep [0, 1, 2, 3, 4, 5, 6]) ?_
    simp only [kp, argSl, simprocAttr]
    refine awp_sr [47] (by rw [hC]; rfl) fun k hk => ?_
    simp (maxSteps := 9^9) (disch := (try simp only [lens]); omega) only [argSl, sm, ↓amb, mark_eq, simprocAttr, fl81_1, sz79, el79, sz32, el32, sz3, taskC, lV, dx]
    repeat refine ⟨by first | omega | (simp; done) | (unfold maxLen; omega) | (simp [maxLen]; omega) | assumption, ?_⟩
    refine hk _ ?_; clear hk k
    refine awp_seq fun k9 h9 => ?_
    have hkl := hll.2 ((c.dq.getD x default).getD y 0) (Pl.getD_mem _ _ _ (by omega))
    have hml := Pl.metL_len c.work.ts.length ((c.dq.take x).flatten ++ (c.dq.getD x default).take y)
    refine awp_testD [47] ⟨[0, 1, 3, 7, 7, 23, 63, 127, 255, 511, 511, 2047, 4095, 8191, 16383, 32767, 65535, 131071, 32767, 524287, 1048575, 2097151, 4194303, 8388607, 16777215, 33554431, 67108863, 33554431, 268435455, 536870911, 1073741823, 2147483647, 4294967295, 8589934591, 2147483647, 19327352831, 53687091199, 2147483647, 259845521407, 534723428351, 1084479242239, 2199023255551, 4398046511103, 8796093022207, 17592186044415], [5, 12, 17, 21, 26, 33, 36, 40, 42], [], [(28, 33), (28, 36), (28, 40), (28, 42)], some []⟩ 115 (decide (¬ Pl.heldOk c.work ((c.dq.take x).flatten ++ (c.dq.getD x default).take y) ((c.dq.getD x default).getD y 0))) [0, 1, 2, 3, 4, 5, 6, 7] (by rw [hC]; rfl) (by kernel_rfl) (by kernel_rfl) (fun gd hgd k hk => ?_) ?_
    ·have g2 : gd 2 = some 73 := by rw [hgd]; rfl
     have g8 : gd 8 = some 79 := by rw [hgd]; rfl
     have g14 : gd 14 = some 85 := by rw [hgd]; rfl
     have g24 : gd 24 = some 95 := by rw [hgd]; rfl
     have g30 : gd 30 = some 101 := by rw [hgd]; rfl
     clear hgd
     simp (maxSteps := 9^9) (disch := (try simp only [lens]); omega) only [argSl, sm, ↓amb, mark_eq, simprocAttr, el76, sz4, fl81_0, fl78_0, sz75, el75, sz114, fl114_3, sz3, sz78, en92, fl78_2, sz76, fl114_0, gcase_undef, g2, g8, g14, g24, g30, taskC, lV, dx]
     repeat' first | refine hk _ _ rfl rfl rfl rfl ?_ | (refine gsplit (fun hg => ?_) (fun hg => ?_) <;> (try simp only [hbx] at hg) <;> (try (have hin : ((c.dq.getD x default).getD y 0).toNat < c.work.ts.length := by omega); try (have hok := hR.2.2.2 _ hin; simp only [Pl.okT] at hok; have hcn := hR.1; simp only [Pl.cnt] at hcn)) <;> simp (maxSteps := 9^9) (disch := (try simp only [lens]); omega) only [argSl, sm, ↓amb, mark_eq, simprocAttr, el76, sz4, fl81_0, fl78_0, sz75, el75, sz114, fl114_3, sz3, sz78, en92, fl78_2, sz76, fl114_0, gcase_undef, g2, g8, g14, g24, g30, taskC, lV, dx]) | apply And.intro | (refine callK_p (c40 _ _ _ _) rfl ?_; (try simp (maxSteps := 9^9) (disch := (try simp only [lens]); omega) only [argSl, sm, ↓amb, mark_eq, simprocAttr, el76, sz4, fl81_0, fl78_0, sz75, el75, sz114, fl114_3, sz3, sz78, en92, fl78_2, sz76, fl114_0, gcase_undef, g2, g8, g14, g24, g30, taskC, lV, dx])) | fail
     all_goals first | rfl | omega | exact (decide_eq_true (by omega)).symm | exact (decide_eq_false (by omega)).symm | exact decide_eq_decide.mpr (by omega) | (refine Bool.eq_iff_iff.mpr ?_; simp only [beq_iff_eq, bne_iff_ne, ne_eq, decide_eq_true_eq]; omega) | (refine Bool.eq_iff_iff.mpr ?_; simp only [Bool.not_eq_true', Bool.not_eq_false', decide_eq_false_iff_not, decide_eq_true_eq, beq_iff_eq, bne_iff_ne, ne_eq]; omega) | assumption | (simp; done) | (simp [maxLen]; omega) | skip
     all_goals first | (refine (decide_eq_true ?_).symm; intro q; first | (have q1 := q.1; have q2 := q.2.1; omega) | exact q.2.2.1 (Pl.metL_in q.1 q.2.1 (by assumption)) | exact absurd q.2.2.2.1 (by assumption)) | (refine (decide_eq_false ?_).symm; intro q; exact q ⟨by omega, by omega, Pl.metL_out (n := c.work.ts.length) (by omega) (by omega) (by assumption), by assumption, .inl (by assumption)⟩) | exact Pl.held_last (by omega) (by omega) (Pl.metL_out (n := c.work.ts.length) (by omega) (by omega) (by assumption)) (by assumption) (by assumption) | trace_state
    simp only [kp, argSl, simprocAttr, List.length_cons, List.length_nil]
    refine awp_cond rfl (fun hb => ?_) (fun hb => ?_)
    ·try simp only [hbx] at hb
     refine awp_le (le_keep []) ?_
     simp only [kp, argSl, simprocAttr]
     refine awp_sr [47] (by rw [hC]; rfl) fun k hk => ?_
     simp (maxSteps := 9^9) (disch := (try simp only [lens]); omega) only [argSl, sm, ↓amb, mark_eq, simprocAttr, taskC, lV, dx]
     repeat refine ⟨by first | omega | (simp; done) | (unfold maxLen; omega) | (simp [maxLen]; omega) | assumption, ?_⟩
     refine hk _ ?_; clear hk k
     refine awp_ret ?_
     obtain ⟨r, hr⟩ := Pl.flat_at c.dq x y (by omega) (by omega)
     refine ret1 rfl rfl ?_
     exact .p (LeP.of_eq (by rw [decide_eq_false (Pl.crewRight_not hb hr)]))
    ·try simp only [hbx] at hb
     refine awp_skip ?_
     refine h9 _ ?_; clear h9 k9
     have hho := hb
     have hq0 := hho.1
     have hq1 := hho.2.1
     refine awp_region [47] (by rw [hC]; rfl) fun k hk => ?_
     simp (maxSteps := 9^9) (disch := (try simp only [lens]); omega) only [argSl, sm, ↓amb, mark_eq, simprocAttr, el76, sz4, taskC, lV, dx]
     repeat refine ⟨by first | omega | (simp; done) | (unfold maxLen; omega) | (simp [maxLen]; omega) | assumption, ?_⟩
     refine hk _ ?_; clear hk k
     refine h8 _ ?_; clear h8 k8
     refine awp_region [47] (by rw [hC]; rfl) fun k hk => ?_
     simp (maxSteps := 9^9) (disch := (try simp only [lens]); omega) only [argSl, sm, ↓amb, mark_eq, simprocAttr, taskC, lV, dx]
     repeat refine ⟨by first | omega | (simp; done) | (unfold maxLen; omega) | (simp [maxLen]; omega) | assumption, ?_⟩
     refine hk _ ?_; clear hk k
     refine ⟨y + 1, ⟨by omega, by rw [Pl.take_succ_at _ _ (by omega), ← List.append_assoc]; exact Pl.metOk_more hy2 hho⟩, le_of [(0, _), (1, _)] (by rfl) (by rfl) ⟨⟨_, rfl, .ptr rfl⟩, ⟨_, rfl, .p (.of_eq (by first | rfl | (simp only [PV.lit.injEq, Value.int.injEq, true_and]; omega) | (simp; done) | (simp; omega)))⟩, ⟨_, rfl, .own rfl⟩, ⟨_, rfl, .p (.of_eq (by first | rfl | (simp only [PV.lit.injEq, Value.int.injEq, true_and]; omega) | (simp; done) | (simp; omega)))⟩, ⟨_, rfl, .p (.of_eq (by first | rfl | (simp only [PV.lit.injEq, Value.int.injEq, true_and]; omega) | (simp; done) | (simp; omega)))⟩, trivial⟩ ⟨⟨_, rfl, _, rfl, .one (.cons (.p (.refl _)) (.cons (.p (.refl _)) (.cons (.p (.refl _)) (.cons (.p (.refl _)) (.cons (.p (.refl _)) (.cons (.p (.refl _)) (.cons (.p (.refl _)) (.nil))))))))⟩, ⟨_, rfl, _, rfl, .liftE (by first | (rw [List.take_zero, List.append_nil]; done) | (rw [Pl.take_succ_at _ _ (by omega), ← List.append_assoc]; exact (List.map_set ..).symm.trans (congrArg (List.map _) (Pl.metL_snoc hho.1))) | trace_state)⟩, trivial⟩, by omega⟩
   ·try simp only [hbx] at hb
    refine awp_exit ((if_pos rfl).mpr ?_)
    refine h5 _ ?_; clear h7 k7; clear h5 k5
    refine awp_region [47] (by rw [hC]; rfl) fun k hk => ?_
    simp (maxSteps := 9^9) (disch := (try simp only [lens]); omega) only [argSl, sm, ↓amb, mark_eq, simprocAttr, taskC, lV, dx]
    repeat refine ⟨by first | omega | (simp; done) | (unfold maxLen; omega) | (simp [maxLen]; omega) | assumption, ?_⟩
    refine hk _ ?_; clear hk k
    refine ⟨x + 1, ⟨by omega, by rw [Pl.flat_succ c.dq x (by omega)]; rw [List.take_of_length_le (l := (c.dq.getD x default)) (i := y) (by omega)] at hy2; exact hy2⟩, le_of [(0, _), (1, _)] (by rfl) (by rfl) ⟨⟨_, rfl, .ptr rfl⟩, ⟨_, rfl, .p (.of_eq (by first | rfl | (simp only [PV.lit.injEq, Value.int.injEq, true_and]; omega) | (simp; done) | (simp; omega)))⟩, ⟨_, rfl, .own rfl⟩, ⟨_, rfl, .p (.of_eq (by first | rfl | (simp only [PV.lit.injEq, Value.int.injEq, true_and]; omega) | (simp; done) | (simp; omega)))⟩, trivial⟩ ⟨⟨_, rfl, _, rfl, .one (.cons (.p (.refl _)) (.cons (.p (.refl _)) (.cons (.p (.refl _)) (.cons (.p (.refl _)) (.cons (.p (.refl _)) (.cons (.p (.refl _)) (.cons (.p (.refl _)) (.nil))))))))⟩, ⟨_, rfl, _, rfl, .liftE (by first | (rw [show (c.dq.take 0).flatten = [] from rfl, Pl.metL_nil, List.map_replicate]; done) | (rw [Pl.flat_succ c.dq x (by omega), List.take_of_length_le (l := (c.dq.getD x default)) (i := y) (by omega)]; done) | trace_state)⟩, trivial⟩, by omega⟩
  ·try simp only [hbx] at hb
   refine awp_exit ((if_pos rfl).mpr ?_)
   refine h2 _ ?_; clear h4 k4; clear h2 k2
   refine awp_le (le_keep []) ?_
   simp only [kp, argSl, simprocAttr]
   refine awp_sr [47] (by rw [hC]; rfl) fun k hk => ?_
   simp (maxSteps := 9^9) (disch := (try simp only [lens]); omega) only [argSl, sm, ↓amb, mark_eq, simprocAttr, taskC, lV, dx]
   repeat refine ⟨by first | omega | (simp; done) | (unfold maxLen; omega) | (simp [maxLen]; omega) | assumption, ?_⟩
   refine hk _ ?_; clear hk k
   refine awp_ret ?_
   rw [List.take_of_length_le (by omega)] at hx2
   refine ret1 rfl rfl ?_
   exact .p (LeP.of_eq (by rw [decide_eq_true (show Pl.crewRight c from ⟨hq.1, hq.2.1, hq.2.2.1, hq.2.2.2.1, hq.2.2.2.2, hx2.1, hx2.2⟩)]))
end Go.Proofs.Ythelnccjcbnjfaa
