/-
  DedupKeys, part 4 of 6: what the proof that the law holds at whatever arguments stands on; the last part holds the theorem. No condition.
-/
import Derived.Test.YtbehekmnccoifaaDedupKeysZ3
import Derived.Test.YtbehekmnccoifaaRows
section
set_option linter.unusedSimpArgs false
set_option linter.unusedVariables false
set_option maxRecDepth 100000
namespace Go.Proofs.Ytbehekmnccoifaa
open Go.Am Go.Proofs
theorem bt118 : tBuilt Try.prog 118 = true := by kernel_rfl
theorem bt88 : tBuilt Try.prog 88 = true := by kernel_rfl
theorem bt91 : tBuilt Try.prog 91 = true := by kernel_rfl
theorem by3 : tBytes Try.prog 3 = some 8 := by kernel_rfl
theorem by33 : tBytes Try.prog 33 = some 24 := by kernel_rfl
theorem by4 : tBytes Try.prog 4 = some 1 := by kernel_rfl
theorem el23 : tEl Try.prog 23 = some 4 := by kernel_rfl
theorem el33 : tEl Try.prog 33 = some 3 := by kernel_rfl
theorem el86 : tEl Try.prog 86 = some 118 := by kernel_rfl
theorem el89 : tEl Try.prog 89 = some 33 := by kernel_rfl
theorem en93 : enters Try.prog 93 = true := by kernel_rfl
theorem en99 : enters Try.prog 99 = true := by kernel_rfl
theorem fl91_1 : tFld Try.prog 91 1 = some (3, 1, false) := by kernel_rfl
theorem pl118_1 : tPlace Try.prog 118 1 = some (1, 1) := by kernel_rfl
theorem pl118_2 : tPlace Try.prog 118 2 = some (2, 1) := by kernel_rfl
theorem pl88_0 : tPlace Try.prog 88 0 = some (0, 1) := by kernel_rfl
theorem pl88_1 : tPlace Try.prog 88 1 = some (1, 1) := by kernel_rfl
theorem pl88_2 : tPlace Try.prog 88 2 = some (2, 1) := by kernel_rfl
theorem pl91_0 : tPlace Try.prog 91 0 = some (0, 3) := by kernel_rfl
theorem pl91_1 : tPlace Try.prog 91 1 = some (3, 1) := by kernel_rfl
theorem sz33 : tSz Try.prog 33 = some (false, 1) := by kernel_rfl
theorem sz88 : tSz Try.prog 88 = some (true, 3) := by kernel_rfl
theorem sz89 : tSz Try.prog 89 = some (false, 1) := by kernel_rfl
theorem sz91 : tSz Try.prog 91 = some (true, 7) := by kernel_rfl
theorem vr118 : tVar Try.prog 118 = some (true, [.lit (.int .i64 0), .lit (.int .i64 0), .lit (.int .i64 0), .lit (.int .i64 0)]) := by kernel_rfl
theorem vr3 : tVar Try.prog 3 = some (false, [.lit (.int .i64 0)]) := by kernel_rfl
theorem vr33 : tVar Try.prog 33 = some (false, [.seq true []]) := by kernel_rfl
theorem vr4 : tVar Try.prog 4 = some (false, [.lit (.bool false)]) := by kernel_rfl
theorem vr88 : tVar Try.prog 88 = some (true, [.seq true [], .lit (.int .i64 0), .seq true []]) := by kernel_rfl
theorem vr91 : tVar Try.prog 91 = some (true, [.seq true [], .lit (.int .i64 0), .seq true [], .seq true [], .lit (.bool false), .lit (.int .i64 0), .lit (.int .i64 0)]) := by kernel_rfl
set_option maxHeartbeats 4000000 in
theorem c55 (n g : Int) : PCall Try.prog 99 [iV n, iV g] (bV (decide (Pl.cnt n g))) := by
 refine pcall_of_awp Try.func99 rfl (by simp [Try.ntmps99]) fun C hC => ?_
 refine awp_sr [] (by rw [hC]; rfl) fun k hk => ?_
 simp (maxSteps := 9^9) (disch := (try simp only [lens]); omega) only [argSl, sm, ↓amb, mark_eq, simprocAttr, dx]
 repeat refine an ?_
 refine hk _ ?_; clear hk k
 refine awp_test [] 4 (decide (Pl.cnt n g)) [] (by rw [hC]; rfl) (fun gd hgd k hk => ?_) ?_
 ·have g2 : gd 2 = some 7 := by rw [hgd]; rfl
  have g6 : gd 6 = some 11 := by rw [hgd]; rfl
  have g10 : gd 10 = some 15 := by rw [hgd]; rfl
  clear hgd
  simp (maxSteps := 9^9) (disch := (try simp only [lens]); omega) only [argSl, sm, ↓amb, mark_eq, simprocAttr, gcase_undef, g2, g6, g10, dx]
  repeat' first | refine hk _ _ rfl rfl rfl rfl ?_ | (refine gsplit (fun hg => ?_) (fun hg => ?_) <;> (try simp only [hbx] at hg) <;> simp (maxSteps := 9^9) (disch := (try simp only [lens]); omega) only [argSl, sm, ↓amb, mark_eq, simprocAttr, gcase_undef, g2, g6, g10, dx]) | apply And.intro | fail
  all_goals first | rfl | omega | exact (decide_eq_true (by (try simp only [Pl.cnt] at *); omega)).symm | exact (decide_eq_false (by (try simp only [Pl.cnt] at *); omega)).symm | exact decide_eq_decide.mpr (by (try simp only [Pl.cnt] at *); omega) | (refine Bool.eq_iff_iff.mpr ?_; (try simp only [Pl.cnt] at *); simp only [beq_iff_eq, bne_iff_ne, ne_eq, decide_eq_true_eq]; omega) | (refine Bool.eq_iff_iff.mpr ?_; simp only [Bool.not_eq_true', Bool.not_eq_false', decide_eq_false_iff_not, decide_eq_true_eq, beq_iff_eq, bne_iff_ne, ne_eq]; (try simp only [Pl.cnt] at *); omega) | assumption | (simp; done) | (simp [maxLen]; omega) | skip
 simp only [kp, argSl, simprocAttr, List.length_cons, List.length_nil]
 refine awp_ret ?_
 refine ret1 rfl rfl ?_
 exact .p (LeP.refl _)
set_option maxHeartbeats 4000000 in
theorem c32 (n g : Int) (hn : n ≤ 4000000000) : PCall Try.prog 93 [iV n, iV g] (.tup [workV false false (Pl.beginW n g), iV (Pl.beginE n g)]) := by
 refine pcall_of_awp Try.func93 rfl (by simp [Try.ntmps93]) fun C hC => ?_
 refine awp_sr [16] (by rw [hC]; rfl) fun k hk => ?_
 simp (maxSteps := 9^9) (disch := (try simp only [lens]); omega) only [argSl, sm, ↓amb, mark_eq, simprocAttr, vr88, dx]
 repeat refine an ?_
 refine hk _ ?_; clear hk k
 refine awp_seq fun k1 h1 => ?_
 refine awp_sr [16] (by rw [hC]; rfl) fun k hk => ?_
 simp (maxSteps := 9^9) (disch := (try simp only [lens]); omega) only [argSl, sm, ↓amb, mark_eq, simprocAttr, en99, dx]
 repeat refine an ?_
 refine callK_p (c55 _ _) rfl ?_
 simp (maxSteps := 9^9) (disch := (try simp only [lens]); omega) only [argSl, sm, ↓amb, mark_eq, simprocAttr, en99, dx]
 repeat refine an ?_
 refine hk _ ?_; clear hk k
 refine awp_cond rfl (fun hb => ?_) (fun hb => ?_)
 ·try simp only [hbx] at hb
  refine awp_sr [16] (by rw [hC]; rfl) fun k hk => ?_
  simp (maxSteps := 9^9) (disch := (try simp only [lens]); omega) only [argSl, sm, ↓amb, mark_eq, simprocAttr, vr88, bt88, sz88, dx]
  repeat refine an ?_
  refine hk _ ?_; clear hk k
  refine awp_ret ?_
  have e1 : Pl.beginW n g = ⟨[], 0, []⟩ := by rw [Pl.beginW, if_neg hb]
  have e2 : Pl.beginE n g = 1 := by rw [Pl.beginE, if_neg hb]
  rw [e1, e2]
  refine retl rfl rfl ⟨retc rfl sz88 ?_, rett rfl ?_, trivial⟩
  simp (maxSteps := 9^9) (disch := (try simp only [lens]); omega) only [argSl, sm, ↓amb, mark_eq, simprocAttr, sz88, dx]
  ·exact .p (LeP.agg (.cons (LeP.seq _ _) (.cons (LeP.refl _) (.cons (LeP.seq _ _) .nil))))
  ·exact .p (LeP.refl _)
 ·try simp only [hbx] at hb
  refine awp_skip ?_
  refine h1 _ ?_; clear h1 k1
  have hb1 := hb
  simp only [Pl.cnt] at hb1
  refine awp_sr [16] (by rw [hC]; rfl) fun k hk => ?_
  simp (maxSteps := 9^9) (disch := (try simp only [lens]); omega) only [argSl, sm, ↓amb, mark_eq, simprocAttr, vr118, bt118, pl118_1, pl118_2, el86, el23, by4, vr4, vr88, bt88, pl88_0, pl88_1, pl88_2, sz88, dx]
  repeat refine an ?_
  refine hk _ ?_; clear hk k
  refine awp_ret ?_
  have e1 : Pl.beginW n g = ⟨[⟨0, n, -1, 0⟩], g, List.replicate n.toNat false⟩ := by rw [Pl.beginW, if_pos hb]
  have e2 : Pl.beginE n g = 0 := by rw [Pl.beginE, if_pos hb]
  rw [e1, e2]
  refine retl rfl rfl ⟨retc rfl sz88 ?_, rett rfl ?_, trivial⟩
  simp (maxSteps := 9^9) (disch := (try simp only [lens]); omega) only [argSl, sm, ↓amb, mark_eq, simprocAttr, sz88, dx]
  ·exact .agg_cons (.p (LeP.sq rfl)) (.agg_cons (.p (LeP.refl _)) (.agg_cons (.ownE rfl (by simp)) (.agg_nil)))
  ·exact .p (LeP.refl _)
set_option maxHeartbeats 4000000 in
theorem c42 (n g p : Int) (hn : n ≤ 4000000000) : PCall Try.prog 79 [iV n, iV g, iV p] (.tup [.agg (crewC (Pl.crewBegin n g p).1), iV (Pl.crewBegin n g p).2]) := by
 refine pcall_of_awp Try.func79 rfl (by simp [Try.ntmps79]) fun C hC => ?_
 refine awp_le (le_keep [0, 1, 2]) ?_
 simp only [kp, argSl, simprocAttr]
 refine awp_sr [29] (by rw [hC]; rfl) fun k hk => ?_
 simp (maxSteps := 9^9) (disch := (try simp only [lens]); omega) only [argSl, sm, ↓amb, mark_eq, simprocAttr, vr91, taskC, Pl.rep_get0, dx]
 repeat refine an ?_
 refine hk _ ?_; clear hk k
 refine awp_seq fun k1 h1 => ?_
 refine awp_test [29] 16 (decide (p < 1 ∨ 8 < p)) [0, 1, 2, 6, 7] (by rw [hC]; rfl) (fun gd hgd k hk => ?_) ?_
 ·have g2 : gd 2 = some 13 := by rw [hgd]; rfl
  clear hgd
  simp (maxSteps := 9^9) (disch := (try simp only [lens]); omega) only [argSl, sm, ↓amb, mark_eq, simprocAttr, gcase_undef, g2, taskC, Pl.rep_get0, dx]
  repeat' first | refine hk _ _ rfl rfl rfl rfl ?_ | (refine gsplit (fun hg => ?_) (fun hg => ?_) <;> (try simp only [hbx] at hg) <;> simp (maxSteps := 9^9) (disch := (try simp only [lens]); omega) only [argSl, sm, ↓amb, mark_eq, simprocAttr, gcase_undef, g2, taskC, Pl.rep_get0, dx]) | apply And.intro | fail
  all_goals first | rfl | omega | exact (decide_eq_true (by omega)).symm | exact (decide_eq_false (by omega)).symm | exact decide_eq_decide.mpr (by omega) | (refine Bool.eq_iff_iff.mpr ?_; simp only [beq_iff_eq, bne_iff_ne, ne_eq, decide_eq_true_eq]; omega) | (refine Bool.eq_iff_iff.mpr ?_; simp only [Bool.not_eq_true', Bool.not_eq_false', decide_eq_false_iff_not, decide_eq_true_eq, beq_iff_eq, bne_iff_ne, ne_eq]; omega) | assumption | (simp; done) | (simp [maxLen]; omega) | skip
 simp only [kp, argSl, simprocAttr, List.length_cons, List.length_nil]
 refine awp_cond rfl (fun hb => ?_) (fun hb => ?_)
 ·try simp only [hbx] at hb
  refine awp_le (le_keep [6]) ?_
  simp only [kp, argSl, simprocAttr]
  refine awp_sr [29] (by rw [hC]; rfl) fun k hk => ?_
  simp (maxSteps := 9^9) (disch := (try simp only [lens]); omega) only [argSl, sm, ↓amb, mark_eq, simprocAttr, vr91, bt91, sz91, taskC, Pl.rep_get0, dx]
  repeat refine an ?_
  refine hk _ ?_; clear hk k
  refine awp_ret ?_
  rw [Pl.begin_1 hb]
  refine retl rfl rfl ⟨retc rfl sz91 ?_, rett rfl ?_, trivial⟩
  simp (maxSteps := 9^9) (disch := (try simp only [lens]); omega) only [argSl, sm, ↓amb, mark_eq, simprocAttr, sz91, taskC, Pl.rep_get0, dx]
  ·exact .p (LeP.agg (.cons (LeP.seq _ _) (.cons (LeP.refl _) (.cons (LeP.seq _ _) (.cons (LeP.seq _ _) (.cons (LeP.refl _) (.cons (LeP.refl _) (.cons (LeP.refl _) .nil))))))))
  ·exact .p (LeP.refl _)
 ·try simp only [hbx] at hb
  refine awp_skip ?_
  refine h1 _ ?_; clear h1 k1
  refine awp_le (le_keep [0, 1, 2, 6]) ?_
  simp only [kp, argSl, simprocAttr]
  have hp := hb
  refine awp_sr [29] (by rw [hC]; rfl) fun k hk => ?_
  simp (maxSteps := 9^9) (disch := (try simp only [lens]); omega) only [argSl, sm, ↓amb, mark_eq, simprocAttr, en93, vr88, sz88, taskC, Pl.rep_get0, dx]
  repeat refine an ?_
  refine callK_p (c32 _ _ (by omega)) rfl ?_
  simp (maxSteps := 9^9) (disch := (try simp only [lens]); omega) only [argSl, sm, ↓amb, mark_eq, simprocAttr, en93, vr88, sz88, taskC, Pl.rep_get0, dx]
  repeat refine an ?_
  refine hk _ ?_; clear hk k
  refine awp_seq fun k2 h2 => ?_
  refine awp_le (le_keep [2, 6, 7, 8, 9]) ?_
  simp only [kp, argSl, simprocAttr]
  refine awp_sr [29] (by rw [hC]; rfl) fun k hk => ?_
  simp (maxSteps := 9^9) (disch := (try simp only [lens]); omega) only [argSl, sm, ↓amb, mark_eq, simprocAttr, taskC, Pl.rep_get0, dx]
  repeat refine an ?_
  refine hk _ ?_; clear hk k
  refine awp_cond rfl (fun hb => ?_) (fun hb => ?_)
  ·try simp only [hbx] at hb
   refine awp_le (le_keep [6, 9]) ?_
   simp only [kp, argSl, simprocAttr]
   refine awp_sr [29] (by rw [hC]; rfl) fun k hk => ?_
   simp (maxSteps := 9^9) (disch := (try simp only [lens]); omega) only [argSl, sm, ↓amb, mark_eq, simprocAttr, vr91, bt91, sz91, taskC, Pl.rep_get0, dx]
   repeat refine an ?_
   refine hk _ ?_; clear hk k
   refine awp_ret ?_
   obtain ⟨e1, e2⟩ := Pl.begin_2 hp hb
   rw [e1]
   refine retl rfl rfl ⟨retc rfl sz91 ?_, rett rfl ?_, trivial⟩
   simp (maxSteps := 9^9) (disch := (try simp only [lens]); omega) only [argSl, sm, ↓amb, mark_eq, simprocAttr, sz91, taskC, Pl.rep_get0, dx]
   ·exact .p (LeP.agg (.cons (LeP.seq _ _) (.cons (LeP.refl _) (.cons (LeP.seq _ _) (.cons (LeP.seq _ _) (.cons (LeP.refl _) (.cons (LeP.refl _) (.cons (LeP.refl _) .nil))))))))
   ·exact .p (LeP.of_eq (by rw [e2]))
  ·try simp only [hbx] at hb
   refine awp_skip ?_
   refine h2 _ ?_; clear h2 k2
   refine awp_le (le_keep [2, 6, 8]) ?_
   simp only [kp, argSl, simprocAttr]
   have hbe := hb
   refine awp_sr [29] (by rw [hC]; rfl) fun k hk => ?_
   simp (maxSteps := 9^9) (disch := (try simp only [lens]); omega) only [argSl, sm, ↓amb, mark_eq, simprocAttr, el89, by33, vr33, taskC, Pl.rep_get0, dx]
   repeat refine an ?_
   refine hk _ ?_; clear hk k
   refine awp_le (le_keep [6, 8, 10]) ?_
   simp only [kp, argSl, simprocAttr]
   refine awp_sr [29] (by rw [hC]; rfl) fun k hk => ?_
   simp (maxSteps := 9^9) (disch := (try simp only [lens]); omega) only [argSl, sm, ↓amb, mark_eq, simprocAttr, el89, sz33, el33, vr3, by3, taskC, Pl.rep_get0, dx]
   repeat refine an ?_
   refine hk _ ?_; clear hk k
   refine awp_le (le_keep [6, 8, 10]) ?_
   simp only [kp, argSl, simprocAttr]
   refine awp_le (show LE _ (⟨[(6, (.ptr 0 7 0 0)), (8, (.ptr 1 3 0 0)), (10, (.own 2))], [(0, (.row 7 [[.p (.seq true []), .p (iV 0), .p (.seq true []), .p (.seq true []), .p (bV false), .p (iV 0), .p (iV 0)]])), (1, (.row 3 [[.p (.seq false ((Pl.beginW n g).ts.map taskC)), .p (iV (Pl.beginW n g).grain), .p (.seq false ((Pl.beginW n g).done.map fun b => [bV b]))]])), (2, (.row 1 (lift ((Pl.dq0 p).map lV))))], 1⟩ : LS) from le_of [(0, _), (1, _), (2, _)] (by rfl) (by rfl) ⟨⟨_, rfl, .ptr rfl⟩, ⟨_, rfl, .ptr rfl⟩, ⟨_, rfl, .own rfl⟩, trivial⟩ ⟨⟨_, rfl, _, rfl, .one (.cons (.p (.refl _)) (.cons (.p (.refl _)) (.cons (.p (.refl _)) (.cons (.p (.refl _)) (.cons (.p (.refl _)) (.cons (.p (.refl _)) (.cons (.p (.refl _)) (.nil))))))))⟩, ⟨_, rfl, _, rfl, .one (.cons (.p (.refl _)) (.cons (.p (.refl _)) (.cons (.p (.refl _)) .nil)))⟩, ⟨_, rfl, _, rfl, Pl.leB_dq0 (by omega)⟩, trivial⟩) ?_
   refine awp_sr [29] (by rw [hC]; rfl) fun k hk => ?_
   simp (maxSteps := 9^9) (disch := (try simp only [lens]); omega) only [argSl, sm, ↓amb, mark_eq, simprocAttr, sz88, vr91, bt91, pl91_0, pl91_1, sz91, taskC, Pl.rep_get0, dx]
   repeat refine an ?_
   refine hk _ ?_; clear hk k
   refine awp_ret ?_
   rw [Pl.begin_3 hp hbe]
   refine retl rfl rfl ⟨retc rfl sz91 ?_, rett rfl ?_, trivial⟩
   simp (maxSteps := 9^9) (disch := (try simp only [lens]); omega) only [argSl, sm, ↓amb, mark_eq, simprocAttr, sz91, taskC, Pl.rep_get0, dx]
   ·exact .agg_cons (.p (LeP.refl _)) (.agg_cons (.p (LeP.refl _)) (.agg_cons (.p (LeP.refl _)) (.agg_cons (.ownE rfl rfl) (.agg_cons (.p (LeP.refl _)) (.agg_cons (.p (LeP.refl _)) (.agg_cons (.p (LeP.refl _)) (.agg_nil)))))))
   ·exact .p (LeP.refl _)
end Go.Proofs.Ytbehekmnccoifaa
end
section
set_option linter.unusedSimpArgs false
set_option linter.unusedVariables false
set_option maxRecDepth 100000
namespace Go.Proofs.Ytbehekmnccoifaa
open Go.Am Go.Proofs
theorem by118 : tBytes Try.prog 118 = some 32 := by kernel_rfl
theorem en105 : enters Try.prog 105 = true := by kernel_rfl
theorem en112 : enters Try.prog 112 = true := by kernel_rfl
theorem en113 : enters Try.prog 113 = true := by kernel_rfl
theorem en114 : enters Try.prog 114 = true := by kernel_rfl
theorem en115 : enters Try.prog 115 = true := by kernel_rfl
theorem en116 : enters Try.prog 116 = true := by kernel_rfl
theorem fl118_0 : tFld Try.prog 118 0 = some (0, 1, false) := by kernel_rfl
theorem fl118_1 : tFld Try.prog 118 1 = some (1, 1, false) := by kernel_rfl
theorem fl118_2 : tFld Try.prog 118 2 = some (2, 1, false) := by kernel_rfl
theorem fl118_3 : tFld Try.prog 118 3 = some (3, 1, false) := by kernel_rfl
theorem fl88_0 : tFld Try.prog 88 0 = some (0, 1, false) := by kernel_rfl
theorem fl88_1 : tFld Try.prog 88 1 = some (1, 1, false) := by kernel_rfl
theorem fl88_2 : tFld Try.prog 88 2 = some (2, 1, false) := by kernel_rfl
theorem pl118_0 : tPlace Try.prog 118 0 = some (0, 1) := by kernel_rfl
theorem sz118 : tSz Try.prog 118 = some (true, 4) := by kernel_rfl
theorem sz23 : tSz Try.prog 23 = some (false, 1) := by kernel_rfl
theorem sz3 : tSz Try.prog 3 = some (false, 1) := by kernel_rfl
theorem sz4 : tSz Try.prog 4 = some (false, 1) := by kernel_rfl
theorem sz86 : tSz Try.prog 86 = some (false, 1) := by kernel_rfl
set_option maxHeartbeats 4000000 in
theorem c37 (c d : Bool) (w : Pl.Work) : PCall Try.prog 105 [workV c d w] (bV (decide (Pl.right w))) := by
 refine pcall_of_awp Try.func105 rfl (by simp [Try.ntmps105]) fun C hC => ?_
 refine awp_le (le_keep [0]) ?_
 simp only [kp, argSl, simprocAttr]
 refine awp_sr [] (by rw [hC]; rfl) fun k hk => ?_
 simp (maxSteps := 9^9) (disch := (try simp only [lens]); omega) only [argSl, sm, ↓amb, mark_eq, simprocAttr, dx]
 repeat refine an ?_
 refine hk _ ?_; clear hk k
 refine awp_seq fun k1 h1 => ?_
 refine awp_test [] 23 (decide (¬ (Pl.cnt w.done.length w.grain ∧ 1 ≤ w.ts.length ∧ w.ts.length ≤ 2000))) [1, 2] (by rw [hC]; rfl) (fun gd hgd k hk => ?_) ?_
 ·have g7 : gd 7 = some 12 := by rw [hgd]; rfl
  have g13 : gd 13 = some 18 := by rw [hgd]; rfl
  clear hgd
  simp (maxSteps := 9^9) (disch := (try simp only [lens]); omega) only [argSl, sm, ↓amb, mark_eq, simprocAttr, fl88_2, sz23, el23, fl88_1, sz3, en99, fl88_0, sz86, el86, gcase_undef, g7, g13, dx]
  repeat' first | refine hk _ _ rfl rfl rfl rfl ?_ | (refine gsplit (fun hg => ?_) (fun hg => ?_) <;> (try simp only [hbx] at hg) <;> simp (maxSteps := 9^9) (disch := (try simp only [lens]); omega) only [argSl, sm, ↓amb, mark_eq, simprocAttr, fl88_2, sz23, el23, fl88_1, sz3, en99, fl88_0, sz86, el86, gcase_undef, g7, g13, dx]) | apply And.intro | (refine callK_p (c55 _ _) rfl ?_; (try simp (maxSteps := 9^9) (disch := (try simp only [lens]); omega) only [argSl, sm, ↓amb, mark_eq, simprocAttr, fl88_2, sz23, el23, fl88_1, sz3, en99, fl88_0, sz86, el86, gcase_undef, g7, g13, dx])) | fail
  all_goals first | rfl | omega | exact (decide_eq_true (by (try simp only [Pl.right, Pl.cnt, Pl.okT] at *); omega)).symm | exact (decide_eq_false (by (try simp only [Pl.right, Pl.cnt, Pl.okT] at *); omega)).symm | exact decide_eq_decide.mpr (by (try simp only [Pl.right, Pl.cnt, Pl.okT] at *); omega) | (refine Bool.eq_iff_iff.mpr ?_; (try simp only [Pl.right, Pl.cnt, Pl.okT] at *); simp only [beq_iff_eq, bne_iff_ne, ne_eq, decide_eq_true_eq]; omega) | (refine Bool.eq_iff_iff.mpr ?_; simp only [Bool.not_eq_true', Bool.not_eq_false', decide_eq_false_iff_not, decide_eq_true_eq, beq_iff_eq, bne_iff_ne, ne_eq]; (try simp only [Pl.right, Pl.cnt, Pl.okT] at *); omega) | assumption | (simp; done) | (simp [maxLen]; omega) | skip
 simp only [kp, argSl, simprocAttr, List.length_cons, List.length_nil]
 refine awp_cond rfl (fun hb => ?_) (fun hb => ?_)
 ·try simp only [hbx] at hb
  refine awp_le (le_keep []) ?_
  simp only [kp, argSl, simprocAttr]
  refine awp_sr [] (by rw [hC]; rfl) fun k hk => ?_
  simp (maxSteps := 9^9) (disch := (try simp only [lens]); omega) only [argSl, sm, ↓amb, mark_eq, simprocAttr, dx]
  repeat refine an ?_
  refine hk _ ?_; clear hk k
  refine awp_ret ?_
  refine ret1 rfl rfl ?_
  exact .p (LeP.of_eq (by rw [decide_eq_false (by intro h; simp only [Pl.right, Pl.cnt] at h hb; omega)]))
 ·try simp only [hbx] at hb
  refine awp_skip ?_
  refine h1 _ ?_; clear h1 k1
  refine awp_seq fun k2 h2 => ?_
  refine awp_le (le_keep [1, 2]) ?_
  simp only [kp, argSl, simprocAttr]
  have hb0 := hb
  refine awp_sr [] (by rw [hC]; rfl) fun k hk => ?_
  simp (maxSteps := 9^9) (disch := (try simp only [lens]); omega) only [argSl, sm, ↓amb, mark_eq, simprocAttr, fl88_0, sz86, el86, dx]
  repeat refine an ?_
  refine hk _ ?_; clear hk k
  refine awp_block ?_
  refine awp_loop (σ := Nat) (fun (i : Nat) => i ≤ w.ts.length ∧ ∀ j, j < i → Pl.okT w.done.length j (w.ts.getD j default)) (fun (i : Nat) => ⟨[(1, (.ptr 0 3 0 0)), (25, (.p (.seq c (w.ts.map taskC)))), (26, (.p (iV w.ts.length))), (27, (.p (iV i)))], [(0, (.row 3 [[.p (.seq c (w.ts.map taskC)), .p (iV w.grain), .p (.seq d (w.done.map fun b => [bV b]))]]))], 1⟩) (fun i => w.ts.length - i) 0 ?_ ?_ fun x hx => ?_
  ·exact ⟨Nat.zero_le _, fun j hj => by omega⟩
  ·exact le_of [(0, _)] (by rfl) (by rfl) ⟨⟨_, rfl, .ptr rfl⟩, ⟨_, rfl, .oe⟩, ⟨_, rfl, .oe⟩, ⟨_, rfl, .oe⟩, trivial⟩ ⟨⟨_, rfl, _, rfl, .one (.cons (.p (.refl _)) (.cons (.p (.refl _)) (.cons (.p (.refl _)) .nil)))⟩, trivial⟩
  obtain ⟨hx1, hx2⟩ := hx
  refine awp_le (le_keep [0, 1, 2, 25, 26, 27]) ?_
  simp only [kp, argSl, simprocAttr]
  refine awp_sr [] (by rw [hC]; rfl) fun k hk => ?_
  simp (maxSteps := 9^9) (disch := (try simp only [lens]); omega) only [argSl, sm, ↓amb, mark_eq, simprocAttr, dx]
  repeat refine an ?_
  refine hk _ ?_; clear hk k
  refine awp_seq fun k4 h4 => ?_
  refine awp_cond rfl (fun hb => ?_) (fun hb => ?_)
  ·try simp only [hbx] at hb
   refine awp_skip ?_
   refine h4 _ ?_; clear h4 k4
   refine awp_seq fun k5 h5 => ?_
   refine awp_block ?_
   refine awp_le (le_keep [0, 1, 2, 25, 26, 27]) ?_
   simp only [kp, argSl, simprocAttr]
   refine awp_sr [] (by rw [hC]; rfl) fun k hk => ?_
   simp (maxSteps := 9^9) (disch := (try simp only [lens]); omega) only [argSl, sm, ↓amb, mark_eq, simprocAttr, el86, sz118, vr118, dx]
   repeat refine an ?_
   refine hk _ ?_; clear hk k
   refine awp_test [] 70 (decide (¬ Pl.okT w.done.length x (w.ts.getD x default))) [0, 1, 2, 25, 26, 27] (by rw [hC]; rfl) (fun gd hgd k hk => ?_) ?_
   ·have g3 : gd 3 = some 35 := by rw [hgd]; rfl
    have g10 : gd 10 = some 42 := by rw [hgd]; rfl
    have g18 : gd 18 = some 50 := by rw [hgd]; rfl
    have g23 : gd 23 = some 55 := by rw [hgd]; rfl
    have g29 : gd 29 = some 61 := by rw [hgd]; rfl
    have g34 : gd 34 = some 66 := by rw [hgd]; rfl
    clear hgd
    simp (maxSteps := 9^9) (disch := (try simp only [lens]); omega) only [argSl, sm, ↓amb, mark_eq, simprocAttr, fl118_0, sz3, fl118_1, fl88_2, sz23, el23, fl118_2, fl118_3, gcase_undef, g3, g10, g18, g23, g29, g34, dx]
    repeat' first | refine hk _ _ rfl rfl rfl rfl ?_ | (refine gsplit (fun hg => ?_) (fun hg => ?_) <;> (try simp only [hbx] at hg) <;> simp (maxSteps := 9^9) (disch := (try simp only [lens]); omega) only [argSl, sm, ↓amb, mark_eq, simprocAttr, fl118_0, sz3, fl118_1, fl88_2, sz23, el23, fl118_2, fl118_3, gcase_undef, g3, g10, g18, g23, g29, g34, dx]) | apply And.intro | fail
    all_goals first | rfl | omega | exact (decide_eq_true (by (try simp only [Pl.right, Pl.cnt, Pl.okT] at *); omega)).symm | exact (decide_eq_false (by (try simp only [Pl.right, Pl.cnt, Pl.okT] at *); omega)).symm | exact decide_eq_decide.mpr (by (try simp only [Pl.right, Pl.cnt, Pl.okT] at *); omega) | (refine Bool.eq_iff_iff.mpr ?_; (try simp only [Pl.right, Pl.cnt, Pl.okT] at *); simp only [beq_iff_eq, bne_iff_ne, ne_eq, decide_eq_true_eq]; omega) | (refine Bool.eq_iff_iff.mpr ?_; simp only [Bool.not_eq_true', Bool.not_eq_false', decide_eq_false_iff_not, decide_eq_true_eq, beq_iff_eq, bne_iff_ne, ne_eq]; (try simp only [Pl.right, Pl.cnt, Pl.okT] at *); omega) | assumption | (simp; done) | (simp [maxLen]; omega) | skip
   simp only [kp, argSl, simprocAttr, List.length_cons, List.length_nil]
   refine awp_cond rfl (fun hb => ?_) (fun hb => ?_)
   ·try simp only [hbx] at hb
    refine awp_le (le_keep []) ?_
    simp only [kp, argSl, simprocAttr]
    refine awp_sr [] (by rw [hC]; rfl) fun k hk => ?_
    simp (maxSteps := 9^9) (disch := (try simp only [lens]); omega) only [argSl, sm, ↓amb, mark_eq, simprocAttr, dx]
    repeat refine an ?_
    refine hk _ ?_; clear hk k
    refine awp_ret ?_
    refine ret1 rfl rfl ?_
    exact .p (LeP.of_eq (by rw [decide_eq_false (fun h => by have h2 := h.2.2.2 x (by omega); have h3 := h.1; simp only [Pl.okT] at h2 hb; omega)]))
   ·try simp only [hbx] at hb
    refine awp_skip ?_
    refine h5 _ ?_; clear h5 k5
    refine awp_region [] (by rw [hC]; rfl) fun k hk => ?_
    simp (maxSteps := 9^9) (disch := (try simp only [lens]); omega) only [argSl, sm, ↓amb, mark_eq, simprocAttr, dx]
    repeat refine an ?_
    refine hk _ ?_; clear hk k
    refine ⟨x + 1, ⟨by omega, fun j hj => by by_cases e : j = x; subst e; exact hb; exact hx2 j (by omega)⟩, le_of [(0, _)] (by rfl) (by rfl) ⟨⟨_, rfl, .ptr rfl⟩, ⟨_, rfl, .oe⟩, ⟨_, rfl, .oe⟩, ⟨_, rfl, .oe⟩, trivial⟩ ⟨⟨_, rfl, _, rfl, .one (.cons (.p (.refl _)) (.cons (.p (.refl _)) (.cons (.p (.refl _)) .nil)))⟩, trivial⟩, by omega⟩
  ·try simp only [hbx] at hb
   refine awp_exit ((if_pos rfl).mpr ?_)
   refine h2 _ ?_; clear h4 k4; clear h2 k2
   refine awp_le (le_keep []) ?_
   simp only [kp, argSl, simprocAttr]
   refine awp_sr [] (by rw [hC]; rfl) fun k hk => ?_
   simp (maxSteps := 9^9) (disch := (try simp only [lens]); omega) only [argSl, sm, ↓amb, mark_eq, simprocAttr, dx]
   repeat refine an ?_
   refine hk _ ?_; clear hk k
   refine awp_ret ?_
   refine ret1 rfl rfl ?_
   exact .p (LeP.of_eq (by rw [decide_eq_true (Pl.right_of (by omega) hb0 hx2)]))
set_option maxHeartbeats 4000000 in
theorem c50 (t : Pl.Task) (h0 : -4000000000 ≤ t.low) (h1 : t.low ≤ 4000000000) (h2 : -4000000000 ≤ t.high) (h3 : t.high ≤ 4000000000) : PCall Try.prog 113 [.agg (taskC t)] (iV (t.high - t.low)) := by
 refine pcall_of_awp Try.func113 rfl (by simp [Try.ntmps113]) fun C hC => ?_
 refine awp_sr [] (by rw [hC]; rfl) fun k hk => ?_
 simp (maxSteps := 9^9) (disch := (try simp only [lens]); omega) only [argSl, sm, ↓amb, mark_eq, simprocAttr, dx]
 repeat refine an ?_
 refine hk _ ?_; clear hk k
 refine awp_sr [] (by rw [hC]; rfl) fun k hk => ?_
 simp (maxSteps := 9^9) (disch := (try simp only [lens]); omega) only [argSl, sm, ↓amb, mark_eq, simprocAttr, fl118_1, sz3, fl118_0, dx]
 repeat refine an ?_
 refine hk _ ?_; clear hk k
 refine awp_ret ?_
 refine ret1 rfl rfl ?_
 exact .p (LeP.refl _)
set_option maxHeartbeats 4000000 in
theorem c49 (c d : Bool) (w : Pl.Work) (i : Int) : PCall Try.prog 112 [workV c d w, iV i] (iV (Pl.there w i)) := by
 refine pcall_of_awp Try.func112 rfl (by simp [Try.ntmps112]) fun C hC => ?_
 refine awp_sr [] (by rw [hC]; rfl) fun k hk => ?_
 simp (maxSteps := 9^9) (disch := (try simp only [lens]); omega) only [argSl, sm, ↓amb, mark_eq, simprocAttr, dx]
 repeat refine an ?_
 refine hk _ ?_; clear hk k
 refine awp_seq fun k1 h1 => ?_
 refine awp_block ?_
 refine awp_sr [] (by rw [hC]; rfl) fun k hk => ?_
 simp (maxSteps := 9^9) (disch := (try simp only [lens]); omega) only [argSl, sm, ↓amb, mark_eq, simprocAttr, sz88, en105, dx]
 repeat refine an ?_
 refine callK_p (c37 _ _ _) rfl ?_
 simp (maxSteps := 9^9) (disch := (try simp only [lens]); omega) only [argSl, sm, ↓amb, mark_eq, simprocAttr, sz88, en105, dx]
 repeat refine an ?_
 refine hk _ ?_; clear hk k
 refine awp_cond rfl (fun hb => ?_) (fun hb => ?_)
 ·try simp only [hbx] at hb
  refine awp_sr [] (by rw [hC]; rfl) fun k hk => ?_
  simp (maxSteps := 9^9) (disch := (try simp only [lens]); omega) only [argSl, sm, ↓amb, mark_eq, simprocAttr, dx]
  repeat refine an ?_
  refine hk _ ?_; clear hk k
  refine awp_ret ?_
  refine ret1 rfl rfl ?_
  exact .p (LeP.of_eq (by rw [Pl.there, if_pos hb]))
 ·try simp only [hbx] at hb
  have hR := hb
  refine awp_test [] 9 (decide (i < 0 ∨ (w.ts.length : Int) ≤ i)) [4] (by rw [hC]; rfl) (fun gd hgd k hk => ?_) ?_
  ·have g2 : gd 2 = some 12 := by rw [hgd]; rfl
   clear hgd
   simp (maxSteps := 9^9) (disch := (try simp only [lens]); omega) only [argSl, sm, ↓amb, mark_eq, simprocAttr, fl88_0, sz86, el86, gcase_undef, g2, dx]
   repeat' first | refine hk _ _ rfl rfl rfl rfl ?_ | (refine gsplit (fun hg => ?_) (fun hg => ?_) <;> (try simp only [hbx] at hg) <;> simp (maxSteps := 9^9) (disch := (try simp only [lens]); omega) only [argSl, sm, ↓amb, mark_eq, simprocAttr, fl88_0, sz86, el86, gcase_undef, g2, dx]) | apply And.intro | fail
   all_goals first | rfl | omega | exact (decide_eq_true (by omega)).symm | exact (decide_eq_false (by omega)).symm | exact decide_eq_decide.mpr (by omega) | (refine Bool.eq_iff_iff.mpr ?_; simp only [beq_iff_eq, bne_iff_ne, ne_eq, decide_eq_true_eq]; omega) | (refine Bool.eq_iff_iff.mpr ?_; simp only [Bool.not_eq_true', Bool.not_eq_false', decide_eq_false_iff_not, decide_eq_true_eq, beq_iff_eq, bne_iff_ne, ne_eq]; omega) | assumption | (simp; done) | (simp [maxLen]; omega) | skip
  simp only [kp, argSl, simprocAttr, List.length_cons, List.length_nil]
  refine awp_cond rfl (fun hb => ?_) (fun hb => ?_)
  ·try simp only [hbx] at hb
   refine awp_sr [] (by rw [hC]; rfl) fun k hk => ?_
   simp (maxSteps := 9^9) (disch := (try simp only [lens]); omega) only [argSl, sm, ↓amb, mark_eq, simprocAttr, dx]
   repeat refine an ?_
   refine hk _ ?_; clear hk k
   refine awp_ret ?_
   refine ret1 rfl rfl ?_
   exact .p (LeP.of_eq (by rw [Pl.there, if_neg (by simpa using hR), if_pos hb]))
  ·try simp only [hbx] at hb
   refine awp_skip ?_
   refine h1 _ ?_; clear h1 k1
   refine awp_sr [] (by rw [hC]; rfl) fun k hk => ?_
   simp (maxSteps := 9^9) (disch := (try simp only [lens]); omega) only [argSl, sm, ↓amb, mark_eq, simprocAttr, dx]
   repeat refine an ?_
   refine hk _ ?_; clear hk k
   refine awp_ret ?_
   refine ret1 rfl rfl ?_
   exact .p (LeP.of_eq (by rw [Pl.there, if_neg (by simpa using hR), if_neg hb]))
set_option maxHeartbeats 4000000 in
theorem c51 (c : Bool) (l : List Pl.Task) (hl : l.length ≤ 1000000) : OCall Try.prog 114 [.seq c (l.map taskC)] 4 (l.map taskC) := by
 refine ocall_of_awp Try.func114 rfl (by simp [Try.ntmps114]) fun C hC => ?_
 refine awp_sr [7] (by rw [hC]; rfl) fun k hk => ?_
 simp (maxSteps := 9^9) (disch := (try simp only [lens]); omega) only [argSl, sm, ↓amb, mark_eq, simprocAttr, dx]
 repeat refine an ?_
 refine hk _ ?_; clear hk k
 refine awp_seq fun k1 h1 => ?_
 refine awp_nil 118 (of_decide_eq_true (by rw [hC]; rfl)) (of_decide_eq_true (by rw [hC]; rfl)) el86 rfl fun bq1 hq1 => ?_
 refine awp_cond rfl (fun hb => ?_) (fun hb => ?_)
 ·try simp only [hbx] at hb
  have he := hq1 hb
  refine awp_sr [7] (by rw [hC]; rfl) fun k hk => ?_
  simp (maxSteps := 9^9) (disch := (try simp only [lens]); omega) only [argSl, sm, ↓amb, mark_eq, simprocAttr, dx]
  repeat refine an ?_
  refine hk _ ?_; clear hk k
  refine awp_ret ?_
  exact reton (by rw [he]) rfl rfl
 ·try simp only [hbx] at hb
  refine awp_skip ?_
  refine h1 _ ?_; clear h1 k1
  refine awp_sr [7] (by rw [hC]; rfl) fun k hk => ?_
  simp (maxSteps := 9^9) (disch := (try simp only [lens]); omega) only [argSl, sm, ↓amb, mark_eq, simprocAttr, el86, vr118, by118, dx]
  repeat refine an ?_
  refine hk _ ?_; clear hk k
  refine awp_ret ?_
  refine reto1 rfl rfl ?_
  rfl
set_option maxHeartbeats 4000000 in
theorem c53 (c : Bool) (l : List Bool) (hl : l.length ≤ 1000000) : OCall Try.prog 115 [.seq c (l.map (fun b => [bV b]))] 1 (l.map (fun b => [bV b])) := by
 refine ocall_of_awp Try.func115 rfl (by simp [Try.ntmps115]) fun C hC => ?_
 refine awp_sr [7] (by rw [hC]; rfl) fun k hk => ?_
 simp (maxSteps := 9^9) (disch := (try simp only [lens]); omega) only [argSl, sm, ↓amb, mark_eq, simprocAttr, dx]
 repeat refine an ?_
 refine hk _ ?_; clear hk k
 refine awp_seq fun k1 h1 => ?_
 refine awp_nil 4 (of_decide_eq_true (by rw [hC]; rfl)) (of_decide_eq_true (by rw [hC]; rfl)) el23 rfl fun bq1 hq1 => ?_
 refine awp_cond rfl (fun hb => ?_) (fun hb => ?_)
 ·try simp only [hbx] at hb
  have he := hq1 hb
  refine awp_sr [7] (by rw [hC]; rfl) fun k hk => ?_
  simp (maxSteps := 9^9) (disch := (try simp only [lens]); omega) only [argSl, sm, ↓amb, mark_eq, simprocAttr, dx]
  repeat refine an ?_
  refine hk _ ?_; clear hk k
  refine awp_ret ?_
  exact reton (by rw [he]) rfl rfl
 ·try simp only [hbx] at hb
  refine awp_skip ?_
  refine h1 _ ?_; clear h1 k1
  refine awp_sr [7] (by rw [hC]; rfl) fun k hk => ?_
  simp (maxSteps := 9^9) (disch := (try simp only [lens]); omega) only [argSl, sm, ↓amb, mark_eq, simprocAttr, el23, vr4, by4, dx]
  repeat refine an ?_
  refine hk _ ?_; clear hk k
  refine awp_ret ?_
  refine reto1 rfl rfl ?_
  rfl
set_option maxHeartbeats 4000000 in
theorem c39 (c d : Bool) (w : Pl.Work) (i : Int) : PCall Try.prog 108 [workV c d w, iV i] (bV (decide (Pl.great w i))) := by
 refine pcall_of_awp Try.func108 rfl (by simp [Try.ntmps108]) fun C hC => ?_
 refine awp_sr [] (by rw [hC]; rfl) fun k hk => ?_
 simp (maxSteps := 9^9) (disch := (try simp only [lens]); omega) only [argSl, sm, ↓amb, mark_eq, simprocAttr, dx]
 repeat refine an ?_
 refine hk _ ?_; clear hk k
 refine awp_testD [] ⟨[0, 0, 3, 7, 15, 31, 63, 31, 255, 511, 1023, 31, 2079, 8191, 16383, 32767], [0, 6, 9, 12], [], [(2, 6), (2, 9), (2, 12)], some []⟩ 4 (decide (Pl.great w i)) [] (by rw [hC]; rfl) (by kernel_rfl) (by kernel_rfl) (fun gd hgd k hk => ?_) ?_
 ·have g4 : gd 4 = some 9 := by rw [hgd]; rfl
  clear hgd
  simp (maxSteps := 9^9) (disch := (try simp only [lens]); omega) only [argSl, sm, ↓amb, mark_eq, simprocAttr, sz88, en112, fl88_0, sz86, el86, sz118, en113, fl88_1, sz3, gcase_undef, g4, dx]
  repeat' first | refine hk _ _ rfl rfl rfl rfl ?_ | (refine gsplit (fun hg => ?_) (fun hg => ?_) <;> (try simp only [hbx] at hg) <;> (try (have q := Pl.ok_of hg; obtain ⟨_, hi0, hi1, hok, _, _, _, _⟩ := q; simp only [Pl.okT, Pl.task] at hok)) <;> simp (maxSteps := 9^9) (disch := (try simp only [lens]); omega) only [argSl, sm, ↓amb, mark_eq, simprocAttr, sz88, en112, fl88_0, sz86, el86, sz118, en113, fl88_1, sz3, gcase_undef, g4, dx]) | apply And.intro | (refine callK_p (c49 _ _ _ _) rfl ?_; (try simp (maxSteps := 9^9) (disch := (try simp only [lens]); omega) only [argSl, sm, ↓amb, mark_eq, simprocAttr, sz88, en112, fl88_0, sz86, el86, sz118, en113, fl88_1, sz3, gcase_undef, g4, dx])) | (refine callK_p (c50 (Pl.task w i) (by have := (Pl.ok_of hg).2.2.2.1; simp only [Pl.okT] at this; omega) (by have := (Pl.ok_of hg).2.2.2; simp only [Pl.okT] at this; omega) (by have := (Pl.ok_of hg).2.2.2; simp only [Pl.okT] at this; omega) (by have := (Pl.ok_of hg).2.2.2; simp only [Pl.okT] at this; omega)) rfl ?_; (try simp (maxSteps := 9^9) (disch := (try simp only [lens]); omega) only [argSl, sm, ↓amb, mark_eq, simprocAttr, sz88, en112, fl88_0, sz86, el86, sz118, en113, fl88_1, sz3, gcase_undef, g4, dx])) | fail
  all_goals first | rfl | omega | exact (decide_eq_true (by (try simp only [Pl.great] at *); omega)).symm | exact (decide_eq_false (by (try simp only [Pl.great] at *); omega)).symm | exact decide_eq_decide.mpr (by (try simp only [Pl.great] at *); omega) | (refine Bool.eq_iff_iff.mpr ?_; (try simp only [Pl.great] at *); simp only [beq_iff_eq, bne_iff_ne, ne_eq, decide_eq_true_eq]; omega) | (refine Bool.eq_iff_iff.mpr ?_; simp only [Bool.not_eq_true', Bool.not_eq_false', decide_eq_false_iff_not, decide_eq_true_eq, beq_iff_eq, bne_iff_ne, ne_eq]; (try simp only [Pl.great] at *); omega) | assumption | (simp; done) | (simp [maxLen]; omega) | skip
 simp only [kp, argSl, simprocAttr, List.length_cons, List.length_nil]
 refine awp_ret ?_
 refine ret1 rfl rfl ?_
 exact .p (LeP.refl _)
set_option maxHeartbeats 4000000 in
theorem c28 (c d : Bool) (w : Pl.Work) (i : Int) : PCall Try.prog 109 [workV c d w, iV i] (.tup [workV false false (Pl.partW w i), iV (Pl.partA w i), iV (Pl.partB w i), iV (Pl.partE w i)]) := by
 refine pcall_of_awp Try.func109 rfl (by simp [Try.ntmps109]) fun C hC => ?_
 refine awp_sr [64] (by rw [hC]; rfl) fun k hk => ?_
 simp (maxSteps := 9^9) (disch := (try simp only [lens]); omega) only [argSl, sm, ↓amb, mark_eq, simprocAttr, vr88, dx]
 repeat refine an ?_
 refine hk _ ?_; clear hk k
 refine awp_seq fun k1 h1 => ?_
 refine awp_sr [64] (by rw [hC]; rfl) fun k hk => ?_
 simp (maxSteps := 9^9) (disch := (try simp only [lens]); omega) only [argSl, sm, ↓amb, mark_eq, simprocAttr, sz88, en112, dx]
 repeat refine an ?_
 refine callK_p (c49 _ _ _ _) rfl ?_
 simp (maxSteps := 9^9) (disch := (try simp only [lens]); omega) only [argSl, sm, ↓amb, mark_eq, simprocAttr, sz88, en112, dx]
 repeat refine an ?_
 refine hk _ ?_; clear hk k
 refine awp_sr [64] (by rw [hC]; rfl) fun k hk => ?_
 simp (maxSteps := 9^9) (disch := (try simp only [lens]); omega) only [argSl, sm, ↓amb, mark_eq, simprocAttr, dx]
 repeat refine an ?_
 refine hk _ ?_; clear hk k
 refine awp_cond rfl (fun hb => ?_) (fun hb => ?_)
 ·try simp only [hbx] at hb
  refine awp_sr [64] (by rw [hC]; rfl) fun k hk => ?_
  simp (maxSteps := 9^9) (disch := (try simp only [lens]); omega) only [argSl, sm, ↓amb, mark_eq, simprocAttr, sz88, dx]
  repeat refine an ?_
  refine hk _ ?_; clear hk k
  refine awp_ret ?_
  obtain ⟨e1, e2, e3, e4⟩ := Pl.part_err (w := w) (i := i) (Pl.partE1 hb) (hb)
  rw [e1, e2, e3, e4]
  refine retl rfl rfl ⟨retc rfl sz88 ?_, rett rfl ?_, rett rfl ?_, rett rfl ?_, trivial⟩
  simp (maxSteps := 9^9) (disch := (try simp only [lens]); omega) only [argSl, sm, ↓amb, mark_eq, simprocAttr, sz88, dx]
  ·exact .p (LeP.agg (.cons (LeP.seq _ _) (.cons (LeP.refl _) (.cons (LeP.seq _ _) .nil))))
  ·exact .p (LeP.refl _)
  ·exact .p (LeP.refl _)
  ·exact .p (LeP.refl _)
 ·try simp only [hbx] at hb
  refine awp_skip ?_
  refine h1 _ ?_; clear h1 k1
  have hth := hb
  obtain ⟨hR, hi0, hi1, hok, hd1, hg1, hg2, ht1⟩ := Pl.ok_of hth
  simp only [Pl.okT, Pl.task] at hok
  have hin : i.toNat < w.ts.length := by omega
  refine awp_sr [64] (by rw [hC]; rfl) fun k hk => ?_
  simp (maxSteps := 9^9) (disch := (try simp only [lens]); omega) only [argSl, sm, ↓amb, mark_eq, simprocAttr, fl88_0, sz86, el86, sz118, vr118, dx]
  repeat refine an ?_
  refine hk _ ?_; clear hk k
  refine awp_sr [64] (by rw [hC]; rfl) fun k hk => ?_
  simp (maxSteps := 9^9) (disch := (try simp only [lens]); omega) only [argSl, sm, ↓amb, mark_eq, simprocAttr, fl88_0, sz86, el86, dx]
  repeat refine an ?_
  refine hk _ ?_; clear hk k
  refine awp_seq fun k2 h2 => ?_
  refine awp_block ?_
  refine awp_testD [64] ⟨[0, 1, 0, 4, 15, 31, 63, 127, 255, 511, 1023], [0, 3, 7], [], [(1, 7)], some []⟩ 27 (decide ((w.ts.getD i.toNat default).high - (w.ts.getD i.toNat default).low ≤ w.grain ∨ 0 < (w.ts.getD i.toNat default).wait)) [1, 2, 4, 5, 6, 7, 9, 10] (by rw [hC]; rfl) (by kernel_rfl) (by kernel_rfl) (fun gd hgd k hk => ?_) ?_
  ·have g5 : gd 5 = some 33 := by rw [hgd]; rfl
   clear hgd
   simp (maxSteps := 9^9) (disch := (try simp only [lens]); omega) only [argSl, sm, ↓amb, mark_eq, simprocAttr, sz118, en113, fl88_1, sz3, fl118_3, gcase_undef, g5, dx]
   repeat' first | refine hk _ _ rfl rfl rfl rfl ?_ | (refine gsplit (fun hg => ?_) (fun hg => ?_) <;> (try simp only [hbx] at hg) <;> simp (maxSteps := 9^9) (disch := (try simp only [lens]); omega) only [argSl, sm, ↓amb, mark_eq, simprocAttr, sz118, en113, fl88_1, sz3, fl118_3, gcase_undef, g5, dx]) | apply And.intro | (refine callK_p (c50 (w.ts.getD i.toNat default) (by omega) (by omega) (by omega) (by omega)) rfl ?_; (try simp (maxSteps := 9^9) (disch := (try simp only [lens]); omega) only [argSl, sm, ↓amb, mark_eq, simprocAttr, sz118, en113, fl88_1, sz3, fl118_3, gcase_undef, g5, dx])) | fail
   all_goals first | rfl | omega | exact (decide_eq_true (by omega)).symm | exact (decide_eq_false (by omega)).symm | exact decide_eq_decide.mpr (by omega) | (refine Bool.eq_iff_iff.mpr ?_; simp only [beq_iff_eq, bne_iff_ne, ne_eq, decide_eq_true_eq]; omega) | (refine Bool.eq_iff_iff.mpr ?_; simp only [Bool.not_eq_true', Bool.not_eq_false', decide_eq_false_iff_not, decide_eq_true_eq, beq_iff_eq, bne_iff_ne, ne_eq]; omega) | assumption | (simp; done) | (simp [maxLen]; omega) | skip
  simp only [kp, argSl, simprocAttr, List.length_cons, List.length_nil]
  refine awp_cond rfl (fun hb => ?_) (fun hb => ?_)
  ·try simp only [hbx] at hb
   refine awp_sr [64] (by rw [hC]; rfl) fun k hk => ?_
   simp (maxSteps := 9^9) (disch := (try simp only [lens]); omega) only [argSl, sm, ↓amb, mark_eq, simprocAttr, sz88, dx]
   repeat refine an ?_
   refine hk _ ?_; clear hk k
   refine awp_ret ?_
   obtain ⟨e1, e2, e3, e4⟩ := Pl.part_err (w := w) (i := i) (Pl.partE2 hth hb) (by decide)
   rw [e1, e2, e3, e4]
   refine retl rfl rfl ⟨retc rfl sz88 ?_, rett rfl ?_, rett rfl ?_, rett rfl ?_, trivial⟩
   simp (maxSteps := 9^9) (disch := (try simp only [lens]); omega) only [argSl, sm, ↓amb, mark_eq, simprocAttr, sz88, dx]
   ·exact .p (LeP.agg (.cons (LeP.seq _ _) (.cons (LeP.refl _) (.cons (LeP.seq _ _) .nil))))
   ·exact .p (LeP.refl _)
   ·exact .p (LeP.refl _)
   ·exact .p (LeP.refl _)
  ·try simp only [hbx] at hb
   have hgr := hb
   refine awp_sr [64] (by rw [hC]; rfl) fun k hk => ?_
   simp (maxSteps := 9^9) (disch := (try simp only [lens]); omega) only [argSl, sm, ↓amb, mark_eq, simprocAttr, dx]
   repeat refine an ?_
   refine hk _ ?_; clear hk k
   refine awp_cond rfl (fun hb => ?_) (fun hb => ?_)
   ·try simp only [hbx] at hb
    refine awp_sr [64] (by rw [hC]; rfl) fun k hk => ?_
    simp (maxSteps := 9^9) (disch := (try simp only [lens]); omega) only [argSl, sm, ↓amb, mark_eq, simprocAttr, sz88, dx]
    repeat refine an ?_
    refine hk _ ?_; clear hk k
    refine awp_ret ?_
    obtain ⟨e1, e2, e3, e4⟩ := Pl.part_err (w := w) (i := i) (Pl.partE3 hth hgr (by omega)) (by decide)
    rw [e1, e2, e3, e4]
    refine retl rfl rfl ⟨retc rfl sz88 ?_, rett rfl ?_, rett rfl ?_, rett rfl ?_, trivial⟩
    simp (maxSteps := 9^9) (disch := (try simp only [lens]); omega) only [argSl, sm, ↓amb, mark_eq, simprocAttr, sz88, dx]
    ·exact .p (LeP.agg (.cons (LeP.seq _ _) (.cons (LeP.refl _) (.cons (LeP.seq _ _) .nil))))
    ·exact .p (LeP.refl _)
    ·exact .p (LeP.refl _)
    ·exact .p (LeP.refl _)
   ·try simp only [hbx] at hb
    refine awp_skip ?_
    refine h2 _ ?_; clear h2 k2
    have h0 := Pl.partE0 hth hgr (by omega)
    refine awp_sd [64] ⟨[0, 1, 0, 4, 12, 31, 63], [1, 2], [], [], some []⟩ (by rw [hC]; rfl) (by kernel_rfl) (by kernel_rfl) fun k hk => ?_
    simp (maxSteps := 9^9) (disch := (try simp only [lens]); omega) only [argSl, sm, ↓amb, mark_eq, simprocAttr, fl118_0, sz3, sz118, en113, dx]
    repeat refine an ?_
    refine callK_p (c50 (w.ts.getD i.toNat default) (by omega) (by omega) (by omega) (by omega)) rfl ?_
    simp (maxSteps := 9^9) (disch := (try simp only [lens]); omega) only [argSl, sm, ↓amb, mark_eq, simprocAttr, fl118_0, sz3, sz118, en113, dx]
    repeat refine an ?_
    refine hk _ ?_; clear hk k
    refine awp_sd [64] ⟨[0, 1, 3, 0, 8, 0, 0, 120, 0, 0, 512, 0, 3840, 8184, 16383, 32767, 65535], [1, 4, 10], [14, 16], [(2, 14), (2, 16), (14, 16)], none⟩ (by rw [hC]; rfl) (by kernel_rfl) (by kernel_rfl) fun k hk => ?_
    simp (maxSteps := 9^9) (disch := (try simp only [lens]); omega) only [argSl, sm, ↓amb, mark_eq, simprocAttr, fl88_0, sz86, en114, fl118_0, sz3, vr118, bt118, pl118_0, pl118_1, pl118_2, fl118_1, el86, by118, dx]
    repeat refine an ?_
    refine callK_o (c51 _ _ (by omega)) rfl ?_
    simp (maxSteps := 9^9) (disch := (try simp only [lens]); omega) only [argSl, sm, ↓amb, mark_eq, simprocAttr, fl88_0, sz86, en114, fl118_0, sz3, vr118, bt118, pl118_0, pl118_1, pl118_2, fl118_1, el86, by118, dx]
    repeat refine an ?_
    refine hk _ ?_; clear hk k
    refine awp_sr [64] (by rw [hC]; rfl) fun k hk => ?_
    simp (maxSteps := 9^9) (disch := (try simp only [lens]); omega) only [argSl, sm, ↓amb, mark_eq, simprocAttr, fl88_0, sz86, el86, sz118, fl118_3, sz3, dx]
    repeat refine an ?_
    refine hk _ ?_; clear hk k
    refine awp_sr [64] (by rw [hC]; rfl) fun k hk => ?_
    simp (maxSteps := 9^9) (disch := (try simp only [lens]); omega) only [argSl, sm, ↓amb, mark_eq, simprocAttr, sz88, dx]
    repeat refine an ?_
    refine hk _ ?_; clear hk k
    refine awp_ret ?_
    obtain ⟨e1, e2, e3, e4⟩ := Pl.part_ok h0
    rw [e1, e2, e3, e4]
    refine retl rfl rfl ⟨retc rfl sz88 ?_, rett rfl ?_, rett rfl ?_, rett rfl ?_, trivial⟩
    simp (maxSteps := 9^9) (disch := (try simp only [lens]); omega) only [argSl, sm, ↓amb, mark_eq, simprocAttr, sz88, dx]
    ·exact .agg_cons (.ownE rfl (by simp [Pl.parted, Pl.mid, List.map_set, List.set_append_left _ _ (show i.toNat < (w.ts.map taskC).length by simpa using hin)])) (.agg_cons (.p (LeP.refl _)) (.agg_cons (.p (LeP.seq _ _)) (.agg_nil)))
    ·exact .p (LeP.refl _)
    ·exact .p (LeP.refl _)
    ·exact .p (LeP.refl _)
set_option maxHeartbeats 4000000 in
theorem c54 (k : Nat) (ts : List Pl.Task) (up : Int) (ho : Pl.upOk ts) (hup0 : -1 ≤ up) (hup1 : up < ts.length) (hup2 : up + 1 < k) (hl : ts.length ≤ 1000000) : HCall Try.prog 116 [.own 7, .p (iV up)] [(7, .row 4 (lift (ts.map taskC)))] (.p (bV (Pl.fin k ts up).2)) [(7, .row 4 (lift ((Pl.fin k ts up).1.map taskC)))] := by
 refine hcall_of_awp Try.func116 rfl (by simp [Try.ntmps116]) fun C hC => ?_
 refine awp_sr [] (by rw [hC]; rfl) fun k hk => ?_
 simp (maxSteps := 9^9) (disch := (try simp only [lens]); omega) only [argSl, sm, ↓amb, mark_eq, simprocAttr, dx]
 repeat refine an ?_
 refine hk _ ?_; clear hk k
 refine awp_seq fun k1 h1 => ?_
 refine awp_block ?_
 refine awp_loop (σ := Nat × List Pl.Task × Int) (fun x => Pl.fin x.1 x.2.1 x.2.2 = Pl.fin k ts up ∧ Pl.upOk x.2.1 ∧ x.2.1.length = ts.length ∧ -1 ≤ x.2.2 ∧ x.2.2 < ts.length ∧ x.2.2 + 1 < x.1) (fun x => ⟨[(0, (.own 7)), (1, (.p (iV x.2.2)))], [(7, (.row 4 (lift (x.2.1.map taskC))))], 1⟩) (fun x => x.1) (k, ts, up) ?_ ?_ fun x hx => ?_
 ·exact ⟨rfl, ho, rfl, hup0, hup1, hup2⟩
 ·exact le_of [] (by rfl) (by rfl) ⟨⟨_, rfl, .own rfl⟩, ⟨_, rfl, .oe⟩, trivial⟩ ⟨⟨_, rfl, _, rfl, .liftE (by first | rfl | rw [List.map_set])⟩, trivial⟩
 obtain ⟨q, us, p⟩ := x
 obtain ⟨hf, hu, hlen, hp0, hp1, hq⟩ := hx
 dsimp only at hf hu hlen hp0 hp1 hq
 obtain ⟨q, rfl⟩ : ∃ q', q = q' + 1 := ⟨q - 1, by omega⟩
 refine awp_seq fun k3 h3 => ?_
 refine awp_sr [] (by rw [hC]; rfl) fun k hk => ?_
 simp (maxSteps := 9^9) (disch := (try simp only [lens]); omega) only [argSl, sm, ↓amb, mark_eq, simprocAttr, dx]
 repeat refine an ?_
 refine hk _ ?_; clear hk k
 refine awp_cond rfl (fun hb => ?_) (fun hb => ?_)
 ·try simp only [hbx] at hb
  refine awp_skip ?_
  refine h3 _ ?_; clear h3 k3
  refine awp_block ?_
  have hpn := hb
  refine awp_sr [] (by rw [hC]; rfl) fun k hk => ?_
  simp (maxSteps := 9^9) (disch := (try simp only [lens]); omega) only [argSl, sm, ↓amb, mark_eq, simprocAttr, el86, sz118, dx]
  repeat refine an ?_
  refine hk _ ?_; clear hk k
  refine awp_seq fun k4 h4 => ?_
  have hup := hu p.toNat (by omega)
  refine awp_sr [] (by rw [hC]; rfl) fun k hk => ?_
  simp (maxSteps := 9^9) (disch := (try simp only [lens]); omega) only [argSl, sm, ↓amb, mark_eq, simprocAttr, fl118_3, sz3, dx]
  repeat refine an ?_
  refine hk _ ?_; clear hk k
  refine awp_cond rfl (fun hb => ?_) (fun hb => ?_)
  ·try simp only [hbx] at hb
   refine awp_sr [] (by rw [hC]; rfl) fun k hk => ?_
   simp (maxSteps := 9^9) (disch := (try simp only [lens]); omega) only [argSl, sm, ↓amb, mark_eq, simprocAttr, dx]
   repeat refine an ?_
   refine hk _ ?_; clear hk k
   refine awp_ret ?_
   refine reth1 rfl rfl ?_
   exact le_of [] (by rfl) (by rfl) ⟨⟨_, rfl, .p (.of_eq (by rw [← hf, Pl.fin_zero hpn hb]))⟩, trivial⟩ ⟨⟨_, rfl, _, rfl, .liftE (by rw [← hf, Pl.fin_zero hpn hb])⟩, trivial⟩
  ·try simp only [hbx] at hb
   refine awp_skip ?_
   refine h4 _ ?_; clear h4 k4
   refine awp_seq fun k5 h5 => ?_
   refine awp_sr [] (by rw [hC]; rfl) fun k hk => ?_
   simp (maxSteps := 9^9) (disch := (try simp only [lens]); omega) only [argSl, sm, ↓amb, mark_eq, simprocAttr, fl118_3, sz3, dx]
   repeat refine an ?_
   refine hk _ ?_; clear hk k
   refine awp_sr [] (by rw [hC]; rfl) fun k hk => ?_
   simp (maxSteps := 9^9) (disch := (try simp only [lens]); omega) only [argSl, sm, ↓amb, mark_eq, simprocAttr, fl118_3, sz3, dx]
   repeat refine an ?_
   refine hk _ ?_; clear hk k
   refine awp_cond rfl (fun hb => ?_) (fun hb => ?_)
   ·try simp only [hbx] at hb
    refine awp_sr [] (by rw [hC]; rfl) fun k hk => ?_
    simp (maxSteps := 9^9) (disch := (try simp only [lens]); omega) only [argSl, sm, ↓amb, mark_eq, simprocAttr, dx]
    repeat refine an ?_
    refine hk _ ?_; clear hk k
    refine awp_ret ?_
    refine reth1 rfl rfl ?_
    exact le_of [] (by rfl) (by rfl) ⟨⟨_, rfl, .p (.of_eq (by rw [← hf, Pl.fin_stop hpn (by omega) (by omega)]))⟩, trivial⟩ ⟨⟨_, rfl, _, rfl, .liftE (by rw [← hf, Pl.fin_stop hpn (by omega) (by omega)]; try rw [List.map_set])⟩, trivial⟩
   ·try simp only [hbx] at hb
    refine awp_skip ?_
    refine h5 _ ?_; clear h5 k5
    refine awp_region [] (by rw [hC]; rfl) fun k hk => ?_
    simp (maxSteps := 9^9) (disch := (try simp only [lens]); omega) only [argSl, sm, ↓amb, mark_eq, simprocAttr, fl118_2, sz3, dx]
    repeat refine an ?_
    refine hk _ ?_; clear hk k
    refine ⟨(q, us.set p.toNat { us.getD p.toNat default with wait := (us.getD p.toNat default).wait - 1 }, (us.getD p.toNat default).up), ⟨by rw [← hf, Pl.fin_on hpn (by omega) (by omega)], Pl.upOk_set hu (by omega) (by omega), by simpa using hlen, by show -1 ≤ (us.getD p.toNat default).up; omega, by show (us.getD p.toNat default).up < _; omega, by show (us.getD p.toNat default).up + 1 < (q : Int); omega⟩, le_of [] (by rfl) (by rfl) ⟨⟨_, rfl, .own rfl⟩, ⟨_, rfl, .oe⟩, trivial⟩ ⟨⟨_, rfl, _, rfl, .liftE (by first | rfl | rw [List.map_set])⟩, trivial⟩, Nat.lt_succ_self q⟩
 ·try simp only [hbx] at hb
  refine awp_exit ((if_pos rfl).mpr ?_)
  refine h1 _ ?_; clear h3 k3; clear h1 k1
  refine awp_sr [] (by rw [hC]; rfl) fun k hk => ?_
  simp (maxSteps := 9^9) (disch := (try simp only [lens]); omega) only [argSl, sm, ↓amb, mark_eq, simprocAttr, dx]
  repeat refine an ?_
  refine hk _ ?_; clear hk k
  refine awp_ret ?_
  have hpe : p = -1 := by omega
  subst hpe
  refine reth1 rfl rfl ?_
  exact le_of [] (by rfl) (by rfl) ⟨⟨_, rfl, .p (.of_eq (by rw [← hf, Pl.fin_end]))⟩, trivial⟩ ⟨⟨_, rfl, _, rfl, .liftE (by rw [← hf, Pl.fin_end])⟩, trivial⟩
set_option maxHeartbeats 4000000 in
theorem c30 (c d : Bool) (w : Pl.Work) (i : Int) : PCall Try.prog 111 [workV c d w, iV i] (.tup [workV false false (Pl.doW w i), bV (Pl.doO w i), iV (Pl.doE w i)]) := by
 refine pcall_of_awp Try.func111 rfl (by simp [Try.ntmps111]) fun C hC => ?_
 refine awp_le (le_keep [0, 1]) ?_
 simp only [kp, argSl, simprocAttr]
 refine awp_sr [] (by rw [hC]; rfl) fun k hk => ?_
 simp (maxSteps := 9^9) (disch := (try simp only [lens]); omega) only [argSl, sm, ↓amb, mark_eq, simprocAttr, vr88, dx]
 repeat refine an ?_
 refine hk _ ?_; clear hk k
 refine awp_seq fun k1 h1 => ?_
 refine awp_le (le_keep [1, 2, 4, 5, 6]) ?_
 simp only [kp, argSl, simprocAttr]
 refine awp_sr [] (by rw [hC]; rfl) fun k hk => ?_
 simp (maxSteps := 9^9) (disch := (try simp only [lens]); omega) only [argSl, sm, ↓amb, mark_eq, simprocAttr, sz88, en112, dx]
 repeat refine an ?_
 refine callK_p (c49 _ _ _ _) rfl ?_
 simp (maxSteps := 9^9) (disch := (try simp only [lens]); omega) only [argSl, sm, ↓amb, mark_eq, simprocAttr, sz88, en112, dx]
 repeat refine an ?_
 refine hk _ ?_; clear hk k
 refine awp_le (le_keep [1, 2, 4, 5, 6, 7]) ?_
 simp only [kp, argSl, simprocAttr]
 refine awp_sr [] (by rw [hC]; rfl) fun k hk => ?_
 simp (maxSteps := 9^9) (disch := (try simp only [lens]); omega) only [argSl, sm, ↓amb, mark_eq, simprocAttr, dx]
 repeat refine an ?_
 refine hk _ ?_; clear hk k
 refine awp_cond rfl (fun hb => ?_) (fun hb => ?_)
 ·try simp only [hbx] at hb
  refine awp_le (le_keep [2, 4, 7]) ?_
  simp only [kp, argSl, simprocAttr]
  refine awp_sr [] (by rw [hC]; rfl) fun k hk => ?_
  simp (maxSteps := 9^9) (disch := (try simp only [lens]); omega) only [argSl, sm, ↓amb, mark_eq, simprocAttr, sz88, dx]
  repeat refine an ?_
  refine hk _ ?_; clear hk k
  refine awp_ret ?_
  obtain ⟨e1, e2, e4⟩ := Pl.do_err (w := w) (i := i) (Pl.doE1 hb) (hb)
  rw [e1, e2, e4]
  refine retl rfl rfl ⟨retc rfl sz88 ?_, rett rfl ?_, rett rfl ?_, trivial⟩
  simp (maxSteps := 9^9) (disch := (try simp only [lens]); omega) only [argSl, sm, ↓amb, mark_eq, simprocAttr, sz88, dx]
  ·exact .p (LeP.agg (.cons (LeP.seq _ _) (.cons (LeP.refl _) (.cons (LeP.seq _ _) .nil))))
  ·exact .p (LeP.refl _)
  ·exact .p (LeP.refl _)
 ·try simp only [hbx] at hb
  refine awp_skip ?_
  refine h1 _ ?_; clear h1 k1
  refine awp_le (le_keep [1, 2, 4]) ?_
  simp only [kp, argSl, simprocAttr]
  have hth := hb
  obtain ⟨hR, hi0, hi1, hok, hd1, hg1, hg2, ht1⟩ := Pl.ok_of hth
  simp only [Pl.okT, Pl.task] at hok
  have hin : i.toNat < w.ts.length := by omega
  refine awp_sr [] (by rw [hC]; rfl) fun k hk => ?_
  simp (maxSteps := 9^9) (disch := (try simp only [lens]); omega) only [argSl, sm, ↓amb, mark_eq, simprocAttr, fl88_0, sz86, el86, sz118, vr118, dx]
  repeat refine an ?_
  refine hk _ ?_; clear hk k
  refine awp_seq fun k2 h2 => ?_
  refine awp_testD [] ⟨[0, 1, 0, 4, 15, 31, 63, 127, 255, 511, 1023, 2047, 4095, 2047, 10239, 32767, 65535, 131071], [0, 3, 7, 12, 14, 16], [], [(1, 7), (1, 12), (1, 14), (1, 16)], some []⟩ 39 (decide (w.grain < (w.ts.getD i.toNat default).high - (w.ts.getD i.toNat default).low ∨ 0 < (w.ts.getD i.toNat default).wait ∨ w.done.getD (w.ts.getD i.toNat default).low.toNat false = true)) [2, 4, 5, 6, 8] (by rw [hC]; rfl) (by kernel_rfl) (by kernel_rfl) (fun gd hgd k hk => ?_) ?_
  ·have g5 : gd 5 = some 27 := by rw [hgd]; rfl
   have g10 : gd 10 = some 32 := by rw [hgd]; rfl
   clear hgd
   simp (maxSteps := 9^9) (disch := (try simp only [lens]); omega) only [argSl, sm, ↓amb, mark_eq, simprocAttr, sz118, en113, fl88_1, sz3, fl118_3, fl88_2, sz23, fl118_0, el23, sz4, gcase_undef, g5, g10, dx]
   repeat' first | refine hk _ _ rfl rfl rfl rfl ?_ | (refine gsplit (fun hg => ?_) (fun hg => ?_) <;> (try simp only [hbx] at hg) <;> simp (maxSteps := 9^9) (disch := (try simp only [lens]); omega) only [argSl, sm, ↓amb, mark_eq, simprocAttr, sz118, en113, fl88_1, sz3, fl118_3, fl88_2, sz23, fl118_0, el23, sz4, gcase_undef, g5, g10, dx]) | apply And.intro | (refine callK_p (c50 (w.ts.getD i.toNat default) (by omega) (by omega) (by omega) (by omega)) rfl ?_; (try simp (maxSteps := 9^9) (disch := (try simp only [lens]); omega) only [argSl, sm, ↓amb, mark_eq, simprocAttr, sz118, en113, fl88_1, sz3, fl118_3, fl88_2, sz23, fl118_0, el23, sz4, gcase_undef, g5, g10, dx])) | fail
   all_goals first | rfl | omega | exact (decide_eq_true (by (try simp only [Pl.task] at *); omega)).symm | exact (decide_eq_false (by (try simp only [Pl.task] at *); omega)).symm | exact decide_eq_decide.mpr (by (try simp only [Pl.task] at *); omega) | (refine Bool.eq_iff_iff.mpr ?_; (try simp only [Pl.task] at *); simp only [beq_iff_eq, bne_iff_ne, ne_eq, decide_eq_true_eq]; omega) | (refine Bool.eq_iff_iff.mpr ?_; simp only [Bool.not_eq_true', Bool.not_eq_false', decide_eq_false_iff_not, decide_eq_true_eq, beq_iff_eq, bne_iff_ne, ne_eq]; (try simp only [Pl.task] at *); omega) | assumption | (simp; done) | (simp [maxLen]; omega) | skip
   all_goals (refine Bool.eq_iff_iff.mpr ?_; simp only [decide_eq_true_eq]; exact ⟨fun h => .inr (.inr h), fun h => by (rcases h with h | h | h; omega; omega; exact h)⟩)
  simp only [kp, argSl, simprocAttr, List.length_cons, List.length_nil]
  refine awp_cond rfl (fun hb => ?_) (fun hb => ?_)
  ·try simp only [hbx] at hb
   refine awp_le (le_keep [2, 4]) ?_
   simp only [kp, argSl, simprocAttr]
   refine awp_sr [] (by rw [hC]; rfl) fun k hk => ?_
   simp (maxSteps := 9^9) (disch := (try simp only [lens]); omega) only [argSl, sm, ↓amb, mark_eq, simprocAttr, sz88, dx]
   repeat refine an ?_
   refine hk _ ?_; clear hk k
   refine awp_ret ?_
   obtain ⟨e1, e2, e4⟩ := Pl.do_err (w := w) (i := i) (Pl.doE2 hth hb) (by decide)
   rw [e1, e2, e4]
   refine retl rfl rfl ⟨retc rfl sz88 ?_, rett rfl ?_, rett rfl ?_, trivial⟩
   simp (maxSteps := 9^9) (disch := (try simp only [lens]); omega) only [argSl, sm, ↓amb, mark_eq, simprocAttr, sz88, dx]
   ·exact .p (LeP.agg (.cons (LeP.seq _ _) (.cons (LeP.refl _) (.cons (LeP.seq _ _) .nil))))
   ·exact .p (LeP.refl _)
   ·exact .p (LeP.refl _)
  ·try simp only [hbx] at hb
   refine awp_skip ?_
   refine h2 _ ?_; clear h2 k2
   refine awp_le (le_keep [2, 4, 8]) ?_
   simp only [kp, argSl, simprocAttr]
   refine awp_sd [] ⟨[0, 1, 3, 0, 8, 31, 31, 127, 255, 511], [1, 4], [7, 9], [(2, 7), (5, 7), (2, 9), (5, 9)], none⟩ (by rw [hC]; rfl) (by kernel_rfl) (by kernel_rfl) fun k hk => ?_
   simp (maxSteps := 9^9) (disch := (try simp only [lens]); omega) only [argSl, sm, ↓amb, mark_eq, simprocAttr, fl88_0, sz86, en114, fl88_2, sz23, en115, dx]
   repeat refine an ?_
   refine callK_o (c51 _ _ (by omega)) rfl ?_
   simp (maxSteps := 9^9) (disch := (try simp only [lens]); omega) only [argSl, sm, ↓amb, mark_eq, simprocAttr, fl88_0, sz86, en114, fl88_2, sz23, en115, dx]
   repeat refine an ?_
   refine callK_o (c53 _ _ (by omega)) rfl ?_
   simp (maxSteps := 9^9) (disch := (try simp only [lens]); omega) only [argSl, sm, ↓amb, mark_eq, simprocAttr, fl88_0, sz86, en114, fl88_2, sz23, en115, dx]
   repeat refine an ?_
   refine hk _ ?_; clear hk k
   refine awp_seq fun k3 h3 => ?_
   refine awp_le (le_keep [2, 4, 5, 6, 8]) ?_
   simp only [kp, argSl, simprocAttr]
   have h0 := Pl.doE0 hth hb
   refine awp_sr [] (by rw [hC]; rfl) fun k hk => ?_
   simp (maxSteps := 9^9) (disch := (try simp only [lens]); omega) only [argSl, sm, ↓amb, mark_eq, simprocAttr, fl118_0, sz3, dx]
   repeat refine an ?_
   refine hk _ ?_; clear hk k
   refine awp_block ?_
   refine awp_loop (σ := Nat) (fun x => (w.ts.getD i.toNat default).low.toNat ≤ x ∧ x ≤ (w.ts.getD i.toNat default).high.toNat) (fun (x : Nat) => ⟨[(2, (.ptr 0 3 0 0)), (4, (.ptr 1 3 0 0)), (8, (.ptr 2 4 0 0)), (9, (.p (iV (x : Int))))], [(0, (.row 3 [[.own 3, .p (iV w.grain), .own 4]])), (1, (.row 3 [[.p (.seq true []), .p (iV 0), .p (.seq true [])]])), (2, (.row 4 [[.p (iV (w.ts.getD i.toNat default).low), .p (iV (w.ts.getD i.toNat default).high), .p (iV (w.ts.getD i.toNat default).up), .p (iV (w.ts.getD i.toNat default).wait)]])), (3, (.row 4 (lift (w.ts.map taskC)))), (4, (.row 1 (lift ((Pl.marked w.done (w.ts.getD i.toNat default).low.toNat x).map fun b => [bV b]))))], 1⟩) (fun x => (w.ts.getD i.toNat default).high.toNat - x) (w.ts.getD i.toNat default).low.toNat ?_ ?_ fun x hx => ?_
   ·exact ⟨Nat.le_refl _, by omega⟩
   ·exact le_of [(0, _), (1, _), (2, _), (3, _), (4, _)] (by rfl) (by rfl) ⟨⟨_, rfl, .ptr rfl⟩, ⟨_, rfl, .ptr rfl⟩, ⟨_, rfl, .ptr rfl⟩, ⟨_, rfl, .oe⟩, trivial⟩ ⟨⟨_, rfl, _, rfl, .one (.cons (.own rfl) (.cons (.p (.refl _)) (.cons (.own rfl) .nil)))⟩, ⟨_, rfl, _, rfl, .one (.cons (.p (.refl _)) (.cons (.p (.refl _)) (.cons (.p (.refl _)) .nil)))⟩, ⟨_, rfl, _, rfl, .one (.cons (.p (.refl _)) (.cons (.p (.refl _)) (.cons (.p (.refl _)) (.cons (.p (.refl _)) .nil))))⟩, ⟨_, rfl, _, rfl, .lift _⟩, ⟨_, rfl, _, rfl, .liftE (by first | (rw [Pl.marked_start]; done) | (rw [← Pl.marked_set (by omega) (by omega), List.map_set]; try simp; done))⟩, trivial⟩
   obtain ⟨hx1, hx2⟩ := hx
   have hml := Pl.marked_len (d := w.done) hx1 (by omega)
   refine awp_seq fun k5 h5 => ?_
   refine awp_le (le_keep [0, 1, 2, 3, 4, 5, 6, 8, 9]) ?_
   simp only [kp, argSl, simprocAttr]
   refine awp_sr [] (by rw [hC]; rfl) fun k hk => ?_
   simp (maxSteps := 9^9) (disch := (try simp only [lens]); omega) only [argSl, sm, ↓amb, mark_eq, simprocAttr, fl118_1, sz3, dx]
   repeat refine an ?_
   refine hk _ ?_; clear hk k
   refine awp_cond rfl (fun hb => ?_) (fun hb => ?_)
   ·try simp only [hbx] at hb
    refine awp_skip ?_
    refine h5 _ ?_; clear h5 k5
    refine awp_seq fun k6 h6 => ?_
    refine awp_block ?_
    refine awp_region [] (by rw [hC]; rfl) fun k hk => ?_
    simp (maxSteps := 9^9) (disch := (try simp only [lens]); omega) only [argSl, sm, ↓amb, mark_eq, simprocAttr, fl88_2, sz23, el23, sz4, dx]
    repeat refine an ?_
    refine hk _ ?_; clear hk k
    refine h6 _ ?_; clear h6 k6
    refine awp_region [] (by rw [hC]; rfl) fun k hk => ?_
    simp (maxSteps := 9^9) (disch := (try simp only [lens]); omega) only [argSl, sm, ↓amb, mark_eq, simprocAttr, dx]
    repeat refine an ?_
    refine hk _ ?_; clear hk k
    refine ⟨x + 1, ⟨by omega, by omega⟩, le_of [(0, _), (1, _), (2, _), (3, _), (4, _)] (by rfl) (by rfl) ⟨⟨_, rfl, .ptr rfl⟩, ⟨_, rfl, .ptr rfl⟩, ⟨_, rfl, .ptr rfl⟩, ⟨_, rfl, .oe⟩, trivial⟩ ⟨⟨_, rfl, _, rfl, .one (.cons (.own rfl) (.cons (.p (.refl _)) (.cons (.own rfl) .nil)))⟩, ⟨_, rfl, _, rfl, .one (.cons (.p (.refl _)) (.cons (.p (.refl _)) (.cons (.p (.refl _)) .nil)))⟩, ⟨_, rfl, _, rfl, .one (.cons (.p (.refl _)) (.cons (.p (.refl _)) (.cons (.p (.refl _)) (.cons (.p (.refl _)) .nil))))⟩, ⟨_, rfl, _, rfl, .lift _⟩, ⟨_, rfl, _, rfl, .liftE (by first | (rw [Pl.marked_start]; done) | (rw [← Pl.marked_set (by omega) (by omega), List.map_set]; try simp; done))⟩, trivial⟩, by omega⟩
   ·try simp only [hbx] at hb
    refine awp_exit ((if_pos rfl).mpr ?_)
    refine h3 _ ?_; clear h5 k5; clear h3 k3
    refine awp_le (le_keep [2, 4, 8]) ?_
    simp only [kp, argSl, simprocAttr]
    refine awp_sd [] ⟨[0, 0, 2, 0, 8, 30, 63, 127, 255], [], [5, 6], [(5, 6)], some [1, 3]⟩ (by rw [hC]; rfl) (by kernel_rfl) (by kernel_rfl) fun k hk => ?_
    simp (maxSteps := 9^9) (disch := (try simp only [lens]); omega) only [argSl, sm, ↓amb, mark_eq, simprocAttr, sz88, fl88_0, sz86, fl118_2, sz3, en116, dx]
    repeat refine an ?_
    refine callK_h (c54 (w.ts.length + 1) w.ts (w.ts.getD i.toNat default).up (Pl.upOk_of hR) (by omega) (by omega) (by omega) (by omega)) [3] [] (by first | rfl | (simp only [hm]; done)) (by first | rfl | (simp [namesOk, lkp]; done)) ?_ ?_ ?_ ?_ ?_ ?_ ?_
    (iterate 6 (focus (first | trivial | (intro n hn; cases hn; done) | (simp (maxSteps := 9^9) (disch := (try simp only [lens]); omega) only [argSl, sm, ↓amb, mark_eq, simprocAttr, sz88, fl88_0, sz86, fl118_2, sz3, en116, dx, hmx, List.filter_cons, Nat.reduceBNe, imp_self, implies_true]; done))))
    simp (maxSteps := 9^9) (disch := (try simp only [lens]); omega) only [argSl, sm, ↓amb, mark_eq, simprocAttr, sz88, fl88_0, sz86, fl118_2, sz3, en116, dx, hm, List.filter_cons, List.filter_nil, Nat.reduceBNe, Option.map_none]
    repeat refine an ?_
    refine hk _ ?_; clear hk k
    refine awp_ret ?_
    obtain ⟨e1, e2, e4⟩ := Pl.do_ok h0
    rw [e1, e2, e4]
    refine retl rfl rfl ⟨retc rfl sz88 ?_, rett rfl ?_, rett rfl ?_, trivial⟩
    simp (maxSteps := 9^9) (disch := (try simp only [lens]); omega) only [argSl, sm, ↓amb, mark_eq, simprocAttr, sz88, dx]
    ·exact .agg_cons (.ownE rfl (by rfl)) (.agg_cons (.p (LeP.refl _)) (.agg_cons (.ownE rfl (by simp only [Pl.did, Pl.task]; rw [show x = (w.ts.getD i.toNat default).high.toNat by omega])) (.agg_nil)))
    ·exact .p (LeP.refl _)
    ·exact .p (LeP.refl _)
set_option maxHeartbeats 4000000 in
theorem c47 (c : Bool) (l : List Int) (hl : l.length ≤ 1000000) : PCall Try.prog 110 [ints c l] (ints true l) := by
 refine pcall_of_awp Try.func110 rfl (by simp [Try.ntmps110]) fun C hC => ?_
 refine awp_sr [] (by rw [hC]; rfl) fun k hk => ?_
 simp (maxSteps := 9^9) (disch := (try simp only [lens]); omega) only [argSl, sm, ↓amb, mark_eq, simprocAttr, dx]
 repeat refine an ?_
 refine hk _ ?_; clear hk k
 refine awp_sr [] (by rw [hC]; rfl) fun k hk => ?_
 simp (maxSteps := 9^9) (disch := (try simp only [lens]); omega) only [argSl, sm, ↓amb, mark_eq, simprocAttr, el33, sz3, dx]
 repeat refine an ?_
 refine hk _ ?_; clear hk k
 refine awp_ret ?_
 refine ret1 rfl rfl ?_
 exact .p (LeP.of_eq (by simp))
end Go.Proofs.Ytbehekmnccoifaa
end
section
set_option linter.unusedSimpArgs false
set_option linter.unusedVariables false
set_option maxRecDepth 100000
namespace Go.Proofs.Ytbehekmnccoifaa
open Go.Am Go.Proofs
theorem bt112 : tBuilt Try.prog 112 = true := by kernel_rfl
theorem bt145 : tBuilt Try.prog 145 = true := by kernel_rfl
theorem en100 : enters Try.prog 100 = true := by kernel_rfl
theorem en101 : enters Try.prog 101 = true := by kernel_rfl
theorem en102 : enters Try.prog 102 = true := by kernel_rfl
theorem en103 : enters Try.prog 103 = true := by kernel_rfl
theorem en104 : enters Try.prog 104 = true := by kernel_rfl
theorem en106 : enters Try.prog 106 = true := by kernel_rfl
theorem en107 : enters Try.prog 107 = true := by kernel_rfl
theorem en108 : enters Try.prog 108 = true := by kernel_rfl
theorem en109 : enters Try.prog 109 = true := by kernel_rfl
theorem en110 : enters Try.prog 110 = true := by kernel_rfl
theorem en111 : enters Try.prog 111 = true := by kernel_rfl
theorem fl112_0 : tFld Try.prog 112 0 = some (0, 1, false) := by kernel_rfl
theorem fl112_1 : tFld Try.prog 112 1 = some (1, 1, false) := by kernel_rfl
theorem fl112_2 : tFld Try.prog 112 2 = some (2, 1, false) := by kernel_rfl
theorem fl112_3 : tFld Try.prog 112 3 = some (3, 1, false) := by kernel_rfl
theorem fl145_0 : tFld Try.prog 145 0 = some (0, 7, true) := by kernel_rfl
theorem fl145_1 : tFld Try.prog 145 1 = some (7, 4, true) := by kernel_rfl
theorem fl91_0 : tFld Try.prog 91 0 = some (0, 3, true) := by kernel_rfl
theorem fl91_2 : tFld Try.prog 91 2 = some (4, 1, false) := by kernel_rfl
theorem fl91_3 : tFld Try.prog 91 3 = some (5, 1, false) := by kernel_rfl
theorem fl91_4 : tFld Try.prog 91 4 = some (6, 1, false) := by kernel_rfl
theorem mt120 : tMap Try.prog 120 = some (1, 3) := by kernel_rfl
theorem pl112_1 : tPlace Try.prog 112 1 = some (1, 1) := by kernel_rfl
theorem pl112_2 : tPlace Try.prog 112 2 = some (2, 1) := by kernel_rfl
theorem pl145_0 : tPlace Try.prog 145 0 = some (0, 7) := by kernel_rfl
theorem pl145_1 : tPlace Try.prog 145 1 = some (7, 4) := by kernel_rfl
theorem sz112 : tSz Try.prog 112 = some (true, 4) := by kernel_rfl
theorem tz3 : tZero Try.prog 3 = some (.lit (.int .i64 0)) := by kernel_rfl
theorem vr112 : tVar Try.prog 112 = some (true, [.lit (.int .i64 0), .lit (.int .i64 0), .lit (.int .i64 0), .lit (.bool false)]) := by kernel_rfl
theorem vr145 : tVar Try.prog 145 = some (true, [.seq true [], .lit (.int .i64 0), .seq true [], .seq true [], .lit (.bool false), .lit (.int .i64 0), .lit (.int .i64 0), .lit (.int .i64 0), .lit (.int .i64 0), .lit (.int .i64 0), .lit (.bool false)]) := by kernel_rfl
set_option maxHeartbeats 4000000 in
theorem c62 (n : Int) : PCall Try.prog 106 [iV n] (bV (decide (0 ≤ n ∧ n ≤ 100000))) := by
 refine pcall_of_awp Try.func106 rfl (by simp [Try.ntmps106]) fun C hC => ?_
 refine awp_sr [] (by rw [hC]; rfl) fun k hk => ?_
 simp (maxSteps := 9^9) (disch := (try simp only [lens]); omega) only [argSl, sm, ↓amb, mark_eq, simprocAttr, dx]
 repeat refine an ?_
 refine hk _ ?_; clear hk k
 refine awp_test [] 2 (decide (0 ≤ n ∧ n ≤ 100000)) [] (by rw [hC]; rfl) (fun gd hgd k hk => ?_) ?_
 ·have g2 : gd 2 = some 5 := by rw [hgd]; rfl
  clear hgd
  simp (maxSteps := 9^9) (disch := (try simp only [lens]); omega) only [argSl, sm, ↓amb, mark_eq, simprocAttr, gcase_undef, g2, dx]
  repeat' first | refine hk _ _ rfl rfl rfl rfl ?_ | (refine gsplit (fun hg => ?_) (fun hg => ?_) <;> (try simp only [hbx] at hg) <;> simp (maxSteps := 9^9) (disch := (try simp only [lens]); omega) only [argSl, sm, ↓amb, mark_eq, simprocAttr, gcase_undef, g2, dx]) | apply And.intro | fail
  all_goals first | rfl | omega | exact (decide_eq_true (by omega)).symm | exact (decide_eq_false (by omega)).symm | exact decide_eq_decide.mpr (by omega) | (refine Bool.eq_iff_iff.mpr ?_; simp only [beq_iff_eq, bne_iff_ne, ne_eq, decide_eq_true_eq]; omega) | (refine Bool.eq_iff_iff.mpr ?_; simp only [Bool.not_eq_true', Bool.not_eq_false', decide_eq_false_iff_not, decide_eq_true_eq, beq_iff_eq, bne_iff_ne, ne_eq]; omega) | assumption | (simp; done) | (simp [maxLen]; omega) | skip
 simp only [kp, argSl, simprocAttr, List.length_cons, List.length_nil]
 refine awp_ret ?_
 refine ret1 rfl rfl ?_
 exact .p (LeP.refl _)
set_option maxHeartbeats 4000000 in
theorem c63 (c d : Bool) (w : Pl.Work) (t : Int) (hR : Pl.right w) : PCall Try.prog 107 [workV c d w, iV t] (bV (decide (Pl.holds w t))) := by
 refine pcall_of_awp Try.func107 rfl (by simp [Try.ntmps107]) fun C hC => ?_
 refine awp_sr [] (by rw [hC]; rfl) fun k hk => ?_
 simp (maxSteps := 9^9) (disch := (try simp only [lens]); omega) only [argSl, sm, ↓amb, mark_eq, simprocAttr, dx]
 repeat refine an ?_
 refine hk _ ?_; clear hk k
 refine awp_testD [] ⟨[0, 1, 3, 7, 7, 23, 55, 127, 255, 511, 1023, 2047, 1023, 8191, 16383, 32767, 65535, 131071, 262143, 524287, 524287, 2097151, 4194303, 8388607, 16777215, 8388607, 41943039, 8388607, 243269631, 511705087, 1048575999, 2147483647, 4294967295, 8589934591, 17179869183, 34359738367, 68719476735], [5, 6, 11, 15, 19, 24, 26, 30, 32], [], [(21, 24), (21, 26), (21, 30), (21, 32)], some []⟩ 4 (decide (Pl.holds w t)) [] (by rw [hC]; rfl) (by kernel_rfl) (by kernel_rfl) (fun gd hgd k hk => ?_) ?_
 ·have g2 : gd 2 = some 7 := by rw [hgd]; rfl
  have g9 : gd 9 = some 14 := by rw [hgd]; rfl
  have g18 : gd 18 = some 23 := by rw [hgd]; rfl
  have g22 : gd 22 = some 27 := by rw [hgd]; rfl
  clear hgd
  simp (maxSteps := 9^9) (disch := (try simp only [lens]); omega) only [argSl, sm, ↓amb, mark_eq, simprocAttr, fl88_0, sz86, el86, sz118, fl118_3, sz3, sz88, en108, fl88_2, sz23, fl118_0, el23, sz4, gcase_undef, g2, g9, g18, g22, dx]
  repeat' first | refine hk _ _ rfl rfl rfl rfl ?_ | (refine gsplit (fun hg => ?_) (fun hg => ?_) <;> (try simp only [hbx] at hg) <;> (try (have hin : t.toNat < w.ts.length := by omega); try (have hok := hR.2.2.2 t.toNat hin; simp only [Pl.okT] at hok; have hcn := hR.1; simp only [Pl.cnt] at hcn)) <;> simp (maxSteps := 9^9) (disch := (try simp only [lens]); omega) only [argSl, sm, ↓amb, mark_eq, simprocAttr, fl88_0, sz86, el86, sz118, fl118_3, sz3, sz88, en108, fl88_2, sz23, fl118_0, el23, sz4, gcase_undef, g2, g9, g18, g22, dx]) | apply And.intro | (refine callK_p (c39 _ _ _ _) rfl ?_; (try simp (maxSteps := 9^9) (disch := (try simp only [lens]); omega) only [argSl, sm, ↓amb, mark_eq, simprocAttr, fl88_0, sz86, el86, sz118, fl118_3, sz3, sz88, en108, fl88_2, sz23, fl118_0, el23, sz4, gcase_undef, g2, g9, g18, g22, dx])) | fail
  all_goals first | rfl | omega | exact (decide_eq_true (by (try simp only [Pl.holds] at *); omega)).symm | exact (decide_eq_false (by (try simp only [Pl.holds] at *); omega)).symm | exact decide_eq_decide.mpr (by (try simp only [Pl.holds] at *); omega) | (refine Bool.eq_iff_iff.mpr ?_; (try simp only [Pl.holds] at *); simp only [beq_iff_eq, bne_iff_ne, ne_eq, decide_eq_true_eq]; omega) | (refine Bool.eq_iff_iff.mpr ?_; simp only [Bool.not_eq_true', Bool.not_eq_false', decide_eq_false_iff_not, decide_eq_true_eq, beq_iff_eq, bne_iff_ne, ne_eq]; (try simp only [Pl.holds] at *); omega) | assumption | (simp; done) | (simp [maxLen]; omega) | skip
  all_goals first | exact (decide_eq_false (by simp only [Pl.holds, Pl.task]; intro h; omega)).symm | exact (decide_eq_true ⟨by omega, by omega, by assumption, .inl (by assumption)⟩).symm | (refine Bool.eq_iff_iff.mpr ?_; rw [decide_eq_true_iff, Bool.not_eq_true']; exact ⟨fun h => ⟨by omega, by omega, by assumption, .inr h⟩, fun h => by (rcases h.2.2.2 with q | q; exact absurd q (by assumption); exact q)⟩)
 simp only [kp, argSl, simprocAttr, List.length_cons, List.length_nil]
 refine awp_ret ?_
 refine ret1 rfl rfl ?_
 exact .p (LeP.refl _)
set_option maxHeartbeats 4000000 in
theorem c45 (c : Pl.Crew) (hb' : Pl.held c.dq ≤ 1000000000) (hd : c.dq.length ≤ 1000000) : PCall Try.prog 95 [.agg (crewC c)] (iV (Pl.held c.dq)) := by
 refine pcall_of_awp Try.func95 rfl (by simp [Try.ntmps95]) fun C hC => ?_
 refine awp_le (le_keep [0]) ?_
 simp only [kp, argSl, simprocAttr]
 refine awp_sr [] (by rw [hC]; rfl) fun k hk => ?_
 simp (maxSteps := 9^9) (disch := (try simp only [lens]); omega) only [argSl, sm, ↓amb, mark_eq, simprocAttr, dx]
 repeat refine an ?_
 refine hk _ ?_; clear hk k
 refine awp_seq fun k1 h1 => ?_
 refine awp_le (le_keep [1, 2]) ?_
 simp only [kp, argSl, simprocAttr]
 refine awp_sr [] (by rw [hC]; rfl) fun k hk => ?_
 simp (maxSteps := 9^9) (disch := (try simp only [lens]); omega) only [argSl, sm, ↓amb, mark_eq, simprocAttr, fl91_1, sz89, el89, dx]
 repeat refine an ?_
 refine hk _ ?_; clear hk k
 refine awp_block ?_
 refine awp_loop (σ := Nat) (fun i => i ≤ c.dq.length) (fun (i : Nat) => ⟨[(2, (.p (iV (Pl.held (c.dq.take i))))), (6, (.p (.seq false (c.dq.map lV)))), (7, (.p (iV c.dq.length))), (8, (.p (iV i)))], [], 1⟩) (fun i => c.dq.length - i) 0 ?_ ?_ fun x hx => ?_
 ·exact Nat.zero_le _
 ·exact le_of [] (by rfl) (by rfl) ⟨⟨_, rfl, .p (.of_eq (by first | rfl | (rw [Pl.held_take_succ c.dq x (by omega)]; simp only [PV.lit.injEq, Value.int.injEq, true_and]; omega)))⟩, ⟨_, rfl, .oe⟩, ⟨_, rfl, .oe⟩, ⟨_, rfl, .oe⟩, trivial⟩ trivial
 refine awp_le (le_keep [2, 6, 7, 8]) ?_
 simp only [kp, argSl, simprocAttr]
 refine awp_sr [] (by rw [hC]; rfl) fun k hk => ?_
 simp (maxSteps := 9^9) (disch := (try simp only [lens]); omega) only [argSl, sm, ↓amb, mark_eq, simprocAttr, dx]
 repeat refine an ?_
 refine hk _ ?_; clear hk k
 refine awp_seq fun k3 h3 => ?_
 refine awp_cond rfl (fun hb => ?_) (fun hb => ?_)
 ·try simp only [hbx] at hb
  refine awp_skip ?_
  refine h3 _ ?_; clear h3 k3
  refine awp_seq fun k4 h4 => ?_
  refine awp_block ?_
  refine awp_le (le_keep [2, 6, 7, 8]) ?_
  simp only [kp, argSl, simprocAttr]
  have hs := Pl.held_take_succ c.dq x (by omega)
  have hl := Pl.held_le c.dq (x + 1)
  refine awp_sr [] (by rw [hC]; rfl) fun k hk => ?_
  simp (maxSteps := 9^9) (disch := (try simp only [lens]); omega) only [argSl, sm, ↓amb, mark_eq, simprocAttr, el89, sz33, dx]
  repeat refine an ?_
  refine hk _ ?_; clear hk k
  refine awp_region [] (by rw [hC]; rfl) fun k hk => ?_
  simp (maxSteps := 9^9) (disch := (try simp only [lens]); omega) only [argSl, sm, ↓amb, mark_eq, simprocAttr, el33, dx]
  repeat refine an ?_
  refine hk _ ?_; clear hk k
  refine h4 _ ?_; clear h4 k4
  refine awp_region [] (by rw [hC]; rfl) fun k hk => ?_
  simp (maxSteps := 9^9) (disch := (try simp only [lens]); omega) only [argSl, sm, ↓amb, mark_eq, simprocAttr, dx]
  repeat refine an ?_
  refine hk _ ?_; clear hk k
  refine ⟨x + 1, by omega, le_of [] (by rfl) (by rfl) ⟨⟨_, rfl, .p (.of_eq (by first | rfl | (rw [Pl.held_take_succ c.dq x (by omega)]; simp only [PV.lit.injEq, Value.int.injEq, true_and]; omega)))⟩, ⟨_, rfl, .oe⟩, ⟨_, rfl, .oe⟩, ⟨_, rfl, .oe⟩, trivial⟩ trivial, by omega⟩
 ·try simp only [hbx] at hb
  refine awp_exit ((if_pos rfl).mpr ?_)
  refine h1 _ ?_; clear h3 k3; clear h1 k1
  refine awp_le (le_keep [2]) ?_
  simp only [kp, argSl, simprocAttr]
  have hx2 : c.dq.take x = c.dq := List.take_of_length_le (by omega)
  rw [hx2]
  refine awp_sr [] (by rw [hC]; rfl) fun k hk => ?_
  simp (maxSteps := 9^9) (disch := (try simp only [lens]); omega) only [argSl, sm, ↓amb, mark_eq, simprocAttr, dx]
  repeat refine an ?_
  refine hk _ ?_; clear hk k
  refine awp_ret ?_
  refine ret1 rfl rfl ?_
  exact .p (LeP.refl _)
set_option maxHeartbeats 4000000 in
theorem c44 (c : Pl.Crew) (hl : ∀ l, l ∈ c.dq → l.length ≤ 1000000 ∧ ∀ t, t ∈ l → -9223372036854775808 ≤ t ∧ t ≤ 9223372036854775807) : PCall Try.prog 100 [.agg (crewC c)] (bV (decide (Pl.crewRight c))) := by
 refine pcall_of_awp Try.func100 rfl (by simp [Try.ntmps100]) fun C hC => ?_
 refine awp_le (le_keep [0]) ?_
 simp only [kp, argSl, simprocAttr]
 refine awp_sr [] (by rw [hC]; rfl) fun k hk => ?_
 simp (maxSteps := 9^9) (disch := (try simp only [lens]); omega) only [argSl, sm, ↓amb, mark_eq, simprocAttr, taskC, lV, Pl.metM_get, Pl.metM_set, dx]
 repeat refine an ?_
 refine hk _ ?_; clear hk k
 refine awp_seq fun k1 h1 => ?_
 refine awp_test [] 35 (decide (¬ (Pl.right c.work ∧ 1 ≤ c.dq.length ∧ c.dq.length ≤ 8 ∧ (0 ≤ c.steps ∧ c.steps ≤ 100000) ∧ (0 ≤ c.idle ∧ c.idle ≤ 100000)))) [1, 2] (by rw [hC]; rfl) (fun gd hgd k hk => ?_) ?_
 ·have g4 : gd 4 = some 12 := by rw [hgd]; rfl
  have g10 : gd 10 = some 18 := by rw [hgd]; rfl
  have g16 : gd 16 = some 24 := by rw [hgd]; rfl
  have g22 : gd 22 = some 30 := by rw [hgd]; rfl
  clear hgd
  simp (maxSteps := 9^9) (disch := (try simp only [lens]); omega) only [argSl, sm, ↓amb, mark_eq, simprocAttr, fl91_0, sz88, en105, fl91_1, sz89, el89, fl91_3, sz3, en106, fl91_4, gcase_undef, g4, g10, g16, g22, taskC, lV, Pl.metM_get, Pl.metM_set, dx]
  repeat' first | refine hk _ _ rfl rfl rfl rfl ?_ | (refine gsplit (fun hg => ?_) (fun hg => ?_) <;> (try simp only [hbx] at hg) <;> simp (maxSteps := 9^9) (disch := (try simp only [lens]); omega) only [argSl, sm, ↓amb, mark_eq, simprocAttr, fl91_0, sz88, en105, fl91_1, sz89, el89, fl91_3, sz3, en106, fl91_4, gcase_undef, g4, g10, g16, g22, taskC, lV, Pl.metM_get, Pl.metM_set, dx]) | apply And.intro | (refine callK_p (c37 _ _ _) rfl ?_; (try simp (maxSteps := 9^9) (disch := (try simp only [lens]); omega) only [argSl, sm, ↓amb, mark_eq, simprocAttr, fl91_0, sz88, en105, fl91_1, sz89, el89, fl91_3, sz3, en106, fl91_4, gcase_undef, g4, g10, g16, g22, taskC, lV, Pl.metM_get, Pl.metM_set, dx])) | (refine callK_p (c62 _) rfl ?_; (try simp (maxSteps := 9^9) (disch := (try simp only [lens]); omega) only [argSl, sm, ↓amb, mark_eq, simprocAttr, fl91_0, sz88, en105, fl91_1, sz89, el89, fl91_3, sz3, en106, fl91_4, gcase_undef, g4, g10, g16, g22, taskC, lV, Pl.metM_get, Pl.metM_set, dx])) | (refine callK_p (c62 _) rfl ?_; (try simp (maxSteps := 9^9) (disch := (try simp only [lens]); omega) only [argSl, sm, ↓amb, mark_eq, simprocAttr, fl91_0, sz88, en105, fl91_1, sz89, el89, fl91_3, sz3, en106, fl91_4, gcase_undef, g4, g10, g16, g22, taskC, lV, Pl.metM_get, Pl.metM_set, dx])) | fail
  all_goals first | rfl | omega | exact (decide_eq_true (by omega)).symm | exact (decide_eq_false (by omega)).symm | exact decide_eq_decide.mpr (by omega) | (refine Bool.eq_iff_iff.mpr ?_; simp only [beq_iff_eq, bne_iff_ne, ne_eq, decide_eq_true_eq]; omega) | (refine Bool.eq_iff_iff.mpr ?_; simp only [Bool.not_eq_true', Bool.not_eq_false', decide_eq_false_iff_not, decide_eq_true_eq, beq_iff_eq, bne_iff_ne, ne_eq]; omega) | assumption | (simp; done) | (simp [maxLen]; omega) | skip
  all_goals first | (refine Eq.symm (decide_eq_true ?_); intro q; exact absurd q.1 (by assumption)) | (rw [← decide_not]; exact decide_eq_decide.mpr ⟨fun h q => h q.2.2.2.2, fun h q => h ⟨by assumption, by omega, by omega, by assumption, q⟩⟩) | (refine Eq.symm (decide_eq_true ?_); intro q; exact absurd q.2.2.2.1 (by assumption))
 simp only [kp, argSl, simprocAttr, List.length_cons, List.length_nil]
 refine awp_cond rfl (fun hb => ?_) (fun hb => ?_)
 ·try simp only [hbx] at hb
  refine awp_le (le_keep []) ?_
  simp only [kp, argSl, simprocAttr]
  refine awp_sr [] (by rw [hC]; rfl) fun k hk => ?_
  simp (maxSteps := 9^9) (disch := (try simp only [lens]); omega) only [argSl, sm, ↓amb, mark_eq, simprocAttr, taskC, lV, Pl.metM_get, Pl.metM_set, dx]
  repeat refine an ?_
  refine hk _ ?_; clear hk k
  refine awp_ret ?_
  refine ret1 rfl rfl ?_
  exact .p (LeP.of_eq (by rw [decide_eq_false (fun q => hb ⟨q.1, q.2.1, q.2.2.1, q.2.2.2.1, q.2.2.2.2.1⟩)]))
 ·try simp only [hbx] at hb
  refine awp_skip ?_
  refine h1 _ ?_; clear h1 k1
  refine awp_le (le_keep [1]) ?_
  simp only [kp, argSl, simprocAttr]
  have hb1 := hb
  have hR := hb1.1
  refine awp_sr [] (by rw [hC]; rfl) fun k hk => ?_
  simp (maxSteps := 9^9) (disch := (try simp only [lens]); omega) only [argSl, sm, ↓amb, mark_eq, simprocAttr, mt120, taskC, lV, Pl.metM_get, Pl.metM_set, dx]
  repeat refine an ?_
  refine hk _ ?_; clear hk k
  refine awp_seq fun k2 h2 => ?_
  refine awp_le (le_keep [1, 2, 3]) ?_
  simp only [kp, argSl, simprocAttr]
  refine awp_sr [] (by rw [hC]; rfl) fun k hk => ?_
  simp (maxSteps := 9^9) (disch := (try simp only [lens]); omega) only [argSl, sm, ↓amb, mark_eq, simprocAttr, fl91_1, sz89, el89, taskC, lV, Pl.metM_get, Pl.metM_set, dx]
  repeat refine an ?_
  refine hk _ ?_; clear hk k
  refine awp_block ?_
  refine awp_loop (σ := Nat) (fun i => i ≤ c.dq.length ∧ Pl.metOk c.work (c.dq.take i).flatten) (fun (i : Nat) => ⟨[(1, (.ptr 0 7 0 0)), (3, (.mp 1)), (38, (.p (.seq false (c.dq.map lV)))), (39, (.p (iV c.dq.length))), (40, (.p (iV i)))], [(0, (.row 7 [[.p (.seq false (c.work.ts.map taskC)), .p (iV c.work.grain), .p (.seq false (c.work.done.map fun b => [bV b])), .p (.seq false (c.dq.map lV)), .p (bV c.over), .p (iV c.steps), .p (iV c.idle)]])), (1, (.map 1 (Pl.metM (c.dq.take i).flatten)))], 1⟩) (fun i => c.dq.length - i) 0 ?_ ?_ fun x hx => ?_
  ·exact ⟨Nat.zero_le _, Pl.metOk_nil _⟩
  ·exact le_of [(0, _), (1, _)] (by rfl) (by rfl) ⟨⟨_, rfl, .ptr rfl⟩, ⟨_, rfl, .mp rfl⟩, ⟨_, rfl, .oe⟩, ⟨_, rfl, .oe⟩, ⟨_, rfl, .oe⟩, trivial⟩ ⟨⟨_, rfl, _, rfl, .one (.cons (.p (.refl _)) (.cons (.p (.refl _)) (.cons (.p (.refl _)) (.cons (.p (.refl _)) (.cons (.p (.refl _)) (.cons (.p (.refl _)) (.cons (.p (.refl _)) (.nil))))))))⟩, ⟨_, rfl, _, rfl, ⟨rfl, by first | exact Pl.metM_nil | (rw [Pl.flat_succ c.dq x (by omega), List.take_of_length_le (l := (c.dq.getD x default)) (i := y) (by omega)])⟩⟩, trivial⟩
  obtain ⟨hx1, hx2⟩ := hx
  refine awp_le (le_keep [0, 1, 2, 3, 38, 39, 40]) ?_
  simp only [kp, argSl, simprocAttr]
  refine awp_sr [] (by rw [hC]; rfl) fun k hk => ?_
  simp (maxSteps := 9^9) (disch := (try simp only [lens]); omega) only [argSl, sm, ↓amb, mark_eq, simprocAttr, taskC, lV, Pl.metM_get, Pl.metM_set, dx]
  repeat refine an ?_
  refine hk _ ?_; clear hk k
  refine awp_seq fun k4 h4 => ?_
  refine awp_cond rfl (fun hb => ?_) (fun hb => ?_)
  ·try simp only [hbx] at hb
   refine awp_skip ?_
   refine h4 _ ?_; clear h4 k4
   refine awp_seq fun k5 h5 => ?_
   refine awp_block ?_
   refine awp_le (le_keep [0, 1, 2, 3, 38, 39, 40]) ?_
   simp only [kp, argSl, simprocAttr]
   refine awp_sr [] (by rw [hC]; rfl) fun k hk => ?_
   simp (maxSteps := 9^9) (disch := (try simp only [lens]); omega) only [argSl, sm, ↓amb, mark_eq, simprocAttr, el89, sz33, taskC, lV, Pl.metM_get, Pl.metM_set, dx]
   repeat refine an ?_
   refine hk _ ?_; clear hk k
   refine awp_le (le_keep [0, 1, 2, 3, 5, 38, 39, 40]) ?_
   simp only [kp, argSl, simprocAttr]
   have hll := hl (c.dq.getD x default) (Pl.getD_mem _ _ _ (by omega))
   refine awp_sr [] (by rw [hC]; rfl) fun k hk => ?_
   simp (maxSteps := 9^9) (disch := (try simp only [lens]); omega) only [argSl, sm, ↓amb, mark_eq, simprocAttr, el33, taskC, lV, Pl.metM_get, Pl.metM_set, dx]
   repeat refine an ?_
   refine hk _ ?_; clear hk k
   refine awp_block ?_
   refine awp_loop (σ := Nat) (fun y => y ≤ (c.dq.getD x default).length ∧ Pl.metOk c.work ((c.dq.take x).flatten ++ (c.dq.getD x default).take y)) (fun (y : Nat) => ⟨[(1, (.ptr 0 7 0 0)), (3, (.mp 1)), (38, (.p (.seq false (c.dq.map lV)))), (39, (.p (iV c.dq.length))), (40, (.p (iV x))), (44, (.p (.seq false ((c.dq.getD x default).map fun n => [iV n])))), (45, (.p (iV (c.dq.getD x default).length))), (46, (.p (iV y)))], [(0, (.row 7 [[.p (.seq false (c.work.ts.map taskC)), .p (iV c.work.grain), .p (.seq false (c.work.done.map fun b => [bV b])), .p (.seq false (c.dq.map lV)), .p (bV c.over), .p (iV c.steps), .p (iV c.idle)]])), (1, (.map 1 (Pl.metM ((c.dq.take x).flatten ++ (c.dq.getD x default).take y))))], 1⟩) (fun y => (c.dq.getD x default).length - y) 0 ?_ ?_ fun y hy => ?_
   ·exact ⟨Nat.zero_le _, by rw [List.take_zero, List.append_nil]; exact hx2⟩
   ·exact le_of [(0, _), (1, _)] (by rfl) (by rfl) ⟨⟨_, rfl, .ptr rfl⟩, ⟨_, rfl, .mp rfl⟩, ⟨_, rfl, .oe⟩, ⟨_, rfl, .oe⟩, ⟨_, rfl, .oe⟩, ⟨_, rfl, .oe⟩, ⟨_, rfl, .oe⟩, ⟨_, rfl, .oe⟩, trivial⟩ ⟨⟨_, rfl, _, rfl, .one (.cons (.p (.refl _)) (.cons (.p (.refl _)) (.cons (.p (.refl _)) (.cons (.p (.refl _)) (.cons (.p (.refl _)) (.cons (.p (.refl _)) (.cons (.p (.refl _)) (.nil))))))))⟩, ⟨_, rfl, _, rfl, ⟨rfl, by first | (rw [List.take_zero, List.append_nil]; done) | (rw [Pl.take_succ_at _ _ (by omega), ← List.append_assoc]; rfl)⟩⟩, trivial⟩
   obtain ⟨hy1, hy2⟩ := hy
   refine awp_le (le_keep [0, 1, 2, 3, 38, 39, 40, 44, 45, 46]) ?_
   simp only [kp, argSl, simprocAttr]
   refine awp_sr [] (by rw [hC]; rfl) fun k hk => ?_
   simp (maxSteps := 9^9) (disch := (try simp only [lens]); omega) only [argSl, sm, ↓amb, mark_eq, simprocAttr, taskC, lV, Pl.metM_get, Pl.metM_set, dx]
   repeat refine an ?_
   refine hk _ ?_; clear hk k
   refine awp_seq fun k7 h7 => ?_
   refine awp_cond rfl (fun hb => ?_) (fun hb => ?_)
   ·try simp only [hbx] at hb
    refine awp_skip ?_
    refine h7 _ ?_; clear h7 k7
    refine awp_seq fun k8 h8 => ?_
    refine awp_block ?_
    refine awp_le (le_keep [0, 1, 2, 3, 38, 39, 40, 44, 45, 46]) ?_
    simp only [kp, argSl, simprocAttr]
    refine awp_sr [] (by rw [hC]; rfl) fun k hk => ?_
    simp (maxSteps := 9^9) (disch := (try simp only [lens]); omega) only [argSl, sm, ↓amb, mark_eq, simprocAttr, el33, sz3, taskC, lV, Pl.metM_get, Pl.metM_set, dx]
    repeat refine an ?_
    refine hk _ ?_; clear hk k
    refine awp_le (le_keep [0, 1, 2, 3, 7, 38, 39, 40, 44, 45, 46]) ?_
    simp only [kp, argSl, simprocAttr]
    have hkl := hll.2 ((c.dq.getD x default).getD y 0) (Pl.getD_mem _ _ _ (by omega))
    have hcl : (((c.dq.take x).flatten ++ (c.dq.getD x default).take y).count ((c.dq.getD x default).getD y 0)) ≤ 1 := List.nodup_iff_count.1 hy2.1 _
    refine awp_sr [] (by rw [hC]; rfl) fun k hk => ?_
    simp (maxSteps := 9^9) (disch := (try simp only [lens]); omega) only [argSl, sm, ↓amb, mark_eq, simprocAttr, mt120, tz3, taskC, lV, Pl.metM_get, Pl.metM_set, dx]
    repeat refine an ?_
    refine hk _ ?_; clear hk k
    refine awp_test [] 64 (decide (1 < ((((c.dq.take x).flatten ++ (c.dq.getD x default).take y) ++ [((c.dq.getD x default).getD y 0)]).count ((c.dq.getD x default).getD y 0) : Int) ∨ ¬ Pl.holds c.work ((c.dq.getD x default).getD y 0))) [0, 1, 2, 3, 38, 39, 40, 44, 45, 46] (by rw [hC]; rfl) (fun gd hgd k hk => ?_) ?_
    ·have g4 : gd 4 = some 58 := by rw [hgd]; rfl
     clear hgd
     simp (maxSteps := 9^9) (disch := (try simp only [lens]); omega) only [argSl, sm, ↓amb, mark_eq, simprocAttr, mt120, tz3, fl91_0, sz88, en107, gcase_undef, g4, taskC, lV, Pl.metM_get, Pl.metM_set, dx]
     repeat' first | refine hk _ _ rfl rfl rfl rfl ?_ | (refine gsplit (fun hg => ?_) (fun hg => ?_) <;> (try simp only [hbx] at hg) <;> simp (maxSteps := 9^9) (disch := (try simp only [lens]); omega) only [argSl, sm, ↓amb, mark_eq, simprocAttr, mt120, tz3, fl91_0, sz88, en107, gcase_undef, g4, taskC, lV, Pl.metM_get, Pl.metM_set, dx]) | apply And.intro | (refine callK_p (c63 _ _ _ _ hR) rfl ?_; (try simp (maxSteps := 9^9) (disch := (try simp only [lens]); omega) only [argSl, sm, ↓amb, mark_eq, simprocAttr, mt120, tz3, fl91_0, sz88, en107, gcase_undef, g4, taskC, lV, Pl.metM_get, Pl.metM_set, dx])) | fail
     all_goals first | rfl | omega | exact (decide_eq_true (by omega)).symm | exact (decide_eq_false (by omega)).symm | exact decide_eq_decide.mpr (by omega) | (refine Bool.eq_iff_iff.mpr ?_; simp only [beq_iff_eq, bne_iff_ne, ne_eq, decide_eq_true_eq]; omega) | (refine Bool.eq_iff_iff.mpr ?_; simp only [Bool.not_eq_true', Bool.not_eq_false', decide_eq_false_iff_not, decide_eq_true_eq, beq_iff_eq, bne_iff_ne, ne_eq]; omega) | assumption | (simp; done) | (simp [maxLen]; omega) | skip
     all_goals (rw [← decide_not]; exact decide_eq_decide.mpr ⟨.inr, fun h => by (rcases h with q | q; omega; exact q)⟩)
    simp only [kp, argSl, simprocAttr, List.length_cons, List.length_nil]
    refine awp_cond rfl (fun hb => ?_) (fun hb => ?_)
    ·try simp only [hbx] at hb
     refine awp_le (le_keep []) ?_
     simp only [kp, argSl, simprocAttr]
     refine awp_sr [] (by rw [hC]; rfl) fun k hk => ?_
     simp (maxSteps := 9^9) (disch := (try simp only [lens]); omega) only [argSl, sm, ↓amb, mark_eq, simprocAttr, taskC, lV, Pl.metM_get, Pl.metM_set, dx]
     repeat refine an ?_
     refine hk _ ?_; clear hk k
     refine awp_ret ?_
     obtain ⟨r, hr⟩ := Pl.flat_at c.dq x y (by omega) (by omega)
     refine ret1 rfl rfl ?_
     exact .p (LeP.of_eq (by rw [decide_eq_false (Pl.crewRight_no hb hr)]))
    ·try simp only [hbx] at hb
     refine awp_skip ?_
     refine h8 _ ?_; clear h8 k8
     refine awp_region [] (by rw [hC]; rfl) fun k hk => ?_
     simp (maxSteps := 9^9) (disch := (try simp only [lens]); omega) only [argSl, sm, ↓amb, mark_eq, simprocAttr, taskC, lV, Pl.metM_get, Pl.metM_set, dx]
     repeat refine an ?_
     refine hk _ ?_; clear hk k
     refine ⟨y + 1, ⟨by omega, by rw [Pl.take_succ_at _ _ (by omega), ← List.append_assoc]; exact Pl.metOk_snoc hy2 hb⟩, le_of [(0, _), (1, _)] (by rfl) (by rfl) ⟨⟨_, rfl, .ptr rfl⟩, ⟨_, rfl, .mp rfl⟩, ⟨_, rfl, .oe⟩, ⟨_, rfl, .oe⟩, ⟨_, rfl, .oe⟩, ⟨_, rfl, .oe⟩, ⟨_, rfl, .oe⟩, ⟨_, rfl, .oe⟩, trivial⟩ ⟨⟨_, rfl, _, rfl, .one (.cons (.p (.refl _)) (.cons (.p (.refl _)) (.cons (.p (.refl _)) (.cons (.p (.refl _)) (.cons (.p (.refl _)) (.cons (.p (.refl _)) (.cons (.p (.refl _)) (.nil))))))))⟩, ⟨_, rfl, _, rfl, ⟨rfl, by first | (rw [List.take_zero, List.append_nil]; done) | (rw [Pl.take_succ_at _ _ (by omega), ← List.append_assoc]; rfl)⟩⟩, trivial⟩, by omega⟩
   ·try simp only [hbx] at hb
    refine awp_exit ((if_pos rfl).mpr ?_)
    refine h5 _ ?_; clear h7 k7; clear h5 k5
    refine awp_region [] (by rw [hC]; rfl) fun k hk => ?_
    simp (maxSteps := 9^9) (disch := (try simp only [lens]); omega) only [argSl, sm, ↓amb, mark_eq, simprocAttr, taskC, lV, Pl.metM_get, Pl.metM_set, dx]
    repeat refine an ?_
    refine hk _ ?_; clear hk k
    refine ⟨x + 1, ⟨by omega, by rw [Pl.flat_succ c.dq x (by omega)]; rw [List.take_of_length_le (l := (c.dq.getD x default)) (i := y) (by omega)] at hy2; exact hy2⟩, le_of [(0, _), (1, _)] (by rfl) (by rfl) ⟨⟨_, rfl, .ptr rfl⟩, ⟨_, rfl, .mp rfl⟩, ⟨_, rfl, .oe⟩, ⟨_, rfl, .oe⟩, ⟨_, rfl, .oe⟩, trivial⟩ ⟨⟨_, rfl, _, rfl, .one (.cons (.p (.refl _)) (.cons (.p (.refl _)) (.cons (.p (.refl _)) (.cons (.p (.refl _)) (.cons (.p (.refl _)) (.cons (.p (.refl _)) (.cons (.p (.refl _)) (.nil))))))))⟩, ⟨_, rfl, _, rfl, ⟨rfl, by first | exact Pl.metM_nil | (rw [Pl.flat_succ c.dq x (by omega), List.take_of_length_le (l := (c.dq.getD x default)) (i := y) (by omega)])⟩⟩, trivial⟩, by omega⟩
  ·try simp only [hbx] at hb
   refine awp_exit ((if_pos rfl).mpr ?_)
   refine h2 _ ?_; clear h4 k4; clear h2 k2
   refine awp_le (le_keep []) ?_
   simp only [kp, argSl, simprocAttr]
   refine awp_sr [] (by rw [hC]; rfl) fun k hk => ?_
   simp (maxSteps := 9^9) (disch := (try simp only [lens]); omega) only [argSl, sm, ↓amb, mark_eq, simprocAttr, taskC, lV, Pl.metM_get, Pl.metM_set, dx]
   repeat refine an ?_
   refine hk _ ?_; clear hk k
   refine awp_ret ?_
   rw [List.take_of_length_le (by omega)] at hx2
   refine ret1 rfl rfl ?_
   exact .p (LeP.of_eq (by rw [decide_eq_true (show Pl.crewRight c from ⟨hb1.1, hb1.2.1, hb1.2.2.1, hb1.2.2.2.1, hb1.2.2.2.2, hx2.1, hx2.2⟩)]))
set_option maxHeartbeats 4000000 in
theorem c58 (d : List (List Int)) (hl : d.length ≤ 1000000) : OCall Try.prog 101 [.seq false (d.map lV)] 1 (d.map lV) := by
 refine ocall_of_awp Try.func101 rfl (by simp [Try.ntmps101]) fun C hC => ?_
 refine awp_sr [7] (by rw [hC]; rfl) fun k hk => ?_
 simp (maxSteps := 9^9) (disch := (try simp only [lens]); omega) only [argSl, sm, ↓amb, mark_eq, simprocAttr, dx]
 repeat refine an ?_
 refine hk _ ?_; clear hk k
 refine awp_seq fun k1 h1 => ?_
 refine awp_nil 33 (of_decide_eq_true (by rw [hC]; rfl)) (of_decide_eq_true (by rw [hC]; rfl)) el89 rfl fun bq1 hq1 => ?_
 refine awp_cond rfl (fun hb => ?_) (fun hb => ?_)
 ·try simp only [hbx] at hb
  have he := hq1 hb
  refine awp_sr [7] (by rw [hC]; rfl) fun k hk => ?_
  simp (maxSteps := 9^9) (disch := (try simp only [lens]); omega) only [argSl, sm, ↓amb, mark_eq, simprocAttr, dx]
  repeat refine an ?_
  refine hk _ ?_; clear hk k
  refine awp_ret ?_
  exact reton (by rw [he]) rfl rfl
 ·try simp only [hbx] at hb
  refine awp_skip ?_
  refine h1 _ ?_; clear h1 k1
  refine awp_sr [7] (by rw [hC]; rfl) fun k hk => ?_
  simp (maxSteps := 9^9) (disch := (try simp only [lens]); omega) only [argSl, sm, ↓amb, mark_eq, simprocAttr, el89, vr33, by33, dx]
  repeat refine an ?_
  refine hk _ ?_; clear hk k
  refine awp_ret ?_
  refine reto1 rfl rfl ?_
  rfl
set_option maxHeartbeats 4000000 in
theorem c59 (w : Pl.Work) (d : List (List Int)) (o : Bool) (st id : Int) (e : Pl.Event) (n : Int) (h1 : 1 ≤ d.length) (h2 : d.length ≤ 8) : HCall Try.prog 102 [.ptr 7 11 0 0, .p (iV n)] [(7, .row 11 [[.p (.seq false (w.ts.map taskC)), .p (iV w.grain), .p (.seq false (w.done.map fun b => [bV b])), .own 15, .p (bV o), .p (iV st), .p (iV id), .p (iV e.worker), .p (iV e.src), .p (iV e.task), .p (bV e.parted)]]), (15, .row 1 (lift (d.map lV)))] (.p (iV (Pl.num d n))) [(7, .row 11 [[.p (.seq false (w.ts.map taskC)), .p (iV w.grain), .p (.seq false (w.done.map fun b => [bV b])), .own 15, .p (bV o), .p (iV st), .p (iV id), .p (iV e.worker), .p (iV e.src), .p (iV e.task), .p (bV e.parted)]]), (15, .row 1 (lift (d.map lV)))] := by
 refine hcall_of_awp Try.func102 rfl (by simp [Try.ntmps102]) fun C hC => ?_
 refine awp_sr [] (by rw [hC]; rfl) fun k hk => ?_
 simp (maxSteps := 9^9) (disch := (try simp only [lens]); omega) only [argSl, sm, ↓amb, mark_eq, simprocAttr, dx]
 repeat refine an ?_
 refine hk _ ?_; clear hk k
 obtain ⟨hm1, hm2⟩ := Pl.tmod_bound n (m := (d.length : Int)) (by omega)
 have hm3 := Int.emod_nonneg (n.tmod (d.length : Int) + d.length) (b := (d.length : Int)) (by omega)
 refine awp_sr [] (by rw [hC]; rfl) fun k hk => ?_
 simp (maxSteps := 9^9) (disch := (try simp only [lens]); omega) only [argSl, sm, ↓amb, mark_eq, simprocAttr, fl145_0, fl91_1, sz89, el89, dx]
 repeat refine an ?_
 refine hk _ ?_; clear hk k
 refine awp_sr [] (by rw [hC]; rfl) fun k hk => ?_
 simp (maxSteps := 9^9) (disch := (try simp only [lens]); omega) only [argSl, sm, ↓amb, mark_eq, simprocAttr, dx]
 repeat refine an ?_
 refine hk _ ?_; clear hk k
 refine awp_ret ?_
 refine reth1 rfl rfl ?_
 exact le_of [] (by rfl) (by rfl) ⟨⟨_, rfl, .p (.refl _)⟩, trivial⟩ ⟨⟨_, rfl, _, rfl, .one (.cons (.p (.refl _)) (.cons (.p (.refl _)) (.cons (.p (.refl _)) (.cons (.own rfl) (.cons (.p (.refl _)) (.cons (.p (.refl _)) (.cons (.p (.refl _)) (.cons (.p (.refl _)) (.cons (.p (.refl _)) (.cons (.p (.refl _)) (.cons (.p (.refl _)) (.nil))))))))))))⟩, ⟨_, rfl, _, rfl, .lift _⟩, trivial⟩
set_option maxHeartbeats 4000000 in
theorem c60 (w : Pl.Work) (d : List (List Int)) (o : Bool) (st id : Int) (e : Pl.Event) (p v : Nat) (h1 : p < d.length) (h2 : v < d.length) (hl : ∀ l, l ∈ d → l.length ≤ 1000000) (hd : d.length ≤ 8) : HCall Try.prog 103 [.ptr 7 11 0 0, .p (iV p), .p (iV v)] [(7, .row 11 [[.p (.seq false (w.ts.map taskC)), .p (iV w.grain), .p (.seq false (w.done.map fun b => [bV b])), .own 15, .p (bV o), .p (iV st), .p (iV id), .p (iV e.worker), .p (iV e.src), .p (iV e.task), .p (bV e.parted)]]), (15, .row 1 (lift (d.map lV)))] (.p (bV (Pl.foundB d p v))) [(7, .row 11 [[.p (.seq false (w.ts.map taskC)), .p (iV w.grain), .p (.seq false (w.done.map fun b => [bV b])), .own 15, .p (bV o), .p (iV st), .p (iV id), .p (iV (Pl.foundE d p v e).worker), .p (iV (Pl.foundE d p v e).src), .p (iV (Pl.foundE d p v e).task), .p (bV (Pl.foundE d p v e).parted)]]), (15, .row 1 (lift ((Pl.foundD d p v).map lV)))] := by
 refine hcall_of_awp Try.func103 rfl (by simp [Try.ntmps103]) fun C hC => ?_
 refine awp_sr [] (by rw [hC]; rfl) fun k hk => ?_
 simp (maxSteps := 9^9) (disch := (try simp only [lens]); omega) only [argSl, sm, ↓amb, mark_eq, simprocAttr, dx]
 repeat refine an ?_
 refine hk _ ?_; clear hk k
 have hlp := hl _ (Pl.getD_mem d p default h1)
 have hlv := hl _ (Pl.getD_mem d v default h2)
 refine awp_sd [] ⟨[0, 1, 3, 7, 15, 0, 63, 127, 0, 256, 768, 1792, 3840, 0, 16128, 32512, 255, 131071], [4, 7, 12, 15], [], [], some []⟩ (by rw [hC]; rfl) (by kernel_rfl) (by kernel_rfl) fun k hk => ?_
 simp (maxSteps := 9^9) (disch := (try simp only [lens]); omega) only [argSl, sm, ↓amb, mark_eq, simprocAttr, fl145_0, fl91_1, sz89, el89, sz33, dx]
 repeat refine an ?_
 refine hk _ ?_; clear hk k
 refine awp_seq fun k1 h1 => ?_
 refine awp_sr [] (by rw [hC]; rfl) fun k hk => ?_
 simp (maxSteps := 9^9) (disch := (try simp only [lens]); omega) only [argSl, sm, ↓amb, mark_eq, simprocAttr, el33, dx]
 repeat refine an ?_
 refine hk _ ?_; clear hk k
 refine awp_block ?_
 refine awp_sr [] (by rw [hC]; rfl) fun k hk => ?_
 simp (maxSteps := 9^9) (disch := (try simp only [lens]); omega) only [argSl, sm, ↓amb, mark_eq, simprocAttr, dx]
 repeat refine an ?_
 refine hk _ ?_; clear hk k
 refine awp_cond rfl (fun hb => ?_) (fun hb => ?_)
 ·try simp only [hbx] at hb
  refine awp_sr [] (by rw [hC]; rfl) fun k hk => ?_
  simp (maxSteps := 9^9) (disch := (try simp only [lens]); omega) only [argSl, sm, ↓amb, mark_eq, simprocAttr, el33, sz3, fl145_1, fl112_2, fl112_1, dx]
  repeat refine an ?_
  refine hk _ ?_; clear hk k
  refine awp_draw [] ⟨[0, 1, 3, 7, 15, 0, 0, 0, 0, 448, 1023, 2047], [10], [11], [], some [15]⟩ (by rw [hC]; rfl) (by kernel_rfl) (by kernel_rfl) fun k hk => ?_
  simp (maxSteps := 9^9) (disch := (try simp only [lens]); omega) only [argSl, sm, ↓amb, mark_eq, simprocAttr, fl145_0, fl91_1, sz89, el33, sz3, el89, sz33, dx]
  repeat refine an ?_
  refine hk _ ?_; clear hk k
  refine h1 _ ?_; clear h1 k1
  refine awp_sr [] (by rw [hC]; rfl) fun k hk => ?_
  simp (maxSteps := 9^9) (disch := (try simp only [lens]); omega) only [argSl, sm, ↓amb, mark_eq, simprocAttr, dx]
  repeat refine an ?_
  refine hk _ ?_; clear hk k
  refine awp_ret ?_
  have hpos : 0 < (d.getD p default).length := by omega
  rw [show Pl.foundB d p v = true from decide_eq_true (.inl hpos), show Pl.foundE d p v e = _ by rw [Pl.foundE, if_pos hpos], show Pl.foundD d p v = _ by rw [Pl.foundD, if_pos hpos]]
  refine reth1 rfl rfl ?_
  exact le_of [] (by rfl) (by rfl) ⟨⟨_, rfl, .p (.refl _)⟩, trivial⟩ ⟨⟨_, rfl, _, rfl, .one (.cons (.p (.refl _)) (.cons (.p (.refl _)) (.cons (.p (.refl _)) (.cons (.own rfl) (.cons (.p (.refl _)) (.cons (.p (.refl _)) (.cons (.p (.refl _)) (.cons (.p (.refl _)) (.cons (.p (.refl _)) (.cons (.p (.refl _)) (.cons (.p (.refl _)) (.nil))))))))))))⟩, ⟨_, rfl, _, rfl, (by rw [List.map_set]; exact Pl.leB_liftS _ _ (LeRow.cons (.p (LeP.seq _ _)) LeRow.nil))⟩, trivial⟩
 ·try simp only [hbx] at hb
  refine awp_sr [] (by rw [hC]; rfl) fun k hk => ?_
  simp (maxSteps := 9^9) (disch := (try simp only [lens]); omega) only [argSl, sm, ↓amb, mark_eq, simprocAttr, el33, dx]
  repeat refine an ?_
  refine hk _ ?_; clear hk k
  refine awp_cond rfl (fun hb => ?_) (fun hb => ?_)
  ·try simp only [hbx] at hb
   refine awp_sr [] (by rw [hC]; rfl) fun k hk => ?_
   simp (maxSteps := 9^9) (disch := (try simp only [lens]); omega) only [argSl, sm, ↓amb, mark_eq, simprocAttr, el33, sz3, fl145_1, fl112_2, fl112_1, dx]
   repeat refine an ?_
   refine hk _ ?_; clear hk k
   refine awp_draw [] ⟨[0, 1, 3, 7, 15, 0, 0, 64, 255, 511], [8], [9], [], some [15]⟩ (by rw [hC]; rfl) (by kernel_rfl) (by kernel_rfl) fun k hk => ?_
   simp (maxSteps := 9^9) (disch := (try simp only [lens]); omega) only [argSl, sm, ↓amb, mark_eq, simprocAttr, fl145_0, fl91_1, sz89, el33, sz3, el89, sz33, dx]
   repeat refine an ?_
   refine hk _ ?_; clear hk k
   refine h1 _ ?_; clear h1 k1
   refine awp_sr [] (by rw [hC]; rfl) fun k hk => ?_
   simp (maxSteps := 9^9) (disch := (try simp only [lens]); omega) only [argSl, sm, ↓amb, mark_eq, simprocAttr, dx]
   repeat refine an ?_
   refine hk _ ?_; clear hk k
   refine awp_ret ?_
   have hneg : ¬ 0 < (d.getD p default).length := by omega
   have hpos : 0 < (d.getD v default).length := by omega
   rw [show Pl.foundB d p v = true from decide_eq_true (.inr hpos), show Pl.foundE d p v e = _ by rw [Pl.foundE, if_neg hneg, if_pos hpos], show Pl.foundD d p v = _ by rw [Pl.foundD, if_neg hneg, if_pos hpos]]
   refine reth1 rfl rfl ?_
   exact le_of [] (by rfl) (by rfl) ⟨⟨_, rfl, .p (.refl _)⟩, trivial⟩ ⟨⟨_, rfl, _, rfl, .one (.cons (.p (.refl _)) (.cons (.p (.refl _)) (.cons (.p (.refl _)) (.cons (.own rfl) (.cons (.p (.refl _)) (.cons (.p (.refl _)) (.cons (.p (.refl _)) (.cons (.p (.refl _)) (.cons (.p (.refl _)) (.cons (.p (.refl _)) (.cons (.p (.refl _)) (.nil))))))))))))⟩, ⟨_, rfl, _, rfl, (by rw [List.map_set]; exact Pl.leB_liftS _ _ (LeRow.cons (.p (LeP.refl _)) LeRow.nil))⟩, trivial⟩
  ·try simp only [hbx] at hb
   refine awp_sr [] (by rw [hC]; rfl) fun k hk => ?_
   simp (maxSteps := 9^9) (disch := (try simp only [lens]); omega) only [argSl, sm, ↓amb, mark_eq, simprocAttr, dx]
   repeat refine an ?_
   refine hk _ ?_; clear hk k
   refine awp_ret ?_
   have hneg : ¬ 0 < (d.getD p default).length := by omega
   have hneg2 : ¬ 0 < (d.getD v default).length := by omega
   rw [show Pl.foundB d p v = false from decide_eq_false (by rintro (q | q); exact hneg q; exact hneg2 q), show Pl.foundE d p v e = _ by rw [Pl.foundE, if_neg hneg, if_neg hneg2], show Pl.foundD d p v = _ by rw [Pl.foundD, if_neg hneg, if_neg hneg2]]
   refine reth1 rfl rfl ?_
   exact le_of [] (by rfl) (by rfl) ⟨⟨_, rfl, .p (.refl _)⟩, trivial⟩ ⟨⟨_, rfl, _, rfl, .one (.cons (.p (.refl _)) (.cons (.p (.refl _)) (.cons (.p (.refl _)) (.cons (.own rfl) (.cons (.p (.refl _)) (.cons (.p (.refl _)) (.cons (.p (.refl _)) (.cons (.p (.refl _)) (.cons (.p (.refl _)) (.cons (.p (.refl _)) (.cons (.p (.refl _)) (.nil))))))))))))⟩, ⟨_, rfl, _, rfl, .lift _⟩, trivial⟩
set_option maxHeartbeats 4000000 in
theorem c61 (w : Pl.Work) (d : List (List Int)) (o : Bool) (st id : Int) (e : Pl.Event) (p : Nat) (hp1 : p < d.length) (hl : ∀ l, l ∈ d → l.length ≤ 1000000) (hd : d.length ≤ 8) : HCall Try.prog 104 [.ptr 7 11 0 0, .p (iV p)] [(7, .row 11 [[.p (.seq false (w.ts.map taskC)), .p (iV w.grain), .p (.seq false (w.done.map fun b => [bV b])), .own 15, .p (bV o), .p (iV st), .p (iV id), .p (iV e.worker), .p (iV e.src), .p (iV e.task), .p (bV e.parted)]]), (15, .row 1 (lift (d.map lV)))] (.p (iV (Pl.goE w e.task))) [(7, .row 11 [[.p (.seq false ((Pl.goW w e.task).ts.map taskC)), .p (iV (Pl.goW w e.task).grain), .p (.seq false ((Pl.goW w e.task).done.map fun b => [bV b])), .own 15, .p (bV (Pl.goO o w e.task)), .p (iV st), .p (iV id), .p (iV (Pl.goV e w).worker), .p (iV (Pl.goV e w).src), .p (iV (Pl.goV e w).task), .p (bV (Pl.goV e w).parted)]]), (15, .row 1 (lift ((Pl.goD d p w e.task).map lV)))] := by
 refine hcall_of_awp Try.func104 rfl (by simp [Try.ntmps104]) fun C hC => ?_
 refine awp_sr [] (by rw [hC]; rfl) fun k hk => ?_
 simp (maxSteps := 9^9) (disch := (try simp only [lens]); omega) only [argSl, sm, ↓amb, mark_eq, simprocAttr, dx]
 repeat refine an ?_
 refine hk _ ?_; clear hk k
 refine awp_seq fun k1 h1 => ?_
 have hlp := hl _ (Pl.getD_mem d p default hp1)
 refine awp_sd [] ⟨[0, 1, 3, 7, 15, 0, 32, 96, 224, 480, 1023], [4, 9], [], [], some []⟩ (by rw [hC]; rfl) (by kernel_rfl) (by kernel_rfl) fun k hk => ?_
 simp (maxSteps := 9^9) (disch := (try simp only [lens]); omega) only [argSl, sm, ↓amb, mark_eq, simprocAttr, fl145_0, fl91_0, sz88, fl145_1, fl112_2, sz3, en108, dx]
 repeat refine an ?_
 refine callK_p (c39 _ _ _ _) rfl ?_
 simp (maxSteps := 9^9) (disch := (try simp only [lens]); omega) only [argSl, sm, ↓amb, mark_eq, simprocAttr, fl145_0, fl91_0, sz88, fl145_1, fl112_2, sz3, en108, dx]
 repeat refine an ?_
 refine hk _ ?_; clear hk k
 refine awp_cond rfl (fun hb => ?_) (fun hb => ?_)
 ·try simp only [hbx] at hb
  have hgr := hb
  refine awp_sr [] (by rw [hC]; rfl) fun k hk => ?_
  simp (maxSteps := 9^9) (disch := (try simp only [lens]); omega) only [argSl, sm, ↓amb, mark_eq, simprocAttr, dx]
  repeat refine an ?_
  refine hk _ ?_; clear hk k
  refine awp_seq fun k2 h2 => ?_
  refine awp_sd [] ⟨[0, 0, 2, 6, 14, 30, 0, 64, 192, 448, 960, 2046, 4094, 8190, 8190, 8190, 8190, 16383, 147455, 409599, 933887, 1998847, 4128767, 8388607], [5, 10], [20], [(11, 20)], none⟩ (by rw [hC]; rfl) (by kernel_rfl) (by kernel_rfl) fun k hk => ?_
  simp (maxSteps := 9^9) (disch := (try simp only [lens]); omega) only [argSl, sm, ↓amb, mark_eq, simprocAttr, fl145_0, fl91_0, sz88, fl145_1, fl112_2, sz3, en109, dx]
  repeat refine an ?_
  refine callK_p (c28 _ _ _ _) rfl ?_
  simp (maxSteps := 9^9) (disch := (try simp only [lens]); omega) only [argSl, sm, ↓amb, mark_eq, simprocAttr, fl145_0, fl91_0, sz88, fl145_1, fl112_2, sz3, en109, dx]
  repeat refine an ?_
  refine hk _ ?_; clear hk k
  refine awp_sr [] (by rw [hC]; rfl) fun k hk => ?_
  simp (maxSteps := 9^9) (disch := (try simp only [lens]); omega) only [argSl, sm, ↓amb, mark_eq, simprocAttr, dx]
  repeat refine an ?_
  refine hk _ ?_; clear hk k
  refine awp_cond rfl (fun hb => ?_) (fun hb => ?_)
  ·try simp only [hbx] at hb
   refine awp_sr [] (by rw [hC]; rfl) fun k hk => ?_
   simp (maxSteps := 9^9) (disch := (try simp only [lens]); omega) only [argSl, sm, ↓amb, mark_eq, simprocAttr, fl145_1, fl112_3, sz4, dx]
   repeat refine an ?_
   refine hk _ ?_; clear hk k
   refine awp_draw [] ⟨[0, 1, 3, 7, 15, 0, 0, 64, 192, 448, 960, 0, 4032, 8128, 16320, 0, 0, 98304, 262080, 524287, 1048575], [12, 13, 19], [20], [(14, 18), (14, 20)], some [15]⟩ (by rw [hC]; rfl) (by kernel_rfl) (by kernel_rfl) fun k hk => ?_
   simp (maxSteps := 9^9) (disch := (try simp only [lens]); omega) only [argSl, sm, ↓amb, mark_eq, simprocAttr, fl145_0, fl91_1, sz89, el89, sz33, en110, el33, vr3, by3, dx]
   repeat refine an ?_
   refine callK_p (c47 _ _ (by omega)) rfl ?_
   simp (maxSteps := 9^9) (disch := (try simp only [lens]); omega) only [argSl, sm, ↓amb, mark_eq, simprocAttr, fl145_0, fl91_1, sz89, el89, sz33, en110, el33, vr3, by3, dx]
   repeat refine an ?_
   refine hk _ ?_; clear hk k
   refine h2 _ ?_; clear h2 k2
   refine awp_sr [] (by rw [hC]; rfl) fun k hk => ?_
   simp (maxSteps := 9^9) (disch := (try simp only [lens]); omega) only [argSl, sm, ↓amb, mark_eq, simprocAttr, dx]
   repeat refine an ?_
   refine hk _ ?_; clear hk k
   refine awp_ret ?_
   obtain ⟨e1, e2, e3, e4, e5⟩ := Pl.go_part (d := d) (p := p) (o := o) (e := e) rfl hgr hb
   rw [e1, e2, e3, e4, e5]
   refine reth1 rfl rfl ?_
   exact le_of [] (by rfl) (by rfl) ⟨⟨_, rfl, .p (.of_eq (by rw [hb]))⟩, trivial⟩ ⟨⟨_, rfl, _, rfl, .one (.cons (.p (.refl _)) (.cons (.p (.refl _)) (.cons (.p (.refl _)) (.cons (.own rfl) (.cons (.p (.refl _)) (.cons (.p (.refl _)) (.cons (.p (.refl _)) (.cons (.p (.refl _)) (.cons (.p (.refl _)) (.cons (.p (.refl _)) (.cons (.p (.refl _)) (.nil))))))))))))⟩, ⟨_, rfl, _, rfl, (by rw [List.map_set]; exact Pl.leB_liftS _ _ (LeRow.cons (.p (LeP.sq (by simp))) LeRow.nil))⟩, trivial⟩
  ·try simp only [hbx] at hb
   refine awp_skip ?_
   refine h2 _ ?_; clear h2 k2
   refine awp_sr [] (by rw [hC]; rfl) fun k hk => ?_
   simp (maxSteps := 9^9) (disch := (try simp only [lens]); omega) only [argSl, sm, ↓amb, mark_eq, simprocAttr, dx]
   repeat refine an ?_
   refine hk _ ?_; clear hk k
   refine awp_ret ?_
   obtain ⟨e1, e2, e3, e4, e5⟩ := Pl.go_parterr (d := d) (p := p) (o := o) (e := e) rfl hgr hb
   rw [e1, e2, e3, e4, e5]
   refine reth1 rfl rfl ?_
   exact le_of [] (by rfl) (by rfl) ⟨⟨_, rfl, .p (.refl _)⟩, trivial⟩ ⟨⟨_, rfl, _, rfl, .one (.cons (.p (.refl _)) (.cons (.p (.refl _)) (.cons (.p (.refl _)) (.cons (.own rfl) (.cons (.p (.refl _)) (.cons (.p (.refl _)) (.cons (.p (.refl _)) (.cons (.p (.refl _)) (.cons (.p (.refl _)) (.cons (.p (.refl _)) (.cons (.p (.refl _)) (.nil))))))))))))⟩, ⟨_, rfl, _, rfl, .lift _⟩, trivial⟩
 ·try simp only [hbx] at hb
  refine awp_skip ?_
  refine h1 _ ?_; clear h1 k1
  refine awp_sr [] (by rw [hC]; rfl) fun k hk => ?_
  simp (maxSteps := 9^9) (disch := (try simp only [lens]); omega) only [argSl, sm, ↓amb, mark_eq, simprocAttr, dx]
  repeat refine an ?_
  refine hk _ ?_; clear hk k
  refine awp_sd [] ⟨[0, 0, 2, 6, 14, 30, 0, 64, 192, 448, 960, 2046, 4094, 8190, 8190, 8190, 16383, 81919, 212991, 475135, 1015807, 2097151], [5, 10], [19], [(11, 19)], none⟩ (by rw [hC]; rfl) (by kernel_rfl) (by kernel_rfl) fun k hk => ?_
  simp (maxSteps := 9^9) (disch := (try simp only [lens]); omega) only [argSl, sm, ↓amb, mark_eq, simprocAttr, fl145_0, fl91_0, sz88, fl145_1, fl112_2, sz3, en111, dx]
  repeat refine an ?_
  refine callK_p (c30 _ _ _ _) rfl ?_
  simp (maxSteps := 9^9) (disch := (try simp only [lens]); omega) only [argSl, sm, ↓amb, mark_eq, simprocAttr, fl145_0, fl91_0, sz88, fl145_1, fl112_2, sz3, en111, dx]
  repeat refine an ?_
  refine hk _ ?_; clear hk k
  refine awp_srg [] (by rw [hC]; rfl) fun gd hgd k hk => ?_
  have g6 : gd 6 = some 91 := by rw [hgd]; rfl
  clear hgd
  simp (maxSteps := 9^9) (disch := (try simp only [lens]); omega) only [argSl, sm, ↓amb, mark_eq, simprocAttr, fl145_0, fl91_2, sz4, g6, a07, dx]
  repeat refine an ?_
  refine ⟨fun hg => ?_, fun hg => ?_⟩
  ·try simp only [hbx] at hg
   repeat refine an ?_
   refine hk _ ?_; clear hk k
   refine awp_sr [] (by rw [hC]; rfl) fun k hk => ?_
   simp (maxSteps := 9^9) (disch := (try simp only [lens]); omega) only [argSl, sm, ↓amb, mark_eq, simprocAttr, dx]
   repeat refine an ?_
   refine hk _ ?_; clear hk k
   refine awp_ret ?_
   obtain ⟨e1, e2, e3, e4, e5⟩ := Pl.go_do (d := d) (p := p) (o := o) (e := e) rfl hb
   rw [e1, e2, e3, e4, e5]
   subst hg
   rw [Bool.false_or]
   refine reth1 rfl rfl ?_
   exact le_of [] (by rfl) (by rfl) ⟨⟨_, rfl, .p (.refl _)⟩, trivial⟩ ⟨⟨_, rfl, _, rfl, .one (.cons (.p (.refl _)) (.cons (.p (.refl _)) (.cons (.p (.refl _)) (.cons (.own rfl) (.cons (.p (.refl _)) (.cons (.p (.refl _)) (.cons (.p (.refl _)) (.cons (.p (.refl _)) (.cons (.p (.refl _)) (.cons (.p (.refl _)) (.cons (.p (.refl _)) (.nil))))))))))))⟩, ⟨_, rfl, _, rfl, .lift _⟩, trivial⟩
  ·try simp only [hbx] at hg
   repeat refine an ?_
   refine hk _ ?_; clear hk k
   refine awp_sr [] (by rw [hC]; rfl) fun k hk => ?_
   simp (maxSteps := 9^9) (disch := (try simp only [lens]); omega) only [argSl, sm, ↓amb, mark_eq, simprocAttr, dx]
   repeat refine an ?_
   refine hk _ ?_; clear hk k
   refine awp_ret ?_
   obtain ⟨e1, e2, e3, e4, e5⟩ := Pl.go_do (d := d) (p := p) (o := o) (e := e) rfl hb
   rw [e1, e2, e3, e4, e5]
   subst hg
   rw [Bool.true_or]
   refine reth1 rfl rfl ?_
   exact le_of [] (by rfl) (by rfl) ⟨⟨_, rfl, .p (.refl _)⟩, trivial⟩ ⟨⟨_, rfl, _, rfl, .one (.cons (.p (.refl _)) (.cons (.p (.refl _)) (.cons (.p (.refl _)) (.cons (.own rfl) (.cons (.p (.refl _)) (.cons (.p (.refl _)) (.cons (.p (.refl _)) (.cons (.p (.refl _)) (.cons (.p (.refl _)) (.cons (.p (.refl _)) (.cons (.p (.refl _)) (.nil))))))))))))⟩, ⟨_, rfl, _, rfl, .lift _⟩, trivial⟩
theorem c60i (w : Pl.Work) (d : List (List Int)) (o : Bool) (st id : Int) (e : Pl.Event) (p v : Int) (hp : 0 ≤ p ∧ p < d.length) (hv : 0 ≤ v ∧ v < d.length) (hl : ∀ l, l ∈ d → l.length ≤ 1000000) (hd : d.length ≤ 8) : HCall Try.prog 103 [.ptr 7 11 0 0, .p (iV p), .p (iV v)] [(7, .row 11 [[.p (.seq false (w.ts.map taskC)), .p (iV w.grain), .p (.seq false (w.done.map fun b => [bV b])), .own 15, .p (bV o), .p (iV st), .p (iV id), .p (iV e.worker), .p (iV e.src), .p (iV e.task), .p (bV e.parted)]]), (15, .row 1 (lift (d.map lV)))] (.p (bV (Pl.foundB d p.toNat v.toNat))) [(7, .row 11 [[.p (.seq false (w.ts.map taskC)), .p (iV w.grain), .p (.seq false (w.done.map fun b => [bV b])), .own 15, .p (bV o), .p (iV st), .p (iV id), .p (iV (Pl.foundE d p.toNat v.toNat e).worker), .p (iV (Pl.foundE d p.toNat v.toNat e).src), .p (iV (Pl.foundE d p.toNat v.toNat e).task), .p (bV (Pl.foundE d p.toNat v.toNat e).parted)]]), (15, .row 1 (lift ((Pl.foundD d p.toNat v.toNat).map lV)))] := by
 have h := c60 w d o st id e p.toNat v.toNat (by omega) (by omega) hl hd
 rw [Int.toNat_of_nonneg hp.1, Int.toNat_of_nonneg hv.1] at h; exact h
theorem c61i (w : Pl.Work) (d : List (List Int)) (o : Bool) (st id : Int) (e : Pl.Event) (p : Int) (hp : 0 ≤ p ∧ p < d.length) (hl : ∀ l, l ∈ d → l.length ≤ 1000000) (hd : d.length ≤ 8) : HCall Try.prog 104 [.ptr 7 11 0 0, .p (iV p)] [(7, .row 11 [[.p (.seq false (w.ts.map taskC)), .p (iV w.grain), .p (.seq false (w.done.map fun b => [bV b])), .own 15, .p (bV o), .p (iV st), .p (iV id), .p (iV e.worker), .p (iV e.src), .p (iV e.task), .p (bV e.parted)]]), (15, .row 1 (lift (d.map lV)))] (.p (iV (Pl.goE w e.task))) [(7, .row 11 [[.p (.seq false ((Pl.goW w e.task).ts.map taskC)), .p (iV (Pl.goW w e.task).grain), .p (.seq false ((Pl.goW w e.task).done.map fun b => [bV b])), .own 15, .p (bV (Pl.goO o w e.task)), .p (iV st), .p (iV id), .p (iV (Pl.goV e w).worker), .p (iV (Pl.goV e w).src), .p (iV (Pl.goV e w).task), .p (bV (Pl.goV e w).parted)]]), (15, .row 1 (lift ((Pl.goD d p.toNat w e.task).map lV)))] := by
 have h := c61 w d o st id e p.toNat (by omega) hl hd
 rw [Int.toNat_of_nonneg hp.1] at h; exact h
set_option maxHeartbeats 4000000 in
theorem c43 (c : Pl.Crew) (p v : Int) (hl : ∀ l, l ∈ c.dq → l.length ≤ 1000000 ∧ ∀ t, t ∈ l → -9223372036854775808 ≤ t ∧ t ≤ 9223372036854775807) : PCall Try.prog 94 [.agg (crewC c), iV p, iV v] (.tup [.agg (crewC (Pl.step c p v).1), .agg (evC (Pl.step c p v).2.1), iV (Pl.step c p v).2.2]) := by
 refine pcall_of_awp Try.func94 rfl (by simp [Try.ntmps94]) fun C hC => ?_
 refine awp_le (le_keep [0, 1, 2]) ?_
 simp only [kp, argSl, simprocAttr]
 refine awp_sr [28] (by rw [hC]; rfl) fun k hk => ?_
 simp (maxSteps := 9^9) (disch := (try simp only [lens]); omega) only [argSl, sm, ↓amb, mark_eq, simprocAttr, vr91, vr112, dx]
 repeat refine an ?_
 refine hk _ ?_; clear hk k
 refine awp_seq fun k1 h1 => ?_
 refine awp_le (le_keep [1, 2, 3, 6, 7, 8]) ?_
 simp only [kp, argSl, simprocAttr]
 refine awp_sr [28] (by rw [hC]; rfl) fun k hk => ?_
 simp (maxSteps := 9^9) (disch := (try simp only [lens]); omega) only [argSl, sm, ↓amb, mark_eq, simprocAttr, sz91, en100, dx]
 repeat refine an ?_
 refine callK_p (c44 _ hl) rfl ?_
 simp (maxSteps := 9^9) (disch := (try simp only [lens]); omega) only [argSl, sm, ↓amb, mark_eq, simprocAttr, sz91, en100, dx]
 repeat refine an ?_
 refine hk _ ?_; clear hk k
 refine awp_cond rfl (fun hb => ?_) (fun hb => ?_)
 ·try simp only [hbx] at hb
  refine awp_le (le_keep [3, 6, 7]) ?_
  simp only [kp, argSl, simprocAttr]
  refine awp_sr [28] (by rw [hC]; rfl) fun k hk => ?_
  simp (maxSteps := 9^9) (disch := (try simp only [lens]); omega) only [argSl, sm, ↓amb, mark_eq, simprocAttr, sz91, vr112, bt112, sz112, dx]
  repeat refine an ?_
  refine hk _ ?_; clear hk k
  refine awp_ret ?_
  rw [Pl.step_1 hb]
  refine retl rfl rfl ⟨retc rfl sz91 ?_, retc rfl sz112 ?_, rett rfl ?_, trivial⟩
  all_goals first | (simp (maxSteps := 9^9) (disch := (try simp only [lens]); omega) only [argSl, sm, ↓amb, mark_eq, simprocAttr, sz112, sz91, dx]) | skip
  ·exact .p (LeP.refl _)
  ·exact .p (LeP.refl _)
  ·exact .p (LeP.refl _)
 ·try simp only [hbx] at hb
  refine awp_skip ?_
  refine h1 _ ?_; clear h1 k1
  refine awp_seq fun k2 h2 => ?_
  refine awp_le (le_keep [1, 2, 3, 6, 7, 8]) ?_
  simp only [kp, argSl, simprocAttr]
  have hR := hb
  obtain ⟨hr1, hr2, hr3, hr4, hr5, _⟩ := hb
  have nb1 := Pl.num_bound c.dq p hr2
  have nb2 := Pl.num_bound c.dq v hr2
  refine awp_sr [28] (by rw [hC]; rfl) fun k hk => ?_
  simp (maxSteps := 9^9) (disch := (try simp only [lens]); omega) only [argSl, sm, ↓amb, mark_eq, simprocAttr, fl91_3, sz3, dx]
  repeat refine an ?_
  refine hk _ ?_; clear hk k
  refine awp_cond rfl (fun hb => ?_) (fun hb => ?_)
  ·try simp only [hbx] at hb
   refine awp_le (le_keep [3, 6, 7]) ?_
   simp only [kp, argSl, simprocAttr]
   refine awp_sr [28] (by rw [hC]; rfl) fun k hk => ?_
   simp (maxSteps := 9^9) (disch := (try simp only [lens]); omega) only [argSl, sm, ↓amb, mark_eq, simprocAttr, sz91, vr112, bt112, sz112, dx]
   repeat refine an ?_
   refine hk _ ?_; clear hk k
   refine awp_ret ?_
   rw [Pl.step_2 hR hb]
   refine retl rfl rfl ⟨retc rfl sz91 ?_, retc rfl sz112 ?_, rett rfl ?_, trivial⟩
   all_goals first | (simp (maxSteps := 9^9) (disch := (try simp only [lens]); omega) only [argSl, sm, ↓amb, mark_eq, simprocAttr, sz112, sz91, dx]) | skip
   ·exact .p (LeP.refl _)
   ·exact .p (LeP.refl _)
   ·exact .p (LeP.refl _)
  ·try simp only [hbx] at hb
   refine awp_skip ?_
   refine h2 _ ?_; clear h2 k2
   refine awp_le (le_keep [1, 2, 3, 6, 7]) ?_
   simp only [kp, argSl, simprocAttr]
   have hst := hb
   refine awp_sr [28] (by rw [hC]; rfl) fun k hk => ?_
   simp (maxSteps := 9^9) (disch := (try simp only [lens]); omega) only [argSl, sm, ↓amb, mark_eq, simprocAttr, sz91, vr112, bt112, pl112_1, pl112_2, vr145, bt145, pl145_0, pl145_1, dx]
   repeat refine an ?_
   refine hk _ ?_; clear hk k
   refine awp_le (le_keep [1, 2, 3, 6, 7, 9]) ?_
   simp only [kp, argSl, simprocAttr]
   refine awp_sr [28] (by rw [hC]; rfl) fun k hk => ?_
   simp (maxSteps := 9^9) (disch := (try simp only [lens]); omega) only [argSl, sm, ↓amb, mark_eq, simprocAttr, fl91_1, sz89, en101, fl145_0, dx]
   repeat refine an ?_
   refine callK_o (c58 _ (by omega)) rfl ?_
   simp (maxSteps := 9^9) (disch := (try simp only [lens]); omega) only [argSl, sm, ↓amb, mark_eq, simprocAttr, fl91_1, sz89, en101, fl145_0, dx]
   repeat refine an ?_
   refine hk _ ?_; clear hk k
   refine awp_le (le_keep [1, 2, 3, 6, 7, 9]) ?_
   simp only [kp, argSl, simprocAttr]
   refine awp_sr [28] (by rw [hC]; rfl) fun k hk => ?_
   simp (maxSteps := 9^9) (disch := (try simp only [lens]); omega) only [argSl, sm, ↓amb, mark_eq, simprocAttr, en102, dx]
   repeat refine an ?_
   refine callK_h (c59 c.work c.dq c.over c.steps c.idle (⟨0, -1, -1, false⟩ : Pl.Event) p (by omega) (by omega)) [104, 144] [7, 15] (by first | rfl | (simp only [hm]; done)) (by first | rfl | (simp [namesOk, lkp]; done)) ?_ ?_ ?_ ?_ ?_ ?_ ?_
   (iterate 6 (focus (first | trivial | (intro n hn; cases hn; done) | (simp (maxSteps := 9^9) (disch := (try simp only [lens]); omega) only [argSl, sm, ↓amb, mark_eq, simprocAttr, en102, dx, hmx, List.filter_cons, Nat.reduceBNe, imp_self, implies_true]; done))))
   simp (maxSteps := 9^9) (disch := (try simp only [lens]); omega) only [argSl, sm, ↓amb, mark_eq, simprocAttr, en102, dx, hm, List.filter_cons, List.filter_nil, Nat.reduceBNe, Option.map_none]
   repeat refine an ?_
   refine callK_h (c59 c.work c.dq c.over c.steps c.idle (⟨0, -1, -1, false⟩ : Pl.Event) v (by omega) (by omega)) [104, 144] [7, 15] (by first | rfl | (simp only [hm]; done)) (by first | rfl | (simp [namesOk, lkp]; done)) ?_ ?_ ?_ ?_ ?_ ?_ ?_
   (iterate 6 (focus (first | trivial | (intro n hn; cases hn; done) | (simp (maxSteps := 9^9) (disch := (try simp only [lens]); omega) only [argSl, sm, ↓amb, mark_eq, simprocAttr, en102, dx, hmx, List.filter_cons, Nat.reduceBNe, imp_self, implies_true]; done))))
   simp (maxSteps := 9^9) (disch := (try simp only [lens]); omega) only [argSl, sm, ↓amb, mark_eq, simprocAttr, en102, dx, hm, List.filter_cons, List.filter_nil, Nat.reduceBNe, Option.map_none]
   repeat refine an ?_
   refine hk _ ?_; clear hk k
   refine awp_le (le_keep [1, 2, 3, 6, 7, 9]) ?_
   simp only [kp, argSl, simprocAttr]
   refine awp_sr [28] (by rw [hC]; rfl) fun k hk => ?_
   simp (maxSteps := 9^9) (disch := (try simp only [lens]); omega) only [argSl, sm, ↓amb, mark_eq, simprocAttr, fl145_1, fl112_0, sz3, dx]
   repeat refine an ?_
   refine hk _ ?_; clear hk k
   refine awp_le (le_keep [1, 2, 3, 6, 7, 9]) ?_
   simp only [kp, argSl, simprocAttr]
   refine awp_sr [28] (by rw [hC]; rfl) fun k hk => ?_
   simp (maxSteps := 9^9) (disch := (try simp only [lens]); omega) only [argSl, sm, ↓amb, mark_eq, simprocAttr, fl145_0, fl91_3, sz3, dx]
   repeat refine an ?_
   refine hk _ ?_; clear hk k
   refine awp_seq fun k3 h3 => ?_
   refine awp_le (le_keep [1, 2, 3, 6, 7, 8, 9]) ?_
   simp only [kp, argSl, simprocAttr]
   refine awp_sr [28] (by rw [hC]; rfl) fun k hk => ?_
   simp (maxSteps := 9^9) (disch := (try simp only [lens]); omega) only [argSl, sm, ↓amb, mark_eq, simprocAttr, en103, dx]
   repeat refine an ?_
   refine callK_h (c60i c.work c.dq c.over (c.steps + 1) c.idle (Pl.evN c.dq p) (Pl.num c.dq p) (Pl.num c.dq v) nb1 nb2 (fun l h => (hl l h).1) (by omega)) [104, 144] [] (by first | rfl | (simp only [hm]; done)) (by first | rfl | (simp [namesOk, lkp]; done)) ?_ ?_ ?_ ?_ ?_ ?_ ?_
   (iterate 6 (focus (first | trivial | (intro n hn; cases hn; done) | (simp (maxSteps := 9^9) (disch := (try simp only [lens]); omega) only [argSl, sm, ↓amb, mark_eq, simprocAttr, en103, dx, hmx, List.filter_cons, Nat.reduceBNe, imp_self, implies_true]; done))))
   simp (maxSteps := 9^9) (disch := (try simp only [lens]); omega) only [argSl, sm, ↓amb, mark_eq, simprocAttr, en103, dx, hm, List.filter_cons, List.filter_nil, Nat.reduceBNe, Option.map_none]
   repeat refine an ?_
   refine hk _ ?_; clear hk k
   refine awp_cond rfl (fun hb => ?_) (fun hb => ?_)
   ·try simp only [hbx] at hb
    refine awp_seq fun k4 h4 => ?_
    refine awp_le (le_keep [1, 3, 6, 7, 8, 9]) ?_
    simp only [kp, argSl, simprocAttr]
    have hfb := hb
    refine awp_sr [28] (by rw [hC]; rfl) fun k hk => ?_
    simp (maxSteps := 9^9) (disch := (try simp only [lens]); omega) only [argSl, sm, ↓amb, mark_eq, simprocAttr, en104, dx]
    repeat refine an ?_
    refine callK_h (c61i c.work (Pl.dqF c.dq p v) c.over (c.steps + 1) c.idle (Pl.evF c.dq p v) (Pl.num c.dq p) (by rw [Pl.foundD_len]; exact nb1) (Pl.foundD_lens (by omega) (by omega) (fun l h => (hl l h).1)) (by rw [Pl.foundD_len]; omega)) [104, 144] [] (by first | rfl | (simp only [hm]; done)) (by first | rfl | (simp [namesOk, lkp]; done)) ?_ ?_ ?_ ?_ ?_ ?_ ?_
    (iterate 6 (focus (first | trivial | (intro n hn; cases hn; done) | (simp (maxSteps := 9^9) (disch := (try simp only [lens]); omega) only [argSl, sm, ↓amb, mark_eq, simprocAttr, en104, dx, hmx, List.filter_cons, Nat.reduceBNe, imp_self, implies_true]; done))))
    simp (maxSteps := 9^9) (disch := (try simp only [lens]); omega) only [argSl, sm, ↓amb, mark_eq, simprocAttr, en104, dx, hm, List.filter_cons, List.filter_nil, Nat.reduceBNe, Option.map_none]
    repeat refine an ?_
    refine hk _ ?_; clear hk k
    refine awp_le (le_keep [3, 6, 7, 8, 9, 10]) ?_
    simp only [kp, argSl, simprocAttr]
    refine awp_sr [28] (by rw [hC]; rfl) fun k hk => ?_
    simp (maxSteps := 9^9) (disch := (try simp only [lens]); omega) only [argSl, sm, ↓amb, mark_eq, simprocAttr, dx]
    repeat refine an ?_
    refine hk _ ?_; clear hk k
    refine awp_cond rfl (fun hb => ?_) (fun hb => ?_)
    ·try simp only [hbx] at hb
     refine awp_le (le_keep [3, 6, 7, 10]) ?_
     simp only [kp, argSl, simprocAttr]
     refine awp_sr [28] (by rw [hC]; rfl) fun k hk => ?_
     simp (maxSteps := 9^9) (disch := (try simp only [lens]); omega) only [argSl, sm, ↓amb, mark_eq, simprocAttr, sz91, vr112, bt112, sz112, dx]
     repeat refine an ?_
     refine hk _ ?_; clear hk k
     refine awp_ret ?_
     rw [Pl.step_3 hR hst hfb hb]
     refine retl rfl rfl ⟨retc rfl sz91 ?_, retc rfl sz112 ?_, rett rfl ?_, trivial⟩
     all_goals first | (simp (maxSteps := 9^9) (disch := (try simp only [lens]); omega) only [argSl, sm, ↓amb, mark_eq, simprocAttr, sz112, sz91, dx]) | skip
     ·exact .p (LeP.refl _)
     ·exact .p (LeP.refl _)
     ·exact .p (LeP.refl _)
    ·try simp only [hbx] at hb
     refine awp_skip ?_
     refine h4 _ ?_; clear h4 k4
     refine awp_le (le_keep [6, 7, 9]) ?_
     simp only [kp, argSl, simprocAttr]
     refine awp_sd [28] ⟨[0, 1, 3, 7, 0, 16, 48, 112, 15, 511, 1023], [], [8, 9], [], some [8, 16]⟩ (by rw [hC]; rfl) (by kernel_rfl) (by kernel_rfl) fun k hk => ?_
     simp (maxSteps := 9^9) (disch := (try simp only [lens]); omega) only [argSl, sm, ↓amb, mark_eq, simprocAttr, fl145_0, sz91, fl145_1, sz112, dx]
     repeat refine an ?_
     refine hk _ ?_; clear hk k
     refine awp_ret ?_
     rw [Pl.step_4 hR hst hfb hb]
     refine retl rfl rfl ⟨retc rfl sz91 ?_, retc rfl sz112 ?_, rett rfl ?_, trivial⟩
     all_goals first | (simp (maxSteps := 9^9) (disch := (try simp only [lens]); omega) only [argSl, sm, ↓amb, mark_eq, simprocAttr, sz112, sz91, dx]) | skip
     ·exact .agg_cons (.p (LeP.refl _)) (.agg_cons (.p (LeP.refl _)) (.agg_cons (.p (LeP.refl _)) (.agg_cons (.ownE rfl rfl) (.agg_cons (.p (LeP.refl _)) (.agg_cons (.p (LeP.refl _)) (.agg_cons (.p (LeP.refl _)) (.agg_nil)))))))
     ·exact .p (LeP.refl _)
     ·exact .p (LeP.refl _)
   ·try simp only [hbx] at hb
    refine awp_skip ?_
    refine h3 _ ?_; clear h3 k3
    refine awp_seq fun k5 h5 => ?_
    refine awp_le (le_keep [3, 6, 7, 8, 9]) ?_
    simp only [kp, argSl, simprocAttr]
    have hfb := hb
    obtain ⟨ef1, ef2⟩ := Pl.none_found (e := Pl.evN c.dq p) hfb
    rw [ef1, ef2]
    refine awp_sr [28] (by rw [hC]; rfl) fun k hk => ?_
    simp (maxSteps := 9^9) (disch := (try simp only [lens]); omega) only [argSl, sm, ↓amb, mark_eq, simprocAttr, fl145_0, fl91_4, sz3, dx]
    repeat refine an ?_
    refine hk _ ?_; clear hk k
    refine awp_cond rfl (fun hb => ?_) (fun hb => ?_)
    ·try simp only [hbx] at hb
     refine awp_le (le_keep [3, 6, 7]) ?_
     simp only [kp, argSl, simprocAttr]
     refine awp_sr [28] (by rw [hC]; rfl) fun k hk => ?_
     simp (maxSteps := 9^9) (disch := (try simp only [lens]); omega) only [argSl, sm, ↓amb, mark_eq, simprocAttr, sz91, vr112, bt112, sz112, dx]
     repeat refine an ?_
     refine hk _ ?_; clear hk k
     refine awp_ret ?_
     rw [Pl.step_5 hR hst hfb hb]
     refine retl rfl rfl ⟨retc rfl sz91 ?_, retc rfl sz112 ?_, rett rfl ?_, trivial⟩
     all_goals first | (simp (maxSteps := 9^9) (disch := (try simp only [lens]); omega) only [argSl, sm, ↓amb, mark_eq, simprocAttr, sz112, sz91, dx]) | skip
     ·exact .p (LeP.refl _)
     ·exact .p (LeP.refl _)
     ·exact .p (LeP.refl _)
    ·try simp only [hbx] at hb
     refine awp_skip ?_
     refine h5 _ ?_; clear h5 k5
     refine awp_le (le_keep [6, 7, 9]) ?_
     simp only [kp, argSl, simprocAttr]
     have hid := hb
     refine awp_sr [28] (by rw [hC]; rfl) fun k hk => ?_
     simp (maxSteps := 9^9) (disch := (try simp only [lens]); omega) only [argSl, sm, ↓amb, mark_eq, simprocAttr, fl145_0, fl91_4, sz3, dx]
     repeat refine an ?_
     refine hk _ ?_; clear hk k
     refine awp_le (le_keep [6, 7, 9]) ?_
     simp only [kp, argSl, simprocAttr]
     refine awp_sd [28] ⟨[0, 1, 3, 7, 0, 16, 48, 112, 15, 511, 1023], [], [8, 9], [], some [8, 16]⟩ (by rw [hC]; rfl) (by kernel_rfl) (by kernel_rfl) fun k hk => ?_
     simp (maxSteps := 9^9) (disch := (try simp only [lens]); omega) only [argSl, sm, ↓amb, mark_eq, simprocAttr, fl145_0, sz91, fl145_1, sz112, dx]
     repeat refine an ?_
     refine hk _ ?_; clear hk k
     refine awp_ret ?_
     rw [Pl.step_6 hR hst hfb hid]
     refine retl rfl rfl ⟨retc rfl sz91 ?_, retc rfl sz112 ?_, rett rfl ?_, trivial⟩
     all_goals first | (simp (maxSteps := 9^9) (disch := (try simp only [lens]); omega) only [argSl, sm, ↓amb, mark_eq, simprocAttr, sz112, sz91, dx]) | skip
     ·exact .agg_cons (.p (LeP.refl _)) (.agg_cons (.p (LeP.refl _)) (.agg_cons (.p (LeP.refl _)) (.agg_cons (.ownE rfl rfl) (.agg_cons (.p (LeP.refl _)) (.agg_cons (.p (LeP.refl _)) (.agg_cons (.p (LeP.refl _)) (.agg_nil)))))))
     ·exact .p (LeP.refl _)
     ·exact .p (LeP.refl _)
end Go.Proofs.Ytbehekmnccoifaa
end
section
set_option linter.unusedSimpArgs false
set_option linter.unusedVariables false
namespace Go.Pl
def firstB {α : Type} (p : α → Bool) (l : List α) : Int := match l.findIdx? p with
  | some i => i
  | none => -1
theorem firstB_at {α : Type} [Inhabited α] {p : α → Bool} {l : List α} {i : Nat} (hi : i < l.length) (h : ∀ j, j < i → p (l.getD j default) = false) (h2 : p (l.getD i default) = true) : firstB p l = i := by
  have : l.findIdx? p = some i := by
    rw [List.findIdx?_eq_some_iff_getElem]
    refine ⟨hi, ?_, fun j hj => ?_⟩
    · rw [List.getD_eq_getElem?_getD, List.getElem?_eq_getElem hi] at h2; exact h2
    · have := h j hj
      rw [List.getD_eq_getElem?_getD, List.getElem?_eq_getElem (by omega)] at this
      simpa using this
  unfold firstB; rw [this]
theorem all_of {α : Type} [Inhabited α] {p : α → Bool} {l : List α} {i : Nat} (hi : l.length ≤ i) (h : ∀ j, j < i → j < l.length → p (l.getD j default) = false) : ∀ x, x ∈ l → p x = false := fun x hx => by
  obtain ⟨k, hk, e⟩ := List.getElem_of_mem hx
  have := h k (by omega) hk
  rw [List.getD_eq_getElem?_getD, List.getElem?_eq_getElem hk] at this
  rw [← e]; exact this
theorem firstB_no {α : Type} [Inhabited α] {p : α → Bool} {l : List α} {i : Nat} (hi : l.length ≤ i) (h : ∀ j, j < i → j < l.length → p (l.getD j default) = false) : firstB p l = -1 := by
  have : l.findIdx? p = none := by
    rw [List.findIdx?_eq_none_iff]
    exact all_of hi h
  unfold firstB; rw [this]
theorem firstB_iff {α : Type} (p : α → Bool) (l : List α) : (0 ≤ firstB p l) ↔ ∃ x, x ∈ l ∧ p x = true := by
  unfold firstB
  split
  · rename_i i h
    rw [List.findIdx?_eq_some_iff_getElem] at h
    obtain ⟨hi, h1, _⟩ := h
    exact ⟨fun _ => ⟨_, List.getElem_mem hi, h1⟩, fun _ => by omega⟩
  · rename_i h
    rw [List.findIdx?_eq_none_iff] at h
    exact ⟨fun q => by omega, fun ⟨x, h1, h2⟩ => by rw [h x h1] at h2; cases h2⟩
theorem firstB_ge {α : Type} (p : α → Bool) (l : List α) : -1 ≤ firstB p l ∧ firstB p l ≤ l.length := by
  unfold firstB
  split
  · rename_i i h
    rw [List.findIdx?_eq_some_iff_getElem] at h
    obtain ⟨hi, _⟩ := h; omega
  · omega
def shape (x : Batch) : Prop := 1 ≤ x.kind ∧ x.kind ≤ 3 ∧ (x.kind = 3 → x.edges.length = 0) ∧ (x.kind ≠ 3 → x.asks.length = 0) ∧ x.edges.length ≤ 60 ∧ x.asks.length ≤ 60
instance (x : Batch) : Decidable (shape x) := by unfold shape; infer_instance
def bdOk (n g w : Int) : Prop := cnt n g ∧ 1 ≤ w ∧ w ≤ 8
instance (n g w : Int) : Decidable (bdOk n g w) := by unfold bdOk; infer_instance
end Go.Pl
end
section
set_option linter.unusedSimpArgs false
set_option linter.unusedVariables false
namespace Go.Pl
theorem rp_eq {c : Crew} {W r p : Nat} (hW : c.dq.length = W) (hp : p < W) : rp c (r * W + p) = p ∧ rv c (r * W + p) = p + 1 + r := by
  unfold rp rv
  rw [hW, Nat.mul_comm, Nat.mul_add_mod, Nat.mod_eq_of_lt hp, Nat.mul_add_div (by omega), Nat.div_eq_of_lt hp, Nat.add_zero]
  exact ⟨rfl, rfl⟩
theorem rounds_over {f k : Nat} {c : Crew} {ev : List Event} (h : c.over = true) : rounds f k c ev = (c, ev, 0) := by
  cases f with
  | zero => rfl
  | succ f => simp only [rounds]; rw [if_pos h]
theorem rounds_on {f k W r p : Nat} {c : Crew} {ev : List Event} (hW : c.dq.length = W) (hp : p < W) (hk : k = r * W + p) (ho : ¬ c.over = true) (hh : ¬ held c.dq = 0) (h0 : (step c p (p + 1 + r)).2.2 = 0) (hf : k < f) :
    rounds (f - k) k c ev = rounds (f - (k + 1)) (k + 1) (step c p (p + 1 + r)).1 (ev ++ [(step c p (p + 1 + r)).2.1]) := by
  obtain ⟨e1, e2⟩ := rp_eq (r := r) hW hp
  rw [← hk] at e1 e2
  rw [show f - k = (f - (k + 1)) + 1 by omega]
  simp only [rounds]
  rw [if_neg ho, if_neg hh, e1, e2, if_neg (by simpa using h0)]
theorem Run.most_on {n g : Int} {c : Crew} {ev : List Event} (h : Run n g c ev) (hs : ev.length < 100000) {k W r p : Nat} (hW : c.dq.length = W) (hp : p < W) (hk : k = r * W + p) (ho : ¬ c.over = true) :
    most n g (k + 1) (Pl.step c p (p + 1 + r)).1 (ev ++ [(Pl.step c p (p + 1 + r)).2.1]) + 1 ≤ most n g k c ev := by
  obtain ⟨e1, e2⟩ := rp_eq (r := r) hW hp
  rw [← hk] at e1 e2
  have := h.most_step hs k ho
  rw [e1, e2] at this; exact this
theorem Run.most_0 {n g : Int} {c : Crew} {ev : List Event} (h : Run n g c ev) {k r : Nat} (hk : k = r * c.dq.length) : 0 ≤ most n g k c ev := by
  by_cases ho : c.over = true
  · have h3 := h.rem.2.2.1 ho
    unfold most
    rw [if_pos (.inr ho), h3, hk, Nat.mul_mod_left]; simp
  · have := (h.most_pos k ho).1; omega
theorem picked_ok {n g w : Int} {P : List (Int × Int)} (hc : cnt n g) (hw : 1 ≤ w ∧ w ≤ 8) (hP : P.length ≤ 70000) :
    (crewBegin n g w).2 = 0 ∧ Run n g (crewBegin n g w).1 [] ∧ (picked P (crewBegin n g w).1 []).2.2 = 0 ∧ Run n g (picked P (crewBegin n g w).1 []).1 (picked P (crewBegin n g w).1 []).2.1 ∧ (picked P (crewBegin n g w).1 []).2.1.length ≤ P.length ∧
    most n g 0 (picked P (crewBegin n g w).1 []).1 (picked P (crewBegin n g w).1 []).2.1 ≤ 16010 ∧ whole n g w P = rounds 20000 0 (picked P (crewBegin n g w).1 []).1 (picked P (crewBegin n g w).1 []).2.1 := by
  obtain ⟨b0, b1, b2, b3, b4, b5⟩ := CInv.begins hc hw
  obtain ⟨p1, p2, p3, p4⟩ := picked_end P _ _ (Run.begins hc hw) (by simp; omega)
  have hr0 := p2.rem
  rw [b4] at p4
  have hT : toCome n g (picked P (crewBegin n g w).1 []).2.1 ≤ 1999 := hr0.2.1
  have e2 : (((picked P (crewBegin n g w).1 []).1.dq.length : Nat) : Int) = w := by rw [p4]; omega
  have hTw : toCome n g (picked P (crewBegin n g w).1 []).2.1 * w ≤ 1999 * 8 := mul_up hT hw.2 (by omega) (by omega)
  simp only [List.length_nil] at p3
  refine ⟨b0, Run.begins hc hw, p1, p2, by omega, ?_, ?_⟩
  · unfold most
    rw [Nat.zero_mod, e2]
    split <;> omega
  · unfold whole; rw [if_neg (by simpa using b0)]
theorem leaves_len (ts : List Task) (ev : List Event) : (leaves' ts ev).length ≤ ev.length := by
  induction ev with
  | nil => exact Nat.le_refl _
  | cons e l ih => simp only [leaves']; split <;> simp <;> omega
theorem leaves_mem {ts : List Task} {s : Int × Int} : ∀ {ev : List Event}, s ∈ leaves' ts ev → ∃ t : Nat, t < ts.length ∧ s = ((ts.getD t default).low, (ts.getD t default).high)
  | e :: l, h => by
    simp only [leaves'] at h
    split at h
    · rename_i hc
      rcases List.mem_cons.1 h with q | q
      · unfold isLeaf at hc
        simp only [Bool.and_eq_true, decide_eq_true_eq] at hc
        exact ⟨e.task.toNat, by omega, q⟩
      · exact leaves_mem q
    · exact leaves_mem h
theorem Run.leaf {n g : Int} {c : Crew} {ev : List Event} (h : Run n g c ev) {s : Int × Int} (hs : s ∈ leaves' c.work.ts ev) : 0 ≤ s.1 ∧ s.1 < s.2 ∧ s.2 ≤ n := by
  obtain ⟨un, hci⟩ := h.ci
  obtain ⟨t, ht, rfl⟩ := leaves_mem hs
  have h1 := hci.inv.ok t ht
  have h2 := hci.inv.dl
  unfold okT at h1
  dsimp only; omega
theorem unitsOf_take_len (l : List (Int × Int)) (i : Nat) : (unitsOf (l.take i)).length ≤ (unitsOf l).length := by
  have : unitsOf l = unitsOf (l.take i) ++ unitsOf (l.drop i) := by rw [← unitsOf_app, List.take_append_drop]
  rw [this, List.length_append]; omega
def ordL (n : Int) (p : Plan) : List (Int × Int) := leaves' (ordW n p).1.work.ts (ordW n p).2.1
theorem ordL_ok {n : Int} {p : Plan} (h : ordOk n p) (h0 : n ≠ 0) : ordU n p = unitsOf (ordL n p) ∧ ordS n p = (ordW n p).2.1.length ∧ (∀ s, s ∈ ordL n p → 0 ≤ s.1 ∧ s.1 < s.2 ∧ s.2 ≤ n) ∧ ((unitsOf (ordL n p)).length : Int) = n ∧ (ordL n p).length ≤ 100000 ∧ (ordW n p).2.1.length ≤ 100000 ∧ (ordW n p).2.2 = 0 := by
  obtain ⟨h1, h2, h3⟩ := ord_cnt h h0
  obtain ⟨_, _, e, r, o, l1, _⟩ := whole_ok (P := p.picks) h1 h2 (by omega)
  have hu := (ordU_ok h).2.2
  have hT := (cntT_pos h1).2
  have h1' := h1
  unfold cnt at h1'
  have hTw : cntT n p.grain * p.workers ≤ 1999 * 8 := mul_up (by omega) (by omega) (by omega) (by omega)
  have e1 : ordU n p = unitsOf (ordL n p) := by unfold ordU ordL; rw [if_pos ⟨h, h0⟩]
  have hl := leaves_len (ordW n p).1.work.ts (ordW n p).2.1
  have hW : ((ordW n p).2.1.length : Int) ≤ p.picks.length + cntT n p.grain * p.workers := l1
  refine ⟨e1, by unfold ordS; rw [if_pos ⟨h, h0⟩], fun s hs => r.leaf hs, by rw [← e1]; exact hu, by unfold ordL; omega, by omega, e⟩
theorem ord_bd {n : Int} {p : Plan} (h : ordOk n p) (h0 : n ≠ 0) : bdOk n p.grain p.workers ∧ p.picks.length ≤ 4000 := by
  obtain ⟨h1, h2, h3⟩ := ord_cnt h h0
  exact ⟨⟨h1, h2⟩, h3⟩
theorem upto_take_len (l : List (Int × Int)) (i k : Nat) (h : i < l.length) (hk : (k : Int) < (l.getD i default).2 - (l.getD i default).1) : (unitsOf (l.take i) ++ upto (l.getD i default).1 ((l.getD i default).1 + k)).length < (unitsOf l).length := by
  have h1 := unitsOf_take_len l (i + 1)
  rw [unitsOf_take l i h, List.length_append, upto_len] at h1
  rw [List.length_append, upto_len]; omega
theorem ordE0 {n : Int} {p : Plan} (h : ordOk n p) : ordE n p = 0 := by unfold ordE; rw [if_pos h]
theorem ord_no {n : Int} {p : Plan} (h : ¬ ordOk n p) : ordE n p = 1 ∧ ordU n p = [] ∧ ordS n p = 0 := by
  unfold ordE ordU ordS
  rw [if_neg h, if_neg (fun q => h q.1), if_neg (fun q => h q.1)]; exact ⟨rfl, rfl, rfl⟩
theorem ord_zero (p : Plan) : ordU 0 p = [] ∧ ordS 0 p = 0 := by
  unfold ordU ordS
  rw [if_neg (fun q => q.2 rfl), if_neg (fun q => q.2 rfl)]; exact ⟨rfl, rfl⟩
end Go.Pl
namespace Go.Pl
theorem isLeaf_no {ts : List Task} {e : Event} (h : e.parted = true ∨ e.task < 0 ∨ (ts.length : Int) ≤ e.task) : isLeaf ts e = false := by
  unfold isLeaf
  rcases h with q | q | q
  · rw [q]; rfl
  · rw [decide_eq_false (show ¬ 0 ≤ e.task by omega)]; simp
  · rw [decide_eq_false (show ¬ e.task < ts.length by omega)]; simp
theorem isLeaf_yes {ts : List Task} {e : Event} (h : ¬ (e.parted = true ∨ e.task < 0 ∨ (ts.length : Int) ≤ e.task)) : isLeaf ts e = true ∧ 0 ≤ e.task ∧ e.task < ts.length := by
  have h1 : e.parted = false := by
    cases hp : e.parted with
    | false => rfl
    | true => exact absurd (.inl hp) h
  have h2 : 0 ≤ e.task := Int.not_lt.1 fun q => h (.inr (.inl q))
  have h3 : e.task < ts.length := Int.not_le.1 fun q => h (.inr (.inr q))
  refine ⟨?_, h2, h3⟩
  unfold isLeaf
  rw [h1, decide_eq_true h2, decide_eq_true h3]; rfl
end Go.Pl
namespace Go.Pl
theorem ord_steps {n : Int} {p : Plan} (h : ordOk n p) : leB n p ≤ ordS n p ∧ ordS n p ≤ phB n p ∧ (p.picks.length = 0 → p.workers = 1 → ordS n p = leB n p) ∧ min n 1 ≤ leB n p ∧ leB n p ≤ 2 * n ∧ ordS n p ≤ 20000 := by
  by_cases h0 : n = 0
  · subst h0
    have h1 : leB 0 p = 0 := if_neg (fun q => absurd q.1 (by decide))
    have h2 : phB 0 p = 0 := if_neg (fun q => absurd q.1 (by decide))
    rw [h1, h2, (ord_zero p).2]
    exact ⟨by omega, by omega, fun _ _ => rfl, by omega, by omega, by omega⟩
  · obtain ⟨h1, h2, h3⟩ := ord_cnt h h0
    obtain ⟨_, _, e, r, o, l1, l2⟩ := whole_ok (P := p.picks) h1 h2 (by omega)
    have hph : phOk n p := by
      have := h1; unfold cnt at this
      exact ⟨by omega, by omega, h.2.2⟩
    have e1 : leB n p = cntT n p.grain := if_pos hph
    have e2 : phB n p = p.picks.length + p.workers * (cntT n p.grain + 1) := if_pos hph
    have e3 : ordS n p = (whole n p.grain p.workers p.picks).2.1.length := by unfold ordS ordW; rw [if_pos ⟨h, h0⟩]
    have e4 : p.workers * (cntT n p.grain + 1) = cntT n p.grain * p.workers + p.workers := by rw [Int.mul_add, Int.mul_one, Int.mul_comm]
    have h5 := cntT_pos h1
    have h6 := (phB_nn n p).2
    have hn : 0 ≤ n := h.1
    rw [e1, e3]
    refine ⟨l2, by rw [e2, e4]; omega, fun a b => ?_, by omega, by omega, by rw [e2, e4] at h6; omega⟩
    have l3 : cntT n p.grain * p.workers = cntT n p.grain := by rw [b, Int.mul_one]
    omega
end Go.Pl
end
section
set_option linter.unusedSimpArgs false
set_option linter.unusedVariables false
set_option maxRecDepth 100000
namespace Go.Proofs.Ytbehekmnccoifaa
open Go.Am Go.Proofs
theorem by112 : tBytes Try.prog 112 = some 32 := by kernel_rfl
theorem el92 : tEl Try.prog 92 = some 112 := by kernel_rfl
theorem en94 : enters Try.prog 94 = true := by kernel_rfl
theorem fl126_0 : tFld Try.prog 126 0 = some (0, 7, true) := by kernel_rfl
theorem fl126_1 : tFld Try.prog 126 1 = some (7, 1, false) := by kernel_rfl
theorem sz92 : tSz Try.prog 92 = some (false, 1) := by kernel_rfl
set_option maxHeartbeats 4000000 in
theorem c_drain_go1_step (c : Pl.Crew) (ev : List Pl.Event) (p v : Int) (hl : ∀ l, l ∈ c.dq → l.length ≤ 1000000 ∧ ∀ t, t ∈ l → -9223372036854775808 ≤ t ∧ t ≤ 9223372036854775807) (h0 : (Pl.step c p v).2.2 = 0) (he : ev.length ≤ 1000000) : HCall Try.prog 80 [.ptr 7 8 0 0, .p (iV p), .p (iV v)] [(7, (.row 8 [[.p (.seq false (c.work.ts.map taskC)), .p (iV c.work.grain), .p (.seq false (c.work.done.map fun b => [bV b])), .p (.seq false (c.dq.map lV)), .p (bV c.over), .p (iV c.steps), .p (iV c.idle), .own 15]])), (15, (.row 4 (lift (ev.map evC))))] (.p (iV 0)) [(7, (.row 8 [[.p (.seq false ((Pl.step c p v).1.work.ts.map taskC)), .p (iV (Pl.step c p v).1.work.grain), .p (.seq false ((Pl.step c p v).1.work.done.map fun b => [bV b])), .p (.seq false ((Pl.step c p v).1.dq.map lV)), .p (bV (Pl.step c p v).1.over), .p (iV (Pl.step c p v).1.steps), .p (iV (Pl.step c p v).1.idle), .own 0]])), (0, (.row 4 (lift ((ev ++ [(Pl.step c p v).2.1]).map evC))))] := by
 refine hcall_of_awp Try.func80 rfl (by simp [Try.ntmps80]) fun C hC => ?_
 refine awp_le (le_keep [0, 1, 2]) ?_
 simp only [kp, argSl, simprocAttr]
 refine awp_sr [32] (by rw [hC]; rfl) fun k hk => ?_
 simp (maxSteps := 9^9) (disch := (try simp only [lens]); omega) only [argSl, sm, ↓amb, mark_eq, simprocAttr, dx]
 repeat refine an ?_
 refine hk _ ?_; clear hk k
 refine awp_le (le_keep [0, 1, 2]) ?_
 simp only [kp, argSl, simprocAttr]
 refine awp_sr [32] (by rw [hC]; rfl) fun k hk => ?_
 simp (maxSteps := 9^9) (disch := (try simp only [lens]); omega) only [argSl, sm, ↓amb, mark_eq, simprocAttr, fl126_0, sz91, en94, vr91, vr112, sz112, dx]
 repeat refine an ?_
 refine callK_p (c43 _ _ _ hl) rfl ?_
 simp (maxSteps := 9^9) (disch := (try simp only [lens]); omega) only [argSl, sm, ↓amb, mark_eq, simprocAttr, fl126_0, sz91, en94, vr91, vr112, sz112, dx]
 repeat refine an ?_
 refine hk _ ?_; clear hk k
 refine awp_seq fun k1 h1 => ?_
 refine awp_le (le_keep [0, 6, 7, 8, 9]) ?_
 simp only [kp, argSl, simprocAttr]
 rw [h0]
 refine awp_sr [32] (by rw [hC]; rfl) fun k hk => ?_
 simp (maxSteps := 9^9) (disch := (try simp only [lens]); omega) only [argSl, sm, ↓amb, mark_eq, simprocAttr, dx]
 repeat refine an ?_
 refine hk _ ?_; clear hk k
 refine awp_cond rfl (fun hb => ?_) (fun hb => ?_)
 ·try simp only [hbx] at hb
  refine awp_draw [32] ⟨[0, 0, 0, 0, 8, 24, 56, 0, 128, 504, 1021, 2045, 4093, 8191, 16383, 32767], [6], [9, 12, 15], [(9, 12), (9, 15)], some [7, 15]⟩ (by rw [hC]; rfl) (by kernel_rfl) (by kernel_rfl) fun k hk => ?_
  simp (maxSteps := 9^9) (disch := (try simp only [lens]); omega) only [argSl, sm, ↓amb, mark_eq, simprocAttr, sz91, fl126_1, sz92, sz112, el92, vr112, by112, fl126_0, dx]
  repeat refine an ?_
  refine hk _ ?_; clear hk k
  refine h1 _ ?_; clear h1 k1
  refine awp_le (le_keep [9]) ?_
  simp only [kp, argSl, simprocAttr]
  refine awp_sr [32] (by rw [hC]; rfl) fun k hk => ?_
  simp (maxSteps := 9^9) (disch := (try simp only [lens]); omega) only [argSl, sm, ↓amb, mark_eq, simprocAttr, dx]
  repeat refine an ?_
  refine hk _ ?_; clear hk k
  refine awp_ret ?_
  refine reth1 rfl rfl ?_
  exact le_of [(0, _)] (by rfl) (by rfl) ⟨⟨_, rfl, .p (.of_eq (by first | rfl | rw [h0]))⟩, trivial⟩ ⟨⟨_, rfl, _, rfl, .one (.cons (.p (.refl _)) (.cons (.p (.refl _)) (.cons (.p (.refl _)) (.cons (.p (.refl _)) (.cons (.p (.refl _)) (.cons (.p (.refl _)) (.cons (.p (.refl _)) (.cons (.own rfl) (.nil)))))))))⟩, ⟨_, rfl, _, rfl, .liftE (by simp)⟩, trivial⟩
 ·exact absurd hb (by simp)
end Go.Proofs.Ytbehekmnccoifaa
end
section
set_option linter.unusedSimpArgs false
set_option linter.unusedVariables false
set_option maxRecDepth 100000
namespace Go.Proofs.Ytbehekmnccoifaa
open Go.Am Go.Proofs
theorem en80 : enters Try.prog 80 = true := by kernel_rfl
theorem en95 : enters Try.prog 95 = true := by kernel_rfl
set_option maxHeartbeats 4000000 in
theorem c_drain_go1_rounds (n g : Int) (c : Pl.Crew) (ev : List Pl.Event) (hR : Pl.Run n g c ev) (hM : Pl.most n g 0 c ev ≤ 16010) (he : ev.length ≤ 70000) : HCall Try.prog 81 [.ptr 7 8 0 0] [(7, (.row 8 [[.p (.seq false (c.work.ts.map taskC)), .p (iV c.work.grain), .p (.seq false (c.work.done.map fun b => [bV b])), .p (.seq false (c.dq.map lV)), .p (bV c.over), .p (iV c.steps), .p (iV c.idle), .own 15]])), (15, (.row 4 (lift (ev.map evC))))] (.p (iV 0)) [(7, (.row 8 [[.p (.seq false ((Pl.rounds 20000 0 c ev).1.work.ts.map taskC)), .p (iV (Pl.rounds 20000 0 c ev).1.work.grain), .p (.seq false ((Pl.rounds 20000 0 c ev).1.work.done.map fun b => [bV b])), .p (.seq false ((Pl.rounds 20000 0 c ev).1.dq.map lV)), .p (bV (Pl.rounds 20000 0 c ev).1.over), .p (iV (Pl.rounds 20000 0 c ev).1.steps), .p (iV (Pl.rounds 20000 0 c ev).1.idle), .p (.seq false ((Pl.rounds 20000 0 c ev).2.1.map evC))]]))] := by
 refine hcall_of_awp Try.func81 rfl (by simp [Try.ntmps81]) fun C hC => ?_
 refine awp_le (le_keep [0]) ?_
 simp only [kp, argSl, simprocAttr]
 refine awp_sr [] (by rw [hC]; rfl) fun k hk => ?_
 simp (maxSteps := 9^9) (disch := (try simp only [lens]); omega) only [argSl, sm, ↓amb, mark_eq, simprocAttr, dx]
 repeat refine an ?_
 refine hk _ ?_; clear hk k
 refine awp_le (le_keep [0]) ?_
 simp only [kp, argSl, simprocAttr]
 refine awp_sr [] (by rw [hC]; rfl) fun k hk => ?_
 simp (maxSteps := 9^9) (disch := (try simp only [lens]); omega) only [argSl, sm, ↓amb, mark_eq, simprocAttr, dx]
 repeat refine an ?_
 refine hk _ ?_; clear hk k
 refine awp_block ?_
 refine awp_loop (σ := Nat × Pl.Crew × List Pl.Event) (fun x => Pl.Run n g x.2.1 x.2.2 ∧ x.2.1.dq.length = c.dq.length ∧ Pl.rounds (20000 - (x.1 * c.dq.length)) (x.1 * c.dq.length) x.2.1 x.2.2 = (Pl.rounds 20000 0 c ev) ∧ Pl.most n g (x.1 * c.dq.length) x.2.1 x.2.2 + (((x.1 * c.dq.length) : Nat) : Int) ≤ 16010 ∧ x.2.2.length = ev.length + (x.1 * c.dq.length)) (fun x => ⟨[(0, (.ptr 7 8 0 0)), (3, (.p (iV (x.1 : Int))))], [(7, (.row 8 [[.p (.seq false (x.2.1.work.ts.map taskC)), .p (iV x.2.1.work.grain), .p (.seq false (x.2.1.work.done.map fun b => [bV b])), .p (.seq false (x.2.1.dq.map lV)), .p (bV x.2.1.over), .p (iV x.2.1.steps), .p (iV x.2.1.idle), .own 0]])), (0, (.row 4 (lift (x.2.2.map evC))))], 1⟩) (fun x => 16011 - x.1 * c.dq.length) (0, c, ev) ?_ ?_ fun x hx => ?_
 ·dsimp only; rw [Nat.zero_mul]; exact ⟨hR, rfl, rfl, by omega, by omega⟩
 ·exact le_of2 [(0, _)] (by rfl) (by rfl) ⟨⟨_, rfl, .ptr rfl⟩, ⟨_, rfl, .oe⟩, trivial⟩ ⟨⟨_, rfl, _, rfl, .one (.cons (.p (.refl _)) (.cons (.p (.refl _)) (.cons (.p (.refl _)) (.cons (.p (.refl _)) (.cons (.p (.refl _)) (.cons (.p (.refl _)) (.cons (.p (.refl _)) (.cons (.own rfl) (.nil)))))))))⟩, ⟨_, rfl, _, rfl, .liftE rfl⟩, trivial⟩
 obtain ⟨r, c1, e1⟩ := x
 obtain ⟨hR1, hRw, hRr, hRm, hRe⟩ := hx
 dsimp only at hR1 hRw hRr hRm hRe
 refine awp_seq fun k2 h2 => ?_
 refine awp_block ?_
 refine awp_le (le_keep [0, 2, 3, 7]) ?_
 simp only [kp, argSl, simprocAttr]
 refine awp_sr [] (by rw [hC]; rfl) fun k hk => ?_
 simp (maxSteps := 9^9) (disch := (try simp only [lens]); omega) only [argSl, sm, ↓amb, mark_eq, simprocAttr, fl126_0, fl91_1, sz89, el89, dx]
 repeat refine an ?_
 refine hk _ ?_; clear hk k
 refine awp_block ?_
 refine awp_loop (σ := Nat × Pl.Crew × List Pl.Event) (fun x => x.1 ≤ c.dq.length ∧ Pl.Run n g x.2.1 x.2.2 ∧ x.2.1.dq.length = c.dq.length ∧ Pl.rounds (20000 - (r * c.dq.length + x.1)) (r * c.dq.length + x.1) x.2.1 x.2.2 = (Pl.rounds 20000 0 c ev) ∧ Pl.most n g (r * c.dq.length + x.1) x.2.1 x.2.2 + (((r * c.dq.length + x.1) : Nat) : Int) ≤ 16010 ∧ x.2.2.length = ev.length + (r * c.dq.length + x.1)) (fun x => ⟨[(0, (.ptr 7 8 0 0)), (3, (.p (iV (r : Int)))), (13, (.p (iV (c.dq.length : Int)))), (14, (.p (iV (x.1 : Int))))], [(7, (.row 8 [[.p (.seq false (x.2.1.work.ts.map taskC)), .p (iV x.2.1.work.grain), .p (.seq false (x.2.1.work.done.map fun b => [bV b])), .p (.seq false (x.2.1.dq.map lV)), .p (bV x.2.1.over), .p (iV x.2.1.steps), .p (iV x.2.1.idle), .own 0]])), (0, (.row 4 (lift (x.2.2.map evC))))], 1⟩) (fun x => c.dq.length - x.1) (0, c1, e1) ?_ ?_ fun x hx => ?_
 ·dsimp only; rw [Nat.add_zero]; exact ⟨Nat.zero_le _, hR1, hRw, hRr, hRm, hRe⟩
 ·exact le_of [(0, _)] (by rfl) (by rfl) ⟨⟨_, rfl, .ptr rfl⟩, ⟨_, rfl, .oe⟩, ⟨_, rfl, .p (.of_eq (by first | rfl | rw [hRw]))⟩, ⟨_, rfl, .oe⟩, trivial⟩ ⟨⟨_, rfl, _, rfl, .one (.cons (.p (.refl _)) (.cons (.p (.refl _)) (.cons (.p (.refl _)) (.cons (.p (.refl _)) (.cons (.p (.refl _)) (.cons (.p (.refl _)) (.cons (.p (.refl _)) (.cons (.own rfl) (.nil)))))))))⟩, ⟨_, rfl, _, rfl, .liftE rfl⟩, trivial⟩
 obtain ⟨p, c2, e2⟩ := x
 obtain ⟨hp1, hR2, hR3, hR4, hR5, hR6⟩ := hx
 dsimp only at hp1 hR2 hR3 hR4 hR5 hR6
 have hdl := hR1.dqlen
 have hm0 := hR1.most_0 (k := r * c.dq.length) (r := r) (by rw [hRw])
 have hrr : r ≤ r * c.dq.length := Nat.le_mul_of_pos_right r (by omega)
 refine awp_le (le_keep [0, 2, 3, 7, 13, 14]) ?_
 simp only [kp, argSl, simprocAttr]
 refine awp_sr [] (by rw [hC]; rfl) fun k hk => ?_
 simp (maxSteps := 9^9) (disch := (try simp only [lens]); omega) only [argSl, sm, ↓amb, mark_eq, simprocAttr, dx]
 repeat refine an ?_
 refine hk _ ?_; clear hk k
 refine awp_seq fun k4 h4 => ?_
 refine awp_cond rfl (fun hb => ?_) (fun hb => ?_)
 ·try simp only [hbx] at hb
  refine awp_skip ?_
  refine h4 _ ?_; clear h4 k4
  refine awp_seq fun k5 h5 => ?_
  refine awp_block ?_
  refine awp_le (le_keep [0, 2, 3, 7, 13, 14]) ?_
  simp only [kp, argSl, simprocAttr]
  refine awp_sr [] (by rw [hC]; rfl) fun k hk => ?_
  simp (maxSteps := 9^9) (disch := (try simp only [lens]); omega) only [argSl, sm, ↓amb, mark_eq, simprocAttr, dx]
  repeat refine an ?_
  refine hk _ ?_; clear hk k
  refine awp_seq fun k6 h6 => ?_
  refine awp_block ?_
  refine awp_le (le_keep [0, 2, 3, 4, 7, 13, 14]) ?_
  simp only [kp, argSl, simprocAttr]
  refine awp_sr [] (by rw [hC]; rfl) fun k hk => ?_
  simp (maxSteps := 9^9) (disch := (try simp only [lens]); omega) only [argSl, sm, ↓amb, mark_eq, simprocAttr, fl126_0, fl91_2, sz4, dx]
  repeat refine an ?_
  refine hk _ ?_; clear hk k
  refine awp_cond rfl (fun hb => ?_) (fun hb => ?_)
  ·try simp only [hbx] at hb
   refine awp_le (le_keep []) ?_
   simp only [kp, argSl, simprocAttr]
   have ho := hb
   refine awp_sr [] (by rw [hC]; rfl) fun k hk => ?_
   simp (maxSteps := 9^9) (disch := (try simp only [lens]); omega) only [argSl, sm, ↓amb, mark_eq, simprocAttr, dx]
   repeat refine an ?_
   refine hk _ ?_; clear hk k
   refine awp_ret ?_
   rw [Pl.rounds_over ho] at hR4
   rw [← hR4]
   refine reth1 rfl rfl ?_
   exact le_of [] (by rfl) (by rfl) ⟨⟨_, rfl, .p (.refl _)⟩, trivial⟩ ⟨⟨_, rfl, _, rfl, .one (.cons (.p (.refl _)) (.cons (.p (.refl _)) (.cons (.p (.refl _)) (.cons (.p (.refl _)) (.cons (.p (.refl _)) (.cons (.p (.refl _)) (.cons (.p (.refl _)) (.cons (.frz rfl (by rfl)) .nil))))))))⟩, trivial⟩
  ·try simp only [hbx] at hb
   refine awp_le (le_keep [0, 2, 3, 4, 7, 13, 14]) ?_
   simp only [kp, argSl, simprocAttr]
   have ho : ¬ c2.over = true := by simp [hb]
   refine awp_sr [] (by rw [hC]; rfl) fun k hk => ?_
   simp (maxSteps := 9^9) (disch := (try simp only [lens]); omega) only [argSl, sm, ↓amb, mark_eq, simprocAttr, fl126_0, sz91, en95, dx]
   repeat refine an ?_
   refine callK_p (c45 _ hR2.held.2 (by have := hR2.dqlen; omega)) rfl ?_
   simp (maxSteps := 9^9) (disch := (try simp only [lens]); omega) only [argSl, sm, ↓amb, mark_eq, simprocAttr, fl126_0, sz91, en95, dx]
   repeat refine an ?_
   refine hk _ ?_; clear hk k
   refine awp_cond rfl (fun hb => ?_) (fun hb => ?_)
   ·exact absurd (hR2.held.1.2 (by have := beq_iff_eq.mp hb; omega)) ho
   ·try simp only [hbx] at hb
    refine awp_skip ?_
    refine h6 _ ?_; clear h6 k6
    refine awp_le (le_keep [0, 2, 3, 4, 7, 13, 14]) ?_
    simp only [kp, argSl, simprocAttr]
    have hh : ¬ Pl.held c2.dq = 0 := by omega
    have hk1 := (hR2.most_pos (r * c.dq.length + p) ho).1
    obtain ⟨hs1, hs2⟩ := hR2.step (by omega) p (p + 1 + r)
    have hs3 := Pl.rounds_on (f := 20000) (k := r * c.dq.length + p) (W := c.dq.length) (r := r) (p := p) (ev := e2) hR3 (by omega) rfl ho hh hs1 (by omega)
    have hs4 := hR2.most_on (by omega) (W := c.dq.length) (r := r) (p := p) hR3 (by omega) rfl ho
    refine awp_sr [] (by rw [hC]; rfl) fun k hk => ?_
    simp (maxSteps := 9^9) (disch := (try simp only [lens]); omega) only [argSl, sm, ↓amb, mark_eq, simprocAttr, en80, dx]
    repeat refine an ?_
    refine callK_h (c_drain_go1_step c2 e2 p (p + 1 + r) (Pl.good_hl hR2.gd) hs1 (by omega)) [7, 0] [] (by first | rfl | (simp only [hm]; done)) (by first | rfl | (simp [namesOk, lkp]; done)) ?_ ?_ ?_ ?_ ?_ ?_ ?_
    (iterate 6 (focus (first | trivial | (intro n hn; cases hn; done) | (simp (maxSteps := 9^9) (disch := (try simp only [lens]); omega) only [argSl, sm, ↓amb, mark_eq, simprocAttr, en80, dx, hmx, List.filter_cons, Nat.reduceBNe, imp_self, implies_true]; done))))
    simp (maxSteps := 9^9) (disch := (try simp only [lens]); omega) only [argSl, sm, ↓amb, mark_eq, simprocAttr, en80, dx, hm, List.filter_cons, List.filter_nil, Nat.reduceBNe, Option.map_none]
    repeat refine an ?_
    refine hk _ ?_; clear hk k
    refine awp_le (le_keep [0, 2, 3, 5, 7, 13, 14]) ?_
    simp only [kp, argSl, simprocAttr]
    refine awp_sr [] (by rw [hC]; rfl) fun k hk => ?_
    simp (maxSteps := 9^9) (disch := (try simp only [lens]); omega) only [argSl, sm, ↓amb, mark_eq, simprocAttr, dx]
    repeat refine an ?_
    refine hk _ ?_; clear hk k
    refine awp_cond rfl (fun hb => ?_) (fun hb => ?_)
    ·exact absurd hb (by simp)
    ·try simp only [hbx] at hb
     refine awp_skip ?_
     refine h5 _ ?_; clear h5 k5
     refine awp_region [] (by rw [hC]; rfl) fun k hk => ?_
     simp (maxSteps := 9^9) (disch := (try simp only [lens]); omega) only [argSl, sm, ↓amb, mark_eq, simprocAttr, dx]
     repeat refine an ?_
     refine hk _ ?_; clear hk k
     refine ⟨(p + 1, (Pl.step c2 p (p + 1 + r)).1, e2 ++ [(Pl.step c2 p (p + 1 + r)).2.1]), (by dsimp only; rw [← Nat.add_assoc]; exact ⟨by omega, hs2, by rw [Pl.step_dqlen]; exact hR3, by rw [← hs3]; exact hR4, by omega, by rw [List.length_append, List.length_singleton]; omega⟩), le_of [(0, _)] (by rfl) (by rfl) ⟨⟨_, rfl, .ptr rfl⟩, ⟨_, rfl, .oe⟩, ⟨_, rfl, .p (.of_eq (by first | rfl | rw [hRw]))⟩, ⟨_, rfl, .oe⟩, trivial⟩ ⟨⟨_, rfl, _, rfl, .one (.cons (.p (.refl _)) (.cons (.p (.refl _)) (.cons (.p (.refl _)) (.cons (.p (.refl _)) (.cons (.p (.refl _)) (.cons (.p (.refl _)) (.cons (.p (.refl _)) (.cons (.own rfl) (.nil)))))))))⟩, ⟨_, rfl, _, rfl, .liftE rfl⟩, trivial⟩, (by dsimp only; omega)⟩
 ·try simp only [hbx] at hb
  refine awp_exit ((if_pos rfl).mpr ?_)
  refine h2 _ ?_; clear h4 k4; clear h2 k2
  have hp2 : r * c.dq.length + p = r * c.dq.length + c.dq.length := by omega
  refine awp_region [] (by rw [hC]; rfl) fun k hk => ?_
  simp (maxSteps := 9^9) (disch := (try simp only [lens]); omega) only [argSl, sm, ↓amb, mark_eq, simprocAttr, dx]
  repeat refine an ?_
  refine hk _ ?_; clear hk k
  refine ⟨(r + 1, c2, e2), (by dsimp only; rw [Nat.add_mul, Nat.one_mul]; rw [hp2] at hR4 hR5 hR6; exact ⟨hR2, hR3, hR4, hR5, hR6⟩), le_of [(0, _)] (by rfl) (by rfl) ⟨⟨_, rfl, .ptr rfl⟩, ⟨_, rfl, .oe⟩, trivial⟩ ⟨⟨_, rfl, _, rfl, .one (.cons (.p (.refl _)) (.cons (.p (.refl _)) (.cons (.p (.refl _)) (.cons (.p (.refl _)) (.cons (.p (.refl _)) (.cons (.p (.refl _)) (.cons (.p (.refl _)) (.cons (.own rfl) (.nil)))))))))⟩, ⟨_, rfl, _, rfl, .liftE rfl⟩, trivial⟩, (by dsimp only; rw [Nat.add_mul, Nat.one_mul]; have := hR1.most_0 (k := r * c.dq.length) (r := r) (by rw [hRw]); have := hR1.dqlen; omega)⟩
end Go.Proofs.Ytbehekmnccoifaa
end
section
set_option linter.unusedSimpArgs false
set_option linter.unusedVariables false
set_option maxRecDepth 100000
namespace Go.Proofs.Ytbehekmnccoifaa
open Go.Am Go.Proofs
theorem ar115 : tArr Try.prog 115 = some (2, 1, false) := by kernel_rfl
theorem bt126 : tBuilt Try.prog 126 = true := by kernel_rfl
theorem bt98 : tBuilt Try.prog 98 = true := by kernel_rfl
theorem by98 : tBytes Try.prog 98 = some 16 := by kernel_rfl
theorem el115 : tEl Try.prog 115 = none := by kernel_rfl
theorem el24 : tEl Try.prog 24 = some 115 := by kernel_rfl
theorem el95 : tEl Try.prog 95 = some 98 := by kernel_rfl
theorem en79 : enters Try.prog 79 = true := by kernel_rfl
theorem en81 : enters Try.prog 81 = true := by kernel_rfl
theorem pl126_0 : tPlace Try.prog 126 0 = some (0, 7) := by kernel_rfl
theorem pl98_0 : tPlace Try.prog 98 0 = some (0, 1) := by kernel_rfl
theorem pl98_1 : tPlace Try.prog 98 1 = some (1, 1) := by kernel_rfl
theorem sz115 : tSz Try.prog 115 = some (true, 2) := by kernel_rfl
theorem vr115 : tVar Try.prog 115 = some (true, [.lit (.int .i64 0), .lit (.int .i64 0)]) := by kernel_rfl
theorem vr126 : tVar Try.prog 126 = some (true, [.seq true [], .lit (.int .i64 0), .seq true [], .seq true [], .lit (.bool false), .lit (.int .i64 0), .lit (.int .i64 0), .seq true []]) := by kernel_rfl
theorem vr98 : tVar Try.prog 98 = some (true, [.lit (.int .i64 0), .lit (.int .i64 0)]) := by kernel_rfl
set_option maxHeartbeats 4000000 in
theorem c_drain_Whole (cp : Bool) (n g w : Int) (P : List (Int × Int)) (hok : Pl.bdOk n g w) (hP : P.length ≤ 70000) : PCall Try.prog 68 [iV n, iV g, iV w, picksV cp P] (.tup [.agg (crewC (Pl.whole n g w P).1), .seq false ((Pl.whole n g w P).2.1.map evC), iV 0]) := by
 obtain ⟨hcn, hww⟩ := hok
 obtain ⟨b0, b1, b2, b3, b4, b5, b6⟩ := Pl.picked_ok (P := P) hcn hww hP
 have hcn' := hcn
 unfold Pl.cnt at hcn'
 refine pcall_of_awp Try.func68 rfl (by simp [Try.ntmps68]) fun C hC => ?_
 refine awp_le (le_keep [0, 1, 2, 3]) ?_
 simp only [kp, argSl, simprocAttr]
 refine awp_sr [] (by rw [hC]; rfl) fun k hk => ?_
 simp (maxSteps := 9^9) (disch := (try simp only [lens]); omega) only [argSl, sm, ↓amb, mark_eq, simprocAttr, vr91, dx]
 repeat refine an ?_
 refine hk _ ?_; clear hk k
 refine awp_le (le_keep [0, 1, 2, 3, 8]) ?_
 simp only [kp, argSl, simprocAttr]
 refine awp_sr [] (by rw [hC]; rfl) fun k hk => ?_
 simp (maxSteps := 9^9) (disch := (try simp only [lens]); omega) only [argSl, sm, ↓amb, mark_eq, simprocAttr, en79, vr91, sz91, dx]
 repeat refine an ?_
 refine callK_p (c42 _ _ _ (by omega)) rfl ?_
 simp (maxSteps := 9^9) (disch := (try simp only [lens]); omega) only [argSl, sm, ↓amb, mark_eq, simprocAttr, en79, vr91, sz91, dx]
 repeat refine an ?_
 refine hk _ ?_; clear hk k
 refine awp_seq fun k1 h1 => ?_
 refine awp_le (le_keep [3, 8, 9, 10, 11, 12]) ?_
 simp only [kp, argSl, simprocAttr]
 rw [b0]
 refine awp_sr [] (by rw [hC]; rfl) fun k hk => ?_
 simp (maxSteps := 9^9) (disch := (try simp only [lens]); omega) only [argSl, sm, ↓amb, mark_eq, simprocAttr, dx]
 repeat refine an ?_
 refine hk _ ?_; clear hk k
 refine awp_cond rfl (fun hb => ?_) (fun hb => ?_)
 ·exact absurd hb (by simp)
 ·try simp only [hbx] at hb
  refine awp_skip ?_
  refine h1 _ ?_; clear h1 k1
  refine awp_le (le_keep [3, 8, 11]) ?_
  simp only [kp, argSl, simprocAttr]
  refine awp_sr [] (by rw [hC]; rfl) fun k hk => ?_
  simp (maxSteps := 9^9) (disch := (try simp only [lens]); omega) only [argSl, sm, ↓amb, mark_eq, simprocAttr, sz91, vr126, bt126, pl126_0, dx]
  repeat refine an ?_
  refine hk _ ?_; clear hk k
  refine awp_seq fun k2 h2 => ?_
  refine awp_le (le_keep [3, 8, 9, 10, 13]) ?_
  simp only [kp, argSl, simprocAttr]
  refine awp_ownCs 13 4 7 rfl rfl rfl ?_
  simp only [am, List.set_cons_succ, List.set_cons_zero, Nat.reduceEqDiff, ↓reduceIte, reduceCtorEq, Nat.reduceAdd, Nat.reduceMul]
  refine awp_sr [] (by rw [hC]; rfl) fun k hk => ?_
  simp (maxSteps := 9^9) (disch := (try simp only [lens]); omega) only [argSl, sm, ↓amb, mark_eq, simprocAttr, el24, dx]
  repeat refine an ?_
  refine hk _ ?_; clear hk k
  refine awp_block ?_
  refine awp_loop (σ := Nat × Pl.Crew × List Pl.Event) (fun x => x.1 ≤ P.length ∧ Pl.Run n g x.2.1 x.2.2 ∧ Pl.picked (P.drop x.1) x.2.1 x.2.2 = (Pl.picked P (Pl.crewBegin n g w).1 []) ∧ x.2.2.length ≤ x.1) (fun x => ⟨[(8, (.ptr 0 7 0 0)), (13, (.ptr 1 8 0 0)), (31, (.p (picksV cp P))), (32, (.p (iV P.length))), (33, (.p (iV (x.1 : Int))))], [(0, (.row 7 [[.p (.seq true []), .p (iV 0), .p (.seq true []), .p (.seq true []), .p (bV false), .p (iV 0), .p (iV 0)]])), (1, (.row 8 [[.p (.seq false (x.2.1.work.ts.map taskC)), .p (iV x.2.1.work.grain), .p (.seq false (x.2.1.work.done.map fun b => [bV b])), .p (.seq false (x.2.1.dq.map lV)), .p (bV x.2.1.over), .p (iV x.2.1.steps), .p (iV x.2.1.idle), .own 2]])), (2, (.row 4 (lift (x.2.2.map evC))))], 1⟩) (fun x => P.length - x.1) (0, (Pl.crewBegin n g w).1, []) ?_ ?_ fun x hx => ?_
  ·exact ⟨Nat.zero_le _, b1, rfl, Nat.le_refl _⟩
  ·exact le_of [(0, _), (1, _), (2, _)] (by rfl) (by rfl) ⟨⟨_, rfl, .ptr rfl⟩, ⟨_, rfl, .ptr rfl⟩, ⟨_, rfl, .oe⟩, ⟨_, rfl, .oe⟩, ⟨_, rfl, .oe⟩, trivial⟩ ⟨⟨_, rfl, _, rfl, .one (.cons (.p (.refl _)) (.cons (.p (.refl _)) (.cons (.p (.refl _)) (.cons (.p (.refl _)) (.cons (.p (.refl _)) (.cons (.p (.refl _)) (.cons (.p (.refl _)) (.nil))))))))⟩, ⟨_, rfl, _, rfl, .one (.cons (.p (.refl _)) (.cons (.p (.refl _)) (.cons (.p (.refl _)) (.cons (.p (.refl _)) (.cons (.p (.refl _)) (.cons (.p (.refl _)) (.cons (.p (.refl _)) (.cons (.own rfl) (.nil)))))))))⟩, ⟨_, rfl, _, rfl, .liftE (by first | rfl | simp)⟩, trivial⟩
  obtain ⟨i, c, ev⟩ := x
  obtain ⟨hi, hR, hK, hel⟩ := hx
  dsimp only at hi hR hK hel
  refine awp_le (le_keep [0, 1, 2, 8, 9, 10, 13, 31, 32, 33]) ?_
  simp only [kp, argSl, simprocAttr]
  refine awp_sr [] (by rw [hC]; rfl) fun k hk => ?_
  simp (maxSteps := 9^9) (disch := (try simp only [lens]); omega) only [argSl, sm, ↓amb, mark_eq, simprocAttr, dx]
  repeat refine an ?_
  refine hk _ ?_; clear hk k
  refine awp_seq fun k4 h4 => ?_
  refine awp_cond rfl (fun hb => ?_) (fun hb => ?_)
  ·try simp only [hbx] at hb
   refine awp_skip ?_
   refine h4 _ ?_; clear h4 k4
   refine awp_seq fun k5 h5 => ?_
   refine awp_block ?_
   refine awp_le (le_keep [0, 1, 2, 8, 9, 10, 13, 31, 32, 33]) ?_
   simp only [kp, argSl, simprocAttr]
   refine awp_sr [] (by rw [hC]; rfl) fun k hk => ?_
   simp (maxSteps := 9^9) (disch := (try simp only [lens]); omega) only [argSl, sm, ↓amb, mark_eq, simprocAttr, el24, sz115, vr115, dx]
   repeat refine an ?_
   refine hk _ ?_; clear hk k
   refine awp_seq fun k6 h6 => ?_
   refine awp_le (le_keep [0, 1, 2, 8, 9, 10, 13, 15, 31, 32, 33]) ?_
   simp only [kp, argSl, simprocAttr]
   refine awp_sr [] (by rw [hC]; rfl) fun k hk => ?_
   simp (maxSteps := 9^9) (disch := (try simp only [lens]); omega) only [argSl, sm, ↓amb, mark_eq, simprocAttr, fl126_0, fl91_2, sz4, dx]
   repeat refine an ?_
   refine hk _ ?_; clear hk k
   refine awp_cond rfl (fun hb => ?_) (fun hb => ?_)
   ·try simp only [hbx] at hb
    refine awp_exit ((if_neg (by decide)).mpr ((if_pos rfl).mpr ?_))
    refine h2 _ ?_; clear h6 k6; clear h5 k5; clear h2 k2
    refine awp_le (le_keep [8, 13]) ?_
    simp only [kp, argSl, simprocAttr]
    have he0 : (Pl.picked P (Pl.crewBegin n g w).1 []) = (c, ev, 0) := by first | (rw [← hK]; exact Pl.picked_nil (by omega)) | (rw [← hK]; exact Pl.picked_over _ (by first | exact hb | simp [hb]))
    have hM : Pl.most n g 0 c ev ≤ 16010 := by rw [he0] at b5; exact b5
    have hW : (Pl.whole n g w P) = Pl.rounds 20000 0 c ev := by rw [b6, he0]
    rw [hW]
    refine awp_sr [] (by rw [hC]; rfl) fun k hk => ?_
    simp (maxSteps := 9^9) (disch := (try simp only [lens]); omega) only [argSl, sm, ↓amb, mark_eq, simprocAttr, en81, dx]
    repeat refine an ?_
    refine callK_h (c_drain_go1_rounds n g c ev hR hM (by omega)) [1, 2] [] (by first | rfl | (simp only [hm]; done)) (by first | rfl | (simp [namesOk, lkp]; done)) ?_ ?_ ?_ ?_ ?_ ?_ ?_
    (iterate 6 (focus (first | trivial | (intro n hn; cases hn; done) | (simp (maxSteps := 9^9) (disch := (try simp only [lens]); omega) only [argSl, sm, ↓amb, mark_eq, simprocAttr, en81, dx, hmx, List.filter_cons, Nat.reduceBNe, imp_self, implies_true]; done))))
    simp (maxSteps := 9^9) (disch := (try simp only [lens]); omega) only [argSl, sm, ↓amb, mark_eq, simprocAttr, en81, dx, hm, List.filter_cons, List.filter_nil, Nat.reduceBNe, Option.map_none]
    repeat refine an ?_
    refine hk _ ?_; clear hk k
    refine awp_le (le_keep [8, 12, 13]) ?_
    simp only [kp, argSl, simprocAttr]
    refine awp_sd [] ⟨[0, 1, 3, 7, 0, 16, 48, 112, 0, 15, 767, 2047], [], [9], [], some [0]⟩ (by rw [hC]; rfl) (by kernel_rfl) (by kernel_rfl) fun k hk => ?_
    simp (maxSteps := 9^9) (disch := (try simp only [lens]); omega) only [argSl, sm, ↓amb, mark_eq, simprocAttr, fl126_0, sz91, fl126_1, sz92, dx]
    repeat refine an ?_
    refine hk _ ?_; clear hk k
    refine awp_ret ?_
    refine retl rfl rfl ⟨retc rfl sz91 ?_, rett rfl ?_, rett rfl ?_, trivial⟩
    simp (maxSteps := 9^9) (disch := (try simp only [lens]); omega) only [argSl, sm, ↓amb, mark_eq, simprocAttr, sz91, dx]
    ·exact .p (LeP.refl _)
    ·exact .p (LeP.refl _)
    ·exact .p (LeP.refl _)
   ·try simp only [hbx] at hb
    refine awp_skip ?_
    refine h6 _ ?_; clear h6 k6
    refine awp_le (le_keep [0, 1, 2, 8, 9, 10, 13, 15, 31, 32, 33]) ?_
    simp only [kp, argSl, simprocAttr]
    have ho : ¬ c.over = true := by simp [hb]
    obtain ⟨hs1, hs2⟩ := hR.step (by omega) (P.getD i default).1 (P.getD i default).2
    have hs3 := Pl.picked_on (l := ev) (P := P) (i := i) (by omega) ho hs1
    refine awp_sr [] (by rw [hC]; rfl) fun k hk => ?_
    simp (maxSteps := 9^9) (disch := (try simp only [lens]); omega) only [argSl, sm, ↓amb, mark_eq, simprocAttr, el115, ar115, sz3, en80, dx]
    repeat refine an ?_
    refine callK_h (c_drain_go1_step c ev _ _ (Pl.good_hl hR.gd) hs1 (by omega)) [1, 2] [] (by first | rfl | (simp only [hm]; done)) (by first | rfl | (simp [namesOk, lkp]; done)) ?_ ?_ ?_ ?_ ?_ ?_ ?_
    (iterate 6 (focus (first | trivial | (intro n hn; cases hn; done) | (simp (maxSteps := 9^9) (disch := (try simp only [lens]); omega) only [argSl, sm, ↓amb, mark_eq, simprocAttr, el115, ar115, sz3, en80, dx, hmx, List.filter_cons, Nat.reduceBNe, imp_self, implies_true]; done))))
    simp (maxSteps := 9^9) (disch := (try simp only [lens]); omega) only [argSl, sm, ↓amb, mark_eq, simprocAttr, el115, ar115, sz3, en80, dx, hm, List.filter_cons, List.filter_nil, Nat.reduceBNe, Option.map_none]
    repeat refine an ?_
    refine hk _ ?_; clear hk k
    refine awp_le (le_keep [0, 1, 2, 8, 9, 10, 13, 16, 31, 32, 33]) ?_
    simp only [kp, argSl, simprocAttr]
    refine awp_sr [] (by rw [hC]; rfl) fun k hk => ?_
    simp (maxSteps := 9^9) (disch := (try simp only [lens]); omega) only [argSl, sm, ↓amb, mark_eq, simprocAttr, dx]
    repeat refine an ?_
    refine hk _ ?_; clear hk k
    refine awp_cond rfl (fun hb => ?_) (fun hb => ?_)
    ·exact absurd hb (by simp)
    ·try simp only [hbx] at hb
     refine awp_skip ?_
     refine h5 _ ?_; clear h5 k5
     refine awp_region [] (by rw [hC]; rfl) fun k hk => ?_
     simp (maxSteps := 9^9) (disch := (try simp only [lens]); omega) only [argSl, sm, ↓amb, mark_eq, simprocAttr, dx]
     repeat refine an ?_
     refine hk _ ?_; clear hk k
     refine ⟨(i + 1, (Pl.step c (P.getD i default).1 (P.getD i default).2).1, ev ++ [(Pl.step c (P.getD i default).1 (P.getD i default).2).2.1]), ⟨by dsimp only; omega, hs2, by rw [← hK, hs3], by simp; omega⟩, le_of [(0, _), (1, _), (2, _)] (by rfl) (by rfl) ⟨⟨_, rfl, .ptr rfl⟩, ⟨_, rfl, .ptr rfl⟩, ⟨_, rfl, .oe⟩, ⟨_, rfl, .oe⟩, ⟨_, rfl, .oe⟩, trivial⟩ ⟨⟨_, rfl, _, rfl, .one (.cons (.p (.refl _)) (.cons (.p (.refl _)) (.cons (.p (.refl _)) (.cons (.p (.refl _)) (.cons (.p (.refl _)) (.cons (.p (.refl _)) (.cons (.p (.refl _)) (.nil))))))))⟩, ⟨_, rfl, _, rfl, .one (.cons (.p (.refl _)) (.cons (.p (.refl _)) (.cons (.p (.refl _)) (.cons (.p (.refl _)) (.cons (.p (.refl _)) (.cons (.p (.refl _)) (.cons (.p (.refl _)) (.cons (.own rfl) (.nil)))))))))⟩, ⟨_, rfl, _, rfl, .liftE (by first | rfl | simp)⟩, trivial⟩, by dsimp only; omega⟩
  ·try simp only [hbx] at hb
   refine awp_exit ((if_pos rfl).mpr ?_)
   refine h2 _ ?_; clear h4 k4; clear h2 k2
   refine awp_le (le_keep [8, 13]) ?_
   simp only [kp, argSl, simprocAttr]
   have he0 : (Pl.picked P (Pl.crewBegin n g w).1 []) = (c, ev, 0) := by first | (rw [← hK]; exact Pl.picked_nil (by omega)) | (rw [← hK]; exact Pl.picked_over _ (by first | exact hb | simp [hb]))
   have hM : Pl.most n g 0 c ev ≤ 16010 := by rw [he0] at b5; exact b5
   have hW : (Pl.whole n g w P) = Pl.rounds 20000 0 c ev := by rw [b6, he0]
   rw [hW]
   refine awp_sr [] (by rw [hC]; rfl) fun k hk => ?_
   simp (maxSteps := 9^9) (disch := (try simp only [lens]); omega) only [argSl, sm, ↓amb, mark_eq, simprocAttr, en81, dx]
   repeat refine an ?_
   refine callK_h (c_drain_go1_rounds n g c ev hR hM (by omega)) [1, 2] [] (by first | rfl | (simp only [hm]; done)) (by first | rfl | (simp [namesOk, lkp]; done)) ?_ ?_ ?_ ?_ ?_ ?_ ?_
   (iterate 6 (focus (first | trivial | (intro n hn; cases hn; done) | (simp (maxSteps := 9^9) (disch := (try simp only [lens]); omega) only [argSl, sm, ↓amb, mark_eq, simprocAttr, en81, dx, hmx, List.filter_cons, Nat.reduceBNe, imp_self, implies_true]; done))))
   simp (maxSteps := 9^9) (disch := (try simp only [lens]); omega) only [argSl, sm, ↓amb, mark_eq, simprocAttr, en81, dx, hm, List.filter_cons, List.filter_nil, Nat.reduceBNe, Option.map_none]
   repeat refine an ?_
   refine hk _ ?_; clear hk k
   refine awp_le (le_keep [8, 12, 13]) ?_
   simp only [kp, argSl, simprocAttr]
   refine awp_sd [] ⟨[0, 1, 3, 7, 0, 16, 48, 112, 0, 15, 767, 2047], [], [9], [], some [0]⟩ (by rw [hC]; rfl) (by kernel_rfl) (by kernel_rfl) fun k hk => ?_
   simp (maxSteps := 9^9) (disch := (try simp only [lens]); omega) only [argSl, sm, ↓amb, mark_eq, simprocAttr, fl126_0, sz91, fl126_1, sz92, dx]
   repeat refine an ?_
   refine hk _ ?_; clear hk k
   refine awp_ret ?_
   refine retl rfl rfl ⟨retc rfl sz91 ?_, rett rfl ?_, rett rfl ?_, trivial⟩
   simp (maxSteps := 9^9) (disch := (try simp only [lens]); omega) only [argSl, sm, ↓amb, mark_eq, simprocAttr, sz91, dx]
   ·exact .p (LeP.refl _)
   ·exact .p (LeP.refl _)
   ·exact .p (LeP.refl _)
set_option maxHeartbeats 4000000 in
theorem c_drain_Leaves (ce : Bool) (c : Pl.Crew) (ev : List Pl.Event) (he : ev.length ≤ 1000000) : PCall Try.prog 69 [.agg (crewC c), .seq ce (ev.map evC)] (.seq false ((Pl.leaves' c.work.ts ev).map (fun s => [iV s.1, iV s.2]))) := by
 refine pcall_of_awp Try.func69 rfl (by simp [Try.ntmps69]) fun C hC => ?_
 refine awp_le (le_keep [0, 1]) ?_
 simp only [kp, argSl, simprocAttr]
 refine awp_sr [45] (by rw [hC]; rfl) fun k hk => ?_
 simp (maxSteps := 9^9) (disch := (try simp only [lens]); omega) only [argSl, sm, ↓amb, mark_eq, simprocAttr, dx]
 repeat refine an ?_
 refine hk _ ?_; clear hk k
 refine awp_le (le_keep [1, 2]) ?_
 simp only [kp, argSl, simprocAttr]
 refine awp_sr [45] (by rw [hC]; rfl) fun k hk => ?_
 simp (maxSteps := 9^9) (disch := (try simp only [lens]); omega) only [argSl, sm, ↓amb, mark_eq, simprocAttr, dx]
 repeat refine an ?_
 refine hk _ ?_; clear hk k
 refine awp_seq fun k1 h1 => ?_
 refine awp_le (le_keep [1, 2, 4, 5]) ?_
 simp only [kp, argSl, simprocAttr]
 refine awp_own' 5 2 rfl ?_
 refine awp_sr [45] (by rw [hC]; rfl) fun k hk => ?_
 simp (maxSteps := 9^9) (disch := (try simp only [lens]); omega) only [argSl, sm, ↓amb, mark_eq, simprocAttr, el92, dx]
 repeat refine an ?_
 refine hk _ ?_; clear hk k
 refine awp_block ?_
 refine awp_loop (σ := Nat) (fun i => i ≤ ev.length) (fun (i : Nat) => ⟨[(2, (.ptr 0 7 0 0)), (5, (.own 1)), (9, (.p (.seq ce (ev.map evC)))), (10, (.p (iV ev.length))), (11, (.p (iV i)))], [(0, (.row 7 [[.p (.seq false (c.work.ts.map taskC)), .p (iV c.work.grain), .p (.seq false (c.work.done.map fun b => [bV b])), .p (.seq false (c.dq.map lV)), .p (bV c.over), .p (iV c.steps), .p (iV c.idle)]])), (1, (.row 2 (lift ((Pl.leaves' c.work.ts (ev.take i)).map (fun s => [iV s.1, iV s.2])))))], 1⟩) (fun i => ev.length - i) 0 ?_ ?_ fun i hi => ?_
 ·exact Nat.zero_le _
 ·exact le_of [(0, _), (1, _)] (by rfl) (by rfl) ⟨⟨_, rfl, .ptr rfl⟩, ⟨_, rfl, .own rfl⟩, ⟨_, rfl, .oe⟩, ⟨_, rfl, .oe⟩, ⟨_, rfl, .oe⟩, trivial⟩ ⟨⟨_, rfl, _, rfl, .one (.cons (.p (.refl _)) (.cons (.p (.refl _)) (.cons (.p (.refl _)) (.cons (.p (.refl _)) (.cons (.p (.refl _)) (.cons (.p (.refl _)) (.cons (.p (.refl _)) (.nil))))))))⟩, ⟨_, rfl, _, rfl, .liftE (by first | (rw [List.take_zero]; rfl) | (rw [Pl.leaves_take _ _ i (by omega), if_neg (by rw [hnl]; decide), List.append_nil]; done) | (rw [Pl.leaves_take _ _ i (by omega), if_pos hlf, List.map_append]; rfl))⟩, trivial⟩
 refine awp_le (le_keep [0, 1, 2, 4, 5, 9, 10, 11]) ?_
 simp only [kp, argSl, simprocAttr]
 refine awp_sr [45] (by rw [hC]; rfl) fun k hk => ?_
 simp (maxSteps := 9^9) (disch := (try simp only [lens]); omega) only [argSl, sm, ↓amb, mark_eq, simprocAttr, dx]
 repeat refine an ?_
 refine hk _ ?_; clear hk k
 refine awp_seq fun k3 h3 => ?_
 refine awp_cond rfl (fun hb => ?_) (fun hb => ?_)
 ·try simp only [hbx] at hb
  refine awp_skip ?_
  refine h3 _ ?_; clear h3 k3
  refine awp_seq fun k4 h4 => ?_
  refine awp_block ?_
  refine awp_le (le_keep [0, 1, 2, 4, 5, 9, 10, 11]) ?_
  simp only [kp, argSl, simprocAttr]
  refine awp_sr [45] (by rw [hC]; rfl) fun k hk => ?_
  simp (maxSteps := 9^9) (disch := (try simp only [lens]); omega) only [argSl, sm, ↓amb, mark_eq, simprocAttr, el92, sz112, vr112, dx]
  repeat refine an ?_
  refine hk _ ?_; clear hk k
  refine awp_seq fun k5 h5 => ?_
  refine awp_test [45] 30 (decide ((ev.getD i default).parted = true ∨ (ev.getD i default).task < 0 ∨ (c.work.ts.length : Int) ≤ (ev.getD i default).task)) [0, 1, 2, 4, 5, 7, 9, 10, 11] (by rw [hC]; rfl) (fun gd hgd k hk => ?_) ?_
  ·have g2 : gd 2 = some 17 := by rw [hgd]; rfl
   have g7 : gd 7 = some 22 := by rw [hgd]; rfl
   clear hgd
   simp (maxSteps := 9^9) (disch := (try simp only [lens]); omega) only [argSl, sm, ↓amb, mark_eq, simprocAttr, fl112_3, sz4, fl112_2, sz3, fl91_0, fl88_0, sz86, el86, gcase_undef, g2, g7, dx]
   repeat' first | refine hk _ _ rfl rfl rfl rfl ?_ | (refine gsplit (fun hg => ?_) (fun hg => ?_) <;> (try simp only [hbx] at hg) <;> simp (maxSteps := 9^9) (disch := (try simp only [lens]); omega) only [argSl, sm, ↓amb, mark_eq, simprocAttr, fl112_3, sz4, fl112_2, sz3, fl91_0, fl88_0, sz86, el86, gcase_undef, g2, g7, dx]) | apply And.intro | fail
   all_goals first | rfl | omega | exact (decide_eq_true (by omega)).symm | exact (decide_eq_false (by omega)).symm | exact decide_eq_decide.mpr (by omega) | (refine Bool.eq_iff_iff.mpr ?_; simp only [beq_iff_eq, bne_iff_ne, ne_eq, decide_eq_true_eq]; omega) | (refine Bool.eq_iff_iff.mpr ?_; simp only [Bool.not_eq_true', Bool.not_eq_false', decide_eq_false_iff_not, decide_eq_true_eq, beq_iff_eq, bne_iff_ne, ne_eq]; omega) | assumption | (simp; done) | (simp [maxLen]; omega) | skip
   all_goals first | (refine (decide_eq_true ?_).symm; first | (left; assumption) | (right; left; assumption) | (right; right; assumption)) | exact decide_eq_decide.mpr ⟨fun h => .inr (.inr h), fun h => h.elim (fun q => absurd (q.symm.trans (show _ = false by assumption)) (by decide)) (fun q => q.elim (fun q => by omega) id)⟩
  simp only [kp, argSl, simprocAttr, List.length_cons, List.length_nil]
  refine awp_cond rfl (fun hb => ?_) (fun hb => ?_)
  ·try simp only [hbx] at hb
   refine awp_exit ((if_pos rfl).mpr ?_)
   refine h4 _ ?_; clear h5 k5; clear h4 k4
   have hnl := Pl.isLeaf_no (ts := c.work.ts) hb
   refine awp_region [45] (by rw [hC]; rfl) fun k hk => ?_
   simp (maxSteps := 9^9) (disch := (try simp only [lens]); omega) only [argSl, sm, ↓amb, mark_eq, simprocAttr, dx]
   repeat refine an ?_
   refine hk _ ?_; clear hk k
   refine ⟨i + 1, by omega, le_of [(0, _), (1, _)] (by rfl) (by rfl) ⟨⟨_, rfl, .ptr rfl⟩, ⟨_, rfl, .own rfl⟩, ⟨_, rfl, .oe⟩, ⟨_, rfl, .oe⟩, ⟨_, rfl, .oe⟩, trivial⟩ ⟨⟨_, rfl, _, rfl, .one (.cons (.p (.refl _)) (.cons (.p (.refl _)) (.cons (.p (.refl _)) (.cons (.p (.refl _)) (.cons (.p (.refl _)) (.cons (.p (.refl _)) (.cons (.p (.refl _)) (.nil))))))))⟩, ⟨_, rfl, _, rfl, .liftE (by first | (rw [List.take_zero]; rfl) | (rw [Pl.leaves_take _ _ i (by omega), if_neg (by rw [hnl]; decide), List.append_nil]; done) | (rw [Pl.leaves_take _ _ i (by omega), if_pos hlf, List.map_append]; rfl))⟩, trivial⟩, by omega⟩
  ·try simp only [hbx] at hb
   refine awp_skip ?_
   refine h5 _ ?_; clear h5 k5
   refine awp_le (le_keep [0, 1, 2, 4, 5, 7, 9, 10, 11]) ?_
   simp only [kp, argSl, simprocAttr]
   obtain ⟨hlf, hlf2, hlf3⟩ := Pl.isLeaf_yes (ts := c.work.ts) (e := (ev.getD i default)) (by first | exact hb | simpa using hb)
   have hll := Pl.leaves_len c.work.ts (ev.take i)
   rw [List.length_take] at hll
   refine awp_sr [45] (by rw [hC]; rfl) fun k hk => ?_
   simp (maxSteps := 9^9) (disch := (try simp only [lens]); omega) only [argSl, sm, ↓amb, mark_eq, simprocAttr, fl91_0, fl88_0, sz86, fl112_2, sz3, el86, sz118, vr118, dx]
   repeat refine an ?_
   refine hk _ ?_; clear hk k
   refine awp_region [45] (by rw [hC]; rfl) fun k hk => ?_
   simp (maxSteps := 9^9) (disch := (try simp only [lens]); omega) only [argSl, sm, ↓amb, mark_eq, simprocAttr, fl118_0, sz3, fl118_1, vr98, bt98, pl98_0, pl98_1, el95, by98, dx]
   repeat refine an ?_
   refine hk _ ?_; clear hk k
   refine h4 _ ?_; clear h4 k4
   refine awp_region [45] (by rw [hC]; rfl) fun k hk => ?_
   simp (maxSteps := 9^9) (disch := (try simp only [lens]); omega) only [argSl, sm, ↓amb, mark_eq, simprocAttr, dx]
   repeat refine an ?_
   refine hk _ ?_; clear hk k
   refine ⟨i + 1, by omega, le_of [(0, _), (1, _)] (by rfl) (by rfl) ⟨⟨_, rfl, .ptr rfl⟩, ⟨_, rfl, .own rfl⟩, ⟨_, rfl, .oe⟩, ⟨_, rfl, .oe⟩, ⟨_, rfl, .oe⟩, trivial⟩ ⟨⟨_, rfl, _, rfl, .one (.cons (.p (.refl _)) (.cons (.p (.refl _)) (.cons (.p (.refl _)) (.cons (.p (.refl _)) (.cons (.p (.refl _)) (.cons (.p (.refl _)) (.cons (.p (.refl _)) (.nil))))))))⟩, ⟨_, rfl, _, rfl, .liftE (by first | (rw [List.take_zero]; rfl) | (rw [Pl.leaves_take _ _ i (by omega), if_neg (by rw [hnl]; decide), List.append_nil]; done) | (rw [Pl.leaves_take _ _ i (by omega), if_pos hlf, List.map_append]; rfl))⟩, trivial⟩, by omega⟩
 ·try simp only [hbx] at hb
  refine awp_exit ((if_pos rfl).mpr ?_)
  refine h1 _ ?_; clear h3 k3; clear h1 k1
  refine awp_le (le_keep [5]) ?_
  simp only [kp, argSl, simprocAttr]
  have htk : ev.take i = ev := List.take_of_length_le (by omega)
  rw [htk]
  refine awp_sr [45] (by rw [hC]; rfl) fun k hk => ?_
  simp (maxSteps := 9^9) (disch := (try simp only [lens]); omega) only [argSl, sm, ↓amb, mark_eq, simprocAttr, dx]
  repeat refine an ?_
  refine hk _ ?_; clear hk k
  refine awp_ret ?_
  refine ret1 rfl rfl ?_
  exact .ownE rfl rfl
end Go.Proofs.Ytbehekmnccoifaa
end
section
set_option linter.unusedSimpArgs false
set_option linter.unusedVariables false
set_option maxRecDepth 100000
namespace Go.Proofs.Ytbehekmnccoifaa
open Go.Am Go.Proofs
theorem en75 : enters Try.prog 75 = true := by kernel_rfl
theorem fl26_0 : tFld Try.prog 26 0 = some (0, 1, false) := by kernel_rfl
theorem fl26_1 : tFld Try.prog 26 1 = some (1, 1, false) := by kernel_rfl
theorem fl26_2 : tFld Try.prog 26 2 = some (2, 1, false) := by kernel_rfl
theorem sz24 : tSz Try.prog 24 = some (false, 1) := by kernel_rfl
set_option maxHeartbeats 4000000 in
theorem c_fill_Right (c : Bool) (p : Pl.Plan) : PCall Try.prog 67 [.agg (planC c p)] (bV (decide (Pl.planRight p))) := by
 refine pcall_of_awp Try.func67 rfl (by simp [Try.ntmps67]) fun C hC => ?_
 refine awp_sr [] (by rw [hC]; rfl) fun k hk => ?_
 simp (maxSteps := 9^9) (disch := (try simp only [lens]); omega) only [argSl, sm, ↓amb, mark_eq, simprocAttr, dx]
 repeat refine an ?_
 refine hk _ ?_; clear hk k
 refine awp_test [] 2 (decide (Pl.planRight p)) [] (by rw [hC]; rfl) (fun gd hgd k hk => ?_) ?_
 ·have g3 : gd 3 = some 6 := by rw [hgd]; rfl
  have g8 : gd 8 = some 11 := by rw [hgd]; rfl
  have g13 : gd 13 = some 16 := by rw [hgd]; rfl
  have g18 : gd 18 = some 21 := by rw [hgd]; rfl
  clear hgd
  simp (maxSteps := 9^9) (disch := (try simp only [lens]); omega) only [argSl, sm, ↓amb, mark_eq, simprocAttr, fl26_0, sz3, fl26_1, fl26_2, sz24, el24, gcase_undef, g3, g8, g13, g18, dx]
  repeat' first | refine hk _ _ rfl rfl rfl rfl ?_ | (refine gsplit (fun hg => ?_) (fun hg => ?_) <;> (try simp only [hbx] at hg) <;> simp (maxSteps := 9^9) (disch := (try simp only [lens]); omega) only [argSl, sm, ↓amb, mark_eq, simprocAttr, fl26_0, sz3, fl26_1, fl26_2, sz24, el24, gcase_undef, g3, g8, g13, g18, dx]) | apply And.intro | fail
  all_goals first | rfl | omega | exact (decide_eq_true (by (try simp only [Pl.planRight] at *); omega)).symm | exact (decide_eq_false (by (try simp only [Pl.planRight] at *); omega)).symm | exact decide_eq_decide.mpr (by (try simp only [Pl.planRight] at *); omega) | (refine Bool.eq_iff_iff.mpr ?_; (try simp only [Pl.planRight] at *); simp only [beq_iff_eq, bne_iff_ne, ne_eq, decide_eq_true_eq]; omega) | (refine Bool.eq_iff_iff.mpr ?_; simp only [Bool.not_eq_true', Bool.not_eq_false', decide_eq_false_iff_not, decide_eq_true_eq, beq_iff_eq, bne_iff_ne, ne_eq]; (try simp only [Pl.planRight] at *); omega) | assumption | (simp; done) | (simp [maxLen]; omega) | skip
 simp only [kp, argSl, simprocAttr, List.length_cons, List.length_nil]
 refine awp_ret ?_
 refine ret1 rfl rfl ?_
 exact .p (LeP.refl _)
set_option maxHeartbeats 4000000 in
theorem c_scan_sized (b : Int) : PCall Try.prog 75 [iV b] (bV (decide (1 ≤ b ∧ b ≤ 100))) := by
 refine pcall_of_awp Try.func75 rfl (by simp [Try.ntmps75]) fun C hC => ?_
 refine awp_sr [] (by rw [hC]; rfl) fun k hk => ?_
 simp (maxSteps := 9^9) (disch := (try simp only [lens]); omega) only [argSl, sm, ↓amb, mark_eq, simprocAttr, dx]
 repeat refine an ?_
 refine hk _ ?_; clear hk k
 refine awp_test [] 2 (decide (1 ≤ b ∧ b ≤ 100)) [] (by rw [hC]; rfl) (fun gd hgd k hk => ?_) ?_
 ·have g2 : gd 2 = some 5 := by rw [hgd]; rfl
  clear hgd
  simp (maxSteps := 9^9) (disch := (try simp only [lens]); omega) only [argSl, sm, ↓amb, mark_eq, simprocAttr, gcase_undef, g2, dx]
  repeat' first | refine hk _ _ rfl rfl rfl rfl ?_ | (refine gsplit (fun hg => ?_) (fun hg => ?_) <;> (try simp only [hbx] at hg) <;> simp (maxSteps := 9^9) (disch := (try simp only [lens]); omega) only [argSl, sm, ↓amb, mark_eq, simprocAttr, gcase_undef, g2, dx]) | apply And.intro | fail
  all_goals first | rfl | omega | exact (decide_eq_true (by omega)).symm | exact (decide_eq_false (by omega)).symm | exact decide_eq_decide.mpr (by omega) | (refine Bool.eq_iff_iff.mpr ?_; simp only [beq_iff_eq, bne_iff_ne, ne_eq, decide_eq_true_eq]; omega) | (refine Bool.eq_iff_iff.mpr ?_; simp only [Bool.not_eq_true', Bool.not_eq_false', decide_eq_false_iff_not, decide_eq_true_eq, beq_iff_eq, bne_iff_ne, ne_eq]; omega) | assumption | (simp; done) | (simp [maxLen]; omega) | skip
 simp only [kp, argSl, simprocAttr, List.length_cons, List.length_nil]
 refine awp_ret ?_
 refine ret1 rfl rfl ?_
 exact .p (LeP.refl _)
set_option maxHeartbeats 4000000 in
theorem c_scan_Blocks (n b : Int) : PCall Try.prog 76 [iV n, iV b] (iV (Pl.blk n b)) := by
 refine pcall_of_awp Try.func76 rfl (by simp [Try.ntmps76]) fun C hC => ?_
 refine awp_sr [] (by rw [hC]; rfl) fun k hk => ?_
 simp (maxSteps := 9^9) (disch := (try simp only [lens]); omega) only [argSl, sm, ↓amb, mark_eq, simprocAttr, dx]
 repeat refine an ?_
 refine hk _ ?_; clear hk k
 refine awp_seq fun k1 h1 => ?_
 refine awp_test [] 15 (decide (¬ Pl.blkOk' n b)) [0, 1, 4] (by rw [hC]; rfl) (fun gd hgd k hk => ?_) ?_
 ·have g2 : gd 2 = some 7 := by rw [hgd]; rfl
  have g6 : gd 6 = some 11 := by rw [hgd]; rfl
  clear hgd
  simp (maxSteps := 9^9) (disch := (try simp only [lens]); omega) only [argSl, sm, ↓amb, mark_eq, simprocAttr, en75, gcase_undef, g2, g6, dx]
  repeat' first | refine hk _ _ rfl rfl rfl rfl ?_ | (refine gsplit (fun hg => ?_) (fun hg => ?_) <;> (try simp only [hbx] at hg) <;> simp (maxSteps := 9^9) (disch := (try simp only [lens]); omega) only [argSl, sm, ↓amb, mark_eq, simprocAttr, en75, gcase_undef, g2, g6, dx]) | apply And.intro | (refine callK_p (c_scan_sized _) rfl ?_; (try simp (maxSteps := 9^9) (disch := (try simp only [lens]); omega) only [argSl, sm, ↓amb, mark_eq, simprocAttr, en75, gcase_undef, g2, g6, dx])) | fail
  all_goals first | rfl | omega | exact (decide_eq_true (by (try simp only [Pl.blkOk'] at *); omega)).symm | exact (decide_eq_false (by (try simp only [Pl.blkOk'] at *); omega)).symm | exact decide_eq_decide.mpr (by (try simp only [Pl.blkOk'] at *); omega) | (refine Bool.eq_iff_iff.mpr ?_; (try simp only [Pl.blkOk'] at *); simp only [beq_iff_eq, bne_iff_ne, ne_eq, decide_eq_true_eq]; omega) | (refine Bool.eq_iff_iff.mpr ?_; simp only [Bool.not_eq_true', Bool.not_eq_false', decide_eq_false_iff_not, decide_eq_true_eq, beq_iff_eq, bne_iff_ne, ne_eq]; (try simp only [Pl.blkOk'] at *); omega) | assumption | (simp; done) | (simp [maxLen]; omega) | skip
 simp only [kp, argSl, simprocAttr, List.length_cons, List.length_nil]
 refine awp_cond rfl (fun hb => ?_) (fun hb => ?_)
 ·try simp only [hbx] at hb
  refine awp_sr [] (by rw [hC]; rfl) fun k hk => ?_
  simp (maxSteps := 9^9) (disch := (try simp only [lens]); omega) only [argSl, sm, ↓amb, mark_eq, simprocAttr, dx]
  repeat refine an ?_
  refine hk _ ?_; clear hk k
  refine awp_ret ?_
  rw [show Pl.blk n b = 0 from if_neg (by first | exact hb | simpa using hb)]
  refine ret1 rfl rfl ?_
  exact .p (LeP.refl _)
 ·try simp only [hbx] at hb
  refine awp_skip ?_
  refine h1 _ ?_; clear h1 k1
  have hbk : Pl.blkOk' n b := by first | exact hb | simpa using hb
  have hbo := hbk
  unfold Pl.blkOk' at hbo
  have hq : 0 ≤ (n + b - 1) / b ∧ (n + b - 1) / b ≤ 1000 := by
   have h := Pl.blk_up (b := b) hbo.1 (Int.le_refl n) hbo.2.1
   rw [show Pl.blk n b = (n + b - 1) / b from if_pos hbk] at h; exact ⟨h.1, h.2.2⟩
  refine awp_sr [] (by rw [hC]; rfl) fun k hk => ?_
  simp (maxSteps := 9^9) (disch := (try simp only [lens]); omega) only [argSl, sm, ↓amb, mark_eq, simprocAttr, dx]
  repeat refine an ?_
  refine hk _ ?_; clear hk k
  refine awp_ret ?_
  rw [show Pl.blk n b = (n + b - 1) / b from if_pos hbk]
  refine ret1 rfl rfl ?_
  exact .p (LeP.refl _)
set_option maxHeartbeats 4000000 in
theorem c_radix_Passes (b : Int) : PCall Try.prog 59 [iV b] (iV (Pl.pas b)) := by
 refine pcall_of_awp Try.func59 rfl (by simp [Try.ntmps59]) fun C hC => ?_
 refine awp_sr [] (by rw [hC]; rfl) fun k hk => ?_
 simp (maxSteps := 9^9) (disch := (try simp only [lens]); omega) only [argSl, sm, ↓amb, mark_eq, simprocAttr, dx]
 repeat refine an ?_
 refine hk _ ?_; clear hk k
 refine awp_seq fun k1 h1 => ?_
 refine awp_test [] 8 (decide (¬ (1 ≤ b ∧ b ≤ 16))) [0, 2] (by rw [hC]; rfl) (fun gd hgd k hk => ?_) ?_
 ·have g2 : gd 2 = some 5 := by rw [hgd]; rfl
  clear hgd
  simp (maxSteps := 9^9) (disch := (try simp only [lens]); omega) only [argSl, sm, ↓amb, mark_eq, simprocAttr, gcase_undef, g2, dx]
  repeat' first | refine hk _ _ rfl rfl rfl rfl ?_ | (refine gsplit (fun hg => ?_) (fun hg => ?_) <;> (try simp only [hbx] at hg) <;> simp (maxSteps := 9^9) (disch := (try simp only [lens]); omega) only [argSl, sm, ↓amb, mark_eq, simprocAttr, gcase_undef, g2, dx]) | apply And.intro | fail
  all_goals first | rfl | omega | exact (decide_eq_true (by omega)).symm | exact (decide_eq_false (by omega)).symm | exact decide_eq_decide.mpr (by omega) | (refine Bool.eq_iff_iff.mpr ?_; simp only [beq_iff_eq, bne_iff_ne, ne_eq, decide_eq_true_eq]; omega) | (refine Bool.eq_iff_iff.mpr ?_; simp only [Bool.not_eq_true', Bool.not_eq_false', decide_eq_false_iff_not, decide_eq_true_eq, beq_iff_eq, bne_iff_ne, ne_eq]; omega) | assumption | (simp; done) | (simp [maxLen]; omega) | skip
 simp only [kp, argSl, simprocAttr, List.length_cons, List.length_nil]
 refine awp_cond rfl (fun hb => ?_) (fun hb => ?_)
 ·try simp only [hbx] at hb
  refine awp_sr [] (by rw [hC]; rfl) fun k hk => ?_
  simp (maxSteps := 9^9) (disch := (try simp only [lens]); omega) only [argSl, sm, ↓amb, mark_eq, simprocAttr, dx]
  repeat refine an ?_
  refine hk _ ?_; clear hk k
  refine awp_ret ?_
  rw [show Pl.pas b = 0 from if_neg (by omega)]
  refine ret1 rfl rfl ?_
  exact .p (LeP.refl _)
 ·try simp only [hbx] at hb
  refine awp_skip ?_
  refine h1 _ ?_; clear h1 k1
  have hbo : 1 ≤ b ∧ b ≤ 16 := by omega
  have hq := Pl.pas_nn b
  rw [show Pl.pas b = (32 + b - 1) / b from if_pos hbo] at hq
  refine awp_sr [] (by rw [hC]; rfl) fun k hk => ?_
  simp (maxSteps := 9^9) (disch := (try simp only [lens]); omega) only [argSl, sm, ↓amb, mark_eq, simprocAttr, dx]
  repeat refine an ?_
  refine hk _ ?_; clear hk k
  refine awp_ret ?_
  rw [show Pl.pas b = (32 + b - 1) / b from if_pos hbo]
  refine ret1 rfl rfl ?_
  exact .p (LeP.refl _)
end Go.Proofs.Ytbehekmnccoifaa
end
section
set_option linter.unusedSimpArgs false
set_option linter.unusedVariables false
set_option maxRecDepth 100000
namespace Go.Proofs.Ytbehekmnccoifaa
open Go.Am Go.Proofs
theorem en67 : enters Try.prog 67 = true := by kernel_rfl
theorem en68 : enters Try.prog 68 = true := by kernel_rfl
theorem en69 : enters Try.prog 69 = true := by kernel_rfl
theorem fl98_0 : tFld Try.prog 98 0 = some (0, 1, false) := by kernel_rfl
theorem fl98_1 : tFld Try.prog 98 1 = some (1, 1, false) := by kernel_rfl
theorem sz26 : tSz Try.prog 26 = some (true, 3) := by kernel_rfl
theorem sz98 : tSz Try.prog 98 = some (true, 2) := by kernel_rfl
set_option maxHeartbeats 4000000 in
theorem c_fill_Order (c : Bool) (n : Int) (p : Pl.Plan) : PCall Try.prog 53 [iV n, .agg (planC c p)] (.tup [ints false (Pl.ordU n p), iV (Pl.ordS n p), iV (Pl.ordE n p)]) := by
 refine pcall_of_awp Try.func53 rfl (by simp [Try.ntmps53]) fun C hC => ?_
 refine awp_le (le_keep [0, 1]) ?_
 simp only [kp, argSl, simprocAttr]
 refine awp_sr [64] (by rw [hC]; rfl) fun k hk => ?_
 simp (maxSteps := 9^9) (disch := (try simp only [lens]); omega) only [argSl, sm, ↓amb, mark_eq, simprocAttr, dx]
 repeat refine an ?_
 refine hk _ ?_; clear hk k
 refine awp_seq fun k1 h1 => ?_
 refine awp_test [64] 24 (decide (¬ Pl.ordOk n p)) [0, 3, 4, 5, 6] (by rw [hC]; rfl) (fun gd hgd k hk => ?_) ?_
 ·have g2 : gd 2 = some 16 := by rw [hgd]; rfl
  have g6 : gd 6 = some 20 := by rw [hgd]; rfl
  clear hgd
  simp (maxSteps := 9^9) (disch := (try simp only [lens]); omega) only [argSl, sm, ↓amb, mark_eq, simprocAttr, sz26, en67, gcase_undef, g2, g6, dx]
  repeat' first | refine hk _ _ rfl rfl rfl rfl ?_ | (refine gsplit (fun hg => ?_) (fun hg => ?_) <;> (try simp only [hbx] at hg) <;> simp (maxSteps := 9^9) (disch := (try simp only [lens]); omega) only [argSl, sm, ↓amb, mark_eq, simprocAttr, sz26, en67, gcase_undef, g2, g6, dx]) | apply And.intro | (refine callK_p (c_fill_Right _ _) rfl ?_; (try simp (maxSteps := 9^9) (disch := (try simp only [lens]); omega) only [argSl, sm, ↓amb, mark_eq, simprocAttr, sz26, en67, gcase_undef, g2, g6, dx])) | fail
  all_goals first | rfl | omega | exact (decide_eq_true (by omega)).symm | exact (decide_eq_false (by omega)).symm | exact decide_eq_decide.mpr (by omega) | (refine Bool.eq_iff_iff.mpr ?_; simp only [beq_iff_eq, bne_iff_ne, ne_eq, decide_eq_true_eq]; omega) | (refine Bool.eq_iff_iff.mpr ?_; simp only [Bool.not_eq_true', Bool.not_eq_false', decide_eq_false_iff_not, decide_eq_true_eq, beq_iff_eq, bne_iff_ne, ne_eq]; omega) | assumption | (simp; done) | (simp [maxLen]; omega) | skip
  all_goals first | (refine (decide_eq_true ?_).symm; intro q; exact absurd q.1 (by omega)) | (refine (decide_eq_true ?_).symm; intro q; exact absurd q.2.1 (by omega)) | (refine Bool.eq_iff_iff.mpr ?_; simp only [Bool.not_eq_true', decide_eq_false_iff_not, decide_eq_true_eq]; exact ⟨fun h q => h q.2.2, fun h q => h ⟨by omega, by omega, q⟩⟩)
 simp only [kp, argSl, simprocAttr, List.length_cons, List.length_nil]
 refine awp_cond rfl (fun hb => ?_) (fun hb => ?_)
 ·try simp only [hbx] at hb
  refine awp_le (le_keep []) ?_
  simp only [kp, argSl, simprocAttr]
  refine awp_sr [64] (by rw [hC]; rfl) fun k hk => ?_
  simp (maxSteps := 9^9) (disch := (try simp only [lens]); omega) only [argSl, sm, ↓amb, mark_eq, simprocAttr, dx]
  repeat refine an ?_
  refine hk _ ?_; clear hk k
  refine awp_ret ?_
  obtain ⟨e1, e2, e3⟩ := Pl.ord_no (n := n) (p := p) (by first | exact hb | simpa using hb)
  rw [e1, e2, e3]
  refine ret3 rfl rfl rfl rfl ?_ ?_ ?_
  ·exact .p (LeP.seq _ _)
  ·exact .p (LeP.refl _)
  ·exact .p (LeP.refl _)
 ·try simp only [hbx] at hb
  refine awp_skip ?_
  refine h1 _ ?_; clear h1 k1
  refine awp_seq fun k2 h2 => ?_
  refine awp_le (le_keep [0, 3, 4, 5, 6]) ?_
  simp only [kp, argSl, simprocAttr]
  have hok : Pl.ordOk n p := by first | exact hb | (simpa using hb)
  refine awp_sr [64] (by rw [hC]; rfl) fun k hk => ?_
  simp (maxSteps := 9^9) (disch := (try simp only [lens]); omega) only [argSl, sm, ↓amb, mark_eq, simprocAttr, dx]
  repeat refine an ?_
  refine hk _ ?_; clear hk k
  refine awp_cond rfl (fun hb => ?_) (fun hb => ?_)
  ·try simp only [hbx] at hb
   refine awp_le (le_keep []) ?_
   simp only [kp, argSl, simprocAttr]
   refine awp_sr [64] (by rw [hC]; rfl) fun k hk => ?_
   simp (maxSteps := 9^9) (disch := (try simp only [lens]); omega) only [argSl, sm, ↓amb, mark_eq, simprocAttr, dx]
   repeat refine an ?_
   refine hk _ ?_; clear hk k
   refine awp_ret ?_
   subst hb
   obtain ⟨e1, e2⟩ := Pl.ord_zero p
   rw [e1, e2, Pl.ordE0 hok]
   refine ret3 rfl rfl rfl rfl ?_ ?_ ?_
   ·exact .p (LeP.seq _ _)
   ·exact .p (LeP.refl _)
   ·exact .p (LeP.refl _)
  ·try simp only [hbx] at hb
   refine awp_skip ?_
   refine h2 _ ?_; clear h2 k2
   refine awp_le (le_keep [0, 3]) ?_
   simp only [kp, argSl, simprocAttr]
   have hn0 := hb
   have hbd := Pl.ord_bd hok hn0
   obtain ⟨u1, u2, u3, u4, u5, u6, u7⟩ := Pl.ordL_ok hok hn0
   have hn1 := hok.2.1
   refine awp_sr [64] (by rw [hC]; rfl) fun k hk => ?_
   simp (maxSteps := 9^9) (disch := (try simp only [lens]); omega) only [argSl, sm, ↓amb, mark_eq, simprocAttr, fl26_0, sz3, fl26_1, fl26_2, sz24, en68, vr91, sz91, dx]
   repeat refine an ?_
   refine callK_p (c_drain_Whole _ n p.grain p.workers p.picks hbd.1 (by omega)) rfl ?_
   simp (maxSteps := 9^9) (disch := (try simp only [lens]); omega) only [argSl, sm, ↓amb, mark_eq, simprocAttr, fl26_0, sz3, fl26_1, fl26_2, sz24, en68, vr91, sz91, dx]
   repeat refine an ?_
   refine hk _ ?_; clear hk k
   refine awp_seq fun k3 h3 => ?_
   refine awp_le (le_keep [4, 5, 6, 7, 8, 9]) ?_
   simp only [kp, argSl, simprocAttr]
   refine awp_sr [64] (by rw [hC]; rfl) fun k hk => ?_
   simp (maxSteps := 9^9) (disch := (try simp only [lens]); omega) only [argSl, sm, ↓amb, mark_eq, simprocAttr, dx]
   repeat refine an ?_
   refine hk _ ?_; clear hk k
   refine awp_cond rfl (fun hb => ?_) (fun hb => ?_)
   ·exact absurd hb (by simp)
   ·try simp only [hbx] at hb
    refine awp_skip ?_
    refine h3 _ ?_; clear h3 k3
    refine awp_le (le_keep [7, 8]) ?_
    simp only [kp, argSl, simprocAttr]
    refine awp_sr [64] (by rw [hC]; rfl) fun k hk => ?_
    simp (maxSteps := 9^9) (disch := (try simp only [lens]); omega) only [argSl, sm, ↓amb, mark_eq, simprocAttr, dx]
    repeat refine an ?_
    refine hk _ ?_; clear hk k
    refine awp_seq fun k4 h4 => ?_
    refine awp_le (le_keep [4, 5, 6, 7, 8, 10]) ?_
    simp only [kp, argSl, simprocAttr]
    have hws : (Pl.whole n p.grain p.workers p.picks).2.1.length ≤ 1000000 := by have := u6; unfold Pl.ordW at this; omega
    refine awp_own' 10 1 rfl ?_
    refine awp_sr [64] (by rw [hC]; rfl) fun k hk => ?_
    simp (maxSteps := 9^9) (disch := (try simp only [lens]); omega) only [argSl, sm, ↓amb, mark_eq, simprocAttr, sz91, en69, el95, dx]
    repeat refine an ?_
    refine callK_p (c_drain_Leaves _ _ _ hws) rfl ?_
    simp (maxSteps := 9^9) (disch := (try simp only [lens]); omega) only [argSl, sm, ↓amb, mark_eq, simprocAttr, sz91, en69, el95, dx]
    repeat refine an ?_
    refine hk _ ?_; clear hk k
    refine awp_block ?_
    refine awp_loop (σ := Nat) (fun i => i ≤ (Pl.ordL n p).length) (fun (i : Nat) => ⟨[(8, (.p (.seq false ((Pl.whole n p.grain p.workers p.picks).2.1.map evC)))), (10, (.own 0)), (44, (.p (.seq false ((Pl.ordL n p).map (fun s => [iV s.1, iV s.2]))))), (45, (.p (iV (Pl.ordL n p).length))), (46, (.p (iV i)))], [(0, (.row 1 (lift ((Pl.unitsOf ((Pl.ordL n p).take i)).map fun x => [iV x]))))], 1⟩) (fun i => (Pl.ordL n p).length - i) 0 ?_ ?_ fun i hi => ?_
    ·exact Nat.zero_le _
    ·exact le_of [(0, _)] (by rfl) (by rfl) ⟨⟨_, rfl, .oe⟩, ⟨_, rfl, .own rfl⟩, ⟨_, rfl, .oe⟩, ⟨_, rfl, .oe⟩, ⟨_, rfl, .oe⟩, trivial⟩ ⟨⟨_, rfl, _, rfl, .liftE (by first | (rw [List.take_zero]; rfl) | (rw [Pl.unitsOf_take _ i (by omega), show ((Pl.ordL n p).getD i default).1 + (k : Int) = ((Pl.ordL n p).getD i default).2 by omega]))⟩, trivial⟩
    refine awp_le (le_keep [0, 4, 5, 6, 8, 10, 44, 45, 46]) ?_
    simp only [kp, argSl, simprocAttr]
    refine awp_sr [64] (by rw [hC]; rfl) fun k hk => ?_
    simp (maxSteps := 9^9) (disch := (try simp only [lens]); omega) only [argSl, sm, ↓amb, mark_eq, simprocAttr, dx]
    repeat refine an ?_
    refine hk _ ?_; clear hk k
    refine awp_seq fun k6 h6 => ?_
    refine awp_cond rfl (fun hb => ?_) (fun hb => ?_)
    ·try simp only [hbx] at hb
     refine awp_skip ?_
     refine h6 _ ?_; clear h6 k6
     refine awp_seq fun k7 h7 => ?_
     refine awp_block ?_
     refine awp_le (le_keep [0, 4, 5, 6, 8, 10, 44, 45, 46]) ?_
     simp only [kp, argSl, simprocAttr]
     refine awp_sr [64] (by rw [hC]; rfl) fun k hk => ?_
     simp (maxSteps := 9^9) (disch := (try simp only [lens]); omega) only [argSl, sm, ↓amb, mark_eq, simprocAttr, el95, sz98, vr98, dx]
     repeat refine an ?_
     refine hk _ ?_; clear hk k
     refine awp_le (le_keep [0, 4, 5, 6, 8, 10, 12, 44, 45, 46]) ?_
     simp only [kp, argSl, simprocAttr]
     obtain ⟨s1, s2, s3⟩ := u3 ((Pl.ordL n p).getD i default) (Pl.getD_mem _ i default (by omega))
     refine awp_sr [64] (by rw [hC]; rfl) fun k hk => ?_
     simp (maxSteps := 9^9) (disch := (try simp only [lens]); omega) only [argSl, sm, ↓amb, mark_eq, simprocAttr, fl98_1, sz3, fl98_0, dx]
     repeat refine an ?_
     refine hk _ ?_; clear hk k
     refine awp_block ?_
     refine awp_loop (σ := Nat) (fun k => (k : Int) ≤ ((Pl.ordL n p).getD i default).2 - ((Pl.ordL n p).getD i default).1) (fun (k : Nat) => ⟨[(8, (.p (.seq false ((Pl.whole n p.grain p.workers p.picks).2.1.map evC)))), (10, (.own 0)), (44, (.p (.seq false ((Pl.ordL n p).map (fun s => [iV s.1, iV s.2]))))), (45, (.p (iV (Pl.ordL n p).length))), (46, (.p (iV i))), (12, (.ptr 1 2 0 0)), (54, (.p (iV (((Pl.ordL n p).getD i default).2 - ((Pl.ordL n p).getD i default).1)))), (55, (.p (iV (k : Int))))], [(0, (.row 1 (lift ((Pl.unitsOf ((Pl.ordL n p).take i) ++ Pl.upto ((Pl.ordL n p).getD i default).1 (((Pl.ordL n p).getD i default).1 + (k : Int))).map fun x => [iV x])))), (1, (.row 2 [[.p (iV ((Pl.ordL n p).getD i default).1), .p (iV ((Pl.ordL n p).getD i default).2)]]))], 1⟩) (fun k => (((Pl.ordL n p).getD i default).2 - ((Pl.ordL n p).getD i default).1).toNat - k) 0 ?_ ?_ fun k hk => ?_
     ·show ((0 : Nat) : Int) ≤ _; omega
     ·exact le_of [(0, _), (1, _)] (by rfl) (by rfl) ⟨⟨_, rfl, .oe⟩, ⟨_, rfl, .own rfl⟩, ⟨_, rfl, .oe⟩, ⟨_, rfl, .oe⟩, ⟨_, rfl, .oe⟩, ⟨_, rfl, .ptr rfl⟩, ⟨_, rfl, .oe⟩, ⟨_, rfl, .oe⟩, trivial⟩ ⟨⟨_, rfl, _, rfl, .liftE (by first | (rw [Pl.upto_nil (by simp), List.append_nil]; done) | (rw [← Pl.upto_snoc, ← List.append_assoc]; simp only [List.map_append, List.map_cons, List.map_nil]))⟩, ⟨_, rfl, _, rfl, .one (.cons (.p (.refl _)) (.cons (.p (.refl _)) (.nil)))⟩, trivial⟩
     refine awp_le (le_keep [0, 1, 4, 5, 6, 8, 10, 12, 44, 45, 46, 54, 55]) ?_
     simp only [kp, argSl, simprocAttr]
     refine awp_sr [64] (by rw [hC]; rfl) fun k hk => ?_
     simp (maxSteps := 9^9) (disch := (try simp only [lens]); omega) only [argSl, sm, ↓amb, mark_eq, simprocAttr, dx]
     repeat refine an ?_
     refine hk _ ?_; clear hk k
     refine awp_seq fun k9 h9 => ?_
     refine awp_cond rfl (fun hb => ?_) (fun hb => ?_)
     ·try simp only [hbx] at hb
      refine awp_skip ?_
      refine h9 _ ?_; clear h9 k9
      refine awp_seq fun k10 h10 => ?_
      refine awp_block ?_
      refine awp_le (le_keep [0, 1, 4, 5, 6, 8, 10, 12, 44, 45, 46, 54, 55]) ?_
      simp only [kp, argSl, simprocAttr]
      refine awp_sr [64] (by rw [hC]; rfl) fun k hk => ?_
      simp (maxSteps := 9^9) (disch := (try simp only [lens]); omega) only [argSl, sm, ↓amb, mark_eq, simprocAttr, dx]
      repeat refine an ?_
      refine hk _ ?_; clear hk k
      have hul := Pl.upto_take_len (Pl.ordL n p) i k (by omega) (by omega)
      rw [List.length_append] at hul
      refine awp_region [64] (by rw [hC]; rfl) fun k hk => ?_
      simp (maxSteps := 9^9) (disch := (try simp only [lens]); omega) only [argSl, sm, ↓amb, mark_eq, simprocAttr, fl98_0, sz3, el33, vr3, by3, dx]
      repeat refine an ?_
      refine hk _ ?_; clear hk k
      refine h10 _ ?_; clear h10 k10
      refine awp_region [64] (by rw [hC]; rfl) fun k hk => ?_
      simp (maxSteps := 9^9) (disch := (try simp only [lens]); omega) only [argSl, sm, ↓amb, mark_eq, simprocAttr, dx]
      repeat refine an ?_
      refine hk _ ?_; clear hk k
      refine ⟨k + 1, by omega, le_of [(0, _), (1, _)] (by rfl) (by rfl) ⟨⟨_, rfl, .oe⟩, ⟨_, rfl, .own rfl⟩, ⟨_, rfl, .oe⟩, ⟨_, rfl, .oe⟩, ⟨_, rfl, .oe⟩, ⟨_, rfl, .ptr rfl⟩, ⟨_, rfl, .oe⟩, ⟨_, rfl, .oe⟩, trivial⟩ ⟨⟨_, rfl, _, rfl, .liftE (by first | (rw [Pl.upto_nil (by simp), List.append_nil]; done) | (rw [← Pl.upto_snoc, ← List.append_assoc]; simp only [List.map_append, List.map_cons, List.map_nil]))⟩, ⟨_, rfl, _, rfl, .one (.cons (.p (.refl _)) (.cons (.p (.refl _)) (.nil)))⟩, trivial⟩, by omega⟩
     ·try simp only [hbx] at hb
      refine awp_exit ((if_pos rfl).mpr ?_)
      refine h7 _ ?_; clear h9 k9; clear h7 k7
      refine awp_region [64] (by rw [hC]; rfl) fun k hk => ?_
      simp (maxSteps := 9^9) (disch := (try simp only [lens]); omega) only [argSl, sm, ↓amb, mark_eq, simprocAttr, dx]
      repeat refine an ?_
      refine hk _ ?_; clear hk k
      refine ⟨i + 1, by omega, le_of [(0, _)] (by rfl) (by rfl) ⟨⟨_, rfl, .oe⟩, ⟨_, rfl, .own rfl⟩, ⟨_, rfl, .oe⟩, ⟨_, rfl, .oe⟩, ⟨_, rfl, .oe⟩, trivial⟩ ⟨⟨_, rfl, _, rfl, .liftE (by first | (rw [List.take_zero]; rfl) | (rw [Pl.unitsOf_take _ i (by omega), show ((Pl.ordL n p).getD i default).1 + (k : Int) = ((Pl.ordL n p).getD i default).2 by omega]))⟩, trivial⟩, by omega⟩
    ·try simp only [hbx] at hb
     refine awp_exit ((if_pos rfl).mpr ?_)
     refine h4 _ ?_; clear h6 k6; clear h4 k4
     refine awp_le (le_keep [8, 10]) ?_
     simp only [kp, argSl, simprocAttr]
     have htk : (Pl.ordL n p).take i = (Pl.ordL n p) := List.take_of_length_le (by omega)
     rw [htk]
     refine awp_sr [64] (by rw [hC]; rfl) fun k hk => ?_
     simp (maxSteps := 9^9) (disch := (try simp only [lens]); omega) only [argSl, sm, ↓amb, mark_eq, simprocAttr, el92, dx]
     repeat refine an ?_
     refine hk _ ?_; clear hk k
     refine awp_ret ?_
     rw [u1, u2, Pl.ordE0 hok]
     refine ret3 rfl rfl rfl rfl ?_ ?_ ?_
     ·exact .ownE rfl rfl
     ·exact .p (LeP.refl _)
     ·exact .p (LeP.refl _)
end Go.Proofs.Ytbehekmnccoifaa
end
section
set_option linter.unusedSimpArgs false
set_option linter.unusedVariables false
namespace Go.Pl
def fillL (n : Nat) (S : List Int) (v : Nat → Int) : List Int := (List.range n).map fun (j : Nat) => if (j : Int) ∈ S then v j else 0
theorem fillL_len (n : Nat) (S : List Int) (v : Nat → Int) : (fillL n S v).length = n := by simp [fillL]
theorem fillL_nil (n : Nat) (v : Nat → Int) : fillL n [] v = List.replicate n 0 := by
  unfold fillL
  simp only [List.not_mem_nil, if_false]
  rw [List.map_const', List.length_range]
theorem fillL_set {n : Nat} {S : List Int} {v : Nat → Int} {i x : Int} (h0 : 0 ≤ i) (hx : x = v i.toNat) : (fillL n S v).set i.toNat x = fillL n (S ++ [i]) v := by
  subst hx
  apply List.ext_getElem?
  intro j
  rw [List.getElem?_set]
  simp only [fillL, List.getElem?_map, List.length_map, List.length_range, List.mem_append, List.mem_singleton]
  by_cases e : i.toNat = j
  · subst e
    rw [if_pos rfl]
    split
    · rename_i h
      rw [List.getElem?_range h]
      simp only [Option.map_some]
      rw [if_pos (.inr (by omega))]
    · rename_i h
      rw [List.getElem?_eq_none (by simpa using h)]; rfl
  · rw [if_neg e]
    by_cases h : j < n
    · have : ((j : Int) = i) ↔ False := ⟨fun q => e (by omega), False.elim⟩
      rw [List.getElem?_range h]
      simp only [Option.map_some, this, or_false]
    · rw [List.getElem?_eq_none (by simpa using h)]; rfl
theorem fillL_all {n : Nat} {S : List Int} {v : Nat → Int} (h : ∀ j : Nat, j < n → (j : Int) ∈ S) : fillL n S v = (List.range n).map v := by
  unfold fillL
  refine List.map_congr_left fun j hj => ?_
  rw [if_pos (h j (List.mem_range.1 hj))]
theorem mapR_get {n : Nat} {v : Nat → Int} {j : Nat} (h : j < n) (d : Int) : ((List.range n).map v).getD j d = v j := by
  simp [List.getD_eq_getElem?_getD, h]
@[reducible] def W32 (x : Int) : Prop := 0 ≤ x ∧ x ≤ 4294967295
structure Rule (f : Int → Int → Int) : Prop where
  cl : ∀ a b, W32 a → W32 b → W32 (f a b)
  asc : ∀ a b c, W32 a → W32 b → W32 c → f (f a b) c = f a (f b c)
  z1 : ∀ a, W32 a → f 0 a = a
  z2 : ∀ a, W32 a → f a 0 = a
@[reducible] def add32 (a b : Int) : Int := (a + b) % 4294967296
theorem rule_add : Rule add32 := by
  refine ⟨fun a b ha hb => ?_, fun a b c ha hb hc => ?_, fun a ha => ?_, fun a ha => ?_⟩ <;> unfold add32 <;> omega
def allF (f : Int → Int → Int) (l : List Int) : Int := l.foldl f 0
def aheadF (f : Int → Int → Int) (l : List Int) : List Int := (List.range l.length).map fun i => allF f (l.take i)
theorem aheadF_len (f : Int → Int → Int) (l : List Int) : (aheadF f l).length = l.length := by simp [aheadF]
theorem aheadF_get (f : Int → Int → Int) (l : List Int) {i : Nat} (h : i < l.length) : (aheadF f l).getD i 0 = allF f (l.take i) := mapR_get h 0
theorem take_snoc' (l : List Int) (i : Nat) (h : i < l.length) : l.take (i + 1) = l.take i ++ [l.getD i 0] := by
  rw [List.take_add_one, List.getD_eq_getElem?_getD, List.getElem?_eq_getElem h]; rfl
theorem allF_snoc (f : Int → Int → Int) (l : List Int) (x : Int) : allF f (l ++ [x]) = f (allF f l) x := by simp [allF]
theorem allF_take (f : Int → Int → Int) (l : List Int) (i : Nat) (h : i < l.length) : allF f (l.take (i + 1)) = f (allF f (l.take i)) (l.getD i 0) := by
  rw [take_snoc' l i h, allF_snoc]
theorem foldl_w {f : Int → Int → Int} (hf : Rule f) : ∀ (l : List Int) (a : Int), W32 a → (∀ x, x ∈ l → W32 x) → W32 (l.foldl f a)
  | [], a, ha, _ => ha
  | x :: l, a, ha, h => foldl_w hf l (f a x) (hf.cl a x ha (h x (by simp))) (fun y hy => h y (by simp [hy]))
theorem allF_w {f : Int → Int → Int} (hf : Rule f) {l : List Int} (h : ∀ x, x ∈ l → W32 x) : W32 (allF f l) := foldl_w hf l 0 (by omega) h
theorem foldl_pull {f : Int → Int → Int} (hf : Rule f) : ∀ (l : List Int) (a b : Int), W32 a → W32 b → (∀ x, x ∈ l → W32 x) → l.foldl f (f a b) = f a (l.foldl f b)
  | [], a, b, _, _, _ => rfl
  | x :: l, a, b, ha, hb, h => by
    have hx := h x (by simp)
    simp only [List.foldl_cons]
    rw [hf.asc a b x ha hb hx, foldl_pull hf l a (f b x) ha (hf.cl b x hb hx) (fun y hy => h y (by simp [hy]))]
theorem allF_app {f : Int → Int → Int} (hf : Rule f) {a b : List Int} (ha : ∀ x, x ∈ a → W32 x) (hb : ∀ x, x ∈ b → W32 x) : allF f (a ++ b) = f (allF f a) (allF f b) := by
  have h1 := allF_w hf ha
  unfold allF at *
  rw [List.foldl_append]
  conv => lhs; rw [show a.foldl f 0 = f (a.foldl f 0) 0 from (hf.z2 _ h1).symm]
  exact foldl_pull hf b _ 0 h1 (by omega) hb
def part (l : List Int) (b i : Nat) : List Int := (l.take (min l.length ((i + 1) * b))).drop (i * b)
theorem part_len (l : List Int) (b i : Nat) : (part l b i).length = min l.length ((i + 1) * b) - i * b := by
  unfold part; rw [List.length_drop, List.length_take]; congr 1; omega
theorem take_part (l : List Int) (b i : Nat) : l.take (min l.length (i * b)) ++ part l b i = l.take (min l.length ((i + 1) * b)) := by
  unfold part
  have h1 : i * b ≤ (i + 1) * b := Nat.mul_le_mul_right b (by omega)
  have e : l.take (min l.length (i * b)) = (l.take (min l.length ((i + 1) * b))).take (i * b) := by
    rw [List.take_take]
    by_cases c : i * b ≤ l.length
    · congr 1; omega
    · rw [List.take_of_length_le (by omega), List.take_of_length_le (by omega)]
  rw [e, List.take_append_drop]
theorem part_w {l : List Int} {b i : Nat} (h : ∀ x, x ∈ l → W32 x) : ∀ x, x ∈ part l b i → W32 x := fun x hx => h x (List.mem_of_mem_take (List.mem_of_mem_drop hx))
theorem take_w {l : List Int} {i : Nat} (h : ∀ x, x ∈ l → W32 x) : ∀ x, x ∈ l.take i → W32 x := fun x hx => h x (List.mem_of_mem_take hx)
def totF (f : Int → Int → Int) (l : List Int) (b n : Nat) : List Int := (List.range n).map fun i => allF f (part l b i)
theorem allF_tot {f : Int → Int → Int} (hf : Rule f) {l : List Int} (h : ∀ x, x ∈ l → W32 x) (b n : Nat) : ∀ i, i ≤ n → allF f ((totF f l b n).take i) = allF f (l.take (min l.length (i * b)))
  | 0, _ => by simp [allF]
  | i + 1, hi => by
    have hlen : (totF f l b n).length = n := by simp [totF]
    rw [allF_take f _ i (by omega), allF_tot hf h b n i (by omega), ← take_part, allF_app hf (take_w h) (part_w h)]
    congr 1
    exact mapR_get (by omega) 0
theorem ahead_at {f : Int → Int → Int} (hf : Rule f) {l : List Int} (h : ∀ x, x ∈ l → W32 x) {b n i k : Nat} (hi : i < n) (hb : i * b + k < l.length) (hk : k < b) :
    f (allF f ((totF f l b n).take i)) (allF f ((part l b i).take k)) = allF f (l.take (i * b + k)) := by
  have h1 : (i + 1) * b = i * b + b := by rw [Nat.add_mul, Nat.one_mul]
  rw [allF_tot hf h b n i (by omega), ← allF_app hf (take_w h) (take_w (part_w h))]
  congr 1
  have e : (part l b i).take k = (l.take (i * b + k)).drop (i * b) := by
    unfold part
    rw [List.take_drop, List.take_take]
    congr 2; omega
  rw [e, show min l.length (i * b) = i * b by omega]
  have : l.take (i * b) = (l.take (i * b + k)).take (i * b) := by rw [List.take_take]; congr 1; omega
  rw [this, List.take_append_drop]
def blockPl (len b : Nat) (i : Int) : List Int := upto (i * b) (min len ((i + 1) * b))
theorem blocks_all {len b n : Nat} (hb : 1 ≤ b) (hn : n = (len + b - 1) / b) {U : List Int} (hU : ∀ u, u ∈ U ↔ (0 ≤ u ∧ u < n)) : ∀ j : Nat, j < len → (j : Int) ∈ U.flatMap (blockPl len b) := by
  intro j hj
  refine List.mem_flatMap.2 ⟨((j / b : Nat) : Int), (hU _).2 ⟨Int.natCast_nonneg _, ?_⟩, ?_⟩
  · have : j / b < n := by
      rw [hn, Nat.div_lt_iff_lt_mul hb]
      have h1 := Nat.div_add_mod (len + b - 1) b
      have h2 := Nat.mod_lt (len + b - 1) hb
      have h3 : (len + b - 1) / b * b = b * ((len + b - 1) / b) := Nat.mul_comm _ _
      omega
    exact Int.ofNat_lt.2 this
  · unfold blockPl
    rw [mem_upto]
    have h1 := Nat.div_add_mod j b
    have h2 := Nat.mod_lt j hb
    have h3 : j / b * b = b * (j / b) := Nat.mul_comm _ _
    have h4 : (j / b + 1) * b = j / b * b + b := by rw [Nat.add_mul, Nat.one_mul]
    have e1 : (((j / b : Nat) : Int)) * (b : Int) = ((j / b * b : Nat) : Int) := by rw [Int.natCast_mul]
    have e2 : (((j / b : Nat) : Int) + 1) * (b : Int) = (((j / b + 1) * b : Nat) : Int) := by rw [Int.natCast_mul]; rfl
    rw [e1, e2]; omega
end Go.Pl
end
section
set_option linter.unusedSimpArgs false
set_option linter.unusedVariables false
namespace Go.Pl
def xr (x y : Int) : Int := ((BitVec.ofInt 32 x ^^^ BitVec.ofInt 32 y).toNat : Int) % 4294967296
def an (x y : Int) : Int := ((BitVec.ofInt 32 x &&& BitVec.ofInt 32 y).toNat : Int) % 4294967296
def one (x op y : Int) : Int :=
  if op = 1 then (x + y) % 4294967296 else if op = 2 then xr x y else if op = 3 then (x * 2 ^ min (y % 32).toNat 32) % 4294967296 else
  if op = 4 then x / 2 ^ min (y % 32).toNat 32 else if op = 5 then an x y else if op = 6 then (if y < x then 1 else 0) else 0
def opOk (op : Int) : Prop := 1 ≤ op ∧ op ≤ 6
instance (op : Int) : Decidable (opOk op) := by unfold opOk; infer_instance
theorem ordE_01 (n : Int) (p : Plan) : ordE n p = 0 ∨ ordE n p = 1 := by unfold ordE; split <;> simp
theorem ordE_iff {n : Int} {p : Plan} : ordE n p = 0 ↔ ordOk n p := by
  unfold ordE; split
  · rename_i h; exact ⟨fun _ => h, fun _ => rfl⟩
  · rename_i h; exact ⟨fun q => absurd q (by decide), fun q => absurd q h⟩
theorem fill_ord {n : Nat} {p : Plan} (h : ordOk n p) (v : Nat → Int) : fillL n (ordU n p) v = (List.range n).map v :=
  fillL_all fun j hj => ((ordU_ok h).2.1 j).2 ⟨by omega, by omega⟩
def onceP (l : List Int) (n : Nat) : Prop := l.length = n ∧ (∀ x, x ∈ l → 0 ≤ x ∧ x < n) ∧ ∀ k, k < n → (k : Int) ∈ l
instance (l : List Int) (n : Nat) : Decidable (onceP l n) := by unfold onceP; infer_instance
end Go.Pl
namespace Go.Pl
theorem an_mask {x : Int} (k : Nat) (hk : k ≤ 32) (hx : W32 x) : an x (2 ^ k - 1) = x % 2 ^ k := by
  have h1 : (2 : Nat) ^ k ≤ 2 ^ 32 := Nat.pow_le_pow_right (by omega) hk
  have h2 := Nat.pow_pos (n := k) (show 0 < 2 by omega)
  have e2 : ((2 : Int) ^ k - 1) = (((2 ^ k - 1 : Nat)) : Int) := by
    rw [Int.natCast_sub (by omega)]; simp
  have e1 : (BitVec.ofInt 32 x &&& BitVec.ofInt 32 (2 ^ k - 1)).toNat = x.toNat % 2 ^ k := by
    rw [BitVec.toNat_and, e2, BitVec.ofInt_natCast, BitVec.toNat_ofNat, Nat.mod_eq_of_lt (by omega), BitVec.toNat_ofInt, Nat.and_two_pow_sub_one_eq_mod]
    congr 1; omega
  unfold an
  rw [e1]
  have h3 : x.toNat % 2 ^ k ≤ x.toNat := Nat.mod_le _ _
  have h4 : ((x.toNat % 2 ^ k : Nat) : Int) = x % 2 ^ k := by
    rw [Int.natCast_emod, Int.toNat_of_nonneg hx.1]; simp
  rw [h4]
  have h5 : x % 2 ^ k ≤ 4294967295 ∧ 0 ≤ x % 2 ^ k := by rw [← h4]; omega
  omega
theorem range_getD (l : List Int) : (List.range l.length).map (fun j => l.getD j 0) = l := by
  apply List.ext_getElem?
  intro j
  rw [List.getElem?_map]
  by_cases h : j < l.length
  · rw [List.getElem?_range h, Option.map_some, List.getD_eq_getElem?_getD, List.getElem?_eq_getElem h]; rfl
  · rw [List.getElem?_eq_none (by simpa using h), List.getElem?_eq_none (by omega)]; rfl
theorem getD_w {l : List Int} (h : ∀ x, x ∈ l → W32 x) (j : Nat) : W32 (l.getD j 0) := by
  by_cases c : j < l.length
  · exact h _ (getD_mem l j 0 c)
  · rw [List.getD_eq_getElem?_getD, List.getElem?_eq_none (by omega)]; exact ⟨by decide, by decide⟩
theorem upto_snoc' (k : Nat) : upto 0 (k : Int) ++ [(k : Int)] = upto 0 ((k + 1 : Nat) : Int) := by
  have := upto_snoc (a := 0) k
  rwa [Int.zero_add, Int.zero_add] at this
theorem all_take {p : Int → Prop} {l : List Int} {i : Nat} (hi : i < l.length) (h : ∀ x, x ∈ l.take i → p x) (hx : p (l.getD i 0)) : ∀ x, x ∈ l.take (i + 1) → p x := fun x q => by
  rw [List.take_add_one, List.mem_append] at q
  rcases q with q | q
  · exact h x q
  · rw [List.getElem?_eq_getElem hi] at q
    rw [List.getD_eq_getElem?_getD, List.getElem?_eq_getElem hi] at hx
    simp at q; subst q; exact hx
end Go.Pl
end
section
set_option linter.unusedSimpArgs false
set_option linter.unusedVariables false
namespace Go.Pl
def scE (n : Nat) (b : Int) (p : Plan) : Int := if (1 ≤ b ∧ b ≤ 100) ∧ n ≤ 1000 then ordE (blk n b) p else 1
def scL (f : Int → Int → Int) (l : List Int) (b : Int) (p : Plan) : List Int := if scE l.length b p = 0 then aheadF f l else []
def scT (f : Int → Int → Int) (l : List Int) (b : Int) (p : Plan) : Int := if scE l.length b p = 0 then allF f l else 0
def scS (n : Nat) (b : Int) (p : Plan) : Int := if scE n b p = 0 then 2 * ordS (blk n b) p else 0
theorem sc_no {f : Int → Int → Int} {l : List Int} {b : Int} {p : Plan} (h : ¬ scE l.length b p = 0) : scL f l b p = [] ∧ scT f l b p = 0 ∧ scS l.length b p = 0 :=
  ⟨if_neg h, if_neg h, if_neg h⟩
theorem sc_yes {f : Int → Int → Int} {l : List Int} {b : Int} {p : Plan} (h : scE l.length b p = 0) : scL f l b p = aheadF f l ∧ scT f l b p = allF f l ∧ scS l.length b p = 2 * ordS (blk l.length b) p :=
  ⟨if_pos h, if_pos h, if_pos h⟩
theorem scE_01 (n : Nat) (b : Int) (p : Plan) : scE n b p = 0 ∨ scE n b p = 1 := by
  unfold scE; split
  · exact ordE_01 _ p
  · exact .inr rfl
theorem sc_iff {n : Nat} {b : Int} {p : Plan} : scE n b p = 0 ↔ (1 ≤ b ∧ b ≤ 100) ∧ n ≤ 1000 ∧ ordOk (blk n b) p := by
  unfold scE; split
  · rename_i h; rw [ordE_iff]; exact ⟨fun q => ⟨h.1, h.2, q⟩, fun q => q.2.2⟩
  · rename_i h; exact ⟨fun q => absurd q (by decide), fun q => absurd ⟨q.1, q.2.1⟩ h⟩
def blkN (n b : Nat) : Nat := (n + b - 1) / b
theorem blk_nat {n b : Nat} (hb : 1 ≤ b ∧ b ≤ 100) (hn : n ≤ 1000) : blk n b = (blkN n b : Int) := by
  unfold blk blkN
  rw [if_pos ⟨by omega, by omega, by omega, by omega⟩, Int.natCast_ediv]
  congr 1; omega
theorem blk_at {n b u : Nat} (hb : 1 ≤ b ∧ b ≤ 100) (hn : n ≤ 1000) (h : u < blkN n b) : u * b < n ∧ (u + 1) * b = u * b + b ∧ u < 1000 := by
  unfold blkN at h
  rw [Nat.lt_div_iff_mul_lt (by omega)] at h
  have h1 : (u + 1) * b = u * b + b := by rw [Nat.add_mul, Nat.one_mul]
  have h2 : u ≤ u * b := Nat.le_mul_of_pos_right u (by omega)
  omega
theorem blkN_up {n b : Nat} (hb : 1 ≤ b ∧ b ≤ 100) (hn : n ≤ 1000) : blkN n b ≤ 1000 := by
  have := (blk_up (b := (b : Int)) (show (0 : Int) ≤ n by omega) (Int.le_refl _) (by omega)).2.2
  rw [blk_nat hb hn] at this; omega
theorem block_snoc {l : List Int} {b : Nat} {L : List Int} {z u : Nat} (hz : z < L.length) (hu : L.getD z 0 = u) (h : u * b < l.length) : (L.take (z + 1)).flatMap (blockPl l.length b) = (L.take z).flatMap (blockPl l.length b) ++ upto ((u : Int) * b) ((u : Int) * b + ((part l b u).length : Nat)) := by
  rw [take_snoc' L z hz, List.flatMap_append, hu]
  congr 1
  rw [List.flatMap_singleton]
  unfold blockPl
  congr 1
  rw [part_len]
  have h1 : (u + 1) * b = u * b + b := by rw [Nat.add_mul, Nat.one_mul]
  have e1 : (u : Int) * b = ((u * b : Nat) : Int) := by rw [Int.natCast_mul]
  have e2 : ((u : Int) + 1) * b = (((u + 1) * b : Nat) : Int) := by rw [Int.natCast_mul]; rfl
  rw [e1, e2]
  omega
theorem ahead_cell {f : Int → Int → Int} (hf : Rule f) {l : List Int} (h : ∀ x, x ∈ l → W32 x) {b n u y : Nat} (hu : u < n) (hb : u * b < l.length) (hy : y < (part l b u).length) :
    f ((aheadF f (totF f l b n)).getD u 0) ((aheadF f (part l b u)).getD y 0) = allF f (l.take (u * b + y)) ∧ u * b + y < l.length := by
  have h1 : (u + 1) * b = u * b + b := by rw [Nat.add_mul, Nat.one_mul]
  have h2 := hy
  rw [part_len] at h2
  rw [aheadF_get f _ (by simp [totF]; omega), aheadF_get f _ hy]
  exact ⟨ahead_at hf h hu (by omega) (by omega), by omega⟩
theorem totF_len (f : Int → Int → Int) (l : List Int) (b n : Nat) : (totF f l b n).length = n := by simp [totF]
theorem totF_w {f : Int → Int → Int} (hf : Rule f) {l : List Int} (h : ∀ x, x ∈ l → W32 x) (b n : Nat) : ∀ x, x ∈ totF f l b n → W32 x := fun x hx => by
  unfold totF at hx
  obtain ⟨j, _, rfl⟩ := List.mem_map.1 hx
  exact allF_w hf (part_w h)
theorem aheadF_w {f : Int → Int → Int} (hf : Rule f) {l : List Int} (h : ∀ x, x ∈ l → W32 x) : ∀ x, x ∈ aheadF f l → W32 x := fun x hx => by
  unfold aheadF at hx
  obtain ⟨j, _, rfl⟩ := List.mem_map.1 hx
  exact allF_w hf (take_w h)
theorem allF_tots {f : Int → Int → Int} (hf : Rule f) {l : List Int} (h : ∀ x, x ∈ l → W32 x) {b : Nat} (hb : 1 ≤ b) : allF f (totF f l b (blkN l.length b)) = allF f l := by
  have := allF_tot hf h b (blkN l.length b) _ (Nat.le_refl _)
  rw [List.take_of_length_le (by rw [totF_len]; exact Nat.le_refl _)] at this
  rw [this]
  congr 1
  apply List.take_of_length_le
  have : l.length ≤ blkN l.length b * b := by
    unfold blkN
    have h1 := Nat.div_add_mod (l.length + b - 1) b
    have h2 := Nat.mod_lt (l.length + b - 1) (show b > 0 by omega)
    have h3 : (l.length + b - 1) / b * b = b * ((l.length + b - 1) / b) := Nat.mul_comm _ _
    omega
  omega
theorem fill_upto {n : Nat} (v : Nat → Int) {i : Nat} (h : n ≤ i) : fillL n (upto 0 (i : Int)) v = (List.range n).map v :=
  fillL_all fun j hj => mem_upto.2 ⟨by omega, by omega⟩
theorem fill_blocks {n b : Nat} (hb : 1 ≤ b ∧ b ≤ 100) (hn : n ≤ 1000) {p : Plan} (h : ordOk (blkN n b : Nat) p) (v : Nat → Int) : fillL n ((ordU (blkN n b : Nat) p).flatMap (blockPl n b)) v = (List.range n).map v :=
  fillL_all (blocks_all (n := blkN n b) (by omega) rfl (fun u => (ordU_ok h).2.1 u))
end Go.Pl
end
section
set_option linter.unusedSimpArgs false
set_option linter.unusedVariables false
namespace Go.Pl
def bucket (B : Nat) (d : Int → Int) (l : List Int) : List Int := (List.range B).flatMap fun (v : Nat) => l.filter fun x => decide (d x = v)
def lowB (d : Int → Int) (l : List Int) (v : Nat) : List Int := (List.range v).flatMap fun (u : Nat) => l.filter fun x => decide (d x = u)
theorem bucket_low (B : Nat) (d : Int → Int) (l : List Int) : bucket B d l = lowB d l B := rfl
theorem nodup_inj {l : List Int} (h : l.Nodup) {i j : Nat} (hi : i < l.length) (hj : j < l.length) (e : l[i] = l[j]) : i = j := by
  have hp := List.pairwise_iff_getElem.1 h
  rcases Nat.lt_trichotomy i j with c | c | c
  · exact absurd e (hp i j hi hj c)
  · exact c
  · exact absurd e.symm (hp j i hj hi c)
theorem lowB_succ (d : Int → Int) (l : List Int) (v : Nat) : lowB d l (v + 1) = lowB d l v ++ l.filter fun x => decide (d x = v) := by
  unfold lowB; rw [List.range_succ, List.flatMap_append]; simp
theorem lowB_mem {d : Int → Int} {l : List Int} {v : Nat} {x : Int} : x ∈ lowB d l v ↔ x ∈ l ∧ 0 ≤ d x ∧ d x < v := by
  unfold lowB
  simp only [List.mem_flatMap, List.mem_range, List.mem_filter, decide_eq_true_eq]
  constructor
  · rintro ⟨u, h1, h2, h3⟩; exact ⟨h2, by omega, by omega⟩
  · rintro ⟨h1, h2, h3⟩; exact ⟨(d x).toNat, by omega, h1, by omega⟩
theorem lowB_split (B : Nat) (d : Int → Int) (l : List Int) {v : Nat} (h : v ≤ B) : ∃ r, bucket B d l = lowB d l v ++ r ∧ ∀ x, x ∈ r → (v : Int) ≤ d x := by
  obtain ⟨k, rfl⟩ : ∃ k, B = v + k := ⟨B - v, by omega⟩
  refine ⟨(List.range' v k).flatMap fun (u : Nat) => l.filter fun x => decide (d x = u), ?_, fun x hx => ?_⟩
  · unfold bucket lowB
    rw [List.range_eq_range', List.range_eq_range', ← List.flatMap_append]
    congr 1
    have := List.range'_append_1 (s := 0) (m := v) (n := k)
    rw [Nat.zero_add] at this
    exact this.symm
  · simp only [List.mem_flatMap, List.mem_range'_1, List.mem_filter, decide_eq_true_eq] at hx
    obtain ⟨u, h1, h2, h3⟩ := hx
    omega
def less (d : Int → Int) (l : List Int) (v : Nat) : Nat := (lowB d l v).length
def same (d : Int → Int) (l : List Int) (v : Int) : Nat := (l.filter fun x => decide (d x = v)).length
theorem less_zero (d : Int → Int) (l : List Int) : less d l 0 = 0 := rfl
theorem less_succ (d : Int → Int) (l : List Int) (v : Nat) : less d l (v + 1) = less d l v + same d l v := by
  unfold less same; rw [lowB_succ, List.length_append]
theorem same_le (d : Int → Int) (l : List Int) (v : Int) : same d l v ≤ l.length := List.length_filter_le _ _
theorem same_snoc (d : Int → Int) (l : List Int) (x v : Int) : same d (l ++ [x]) v = same d l v + if d x = v then 1 else 0 := by
  unfold same
  rw [List.filter_append, List.length_append]
  congr 1
  by_cases h : d x = v
  · rw [if_pos h, List.filter_cons_of_pos (by simpa using h)]; rfl
  · rw [if_neg h, List.filter_cons_of_neg (by simpa using h)]; rfl
theorem same_take (d : Int → Int) (l : List Int) (m : Nat) (h : m < l.length) (v : Int) : same d (l.take (m + 1)) v = same d (l.take m) v + if d (l.getD m 0) = v then 1 else 0 := by
  rw [take_snoc' l m h, same_snoc]
theorem filter_at (p : Int → Bool) (l : List Int) (m : Nat) (h : m < l.length) (hp : p (l.getD m 0) = true) : (l.filter p)[((l.take m).filter p).length]? = some (l.getD m 0) := by
  have e : l = l.take m ++ l.getD m 0 :: l.drop (m + 1) := by
    rw [List.getD_eq_getElem?_getD, List.getElem?_eq_getElem h, Option.getD_some, ← List.drop_eq_getElem_cons h, List.take_append_drop]
  conv => lhs; rw [e]
  rw [List.filter_append, List.filter_cons_of_pos hp]
  have e2 : (l.take m ++ l.getD m 0 :: l.drop (m + 1)).take m = l.take m := by
    rw [← e]
  rw [List.getElem?_append_right (by rw [e2]; exact Nat.le_refl _), e2]; simp
def posB (d : Int → Int) (l : List Int) (m : Nat) : Nat := less d l (d (l.getD m 0)).toNat + same d (l.take m) (d (l.getD m 0))
theorem posB_at {B : Nat} {d : Int → Int} {l : List Int} {m : Nat} (h : m < l.length) (hd : 0 ≤ d (l.getD m 0) ∧ d (l.getD m 0) < B) : (bucket B d l)[posB d l m]? = some (l.getD m 0) := by
  have e0 : ((d (l.getD m 0)).toNat : Int) = d (l.getD m 0) := by omega
  obtain ⟨r, hr, _⟩ := lowB_split B d l (v := (d (l.getD m 0)).toNat + 1) (by omega)
  have hf := filter_at (fun x => decide (d x = d (l.getD m 0))) l m h (by simp)
  have hlt := (List.getElem?_eq_some_iff.1 hf).1
  rw [hr, lowB_succ, e0, List.append_assoc, posB]
  unfold less same
  rw [List.getElem?_append_right (by omega), Nat.add_sub_cancel_left, List.getElem?_append_left hlt]
  exact hf
theorem bucket_perm {B : Nat} {d : Int → Int} {l : List Int} (hd : ∀ x, x ∈ l → 0 ≤ d x ∧ d x < B) (hn : l.Nodup) : (bucket B d l).Nodup ∧ ∀ x, x ∈ bucket B d l ↔ x ∈ l := by
  refine ⟨?_, fun x => ?_⟩
  · unfold bucket
    refine List.pairwise_flatMap.2 ⟨fun v _ => hn.filter _, ?_⟩
    refine List.Pairwise.imp (R := fun a b => a ≠ b) (fun {a b} hab => ?_) List.nodup_range
    intro x hx y hy
    simp only [List.mem_filter, decide_eq_true_eq] at hx hy
    intro e; subst e
    omega
  · rw [bucket_low, lowB_mem]
    exact ⟨fun h => h.1, fun h => ⟨h, (hd x h).1, (hd x h).2⟩⟩
def posL (d : Int → Int) (l : List Int) (m : Nat) : List Int := (List.range m).map fun (j : Nat) => (posB d l j : Int)
theorem posL_succ (d : Int → Int) (l : List Int) (m : Nat) : posL d l (m + 1) = posL d l m ++ [(posB d l m : Int)] := by
  unfold posL; rw [List.range_succ, List.map_append]; rfl
theorem filled {B : Nat} {d : Int → Int} {l : List Int} (hd : ∀ x, x ∈ l → 0 ≤ d x ∧ d x < B) (hn : l.Nodup) :
    fillL l.length (posL d l l.length) (fun j => (bucket B d l).getD j 0) = bucket B d l := by
  obtain ⟨b1, b2⟩ := bucket_perm hd hn
  have hlen : (bucket B d l).length = l.length := ((List.perm_ext_iff_of_nodup b1 hn).2 b2).length_eq
  rw [fillL_all]
  · apply List.ext_getElem?
    intro j
    rw [List.getElem?_map]
    by_cases h : j < l.length
    · rw [List.getElem?_range h, Option.map_some, List.getD_eq_getElem?_getD, List.getElem?_eq_getElem (by omega)]; rfl
    · rw [List.getElem?_eq_none (by simp; omega), List.getElem?_eq_none (by omega)]; rfl
  · intro j hj
    have hx : (bucket B d l)[j]'(by omega) ∈ l := (b2 _).1 (List.getElem_mem _)
    obtain ⟨m, hm, e⟩ := List.getElem_of_mem hx
    have hg : l.getD m 0 = (bucket B d l)[j]'(by omega) := by rw [List.getD_eq_getElem?_getD, List.getElem?_eq_getElem hm]; exact e
    have hp := posB_at (B := B) (d := d) hm (hd _ (getD_mem l m 0 hm))
    obtain ⟨hlt, hq⟩ := List.getElem?_eq_some_iff.1 hp
    have : posB d l m = j := by
      exact nodup_inj b1 hlt (by omega) (by rw [hq, hg])
    unfold posL
    refine List.mem_map.2 ⟨m, List.mem_range.2 hm, by rw [this]⟩
end Go.Pl
end
