/-
  How work and crews begin; how many tasks there will be.
-/
import Derived.Test.YtbehekmnccoifaaB1
import Derived.Test.YtbehekmnccoifaaP3
set_option linter.unusedSimpArgs false
set_option linter.unusedVariables false
set_option maxRecDepth 100000
namespace Go.Proofs.Ytbehekmnccoifaa
open Go.Am Go.Proofs
theorem bt118 : tBuilt Try.prog 118 = true := by kernel_rfl
theorem bt88 : tBuilt Try.prog 88 = true := by kernel_rfl
theorem bt91 : tBuilt Try.prog 91 = true := by kernel_rfl
theorem by3 : tBytes Try.prog 3 = some 8 := by kernel_rfl
theorem by33 : tBytes Try.prog 33 = some 24 := by kernel_rfl
theorem by4 : tBytes Try.prog 4 = some 1 := by kernel_rfl
theorem el23 : tEl Try.prog 23 = some 4 := by kernel_rfl
theorem el33 : tEl Try.prog 33 = some 3 := by kernel_rfl
theorem el86 : tEl Try.prog 86 = some 118 := by kernel_rfl
theorem el89 : tEl Try.prog 89 = some 33 := by kernel_rfl
theorem en82 : enters Try.prog 82 = true := by kernel_rfl
theorem en93 : enters Try.prog 93 = true := by kernel_rfl
theorem en99 : enters Try.prog 99 = true := by kernel_rfl
theorem fl91_1 : tFld Try.prog 91 1 = some (3, 1, false) := by kernel_rfl
theorem pl118_1 : tPlace Try.prog 118 1 = some (1, 1) := by kernel_rfl
theorem pl118_2 : tPlace Try.prog 118 2 = some (2, 1) := by kernel_rfl
theorem pl88_0 : tPlace Try.prog 88 0 = some (0, 1) := by kernel_rfl
theorem pl88_1 : tPlace Try.prog 88 1 = some (1, 1) := by kernel_rfl
theorem pl88_2 : tPlace Try.prog 88 2 = some (2, 1) := by kernel_rfl
theorem pl91_0 : tPlace Try.prog 91 0 = some (0, 3) := by kernel_rfl
theorem pl91_1 : tPlace Try.prog 91 1 = some (3, 1) := by kernel_rfl
theorem sz33 : tSz Try.prog 33 = some (false, 1) := by kernel_rfl
theorem sz88 : tSz Try.prog 88 = some (true, 3) := by kernel_rfl
theorem sz89 : tSz Try.prog 89 = some (false, 1) := by kernel_rfl
theorem sz91 : tSz Try.prog 91 = some (true, 7) := by kernel_rfl
theorem vr118 : tVar Try.prog 118 = some (true, [.lit (.int .i64 0), .lit (.int .i64 0), .lit (.int .i64 0), .lit (.int .i64 0)]) := by kernel_rfl
theorem vr3 : tVar Try.prog 3 = some (false, [.lit (.int .i64 0)]) := by kernel_rfl
theorem vr33 : tVar Try.prog 33 = some (false, [.seq true []]) := by kernel_rfl
theorem vr4 : tVar Try.prog 4 = some (false, [.lit (.bool false)]) := by kernel_rfl
theorem vr88 : tVar Try.prog 88 = some (true, [.seq true [], .lit (.int .i64 0), .seq true []]) := by kernel_rfl
theorem vr91 : tVar Try.prog 91 = some (true, [.seq true [], .lit (.int .i64 0), .seq true [], .seq true [], .lit (.bool false), .lit (.int .i64 0), .lit (.int .i64 0)]) := by kernel_rfl
def LvS (g : Int) (q : List Int) (x : PV) : Prop := ∀ n, q = [n] → x = iV (Pl.cntL n g)
theorem lvS_put {g n : Int} {m : List Int → Option PV} {x : PV} (hm : ∀ q y, m q = some y → LvS g q y) (h : x = iV (Pl.cntL n g)) : ∀ q y, setM m [n] x q = some y → LvS g q y := by
  intro q y hy
  unfold setM at hy
  split at hy
  · rename_i e; simp only [Option.some.injEq] at hy; subst hy e
    intro n' e; simp only [List.cons.injEq, and_true] at e; subst e; exact h
  · exact hm q y hy
theorem lvS_get {g n : Int} {m : List Int → Option PV} {d : PV} (hm : ∀ q y, m q = some y → LvS g q y) (h : (m [n]).isSome = true) : (m [n]).getD d = iV (Pl.cntL n g) := by
  obtain ⟨x, hx⟩ := Option.isSome_iff_exists.1 h
  rw [hx]; exact hm _ _ hx n rfl
set_option maxHeartbeats 4000000 in
theorem c55 (n g : Int) : PCall Try.prog 99 [iV n, iV g] (bV (decide (Pl.cnt n g))) := by
  refine pcall_of_awp Try.func99 rfl (by simp [Try.ntmps99]) fun C hC => ?_
  refine awp_sr [] (by rw [hC]; rfl) fun k hk => ?_
  simp (maxSteps := 4000000) (disch := first | omega | (simp only [lens]; omega)) only [argSl, sm, ↓amb, mark_eq, ↓reduceIte, reduceCtorEq, Int.reduceBEq, Int.reduceBNe, Int.reduceToNat, Nat.reduceEqDiff, Nat.reduceAdd, Nat.reduceSub, Nat.reduceMul, Nat.reduceDiv, Nat.reduceMod, Nat.reduceLeDiff, Nat.reduceBEq, dx]
  (repeat (refine ⟨by first | omega | (simp; done) | assumption | (unfold maxLen; omega) | (simp [maxLen]; omega), ?_⟩)); refine hk _ ?_; clear hk; clear k
  refine awp_test [] 4 (decide (Pl.cnt n g)) [] (by rw [hC]; rfl) (fun gd hgd k hk => ?_) ?_
  · have g2 : gd 2 = some 7 := by rw [hgd]; rfl
    have g6 : gd 6 = some 11 := by rw [hgd]; rfl
    have g10 : gd 10 = some 15 := by rw [hgd]; rfl
    clear hgd
    simp (maxSteps := 4000000) (disch := first | omega | (simp only [lens]; omega)) only [argSl, sm, ↓amb, mark_eq, ↓reduceIte, reduceCtorEq, Int.reduceBEq, Int.reduceBNe, Int.reduceToNat, Nat.reduceEqDiff, Nat.reduceAdd, Nat.reduceSub, Nat.reduceMul, Nat.reduceDiv, Nat.reduceMod, Nat.reduceLeDiff, Nat.reduceBEq, gcase_undef, g2, g6, g10, dx]
    repeat' first | refine hk _ _ rfl rfl rfl rfl ?_ | (refine gsplit (fun hg => ?_) (fun hg => ?_) <;> (try simp only [hbx] at hg) <;> simp (maxSteps := 4000000) (disch := first | omega | (simp only [lens]; omega)) only [argSl, sm, ↓amb, mark_eq, ↓reduceIte, reduceCtorEq, Int.reduceBEq, Int.reduceBNe, Int.reduceToNat, Nat.reduceEqDiff, Nat.reduceAdd, Nat.reduceSub, Nat.reduceMul, Nat.reduceDiv, Nat.reduceMod, Nat.reduceLeDiff, Nat.reduceBEq, gcase_undef, g2, g6, g10, dx]) | apply And.intro | fail
    all_goals first | rfl | omega | exact (decide_eq_true (by (try simp only [Pl.cnt] at *); omega)).symm | exact (decide_eq_false (by (try simp only [Pl.cnt] at *); omega)).symm | exact decide_eq_decide.mpr (by (try simp only [Pl.cnt] at *); omega) | (refine Bool.eq_iff_iff.mpr ?_; (try simp only [Pl.cnt] at *); simp only [beq_iff_eq, bne_iff_ne, ne_eq, decide_eq_true_eq]; omega) | (refine Bool.eq_iff_iff.mpr ?_; simp only [Bool.not_eq_true', Bool.not_eq_false', decide_eq_false_iff_not, decide_eq_true_eq, beq_iff_eq, bne_iff_ne, ne_eq]; (try simp only [Pl.cnt] at *); omega) | assumption | (simp; done) | (simp [maxLen]; omega) | skip
  simp only [kp, argSl, Nat.reduceEqDiff, ↓reduceIte, reduceCtorEq, Nat.reduceAdd, List.length_cons, List.length_nil]
  refine awp_ret ?_
  refine ret1 rfl rfl ?_
  exact .p (LeP.refl _)
set_option maxHeartbeats 4000000 in
theorem c32 (n g : Int) (hn : n ≤ 4000000000) : PCall Try.prog 93 [iV n, iV g] (.tup [workV false false (Pl.beginW n g), iV (Pl.beginE n g)]) := by
  refine pcall_of_awp Try.func93 rfl (by simp [Try.ntmps93]) fun C hC => ?_
  refine awp_sr [16] (by rw [hC]; rfl) fun k hk => ?_
  simp (maxSteps := 4000000) (disch := first | omega | (simp only [lens]; omega)) only [argSl, sm, ↓amb, mark_eq, ↓reduceIte, reduceCtorEq, Int.reduceBEq, Int.reduceBNe, Int.reduceToNat, Nat.reduceEqDiff, Nat.reduceAdd, Nat.reduceSub, Nat.reduceMul, Nat.reduceDiv, Nat.reduceMod, Nat.reduceLeDiff, Nat.reduceBEq, vr88, dx]
  (repeat (refine ⟨by first | omega | (simp; done) | assumption | (unfold maxLen; omega) | (simp [maxLen]; omega), ?_⟩)); refine hk _ ?_; clear hk; clear k
  refine awp_seq fun k1 h1 => ?_
  refine awp_sr [16] (by rw [hC]; rfl) fun k hk => ?_
  simp (maxSteps := 4000000) (disch := first | omega | (simp only [lens]; omega)) only [argSl, sm, ↓amb, mark_eq, ↓reduceIte, reduceCtorEq, Int.reduceBEq, Int.reduceBNe, Int.reduceToNat, Nat.reduceEqDiff, Nat.reduceAdd, Nat.reduceSub, Nat.reduceMul, Nat.reduceDiv, Nat.reduceMod, Nat.reduceLeDiff, Nat.reduceBEq, en99, dx]
  (repeat (refine ⟨by first | omega | (simp; done) | assumption | (unfold maxLen; omega) | (simp [maxLen]; omega), ?_⟩))
  refine callK_p (c55 _ _) rfl ?_
  simp (maxSteps := 4000000) (disch := first | omega | (simp only [lens]; omega)) only [argSl, sm, ↓amb, mark_eq, ↓reduceIte, reduceCtorEq, Int.reduceBEq, Int.reduceBNe, Int.reduceToNat, Nat.reduceEqDiff, Nat.reduceAdd, Nat.reduceSub, Nat.reduceMul, Nat.reduceDiv, Nat.reduceMod, Nat.reduceLeDiff, Nat.reduceBEq, en99, dx]
  (repeat (refine ⟨by first | omega | (simp; done) | assumption | (unfold maxLen; omega) | (simp [maxLen]; omega), ?_⟩)); refine hk _ ?_; clear hk; clear k
  refine awp_cond rfl (fun hb => ?_) (fun hb => ?_)
  · -- branch 1
    try simp only [hbx] at hb
    refine awp_sr [16] (by rw [hC]; rfl) fun k hk => ?_
    simp (maxSteps := 4000000) (disch := first | omega | (simp only [lens]; omega)) only [argSl, sm, ↓amb, mark_eq, ↓reduceIte, reduceCtorEq, Int.reduceBEq, Int.reduceBNe, Int.reduceToNat, Nat.reduceEqDiff, Nat.reduceAdd, Nat.reduceSub, Nat.reduceMul, Nat.reduceDiv, Nat.reduceMod, Nat.reduceLeDiff, Nat.reduceBEq, vr88, bt88, sz88, dx]
    (repeat (refine ⟨by first | omega | (simp; done) | assumption | (unfold maxLen; omega) | (simp [maxLen]; omega), ?_⟩)); refine hk _ ?_; clear hk; clear k
    refine awp_ret ?_
    have e1 : Pl.beginW n g = ⟨[], 0, []⟩ := by rw [Pl.beginW, if_neg hb]
    have e2 : Pl.beginE n g = 1 := by rw [Pl.beginE, if_neg hb]
    rw [e1, e2]
    refine retl rfl rfl ⟨retc rfl sz88 ?_, rett rfl ?_, trivial⟩
    simp (maxSteps := 4000000) (disch := first | omega | (simp only [lens]; omega)) only [argSl, sm, ↓amb, mark_eq, ↓reduceIte, reduceCtorEq, Int.reduceBEq, Int.reduceBNe, Int.reduceToNat, Nat.reduceEqDiff, Nat.reduceAdd, Nat.reduceSub, Nat.reduceMul, Nat.reduceDiv, Nat.reduceMod, Nat.reduceLeDiff, Nat.reduceBEq, sz88, dx]
    · exact .p (LeP.agg (.cons (LeP.seq _ _) (.cons (LeP.refl _) (.cons (LeP.seq _ _) .nil))))
    · exact .p (LeP.refl _)
  · -- branch 2
    try simp only [hbx] at hb
    refine awp_skip ?_
    refine h1 _ ?_; clear h1; clear k1
    have hb1 := hb
    simp only [Pl.cnt] at hb1
    refine awp_sr [16] (by rw [hC]; rfl) fun k hk => ?_
    simp (maxSteps := 4000000) (disch := first | omega | (simp only [lens]; omega)) only [argSl, sm, ↓amb, mark_eq, ↓reduceIte, reduceCtorEq, Int.reduceBEq, Int.reduceBNe, Int.reduceToNat, Nat.reduceEqDiff, Nat.reduceAdd, Nat.reduceSub, Nat.reduceMul, Nat.reduceDiv, Nat.reduceMod, Nat.reduceLeDiff, Nat.reduceBEq, vr118, bt118, pl118_1, pl118_2, el86, el23, by4, vr4, vr88, bt88, pl88_0, pl88_1, pl88_2, sz88, dx]
    (repeat (refine ⟨by first | omega | (simp; done) | assumption | (unfold maxLen; omega) | (simp [maxLen]; omega), ?_⟩)); refine hk _ ?_; clear hk; clear k
    refine awp_ret ?_
    have e1 : Pl.beginW n g = ⟨[⟨0, n, -1, 0⟩], g, List.replicate n.toNat false⟩ := by rw [Pl.beginW, if_pos hb]
    have e2 : Pl.beginE n g = 0 := by rw [Pl.beginE, if_pos hb]
    rw [e1, e2]
    refine retl rfl rfl ⟨retc rfl sz88 ?_, rett rfl ?_, trivial⟩
    simp (maxSteps := 4000000) (disch := first | omega | (simp only [lens]; omega)) only [argSl, sm, ↓amb, mark_eq, ↓reduceIte, reduceCtorEq, Int.reduceBEq, Int.reduceBNe, Int.reduceToNat, Nat.reduceEqDiff, Nat.reduceAdd, Nat.reduceSub, Nat.reduceMul, Nat.reduceDiv, Nat.reduceMod, Nat.reduceLeDiff, Nat.reduceBEq, sz88, dx]
    · exact .agg_cons (.p (LeP.sq rfl)) (.agg_cons (.p (LeP.refl _)) (.agg_cons (.ownE rfl (by simp)) (.agg_nil)))
    · exact .p (LeP.refl _)
set_option maxHeartbeats 4000000 in
theorem c33 (n g : Int) (hn : n ≤ 4000000000) : PCall Try.prog 82 [iV n, iV g] (.tup [workV false false (Pl.beginW n g), iV (Pl.beginE n g)]) := by
  refine pcall_of_awp Try.func82 rfl (by simp [Try.ntmps82]) fun C hC => ?_
  refine awp_sr [26] (by rw [hC]; rfl) fun k hk => ?_
  simp (maxSteps := 4000000) (disch := first | omega | (simp only [lens]; omega)) only [argSl, sm, ↓amb, mark_eq, ↓reduceIte, reduceCtorEq, Int.reduceBEq, Int.reduceBNe, Int.reduceToNat, Nat.reduceEqDiff, Nat.reduceAdd, Nat.reduceSub, Nat.reduceMul, Nat.reduceDiv, Nat.reduceMod, Nat.reduceLeDiff, Nat.reduceBEq, vr88, dx]
  (repeat (refine ⟨by first | omega | (simp; done) | assumption | (unfold maxLen; omega) | (simp [maxLen]; omega), ?_⟩)); refine hk _ ?_; clear hk; clear k
  refine awp_seq fun k1 h1 => ?_
  refine awp_test [26] 19 (decide (¬ Pl.cnt n g)) [0, 1, 4, 5] (by rw [hC]; rfl) (fun gd hgd k hk => ?_) ?_
  · have g2 : gd 2 = some 8 := by rw [hgd]; rfl
    have g6 : gd 6 = some 12 := by rw [hgd]; rfl
    have g10 : gd 10 = some 16 := by rw [hgd]; rfl
    clear hgd
    simp (maxSteps := 4000000) (disch := first | omega | (simp only [lens]; omega)) only [argSl, sm, ↓amb, mark_eq, ↓reduceIte, reduceCtorEq, Int.reduceBEq, Int.reduceBNe, Int.reduceToNat, Nat.reduceEqDiff, Nat.reduceAdd, Nat.reduceSub, Nat.reduceMul, Nat.reduceDiv, Nat.reduceMod, Nat.reduceLeDiff, Nat.reduceBEq, gcase_undef, g2, g6, g10, dx]
    repeat' first | refine hk _ _ rfl rfl rfl rfl ?_ | (refine gsplit (fun hg => ?_) (fun hg => ?_) <;> (try simp only [hbx] at hg) <;> simp (maxSteps := 4000000) (disch := first | omega | (simp only [lens]; omega)) only [argSl, sm, ↓amb, mark_eq, ↓reduceIte, reduceCtorEq, Int.reduceBEq, Int.reduceBNe, Int.reduceToNat, Nat.reduceEqDiff, Nat.reduceAdd, Nat.reduceSub, Nat.reduceMul, Nat.reduceDiv, Nat.reduceMod, Nat.reduceLeDiff, Nat.reduceBEq, gcase_undef, g2, g6, g10, dx]) | apply And.intro | fail
    all_goals first | rfl | omega | exact (decide_eq_true (by (try simp only [Pl.cnt] at *); omega)).symm | exact (decide_eq_false (by (try simp only [Pl.cnt] at *); omega)).symm | exact decide_eq_decide.mpr (by (try simp only [Pl.cnt] at *); omega) | (refine Bool.eq_iff_iff.mpr ?_; (try simp only [Pl.cnt] at *); simp only [beq_iff_eq, bne_iff_ne, ne_eq, decide_eq_true_eq]; omega) | (refine Bool.eq_iff_iff.mpr ?_; simp only [Bool.not_eq_true', Bool.not_eq_false', decide_eq_false_iff_not, decide_eq_true_eq, beq_iff_eq, bne_iff_ne, ne_eq]; (try simp only [Pl.cnt] at *); omega) | assumption | (simp; done) | (simp [maxLen]; omega) | skip
  simp only [kp, argSl, Nat.reduceEqDiff, ↓reduceIte, reduceCtorEq, Nat.reduceAdd, List.length_cons, List.length_nil]
  refine awp_cond rfl (fun hb => ?_) (fun hb => ?_)
  · -- branch 1
    try simp only [hbx] at hb
    refine awp_sr [26] (by rw [hC]; rfl) fun k hk => ?_
    simp (maxSteps := 4000000) (disch := first | omega | (simp only [lens]; omega)) only [argSl, sm, ↓amb, mark_eq, ↓reduceIte, reduceCtorEq, Int.reduceBEq, Int.reduceBNe, Int.reduceToNat, Nat.reduceEqDiff, Nat.reduceAdd, Nat.reduceSub, Nat.reduceMul, Nat.reduceDiv, Nat.reduceMod, Nat.reduceLeDiff, Nat.reduceBEq, vr88, bt88, sz88, dx]
    (repeat (refine ⟨by first | omega | (simp; done) | assumption | (unfold maxLen; omega) | (simp [maxLen]; omega), ?_⟩)); refine hk _ ?_; clear hk; clear k
    refine awp_ret ?_
    have e1 : Pl.beginW n g = ⟨[], 0, []⟩ := by rw [Pl.beginW, if_neg hb]
    have e2 : Pl.beginE n g = 1 := by rw [Pl.beginE, if_neg hb]
    rw [e1, e2]
    refine retl rfl rfl ⟨retc rfl sz88 ?_, rett rfl ?_, trivial⟩
    simp (maxSteps := 4000000) (disch := first | omega | (simp only [lens]; omega)) only [argSl, sm, ↓amb, mark_eq, ↓reduceIte, reduceCtorEq, Int.reduceBEq, Int.reduceBNe, Int.reduceToNat, Nat.reduceEqDiff, Nat.reduceAdd, Nat.reduceSub, Nat.reduceMul, Nat.reduceDiv, Nat.reduceMod, Nat.reduceLeDiff, Nat.reduceBEq, sz88, dx]
    · exact .p (LeP.agg (.cons (LeP.seq _ _) (.cons (LeP.refl _) (.cons (LeP.seq _ _) .nil))))
    · exact .p (LeP.refl _)
  · -- branch 2
    try simp only [hbx] at hb
    refine awp_skip ?_
    refine h1 _ ?_; clear h1; clear k1
    have hb1 := hb
    simp only [Pl.cnt] at hb1
    refine awp_sr [26] (by rw [hC]; rfl) fun k hk => ?_
    simp (maxSteps := 4000000) (disch := first | omega | (simp only [lens]; omega)) only [argSl, sm, ↓amb, mark_eq, ↓reduceIte, reduceCtorEq, Int.reduceBEq, Int.reduceBNe, Int.reduceToNat, Nat.reduceEqDiff, Nat.reduceAdd, Nat.reduceSub, Nat.reduceMul, Nat.reduceDiv, Nat.reduceMod, Nat.reduceLeDiff, Nat.reduceBEq, vr118, bt118, pl118_1, pl118_2, el86, el23, by4, vr4, vr88, bt88, pl88_0, pl88_1, pl88_2, sz88, dx]
    (repeat (refine ⟨by first | omega | (simp; done) | assumption | (unfold maxLen; omega) | (simp [maxLen]; omega), ?_⟩)); refine hk _ ?_; clear hk; clear k
    refine awp_ret ?_
    have e1 : Pl.beginW n g = ⟨[⟨0, n, -1, 0⟩], g, List.replicate n.toNat false⟩ := by rw [Pl.beginW, if_pos hb]
    have e2 : Pl.beginE n g = 0 := by rw [Pl.beginE, if_pos hb]
    rw [e1, e2]
    refine retl rfl rfl ⟨retc rfl sz88 ?_, rett rfl ?_, trivial⟩
    simp (maxSteps := 4000000) (disch := first | omega | (simp only [lens]; omega)) only [argSl, sm, ↓amb, mark_eq, ↓reduceIte, reduceCtorEq, Int.reduceBEq, Int.reduceBNe, Int.reduceToNat, Nat.reduceEqDiff, Nat.reduceAdd, Nat.reduceSub, Nat.reduceMul, Nat.reduceDiv, Nat.reduceMod, Nat.reduceLeDiff, Nat.reduceBEq, sz88, dx]
    · exact .agg_cons (.p (LeP.sq rfl)) (.agg_cons (.p (LeP.refl _)) (.agg_cons (.ownE rfl (by simp)) (.agg_nil)))
    · exact .p (LeP.refl _)
set_option maxHeartbeats 4000000 in
theorem c42 (n g p : Int) (hn : n ≤ 4000000000) : PCall Try.prog 79 [iV n, iV g, iV p] (.tup [.agg (crewC (Pl.crewBegin n g p).1), iV (Pl.crewBegin n g p).2]) := by
  refine pcall_of_awp Try.func79 rfl (by simp [Try.ntmps79]) fun C hC => ?_
  refine awp_le (le_keep [0, 1, 2]) ?_
  simp only [kp, argSl, Nat.reduceEqDiff, ↓reduceIte, reduceCtorEq, Nat.reduceAdd]
  refine awp_sr [29] (by rw [hC]; rfl) fun k hk => ?_
  simp (maxSteps := 4000000) (disch := first | omega | (simp only [lens]; omega)) only [argSl, sm, ↓amb, mark_eq, ↓reduceIte, reduceCtorEq, Int.reduceBEq, Int.reduceBNe, Int.reduceToNat, Nat.reduceEqDiff, Nat.reduceAdd, Nat.reduceSub, Nat.reduceMul, Nat.reduceDiv, Nat.reduceMod, Nat.reduceLeDiff, Nat.reduceBEq, vr91, taskC, Pl.rep_get0, dx]
  (repeat (refine ⟨by first | omega | (simp; done) | assumption | (unfold maxLen; omega) | (simp [maxLen]; omega), ?_⟩)); refine hk _ ?_; clear hk; clear k
  refine awp_seq fun k1 h1 => ?_
  refine awp_test [29] 16 (decide (p < 1 ∨ 8 < p)) [0, 1, 2, 6, 7] (by rw [hC]; rfl) (fun gd hgd k hk => ?_) ?_
  · have g2 : gd 2 = some 13 := by rw [hgd]; rfl
    clear hgd
    simp (maxSteps := 4000000) (disch := first | omega | (simp only [lens]; omega)) only [argSl, sm, ↓amb, mark_eq, ↓reduceIte, reduceCtorEq, Int.reduceBEq, Int.reduceBNe, Int.reduceToNat, Nat.reduceEqDiff, Nat.reduceAdd, Nat.reduceSub, Nat.reduceMul, Nat.reduceDiv, Nat.reduceMod, Nat.reduceLeDiff, Nat.reduceBEq, gcase_undef, g2, taskC, Pl.rep_get0, dx]
    repeat' first | refine hk _ _ rfl rfl rfl rfl ?_ | (refine gsplit (fun hg => ?_) (fun hg => ?_) <;> (try simp only [hbx] at hg) <;> simp (maxSteps := 4000000) (disch := first | omega | (simp only [lens]; omega)) only [argSl, sm, ↓amb, mark_eq, ↓reduceIte, reduceCtorEq, Int.reduceBEq, Int.reduceBNe, Int.reduceToNat, Nat.reduceEqDiff, Nat.reduceAdd, Nat.reduceSub, Nat.reduceMul, Nat.reduceDiv, Nat.reduceMod, Nat.reduceLeDiff, Nat.reduceBEq, gcase_undef, g2, taskC, Pl.rep_get0, dx]) | apply And.intro | fail
    all_goals first | rfl | omega | exact (decide_eq_true (by omega)).symm | exact (decide_eq_false (by omega)).symm | exact decide_eq_decide.mpr (by omega) | (refine Bool.eq_iff_iff.mpr ?_; simp only [beq_iff_eq, bne_iff_ne, ne_eq, decide_eq_true_eq]; omega) | (refine Bool.eq_iff_iff.mpr ?_; simp only [Bool.not_eq_true', Bool.not_eq_false', decide_eq_false_iff_not, decide_eq_true_eq, beq_iff_eq, bne_iff_ne, ne_eq]; omega) | assumption | (simp; done) | (simp [maxLen]; omega) | skip
  simp only [kp, argSl, Nat.reduceEqDiff, ↓reduceIte, reduceCtorEq, Nat.reduceAdd, List.length_cons, List.length_nil]
  refine awp_cond rfl (fun hb => ?_) (fun hb => ?_)
  · -- branch 1
    try simp only [hbx] at hb
    refine awp_le (le_keep [6]) ?_
    simp only [kp, argSl, Nat.reduceEqDiff, ↓reduceIte, reduceCtorEq, Nat.reduceAdd]
    refine awp_sr [29] (by rw [hC]; rfl) fun k hk => ?_
    simp (maxSteps := 4000000) (disch := first | omega | (simp only [lens]; omega)) only [argSl, sm, ↓amb, mark_eq, ↓reduceIte, reduceCtorEq, Int.reduceBEq, Int.reduceBNe, Int.reduceToNat, Nat.reduceEqDiff, Nat.reduceAdd, Nat.reduceSub, Nat.reduceMul, Nat.reduceDiv, Nat.reduceMod, Nat.reduceLeDiff, Nat.reduceBEq, vr91, bt91, sz91, taskC, Pl.rep_get0, dx]
    (repeat (refine ⟨by first | omega | (simp; done) | assumption | (unfold maxLen; omega) | (simp [maxLen]; omega), ?_⟩)); refine hk _ ?_; clear hk; clear k
    refine awp_ret ?_
    rw [Pl.begin_1 hb]
    refine retl rfl rfl ⟨retc rfl sz91 ?_, rett rfl ?_, trivial⟩
    simp (maxSteps := 4000000) (disch := first | omega | (simp only [lens]; omega)) only [argSl, sm, ↓amb, mark_eq, ↓reduceIte, reduceCtorEq, Int.reduceBEq, Int.reduceBNe, Int.reduceToNat, Nat.reduceEqDiff, Nat.reduceAdd, Nat.reduceSub, Nat.reduceMul, Nat.reduceDiv, Nat.reduceMod, Nat.reduceLeDiff, Nat.reduceBEq, sz91, taskC, Pl.rep_get0, dx]
    · exact .p (LeP.agg (.cons (LeP.seq _ _) (.cons (LeP.refl _) (.cons (LeP.seq _ _) (.cons (LeP.seq _ _) (.cons (LeP.refl _) (.cons (LeP.refl _) (.cons (LeP.refl _) .nil))))))))
    · exact .p (LeP.refl _)
  · -- branch 2
    try simp only [hbx] at hb
    refine awp_skip ?_
    refine h1 _ ?_; clear h1; clear k1
    refine awp_le (le_keep [0, 1, 2, 6]) ?_
    simp only [kp, argSl, Nat.reduceEqDiff, ↓reduceIte, reduceCtorEq, Nat.reduceAdd]
    have hp := hb
    refine awp_sr [29] (by rw [hC]; rfl) fun k hk => ?_
    simp (maxSteps := 4000000) (disch := first | omega | (simp only [lens]; omega)) only [argSl, sm, ↓amb, mark_eq, ↓reduceIte, reduceCtorEq, Int.reduceBEq, Int.reduceBNe, Int.reduceToNat, Nat.reduceEqDiff, Nat.reduceAdd, Nat.reduceSub, Nat.reduceMul, Nat.reduceDiv, Nat.reduceMod, Nat.reduceLeDiff, Nat.reduceBEq, en93, vr88, sz88, taskC, Pl.rep_get0, dx]
    (repeat (refine ⟨by first | omega | (simp; done) | assumption | (unfold maxLen; omega) | (simp [maxLen]; omega), ?_⟩))
    refine callK_p (c32 _ _ (by omega)) rfl ?_
    simp (maxSteps := 4000000) (disch := first | omega | (simp only [lens]; omega)) only [argSl, sm, ↓amb, mark_eq, ↓reduceIte, reduceCtorEq, Int.reduceBEq, Int.reduceBNe, Int.reduceToNat, Nat.reduceEqDiff, Nat.reduceAdd, Nat.reduceSub, Nat.reduceMul, Nat.reduceDiv, Nat.reduceMod, Nat.reduceLeDiff, Nat.reduceBEq, en93, vr88, sz88, taskC, Pl.rep_get0, dx]
    (repeat (refine ⟨by first | omega | (simp; done) | assumption | (unfold maxLen; omega) | (simp [maxLen]; omega), ?_⟩)); refine hk _ ?_; clear hk; clear k
    refine awp_seq fun k2 h2 => ?_
    refine awp_le (le_keep [2, 6, 7, 8, 9]) ?_
    simp only [kp, argSl, Nat.reduceEqDiff, ↓reduceIte, reduceCtorEq, Nat.reduceAdd]
    refine awp_sr [29] (by rw [hC]; rfl) fun k hk => ?_
    simp (maxSteps := 4000000) (disch := first | omega | (simp only [lens]; omega)) only [argSl, sm, ↓amb, mark_eq, ↓reduceIte, reduceCtorEq, Int.reduceBEq, Int.reduceBNe, Int.reduceToNat, Nat.reduceEqDiff, Nat.reduceAdd, Nat.reduceSub, Nat.reduceMul, Nat.reduceDiv, Nat.reduceMod, Nat.reduceLeDiff, Nat.reduceBEq, taskC, Pl.rep_get0, dx]
    (repeat (refine ⟨by first | omega | (simp; done) | assumption | (unfold maxLen; omega) | (simp [maxLen]; omega), ?_⟩)); refine hk _ ?_; clear hk; clear k
    refine awp_cond rfl (fun hb => ?_) (fun hb => ?_)
    · -- branch 3
      try simp only [hbx] at hb
      refine awp_le (le_keep [6, 9]) ?_
      simp only [kp, argSl, Nat.reduceEqDiff, ↓reduceIte, reduceCtorEq, Nat.reduceAdd]
      refine awp_sr [29] (by rw [hC]; rfl) fun k hk => ?_
      simp (maxSteps := 4000000) (disch := first | omega | (simp only [lens]; omega)) only [argSl, sm, ↓amb, mark_eq, ↓reduceIte, reduceCtorEq, Int.reduceBEq, Int.reduceBNe, Int.reduceToNat, Nat.reduceEqDiff, Nat.reduceAdd, Nat.reduceSub, Nat.reduceMul, Nat.reduceDiv, Nat.reduceMod, Nat.reduceLeDiff, Nat.reduceBEq, vr91, bt91, sz91, taskC, Pl.rep_get0, dx]
      (repeat (refine ⟨by first | omega | (simp; done) | assumption | (unfold maxLen; omega) | (simp [maxLen]; omega), ?_⟩)); refine hk _ ?_; clear hk; clear k
      refine awp_ret ?_
      obtain ⟨e1, e2⟩ := Pl.begin_2 hp hb
      rw [e1]
      refine retl rfl rfl ⟨retc rfl sz91 ?_, rett rfl ?_, trivial⟩
      simp (maxSteps := 4000000) (disch := first | omega | (simp only [lens]; omega)) only [argSl, sm, ↓amb, mark_eq, ↓reduceIte, reduceCtorEq, Int.reduceBEq, Int.reduceBNe, Int.reduceToNat, Nat.reduceEqDiff, Nat.reduceAdd, Nat.reduceSub, Nat.reduceMul, Nat.reduceDiv, Nat.reduceMod, Nat.reduceLeDiff, Nat.reduceBEq, sz91, taskC, Pl.rep_get0, dx]
      · exact .p (LeP.agg (.cons (LeP.seq _ _) (.cons (LeP.refl _) (.cons (LeP.seq _ _) (.cons (LeP.seq _ _) (.cons (LeP.refl _) (.cons (LeP.refl _) (.cons (LeP.refl _) .nil))))))))
      · exact .p (LeP.of_eq (by rw [e2]))
    · -- branch 4
      try simp only [hbx] at hb
      refine awp_skip ?_
      refine h2 _ ?_; clear h2; clear k2
      refine awp_le (le_keep [2, 6, 8]) ?_
      simp only [kp, argSl, Nat.reduceEqDiff, ↓reduceIte, reduceCtorEq, Nat.reduceAdd]
      have hbe := hb
      refine awp_sr [29] (by rw [hC]; rfl) fun k hk => ?_
      simp (maxSteps := 4000000) (disch := first | omega | (simp only [lens]; omega)) only [argSl, sm, ↓amb, mark_eq, ↓reduceIte, reduceCtorEq, Int.reduceBEq, Int.reduceBNe, Int.reduceToNat, Nat.reduceEqDiff, Nat.reduceAdd, Nat.reduceSub, Nat.reduceMul, Nat.reduceDiv, Nat.reduceMod, Nat.reduceLeDiff, Nat.reduceBEq, el89, by33, vr33, taskC, Pl.rep_get0, dx]
      (repeat (refine ⟨by first | omega | (simp; done) | assumption | (unfold maxLen; omega) | (simp [maxLen]; omega), ?_⟩)); refine hk _ ?_; clear hk; clear k
      refine awp_le (le_keep [6, 8, 10]) ?_
      simp only [kp, argSl, Nat.reduceEqDiff, ↓reduceIte, reduceCtorEq, Nat.reduceAdd]
      refine awp_sr [29] (by rw [hC]; rfl) fun k hk => ?_
      simp (maxSteps := 4000000) (disch := first | omega | (simp only [lens]; omega)) only [argSl, sm, ↓amb, mark_eq, ↓reduceIte, reduceCtorEq, Int.reduceBEq, Int.reduceBNe, Int.reduceToNat, Nat.reduceEqDiff, Nat.reduceAdd, Nat.reduceSub, Nat.reduceMul, Nat.reduceDiv, Nat.reduceMod, Nat.reduceLeDiff, Nat.reduceBEq, el89, sz33, el33, vr3, by3, taskC, Pl.rep_get0, dx]
      (repeat (refine ⟨by first | omega | (simp; done) | assumption | (unfold maxLen; omega) | (simp [maxLen]; omega), ?_⟩)); refine hk _ ?_; clear hk; clear k
      refine awp_le (le_keep [6, 8, 10]) ?_
      simp only [kp, argSl, Nat.reduceEqDiff, ↓reduceIte, reduceCtorEq, Nat.reduceAdd]
      refine awp_le (show LE _ (⟨[(6, (.ptr 0 7 0 0)), (8, (.ptr 1 3 0 0)), (10, (.own 2))], [(0, (.row 7 [[.p (.seq true []), .p (iV 0), .p (.seq true []), .p (.seq true []), .p (bV false), .p (iV 0), .p (iV 0)]])), (1, (.row 3 [[.p (.seq false ((Pl.beginW n g).ts.map taskC)), .p (iV (Pl.beginW n g).grain), .p (.seq false ((Pl.beginW n g).done.map fun b => [bV b]))]])), (2, (.row 1 (lift ((Pl.dq0 p).map lV))))], 1⟩ : LS) from le_of [(0, _), (1, _), (2, _)] (by rfl) (by rfl) ⟨⟨_, rfl, .ptr rfl⟩, ⟨_, rfl, .ptr rfl⟩, ⟨_, rfl, .own rfl⟩, trivial⟩ ⟨⟨_, rfl, _, rfl, .one (.cons (.p (.refl _)) (.cons (.p (.refl _)) (.cons (.p (.refl _)) (.cons (.p (.refl _)) (.cons (.p (.refl _)) (.cons (.p (.refl _)) (.cons (.p (.refl _)) (.nil))))))))⟩, ⟨_, rfl, _, rfl, .one (.cons (.p (.refl _)) (.cons (.p (.refl _)) (.cons (.p (.refl _)) .nil)))⟩, ⟨_, rfl, _, rfl, Pl.leB_dq0 (by omega)⟩, trivial⟩) ?_
      refine awp_sr [29] (by rw [hC]; rfl) fun k hk => ?_
      simp (maxSteps := 4000000) (disch := first | omega | (simp only [lens]; omega)) only [argSl, sm, ↓amb, mark_eq, ↓reduceIte, reduceCtorEq, Int.reduceBEq, Int.reduceBNe, Int.reduceToNat, Nat.reduceEqDiff, Nat.reduceAdd, Nat.reduceSub, Nat.reduceMul, Nat.reduceDiv, Nat.reduceMod, Nat.reduceLeDiff, Nat.reduceBEq, sz88, vr91, bt91, pl91_0, pl91_1, sz91, taskC, Pl.rep_get0, dx]
      (repeat (refine ⟨by first | omega | (simp; done) | assumption | (unfold maxLen; omega) | (simp [maxLen]; omega), ?_⟩)); refine hk _ ?_; clear hk; clear k
      refine awp_ret ?_
      rw [Pl.begin_3 hp hbe]
      refine retl rfl rfl ⟨retc rfl sz91 ?_, rett rfl ?_, trivial⟩
      simp (maxSteps := 4000000) (disch := first | omega | (simp only [lens]; omega)) only [argSl, sm, ↓amb, mark_eq, ↓reduceIte, reduceCtorEq, Int.reduceBEq, Int.reduceBNe, Int.reduceToNat, Nat.reduceEqDiff, Nat.reduceAdd, Nat.reduceSub, Nat.reduceMul, Nat.reduceDiv, Nat.reduceMod, Nat.reduceLeDiff, Nat.reduceBEq, sz91, taskC, Pl.rep_get0, dx]
      · exact .agg_cons (.p (LeP.refl _)) (.agg_cons (.p (LeP.refl _)) (.agg_cons (.p (LeP.refl _)) (.agg_cons (.ownE rfl rfl) (.agg_cons (.p (LeP.refl _)) (.agg_cons (.p (LeP.refl _)) (.agg_cons (.p (LeP.refl _)) (.agg_nil)))))))
      · exact .p (LeP.refl _)
set_option maxHeartbeats 4000000 in
theorem c_ref05_Begin (n g w : Int) (hn : n ≤ 4000000000) : PCall Try.prog 71 [iV n, iV g, iV w] (.tup [.agg (crewC (Pl.crewBegin n g w).1), iV (Pl.crewBegin n g w).2]) := by
  refine pcall_of_awp Try.func71 rfl (by simp [Try.ntmps71]) fun C hC => ?_
  refine awp_le (le_keep [0, 1, 2]) ?_
  simp only [kp, argSl, Nat.reduceEqDiff, ↓reduceIte, reduceCtorEq, Nat.reduceAdd]
  refine awp_sr [30] (by rw [hC]; rfl) fun k hk => ?_
  simp (maxSteps := 4000000) (disch := first | omega | (simp only [lens]; omega)) only [argSl, sm, ↓amb, mark_eq, ↓reduceIte, reduceCtorEq, Int.reduceBEq, Int.reduceBNe, Int.reduceToNat, Nat.reduceEqDiff, Nat.reduceAdd, Nat.reduceSub, Nat.reduceMul, Nat.reduceDiv, Nat.reduceMod, Nat.reduceLeDiff, Nat.reduceBEq, vr91, Pl.rep_get0, dx]
  (repeat (refine ⟨by first | omega | (simp; done) | assumption | (unfold maxLen; omega) | (simp [maxLen]; omega), ?_⟩)); refine hk _ ?_; clear hk; clear k
  refine awp_seq fun k1 h1 => ?_
  refine awp_test [30] 16 (decide (w < 1 ∨ 8 < w)) [0, 1, 2, 6, 7] (by rw [hC]; rfl) (fun gd hgd k hk => ?_) ?_
  · have g2 : gd 2 = some 13 := by rw [hgd]; rfl
    clear hgd
    simp (maxSteps := 4000000) (disch := first | omega | (simp only [lens]; omega)) only [argSl, sm, ↓amb, mark_eq, ↓reduceIte, reduceCtorEq, Int.reduceBEq, Int.reduceBNe, Int.reduceToNat, Nat.reduceEqDiff, Nat.reduceAdd, Nat.reduceSub, Nat.reduceMul, Nat.reduceDiv, Nat.reduceMod, Nat.reduceLeDiff, Nat.reduceBEq, gcase_undef, g2, Pl.rep_get0, dx]
    repeat' first | refine hk _ _ rfl rfl rfl rfl ?_ | (refine gsplit (fun hg => ?_) (fun hg => ?_) <;> (try simp only [hbx] at hg) <;> simp (maxSteps := 4000000) (disch := first | omega | (simp only [lens]; omega)) only [argSl, sm, ↓amb, mark_eq, ↓reduceIte, reduceCtorEq, Int.reduceBEq, Int.reduceBNe, Int.reduceToNat, Nat.reduceEqDiff, Nat.reduceAdd, Nat.reduceSub, Nat.reduceMul, Nat.reduceDiv, Nat.reduceMod, Nat.reduceLeDiff, Nat.reduceBEq, gcase_undef, g2, Pl.rep_get0, dx]) | apply And.intro | fail
    all_goals first | rfl | omega | exact (decide_eq_true (by omega)).symm | exact (decide_eq_false (by omega)).symm | exact decide_eq_decide.mpr (by omega) | (refine Bool.eq_iff_iff.mpr ?_; simp only [beq_iff_eq, bne_iff_ne, ne_eq, decide_eq_true_eq]; omega) | (refine Bool.eq_iff_iff.mpr ?_; simp only [Bool.not_eq_true', Bool.not_eq_false', decide_eq_false_iff_not, decide_eq_true_eq, beq_iff_eq, bne_iff_ne, ne_eq]; omega) | assumption | (simp; done) | (simp [maxLen]; omega) | skip
  simp only [kp, argSl, Nat.reduceEqDiff, ↓reduceIte, reduceCtorEq, Nat.reduceAdd, List.length_cons, List.length_nil]
  refine awp_cond rfl (fun hb => ?_) (fun hb => ?_)
  · -- branch 1
    try simp only [hbx] at hb
    refine awp_le (le_keep [6]) ?_
    simp only [kp, argSl, Nat.reduceEqDiff, ↓reduceIte, reduceCtorEq, Nat.reduceAdd]
    refine awp_sr [30] (by rw [hC]; rfl) fun k hk => ?_
    simp (maxSteps := 4000000) (disch := first | omega | (simp only [lens]; omega)) only [argSl, sm, ↓amb, mark_eq, ↓reduceIte, reduceCtorEq, Int.reduceBEq, Int.reduceBNe, Int.reduceToNat, Nat.reduceEqDiff, Nat.reduceAdd, Nat.reduceSub, Nat.reduceMul, Nat.reduceDiv, Nat.reduceMod, Nat.reduceLeDiff, Nat.reduceBEq, vr91, bt91, sz91, Pl.rep_get0, dx]
    (repeat (refine ⟨by first | omega | (simp; done) | assumption | (unfold maxLen; omega) | (simp [maxLen]; omega), ?_⟩)); refine hk _ ?_; clear hk; clear k
    refine awp_ret ?_
    rw [Pl.begin_1 hb]
    refine retl rfl rfl ⟨retc rfl sz91 ?_, rett rfl ?_, trivial⟩
    simp (maxSteps := 4000000) (disch := first | omega | (simp only [lens]; omega)) only [argSl, sm, ↓amb, mark_eq, ↓reduceIte, reduceCtorEq, Int.reduceBEq, Int.reduceBNe, Int.reduceToNat, Nat.reduceEqDiff, Nat.reduceAdd, Nat.reduceSub, Nat.reduceMul, Nat.reduceDiv, Nat.reduceMod, Nat.reduceLeDiff, Nat.reduceBEq, sz91, Pl.rep_get0, dx]
    · exact .p (LeP.agg (.cons (LeP.seq _ _) (.cons (LeP.refl _) (.cons (LeP.seq _ _) (.cons (LeP.seq _ _) (.cons (LeP.refl _) (.cons (LeP.refl _) (.cons (LeP.refl _) .nil))))))))
    · exact .p (LeP.refl _)
  · -- branch 2
    try simp only [hbx] at hb
    refine awp_skip ?_
    refine h1 _ ?_; clear h1; clear k1
    refine awp_le (le_keep [0, 1, 2, 6]) ?_
    simp only [kp, argSl, Nat.reduceEqDiff, ↓reduceIte, reduceCtorEq, Nat.reduceAdd]
    have hp := hb
    refine awp_sr [30] (by rw [hC]; rfl) fun k hk => ?_
    simp (maxSteps := 4000000) (disch := first | omega | (simp only [lens]; omega)) only [argSl, sm, ↓amb, mark_eq, ↓reduceIte, reduceCtorEq, Int.reduceBEq, Int.reduceBNe, Int.reduceToNat, Nat.reduceEqDiff, Nat.reduceAdd, Nat.reduceSub, Nat.reduceMul, Nat.reduceDiv, Nat.reduceMod, Nat.reduceLeDiff, Nat.reduceBEq, en82, vr88, sz88, Pl.rep_get0, dx]
    (repeat (refine ⟨by first | omega | (simp; done) | assumption | (unfold maxLen; omega) | (simp [maxLen]; omega), ?_⟩))
    refine callK_p (c33 _ _ (by omega)) rfl ?_
    simp (maxSteps := 4000000) (disch := first | omega | (simp only [lens]; omega)) only [argSl, sm, ↓amb, mark_eq, ↓reduceIte, reduceCtorEq, Int.reduceBEq, Int.reduceBNe, Int.reduceToNat, Nat.reduceEqDiff, Nat.reduceAdd, Nat.reduceSub, Nat.reduceMul, Nat.reduceDiv, Nat.reduceMod, Nat.reduceLeDiff, Nat.reduceBEq, en82, vr88, sz88, Pl.rep_get0, dx]
    (repeat (refine ⟨by first | omega | (simp; done) | assumption | (unfold maxLen; omega) | (simp [maxLen]; omega), ?_⟩)); refine hk _ ?_; clear hk; clear k
    refine awp_seq fun k2 h2 => ?_
    refine awp_le (le_keep [2, 6, 7, 8, 9]) ?_
    simp only [kp, argSl, Nat.reduceEqDiff, ↓reduceIte, reduceCtorEq, Nat.reduceAdd]
    refine awp_sr [30] (by rw [hC]; rfl) fun k hk => ?_
    simp (maxSteps := 4000000) (disch := first | omega | (simp only [lens]; omega)) only [argSl, sm, ↓amb, mark_eq, ↓reduceIte, reduceCtorEq, Int.reduceBEq, Int.reduceBNe, Int.reduceToNat, Nat.reduceEqDiff, Nat.reduceAdd, Nat.reduceSub, Nat.reduceMul, Nat.reduceDiv, Nat.reduceMod, Nat.reduceLeDiff, Nat.reduceBEq, Pl.rep_get0, dx]
    (repeat (refine ⟨by first | omega | (simp; done) | assumption | (unfold maxLen; omega) | (simp [maxLen]; omega), ?_⟩)); refine hk _ ?_; clear hk; clear k
    refine awp_cond rfl (fun hb => ?_) (fun hb => ?_)
    · -- branch 3
      try simp only [hbx] at hb
      refine awp_le (le_keep [6, 9]) ?_
      simp only [kp, argSl, Nat.reduceEqDiff, ↓reduceIte, reduceCtorEq, Nat.reduceAdd]
      refine awp_sr [30] (by rw [hC]; rfl) fun k hk => ?_
      simp (maxSteps := 4000000) (disch := first | omega | (simp only [lens]; omega)) only [argSl, sm, ↓amb, mark_eq, ↓reduceIte, reduceCtorEq, Int.reduceBEq, Int.reduceBNe, Int.reduceToNat, Nat.reduceEqDiff, Nat.reduceAdd, Nat.reduceSub, Nat.reduceMul, Nat.reduceDiv, Nat.reduceMod, Nat.reduceLeDiff, Nat.reduceBEq, vr91, bt91, sz91, Pl.rep_get0, dx]
      (repeat (refine ⟨by first | omega | (simp; done) | assumption | (unfold maxLen; omega) | (simp [maxLen]; omega), ?_⟩)); refine hk _ ?_; clear hk; clear k
      refine awp_ret ?_
      obtain ⟨e1, e2⟩ := Pl.begin_2 hp hb
      rw [e1]
      refine retl rfl rfl ⟨retc rfl sz91 ?_, rett rfl ?_, trivial⟩
      simp (maxSteps := 4000000) (disch := first | omega | (simp only [lens]; omega)) only [argSl, sm, ↓amb, mark_eq, ↓reduceIte, reduceCtorEq, Int.reduceBEq, Int.reduceBNe, Int.reduceToNat, Nat.reduceEqDiff, Nat.reduceAdd, Nat.reduceSub, Nat.reduceMul, Nat.reduceDiv, Nat.reduceMod, Nat.reduceLeDiff, Nat.reduceBEq, sz91, Pl.rep_get0, dx]
      · exact .p (LeP.agg (.cons (LeP.seq _ _) (.cons (LeP.refl _) (.cons (LeP.seq _ _) (.cons (LeP.seq _ _) (.cons (LeP.refl _) (.cons (LeP.refl _) (.cons (LeP.refl _) .nil))))))))
      · exact .p (LeP.of_eq (by rw [e2]))
    · -- branch 4
      try simp only [hbx] at hb
      refine awp_skip ?_
      refine h2 _ ?_; clear h2; clear k2
      refine awp_le (le_keep [2, 6, 8]) ?_
      simp only [kp, argSl, Nat.reduceEqDiff, ↓reduceIte, reduceCtorEq, Nat.reduceAdd]
      have hbe := hb
      refine awp_sd [30] ⟨[0, 0, 2, 7, 0, 31], [0], [5], [(2, 5), (4, 5)], none⟩ (by rw [hC]; rfl) (by kernel_rfl) (by kernel_rfl) fun k hk => ?_
      simp (maxSteps := 4000000) (disch := first | omega | (simp only [lens]; omega)) only [argSl, sm, ↓amb, mark_eq, ↓reduceIte, reduceCtorEq, Int.reduceBEq, Int.reduceBNe, Int.reduceToNat, Nat.reduceEqDiff, Nat.reduceAdd, Nat.reduceSub, Nat.reduceMul, Nat.reduceDiv, Nat.reduceMod, Nat.reduceLeDiff, Nat.reduceBEq, sz88, el89, by33, vr33, vr91, bt91, pl91_0, pl91_1, sz91, Pl.rep_get0, dx]
      (repeat (refine ⟨by first | omega | (simp; done) | assumption | (unfold maxLen; omega) | (simp [maxLen]; omega), ?_⟩)); refine hk _ ?_; clear hk; clear k
      refine awp_le (le_keep [6, 10]) ?_
      simp only [kp, argSl, Nat.reduceEqDiff, ↓reduceIte, reduceCtorEq, Nat.reduceAdd]
      refine awp_sr [30] (by rw [hC]; rfl) fun k hk => ?_
      simp (maxSteps := 4000000) (disch := first | omega | (simp only [lens]; omega)) only [argSl, sm, ↓amb, mark_eq, ↓reduceIte, reduceCtorEq, Int.reduceBEq, Int.reduceBNe, Int.reduceToNat, Nat.reduceEqDiff, Nat.reduceAdd, Nat.reduceSub, Nat.reduceMul, Nat.reduceDiv, Nat.reduceMod, Nat.reduceLeDiff, Nat.reduceBEq, fl91_1, sz89, el33, vr3, el89, sz33, Pl.rep_get0, dx]
      (repeat (refine ⟨by first | omega | (simp; done) | assumption | (unfold maxLen; omega) | (simp [maxLen]; omega), ?_⟩)); refine hk _ ?_; clear hk; clear k
      refine awp_le (le_keep [6, 10]) ?_
      simp only [kp, argSl, Nat.reduceEqDiff, ↓reduceIte, reduceCtorEq, Nat.reduceAdd]
      refine awp_le (show LE _ (⟨[(6, (.ptr 0 7 0 0)), (10, (.ptr 1 7 0 0))], [(0, (.row 7 [[.p (.seq true []), .p (iV 0), .p (.seq true []), .p (.seq true []), .p (bV false), .p (iV 0), .p (iV 0)]])), (1, (.row 7 [[.p (.seq false ((Pl.beginW n g).ts.map taskC)), .p (iV (Pl.beginW n g).grain), .p (.seq false ((Pl.beginW n g).done.map fun b => [bV b])), .own 2, .p (bV false), .p (iV 0), .p (iV 0)]])), (2, (.row 1 (lift ((Pl.dq0 w).map lV))))], 1⟩ : LS) from le_of [(0, _), (1, _), (2, _)] (by rfl) (by rfl) ⟨⟨_, rfl, .ptr rfl⟩, ⟨_, rfl, .ptr rfl⟩, trivial⟩ ⟨⟨_, rfl, _, rfl, .one (.cons (.p (.refl _)) (.cons (.p (.refl _)) (.cons (.p (.refl _)) (.cons (.p (.refl _)) (.cons (.p (.refl _)) (.cons (.p (.refl _)) (.cons (.p (.refl _)) (.nil))))))))⟩, ⟨_, rfl, _, rfl, .one (.cons (.p (.refl _)) (.cons (.p (.refl _)) (.cons (.p (.refl _)) (.cons (.own rfl) (.cons (.p (.refl _)) (.cons (.p (.refl _)) (.cons (.p (.refl _)) (.nil))))))))⟩, ⟨_, rfl, _, rfl, Pl.leB_dq0 (by omega)⟩, trivial⟩) ?_
      refine awp_sr [30] (by rw [hC]; rfl) fun k hk => ?_
      simp (maxSteps := 4000000) (disch := first | omega | (simp only [lens]; omega)) only [argSl, sm, ↓amb, mark_eq, ↓reduceIte, reduceCtorEq, Int.reduceBEq, Int.reduceBNe, Int.reduceToNat, Nat.reduceEqDiff, Nat.reduceAdd, Nat.reduceSub, Nat.reduceMul, Nat.reduceDiv, Nat.reduceMod, Nat.reduceLeDiff, Nat.reduceBEq, sz91, Pl.rep_get0, dx]
      (repeat (refine ⟨by first | omega | (simp; done) | assumption | (unfold maxLen; omega) | (simp [maxLen]; omega), ?_⟩)); refine hk _ ?_; clear hk; clear k
      refine awp_ret ?_
      rw [Pl.begin_3 hp hbe]
      refine retl rfl rfl ⟨retc rfl sz91 ?_, rett rfl ?_, trivial⟩
      simp (maxSteps := 4000000) (disch := first | omega | (simp only [lens]; omega)) only [argSl, sm, ↓amb, mark_eq, ↓reduceIte, reduceCtorEq, Int.reduceBEq, Int.reduceBNe, Int.reduceToNat, Nat.reduceEqDiff, Nat.reduceAdd, Nat.reduceSub, Nat.reduceMul, Nat.reduceDiv, Nat.reduceMod, Nat.reduceLeDiff, Nat.reduceBEq, sz91, Pl.rep_get0, dx]
      · exact .agg_cons (.p (LeP.refl _)) (.agg_cons (.p (LeP.refl _)) (.agg_cons (.p (LeP.refl _)) (.agg_cons (.ownE rfl rfl) (.agg_cons (.p (LeP.refl _)) (.agg_cons (.p (LeP.refl _)) (.agg_cons (.p (LeP.refl _)) (.agg_nil)))))))
      · exact .p (LeP.refl _)
end Go.Proofs.Ytbehekmnccoifaa
