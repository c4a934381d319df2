/-
  How work and crews begin; how many tasks there will be.
-/
import Derived.Test.YthelnccjcbnjfaaB1
import Derived.Test.YthelnccjcbnjfaaP3
set_option linter.unusedSimpArgs false
set_option linter.unusedVariables false
set_option maxRecDepth 100000
namespace Go.Proofs.Ythelnccjcbnjfaa
open Go.Am Go.Proofs
theorem bt114 : tBuilt Try.prog 114 = true := by kernel_rfl
theorem bt78 : tBuilt Try.prog 78 = true := by kernel_rfl
theorem bt81 : tBuilt Try.prog 81 = true := by kernel_rfl
theorem by3 : tBytes Try.prog 3 = some 8 := by kernel_rfl
theorem by32 : tBytes Try.prog 32 = some 24 := by kernel_rfl
theorem by4 : tBytes Try.prog 4 = some 1 := by kernel_rfl
theorem el32 : tEl Try.prog 32 = some 3 := by kernel_rfl
theorem el75 : tEl Try.prog 75 = some 114 := by kernel_rfl
theorem el76 : tEl Try.prog 76 = some 4 := by kernel_rfl
theorem el79 : tEl Try.prog 79 = some 32 := by kernel_rfl
theorem en62 : enters Try.prog 62 = true := by kernel_rfl
theorem en80 : enters Try.prog 80 = true := by kernel_rfl
theorem en84 : enters Try.prog 84 = true := by kernel_rfl
theorem en96 : enters Try.prog 96 = true := by kernel_rfl
theorem fl81_1 : tFld Try.prog 81 1 = some (3, 1, false) := by kernel_rfl
theorem pl114_1 : tPlace Try.prog 114 1 = some (1, 1) := by kernel_rfl
theorem pl114_2 : tPlace Try.prog 114 2 = some (2, 1) := by kernel_rfl
theorem pl78_0 : tPlace Try.prog 78 0 = some (0, 1) := by kernel_rfl
theorem pl78_1 : tPlace Try.prog 78 1 = some (1, 1) := by kernel_rfl
theorem pl78_2 : tPlace Try.prog 78 2 = some (2, 1) := by kernel_rfl
theorem pl81_0 : tPlace Try.prog 81 0 = some (0, 3) := by kernel_rfl
theorem pl81_1 : tPlace Try.prog 81 1 = some (3, 1) := by kernel_rfl
theorem sz32 : tSz Try.prog 32 = some (false, 1) := by kernel_rfl
theorem sz78 : tSz Try.prog 78 = some (true, 3) := by kernel_rfl
theorem sz79 : tSz Try.prog 79 = some (false, 1) := by kernel_rfl
theorem sz81 : tSz Try.prog 81 = some (true, 7) := by kernel_rfl
theorem vr114 : tVar Try.prog 114 = some (true, [.lit (.int .i64 0), .lit (.int .i64 0), .lit (.int .i64 0), .lit (.int .i64 0)]) := by kernel_rfl
theorem vr3 : tVar Try.prog 3 = some (false, [.lit (.int .i64 0)]) := by kernel_rfl
theorem vr32 : tVar Try.prog 32 = some (false, [.seq true []]) := by kernel_rfl
theorem vr4 : tVar Try.prog 4 = some (false, [.lit (.bool false)]) := by kernel_rfl
theorem vr78 : tVar Try.prog 78 = some (true, [.seq true [], .lit (.int .i64 0), .seq true []]) := by kernel_rfl
theorem vr81 : tVar Try.prog 81 = some (true, [.seq true [], .lit (.int .i64 0), .seq true [], .seq true [], .lit (.bool false), .lit (.int .i64 0), .lit (.int .i64 0)]) := by kernel_rfl
def LvS (g : Int) (q : List Int) (x : PV) : Prop := ∀ n, q = [n] → x = iV (Pl.cntL n g)
theorem lvS_put {g n : Int} {m : List Int → Option PV} {x : PV} (hm : ∀ q y, m q = some y → LvS g q y) (h : x = iV (Pl.cntL n g)) : ∀ q y, setM m [n] x q = some y → LvS g q y := by
  intro q y hy
  unfold setM at hy
  split at hy
  · rename_i e; simp only [Option.some.injEq] at hy; subst hy e
    intro n' e; simp only [List.cons.injEq, and_true] at e; subst e; exact h
  · exact hm q y hy
theorem lvS_get {g n : Int} {m : List Int → Option PV} {d : PV} (hm : ∀ q y, m q = some y → LvS g q y) (h : (m [n]).isSome = true) : (m [n]).getD d = iV (Pl.cntL n g) := by
  obtain ⟨x, hx⟩ := Option.isSome_iff_exists.1 h
  rw [hx]; exact hm _ _ hx n rfl
set_option maxHeartbeats 4000000 in
theorem c55 (n g : Int) : PCall Try.prog 96 [iV n, iV g] (bV (decide (Pl.cnt n g))) := by
 refine pcall_of_awp Try.func96 rfl (by simp [Try.ntmps96]) fun C hC => ?_
 refine awp_sr [] (by rw [hC]; rfl) fun k hk => ?_
 simp (maxSteps := 9^9) (disch := (try simp only [lens]); omega) only [argSl, sm, ↓amb, mark_eq, simprocAttr, dx]
 repeat refine ⟨by first | omega | (simp; done) | (unfold maxLen; omega) | (simp [maxLen]; omega) | assumption, ?_⟩
 refine hk _ ?_; clear hk k
 refine awp_test [] 4 (decide (Pl.cnt n g)) [] (by rw [hC]; rfl) (fun gd hgd k hk => ?_) ?_
 ·have g2 : gd 2 = some 7 := by rw [hgd]; rfl
  have g6 : gd 6 = some 11 := by rw [hgd]; rfl
  have g10 : gd 10 = some 15 := by rw [hgd]; rfl
  clear hgd
  simp (maxSteps := 9^9) (disch := (try simp only [lens]); omega) only [argSl, sm, ↓amb, mark_eq, simprocAttr, gcase_undef, g2, g6, g10, dx]
  repeat' first | refine hk _ _ rfl rfl rfl rfl ?_ | (refine gsplit (fun hg => ?_) (fun hg => ?_) <;> (try simp only [hbx] at hg) <;> simp (maxSteps := 9^9) (disch := (try simp only [lens]); omega) only [argSl, sm, ↓amb, mark_eq, simprocAttr, gcase_undef, g2, g6, g10, dx]) | apply And.intro | fail
  all_goals first | rfl | omega | exact (decide_eq_true (by (try simp only [Pl.cnt] at *); omega)).symm | exact (decide_eq_false (by (try simp only [Pl.cnt] at *); omega)).symm | exact decide_eq_decide.mpr (by (try simp only [Pl.cnt] at *); omega) | (refine Bool.eq_iff_iff.mpr ?_; (try simp only [Pl.cnt] at *); simp only [beq_iff_eq, bne_iff_ne, ne_eq, decide_eq_true_eq]; omega) | (refine Bool.eq_iff_iff.mpr ?_; simp only [Bool.not_eq_true', Bool.not_eq_false', decide_eq_false_iff_not, decide_eq_true_eq, beq_iff_eq, bne_iff_ne, ne_eq]; (try simp only [Pl.cnt] at *); omega) | assumption | (simp; done) | (simp [maxLen]; omega) | skip
 simp only [kp, argSl, simprocAttr, List.length_cons, List.length_nil]
 refine awp_ret ?_
 refine ret1 rfl rfl ?_
 exact .p (LeP.refl _)
set_option maxHeartbeats 4000000 in
theorem c32 (n g : Int) (hn : n ≤ 4000000000) : PCall Try.prog 84 [iV n, iV g] (.tup [workV false false (Pl.beginW n g), iV (Pl.beginE n g)]) := by
 refine pcall_of_awp Try.func84 rfl (by simp [Try.ntmps84]) fun C hC => ?_
 refine awp_sr [16] (by rw [hC]; rfl) fun k hk => ?_
 simp (maxSteps := 9^9) (disch := (try simp only [lens]); omega) only [argSl, sm, ↓amb, mark_eq, simprocAttr, vr78, dx]
 repeat refine ⟨by first | omega | (simp; done) | (unfold maxLen; omega) | (simp [maxLen]; omega) | assumption, ?_⟩
 refine hk _ ?_; clear hk k
 refine awp_seq fun k1 h1 => ?_
 refine awp_sr [16] (by rw [hC]; rfl) fun k hk => ?_
 simp (maxSteps := 9^9) (disch := (try simp only [lens]); omega) only [argSl, sm, ↓amb, mark_eq, simprocAttr, en96, dx]
 repeat refine ⟨by first | omega | (simp; done) | (unfold maxLen; omega) | (simp [maxLen]; omega) | assumption, ?_⟩
 refine callK_p (c55 _ _) rfl ?_
 simp (maxSteps := 9^9) (disch := (try simp only [lens]); omega) only [argSl, sm, ↓amb, mark_eq, simprocAttr, en96, dx]
 repeat refine ⟨by first | omega | (simp; done) | (unfold maxLen; omega) | (simp [maxLen]; omega) | assumption, ?_⟩
 refine hk _ ?_; clear hk k
 refine awp_cond rfl (fun hb => ?_) (fun hb => ?_)
 ·try simp only [hbx] at hb
  refine awp_sr [16] (by rw [hC]; rfl) fun k hk => ?_
  simp (maxSteps := 9^9) (disch := (try simp only [lens]); omega) only [argSl, sm, ↓amb, mark_eq, simprocAttr, vr78, bt78, sz78, dx]
  repeat refine ⟨by first | omega | (simp; done) | (unfold maxLen; omega) | (simp [maxLen]; omega) | assumption, ?_⟩
  refine hk _ ?_; clear hk k
  refine awp_ret ?_
  have e1 : Pl.beginW n g = ⟨[], 0, []⟩ := by rw [Pl.beginW, if_neg hb]
  have e2 : Pl.beginE n g = 1 := by rw [Pl.beginE, if_neg hb]
  rw [e1, e2]
  refine retl rfl rfl ⟨retc rfl sz78 ?_, rett rfl ?_, trivial⟩
  simp (maxSteps := 9^9) (disch := (try simp only [lens]); omega) only [argSl, sm, ↓amb, mark_eq, simprocAttr, sz78, dx]
  ·exact .p (LeP.agg (.cons (LeP.seq _ _) (.cons (LeP.refl _) (.cons (LeP.seq _ _) .nil))))
  ·exact .p (LeP.refl _)
 ·try simp only [hbx] at hb
  refine awp_skip ?_
  refine h1 _ ?_; clear h1 k1
  have hb1 := hb
  simp only [Pl.cnt] at hb1
  refine awp_sr [16] (by rw [hC]; rfl) fun k hk => ?_
  simp (maxSteps := 9^9) (disch := (try simp only [lens]); omega) only [argSl, sm, ↓amb, mark_eq, simprocAttr, vr114, bt114, pl114_1, pl114_2, el75, el76, by4, vr4, vr78, bt78, pl78_0, pl78_1, pl78_2, sz78, dx]
  repeat refine ⟨by first | omega | (simp; done) | (unfold maxLen; omega) | (simp [maxLen]; omega) | assumption, ?_⟩
  refine hk _ ?_; clear hk k
  refine awp_ret ?_
  have e1 : Pl.beginW n g = ⟨[⟨0, n, -1, 0⟩], g, List.replicate n.toNat false⟩ := by rw [Pl.beginW, if_pos hb]
  have e2 : Pl.beginE n g = 0 := by rw [Pl.beginE, if_pos hb]
  rw [e1, e2]
  refine retl rfl rfl ⟨retc rfl sz78 ?_, rett rfl ?_, trivial⟩
  simp (maxSteps := 9^9) (disch := (try simp only [lens]); omega) only [argSl, sm, ↓amb, mark_eq, simprocAttr, sz78, dx]
  ·exact .agg_cons (.p (LeP.sq rfl)) (.agg_cons (.p (LeP.refl _)) (.agg_cons (.ownE rfl (by simp)) (.agg_nil)))
  ·exact .p (LeP.refl _)
set_option maxHeartbeats 4000000 in
theorem c33 (n g : Int) (hn : n ≤ 4000000000) : PCall Try.prog 80 [iV n, iV g] (.tup [workV false false (Pl.beginW n g), iV (Pl.beginE n g)]) := by
 refine pcall_of_awp Try.func80 rfl (by simp [Try.ntmps80]) fun C hC => ?_
 refine awp_sr [26] (by rw [hC]; rfl) fun k hk => ?_
 simp (maxSteps := 9^9) (disch := (try simp only [lens]); omega) only [argSl, sm, ↓amb, mark_eq, simprocAttr, vr78, dx]
 repeat refine ⟨by first | omega | (simp; done) | (unfold maxLen; omega) | (simp [maxLen]; omega) | assumption, ?_⟩
 refine hk _ ?_; clear hk k
 refine awp_seq fun k1 h1 => ?_
 refine awp_test [26] 19 (decide (¬ Pl.cnt n g)) [0, 1, 4, 5] (by rw [hC]; rfl) (fun gd hgd k hk => ?_) ?_
 ·have g2 : gd 2 = some 8 := by rw [hgd]; rfl
  have g6 : gd 6 = some 12 := by rw [hgd]; rfl
  have g10 : gd 10 = some 16 := by rw [hgd]; rfl
  clear hgd
  simp (maxSteps := 9^9) (disch := (try simp only [lens]); omega) only [argSl, sm, ↓amb, mark_eq, simprocAttr, gcase_undef, g2, g6, g10, dx]
  repeat' first | refine hk _ _ rfl rfl rfl rfl ?_ | (refine gsplit (fun hg => ?_) (fun hg => ?_) <;> (try simp only [hbx] at hg) <;> simp (maxSteps := 9^9) (disch := (try simp only [lens]); omega) only [argSl, sm, ↓amb, mark_eq, simprocAttr, gcase_undef, g2, g6, g10, dx]) | apply And.intro | fail
  all_goals first | rfl | omega | exact (decide_eq_true (by (try simp only [Pl.cnt] at *); omega)).symm | exact (decide_eq_false (by (try simp only [Pl.cnt] at *); omega)).symm | exact decide_eq_decide.mpr (by (try simp only [Pl.cnt] at *); omega) | (refine Bool.eq_iff_iff.mpr ?_; (try simp only [Pl.cnt] at *); simp only [beq_iff_eq, bne_iff_ne, ne_eq, decide_eq_true_eq]; omega) | (refine Bool.eq_iff_iff.mpr ?_; simp only [Bool.not_eq_true', Bool.not_eq_false', decide_eq_false_iff_not, decide_eq_true_eq, beq_iff_eq, bne_iff_ne, ne_eq]; (try simp only [Pl.cnt] at *); omega) | assumption | (simp; done) | (simp [maxLen]; omega) | skip
 simp only [kp, argSl, simprocAttr, List.length_cons, List.length_nil]
 refine awp_cond rfl (fun hb => ?_) (fun hb => ?_)
 ·try simp only [hbx] at hb
  refine awp_sr [26] (by rw [hC]; rfl) fun k hk => ?_
  simp (maxSteps := 9^9) (disch := (try simp only [lens]); omega) only [argSl, sm, ↓amb, mark_eq, simprocAttr, vr78, bt78, sz78, dx]
  repeat refine ⟨by first | omega | (simp; done) | (unfold maxLen; omega) | (simp [maxLen]; omega) | assumption, ?_⟩
  refine hk _ ?_; clear hk k
  refine awp_ret ?_
  have e1 : Pl.beginW n g = ⟨[], 0, []⟩ := by rw [Pl.beginW, if_neg hb]
  have e2 : Pl.beginE n g = 1 := by rw [Pl.beginE, if_neg hb]
  rw [e1, e2]
  refine retl rfl rfl ⟨retc rfl sz78 ?_, rett rfl ?_, trivial⟩
  simp (maxSteps := 9^9) (disch := (try simp only [lens]); omega) only [argSl, sm, ↓amb, mark_eq, simprocAttr, sz78, dx]
  ·exact .p (LeP.agg (.cons (LeP.seq _ _) (.cons (LeP.refl _) (.cons (LeP.seq _ _) .nil))))
  ·exact .p (LeP.refl _)
 ·try simp only [hbx] at hb
  refine awp_skip ?_
  refine h1 _ ?_; clear h1 k1
  have hb1 := hb
  simp only [Pl.cnt] at hb1
  refine awp_sr [26] (by rw [hC]; rfl) fun k hk => ?_
  simp (maxSteps := 9^9) (disch := (try simp only [lens]); omega) only [argSl, sm, ↓amb, mark_eq, simprocAttr, vr114, bt114, pl114_1, pl114_2, el75, el76, by4, vr4, vr78, bt78, pl78_0, pl78_1, pl78_2, sz78, dx]
  repeat refine ⟨by first | omega | (simp; done) | (unfold maxLen; omega) | (simp [maxLen]; omega) | assumption, ?_⟩
  refine hk _ ?_; clear hk k
  refine awp_ret ?_
  have e1 : Pl.beginW n g = ⟨[⟨0, n, -1, 0⟩], g, List.replicate n.toNat false⟩ := by rw [Pl.beginW, if_pos hb]
  have e2 : Pl.beginE n g = 0 := by rw [Pl.beginE, if_pos hb]
  rw [e1, e2]
  refine retl rfl rfl ⟨retc rfl sz78 ?_, rett rfl ?_, trivial⟩
  simp (maxSteps := 9^9) (disch := (try simp only [lens]); omega) only [argSl, sm, ↓amb, mark_eq, simprocAttr, sz78, dx]
  ·exact .agg_cons (.p (LeP.sq rfl)) (.agg_cons (.p (LeP.refl _)) (.agg_cons (.ownE rfl (by simp)) (.agg_nil)))
  ·exact .p (LeP.refl _)
set_option maxHeartbeats 4000000 in
theorem c35 (g : Int) : ∀ (k : Nat) (n : Int), n ≤ k → PCall Try.prog 62 [iV n, iV g] (.tup [iV (Pl.cntT n g), iV (Pl.cntL n g)]) := by
 intro k; induction k using Nat.strongRecOn; rename_i k ih; intro n hnk
 refine pcall_of_awp Try.func62 rfl (by simp [Try.ntmps62]) fun C hC => ?_
 refine awp_sr [] (by rw [hC]; rfl) fun k hk => ?_
 simp (maxSteps := 9^9) (disch := (try simp only [lens]); omega) only [argSl, sm, ↓amb, mark_eq, simprocAttr, dx]
 repeat refine ⟨by first | omega | (simp; done) | (unfold maxLen; omega) | (simp [maxLen]; omega) | assumption, ?_⟩
 refine hk _ ?_; clear hk k
 refine awp_seq fun k1 h1 => ?_
 refine awp_test [] 23 (decide (¬ Pl.cnt n g)) [0, 1, 4, 5] (by rw [hC]; rfl) (fun gd hgd k hk => ?_) ?_
 ·have g2 : gd 2 = some 12 := by rw [hgd]; rfl
  have g6 : gd 6 = some 16 := by rw [hgd]; rfl
  have g10 : gd 10 = some 20 := by rw [hgd]; rfl
  clear hgd
  simp (maxSteps := 9^9) (disch := (try simp only [lens]); omega) only [argSl, sm, ↓amb, mark_eq, simprocAttr, gcase_undef, g2, g6, g10, dx]
  repeat' first | refine hk _ _ rfl rfl rfl rfl ?_ | (refine gsplit (fun hg => ?_) (fun hg => ?_) <;> (try simp only [hbx] at hg) <;> simp (maxSteps := 9^9) (disch := (try simp only [lens]); omega) only [argSl, sm, ↓amb, mark_eq, simprocAttr, gcase_undef, g2, g6, g10, dx]) | apply And.intro | fail
  all_goals first | rfl | omega | exact (decide_eq_true (by (try simp only [Pl.cnt] at *); omega)).symm | exact (decide_eq_false (by (try simp only [Pl.cnt] at *); omega)).symm | exact decide_eq_decide.mpr (by (try simp only [Pl.cnt] at *); omega) | (refine Bool.eq_iff_iff.mpr ?_; (try simp only [Pl.cnt] at *); simp only [beq_iff_eq, bne_iff_ne, ne_eq, decide_eq_true_eq]; omega) | (refine Bool.eq_iff_iff.mpr ?_; simp only [Bool.not_eq_true', Bool.not_eq_false', decide_eq_false_iff_not, decide_eq_true_eq, beq_iff_eq, bne_iff_ne, ne_eq]; (try simp only [Pl.cnt] at *); omega) | assumption | (simp; done) | (simp [maxLen]; omega) | skip
 simp only [kp, argSl, simprocAttr, List.length_cons, List.length_nil]
 refine awp_cond rfl (fun hb => ?_) (fun hb => ?_)
 ·try simp only [hbx] at hb
  refine awp_sr [] (by rw [hC]; rfl) fun k hk => ?_
  simp (maxSteps := 9^9) (disch := (try simp only [lens]); omega) only [argSl, sm, ↓amb, mark_eq, simprocAttr, dx]
  repeat refine ⟨by first | omega | (simp; done) | (unfold maxLen; omega) | (simp [maxLen]; omega) | assumption, ?_⟩
  refine hk _ ?_; clear hk k
  refine awp_ret ?_
  obtain ⟨e1, e2⟩ := Pl.cntT_no hb
  rw [e1, e2]
  refine ret2 rfl rfl rfl ?_ ?_
  ·exact .p (LeP.refl _)
  ·exact .p (LeP.refl _)
 ·try simp only [hbx] at hb
  refine awp_skip ?_
  refine h1 _ ?_; clear h1 k1
  refine awp_seq fun k2 h2 => ?_
  have hc := hb
  refine awp_sr [] (by rw [hC]; rfl) fun k hk => ?_
  simp (maxSteps := 9^9) (disch := (try simp only [lens]); omega) only [argSl, sm, ↓amb, mark_eq, simprocAttr, dx]
  repeat refine ⟨by first | omega | (simp; done) | (unfold maxLen; omega) | (simp [maxLen]; omega) | assumption, ?_⟩
  refine hk _ ?_; clear hk k
  refine awp_cond rfl (fun hb => ?_) (fun hb => ?_)
  ·try simp only [hbx] at hb
   refine awp_sr [] (by rw [hC]; rfl) fun k hk => ?_
   simp (maxSteps := 9^9) (disch := (try simp only [lens]); omega) only [argSl, sm, ↓amb, mark_eq, simprocAttr, dx]
   repeat refine ⟨by first | omega | (simp; done) | (unfold maxLen; omega) | (simp [maxLen]; omega) | assumption, ?_⟩
   refine hk _ ?_; clear hk k
   refine awp_ret ?_
   have e1 := Pl.cntL_base hc hb
   have e2 := Pl.cntT_eq hc
   rw [e2, e1]
   refine ret2 rfl rfl rfl ?_ ?_
   ·exact .p (LeP.refl _)
   ·exact .p (LeP.refl _)
  ·try simp only [hbx] at hb
   refine awp_skip ?_
   refine h2 _ ?_; clear h2 k2
   have hgn : g < n := by omega
   obtain ⟨hc1, hc2⟩ := Pl.cnt_half hc hgn
   have l1 := Pl.cntL_le hc1
   have l2 := Pl.cntL_le hc2
   have t1 := Pl.cntT_eq hc1
   have t2 := Pl.cntT_eq hc2
   have t3 := Pl.cntT_eq hc
   have l3 := Pl.cntL_rec hc hgn
   have hcc := hc
   simp only [Pl.cnt] at hcc
   refine awp_sr [] (by rw [hC]; rfl) fun k hk => ?_
   simp (maxSteps := 9^9) (disch := (try simp only [lens]); omega) only [argSl, sm, ↓amb, mark_eq, simprocAttr, en62, dx]
   repeat refine ⟨by first | omega | (simp; done) | (unfold maxLen; omega) | (simp [maxLen]; omega) | assumption, ?_⟩
   refine callK_p (ih (n / 2).toNat (by omega) _ (by omega)) rfl ?_
   simp (maxSteps := 9^9) (disch := (try simp only [lens]); omega) only [argSl, sm, ↓amb, mark_eq, simprocAttr, en62, dx]
   repeat refine ⟨by first | omega | (simp; done) | (unfold maxLen; omega) | (simp [maxLen]; omega) | assumption, ?_⟩
   refine hk _ ?_; clear hk k
   refine awp_sr [] (by rw [hC]; rfl) fun k hk => ?_
   simp (maxSteps := 9^9) (disch := (try simp only [lens]); omega) only [argSl, sm, ↓amb, mark_eq, simprocAttr, en62, dx]
   repeat refine ⟨by first | omega | (simp; done) | (unfold maxLen; omega) | (simp [maxLen]; omega) | assumption, ?_⟩
   refine callK_p (ih (n - n / 2).toNat (by omega) _ (by omega)) rfl ?_
   simp (maxSteps := 9^9) (disch := (try simp only [lens]); omega) only [argSl, sm, ↓amb, mark_eq, simprocAttr, en62, dx]
   repeat refine ⟨by first | omega | (simp; done) | (unfold maxLen; omega) | (simp [maxLen]; omega) | assumption, ?_⟩
   refine hk _ ?_; clear hk k
   refine awp_sr [] (by rw [hC]; rfl) fun k hk => ?_
   simp (maxSteps := 9^9) (disch := (try simp only [lens]); omega) only [argSl, sm, ↓amb, mark_eq, simprocAttr, dx]
   repeat refine ⟨by first | omega | (simp; done) | (unfold maxLen; omega) | (simp [maxLen]; omega) | assumption, ?_⟩
   refine hk _ ?_; clear hk k
   refine awp_ret ?_
   refine ret2 rfl rfl rfl ?_ ?_
   ·exact .p (LeP.of_eq (by simp only [PV.lit.injEq, Value.int.injEq, true_and]; omega))
   ·exact .p (LeP.of_eq (by simp only [PV.lit.injEq, Value.int.injEq, true_and]; omega))
set_option maxHeartbeats 4000000 in
theorem c42 (n g p : Int) (hn : n ≤ 4000000000) : PCall Try.prog 75 [iV n, iV g, iV p] (.tup [.agg (crewC (Pl.crewBegin n g p).1), iV (Pl.crewBegin n g p).2]) := by
 refine pcall_of_awp Try.func75 rfl (by simp [Try.ntmps75]) fun C hC => ?_
 refine awp_le (le_keep [0, 1, 2]) ?_
 simp only [kp, argSl, simprocAttr]
 refine awp_sr [29] (by rw [hC]; rfl) fun k hk => ?_
 simp (maxSteps := 9^9) (disch := (try simp only [lens]); omega) only [argSl, sm, ↓amb, mark_eq, simprocAttr, vr81, taskC, Pl.rep_get0, dx]
 repeat refine ⟨by first | omega | (simp; done) | (unfold maxLen; omega) | (simp [maxLen]; omega) | assumption, ?_⟩
 refine hk _ ?_; clear hk k
 refine awp_seq fun k1 h1 => ?_
 refine awp_test [29] 16 (decide (p < 1 ∨ 8 < p)) [0, 1, 2, 6, 7] (by rw [hC]; rfl) (fun gd hgd k hk => ?_) ?_
 ·have g2 : gd 2 = some 13 := by rw [hgd]; rfl
  clear hgd
  simp (maxSteps := 9^9) (disch := (try simp only [lens]); omega) only [argSl, sm, ↓amb, mark_eq, simprocAttr, gcase_undef, g2, taskC, Pl.rep_get0, dx]
  repeat' first | refine hk _ _ rfl rfl rfl rfl ?_ | (refine gsplit (fun hg => ?_) (fun hg => ?_) <;> (try simp only [hbx] at hg) <;> simp (maxSteps := 9^9) (disch := (try simp only [lens]); omega) only [argSl, sm, ↓amb, mark_eq, simprocAttr, gcase_undef, g2, taskC, Pl.rep_get0, dx]) | apply And.intro | fail
  all_goals first | rfl | omega | exact (decide_eq_true (by omega)).symm | exact (decide_eq_false (by omega)).symm | exact decide_eq_decide.mpr (by omega) | (refine Bool.eq_iff_iff.mpr ?_; simp only [beq_iff_eq, bne_iff_ne, ne_eq, decide_eq_true_eq]; omega) | (refine Bool.eq_iff_iff.mpr ?_; simp only [Bool.not_eq_true', Bool.not_eq_false', decide_eq_false_iff_not, decide_eq_true_eq, beq_iff_eq, bne_iff_ne, ne_eq]; omega) | assumption | (simp; done) | (simp [maxLen]; omega) | skip
 simp only [kp, argSl, simprocAttr, List.length_cons, List.length_nil]
 refine awp_cond rfl (fun hb => ?_) (fun hb => ?_)
 ·try simp only [hbx] at hb
  refine awp_le (le_keep [6]) ?_
  simp only [kp, argSl, simprocAttr]
  refine awp_sr [29] (by rw [hC]; rfl) fun k hk => ?_
  simp (maxSteps := 9^9) (disch := (try simp only [lens]); omega) only [argSl, sm, ↓amb, mark_eq, simprocAttr, vr81, bt81, sz81, taskC, Pl.rep_get0, dx]
  repeat refine ⟨by first | omega | (simp; done) | (unfold maxLen; omega) | (simp [maxLen]; omega) | assumption, ?_⟩
  refine hk _ ?_; clear hk k
  refine awp_ret ?_
  rw [Pl.begin_1 hb]
  refine retl rfl rfl ⟨retc rfl sz81 ?_, rett rfl ?_, trivial⟩
  simp (maxSteps := 9^9) (disch := (try simp only [lens]); omega) only [argSl, sm, ↓amb, mark_eq, simprocAttr, sz81, taskC, Pl.rep_get0, dx]
  ·exact .p (LeP.agg (.cons (LeP.seq _ _) (.cons (LeP.refl _) (.cons (LeP.seq _ _) (.cons (LeP.seq _ _) (.cons (LeP.refl _) (.cons (LeP.refl _) (.cons (LeP.refl _) .nil))))))))
  ·exact .p (LeP.refl _)
 ·try simp only [hbx] at hb
  refine awp_skip ?_
  refine h1 _ ?_; clear h1 k1
  refine awp_le (le_keep [0, 1, 2, 6]) ?_
  simp only [kp, argSl, simprocAttr]
  have hp := hb
  refine awp_sr [29] (by rw [hC]; rfl) fun k hk => ?_
  simp (maxSteps := 9^9) (disch := (try simp only [lens]); omega) only [argSl, sm, ↓amb, mark_eq, simprocAttr, en84, vr78, sz78, taskC, Pl.rep_get0, dx]
  repeat refine ⟨by first | omega | (simp; done) | (unfold maxLen; omega) | (simp [maxLen]; omega) | assumption, ?_⟩
  refine callK_p (c32 _ _ (by omega)) rfl ?_
  simp (maxSteps := 9^9) (disch := (try simp only [lens]); omega) only [argSl, sm, ↓amb, mark_eq, simprocAttr, en84, vr78, sz78, taskC, Pl.rep_get0, dx]
  repeat refine ⟨by first | omega | (simp; done) | (unfold maxLen; omega) | (simp [maxLen]; omega) | assumption, ?_⟩
  refine hk _ ?_; clear hk k
  refine awp_seq fun k2 h2 => ?_
  refine awp_le (le_keep [2, 6, 7, 8, 9]) ?_
  simp only [kp, argSl, simprocAttr]
  refine awp_sr [29] (by rw [hC]; rfl) fun k hk => ?_
  simp (maxSteps := 9^9) (disch := (try simp only [lens]); omega) only [argSl, sm, ↓amb, mark_eq, simprocAttr, taskC, Pl.rep_get0, dx]
  repeat refine ⟨by first | omega | (simp; done) | (unfold maxLen; omega) | (simp [maxLen]; omega) | assumption, ?_⟩
  refine hk _ ?_; clear hk k
  refine awp_cond rfl (fun hb => ?_) (fun hb => ?_)
  ·try simp only [hbx] at hb
   refine awp_le (le_keep [6, 9]) ?_
   simp only [kp, argSl, simprocAttr]
   refine awp_sr [29] (by rw [hC]; rfl) fun k hk => ?_
   simp (maxSteps := 9^9) (disch := (try simp only [lens]); omega) only [argSl, sm, ↓amb, mark_eq, simprocAttr, vr81, bt81, sz81, taskC, Pl.rep_get0, dx]
   repeat refine ⟨by first | omega | (simp; done) | (unfold maxLen; omega) | (simp [maxLen]; omega) | assumption, ?_⟩
   refine hk _ ?_; clear hk k
   refine awp_ret ?_
   obtain ⟨e1, e2⟩ := Pl.begin_2 hp hb
   rw [e1]
   refine retl rfl rfl ⟨retc rfl sz81 ?_, rett rfl ?_, trivial⟩
   simp (maxSteps := 9^9) (disch := (try simp only [lens]); omega) only [argSl, sm, ↓amb, mark_eq, simprocAttr, sz81, taskC, Pl.rep_get0, dx]
   ·exact .p (LeP.agg (.cons (LeP.seq _ _) (.cons (LeP.refl _) (.cons (LeP.seq _ _) (.cons (LeP.seq _ _) (.cons (LeP.refl _) (.cons (LeP.refl _) (.cons (LeP.refl _) .nil))))))))
   ·exact .p (LeP.of_eq (by rw [e2]))
  ·try simp only [hbx] at hb
   refine awp_skip ?_
   refine h2 _ ?_; clear h2 k2
   refine awp_le (le_keep [2, 6, 8]) ?_
   simp only [kp, argSl, simprocAttr]
   have hbe := hb
   refine awp_sr [29] (by rw [hC]; rfl) fun k hk => ?_
   simp (maxSteps := 9^9) (disch := (try simp only [lens]); omega) only [argSl, sm, ↓amb, mark_eq, simprocAttr, el79, by32, vr32, taskC, Pl.rep_get0, dx]
   repeat refine ⟨by first | omega | (simp; done) | (unfold maxLen; omega) | (simp [maxLen]; omega) | assumption, ?_⟩
   refine hk _ ?_; clear hk k
   refine awp_le (le_keep [6, 8, 10]) ?_
   simp only [kp, argSl, simprocAttr]
   refine awp_sr [29] (by rw [hC]; rfl) fun k hk => ?_
   simp (maxSteps := 9^9) (disch := (try simp only [lens]); omega) only [argSl, sm, ↓amb, mark_eq, simprocAttr, el79, sz32, el32, vr3, by3, taskC, Pl.rep_get0, dx]
   repeat refine ⟨by first | omega | (simp; done) | (unfold maxLen; omega) | (simp [maxLen]; omega) | assumption, ?_⟩
   refine hk _ ?_; clear hk k
   refine awp_le (le_keep [6, 8, 10]) ?_
   simp only [kp, argSl, simprocAttr]
   refine awp_le (show LE _ (⟨[(6, (.ptr 0 7 0 0)), (8, (.ptr 1 3 0 0)), (10, (.own 2))], [(0, (.row 7 [[.p (.seq true []), .p (iV 0), .p (.seq true []), .p (.seq true []), .p (bV false), .p (iV 0), .p (iV 0)]])), (1, (.row 3 [[.p (.seq false ((Pl.beginW n g).ts.map taskC)), .p (iV (Pl.beginW n g).grain), .p (.seq false ((Pl.beginW n g).done.map fun b => [bV b]))]])), (2, (.row 1 (lift ((Pl.dq0 p).map lV))))], 1⟩ : LS) from le_of [(0, _), (1, _), (2, _)] (by rfl) (by rfl) ⟨⟨_, rfl, .ptr rfl⟩, ⟨_, rfl, .ptr rfl⟩, ⟨_, rfl, .own rfl⟩, trivial⟩ ⟨⟨_, rfl, _, rfl, .one (.cons (.p (.refl _)) (.cons (.p (.refl _)) (.cons (.p (.refl _)) (.cons (.p (.refl _)) (.cons (.p (.refl _)) (.cons (.p (.refl _)) (.cons (.p (.refl _)) (.nil))))))))⟩, ⟨_, rfl, _, rfl, .one (.cons (.p (.refl _)) (.cons (.p (.refl _)) (.cons (.p (.refl _)) .nil)))⟩, ⟨_, rfl, _, rfl, Pl.leB_dq0 (by omega)⟩, trivial⟩) ?_
   refine awp_sr [29] (by rw [hC]; rfl) fun k hk => ?_
   simp (maxSteps := 9^9) (disch := (try simp only [lens]); omega) only [argSl, sm, ↓amb, mark_eq, simprocAttr, sz78, vr81, bt81, pl81_0, pl81_1, sz81, taskC, Pl.rep_get0, dx]
   repeat refine ⟨by first | omega | (simp; done) | (unfold maxLen; omega) | (simp [maxLen]; omega) | assumption, ?_⟩
   refine hk _ ?_; clear hk k
   refine awp_ret ?_
   rw [Pl.begin_3 hp hbe]
   refine retl rfl rfl ⟨retc rfl sz81 ?_, rett rfl ?_, trivial⟩
   simp (maxSteps := 9^9) (disch := (try simp only [lens]); omega) only [argSl, sm, ↓amb, mark_eq, simprocAttr, sz81, taskC, Pl.rep_get0, dx]
   ·exact .agg_cons (.p (LeP.refl _)) (.agg_cons (.p (LeP.refl _)) (.agg_cons (.p (LeP.refl _)) (.agg_cons (.ownE rfl rfl) (.agg_cons (.p (LeP.refl _)) (.agg_cons (.p (LeP.refl _)) (.agg_cons (.p (LeP.refl _)) (.agg_nil)))))))
   ·exact .p (LeP.refl _)
set_option maxHeartbeats 4000000 in
theorem c_ref05_Begin (n g w : Int) (hn : n ≤ 4000000000) : PCall Try.prog 61 [iV n, iV g, iV w] (.tup [.agg (crewC (Pl.crewBegin n g w).1), iV (Pl.crewBegin n g w).2]) := by
 refine pcall_of_awp Try.func61 rfl (by simp [Try.ntmps61]) fun C hC => ?_
 refine awp_le (le_keep [0, 1, 2]) ?_
 simp only [kp, argSl, simprocAttr]
 refine awp_sr [30] (by rw [hC]; rfl) fun k hk => ?_
 simp (maxSteps := 9^9) (disch := (try simp only [lens]); omega) only [argSl, sm, ↓amb, mark_eq, simprocAttr, vr81, Pl.rep_get0, dx]
 repeat refine ⟨by first | omega | (simp; done) | (unfold maxLen; omega) | (simp [maxLen]; omega) | assumption, ?_⟩
 refine hk _ ?_; clear hk k
 refine awp_seq fun k1 h1 => ?_
 refine awp_test [30] 16 (decide (w < 1 ∨ 8 < w)) [0, 1, 2, 6, 7] (by rw [hC]; rfl) (fun gd hgd k hk => ?_) ?_
 ·have g2 : gd 2 = some 13 := by rw [hgd]; rfl
  clear hgd
  simp (maxSteps := 9^9) (disch := (try simp only [lens]); omega) only [argSl, sm, ↓amb, mark_eq, simprocAttr, gcase_undef, g2, Pl.rep_get0, dx]
  repeat' first | refine hk _ _ rfl rfl rfl rfl ?_ | (refine gsplit (fun hg => ?_) (fun hg => ?_) <;> (try simp only [hbx] at hg) <;> simp (maxSteps := 9^9) (disch := (try simp only [lens]); omega) only [argSl, sm, ↓amb, mark_eq, simprocAttr, gcase_undef, g2, Pl.rep_get0, dx]) | apply And.intro | fail
  all_goals first | rfl | omega | exact (decide_eq_true (by omega)).symm | exact (decide_eq_false (by omega)).symm | exact decide_eq_decide.mpr (by omega) | (refine Bool.eq_iff_iff.mpr ?_; simp only [beq_iff_eq, bne_iff_ne, ne_eq, decide_eq_true_eq]; omega) | (refine Bool.eq_iff_iff.mpr ?_; simp only [Bool.not_eq_true', Bool.not_eq_false', decide_eq_false_iff_not, decide_eq_true_eq, beq_iff_eq, bne_iff_ne, ne_eq]; omega) | assumption | (simp; done) | (simp [maxLen]; omega) | skip
 simp only [kp, argSl, simprocAttr, List.length_cons, List.length_nil]
 refine awp_cond rfl (fun hb => ?_) (fun hb => ?_)
 ·try simp only [hbx] at hb
  refine awp_le (le_keep [6]) ?_
  simp only [kp, argSl, simprocAttr]
  refine awp_sr [30] (by rw [hC]; rfl) fun k hk => ?_
  simp (maxSteps := 9^9) (disch := (try simp only [lens]); omega) only [argSl, sm, ↓amb, mark_eq, simprocAttr, vr81, bt81, sz81, Pl.rep_get0, dx]
  repeat refine ⟨by first | omega | (simp; done) | (unfold maxLen; omega) | (simp [maxLen]; omega) | assumption, ?_⟩
  refine hk _ ?_; clear hk k
  refine awp_ret ?_
  rw [Pl.begin_1 hb]
  refine retl rfl rfl ⟨retc rfl sz81 ?_, rett rfl ?_, trivial⟩
  simp (maxSteps := 9^9) (disch := (try simp only [lens]); omega) only [argSl, sm, ↓amb, mark_eq, simprocAttr, sz81, Pl.rep_get0, dx]
  ·exact .p (LeP.agg (.cons (LeP.seq _ _) (.cons (LeP.refl _) (.cons (LeP.seq _ _) (.cons (LeP.seq _ _) (.cons (LeP.refl _) (.cons (LeP.refl _) (.cons (LeP.refl _) .nil))))))))
  ·exact .p (LeP.refl _)
 ·try simp only [hbx] at hb
  refine awp_skip ?_
  refine h1 _ ?_; clear h1 k1
  refine awp_le (le_keep [0, 1, 2, 6]) ?_
  simp only [kp, argSl, simprocAttr]
  have hp := hb
  refine awp_sr [30] (by rw [hC]; rfl) fun k hk => ?_
  simp (maxSteps := 9^9) (disch := (try simp only [lens]); omega) only [argSl, sm, ↓amb, mark_eq, simprocAttr, en80, vr78, sz78, Pl.rep_get0, dx]
  repeat refine ⟨by first | omega | (simp; done) | (unfold maxLen; omega) | (simp [maxLen]; omega) | assumption, ?_⟩
  refine callK_p (c33 _ _ (by omega)) rfl ?_
  simp (maxSteps := 9^9) (disch := (try simp only [lens]); omega) only [argSl, sm, ↓amb, mark_eq, simprocAttr, en80, vr78, sz78, Pl.rep_get0, dx]
  repeat refine ⟨by first | omega | (simp; done) | (unfold maxLen; omega) | (simp [maxLen]; omega) | assumption, ?_⟩
  refine hk _ ?_; clear hk k
  refine awp_seq fun k2 h2 => ?_
  refine awp_le (le_keep [2, 6, 7, 8, 9]) ?_
  simp only [kp, argSl, simprocAttr]
  refine awp_sr [30] (by rw [hC]; rfl) fun k hk => ?_
  simp (maxSteps := 9^9) (disch := (try simp only [lens]); omega) only [argSl, sm, ↓amb, mark_eq, simprocAttr, Pl.rep_get0, dx]
  repeat refine ⟨by first | omega | (simp; done) | (unfold maxLen; omega) | (simp [maxLen]; omega) | assumption, ?_⟩
  refine hk _ ?_; clear hk k
  refine awp_cond rfl (fun hb => ?_) (fun hb => ?_)
  ·try simp only [hbx] at hb
   refine awp_le (le_keep [6, 9]) ?_
   simp only [kp, argSl, simprocAttr]
   refine awp_sr [30] (by rw [hC]; rfl) fun k hk => ?_
   simp (maxSteps := 9^9) (disch := (try simp only [lens]); omega) only [argSl, sm, ↓amb, mark_eq, simprocAttr, vr81, bt81, sz81, Pl.rep_get0, dx]
   repeat refine ⟨by first | omega | (simp; done) | (unfold maxLen; omega) | (simp [maxLen]; omega) | assumption, ?_⟩
   refine hk _ ?_; clear hk k
   refine awp_ret ?_
   obtain ⟨e1, e2⟩ := Pl.begin_2 hp hb
   rw [e1]
   refine retl rfl rfl ⟨retc rfl sz81 ?_, rett rfl ?_, trivial⟩
   simp (maxSteps := 9^9) (disch := (try simp only [lens]); omega) only [argSl, sm, ↓amb, mark_eq, simprocAttr, sz81, Pl.rep_get0, dx]
   ·exact .p (LeP.agg (.cons (LeP.seq _ _) (.cons (LeP.refl _) (.cons (LeP.seq _ _) (.cons (LeP.seq _ _) (.cons (LeP.refl _) (.cons (LeP.refl _) (.cons (LeP.refl _) .nil))))))))
   ·exact .p (LeP.of_eq (by rw [e2]))
  ·try simp only [hbx] at hb
   refine awp_skip ?_
   refine h2 _ ?_; clear h2 k2
   refine awp_le (le_keep [2, 6, 8]) ?_
   simp only [kp, argSl, simprocAttr]
   have hbe := hb
   refine awp_sd [30] ⟨[0, 0, 2, 7, 0, 31], [0], [5], [(2, 5), (4, 5)], none⟩ (by rw [hC]; rfl) (by kernel_rfl) (by kernel_rfl) fun k hk => ?_
   simp (maxSteps := 9^9) (disch := (try simp only [lens]); omega) only [argSl, sm, ↓amb, mark_eq, simprocAttr, sz78, el79, by32, vr32, vr81, bt81, pl81_0, pl81_1, sz81, Pl.rep_get0, dx]
   repeat refine ⟨by first | omega | (simp; done) | (unfold maxLen; omega) | (simp [maxLen]; omega) | assumption, ?_⟩
   refine hk _ ?_; clear hk k
   refine awp_le (le_keep [6, 10]) ?_
   simp only [kp, argSl, simprocAttr]
   refine awp_sr [30] (by rw [hC]; rfl) fun k hk => ?_
   simp (maxSteps := 9^9) (disch := (try simp only [lens]); omega) only [argSl, sm, ↓amb, mark_eq, simprocAttr, fl81_1, sz79, el32, vr3, el79, sz32, Pl.rep_get0, dx]
   repeat refine ⟨by first | omega | (simp; done) | (unfold maxLen; omega) | (simp [maxLen]; omega) | assumption, ?_⟩
   refine hk _ ?_; clear hk k
   refine awp_le (le_keep [6, 10]) ?_
   simp only [kp, argSl, simprocAttr]
   refine awp_le (show LE _ (⟨[(6, (.ptr 0 7 0 0)), (10, (.ptr 1 7 0 0))], [(0, (.row 7 [[.p (.seq true []), .p (iV 0), .p (.seq true []), .p (.seq true []), .p (bV false), .p (iV 0), .p (iV 0)]])), (1, (.row 7 [[.p (.seq false ((Pl.beginW n g).ts.map taskC)), .p (iV (Pl.beginW n g).grain), .p (.seq false ((Pl.beginW n g).done.map fun b => [bV b])), .own 2, .p (bV false), .p (iV 0), .p (iV 0)]])), (2, (.row 1 (lift ((Pl.dq0 w).map lV))))], 1⟩ : LS) from le_of [(0, _), (1, _), (2, _)] (by rfl) (by rfl) ⟨⟨_, rfl, .ptr rfl⟩, ⟨_, rfl, .ptr rfl⟩, trivial⟩ ⟨⟨_, rfl, _, rfl, .one (.cons (.p (.refl _)) (.cons (.p (.refl _)) (.cons (.p (.refl _)) (.cons (.p (.refl _)) (.cons (.p (.refl _)) (.cons (.p (.refl _)) (.cons (.p (.refl _)) (.nil))))))))⟩, ⟨_, rfl, _, rfl, .one (.cons (.p (.refl _)) (.cons (.p (.refl _)) (.cons (.p (.refl _)) (.cons (.own rfl) (.cons (.p (.refl _)) (.cons (.p (.refl _)) (.cons (.p (.refl _)) (.nil))))))))⟩, ⟨_, rfl, _, rfl, Pl.leB_dq0 (by omega)⟩, trivial⟩) ?_
   refine awp_sr [30] (by rw [hC]; rfl) fun k hk => ?_
   simp (maxSteps := 9^9) (disch := (try simp only [lens]); omega) only [argSl, sm, ↓amb, mark_eq, simprocAttr, sz81, Pl.rep_get0, dx]
   repeat refine ⟨by first | omega | (simp; done) | (unfold maxLen; omega) | (simp [maxLen]; omega) | assumption, ?_⟩
   refine hk _ ?_; clear hk k
   refine awp_ret ?_
   rw [Pl.begin_3 hp hbe]
   refine retl rfl rfl ⟨retc rfl sz81 ?_, rett rfl ?_, trivial⟩
   simp (maxSteps := 9^9) (disch := (try simp only [lens]); omega) only [argSl, sm, ↓amb, mark_eq, simprocAttr, sz81, Pl.rep_get0, dx]
   ·exact .agg_cons (.p (LeP.refl _)) (.agg_cons (.p (LeP.refl _)) (.agg_cons (.p (LeP.refl _)) (.agg_cons (.ownE rfl rfl) (.agg_cons (.p (LeP.refl _)) (.agg_cons (.p (LeP.refl _)) (.agg_cons (.p (LeP.refl _)) (.agg_nil)))))))
   ·exact .p (LeP.refl _)
end Go.Proofs.Ythelnccjcbnjfaa
