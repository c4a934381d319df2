/-
  What is done to a cell, by the document.
-/
import Derived.Test.YthelnccjcbnjfaaR9
import Derived.Test.YthelnccjcbnjfaaPJ
set_option linter.unusedSimpArgs false
set_option linter.unusedVariables false
set_option maxRecDepth 100000
namespace Go.Proofs.Ythelnccjcbnjfaa
open Go.Am Go.Proofs
theorem en59 : enters Try.prog 59 = true := by kernel_rfl
theorem it28 : tInt Try.prog 28 = some .u32 := by kernel_rfl
theorem it69 : tInt Try.prog 69 = some .u64 := by kernel_rfl
theorem it70 : tInt Try.prog 70 = some .u64 := by kernel_rfl
theorem un28 : (Try.prog.underlying 28).isSome = true := by kernel_rfl
theorem un3 : (Try.prog.underlying 3).isSome = true := by kernel_rfl
theorem un69 : (Try.prog.underlying 69).isSome = true := by kernel_rfl
set_option maxHeartbeats 4000000 in
theorem c_ref07_bit (x : Int) (i : Nat) (hx : Pl.W32 x) (hi : i < 32) : PCall Try.prog 59 [u32V x, iV i] (u32V (Pl.bitI x i)) := by
 refine pcall_of_awp Try.func59 rfl (by simp [Try.ntmps59]) fun C hC => ?_
 refine awp_sr [] (by rw [hC]; rfl) fun k hk => ?_
 simp (maxSteps := 9^9) (disch := (try simp only [lens]); omega) only [argSl, sm, ↓amb, mark_eq, simprocAttr, wr_u64, dx]
 repeat refine ⟨by first | omega | (simp; done) | (unfold maxLen; omega) | (simp [maxLen]; omega) | assumption, ?_⟩
 refine hk _ ?_; clear hk k
 have hme : min ((i : Int) % 18446744073709551616).toNat 32 = i := by omega
 refine awp_sr [] (by rw [hC]; rfl) fun k hk => ?_
 simp (maxSteps := 9^9) (disch := (try simp only [lens]); omega) only [argSl, sm, ↓amb, mark_eq, simprocAttr, it70, un3, wr_u64, dx]
 repeat refine ⟨by first | omega | (simp; done) | (unfold maxLen; omega) | (simp [maxLen]; omega) | assumption, ?_⟩
 refine hk _ ?_; clear hk k
 refine awp_ret ?_
 have hbd : Pl.W32 (x / 2 ^ i) := ⟨Int.ediv_nonneg hx.1 (Int.le_of_lt (Int.pow_pos (by decide))), Int.le_trans (Int.ediv_le_self _ hx.1) hx.2⟩
 have hand := Pl.an_mask 1 (by decide) hbd
 refine ret1 rfl rfl ?_
 exact .p (LeP.of_eq (by first | (rw [show IntKind.u32.bits = 32 from rfl, hme]; exact congrArg (fun z => u32V z) (Eq.trans (wr_u32 _) hand)) | trace_state))
set_option maxHeartbeats 4000000 in
theorem c_ref07_known (op : Int) : PCall Try.prog 54 [iV op] (bV (decide (Pl.opOk op))) := by
 refine pcall_of_awp Try.func54 rfl (by simp [Try.ntmps54]) fun C hC => ?_
 refine awp_sr [] (by rw [hC]; rfl) fun k hk => ?_
 simp (maxSteps := 9^9) (disch := (try simp only [lens]); omega) only [argSl, sm, ↓amb, mark_eq, simprocAttr, dx]
 repeat refine ⟨by first | omega | (simp; done) | (unfold maxLen; omega) | (simp [maxLen]; omega) | assumption, ?_⟩
 refine hk _ ?_; clear hk k
 refine awp_test [] 2 (decide (Pl.opOk op)) [] (by rw [hC]; rfl) (fun gd hgd k hk => ?_) ?_
 ·have g2 : gd 2 = some 5 := by rw [hgd]; rfl
  clear hgd
  simp (maxSteps := 9^9) (disch := (try simp only [lens]); omega) only [argSl, sm, ↓amb, mark_eq, simprocAttr, gcase_undef, g2, dx]
  repeat' first | refine hk _ _ rfl rfl rfl rfl ?_ | (refine gsplit (fun hg => ?_) (fun hg => ?_) <;> (try simp only [hbx] at hg) <;> simp (maxSteps := 9^9) (disch := (try simp only [lens]); omega) only [argSl, sm, ↓amb, mark_eq, simprocAttr, gcase_undef, g2, dx]) | apply And.intro | fail
  all_goals first | rfl | omega | exact (decide_eq_true (by (try simp only [Pl.opOk] at *); omega)).symm | exact (decide_eq_false (by (try simp only [Pl.opOk] at *); omega)).symm | exact decide_eq_decide.mpr (by (try simp only [Pl.opOk] at *); omega) | (refine Bool.eq_iff_iff.mpr ?_; (try simp only [Pl.opOk] at *); simp only [beq_iff_eq, bne_iff_ne, ne_eq, decide_eq_true_eq]; omega) | (refine Bool.eq_iff_iff.mpr ?_; simp only [Bool.not_eq_true', Bool.not_eq_false', decide_eq_false_iff_not, decide_eq_true_eq, beq_iff_eq, bne_iff_ne, ne_eq]; (try simp only [Pl.opOk] at *); omega) | assumption | (simp; done) | (simp [maxLen]; omega) | skip
 simp only [kp, argSl, simprocAttr, List.length_cons, List.length_nil]
 refine awp_ret ?_
 refine ret1 rfl rfl ?_
 exact .p (LeP.refl _)
set_option maxHeartbeats 4000000 in
theorem c_ref07_One (x op y : Int) (hx : Pl.W32 x) (hy : Pl.W32 y) : PCall Try.prog 21 [u32V x, iV op, u32V y] (u32V (Pl.one x op y)) := by
 have how := Pl.one_w (op := op) hx hy
 refine pcall_of_awp Try.func21 rfl (by simp [Try.ntmps21]) fun C hC => ?_
 refine awp_le (le_keep [0, 1, 2]) ?_
 simp only [kp, argSl, simprocAttr]
 refine awp_sr [] (by rw [hC]; rfl) fun k hk => ?_
 simp (maxSteps := 9^9) (disch := (try simp only [lens]); omega) only [argSl, sm, ↓amb, mark_eq, simprocAttr, wr_u64, wr_u32, dx]
 repeat refine ⟨by first | omega | (simp; done) | (unfold maxLen; omega) | (simp [maxLen]; omega) | assumption, ?_⟩
 refine hk _ ?_; clear hk k
 refine awp_le (le_keep [0, 1, 2]) ?_
 simp only [kp, argSl, simprocAttr]
 refine awp_sr [] (by rw [hC]; rfl) fun k hk => ?_
 simp (maxSteps := 9^9) (disch := (try simp only [lens]); omega) only [argSl, sm, ↓amb, mark_eq, simprocAttr, wr_u64, wr_u32, dx]
 repeat refine ⟨by first | omega | (simp; done) | (unfold maxLen; omega) | (simp [maxLen]; omega) | assumption, ?_⟩
 refine hk _ ?_; clear hk k
 refine awp_seq fun k1 h1 => ?_
 refine awp_le (le_keep [0, 1, 2, 6, 7]) ?_
 simp only [kp, argSl, simprocAttr]
 refine awp_sr [] (by rw [hC]; rfl) fun k hk => ?_
 simp (maxSteps := 9^9) (disch := (try simp only [lens]); omega) only [argSl, sm, ↓amb, mark_eq, simprocAttr, wr_u64, wr_u32, dx]
 repeat refine ⟨by first | omega | (simp; done) | (unfold maxLen; omega) | (simp [maxLen]; omega) | assumption, ?_⟩
 refine hk _ ?_; clear hk k
 refine awp_block ?_
 refine awp_le (le_keep [0, 1, 2, 6, 7, 11]) ?_
 simp only [kp, argSl, simprocAttr]
 refine awp_sr [] (by rw [hC]; rfl) fun k hk => ?_
 simp (maxSteps := 9^9) (disch := (try simp only [lens]); omega) only [argSl, sm, ↓amb, mark_eq, simprocAttr, wr_u64, wr_u32, dx]
 repeat refine ⟨by first | omega | (simp; done) | (unfold maxLen; omega) | (simp [maxLen]; omega) | assumption, ?_⟩
 refine hk _ ?_; clear hk k
 refine awp_cond rfl (fun hb => ?_) (fun hb => ?_)
 ·try simp only [hbx] at hb
  refine awp_region [] (by rw [hC]; rfl) fun k hk => ?_
  simp (maxSteps := 9^9) (disch := (try simp only [lens]); omega) only [argSl, sm, ↓amb, mark_eq, simprocAttr, it69, un28, wr_u64, wr_u32, dx]
  repeat refine ⟨by first | omega | (simp; done) | (unfold maxLen; omega) | (simp [maxLen]; omega) | assumption, ?_⟩
  refine hk _ ?_; clear hk k
  refine h1 _ ?_; clear h1 k1
  refine awp_le (le_keep [7]) ?_
  simp only [kp, argSl, simprocAttr]
  refine awp_sr [] (by rw [hC]; rfl) fun k hk => ?_
  simp (maxSteps := 9^9) (disch := (try simp only [lens]); omega) only [argSl, sm, ↓amb, mark_eq, simprocAttr, it28, un69, wr_u64, wr_u32, dx]
  repeat refine ⟨by first | omega | (simp; done) | (unfold maxLen; omega) | (simp [maxLen]; omega) | assumption, ?_⟩
  refine hk _ ?_; clear hk k
  refine awp_ret ?_
  refine ret1 rfl rfl ?_
  exact .p (LeP.of_eq (congrArg (fun z => u32V z) (by first | exact Pl.one_add hx hy hb | exact Pl.one_fin how hi hb | exact Pl.up_e (by assumption) hi hb | exact Pl.dn_e hx (by assumption) hi hb | exact ((Pl.one_6 (by omega)).trans (if_pos (by omega))).symm | exact ((Pl.one_6 (by omega)).trans (if_neg (by omega))).symm | exact (Pl.one_no (by omega) (by omega) (by omega) (by omega) (by omega) (by omega)).symm | (rw [Pl.one_6 (by omega), if_pos (by omega)]; rfl) | (rw [Pl.one_6 (by omega), if_neg (by omega)]; rfl) | (rw [Pl.one_no (by omega) (by omega) (by omega) (by omega) (by omega) (by omega)]; rfl) | trace_state)))
 ·try simp only [hbx] at hb
  refine awp_seq fun k2 h2 => ?_
  refine awp_le (le_keep [0, 1, 2, 6, 7, 11]) ?_
  simp only [kp, argSl, simprocAttr]
  refine awp_sr [] (by rw [hC]; rfl) fun k hk => ?_
  simp (maxSteps := 9^9) (disch := (try simp only [lens]); omega) only [argSl, sm, ↓amb, mark_eq, simprocAttr, wr_u64, wr_u32, dx]
  repeat refine ⟨by first | omega | (simp; done) | (unfold maxLen; omega) | (simp [maxLen]; omega) | assumption, ?_⟩
  refine hk _ ?_; clear hk k
  refine awp_cond rfl (fun hb => ?_) (fun hb => ?_)
  ·try simp only [hbx] at hb
   refine awp_skip ?_
   refine h2 _ ?_; clear h2 k2
   refine awp_cond rfl (fun hb => ?_) (fun hb => ?_)
   ·try simp only [hbx] at hb
    refine awp_le (le_keep [0, 1, 2, 6, 7]) ?_
    simp only [kp, argSl, simprocAttr]
    refine awp_sr [] (by rw [hC]; rfl) fun k hk => ?_
    simp (maxSteps := 9^9) (disch := (try simp only [lens]); omega) only [argSl, sm, ↓amb, mark_eq, simprocAttr, wr_u64, wr_u32, dx]
    repeat refine ⟨by first | omega | (simp; done) | (unfold maxLen; omega) | (simp [maxLen]; omega) | assumption, ?_⟩
    refine hk _ ?_; clear hk k
    refine awp_block ?_
    refine awp_loop (σ := Nat) (fun i => i ≤ 32) (fun (i : Nat) => ⟨[(0, (.p (u32V x))), (1, (.p (iV op))), (2, (.p (u32V y))), (7, (.p (.lit (.int .u64 ((Pl.one x op y) % 2 ^ i))))), (8, (.p (iV (i : Int))))], [], 1⟩) (fun i => 32 - i) 0 ?_ ?_ fun i hi => ?_
    ·exact Nat.zero_le _
    ·exact le_of [] (by rfl) (by rfl) ⟨⟨_, rfl, .p (.of_eq (by first | rfl | (simp only [PV.lit.injEq, Value.int.injEq, true_and]; omega) | (simp; done) | (simp; omega)))⟩, ⟨_, rfl, .p (.of_eq (by first | rfl | (simp only [PV.lit.injEq, Value.int.injEq, true_and]; omega) | (simp; done) | (simp; omega)))⟩, ⟨_, rfl, .p (.of_eq (by first | rfl | (simp only [PV.lit.injEq, Value.int.injEq, true_and]; omega) | (simp; done) | (simp; omega)))⟩, ⟨_, rfl, .p (.of_eq (by first | (rw [Int.pow_zero, Int.emod_one]; done) | (rw [Pl.bit_acc how.1, Pl.bit_0 hb]; simp; done) | exact congrArg (fun z => PV.lit (.int .u64 z)) (Pl.bit_put how hi3 hb) | trace_state))⟩, ⟨_, rfl, .p (.of_eq (by first | rfl | (simp only [PV.lit.injEq, Value.int.injEq, true_and]; omega) | (simp; done) | (simp; omega)))⟩, trivial⟩ trivial
    refine awp_seq fun k4 h4 => ?_
    refine awp_le (le_keep [0, 1, 2, 6, 7, 8]) ?_
    simp only [kp, argSl, simprocAttr]
    refine awp_sr [] (by rw [hC]; rfl) fun k hk => ?_
    simp (maxSteps := 9^9) (disch := (try simp only [lens]); omega) only [argSl, sm, ↓amb, mark_eq, simprocAttr, wr_u64, wr_u32, dx]
    repeat refine ⟨by first | omega | (simp; done) | (unfold maxLen; omega) | (simp [maxLen]; omega) | assumption, ?_⟩
    refine hk _ ?_; clear hk k
    refine awp_cond rfl (fun hb => ?_) (fun hb => ?_)
    ·try simp only [hbx] at hb
     refine awp_skip ?_
     refine h4 _ ?_; clear h4 k4
     refine awp_seq fun k5 h5 => ?_
     refine awp_block ?_
     have hi3 : i < 32 := by omega
     have hbit : Pl.bitI (Pl.one x op y) i = 1 ↔ Pl.bitI x i ≠ Pl.bitI y i := by rw [Pl.one_2 (by omega)]; exact Pl.bit_xr hx hy i
     refine awp_test [] 51 (decide (Pl.bitI (Pl.one x op y) i = 1)) [0, 1, 2, 6, 7, 8] (by rw [hC]; rfl) (fun gd hgd k hk => ?_) ?_
     ·have g2 : gd 2 = some 29 := by rw [hgd]; rfl
      have g11 : gd 11 = some 38 := by rw [hgd]; rfl
      have g14 : gd 14 = some 41 := by rw [hgd]; rfl
      clear hgd
      simp (maxSteps := 9^9) (disch := (try simp only [lens]); omega) only [argSl, sm, ↓amb, mark_eq, simprocAttr, en59, gcase_undef, g2, g11, g14, wr_u64, wr_u32, dx]
      repeat' first | refine hk _ _ rfl rfl rfl rfl ?_ | (refine gsplit (fun hg => ?_) (fun hg => ?_) <;> (try simp only [hbx] at hg) <;> simp (maxSteps := 9^9) (disch := (try simp only [lens]); omega) only [argSl, sm, ↓amb, mark_eq, simprocAttr, en59, gcase_undef, g2, g11, g14, wr_u64, wr_u32, dx]) | apply And.intro | (refine callK_p (c_ref07_bit _ i hx (by omega)) rfl ?_; (try simp (maxSteps := 9^9) (disch := (try simp only [lens]); omega) only [argSl, sm, ↓amb, mark_eq, simprocAttr, en59, gcase_undef, g2, g11, g14, wr_u64, wr_u32, dx])) | (refine callK_p (c_ref07_bit _ i hy (by omega)) rfl ?_; (try simp (maxSteps := 9^9) (disch := (try simp only [lens]); omega) only [argSl, sm, ↓amb, mark_eq, simprocAttr, en59, gcase_undef, g2, g11, g14, wr_u64, wr_u32, dx])) | (refine callK_p (c_ref07_bit _ i hx (by omega)) rfl ?_; (try simp (maxSteps := 9^9) (disch := (try simp only [lens]); omega) only [argSl, sm, ↓amb, mark_eq, simprocAttr, en59, gcase_undef, g2, g11, g14, wr_u64, wr_u32, dx])) | (refine callK_p (c_ref07_bit _ i hy (by omega)) rfl ?_; (try simp (maxSteps := 9^9) (disch := (try simp only [lens]); omega) only [argSl, sm, ↓amb, mark_eq, simprocAttr, en59, gcase_undef, g2, g11, g14, wr_u64, wr_u32, dx])) | fail
      all_goals first | rfl | omega | exact (decide_eq_true (by omega)).symm | exact (decide_eq_false (by omega)).symm | exact decide_eq_decide.mpr (by omega) | (refine Bool.eq_iff_iff.mpr ?_; simp only [beq_iff_eq, bne_iff_ne, ne_eq, decide_eq_true_eq]; omega) | (refine Bool.eq_iff_iff.mpr ?_; simp only [Bool.not_eq_true', Bool.not_eq_false', decide_eq_false_iff_not, decide_eq_true_eq, beq_iff_eq, bne_iff_ne, ne_eq]; omega) | assumption | (simp; done) | (simp [maxLen]; omega) | skip
      all_goals first | (exfalso; omega) | exact (decide_eq_true (hbit.2 (by assumption))).symm | exact (decide_eq_false (fun q => absurd (hbit.1 q) (by assumption))).symm | (refine Bool.eq_iff_iff.mpr ?_; simp only [bne_iff_ne, beq_iff_eq, decide_eq_true_eq, ne_eq]; exact hbit.symm) | exact Pl.bit_two hbit | trace_state
     simp only [kp, argSl, simprocAttr, List.length_cons, List.length_nil]
     refine awp_cond rfl (fun hb => ?_) (fun hb => ?_)
     ·try simp only [hbx] at hb
      refine awp_region [] (by rw [hC]; rfl) fun k hk => ?_
      simp (maxSteps := 9^9) (disch := (try simp only [lens]); omega) only [argSl, sm, ↓amb, mark_eq, simprocAttr, it70, un3, wr_u64, wr_u32, dx]
      repeat refine ⟨by first | omega | (simp; done) | (unfold maxLen; omega) | (simp [maxLen]; omega) | assumption, ?_⟩
      refine hk _ ?_; clear hk k
      refine h5 _ ?_; clear h5 k5
      refine awp_region [] (by rw [hC]; rfl) fun k hk => ?_
      simp (maxSteps := 9^9) (disch := (try simp only [lens]); omega) only [argSl, sm, ↓amb, mark_eq, simprocAttr, wr_u64, wr_u32, dx]
      repeat refine ⟨by first | omega | (simp; done) | (unfold maxLen; omega) | (simp [maxLen]; omega) | assumption, ?_⟩
      refine hk _ ?_; clear hk k
      refine ⟨i + 1, by omega, le_of [] (by rfl) (by rfl) ⟨⟨_, rfl, .p (.of_eq (by first | rfl | (simp only [PV.lit.injEq, Value.int.injEq, true_and]; omega) | (simp; done) | (simp; omega)))⟩, ⟨_, rfl, .p (.of_eq (by first | rfl | (simp only [PV.lit.injEq, Value.int.injEq, true_and]; omega) | (simp; done) | (simp; omega)))⟩, ⟨_, rfl, .p (.of_eq (by first | rfl | (simp only [PV.lit.injEq, Value.int.injEq, true_and]; omega) | (simp; done) | (simp; omega)))⟩, ⟨_, rfl, .p (.of_eq (by first | (rw [Int.pow_zero, Int.emod_one]; done) | (rw [Pl.bit_acc how.1, Pl.bit_0 hb]; simp; done) | exact congrArg (fun z => PV.lit (.int .u64 z)) (Pl.bit_put how hi3 hb) | trace_state))⟩, ⟨_, rfl, .p (.of_eq (by first | rfl | (simp only [PV.lit.injEq, Value.int.injEq, true_and]; omega) | (simp; done) | (simp; omega)))⟩, trivial⟩ trivial, by omega⟩
     ·try simp only [hbx] at hb
      refine awp_skip ?_
      refine h5 _ ?_; clear h5 k5
      refine awp_region [] (by rw [hC]; rfl) fun k hk => ?_
      simp (maxSteps := 9^9) (disch := (try simp only [lens]); omega) only [argSl, sm, ↓amb, mark_eq, simprocAttr, wr_u64, wr_u32, dx]
      repeat refine ⟨by first | omega | (simp; done) | (unfold maxLen; omega) | (simp [maxLen]; omega) | assumption, ?_⟩
      refine hk _ ?_; clear hk k
      refine ⟨i + 1, by omega, le_of [] (by rfl) (by rfl) ⟨⟨_, rfl, .p (.of_eq (by first | rfl | (simp only [PV.lit.injEq, Value.int.injEq, true_and]; omega) | (simp; done) | (simp; omega)))⟩, ⟨_, rfl, .p (.of_eq (by first | rfl | (simp only [PV.lit.injEq, Value.int.injEq, true_and]; omega) | (simp; done) | (simp; omega)))⟩, ⟨_, rfl, .p (.of_eq (by first | rfl | (simp only [PV.lit.injEq, Value.int.injEq, true_and]; omega) | (simp; done) | (simp; omega)))⟩, ⟨_, rfl, .p (.of_eq (by first | (rw [Int.pow_zero, Int.emod_one]; done) | (rw [Pl.bit_acc how.1, Pl.bit_0 hb]; simp; done) | exact congrArg (fun z => PV.lit (.int .u64 z)) (Pl.bit_put how hi3 hb) | trace_state))⟩, ⟨_, rfl, .p (.of_eq (by first | rfl | (simp only [PV.lit.injEq, Value.int.injEq, true_and]; omega) | (simp; done) | (simp; omega)))⟩, trivial⟩ trivial, by omega⟩
    ·try simp only [hbx] at hb
     refine awp_exit ((if_pos rfl).mpr ?_)
     refine h1 _ ?_; clear h4 k4; clear h1 k1
     refine awp_le (le_keep [7]) ?_
     simp only [kp, argSl, simprocAttr]
     refine awp_sr [] (by rw [hC]; rfl) fun k hk => ?_
     simp (maxSteps := 9^9) (disch := (try simp only [lens]); omega) only [argSl, sm, ↓amb, mark_eq, simprocAttr, it28, un69, wr_u64, wr_u32, dx]
     repeat refine ⟨by first | omega | (simp; done) | (unfold maxLen; omega) | (simp [maxLen]; omega) | assumption, ?_⟩
     refine hk _ ?_; clear hk k
     refine awp_ret ?_
     refine ret1 rfl rfl ?_
     exact .p (LeP.of_eq (congrArg (fun z => u32V z) (by first | exact Pl.one_add hx hy hb | exact Pl.one_fin how hi hb | exact Pl.up_e (by assumption) hi hb | exact Pl.dn_e hx (by assumption) hi hb | exact ((Pl.one_6 (by omega)).trans (if_pos (by omega))).symm | exact ((Pl.one_6 (by omega)).trans (if_neg (by omega))).symm | exact (Pl.one_no (by omega) (by omega) (by omega) (by omega) (by omega) (by omega)).symm | (rw [Pl.one_6 (by omega), if_pos (by omega)]; rfl) | (rw [Pl.one_6 (by omega), if_neg (by omega)]; rfl) | (rw [Pl.one_no (by omega) (by omega) (by omega) (by omega) (by omega) (by omega)]; rfl) | trace_state)))
   ·(have h9 := beq_eq_false_iff_ne.mp hb; omega)
  ·try simp only [hbx] at hb
   refine awp_region [] (by rw [hC]; rfl) fun k hk => ?_
   simp (maxSteps := 9^9) (disch := (try simp only [lens]); omega) only [argSl, sm, ↓amb, mark_eq, simprocAttr, wr_u64, wr_u32, dx]
   repeat refine ⟨by first | omega | (simp; done) | (unfold maxLen; omega) | (simp [maxLen]; omega) | assumption, ?_⟩
   refine hk _ ?_; clear hk k
   refine h2 _ ?_; clear h2 k2
   refine awp_cond rfl (fun hb => ?_) (fun hb => ?_)
   ·try simp only [hbx] at hb
    refine awp_le (le_keep [0, 1, 2, 6, 7]) ?_
    simp only [kp, argSl, simprocAttr]
    refine awp_sr [] (by rw [hC]; rfl) fun k hk => ?_
    simp (maxSteps := 9^9) (disch := (try simp only [lens]); omega) only [argSl, sm, ↓amb, mark_eq, simprocAttr, wr_u64, wr_u32, dx]
    repeat refine ⟨by first | omega | (simp; done) | (unfold maxLen; omega) | (simp [maxLen]; omega) | assumption, ?_⟩
    refine hk _ ?_; clear hk k
    refine awp_block ?_
    refine awp_loop (σ := Nat) (fun i => i ≤ 32) (fun (i : Nat) => ⟨[(0, (.p (u32V x))), (1, (.p (iV op))), (2, (.p (u32V y))), (7, (.p (.lit (.int .u64 ((Pl.one x op y) % 2 ^ i))))), (8, (.p (iV (i : Int))))], [], 1⟩) (fun i => 32 - i) 0 ?_ ?_ fun i hi => ?_
    ·exact Nat.zero_le _
    ·exact le_of [] (by rfl) (by rfl) ⟨⟨_, rfl, .p (.of_eq (by first | rfl | (simp only [PV.lit.injEq, Value.int.injEq, true_and]; omega) | (simp; done) | (simp; omega)))⟩, ⟨_, rfl, .p (.of_eq (by first | rfl | (simp only [PV.lit.injEq, Value.int.injEq, true_and]; omega) | (simp; done) | (simp; omega)))⟩, ⟨_, rfl, .p (.of_eq (by first | rfl | (simp only [PV.lit.injEq, Value.int.injEq, true_and]; omega) | (simp; done) | (simp; omega)))⟩, ⟨_, rfl, .p (.of_eq (by first | (rw [Int.pow_zero, Int.emod_one]; done) | (rw [Pl.bit_acc how.1, Pl.bit_0 hb]; simp; done) | exact congrArg (fun z => PV.lit (.int .u64 z)) (Pl.bit_put how hi3 hb) | trace_state))⟩, ⟨_, rfl, .p (.of_eq (by first | rfl | (simp only [PV.lit.injEq, Value.int.injEq, true_and]; omega) | (simp; done) | (simp; omega)))⟩, trivial⟩ trivial
    refine awp_seq fun k7 h7 => ?_
    refine awp_le (le_keep [0, 1, 2, 6, 7, 8]) ?_
    simp only [kp, argSl, simprocAttr]
    refine awp_sr [] (by rw [hC]; rfl) fun k hk => ?_
    simp (maxSteps := 9^9) (disch := (try simp only [lens]); omega) only [argSl, sm, ↓amb, mark_eq, simprocAttr, wr_u64, wr_u32, dx]
    repeat refine ⟨by first | omega | (simp; done) | (unfold maxLen; omega) | (simp [maxLen]; omega) | assumption, ?_⟩
    refine hk _ ?_; clear hk k
    refine awp_cond rfl (fun hb => ?_) (fun hb => ?_)
    ·try simp only [hbx] at hb
     refine awp_skip ?_
     refine h7 _ ?_; clear h7 k7
     refine awp_seq fun k8 h8 => ?_
     refine awp_block ?_
     have hi3 : i < 32 := by omega
     have hbit : Pl.bitI (Pl.one x op y) i = 1 ↔ Pl.bitI x i + Pl.bitI y i = 2 := by rw [Pl.one_5 (by omega)]; exact Pl.bit_an hx hy i
     refine awp_test [] 51 (decide (Pl.bitI (Pl.one x op y) i = 1)) [0, 1, 2, 6, 7, 8] (by rw [hC]; rfl) (fun gd hgd k hk => ?_) ?_
     ·have g2 : gd 2 = some 29 := by rw [hgd]; rfl
      have g11 : gd 11 = some 38 := by rw [hgd]; rfl
      have g14 : gd 14 = some 41 := by rw [hgd]; rfl
      clear hgd
      simp (maxSteps := 9^9) (disch := (try simp only [lens]); omega) only [argSl, sm, ↓amb, mark_eq, simprocAttr, en59, gcase_undef, g2, g11, g14, wr_u64, wr_u32, dx]
      repeat' first | refine hk _ _ rfl rfl rfl rfl ?_ | (refine gsplit (fun hg => ?_) (fun hg => ?_) <;> (try simp only [hbx] at hg) <;> simp (maxSteps := 9^9) (disch := (try simp only [lens]); omega) only [argSl, sm, ↓amb, mark_eq, simprocAttr, en59, gcase_undef, g2, g11, g14, wr_u64, wr_u32, dx]) | apply And.intro | (refine callK_p (c_ref07_bit _ i hx (by omega)) rfl ?_; (try simp (maxSteps := 9^9) (disch := (try simp only [lens]); omega) only [argSl, sm, ↓amb, mark_eq, simprocAttr, en59, gcase_undef, g2, g11, g14, wr_u64, wr_u32, dx])) | (refine callK_p (c_ref07_bit _ i hy (by omega)) rfl ?_; (try simp (maxSteps := 9^9) (disch := (try simp only [lens]); omega) only [argSl, sm, ↓amb, mark_eq, simprocAttr, en59, gcase_undef, g2, g11, g14, wr_u64, wr_u32, dx])) | (refine callK_p (c_ref07_bit _ i hx (by omega)) rfl ?_; (try simp (maxSteps := 9^9) (disch := (try simp only [lens]); omega) only [argSl, sm, ↓amb, mark_eq, simprocAttr, en59, gcase_undef, g2, g11, g14, wr_u64, wr_u32, dx])) | (refine callK_p (c_ref07_bit _ i hy (by omega)) rfl ?_; (try simp (maxSteps := 9^9) (disch := (try simp only [lens]); omega) only [argSl, sm, ↓amb, mark_eq, simprocAttr, en59, gcase_undef, g2, g11, g14, wr_u64, wr_u32, dx])) | fail
      all_goals first | rfl | omega | exact (decide_eq_true (by omega)).symm | exact (decide_eq_false (by omega)).symm | exact decide_eq_decide.mpr (by omega) | (refine Bool.eq_iff_iff.mpr ?_; simp only [beq_iff_eq, bne_iff_ne, ne_eq, decide_eq_true_eq]; omega) | (refine Bool.eq_iff_iff.mpr ?_; simp only [Bool.not_eq_true', Bool.not_eq_false', decide_eq_false_iff_not, decide_eq_true_eq, beq_iff_eq, bne_iff_ne, ne_eq]; omega) | assumption | (simp; done) | (simp [maxLen]; omega) | skip
      all_goals first | (exfalso; omega) | exact (decide_eq_true (hbit.2 (by assumption))).symm | exact (decide_eq_false (fun q => absurd (hbit.1 q) (by assumption))).symm | (refine Bool.eq_iff_iff.mpr ?_; simp only [bne_iff_ne, beq_iff_eq, decide_eq_true_eq, ne_eq]; exact hbit.symm) | exact Pl.bit_two hbit | trace_state
     simp only [kp, argSl, simprocAttr, List.length_cons, List.length_nil]
     refine awp_cond rfl (fun hb => ?_) (fun hb => ?_)
     ·try simp only [hbx] at hb
      refine awp_region [] (by rw [hC]; rfl) fun k hk => ?_
      simp (maxSteps := 9^9) (disch := (try simp only [lens]); omega) only [argSl, sm, ↓amb, mark_eq, simprocAttr, it70, un3, wr_u64, wr_u32, dx]
      repeat refine ⟨by first | omega | (simp; done) | (unfold maxLen; omega) | (simp [maxLen]; omega) | assumption, ?_⟩
      refine hk _ ?_; clear hk k
      refine h8 _ ?_; clear h8 k8
      refine awp_region [] (by rw [hC]; rfl) fun k hk => ?_
      simp (maxSteps := 9^9) (disch := (try simp only [lens]); omega) only [argSl, sm, ↓amb, mark_eq, simprocAttr, wr_u64, wr_u32, dx]
      repeat refine ⟨by first | omega | (simp; done) | (unfold maxLen; omega) | (simp [maxLen]; omega) | assumption, ?_⟩
      refine hk _ ?_; clear hk k
      refine ⟨i + 1, by omega, le_of [] (by rfl) (by rfl) ⟨⟨_, rfl, .p (.of_eq (by first | rfl | (simp only [PV.lit.injEq, Value.int.injEq, true_and]; omega) | (simp; done) | (simp; omega)))⟩, ⟨_, rfl, .p (.of_eq (by first | rfl | (simp only [PV.lit.injEq, Value.int.injEq, true_and]; omega) | (simp; done) | (simp; omega)))⟩, ⟨_, rfl, .p (.of_eq (by first | rfl | (simp only [PV.lit.injEq, Value.int.injEq, true_and]; omega) | (simp; done) | (simp; omega)))⟩, ⟨_, rfl, .p (.of_eq (by first | (rw [Int.pow_zero, Int.emod_one]; done) | (rw [Pl.bit_acc how.1, Pl.bit_0 hb]; simp; done) | exact congrArg (fun z => PV.lit (.int .u64 z)) (Pl.bit_put how hi3 hb) | trace_state))⟩, ⟨_, rfl, .p (.of_eq (by first | rfl | (simp only [PV.lit.injEq, Value.int.injEq, true_and]; omega) | (simp; done) | (simp; omega)))⟩, trivial⟩ trivial, by omega⟩
     ·try simp only [hbx] at hb
      refine awp_skip ?_
      refine h8 _ ?_; clear h8 k8
      refine awp_region [] (by rw [hC]; rfl) fun k hk => ?_
      simp (maxSteps := 9^9) (disch := (try simp only [lens]); omega) only [argSl, sm, ↓amb, mark_eq, simprocAttr, wr_u64, wr_u32, dx]
      repeat refine ⟨by first | omega | (simp; done) | (unfold maxLen; omega) | (simp [maxLen]; omega) | assumption, ?_⟩
      refine hk _ ?_; clear hk k
      refine ⟨i + 1, by omega, le_of [] (by rfl) (by rfl) ⟨⟨_, rfl, .p (.of_eq (by first | rfl | (simp only [PV.lit.injEq, Value.int.injEq, true_and]; omega) | (simp; done) | (simp; omega)))⟩, ⟨_, rfl, .p (.of_eq (by first | rfl | (simp only [PV.lit.injEq, Value.int.injEq, true_and]; omega) | (simp; done) | (simp; omega)))⟩, ⟨_, rfl, .p (.of_eq (by first | rfl | (simp only [PV.lit.injEq, Value.int.injEq, true_and]; omega) | (simp; done) | (simp; omega)))⟩, ⟨_, rfl, .p (.of_eq (by first | (rw [Int.pow_zero, Int.emod_one]; done) | (rw [Pl.bit_acc how.1, Pl.bit_0 hb]; simp; done) | exact congrArg (fun z => PV.lit (.int .u64 z)) (Pl.bit_put how hi3 hb) | trace_state))⟩, ⟨_, rfl, .p (.of_eq (by first | rfl | (simp only [PV.lit.injEq, Value.int.injEq, true_and]; omega) | (simp; done) | (simp; omega)))⟩, trivial⟩ trivial, by omega⟩
    ·try simp only [hbx] at hb
     refine awp_exit ((if_pos rfl).mpr ?_)
     refine h1 _ ?_; clear h7 k7; clear h1 k1
     refine awp_le (le_keep [7]) ?_
     simp only [kp, argSl, simprocAttr]
     refine awp_sr [] (by rw [hC]; rfl) fun k hk => ?_
     simp (maxSteps := 9^9) (disch := (try simp only [lens]); omega) only [argSl, sm, ↓amb, mark_eq, simprocAttr, it28, un69, wr_u64, wr_u32, dx]
     repeat refine ⟨by first | omega | (simp; done) | (unfold maxLen; omega) | (simp [maxLen]; omega) | assumption, ?_⟩
     refine hk _ ?_; clear hk k
     refine awp_ret ?_
     refine ret1 rfl rfl ?_
     exact .p (LeP.of_eq (congrArg (fun z => u32V z) (by first | exact Pl.one_add hx hy hb | exact Pl.one_fin how hi hb | exact Pl.up_e (by assumption) hi hb | exact Pl.dn_e hx (by assumption) hi hb | exact ((Pl.one_6 (by omega)).trans (if_pos (by omega))).symm | exact ((Pl.one_6 (by omega)).trans (if_neg (by omega))).symm | exact (Pl.one_no (by omega) (by omega) (by omega) (by omega) (by omega) (by omega)).symm | (rw [Pl.one_6 (by omega), if_pos (by omega)]; rfl) | (rw [Pl.one_6 (by omega), if_neg (by omega)]; rfl) | (rw [Pl.one_no (by omega) (by omega) (by omega) (by omega) (by omega) (by omega)]; rfl) | trace_state)))
   ·try simp only [hbx] at hb
    refine awp_le (le_keep [0, 2, 6, 7, 11]) ?_
    simp only [kp, argSl, simprocAttr]
    refine awp_sr [] (by rw [hC]; rfl) fun k hk => ?_
    simp (maxSteps := 9^9) (disch := (try simp only [lens]); omega) only [argSl, sm, ↓amb, mark_eq, simprocAttr, wr_u64, wr_u32, dx]
    repeat refine ⟨by first | omega | (simp; done) | (unfold maxLen; omega) | (simp [maxLen]; omega) | assumption, ?_⟩
    refine hk _ ?_; clear hk k
    refine awp_cond rfl (fun hb => ?_) (fun hb => ?_)
    ·try simp only [hbx] at hb
     refine awp_le (le_keep [0, 2, 6]) ?_
     simp only [kp, argSl, simprocAttr]
     refine awp_sr [] (by rw [hC]; rfl) fun k hk => ?_
     simp (maxSteps := 9^9) (disch := (try simp only [lens]); omega) only [argSl, sm, ↓amb, mark_eq, simprocAttr, it69, un28, wr_u64, wr_u32, dx]
     repeat refine ⟨by first | omega | (simp; done) | (unfold maxLen; omega) | (simp [maxLen]; omega) | assumption, ?_⟩
     refine hk _ ?_; clear hk k
     refine awp_le (le_keep [2, 6, 7]) ?_
     simp only [kp, argSl, simprocAttr]
     refine awp_sr [] (by rw [hC]; rfl) fun k hk => ?_
     simp (maxSteps := 9^9) (disch := (try simp only [lens]); omega) only [argSl, sm, ↓amb, mark_eq, simprocAttr, wr_u64, wr_u32, dx]
     repeat refine ⟨by first | omega | (simp; done) | (unfold maxLen; omega) | (simp [maxLen]; omega) | assumption, ?_⟩
     refine hk _ ?_; clear hk k
     refine awp_block ?_
     refine awp_loop (σ := Nat) (fun i => (i : Int) ≤ y % 32) (fun (i : Nat) => ⟨[(2, (.p (u32V y))), (7, (.p (.lit (.int .u64 ((x * 2 ^ i) % 4294967296))))), (9, (.p (u32V (i : Int))))], [], 1⟩) (fun i => 32 - i) 0 ?_ ?_ fun i hi => ?_
     ·show ((0 : Nat) : Int) ≤ _; omega
     ·exact le_of [] (by rfl) (by rfl) ⟨⟨_, rfl, .p (.of_eq (by first | rfl | (simp only [PV.lit.injEq, Value.int.injEq, true_and]; omega) | (simp; done) | (simp; omega)))⟩, ⟨_, rfl, .p (.of_eq (congrArg (fun z => PV.lit (.int .u64 z)) (by first | exact Pl.up_0 hx | exact Pl.up_s x i | trace_state)))⟩, ⟨_, rfl, .p (.of_eq (by first | rfl | (simp only [PV.lit.injEq, Value.int.injEq, true_and]; omega) | (simp; done) | (simp; omega)))⟩, trivial⟩ trivial
     refine awp_seq fun k10 h10 => ?_
     refine awp_le (le_keep [2, 6, 7, 9]) ?_
     simp only [kp, argSl, simprocAttr]
     refine awp_sr [] (by rw [hC]; rfl) fun k hk => ?_
     simp (maxSteps := 9^9) (disch := (try simp only [lens]); omega) only [argSl, sm, ↓amb, mark_eq, simprocAttr, wr_u64, wr_u32, dx]
     repeat refine ⟨by first | omega | (simp; done) | (unfold maxLen; omega) | (simp [maxLen]; omega) | assumption, ?_⟩
     refine hk _ ?_; clear hk k
     refine awp_cond rfl (fun hb => ?_) (fun hb => ?_)
     ·try simp only [hbx] at hb
      refine awp_skip ?_
      refine h10 _ ?_; clear h10 k10
      refine awp_seq fun k11 h11 => ?_
      refine awp_block ?_
      refine awp_region [] (by rw [hC]; rfl) fun k hk => ?_
      simp (maxSteps := 9^9) (disch := (try simp only [lens]); omega) only [argSl, sm, ↓amb, mark_eq, simprocAttr, wr_u64, wr_u32, dx]
      repeat refine ⟨by first | omega | (simp; done) | (unfold maxLen; omega) | (simp [maxLen]; omega) | assumption, ?_⟩
      refine hk _ ?_; clear hk k
      refine h11 _ ?_; clear h11 k11
      refine awp_region [] (by rw [hC]; rfl) fun k hk => ?_
      simp (maxSteps := 9^9) (disch := (try simp only [lens]); omega) only [argSl, sm, ↓amb, mark_eq, simprocAttr, wr_u64, wr_u32, dx]
      repeat refine ⟨by first | omega | (simp; done) | (unfold maxLen; omega) | (simp [maxLen]; omega) | assumption, ?_⟩
      refine hk _ ?_; clear hk k
      refine ⟨i + 1, by omega, le_of [] (by rfl) (by rfl) ⟨⟨_, rfl, .p (.of_eq (by first | rfl | (simp only [PV.lit.injEq, Value.int.injEq, true_and]; omega) | (simp; done) | (simp; omega)))⟩, ⟨_, rfl, .p (.of_eq (congrArg (fun z => PV.lit (.int .u64 z)) (by first | exact Pl.up_0 hx | exact Pl.up_s x i | trace_state)))⟩, ⟨_, rfl, .p (.of_eq (by first | rfl | (simp only [PV.lit.injEq, Value.int.injEq, true_and]; omega) | (simp; done) | (simp; omega)))⟩, trivial⟩ trivial, by omega⟩
     ·try simp only [hbx] at hb
      refine awp_exit ((if_pos rfl).mpr ?_)
      refine h1 _ ?_; clear h10 k10; clear h1 k1
      refine awp_le (le_keep [7]) ?_
      simp only [kp, argSl, simprocAttr]
      refine awp_sr [] (by rw [hC]; rfl) fun k hk => ?_
      simp (maxSteps := 9^9) (disch := (try simp only [lens]); omega) only [argSl, sm, ↓amb, mark_eq, simprocAttr, it28, un69, wr_u64, wr_u32, dx]
      repeat refine ⟨by first | omega | (simp; done) | (unfold maxLen; omega) | (simp [maxLen]; omega) | assumption, ?_⟩
      refine hk _ ?_; clear hk k
      refine awp_ret ?_
      refine ret1 rfl rfl ?_
      exact .p (LeP.of_eq (congrArg (fun z => u32V z) (by first | exact Pl.one_add hx hy hb | exact Pl.one_fin how hi hb | exact Pl.up_e (by assumption) hi hb | exact Pl.dn_e hx (by assumption) hi hb | exact ((Pl.one_6 (by omega)).trans (if_pos (by omega))).symm | exact ((Pl.one_6 (by omega)).trans (if_neg (by omega))).symm | exact (Pl.one_no (by omega) (by omega) (by omega) (by omega) (by omega) (by omega)).symm | (rw [Pl.one_6 (by omega), if_pos (by omega)]; rfl) | (rw [Pl.one_6 (by omega), if_neg (by omega)]; rfl) | (rw [Pl.one_no (by omega) (by omega) (by omega) (by omega) (by omega) (by omega)]; rfl) | trace_state)))
    ·try simp only [hbx] at hb
     refine awp_le (le_keep [0, 2, 6, 7, 11]) ?_
     simp only [kp, argSl, simprocAttr]
     refine awp_sr [] (by rw [hC]; rfl) fun k hk => ?_
     simp (maxSteps := 9^9) (disch := (try simp only [lens]); omega) only [argSl, sm, ↓amb, mark_eq, simprocAttr, wr_u64, wr_u32, dx]
     repeat refine ⟨by first | omega | (simp; done) | (unfold maxLen; omega) | (simp [maxLen]; omega) | assumption, ?_⟩
     refine hk _ ?_; clear hk k
     refine awp_cond rfl (fun hb => ?_) (fun hb => ?_)
     ·try simp only [hbx] at hb
      refine awp_le (le_keep [0, 2, 6]) ?_
      simp only [kp, argSl, simprocAttr]
      refine awp_sr [] (by rw [hC]; rfl) fun k hk => ?_
      simp (maxSteps := 9^9) (disch := (try simp only [lens]); omega) only [argSl, sm, ↓amb, mark_eq, simprocAttr, it69, un28, wr_u64, wr_u32, dx]
      repeat refine ⟨by first | omega | (simp; done) | (unfold maxLen; omega) | (simp [maxLen]; omega) | assumption, ?_⟩
      refine hk _ ?_; clear hk k
      refine awp_le (le_keep [2, 6, 7]) ?_
      simp only [kp, argSl, simprocAttr]
      refine awp_sr [] (by rw [hC]; rfl) fun k hk => ?_
      simp (maxSteps := 9^9) (disch := (try simp only [lens]); omega) only [argSl, sm, ↓amb, mark_eq, simprocAttr, wr_u64, wr_u32, dx]
      repeat refine ⟨by first | omega | (simp; done) | (unfold maxLen; omega) | (simp [maxLen]; omega) | assumption, ?_⟩
      refine hk _ ?_; clear hk k
      refine awp_block ?_
      refine awp_loop (σ := Nat) (fun i => (i : Int) ≤ y % 32) (fun (i : Nat) => ⟨[(2, (.p (u32V y))), (7, (.p (.lit (.int .u64 (x / 2 ^ i))))), (10, (.p (u32V (i : Int))))], [], 1⟩) (fun i => 32 - i) 0 ?_ ?_ fun i hi => ?_
      ·show ((0 : Nat) : Int) ≤ _; omega
      ·exact le_of [] (by rfl) (by rfl) ⟨⟨_, rfl, .p (.of_eq (by first | rfl | (simp only [PV.lit.injEq, Value.int.injEq, true_and]; omega) | (simp; done) | (simp; omega)))⟩, ⟨_, rfl, .p (.of_eq (congrArg (fun z => PV.lit (.int .u64 z)) (by first | exact Pl.dn_0 hx | exact Pl.dn_s hx i | trace_state)))⟩, ⟨_, rfl, .p (.of_eq (by first | rfl | (simp only [PV.lit.injEq, Value.int.injEq, true_and]; omega) | (simp; done) | (simp; omega)))⟩, trivial⟩ trivial
      refine awp_seq fun k13 h13 => ?_
      refine awp_le (le_keep [2, 6, 7, 10]) ?_
      simp only [kp, argSl, simprocAttr]
      refine awp_sr [] (by rw [hC]; rfl) fun k hk => ?_
      simp (maxSteps := 9^9) (disch := (try simp only [lens]); omega) only [argSl, sm, ↓amb, mark_eq, simprocAttr, wr_u64, wr_u32, dx]
      repeat refine ⟨by first | omega | (simp; done) | (unfold maxLen; omega) | (simp [maxLen]; omega) | assumption, ?_⟩
      refine hk _ ?_; clear hk k
      refine awp_cond rfl (fun hb => ?_) (fun hb => ?_)
      ·try simp only [hbx] at hb
       refine awp_skip ?_
       refine h13 _ ?_; clear h13 k13
       refine awp_seq fun k14 h14 => ?_
       refine awp_block ?_
       refine awp_region [] (by rw [hC]; rfl) fun k hk => ?_
       simp (maxSteps := 9^9) (disch := (try simp only [lens]); omega) only [argSl, sm, ↓amb, mark_eq, simprocAttr, wr_u64, wr_u32, dx]
       repeat refine ⟨by first | omega | (simp; done) | (unfold maxLen; omega) | (simp [maxLen]; omega) | assumption, ?_⟩
       refine hk _ ?_; clear hk k
       refine h14 _ ?_; clear h14 k14
       refine awp_region [] (by rw [hC]; rfl) fun k hk => ?_
       simp (maxSteps := 9^9) (disch := (try simp only [lens]); omega) only [argSl, sm, ↓amb, mark_eq, simprocAttr, wr_u64, wr_u32, dx]
       repeat refine ⟨by first | omega | (simp; done) | (unfold maxLen; omega) | (simp [maxLen]; omega) | assumption, ?_⟩
       refine hk _ ?_; clear hk k
       refine ⟨i + 1, by omega, le_of [] (by rfl) (by rfl) ⟨⟨_, rfl, .p (.of_eq (by first | rfl | (simp only [PV.lit.injEq, Value.int.injEq, true_and]; omega) | (simp; done) | (simp; omega)))⟩, ⟨_, rfl, .p (.of_eq (congrArg (fun z => PV.lit (.int .u64 z)) (by first | exact Pl.dn_0 hx | exact Pl.dn_s hx i | trace_state)))⟩, ⟨_, rfl, .p (.of_eq (by first | rfl | (simp only [PV.lit.injEq, Value.int.injEq, true_and]; omega) | (simp; done) | (simp; omega)))⟩, trivial⟩ trivial, by omega⟩
      ·try simp only [hbx] at hb
       refine awp_exit ((if_pos rfl).mpr ?_)
       refine h1 _ ?_; clear h13 k13; clear h1 k1
       refine awp_le (le_keep [7]) ?_
       simp only [kp, argSl, simprocAttr]
       refine awp_sr [] (by rw [hC]; rfl) fun k hk => ?_
       simp (maxSteps := 9^9) (disch := (try simp only [lens]); omega) only [argSl, sm, ↓amb, mark_eq, simprocAttr, it28, un69, wr_u64, wr_u32, dx]
       repeat refine ⟨by first | omega | (simp; done) | (unfold maxLen; omega) | (simp [maxLen]; omega) | assumption, ?_⟩
       refine hk _ ?_; clear hk k
       refine awp_ret ?_
       refine ret1 rfl rfl ?_
       exact .p (LeP.of_eq (congrArg (fun z => u32V z) (by first | exact Pl.one_add hx hy hb | exact Pl.one_fin how hi hb | exact Pl.up_e (by assumption) hi hb | exact Pl.dn_e hx (by assumption) hi hb | exact ((Pl.one_6 (by omega)).trans (if_pos (by omega))).symm | exact ((Pl.one_6 (by omega)).trans (if_neg (by omega))).symm | exact (Pl.one_no (by omega) (by omega) (by omega) (by omega) (by omega) (by omega)).symm | (rw [Pl.one_6 (by omega), if_pos (by omega)]; rfl) | (rw [Pl.one_6 (by omega), if_neg (by omega)]; rfl) | (rw [Pl.one_no (by omega) (by omega) (by omega) (by omega) (by omega) (by omega)]; rfl) | trace_state)))
     ·try simp only [hbx] at hb
      refine awp_le (le_keep [0, 2, 6, 7, 11]) ?_
      simp only [kp, argSl, simprocAttr]
      refine awp_sr [] (by rw [hC]; rfl) fun k hk => ?_
      simp (maxSteps := 9^9) (disch := (try simp only [lens]); omega) only [argSl, sm, ↓amb, mark_eq, simprocAttr, wr_u64, wr_u32, dx]
      repeat refine ⟨by first | omega | (simp; done) | (unfold maxLen; omega) | (simp [maxLen]; omega) | assumption, ?_⟩
      refine hk _ ?_; clear hk k
      refine awp_cond rfl (fun hb => ?_) (fun hb => ?_)
      ·try simp only [hbx] at hb
       refine awp_le (le_keep [0, 2, 6, 7]) ?_
       simp only [kp, argSl, simprocAttr]
       refine awp_sr [] (by rw [hC]; rfl) fun k hk => ?_
       simp (maxSteps := 9^9) (disch := (try simp only [lens]); omega) only [argSl, sm, ↓amb, mark_eq, simprocAttr, wr_u64, wr_u32, dx]
       repeat refine ⟨by first | omega | (simp; done) | (unfold maxLen; omega) | (simp [maxLen]; omega) | assumption, ?_⟩
       refine hk _ ?_; clear hk k
       refine awp_cond rfl (fun hb => ?_) (fun hb => ?_)
       ·try simp only [hbx] at hb
        refine awp_region [] (by rw [hC]; rfl) fun k hk => ?_
        simp (maxSteps := 9^9) (disch := (try simp only [lens]); omega) only [argSl, sm, ↓amb, mark_eq, simprocAttr, wr_u64, wr_u32, dx]
        repeat refine ⟨by first | omega | (simp; done) | (unfold maxLen; omega) | (simp [maxLen]; omega) | assumption, ?_⟩
        refine hk _ ?_; clear hk k
        refine h1 _ ?_; clear h1 k1
        refine awp_le (le_keep [7]) ?_
        simp only [kp, argSl, simprocAttr]
        refine awp_sr [] (by rw [hC]; rfl) fun k hk => ?_
        simp (maxSteps := 9^9) (disch := (try simp only [lens]); omega) only [argSl, sm, ↓amb, mark_eq, simprocAttr, it28, un69, wr_u64, wr_u32, dx]
        repeat refine ⟨by first | omega | (simp; done) | (unfold maxLen; omega) | (simp [maxLen]; omega) | assumption, ?_⟩
        refine hk _ ?_; clear hk k
        refine awp_ret ?_
        refine ret1 rfl rfl ?_
        exact .p (LeP.of_eq (congrArg (fun z => u32V z) (by first | exact Pl.one_add hx hy hb | exact Pl.one_fin how hi hb | exact Pl.up_e (by assumption) hi hb | exact Pl.dn_e hx (by assumption) hi hb | exact ((Pl.one_6 (by omega)).trans (if_pos (by omega))).symm | exact ((Pl.one_6 (by omega)).trans (if_neg (by omega))).symm | exact (Pl.one_no (by omega) (by omega) (by omega) (by omega) (by omega) (by omega)).symm | (rw [Pl.one_6 (by omega), if_pos (by omega)]; rfl) | (rw [Pl.one_6 (by omega), if_neg (by omega)]; rfl) | (rw [Pl.one_no (by omega) (by omega) (by omega) (by omega) (by omega) (by omega)]; rfl) | trace_state)))
       ·try simp only [hbx] at hb
        refine awp_skip ?_
        refine h1 _ ?_; clear h1 k1
        refine awp_le (le_keep [7]) ?_
        simp only [kp, argSl, simprocAttr]
        refine awp_sr [] (by rw [hC]; rfl) fun k hk => ?_
        simp (maxSteps := 9^9) (disch := (try simp only [lens]); omega) only [argSl, sm, ↓amb, mark_eq, simprocAttr, it28, un69, wr_u64, wr_u32, dx]
        repeat refine ⟨by first | omega | (simp; done) | (unfold maxLen; omega) | (simp [maxLen]; omega) | assumption, ?_⟩
        refine hk _ ?_; clear hk k
        refine awp_ret ?_
        refine ret1 rfl rfl ?_
        exact .p (LeP.of_eq (congrArg (fun z => u32V z) (by first | exact Pl.one_add hx hy hb | exact Pl.one_fin how hi hb | exact Pl.up_e (by assumption) hi hb | exact Pl.dn_e hx (by assumption) hi hb | exact ((Pl.one_6 (by omega)).trans (if_pos (by omega))).symm | exact ((Pl.one_6 (by omega)).trans (if_neg (by omega))).symm | exact (Pl.one_no (by omega) (by omega) (by omega) (by omega) (by omega) (by omega)).symm | (rw [Pl.one_6 (by omega), if_pos (by omega)]; rfl) | (rw [Pl.one_6 (by omega), if_neg (by omega)]; rfl) | (rw [Pl.one_no (by omega) (by omega) (by omega) (by omega) (by omega) (by omega)]; rfl) | trace_state)))
      ·try simp only [hbx] at hb
       refine awp_skip ?_
       refine h1 _ ?_; clear h1 k1
       refine awp_le (le_keep [7]) ?_
       simp only [kp, argSl, simprocAttr]
       refine awp_sr [] (by rw [hC]; rfl) fun k hk => ?_
       simp (maxSteps := 9^9) (disch := (try simp only [lens]); omega) only [argSl, sm, ↓amb, mark_eq, simprocAttr, it28, un69, wr_u64, wr_u32, dx]
       repeat refine ⟨by first | omega | (simp; done) | (unfold maxLen; omega) | (simp [maxLen]; omega) | assumption, ?_⟩
       refine hk _ ?_; clear hk k
       refine awp_ret ?_
       refine ret1 rfl rfl ?_
       exact .p (LeP.of_eq (congrArg (fun z => u32V z) (by first | exact Pl.one_add hx hy hb | exact Pl.one_fin how hi hb | exact Pl.up_e (by assumption) hi hb | exact Pl.dn_e hx (by assumption) hi hb | exact ((Pl.one_6 (by omega)).trans (if_pos (by omega))).symm | exact ((Pl.one_6 (by omega)).trans (if_neg (by omega))).symm | exact (Pl.one_no (by omega) (by omega) (by omega) (by omega) (by omega) (by omega)).symm | (rw [Pl.one_6 (by omega), if_pos (by omega)]; rfl) | (rw [Pl.one_6 (by omega), if_neg (by omega)]; rfl) | (rw [Pl.one_no (by omega) (by omega) (by omega) (by omega) (by omega) (by omega)]; rfl) | trace_state)))
end Go.Proofs.Ythelnccjcbnjfaa
