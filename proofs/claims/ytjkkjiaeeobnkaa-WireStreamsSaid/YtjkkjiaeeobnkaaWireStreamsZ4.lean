/-
  WireStreams, part 4 of 5: what the proof that the law holds at whatever arguments stands on; the last part holds the theorem. No condition.
-/
import Derived.Test.YtjkkjiaeeobnkaaWireStreamsZ3
import Derived.Test.YtjkkjiaeeobnkaaRows
section
set_option linter.unusedSimpArgs false
set_option linter.unusedVariables false
set_option maxRecDepth 100000
namespace Go.Proofs.Ytjkkjiaeeobnkaa
open Go.Am Go.Proofs
theorem el24 : tEl Try.prog 24 = some 47 := by kernel_rfl
theorem el25 : tEl Try.prog 25 = some 45 := by kernel_rfl
theorem en54 : enters Try.prog 54 = true := by kernel_rfl
theorem en55 : enters Try.prog 55 = true := by kernel_rfl
theorem en56 : enters Try.prog 56 = true := by kernel_rfl
theorem en57 : enters Try.prog 57 = true := by kernel_rfl
theorem en58 : enters Try.prog 58 = true := by kernel_rfl
theorem en59 : enters Try.prog 59 = true := by kernel_rfl
theorem en60 : enters Try.prog 60 = true := by kernel_rfl
theorem en85 : enters Try.prog 85 = true := by kernel_rfl
theorem en86 : enters Try.prog 86 = true := by kernel_rfl
theorem fl27_0 : tFld Try.prog 27 0 = some (0, 1, false) := by kernel_rfl
theorem fl27_1 : tFld Try.prog 27 1 = some (1, 1, false) := by kernel_rfl
theorem fl27_2 : tFld Try.prog 27 2 = some (2, 1, false) := by kernel_rfl
theorem fl45_0 : tFld Try.prog 45 0 = some (0, 1, false) := by kernel_rfl
theorem fl45_1 : tFld Try.prog 45 1 = some (1, 1, false) := by kernel_rfl
theorem fl45_2 : tFld Try.prog 45 2 = some (2, 1, false) := by kernel_rfl
theorem fl47_0 : tFld Try.prog 47 0 = some (0, 1, false) := by kernel_rfl
theorem fl47_1 : tFld Try.prog 47 1 = some (1, 1, false) := by kernel_rfl
theorem it3 : tInt Try.prog 3 = some .i64 := by kernel_rfl
theorem it61 : tInt Try.prog 61 = some .u16 := by kernel_rfl
theorem sz24 : tSz Try.prog 24 = some (false, 1) := by kernel_rfl
theorem sz25 : tSz Try.prog 25 = some (false, 1) := by kernel_rfl
theorem sz3 : tSz Try.prog 3 = some (false, 1) := by kernel_rfl
theorem sz45 : tSz Try.prog 45 = some (true, 3) := by kernel_rfl
theorem sz47 : tSz Try.prog 47 = some (true, 2) := by kernel_rfl
theorem un3 : (Try.prog.underlying 3).isSome = true := by kernel_rfl
theorem un61 : (Try.prog.underlying 61).isSome = true := by kernel_rfl
theorem vr45 : tVar Try.prog 45 = some (true, [.lit (.int .i64 0), .lit (.int .i64 0), .lit (.int .i64 0)]) := by kernel_rfl
set_option maxHeartbeats 4000000 in
theorem c_wire_fits (n : Int) : PCall Try.prog 55 [iV n] (bV (decide (Pl.fits n))) := by
 refine pcall_of_awp Try.func55 rfl (by simp [Try.ntmps55]) fun C hC => ?_
 refine awp_sr [] (by rw [hC]; rfl) fun k hk => ?_
 simp (maxSteps := 9^9) (disch := (try simp only [lens]); omega) only [argSl, sm, ↓amb, mark_eq, simprocAttr, wr_u16, dx]
 repeat refine an ?_
 refine hk _ ?_; clear hk k
 refine awp_test [] 2 (decide (Pl.fits n)) [] (by rw [hC]; rfl) (fun gd hgd k hk => ?_) ?_
 ·clear hgd
  simp (maxSteps := 9^9) (disch := (try simp only [lens]); omega) only [argSl, sm, ↓amb, mark_eq, simprocAttr, it61, un3, it3, un61, gcase_undef, wr_u16, dx]
  repeat' first | refine hk _ _ rfl rfl rfl rfl ?_ | (refine gsplit (fun hg => ?_) (fun hg => ?_) <;> (try simp only [hbx] at hg) <;> simp (maxSteps := 9^9) (disch := (try simp only [lens]); omega) only [argSl, sm, ↓amb, mark_eq, simprocAttr, it61, un3, it3, un61, gcase_undef, wr_u16, dx]) | apply And.intro | fail
  all_goals first | rfl | omega | exact (decide_eq_true (by (try simp only [Pl.fits] at *); omega)).symm | exact (decide_eq_false (by (try simp only [Pl.fits] at *); omega)).symm | exact decide_eq_decide.mpr (by (try simp only [Pl.fits] at *); omega) | (refine Bool.eq_iff_iff.mpr ?_; (try simp only [Pl.fits] at *); simp only [beq_iff_eq, bne_iff_ne, ne_eq, decide_eq_true_eq]; omega) | (refine Bool.eq_iff_iff.mpr ?_; simp only [Bool.not_eq_true', Bool.not_eq_false', decide_eq_false_iff_not, decide_eq_true_eq, beq_iff_eq, bne_iff_ne, ne_eq]; (try simp only [Pl.fits] at *); omega) | assumption | (simp; done) | (simp [maxLen]; omega) | skip
 simp only [kp, argSl, simprocAttr, List.length_cons, List.length_nil]
 refine awp_ret ?_
 refine ret1 rfl rfl ?_
 exact .p (LeP.refl _)
set_option maxHeartbeats 4000000 in
theorem c_wire_known (n : Int) : PCall Try.prog 58 [iV n] (bV (decide (1 ≤ n ∧ n ≤ 4))) := by
 refine pcall_of_awp Try.func58 rfl (by simp [Try.ntmps58]) fun C hC => ?_
 refine awp_sr [] (by rw [hC]; rfl) fun k hk => ?_
 simp (maxSteps := 9^9) (disch := (try simp only [lens]); omega) only [argSl, sm, ↓amb, mark_eq, simprocAttr, dx]
 repeat refine an ?_
 refine hk _ ?_; clear hk k
 refine awp_test [] 2 (decide (1 ≤ n ∧ n ≤ 4)) [] (by rw [hC]; rfl) (fun gd hgd k hk => ?_) ?_
 ·have g2 : gd 2 = some 5 := by rw [hgd]; rfl
  clear hgd
  simp (maxSteps := 9^9) (disch := (try simp only [lens]); omega) only [argSl, sm, ↓amb, mark_eq, simprocAttr, gcase_undef, g2, dx]
  repeat' first | refine hk _ _ rfl rfl rfl rfl ?_ | (refine gsplit (fun hg => ?_) (fun hg => ?_) <;> (try simp only [hbx] at hg) <;> simp (maxSteps := 9^9) (disch := (try simp only [lens]); omega) only [argSl, sm, ↓amb, mark_eq, simprocAttr, gcase_undef, g2, dx]) | apply And.intro | fail
  all_goals first | rfl | omega | exact (decide_eq_true (by omega)).symm | exact (decide_eq_false (by omega)).symm | exact decide_eq_decide.mpr (by omega) | (refine Bool.eq_iff_iff.mpr ?_; simp only [beq_iff_eq, bne_iff_ne, ne_eq, decide_eq_true_eq]; omega) | (refine Bool.eq_iff_iff.mpr ?_; simp only [Bool.not_eq_true', Bool.not_eq_false', decide_eq_false_iff_not, decide_eq_true_eq, beq_iff_eq, bne_iff_ne, ne_eq]; omega) | assumption | (simp; done) | (simp [maxLen]; omega) | skip
 simp only [kp, argSl, simprocAttr, List.length_cons, List.length_nil]
 refine awp_ret ?_
 refine ret1 rfl rfl ?_
 exact .p (LeP.refl _)
set_option maxHeartbeats 4000000 in
theorem c_ref25_short (n : Int) : PCall Try.prog 60 [iV n] (bV (decide (Pl.fits n))) := by
 refine pcall_of_awp Try.func60 rfl (by simp [Try.ntmps60]) fun C hC => ?_
 refine awp_sr [] (by rw [hC]; rfl) fun k hk => ?_
 simp (maxSteps := 9^9) (disch := (try simp only [lens]); omega) only [argSl, sm, ↓amb, mark_eq, simprocAttr, dx]
 repeat refine an ?_
 refine hk _ ?_; clear hk k
 refine awp_test [] 2 (decide (Pl.fits n)) [] (by rw [hC]; rfl) (fun gd hgd k hk => ?_) ?_
 ·have g2 : gd 2 = some 5 := by rw [hgd]; rfl
  clear hgd
  simp (maxSteps := 9^9) (disch := (try simp only [lens]); omega) only [argSl, sm, ↓amb, mark_eq, simprocAttr, gcase_undef, g2, dx]
  repeat' first | refine hk _ _ rfl rfl rfl rfl ?_ | (refine gsplit (fun hg => ?_) (fun hg => ?_) <;> (try simp only [hbx] at hg) <;> simp (maxSteps := 9^9) (disch := (try simp only [lens]); omega) only [argSl, sm, ↓amb, mark_eq, simprocAttr, gcase_undef, g2, dx]) | apply And.intro | fail
  all_goals first | rfl | omega | exact (decide_eq_true (by (try simp only [Pl.fits] at *); omega)).symm | exact (decide_eq_false (by (try simp only [Pl.fits] at *); omega)).symm | exact decide_eq_decide.mpr (by (try simp only [Pl.fits] at *); omega) | (refine Bool.eq_iff_iff.mpr ?_; (try simp only [Pl.fits] at *); simp only [beq_iff_eq, bne_iff_ne, ne_eq, decide_eq_true_eq]; omega) | (refine Bool.eq_iff_iff.mpr ?_; simp only [Bool.not_eq_true', Bool.not_eq_false', decide_eq_false_iff_not, decide_eq_true_eq, beq_iff_eq, bne_iff_ne, ne_eq]; (try simp only [Pl.fits] at *); omega) | assumption | (simp; done) | (simp [maxLen]; omega) | skip
 simp only [kp, argSl, simprocAttr, List.length_cons, List.length_nil]
 refine awp_ret ?_
 refine ret1 rfl rfl ?_
 exact .p (LeP.refl _)
set_option maxHeartbeats 4000000 in
theorem c_wire_Right_1 (e : Pl.Edge) : PCall Try.prog 54 [.agg (edgeC e)] (bV (decide (¬ Pl.okEdge e))) := by
 refine pcall_of_awp Try.func54 rfl (by simp [Try.ntmps54]) fun C hC => ?_
 refine awp_sr [] (by rw [hC]; rfl) fun k hk => ?_
 simp (maxSteps := 9^9) (disch := (try simp only [lens]); omega) only [argSl, sm, ↓amb, mark_eq, simprocAttr, dx]
 repeat refine an ?_
 refine hk _ ?_; clear hk k
 refine awp_test [] 2 (decide (¬ Pl.okEdge e)) [] (by rw [hC]; rfl) (fun gd hgd k hk => ?_) ?_
 ·have g4 : gd 4 = some 7 := by rw [hgd]; rfl
  clear hgd
  simp (maxSteps := 9^9) (disch := (try simp only [lens]); omega) only [argSl, sm, ↓amb, mark_eq, simprocAttr, fl47_0, sz3, en55, fl47_1, gcase_undef, g4, dx]
  repeat' first | refine hk _ _ rfl rfl rfl rfl ?_ | (refine gsplit (fun hg => ?_) (fun hg => ?_) <;> (try simp only [hbx] at hg) <;> simp (maxSteps := 9^9) (disch := (try simp only [lens]); omega) only [argSl, sm, ↓amb, mark_eq, simprocAttr, fl47_0, sz3, en55, fl47_1, gcase_undef, g4, dx]) | apply And.intro | (refine callK_p (c_wire_fits _) rfl ?_; (try simp (maxSteps := 9^9) (disch := (try simp only [lens]); omega) only [argSl, sm, ↓amb, mark_eq, simprocAttr, fl47_0, sz3, en55, fl47_1, gcase_undef, g4, dx])) | (refine callK_p (c_wire_fits _) rfl ?_; (try simp (maxSteps := 9^9) (disch := (try simp only [lens]); omega) only [argSl, sm, ↓amb, mark_eq, simprocAttr, fl47_0, sz3, en55, fl47_1, gcase_undef, g4, dx])) | fail
  all_goals first | rfl | omega | exact (decide_eq_true (by (try simp only [Pl.okEdge, Pl.fits] at *); omega)).symm | exact (decide_eq_false (by (try simp only [Pl.okEdge, Pl.fits] at *); omega)).symm | exact decide_eq_decide.mpr (by (try simp only [Pl.okEdge, Pl.fits] at *); omega) | (refine Bool.eq_iff_iff.mpr ?_; (try simp only [Pl.okEdge, Pl.fits] at *); simp only [beq_iff_eq, bne_iff_ne, ne_eq, decide_eq_true_eq]; omega) | (refine Bool.eq_iff_iff.mpr ?_; simp only [Bool.not_eq_true', Bool.not_eq_false', decide_eq_false_iff_not, decide_eq_true_eq, beq_iff_eq, bne_iff_ne, ne_eq]; (try simp only [Pl.okEdge, Pl.fits] at *); omega) | assumption | (simp; done) | (simp [maxLen]; omega) | skip
 simp only [kp, argSl, simprocAttr, List.length_cons, List.length_nil]
 refine awp_ret ?_
 refine ret1 rfl rfl ?_
 exact .p (LeP.refl _)
set_option maxHeartbeats 4000000 in
theorem c_wire_Right_2 (a : Pl.Ask) : PCall Try.prog 57 [.agg (askC a)] (bV (decide (¬ Pl.okAsk a))) := by
 refine pcall_of_awp Try.func57 rfl (by simp [Try.ntmps57]) fun C hC => ?_
 refine awp_sr [] (by rw [hC]; rfl) fun k hk => ?_
 simp (maxSteps := 9^9) (disch := (try simp only [lens]); omega) only [argSl, sm, ↓amb, mark_eq, simprocAttr, dx]
 repeat refine an ?_
 refine hk _ ?_; clear hk k
 refine awp_test [] 2 (decide (¬ Pl.okAsk a)) [] (by rw [hC]; rfl) (fun gd hgd k hk => ?_) ?_
 ·have g4 : gd 4 = some 7 := by rw [hgd]; rfl
  have g10 : gd 10 = some 13 := by rw [hgd]; rfl
  clear hgd
  simp (maxSteps := 9^9) (disch := (try simp only [lens]); omega) only [argSl, sm, ↓amb, mark_eq, simprocAttr, fl45_0, sz3, en58, fl45_1, en55, fl45_2, gcase_undef, g4, g10, dx]
  repeat' first | refine hk _ _ rfl rfl rfl rfl ?_ | (refine gsplit (fun hg => ?_) (fun hg => ?_) <;> (try simp only [hbx] at hg) <;> simp (maxSteps := 9^9) (disch := (try simp only [lens]); omega) only [argSl, sm, ↓amb, mark_eq, simprocAttr, fl45_0, sz3, en58, fl45_1, en55, fl45_2, gcase_undef, g4, g10, dx]) | apply And.intro | (refine callK_p (c_wire_known _) rfl ?_; (try simp (maxSteps := 9^9) (disch := (try simp only [lens]); omega) only [argSl, sm, ↓amb, mark_eq, simprocAttr, fl45_0, sz3, en58, fl45_1, en55, fl45_2, gcase_undef, g4, g10, dx])) | (refine callK_p (c_wire_fits _) rfl ?_; (try simp (maxSteps := 9^9) (disch := (try simp only [lens]); omega) only [argSl, sm, ↓amb, mark_eq, simprocAttr, fl45_0, sz3, en58, fl45_1, en55, fl45_2, gcase_undef, g4, g10, dx])) | (refine callK_p (c_wire_fits _) rfl ?_; (try simp (maxSteps := 9^9) (disch := (try simp only [lens]); omega) only [argSl, sm, ↓amb, mark_eq, simprocAttr, fl45_0, sz3, en58, fl45_1, en55, fl45_2, gcase_undef, g4, g10, dx])) | fail
  all_goals first | rfl | omega | exact (decide_eq_true (by (try simp only [Pl.okAsk, Pl.fits] at *); omega)).symm | exact (decide_eq_false (by (try simp only [Pl.okAsk, Pl.fits] at *); omega)).symm | exact decide_eq_decide.mpr (by (try simp only [Pl.okAsk, Pl.fits] at *); omega) | (refine Bool.eq_iff_iff.mpr ?_; (try simp only [Pl.okAsk, Pl.fits] at *); simp only [beq_iff_eq, bne_iff_ne, ne_eq, decide_eq_true_eq]; omega) | (refine Bool.eq_iff_iff.mpr ?_; simp only [Bool.not_eq_true', Bool.not_eq_false', decide_eq_false_iff_not, decide_eq_true_eq, beq_iff_eq, bne_iff_ne, ne_eq]; (try simp only [Pl.okAsk, Pl.fits] at *); omega) | assumption | (simp; done) | (simp [maxLen]; omega) | skip
 simp only [kp, argSl, simprocAttr, List.length_cons, List.length_nil]
 refine awp_ret ?_
 refine ret1 rfl rfl ?_
 exact .p (LeP.refl _)
set_option maxHeartbeats 4000000 in
theorem c_IndexEdge (c : Bool) (l : List Pl.Edge) (hl : l.length ≤ 1000000) : HCall Try.prog 85 [.p (.seq c (l.map edgeC)), .fn 54 []] [] (.p (iV (Pl.firstB (fun x => decide (¬ Pl.okEdge x)) l))) [] := by
 refine hcall_of_awp Try.func85 rfl (by simp [Try.ntmps85]) fun C hC => ?_
 refine awp_le (le_keep [0, 1]) ?_
 simp only [kp, argSl, simprocAttr]
 refine awp_sr [] (by rw [hC]; rfl) fun k hk => ?_
 simp (maxSteps := 9^9) (disch := (try simp only [lens]); omega) only [argSl, sm, ↓amb, mark_eq, simprocAttr, dx, en54]
 repeat refine an ?_
 refine hk _ ?_; clear hk k
 refine awp_seq fun k1 h1 => ?_
 refine awp_le (le_keep [0, 1, 4]) ?_
 simp only [kp, argSl, simprocAttr]
 refine awp_sr [] (by rw [hC]; rfl) fun k hk => ?_
 simp (maxSteps := 9^9) (disch := (try simp only [lens]); omega) only [argSl, sm, ↓amb, mark_eq, simprocAttr, el24, dx, en54]
 repeat refine an ?_
 refine hk _ ?_; clear hk k
 refine awp_block ?_
 refine awp_loop (σ := Nat) (fun i => i ≤ l.length ∧ ∀ j, j < i → (fun x => decide (¬ Pl.okEdge x)) (l.getD j default) = false) (fun (i : Nat) => ⟨[(0, (.p (.seq c (l.map edgeC)))), (1, (.fn 54 [])), (7, (.p (iV l.length))), (8, (.p (iV (i : Int))))], [], 1⟩) (fun i => l.length - i) 0 ?_ ?_ fun i hi => ?_
 ·exact ⟨Nat.zero_le _, fun j hj => by omega⟩
 ·exact le_of [] (by rfl) (by rfl) ⟨⟨_, rfl, .oe⟩, ⟨_, rfl, .fn rfl LeRow.nil.2⟩, ⟨_, rfl, .oe⟩, ⟨_, rfl, .oe⟩, trivial⟩ trivial
 obtain ⟨hi1, hi2⟩ := hi
 refine awp_le (le_keep [0, 1, 4, 7, 8]) ?_
 simp only [kp, argSl, simprocAttr]
 refine awp_sr [] (by rw [hC]; rfl) fun k hk => ?_
 simp (maxSteps := 9^9) (disch := (try simp only [lens]); omega) only [argSl, sm, ↓amb, mark_eq, simprocAttr, dx, en54]
 repeat refine an ?_
 refine hk _ ?_; clear hk k
 refine awp_seq fun k3 h3 => ?_
 refine awp_cond rfl (fun hb => ?_) (fun hb => ?_)
 ·try simp only [hbx] at hb
  refine awp_skip ?_
  refine h3 _ ?_; clear h3 k3
  refine awp_seq fun k4 h4 => ?_
  refine awp_block ?_
  refine awp_le (le_keep [0, 1, 4, 7, 8]) ?_
  simp only [kp, argSl, simprocAttr]
  refine awp_sr [] (by rw [hC]; rfl) fun k hk => ?_
  simp (maxSteps := 9^9) (disch := (try simp only [lens]); omega) only [argSl, sm, ↓amb, mark_eq, simprocAttr, dx, en54]
  repeat refine an ?_
  refine hk _ ?_; clear hk k
  refine awp_le (le_keep [0, 1, 4, 5, 7, 8]) ?_
  simp only [kp, argSl, simprocAttr]
  refine awp_sr [] (by rw [hC]; rfl) fun k hk => ?_
  simp (maxSteps := 9^9) (disch := (try simp only [lens]); omega) only [argSl, sm, ↓amb, mark_eq, simprocAttr, el24, sz47, dx, en54]
  repeat refine an ?_
  refine callK_p (c_wire_Right_1 _) rfl ?_
  simp (maxSteps := 9^9) (disch := (try simp only [lens]); omega) only [argSl, sm, ↓amb, mark_eq, simprocAttr, el24, sz47, dx, en54]
  repeat refine an ?_
  refine hk _ ?_; clear hk k
  refine awp_cond rfl (fun hb => ?_) (fun hb => ?_)
  ·try simp only [hbx] at hb
   refine awp_le (le_keep [5]) ?_
   simp only [kp, argSl, simprocAttr]
   refine awp_sr [] (by rw [hC]; rfl) fun k hk => ?_
   simp (maxSteps := 9^9) (disch := (try simp only [lens]); omega) only [argSl, sm, ↓amb, mark_eq, simprocAttr, dx, en54]
   repeat refine an ?_
   refine hk _ ?_; clear hk k
   refine awp_ret ?_
   rw [Pl.firstB_at (p := (fun x => decide (¬ Pl.okEdge x))) (i := i) (by omega) hi2 (decide_eq_true hb)]
   refine reth1 rfl rfl ?_
   exact le_of [] (by rfl) (by rfl) ⟨⟨_, rfl, .p (.refl _)⟩, trivial⟩ trivial
  ·try simp only [hbx] at hb
   refine awp_skip ?_
   refine h4 _ ?_; clear h4 k4
   refine awp_region [] (by rw [hC]; rfl) fun k hk => ?_
   simp (maxSteps := 9^9) (disch := (try simp only [lens]); omega) only [argSl, sm, ↓amb, mark_eq, simprocAttr, dx, en54]
   repeat refine an ?_
   refine hk _ ?_; clear hk k
   refine ⟨i + 1, ⟨by omega, fun j hj => by by_cases e : j = i; subst e; exact (by first | exact decide_eq_false hb | exact decide_eq_false (fun q => q hb)); exact hi2 j (by omega)⟩, le_of [] (by rfl) (by rfl) ⟨⟨_, rfl, .oe⟩, ⟨_, rfl, .fn rfl LeRow.nil.2⟩, ⟨_, rfl, .oe⟩, ⟨_, rfl, .oe⟩, trivial⟩ trivial, by omega⟩
 ·try simp only [hbx] at hb
  refine awp_exit ((if_pos rfl).mpr ?_)
  refine h1 _ ?_; clear h3 k3; clear h1 k1
  refine awp_le (le_keep []) ?_
  simp only [kp, argSl, simprocAttr]
  refine awp_sr [] (by rw [hC]; rfl) fun k hk => ?_
  simp (maxSteps := 9^9) (disch := (try simp only [lens]); omega) only [argSl, sm, ↓amb, mark_eq, simprocAttr, dx, en54]
  repeat refine an ?_
  refine hk _ ?_; clear hk k
  refine awp_ret ?_
  rw [Pl.firstB_no (p := (fun x => decide (¬ Pl.okEdge x))) (i := i) (by omega) (fun j hj _ => hi2 j hj)]
  refine reth1 rfl rfl ?_
  exact le_of [] (by rfl) (by rfl) ⟨⟨_, rfl, .p (.refl _)⟩, trivial⟩ trivial
set_option maxHeartbeats 4000000 in
theorem c_ContainsEdge (c : Bool) (l : List Pl.Edge) (hl : l.length ≤ 1000000) : HCall Try.prog 56 [.p (.seq c (l.map edgeC)), .fn 54 []] [] (.p (bV (decide (¬ ∀ x ∈ l, Pl.okEdge x)))) [] := by
 refine hcall_of_awp Try.func56 rfl (by simp [Try.ntmps56]) fun C hC => ?_
 refine awp_le (le_keep [0, 1]) ?_
 simp only [kp, argSl, simprocAttr]
 refine awp_sr [] (by rw [hC]; rfl) fun k hk => ?_
 simp (maxSteps := 9^9) (disch := (try simp only [lens]); omega) only [argSl, sm, ↓amb, mark_eq, simprocAttr, dx, en54]
 repeat refine an ?_
 refine hk _ ?_; clear hk k
 refine awp_le (le_keep [0, 1]) ?_
 simp only [kp, argSl, simprocAttr]
 refine awp_sr [] (by rw [hC]; rfl) fun k hk => ?_
 simp (maxSteps := 9^9) (disch := (try simp only [lens]); omega) only [argSl, sm, ↓amb, mark_eq, simprocAttr, en85, dx, en54]
 repeat refine an ?_
 refine callK_h (c_IndexEdge c l hl) [] [] (by first | rfl | (simp only [hm]; done)) (by first | rfl | (simp [namesOk, lkp]; done)) ?_ ?_ ?_ ?_ ?_ ?_ ?_
 (iterate 6 (focus (first | trivial | (intro n hn; cases hn; done) | (simp (maxSteps := 9^9) (disch := (try simp only [lens]); omega) only [argSl, sm, ↓amb, mark_eq, simprocAttr, en85, dx, en54, hmx, List.filter_cons, Nat.reduceBNe, imp_self, implies_true]; done))))
 simp (maxSteps := 9^9) (disch := (try simp only [lens]); omega) only [argSl, sm, ↓amb, mark_eq, simprocAttr, en85, dx, en54, hm, List.filter_cons, List.filter_nil, Nat.reduceBNe, Option.map_none]
 repeat refine an ?_
 refine hk _ ?_; clear hk k
 refine awp_ret ?_
 rw [← Pl.contains_eq (fun x => decide (¬ Pl.okEdge x)) Pl.okEdge l (fun _ => rfl)]
 refine reth1 rfl rfl ?_
 exact le_of [] (by rfl) (by rfl) ⟨⟨_, rfl, .p (.refl _)⟩, trivial⟩ trivial
set_option maxHeartbeats 4000000 in
theorem c_IndexAsk (c : Bool) (l : List Pl.Ask) (hl : l.length ≤ 1000000) : HCall Try.prog 86 [.p (.seq c (l.map askC)), .fn 57 []] [] (.p (iV (Pl.firstB (fun x => decide (¬ Pl.okAsk x)) l))) [] := by
 refine hcall_of_awp Try.func86 rfl (by simp [Try.ntmps86]) fun C hC => ?_
 refine awp_le (le_keep [0, 1]) ?_
 simp only [kp, argSl, simprocAttr]
 refine awp_sr [] (by rw [hC]; rfl) fun k hk => ?_
 simp (maxSteps := 9^9) (disch := (try simp only [lens]); omega) only [argSl, sm, ↓amb, mark_eq, simprocAttr, dx, en57]
 repeat refine an ?_
 refine hk _ ?_; clear hk k
 refine awp_seq fun k1 h1 => ?_
 refine awp_le (le_keep [0, 1, 4]) ?_
 simp only [kp, argSl, simprocAttr]
 refine awp_sr [] (by rw [hC]; rfl) fun k hk => ?_
 simp (maxSteps := 9^9) (disch := (try simp only [lens]); omega) only [argSl, sm, ↓amb, mark_eq, simprocAttr, el25, dx, en57]
 repeat refine an ?_
 refine hk _ ?_; clear hk k
 refine awp_block ?_
 refine awp_loop (σ := Nat) (fun i => i ≤ l.length ∧ ∀ j, j < i → (fun x => decide (¬ Pl.okAsk x)) (l.getD j default) = false) (fun (i : Nat) => ⟨[(0, (.p (.seq c (l.map askC)))), (1, (.fn 57 [])), (7, (.p (iV l.length))), (8, (.p (iV (i : Int))))], [], 1⟩) (fun i => l.length - i) 0 ?_ ?_ fun i hi => ?_
 ·exact ⟨Nat.zero_le _, fun j hj => by omega⟩
 ·exact le_of [] (by rfl) (by rfl) ⟨⟨_, rfl, .oe⟩, ⟨_, rfl, .fn rfl LeRow.nil.2⟩, ⟨_, rfl, .oe⟩, ⟨_, rfl, .oe⟩, trivial⟩ trivial
 obtain ⟨hi1, hi2⟩ := hi
 refine awp_le (le_keep [0, 1, 4, 7, 8]) ?_
 simp only [kp, argSl, simprocAttr]
 refine awp_sr [] (by rw [hC]; rfl) fun k hk => ?_
 simp (maxSteps := 9^9) (disch := (try simp only [lens]); omega) only [argSl, sm, ↓amb, mark_eq, simprocAttr, dx, en57]
 repeat refine an ?_
 refine hk _ ?_; clear hk k
 refine awp_seq fun k3 h3 => ?_
 refine awp_cond rfl (fun hb => ?_) (fun hb => ?_)
 ·try simp only [hbx] at hb
  refine awp_skip ?_
  refine h3 _ ?_; clear h3 k3
  refine awp_seq fun k4 h4 => ?_
  refine awp_block ?_
  refine awp_le (le_keep [0, 1, 4, 7, 8]) ?_
  simp only [kp, argSl, simprocAttr]
  refine awp_sr [] (by rw [hC]; rfl) fun k hk => ?_
  simp (maxSteps := 9^9) (disch := (try simp only [lens]); omega) only [argSl, sm, ↓amb, mark_eq, simprocAttr, dx, en57]
  repeat refine an ?_
  refine hk _ ?_; clear hk k
  refine awp_le (le_keep [0, 1, 4, 5, 7, 8]) ?_
  simp only [kp, argSl, simprocAttr]
  refine awp_sr [] (by rw [hC]; rfl) fun k hk => ?_
  simp (maxSteps := 9^9) (disch := (try simp only [lens]); omega) only [argSl, sm, ↓amb, mark_eq, simprocAttr, el25, sz45, dx, en57]
  repeat refine an ?_
  refine callK_p (c_wire_Right_2 _) rfl ?_
  simp (maxSteps := 9^9) (disch := (try simp only [lens]); omega) only [argSl, sm, ↓amb, mark_eq, simprocAttr, el25, sz45, dx, en57]
  repeat refine an ?_
  refine hk _ ?_; clear hk k
  refine awp_cond rfl (fun hb => ?_) (fun hb => ?_)
  ·try simp only [hbx] at hb
   refine awp_le (le_keep [5]) ?_
   simp only [kp, argSl, simprocAttr]
   refine awp_sr [] (by rw [hC]; rfl) fun k hk => ?_
   simp (maxSteps := 9^9) (disch := (try simp only [lens]); omega) only [argSl, sm, ↓amb, mark_eq, simprocAttr, dx, en57]
   repeat refine an ?_
   refine hk _ ?_; clear hk k
   refine awp_ret ?_
   rw [Pl.firstB_at (p := (fun x => decide (¬ Pl.okAsk x))) (i := i) (by omega) hi2 (decide_eq_true hb)]
   refine reth1 rfl rfl ?_
   exact le_of [] (by rfl) (by rfl) ⟨⟨_, rfl, .p (.refl _)⟩, trivial⟩ trivial
  ·try simp only [hbx] at hb
   refine awp_skip ?_
   refine h4 _ ?_; clear h4 k4
   refine awp_region [] (by rw [hC]; rfl) fun k hk => ?_
   simp (maxSteps := 9^9) (disch := (try simp only [lens]); omega) only [argSl, sm, ↓amb, mark_eq, simprocAttr, dx, en57]
   repeat refine an ?_
   refine hk _ ?_; clear hk k
   refine ⟨i + 1, ⟨by omega, fun j hj => by by_cases e : j = i; subst e; exact (by first | exact decide_eq_false hb | exact decide_eq_false (fun q => q hb)); exact hi2 j (by omega)⟩, le_of [] (by rfl) (by rfl) ⟨⟨_, rfl, .oe⟩, ⟨_, rfl, .fn rfl LeRow.nil.2⟩, ⟨_, rfl, .oe⟩, ⟨_, rfl, .oe⟩, trivial⟩ trivial, by omega⟩
 ·try simp only [hbx] at hb
  refine awp_exit ((if_pos rfl).mpr ?_)
  refine h1 _ ?_; clear h3 k3; clear h1 k1
  refine awp_le (le_keep []) ?_
  simp only [kp, argSl, simprocAttr]
  refine awp_sr [] (by rw [hC]; rfl) fun k hk => ?_
  simp (maxSteps := 9^9) (disch := (try simp only [lens]); omega) only [argSl, sm, ↓amb, mark_eq, simprocAttr, dx, en57]
  repeat refine an ?_
  refine hk _ ?_; clear hk k
  refine awp_ret ?_
  rw [Pl.firstB_no (p := (fun x => decide (¬ Pl.okAsk x))) (i := i) (by omega) (fun j hj _ => hi2 j hj)]
  refine reth1 rfl rfl ?_
  exact le_of [] (by rfl) (by rfl) ⟨⟨_, rfl, .p (.refl _)⟩, trivial⟩ trivial
set_option maxHeartbeats 4000000 in
theorem c_ContainsAsk (c : Bool) (l : List Pl.Ask) (hl : l.length ≤ 1000000) : HCall Try.prog 59 [.p (.seq c (l.map askC)), .fn 57 []] [] (.p (bV (decide (¬ ∀ x ∈ l, Pl.okAsk x)))) [] := by
 refine hcall_of_awp Try.func59 rfl (by simp [Try.ntmps59]) fun C hC => ?_
 refine awp_le (le_keep [0, 1]) ?_
 simp only [kp, argSl, simprocAttr]
 refine awp_sr [] (by rw [hC]; rfl) fun k hk => ?_
 simp (maxSteps := 9^9) (disch := (try simp only [lens]); omega) only [argSl, sm, ↓amb, mark_eq, simprocAttr, dx, en57]
 repeat refine an ?_
 refine hk _ ?_; clear hk k
 refine awp_le (le_keep [0, 1]) ?_
 simp only [kp, argSl, simprocAttr]
 refine awp_sr [] (by rw [hC]; rfl) fun k hk => ?_
 simp (maxSteps := 9^9) (disch := (try simp only [lens]); omega) only [argSl, sm, ↓amb, mark_eq, simprocAttr, en86, dx, en57]
 repeat refine an ?_
 refine callK_h (c_IndexAsk c l hl) [] [] (by first | rfl | (simp only [hm]; done)) (by first | rfl | (simp [namesOk, lkp]; done)) ?_ ?_ ?_ ?_ ?_ ?_ ?_
 (iterate 6 (focus (first | trivial | (intro n hn; cases hn; done) | (simp (maxSteps := 9^9) (disch := (try simp only [lens]); omega) only [argSl, sm, ↓amb, mark_eq, simprocAttr, en86, dx, en57, hmx, List.filter_cons, Nat.reduceBNe, imp_self, implies_true]; done))))
 simp (maxSteps := 9^9) (disch := (try simp only [lens]); omega) only [argSl, sm, ↓amb, mark_eq, simprocAttr, en86, dx, en57, hm, List.filter_cons, List.filter_nil, Nat.reduceBNe, Option.map_none]
 repeat refine an ?_
 refine hk _ ?_; clear hk k
 refine awp_ret ?_
 rw [← Pl.contains_eq (fun x => decide (¬ Pl.okAsk x)) Pl.okAsk l (fun _ => rfl)]
 refine reth1 rfl rfl ?_
 exact le_of [] (by rfl) (by rfl) ⟨⟨_, rfl, .p (.refl _)⟩, trivial⟩ trivial
set_option maxHeartbeats 4000000 in
theorem c_wire_Right (c d : Bool) (x : Pl.Batch) : PCall Try.prog 24 [.agg (batchC c d x)] (bV (decide (Pl.batchRight x))) := by
 refine pcall_of_awp Try.func24 rfl (by simp [Try.ntmps24]) fun C hC => ?_
 refine awp_le (le_keep [0]) ?_
 simp only [kp, argSl, simprocAttr]
 refine awp_sr [] (by rw [hC]; rfl) fun k hk => ?_
 simp (maxSteps := 9^9) (disch := (try simp only [lens]); omega) only [argSl, sm, ↓amb, mark_eq, simprocAttr, dx, en54, en57]
 repeat refine an ?_
 refine hk _ ?_; clear hk k
 refine awp_seq fun k1 h1 => ?_
 refine awp_le (le_keep [1, 2]) ?_
 simp only [kp, argSl, simprocAttr]
 refine awp_sr [] (by rw [hC]; rfl) fun k hk => ?_
 simp (maxSteps := 9^9) (disch := (try simp only [lens]); omega) only [argSl, sm, ↓amb, mark_eq, simprocAttr, fl27_0, sz3, dx, en54, en57]
 repeat refine an ?_
 refine hk _ ?_; clear hk k
 refine awp_block ?_
 refine awp_seq fun k2 h2 => ?_
 refine awp_le (le_keep [1, 2, 6]) ?_
 simp only [kp, argSl, simprocAttr]
 refine awp_sr [] (by rw [hC]; rfl) fun k hk => ?_
 simp (maxSteps := 9^9) (disch := (try simp only [lens]); omega) only [argSl, sm, ↓amb, mark_eq, simprocAttr, dx, en54, en57]
 repeat refine an ?_
 refine hk _ ?_; clear hk k
 refine awp_cond rfl (fun hb => ?_) (fun hb => ?_)
 ·try simp only [hbx] at hb
  refine awp_skip ?_
  refine h2 _ ?_; clear h2 k2
  refine awp_cond rfl (fun hb => ?_) (fun hb => ?_)
  ·try simp only [hbx] at hb
   refine awp_le (le_keep [1]) ?_
   simp only [kp, argSl, simprocAttr]
   have hk := hb
   refine awp_sr [] (by rw [hC]; rfl) fun k hk => ?_
   simp (maxSteps := 9^9) (disch := (try simp only [lens]); omega) only [argSl, sm, ↓amb, mark_eq, simprocAttr, dx, en54, en57]
   repeat refine an ?_
   refine hk _ ?_; clear hk k
   refine awp_test [] 2 (decide (x.asks.length = 0 ∧ x.edges.length ≤ 60 ∧ ∀ e ∈ x.edges, Pl.okEdge e)) [] (by rw [hC]; rfl) (fun gd hgd k hk => ?_) ?_
   ·have g4 : gd 4 = some 14 := by rw [hgd]; rfl
    have g10 : gd 10 = some 20 := by rw [hgd]; rfl
    clear hgd
    simp (maxSteps := 9^9) (disch := (try simp only [lens]); omega) only [argSl, sm, ↓amb, mark_eq, simprocAttr, fl27_2, sz25, el25, fl27_1, sz24, el24, en56, gcase_undef, g4, g10, dx, en54, en57]
    repeat' first | refine hk _ _ rfl rfl rfl rfl ?_ | (refine gsplit (fun hg => ?_) (fun hg => ?_) <;> (try simp only [hbx] at hg) <;> simp (maxSteps := 9^9) (disch := (try simp only [lens]); omega) only [argSl, sm, ↓amb, mark_eq, simprocAttr, fl27_2, sz25, el25, fl27_1, sz24, el24, en56, gcase_undef, g4, g10, dx, en54, en57]) | apply And.intro | (refine callK_h (c_ContainsEdge c x.edges (by omega)) [] [] (by first | rfl | (simp only [hm]; done)) (by first | rfl | (simp [namesOk, lkp]; done)) ?_ ?_ ?_ ?_ ?_ ?_ ?_; (iterate 6 (focus (first | trivial | (intro n hn; cases hn; done) | (simp (maxSteps := 9^9) (disch := (try simp only [lens]); omega) only [argSl, sm, ↓amb, mark_eq, simprocAttr, fl27_2, sz25, el25, fl27_1, sz24, el24, en56, gcase_undef, g4, g10, dx, en54, en57, hmx, List.filter_cons, Nat.reduceBNe, imp_self, implies_true]; done)))); simp (maxSteps := 9^9) (disch := (try simp only [lens]); omega) only [argSl, sm, ↓amb, mark_eq, simprocAttr, fl27_2, sz25, el25, fl27_1, sz24, el24, en56, gcase_undef, g4, g10, dx, en54, en57, hm, List.filter_cons, List.filter_nil, Nat.reduceBNe, Option.map_none]; (try simp (maxSteps := 9^9) (disch := (try simp only [lens]); omega) only [argSl, sm, ↓amb, mark_eq, simprocAttr, fl27_2, sz25, el25, fl27_1, sz24, el24, en56, gcase_undef, g4, g10, dx, en54, en57])) | fail
    all_goals first | rfl | omega | exact (decide_eq_true (by omega)).symm | exact (decide_eq_false (by omega)).symm | exact decide_eq_decide.mpr (by omega) | (refine Bool.eq_iff_iff.mpr ?_; simp only [beq_iff_eq, bne_iff_ne, ne_eq, decide_eq_true_eq]; omega) | (refine Bool.eq_iff_iff.mpr ?_; simp only [Bool.not_eq_true', Bool.not_eq_false', decide_eq_false_iff_not, decide_eq_true_eq, beq_iff_eq, bne_iff_ne, ne_eq]; omega) | assumption | (simp; done) | (simp [maxLen]; omega) | skip
    all_goals first | rfl | (rw [decide_eq_false (by omega)]; done) | (refine Bool.eq_iff_iff.mpr ?_; simp only [Bool.not_eq_true', decide_eq_false_iff_not, Decidable.not_not, decide_eq_true_eq]; exact ⟨fun h => ⟨by omega, by omega, h⟩, fun h => h.2.2⟩) | (refine (decide_eq_false ?_).symm; rintro ⟨q1, q2, _⟩; omega)
   simp only [kp, argSl, simprocAttr, List.length_cons, List.length_nil]
   refine awp_ret ?_
   refine ret1 rfl rfl ?_
   exact .p (LeP.of_eq (by rw [decide_eq_decide.mpr (Pl.br_1 (x := x) (.inl hk))]))
  ·(have hq : x.kind = 1 := by assumption); rw [hq] at hb; exact absurd hb (by decide)
 ·try simp only [hbx] at hb
  have hk1 := hb
  refine awp_region [] (by rw [hC]; rfl) fun k hk => ?_
  simp (maxSteps := 9^9) (disch := (try simp only [lens]); omega) only [argSl, sm, ↓amb, mark_eq, simprocAttr, dx, en54, en57]
  repeat refine an ?_
  refine hk _ ?_; clear hk k
  refine h2 _ ?_; clear h2 k2
  refine awp_cond rfl (fun hb => ?_) (fun hb => ?_)
  ·try simp only [hbx] at hb
   refine awp_le (le_keep [1]) ?_
   simp only [kp, argSl, simprocAttr]
   have hk := hb
   refine awp_sr [] (by rw [hC]; rfl) fun k hk => ?_
   simp (maxSteps := 9^9) (disch := (try simp only [lens]); omega) only [argSl, sm, ↓amb, mark_eq, simprocAttr, dx, en54, en57]
   repeat refine an ?_
   refine hk _ ?_; clear hk k
   refine awp_test [] 2 (decide (x.asks.length = 0 ∧ x.edges.length ≤ 60 ∧ ∀ e ∈ x.edges, Pl.okEdge e)) [] (by rw [hC]; rfl) (fun gd hgd k hk => ?_) ?_
   ·have g4 : gd 4 = some 14 := by rw [hgd]; rfl
    have g10 : gd 10 = some 20 := by rw [hgd]; rfl
    clear hgd
    simp (maxSteps := 9^9) (disch := (try simp only [lens]); omega) only [argSl, sm, ↓amb, mark_eq, simprocAttr, fl27_2, sz25, el25, fl27_1, sz24, el24, en56, gcase_undef, g4, g10, dx, en54, en57]
    repeat' first | refine hk _ _ rfl rfl rfl rfl ?_ | (refine gsplit (fun hg => ?_) (fun hg => ?_) <;> (try simp only [hbx] at hg) <;> simp (maxSteps := 9^9) (disch := (try simp only [lens]); omega) only [argSl, sm, ↓amb, mark_eq, simprocAttr, fl27_2, sz25, el25, fl27_1, sz24, el24, en56, gcase_undef, g4, g10, dx, en54, en57]) | apply And.intro | (refine callK_h (c_ContainsEdge c x.edges (by omega)) [] [] (by first | rfl | (simp only [hm]; done)) (by first | rfl | (simp [namesOk, lkp]; done)) ?_ ?_ ?_ ?_ ?_ ?_ ?_; (iterate 6 (focus (first | trivial | (intro n hn; cases hn; done) | (simp (maxSteps := 9^9) (disch := (try simp only [lens]); omega) only [argSl, sm, ↓amb, mark_eq, simprocAttr, fl27_2, sz25, el25, fl27_1, sz24, el24, en56, gcase_undef, g4, g10, dx, en54, en57, hmx, List.filter_cons, Nat.reduceBNe, imp_self, implies_true]; done)))); simp (maxSteps := 9^9) (disch := (try simp only [lens]); omega) only [argSl, sm, ↓amb, mark_eq, simprocAttr, fl27_2, sz25, el25, fl27_1, sz24, el24, en56, gcase_undef, g4, g10, dx, en54, en57, hm, List.filter_cons, List.filter_nil, Nat.reduceBNe, Option.map_none]; (try simp (maxSteps := 9^9) (disch := (try simp only [lens]); omega) only [argSl, sm, ↓amb, mark_eq, simprocAttr, fl27_2, sz25, el25, fl27_1, sz24, el24, en56, gcase_undef, g4, g10, dx, en54, en57])) | fail
    all_goals first | rfl | omega | exact (decide_eq_true (by omega)).symm | exact (decide_eq_false (by omega)).symm | exact decide_eq_decide.mpr (by omega) | (refine Bool.eq_iff_iff.mpr ?_; simp only [beq_iff_eq, bne_iff_ne, ne_eq, decide_eq_true_eq]; omega) | (refine Bool.eq_iff_iff.mpr ?_; simp only [Bool.not_eq_true', Bool.not_eq_false', decide_eq_false_iff_not, decide_eq_true_eq, beq_iff_eq, bne_iff_ne, ne_eq]; omega) | assumption | (simp; done) | (simp [maxLen]; omega) | skip
    all_goals first | rfl | (rw [decide_eq_false (by omega)]; done) | (refine Bool.eq_iff_iff.mpr ?_; simp only [Bool.not_eq_true', decide_eq_false_iff_not, Decidable.not_not, decide_eq_true_eq]; exact ⟨fun h => ⟨by omega, by omega, h⟩, fun h => h.2.2⟩) | (refine (decide_eq_false ?_).symm; rintro ⟨q1, q2, _⟩; omega)
   simp only [kp, argSl, simprocAttr, List.length_cons, List.length_nil]
   refine awp_ret ?_
   refine ret1 rfl rfl ?_
   exact .p (LeP.of_eq (by rw [decide_eq_decide.mpr (Pl.br_1 (x := x) (.inr hk))]))
  ·try simp only [hbx] at hb
   refine awp_le (le_keep [1, 2, 6]) ?_
   simp only [kp, argSl, simprocAttr]
   have hk2 := hb
   refine awp_sr [] (by rw [hC]; rfl) fun k hk => ?_
   simp (maxSteps := 9^9) (disch := (try simp only [lens]); omega) only [argSl, sm, ↓amb, mark_eq, simprocAttr, dx, en54, en57]
   repeat refine an ?_
   refine hk _ ?_; clear hk k
   refine awp_cond rfl (fun hb => ?_) (fun hb => ?_)
   ·try simp only [hbx] at hb
    refine awp_le (le_keep [1]) ?_
    simp only [kp, argSl, simprocAttr]
    have hk := hb
    refine awp_sr [] (by rw [hC]; rfl) fun k hk => ?_
    simp (maxSteps := 9^9) (disch := (try simp only [lens]); omega) only [argSl, sm, ↓amb, mark_eq, simprocAttr, dx, en54, en57]
    repeat refine an ?_
    refine hk _ ?_; clear hk k
    refine awp_test [] 2 (decide (x.edges.length = 0 ∧ x.asks.length ≤ 60 ∧ ∀ a ∈ x.asks, Pl.okAsk a)) [] (by rw [hC]; rfl) (fun gd hgd k hk => ?_) ?_
    ·have g4 : gd 4 = some 33 := by rw [hgd]; rfl
     have g10 : gd 10 = some 39 := by rw [hgd]; rfl
     clear hgd
     simp (maxSteps := 9^9) (disch := (try simp only [lens]); omega) only [argSl, sm, ↓amb, mark_eq, simprocAttr, fl27_1, sz24, el24, fl27_2, sz25, el25, en59, gcase_undef, g4, g10, dx, en54, en57]
     repeat' first | refine hk _ _ rfl rfl rfl rfl ?_ | (refine gsplit (fun hg => ?_) (fun hg => ?_) <;> (try simp only [hbx] at hg) <;> simp (maxSteps := 9^9) (disch := (try simp only [lens]); omega) only [argSl, sm, ↓amb, mark_eq, simprocAttr, fl27_1, sz24, el24, fl27_2, sz25, el25, en59, gcase_undef, g4, g10, dx, en54, en57]) | apply And.intro | (refine callK_h (c_ContainsAsk d x.asks (by omega)) [] [] (by first | rfl | (simp only [hm]; done)) (by first | rfl | (simp [namesOk, lkp]; done)) ?_ ?_ ?_ ?_ ?_ ?_ ?_; (iterate 6 (focus (first | trivial | (intro n hn; cases hn; done) | (simp (maxSteps := 9^9) (disch := (try simp only [lens]); omega) only [argSl, sm, ↓amb, mark_eq, simprocAttr, fl27_1, sz24, el24, fl27_2, sz25, el25, en59, gcase_undef, g4, g10, dx, en54, en57, hmx, List.filter_cons, Nat.reduceBNe, imp_self, implies_true]; done)))); simp (maxSteps := 9^9) (disch := (try simp only [lens]); omega) only [argSl, sm, ↓amb, mark_eq, simprocAttr, fl27_1, sz24, el24, fl27_2, sz25, el25, en59, gcase_undef, g4, g10, dx, en54, en57, hm, List.filter_cons, List.filter_nil, Nat.reduceBNe, Option.map_none]; (try simp (maxSteps := 9^9) (disch := (try simp only [lens]); omega) only [argSl, sm, ↓amb, mark_eq, simprocAttr, fl27_1, sz24, el24, fl27_2, sz25, el25, en59, gcase_undef, g4, g10, dx, en54, en57])) | fail
     all_goals first | rfl | omega | exact (decide_eq_true (by omega)).symm | exact (decide_eq_false (by omega)).symm | exact decide_eq_decide.mpr (by omega) | (refine Bool.eq_iff_iff.mpr ?_; simp only [beq_iff_eq, bne_iff_ne, ne_eq, decide_eq_true_eq]; omega) | (refine Bool.eq_iff_iff.mpr ?_; simp only [Bool.not_eq_true', Bool.not_eq_false', decide_eq_false_iff_not, decide_eq_true_eq, beq_iff_eq, bne_iff_ne, ne_eq]; omega) | assumption | (simp; done) | (simp [maxLen]; omega) | skip
     all_goals first | rfl | (rw [decide_eq_false (by omega)]; done) | (refine Bool.eq_iff_iff.mpr ?_; simp only [Bool.not_eq_true', decide_eq_false_iff_not, Decidable.not_not, decide_eq_true_eq]; exact ⟨fun h => ⟨by omega, by omega, h⟩, fun h => h.2.2⟩) | (refine (decide_eq_false ?_).symm; rintro ⟨q1, q2, _⟩; omega)
    simp only [kp, argSl, simprocAttr, List.length_cons, List.length_nil]
    refine awp_ret ?_
    refine ret1 rfl rfl ?_
    exact .p (LeP.of_eq (by rw [decide_eq_decide.mpr (Pl.br_3 (x := x) hk)]))
   ·try simp only [hbx] at hb
    refine awp_skip ?_
    refine h1 _ ?_; clear h1 k1
    refine awp_le (le_keep []) ?_
    simp only [kp, argSl, simprocAttr]
    have hk3 := hb
    refine awp_sr [] (by rw [hC]; rfl) fun k hk => ?_
    simp (maxSteps := 9^9) (disch := (try simp only [lens]); omega) only [argSl, sm, ↓amb, mark_eq, simprocAttr, dx, en54, en57]
    repeat refine an ?_
    refine hk _ ?_; clear hk k
    refine awp_ret ?_
    refine ret1 rfl rfl ?_
    exact .p (LeP.of_eq (by rw [decide_eq_false (Pl.br_no (x := x) hk1 hk2 hk3)]))
set_option maxHeartbeats 4000000 in
theorem c_ref25_Right (c d : Bool) (x : Pl.Batch) : PCall Try.prog 25 [.agg (batchC c d x)] (bV (decide (Pl.batchRight x))) := by
 refine pcall_of_awp Try.func25 rfl (by simp [Try.ntmps25]) fun C hC => ?_
 refine awp_le (le_keep [0]) ?_
 simp only [kp, argSl, simprocAttr]
 refine awp_sr [] (by rw [hC]; rfl) fun k hk => ?_
 simp (maxSteps := 9^9) (disch := (try simp only [lens]); omega) only [argSl, sm, ↓amb, mark_eq, simprocAttr, dx]
 repeat refine an ?_
 refine hk _ ?_; clear hk k
 refine awp_seq fun k1 h1 => ?_
 refine awp_test [] 47 (decide (¬ Pl.shape x)) [1, 2] (by rw [hC]; rfl) (fun gd hgd k hk => ?_) ?_
 ·have g3 : gd 3 = some 9 := by rw [hgd]; rfl
  have g8 : gd 8 = some 14 := by rw [hgd]; rfl
  have g12 : gd 12 = some 18 := by rw [hgd]; rfl
  have g19 : gd 19 = some 25 := by rw [hgd]; rfl
  have g23 : gd 23 = some 29 := by rw [hgd]; rfl
  have g30 : gd 30 = some 36 := by rw [hgd]; rfl
  have g36 : gd 36 = some 42 := by rw [hgd]; rfl
  clear hgd
  simp (maxSteps := 9^9) (disch := (try simp only [lens]); omega) only [argSl, sm, ↓amb, mark_eq, simprocAttr, fl27_0, sz3, fl27_1, sz24, el24, fl27_2, sz25, el25, gcase_undef, g3, g8, g12, g19, g23, g30, g36, dx]
  repeat' first | refine hk _ _ rfl rfl rfl rfl ?_ | (refine gsplit (fun hg => ?_) (fun hg => ?_) <;> (try simp only [hbx] at hg) <;> simp (maxSteps := 9^9) (disch := (try simp only [lens]); omega) only [argSl, sm, ↓amb, mark_eq, simprocAttr, fl27_0, sz3, fl27_1, sz24, el24, fl27_2, sz25, el25, gcase_undef, g3, g8, g12, g19, g23, g30, g36, dx]) | apply And.intro | fail
  all_goals first | rfl | omega | exact (decide_eq_true (by (try simp only [Pl.shape, Pl.okEdge, Pl.okAsk, Pl.fits] at *); omega)).symm | exact (decide_eq_false (by (try simp only [Pl.shape, Pl.okEdge, Pl.okAsk, Pl.fits] at *); omega)).symm | exact decide_eq_decide.mpr (by (try simp only [Pl.shape, Pl.okEdge, Pl.okAsk, Pl.fits] at *); omega) | (refine Bool.eq_iff_iff.mpr ?_; (try simp only [Pl.shape, Pl.okEdge, Pl.okAsk, Pl.fits] at *); simp only [beq_iff_eq, bne_iff_ne, ne_eq, decide_eq_true_eq]; omega) | (refine Bool.eq_iff_iff.mpr ?_; simp only [Bool.not_eq_true', Bool.not_eq_false', decide_eq_false_iff_not, decide_eq_true_eq, beq_iff_eq, bne_iff_ne, ne_eq]; (try simp only [Pl.shape, Pl.okEdge, Pl.okAsk, Pl.fits] at *); omega) | assumption | (simp; done) | (simp [maxLen]; omega) | skip
 simp only [kp, argSl, simprocAttr, List.length_cons, List.length_nil]
 refine awp_cond rfl (fun hb => ?_) (fun hb => ?_)
 ·try simp only [hbx] at hb
  refine awp_le (le_keep []) ?_
  simp only [kp, argSl, simprocAttr]
  refine awp_sr [] (by rw [hC]; rfl) fun k hk => ?_
  simp (maxSteps := 9^9) (disch := (try simp only [lens]); omega) only [argSl, sm, ↓amb, mark_eq, simprocAttr, dx]
  repeat refine an ?_
  refine hk _ ?_; clear hk k
  refine awp_ret ?_
  refine ret1 rfl rfl ?_
  exact .p (LeP.of_eq (by rw [decide_eq_false (fun h => hb (Pl.br_shape h).1)]))
 ·try simp only [hbx] at hb
  refine awp_skip ?_
  refine h1 _ ?_; clear h1 k1
  refine awp_seq fun k2 h2 => ?_
  refine awp_le (le_keep [1, 2]) ?_
  simp only [kp, argSl, simprocAttr]
  have hsh : Pl.shape x := by first | exact hb | exact Decidable.not_not.1 hb
  have hs60 := hsh
  unfold Pl.shape at hs60
  refine awp_sr [] (by rw [hC]; rfl) fun k hk => ?_
  simp (maxSteps := 9^9) (disch := (try simp only [lens]); omega) only [argSl, sm, ↓amb, mark_eq, simprocAttr, dx]
  repeat refine an ?_
  refine hk _ ?_; clear hk k
  refine awp_block ?_
  refine awp_loop (σ := Nat) (fun i => i ≤ x.edges.length ∧ ∀ j, j < i → Pl.okEdge (x.edges.getD j default)) (fun (i : Nat) => ⟨[(1, (.ptr 0 3 0 0)), (3, (.p (iV (i : Int))))], [(0, (.row 3 [[.p (iV x.kind), .p (.seq c (x.edges.map edgeC)), .p (.seq d (x.asks.map askC))]]))], 1⟩) (fun i => x.edges.length - i) 0 ?_ ?_ fun i hi => ?_
  ·exact ⟨Nat.zero_le _, fun j hj => by omega⟩
  ·exact le_of [(0, _)] (by rfl) (by rfl) ⟨⟨_, rfl, .ptr rfl⟩, ⟨_, rfl, .oe⟩, trivial⟩ ⟨⟨_, rfl, _, rfl, .one (.cons (.p (.refl _)) (.cons (.p (.refl _)) (.cons (.p (.refl _)) (.nil))))⟩, trivial⟩
  obtain ⟨hi1, hi2⟩ := hi
  refine awp_seq fun k4 h4 => ?_
  refine awp_le (le_keep [0, 1, 2, 3]) ?_
  simp only [kp, argSl, simprocAttr]
  refine awp_sr [] (by rw [hC]; rfl) fun k hk => ?_
  simp (maxSteps := 9^9) (disch := (try simp only [lens]); omega) only [argSl, sm, ↓amb, mark_eq, simprocAttr, fl27_1, sz24, el24, dx]
  repeat refine an ?_
  refine hk _ ?_; clear hk k
  refine awp_cond rfl (fun hb => ?_) (fun hb => ?_)
  ·try simp only [hbx] at hb
   refine awp_skip ?_
   refine h4 _ ?_; clear h4 k4
   refine awp_seq fun k5 h5 => ?_
   refine awp_block ?_
   refine awp_test [] 72 (decide (¬ Pl.okEdge (x.edges.getD i default))) [0, 1, 2, 3] (by rw [hC]; rfl) (fun gd hgd k hk => ?_) ?_
   ·have g8 : gd 8 = some 63 := by rw [hgd]; rfl
    clear hgd
    simp (maxSteps := 9^9) (disch := (try simp only [lens]); omega) only [argSl, sm, ↓amb, mark_eq, simprocAttr, fl27_1, sz24, el24, sz47, fl47_0, sz3, en60, fl47_1, gcase_undef, g8, dx]
    repeat' first | refine hk _ _ rfl rfl rfl rfl ?_ | (refine gsplit (fun hg => ?_) (fun hg => ?_) <;> (try simp only [hbx] at hg) <;> simp (maxSteps := 9^9) (disch := (try simp only [lens]); omega) only [argSl, sm, ↓amb, mark_eq, simprocAttr, fl27_1, sz24, el24, sz47, fl47_0, sz3, en60, fl47_1, gcase_undef, g8, dx]) | apply And.intro | (refine callK_p (c_ref25_short _) rfl ?_; (try simp (maxSteps := 9^9) (disch := (try simp only [lens]); omega) only [argSl, sm, ↓amb, mark_eq, simprocAttr, fl27_1, sz24, el24, sz47, fl47_0, sz3, en60, fl47_1, gcase_undef, g8, dx])) | (refine callK_p (c_ref25_short _) rfl ?_; (try simp (maxSteps := 9^9) (disch := (try simp only [lens]); omega) only [argSl, sm, ↓amb, mark_eq, simprocAttr, fl27_1, sz24, el24, sz47, fl47_0, sz3, en60, fl47_1, gcase_undef, g8, dx])) | fail
    all_goals first | rfl | omega | exact (decide_eq_true (by (try simp only [Pl.shape, Pl.okEdge, Pl.okAsk, Pl.fits] at *); omega)).symm | exact (decide_eq_false (by (try simp only [Pl.shape, Pl.okEdge, Pl.okAsk, Pl.fits] at *); omega)).symm | exact decide_eq_decide.mpr (by (try simp only [Pl.shape, Pl.okEdge, Pl.okAsk, Pl.fits] at *); omega) | (refine Bool.eq_iff_iff.mpr ?_; (try simp only [Pl.shape, Pl.okEdge, Pl.okAsk, Pl.fits] at *); simp only [beq_iff_eq, bne_iff_ne, ne_eq, decide_eq_true_eq]; omega) | (refine Bool.eq_iff_iff.mpr ?_; simp only [Bool.not_eq_true', Bool.not_eq_false', decide_eq_false_iff_not, decide_eq_true_eq, beq_iff_eq, bne_iff_ne, ne_eq]; (try simp only [Pl.shape, Pl.okEdge, Pl.okAsk, Pl.fits] at *); omega) | assumption | (simp; done) | (simp [maxLen]; omega) | skip
   simp only [kp, argSl, simprocAttr, List.length_cons, List.length_nil]
   refine awp_cond rfl (fun hb => ?_) (fun hb => ?_)
   ·try simp only [hbx] at hb
    refine awp_le (le_keep []) ?_
    simp only [kp, argSl, simprocAttr]
    refine awp_sr [] (by rw [hC]; rfl) fun k hk => ?_
    simp (maxSteps := 9^9) (disch := (try simp only [lens]); omega) only [argSl, sm, ↓amb, mark_eq, simprocAttr, dx]
    repeat refine an ?_
    refine hk _ ?_; clear hk k
    refine awp_ret ?_
    refine ret1 rfl rfl ?_
    exact .p (LeP.of_eq (by rw [decide_eq_false (fun h => hb ((Pl.br_shape h).2.1 _ (Pl.getD_mem _ i default (by omega))))]))
   ·try simp only [hbx] at hb
    refine awp_skip ?_
    refine h5 _ ?_; clear h5 k5
    refine awp_region [] (by rw [hC]; rfl) fun k hk => ?_
    simp (maxSteps := 9^9) (disch := (try simp only [lens]); omega) only [argSl, sm, ↓amb, mark_eq, simprocAttr, dx]
    repeat refine an ?_
    refine hk _ ?_; clear hk k
    refine ⟨i + 1, ⟨by omega, fun j hj => by by_cases e : j = i; subst e; exact (by first | exact hb | exact Decidable.not_not.1 hb); exact hi2 j (by omega)⟩, le_of [(0, _)] (by rfl) (by rfl) ⟨⟨_, rfl, .ptr rfl⟩, ⟨_, rfl, .oe⟩, trivial⟩ ⟨⟨_, rfl, _, rfl, .one (.cons (.p (.refl _)) (.cons (.p (.refl _)) (.cons (.p (.refl _)) (.nil))))⟩, trivial⟩, by omega⟩
  ·try simp only [hbx] at hb
   refine awp_exit ((if_pos rfl).mpr ?_)
   refine h2 _ ?_; clear h4 k4; clear h2 k2
   refine awp_seq fun k6 h6 => ?_
   refine awp_le (le_keep [1, 2]) ?_
   simp only [kp, argSl, simprocAttr]
   have hed : ∀ e, e ∈ x.edges → Pl.okEdge e := fun e h => Decidable.not_not.1 (of_decide_eq_false (Pl.all_of (p := fun e => decide (¬ Pl.okEdge e)) (i := i) (by omega) (fun j hj _ => decide_eq_false (fun q => q (hi2 j hj))) e h))
   refine awp_sr [] (by rw [hC]; rfl) fun k hk => ?_
   simp (maxSteps := 9^9) (disch := (try simp only [lens]); omega) only [argSl, sm, ↓amb, mark_eq, simprocAttr, dx]
   repeat refine an ?_
   refine hk _ ?_; clear hk k
   refine awp_block ?_
   refine awp_loop (σ := Nat) (fun i => i ≤ x.asks.length ∧ ∀ j, j < i → Pl.okAsk (x.asks.getD j default)) (fun (i : Nat) => ⟨[(1, (.ptr 0 3 0 0)), (4, (.p (iV (i : Int))))], [(0, (.row 3 [[.p (iV x.kind), .p (.seq c (x.edges.map edgeC)), .p (.seq d (x.asks.map askC))]]))], 1⟩) (fun i => x.asks.length - i) 0 ?_ ?_ fun i hi => ?_
   ·exact ⟨Nat.zero_le _, fun j hj => by omega⟩
   ·exact le_of [(0, _)] (by rfl) (by rfl) ⟨⟨_, rfl, .ptr rfl⟩, ⟨_, rfl, .oe⟩, trivial⟩ ⟨⟨_, rfl, _, rfl, .one (.cons (.p (.refl _)) (.cons (.p (.refl _)) (.cons (.p (.refl _)) (.nil))))⟩, trivial⟩
   obtain ⟨hi1, hi2⟩ := hi
   refine awp_seq fun k8 h8 => ?_
   refine awp_le (le_keep [0, 1, 2, 4]) ?_
   simp only [kp, argSl, simprocAttr]
   refine awp_sr [] (by rw [hC]; rfl) fun k hk => ?_
   simp (maxSteps := 9^9) (disch := (try simp only [lens]); omega) only [argSl, sm, ↓amb, mark_eq, simprocAttr, fl27_2, sz25, el25, dx]
   repeat refine an ?_
   refine hk _ ?_; clear hk k
   refine awp_cond rfl (fun hb => ?_) (fun hb => ?_)
   ·try simp only [hbx] at hb
    refine awp_skip ?_
    refine h8 _ ?_; clear h8 k8
    refine awp_seq fun k9 h9 => ?_
    refine awp_block ?_
    refine awp_le (le_keep [0, 1, 2, 4]) ?_
    simp only [kp, argSl, simprocAttr]
    refine awp_sr [] (by rw [hC]; rfl) fun k hk => ?_
    simp (maxSteps := 9^9) (disch := (try simp only [lens]); omega) only [argSl, sm, ↓amb, mark_eq, simprocAttr, fl27_2, sz25, el25, sz45, vr45, dx]
    repeat refine an ?_
    refine hk _ ?_; clear hk k
    refine awp_test [] 104 (decide (¬ Pl.okAsk (x.asks.getD i default))) [0, 1, 2, 4] (by rw [hC]; rfl) (fun gd hgd k hk => ?_) ?_
    ·have g4 : gd 4 = some 89 := by rw [hgd]; rfl
     have g10 : gd 10 = some 95 := by rw [hgd]; rfl
     have g15 : gd 15 = some 100 := by rw [hgd]; rfl
     clear hgd
     simp (maxSteps := 9^9) (disch := (try simp only [lens]); omega) only [argSl, sm, ↓amb, mark_eq, simprocAttr, fl45_1, sz3, en60, fl45_2, fl45_0, gcase_undef, g4, g10, g15, dx]
     repeat' first | refine hk _ _ rfl rfl rfl rfl ?_ | (refine gsplit (fun hg => ?_) (fun hg => ?_) <;> (try simp only [hbx] at hg) <;> simp (maxSteps := 9^9) (disch := (try simp only [lens]); omega) only [argSl, sm, ↓amb, mark_eq, simprocAttr, fl45_1, sz3, en60, fl45_2, fl45_0, gcase_undef, g4, g10, g15, dx]) | apply And.intro | (refine callK_p (c_ref25_short _) rfl ?_; (try simp (maxSteps := 9^9) (disch := (try simp only [lens]); omega) only [argSl, sm, ↓amb, mark_eq, simprocAttr, fl45_1, sz3, en60, fl45_2, fl45_0, gcase_undef, g4, g10, g15, dx])) | (refine callK_p (c_ref25_short _) rfl ?_; (try simp (maxSteps := 9^9) (disch := (try simp only [lens]); omega) only [argSl, sm, ↓amb, mark_eq, simprocAttr, fl45_1, sz3, en60, fl45_2, fl45_0, gcase_undef, g4, g10, g15, dx])) | fail
     all_goals first | rfl | omega | exact (decide_eq_true (by (try simp only [Pl.shape, Pl.okEdge, Pl.okAsk, Pl.fits] at *); omega)).symm | exact (decide_eq_false (by (try simp only [Pl.shape, Pl.okEdge, Pl.okAsk, Pl.fits] at *); omega)).symm | exact decide_eq_decide.mpr (by (try simp only [Pl.shape, Pl.okEdge, Pl.okAsk, Pl.fits] at *); omega) | (refine Bool.eq_iff_iff.mpr ?_; (try simp only [Pl.shape, Pl.okEdge, Pl.okAsk, Pl.fits] at *); simp only [beq_iff_eq, bne_iff_ne, ne_eq, decide_eq_true_eq]; omega) | (refine Bool.eq_iff_iff.mpr ?_; simp only [Bool.not_eq_true', Bool.not_eq_false', decide_eq_false_iff_not, decide_eq_true_eq, beq_iff_eq, bne_iff_ne, ne_eq]; (try simp only [Pl.shape, Pl.okEdge, Pl.okAsk, Pl.fits] at *); omega) | assumption | (simp; done) | (simp [maxLen]; omega) | skip
    simp only [kp, argSl, simprocAttr, List.length_cons, List.length_nil]
    refine awp_cond rfl (fun hb => ?_) (fun hb => ?_)
    ·try simp only [hbx] at hb
     refine awp_le (le_keep []) ?_
     simp only [kp, argSl, simprocAttr]
     refine awp_sr [] (by rw [hC]; rfl) fun k hk => ?_
     simp (maxSteps := 9^9) (disch := (try simp only [lens]); omega) only [argSl, sm, ↓amb, mark_eq, simprocAttr, dx]
     repeat refine an ?_
     refine hk _ ?_; clear hk k
     refine awp_ret ?_
     refine ret1 rfl rfl ?_
     exact .p (LeP.of_eq (by rw [decide_eq_false (fun h => hb ((Pl.br_shape h).2.2 _ (Pl.getD_mem _ i default (by omega))))]))
    ·try simp only [hbx] at hb
     refine awp_skip ?_
     refine h9 _ ?_; clear h9 k9
     refine awp_region [] (by rw [hC]; rfl) fun k hk => ?_
     simp (maxSteps := 9^9) (disch := (try simp only [lens]); omega) only [argSl, sm, ↓amb, mark_eq, simprocAttr, dx]
     repeat refine an ?_
     refine hk _ ?_; clear hk k
     refine ⟨i + 1, ⟨by omega, fun j hj => by by_cases e : j = i; subst e; exact (by first | exact hb | exact Decidable.not_not.1 hb); exact hi2 j (by omega)⟩, le_of [(0, _)] (by rfl) (by rfl) ⟨⟨_, rfl, .ptr rfl⟩, ⟨_, rfl, .oe⟩, trivial⟩ ⟨⟨_, rfl, _, rfl, .one (.cons (.p (.refl _)) (.cons (.p (.refl _)) (.cons (.p (.refl _)) (.nil))))⟩, trivial⟩, by omega⟩
   ·try simp only [hbx] at hb
    refine awp_exit ((if_pos rfl).mpr ?_)
    refine h6 _ ?_; clear h8 k8; clear h6 k6
    refine awp_le (le_keep []) ?_
    simp only [kp, argSl, simprocAttr]
    refine awp_sr [] (by rw [hC]; rfl) fun k hk => ?_
    simp (maxSteps := 9^9) (disch := (try simp only [lens]); omega) only [argSl, sm, ↓amb, mark_eq, simprocAttr, dx]
    repeat refine an ?_
    refine hk _ ?_; clear hk k
    refine awp_ret ?_
    have hak : ∀ a, a ∈ x.asks → Pl.okAsk a := fun a h => Decidable.not_not.1 (of_decide_eq_false (Pl.all_of (p := fun a => decide (¬ Pl.okAsk a)) (i := i) (by omega) (fun j hj _ => decide_eq_false (fun q => q (hi2 j hj))) a h))
    refine ret1 rfl rfl ?_
    exact .p (LeP.of_eq (by rw [decide_eq_true (Pl.br_ref (by first | exact hsh | exact Decidable.not_not.1 hsh) hed hak)]))
end Go.Proofs.Ytjkkjiaeeobnkaa
end
section
set_option linter.unusedSimpArgs false
set_option linter.unusedVariables false
namespace Go.Pl
theorem mapR_get {n : Nat} {v : Nat → Int} {j : Nat} (h : j < n) (d : Int) : ((List.range n).map v).getD j d = v j := by
  simp [List.getD_eq_getElem?_getD, h]
@[reducible] def W32 (x : Int) : Prop := 0 ≤ x ∧ x ≤ 4294967295
structure Rule (f : Int → Int → Int) : Prop where
  cl : ∀ a b, W32 a → W32 b → W32 (f a b)
  asc : ∀ a b c, W32 a → W32 b → W32 c → f (f a b) c = f a (f b c)
  z1 : ∀ a, W32 a → f 0 a = a
  z2 : ∀ a, W32 a → f a 0 = a
theorem take_snoc' (l : List Int) (i : Nat) (h : i < l.length) : l.take (i + 1) = l.take i ++ [l.getD i 0] := by
  rw [List.take_add_one, List.getD_eq_getElem?_getD, List.getElem?_eq_getElem h]; rfl
def part (l : List Int) (b i : Nat) : List Int := (l.take (min l.length ((i + 1) * b))).drop (i * b)
end Go.Pl
end
section
set_option linter.unusedSimpArgs false
set_option linter.unusedVariables false
namespace Go.Pl
def xr (x y : Int) : Int := ((BitVec.ofInt 32 x ^^^ BitVec.ofInt 32 y).toNat : Int) % 4294967296
def an (x y : Int) : Int := ((BitVec.ofInt 32 x &&& BitVec.ofInt 32 y).toNat : Int) % 4294967296
def one (x op y : Int) : Int :=
  if op = 1 then (x + y) % 4294967296 else if op = 2 then xr x y else if op = 3 then (x * 2 ^ min (y % 32).toNat 32) % 4294967296 else
  if op = 4 then x / 2 ^ min (y % 32).toNat 32 else if op = 5 then an x y else if op = 6 then (if y < x then 1 else 0) else 0
def opOk (op : Int) : Prop := 1 ≤ op ∧ op ≤ 6
instance (op : Int) : Decidable (opOk op) := by unfold opOk; infer_instance
theorem ordE_iff {n : Int} {p : Plan} : ordE n p = 0 ↔ ordOk n p := by
  unfold ordE; split
  · rename_i h; exact ⟨fun _ => h, fun _ => rfl⟩
  · rename_i h; exact ⟨fun q => absurd q (by decide), fun q => absurd q h⟩
def onceP (l : List Int) (n : Nat) : Prop := l.length = n ∧ (∀ x, x ∈ l → 0 ≤ x ∧ x < n) ∧ ∀ k, k < n → (k : Int) ∈ l
instance (l : List Int) (n : Nat) : Decidable (onceP l n) := by unfold onceP; infer_instance
end Go.Pl
namespace Go.Pl
theorem upto_snoc' (k : Nat) : upto 0 (k : Int) ++ [(k : Int)] = upto 0 ((k + 1 : Nat) : Int) := by
  have := upto_snoc (a := 0) k
  rwa [Int.zero_add, Int.zero_add] at this
end Go.Pl
end
section
set_option linter.unusedSimpArgs false
set_option linter.unusedVariables false
namespace Go.Pl
def scE (n : Nat) (b : Int) (p : Plan) : Int := if (1 ≤ b ∧ b ≤ 100) ∧ n ≤ 1000 then ordE (blk n b) p else 1
theorem sc_iff {n : Nat} {b : Int} {p : Plan} : scE n b p = 0 ↔ (1 ≤ b ∧ b ≤ 100) ∧ n ≤ 1000 ∧ ordOk (blk n b) p := by
  unfold scE; split
  · rename_i h; rw [ordE_iff]; exact ⟨fun q => ⟨h.1, h.2, q⟩, fun q => q.2.2⟩
  · rename_i h; exact ⟨fun q => absurd q (by decide), fun q => absurd ⟨q.1, q.2.1⟩ h⟩
end Go.Pl
end
section
set_option linter.unusedSimpArgs false
set_option linter.unusedVariables false
namespace Go.Pl
def lowB (d : Int → Int) (l : List Int) (v : Nat) : List Int := (List.range v).flatMap fun (u : Nat) => l.filter fun x => decide (d x = u)
theorem nodup_inj {l : List Int} (h : l.Nodup) {i j : Nat} (hi : i < l.length) (hj : j < l.length) (e : l[i] = l[j]) : i = j := by
  have hp := List.pairwise_iff_getElem.1 h
  rcases Nat.lt_trichotomy i j with c | c | c
  · exact absurd e (hp i j hi hj c)
  · exact c
  · exact absurd e.symm (hp j i hj hi c)
def less (d : Int → Int) (l : List Int) (v : Nat) : Nat := (lowB d l v).length
def same (d : Int → Int) (l : List Int) (v : Int) : Nat := (l.filter fun x => decide (d x = v)).length
theorem filter_at (p : Int → Bool) (l : List Int) (m : Nat) (h : m < l.length) (hp : p (l.getD m 0) = true) : (l.filter p)[((l.take m).filter p).length]? = some (l.getD m 0) := by
  have e : l = l.take m ++ l.getD m 0 :: l.drop (m + 1) := by
    rw [List.getD_eq_getElem?_getD, List.getElem?_eq_getElem h, Option.getD_some, ← List.drop_eq_getElem_cons h, List.take_append_drop]
  conv => lhs; rw [e]
  rw [List.filter_append, List.filter_cons_of_pos hp]
  have e2 : (l.take m ++ l.getD m 0 :: l.drop (m + 1)).take m = l.take m := by
    rw [← e]
  rw [List.getElem?_append_right (by rw [e2]; exact Nat.le_refl _), e2]; simp
end Go.Pl
end
section
set_option linter.unusedSimpArgs false
set_option linter.unusedVariables false
namespace Go.Pl
def tabL (n : Nat) (g : Nat → Int) : List Int := (List.range n).map g
theorem tabL_len (n : Nat) (g : Nat → Int) : (tabL n g).length = n := by simp [tabL]
theorem tabL_get {n : Nat} {g : Nat → Int} {i : Nat} (h : i < n) : (tabL n g).getD i 0 = g i := mapR_get h 0
theorem tabL_congr {n : Nat} {g g' : Nat → Int} (h : ∀ j, j < n → g j = g' j) : tabL n g = tabL n g' := List.map_congr_left fun j hj => h j (List.mem_range.1 hj)
def sortedL (l o : List Int) : List Int := o.map fun i => l.getD i.toNat 0
theorem sortedL_len (l o : List Int) : (sortedL l o).length = o.length := by simp [sortedL]
end Go.Pl
end
section
set_option linter.unusedSimpArgs false
set_option linter.unusedVariables false
namespace Go.Pl
def marksL (fl : List Bool) (w : Bool) : List Int := tabL fl.length fun j => if fl.getD j false = w then 0 else 1
theorem marksL_len (fl : List Bool) (w : Bool) : (marksL fl w).length = fl.length := tabL_len _ _
theorem marksL_get {fl : List Bool} {w : Bool} {i : Nat} (h : i < fl.length) : (marksL fl w).getD i 0 = if fl.getD i false = w then 0 else 1 := tabL_get h
def onesP (m : List Int) (x : Int) : Bool := decide (m.getD x.toNat 0 = 1)
def onesL (m : List Int) : List Int := (upto 0 m.length).filter (onesP m)
def onesN (m : List Int) (i : Nat) : Nat := ((upto 0 (i : Int)).filter (onesP m)).length
def bits (m : List Int) : Prop := ∀ x, x ∈ m → x = 0 ∨ x = 1
theorem onesN_s {m : List Int} {i : Nat} : onesN m (i + 1) = onesN m i + if m.getD i 0 = 1 then 1 else 0 := by
  unfold onesN
  rw [← upto_snoc', List.filter_append, List.length_append]
  congr 1
  by_cases h : m.getD i 0 = 1
  · rw [if_pos h, List.filter_cons_of_pos (by unfold onesP; simpa using h)]; rfl
  · rw [if_neg h, List.filter_cons_of_neg (by unfold onesP; simpa using h)]; rfl
theorem onesL_len (m : List Int) : (onesL m).length = onesN m m.length := rfl
theorem upto_get {n u : Nat} (h : u < n) : (upto 0 (n : Int)).getD u 0 = u := by
  unfold upto
  rw [List.getD_eq_getElem?_getD, List.getElem?_map, List.getElem?_range (by omega)]
  simp
theorem upto_take {n u : Nat} (h : u ≤ n) : (upto 0 (n : Int)).take u = upto 0 (u : Int) := by
  unfold upto
  rw [← List.map_take, List.take_range]
  congr 2; omega
theorem onesL_at {m : List Int} {u : Nat} (h : u < m.length) (h1 : m.getD u 0 = 1) : (onesL m).getD (onesN m u) 0 = u ∧ onesN m u < (onesL m).length := by
  have hl : (upto 0 (m.length : Int)).length = m.length := by rw [upto_len]; omega
  have q := filter_at (onesP m) (upto 0 m.length) u (by omega) (by rw [upto_get h]; unfold onesP; simpa using h1)
  rw [upto_take (by omega), upto_get h] at q
  obtain ⟨hlt, _⟩ := List.getElem?_eq_some_iff.1 q
  exact ⟨by unfold onesL onesN; rw [List.getD_eq_getElem?_getD, q]; rfl, hlt⟩
def whL (fl : List Bool) (w : Bool) (bl : Int) (p : Plan) : List Int := if scE fl.length bl p = 0 then onesL (marksL fl w) else []
def paE (l : List Int) (fl : List Bool) (bl : Int) (p : Plan) : Int := if l.length = fl.length then scE fl.length bl p else 1
def paL (l : List Int) (fl : List Bool) (w : Bool) (bl : Int) (p : Plan) : List Int := if l.length = fl.length then sortedL l (whL fl w bl p) else []
def ptL (l : List Int) (fl : List Bool) (bl : Int) (p : Plan) : List Int := if paE l fl bl p = 0 then paL l fl false bl p ++ sortedL l (whL fl true bl p) else []
def ptN (l : List Int) (fl : List Bool) (bl : Int) (p : Plan) : Int := if paE l fl bl p = 0 then (paL l fl false bl p).length else 0
def cntB (fl : List Bool) (i : Nat) : Nat := (fl.take i).count true
theorem cntB_s {fl : List Bool} {i : Nat} (h : i < fl.length) : cntB fl (i + 1) = cntB fl i + if fl.getD i false = true then 1 else 0 := by
  unfold cntB
  rw [List.take_add_one, List.count_append, List.getD_eq_getElem?_getD, List.getElem?_eq_getElem h]
  cases fl[i] <;> simp
theorem cntB_end (fl : List Bool) : cntB fl fl.length = fl.count true := by unfold cntB; rw [List.take_of_length_le (Nat.le_refl _)]
def spOk (l : List Int) (fl : List Bool) : Prop := fl.count true = l.length
instance (l : List Int) (fl : List Bool) : Decidable (spOk l fl) := by unfold spOk; infer_instance
end Go.Pl
end
section
set_option linter.unusedSimpArgs false
set_option linter.unusedVariables false
namespace Go.Pl
theorem onesN_at {m : List Int} {j : Nat} (hj : j < (onesL m).length) : onesN m ((onesL m).getD j 0).toNat = j ∧ m.getD ((onesL m).getD j 0).toNat 0 = 1 ∧ 0 ≤ (onesL m).getD j 0 ∧ (onesL m).getD j 0 < m.length := by
  have hx : (onesL m).getD j 0 ∈ onesL m := getD_mem _ _ _ hj
  have hx2 := List.mem_filter.1 hx
  have hr := mem_upto.1 hx2.1
  have h1 : m.getD ((onesL m).getD j 0).toNat 0 = 1 := by have := hx2.2; unfold onesP at this; simpa using this
  have q := onesL_at (u := ((onesL m).getD j 0).toNat) (by omega) h1
  have hd : (onesL m).Nodup := (nodup_upto _ _).filter _
  refine ⟨?_, h1, hr.1, hr.2⟩
  have e : (onesL m)[onesN m ((onesL m).getD j 0).toNat]'q.2 = (onesL m)[j] := by
    have q1 := q.1
    rw [List.getD_eq_getElem?_getD, List.getElem?_eq_getElem q.2] at q1
    simp only [Option.getD_some] at q1
    rw [q1]
    rw [List.getD_eq_getElem?_getD, List.getElem?_eq_getElem hj] at hr ⊢
    simp only [Option.getD_some] at hr ⊢
    omega
  exact nodup_inj hd q.2 hj e
theorem cntB_ones {fl : List Bool} : ∀ i, i ≤ fl.length → onesN (marksL fl false) i = cntB fl i
  | 0, _ => by unfold onesN cntB; rw [upto_nil (by simp)]; rfl
  | i + 1, h => by
    rw [onesN_s, cntB_ones i (by omega), cntB_s (by omega), marksL_get (by omega)]
    congr 1
    cases fl.getD i false <;> simp
theorem ones_len (fl : List Bool) : (onesL (marksL fl false)).length = fl.count true := by
  rw [onesL_len, marksL_len, cntB_ones _ (Nat.le_refl _), cntB_end]
theorem sortedL_get {l o : List Int} {j : Nat} (h : j < o.length) : (sortedL l o).getD j 0 = l.getD (o.getD j 0).toNat 0 := by
  unfold sortedL
  rw [List.getD_eq_getElem?_getD, List.getElem?_map, List.getElem?_eq_getElem h, List.getD_eq_getElem?_getD (l := o), List.getElem?_eq_getElem h]; rfl
theorem scE_ok {n : Nat} {bl : Int} {p : Plan} (h1 : 1 ≤ bl ∧ bl ≤ 100) (hn : n ≤ 1000) (hp : planRight p) : scE n bl p = 0 := by
  have hbk := blk_up (b := bl) (show (0 : Int) ≤ n by omega) (Int.le_refl _) (by omega)
  exact sc_iff.2 ⟨h1, hn, by omega, by omega, hp⟩
def notL (fl : List Bool) (i : Nat) : List Bool := (fl.take i).map fun q => !q
theorem notL_len (fl : List Bool) {i : Nat} (h : i ≤ fl.length) : (notL fl i).length = i := by unfold notL; rw [List.length_map, List.length_take]; omega
theorem cnt_not : ∀ fl : List Bool, fl.count true + (fl.map fun q => !q).count true = fl.length
  | [] => rfl
  | b :: fl => by
    have := cnt_not fl
    cases b <;> simp only [List.map_cons, List.count_cons, List.length_cons] <;> simp <;> omega
theorem marks_not (fl : List Bool) : marksL (notL fl fl.length) false = marksL fl true := by
  unfold marksL
  rw [notL_len fl (Nat.le_refl _)]
  refine tabL_congr fun j hj => ?_
  have e : (notL fl fl.length).getD j false = !(fl.getD j false) := by
    unfold notL
    rw [List.take_of_length_le (Nat.le_refl _), List.getD_eq_getElem?_getD, List.getElem?_map, List.getElem?_eq_getElem hj, List.getD_eq_getElem?_getD, List.getElem?_eq_getElem hj]; rfl
  rw [e]
  cases fl.getD j false <;> simp
theorem parts {l : List Int} {fl : List Bool} {bl : Int} {p : Plan} (hl : l.length = fl.length) (h1 : 1 ≤ bl ∧ bl ≤ 100) (hn : fl.length ≤ 1000) (hp : planRight p) :
    paE l fl bl p = 0 ∧ paE l (notL fl fl.length) bl p = 0 ∧ scE fl.length bl p = 0 ∧ ptL l fl bl p = paL l fl false bl p ++ paL l (notL fl fl.length) false bl p ∧
    ptN l fl bl p = (paL l fl false bl p).length ∧ (whL fl false bl p).length = (paL l fl false bl p).length ∧ (paL l fl false bl p).length + (paL l (notL fl fl.length) false bl p).length = l.length ∧
    ∀ i, i < (whL fl false bl p).length → (0 ≤ (whL fl false bl p).getD i 0 ∧ (whL fl false bl p).getD i 0 < fl.length) ∧ fl.getD ((whL fl false bl p).getD i 0).toNat false = true ∧ (paL l fl false bl p).getD i 0 = l.getD ((whL fl false bl p).getD i 0).toNat 0 ∧ (1 ≤ i → (whL fl false bl p).getD (i - 1) 0 < (whL fl false bl p).getD i 0) := by
  have e3 := scE_ok (p := p) h1 hn hp
  have hnl := notL_len fl (Nat.le_refl _)
  have e3' : scE (notL fl fl.length).length bl p = 0 := by rw [hnl]; exact e3
  have hl' : l.length = (notL fl fl.length).length := by rw [hnl]; exact hl
  have w1 : whL fl false bl p = onesL (marksL fl false) := if_pos e3
  have w2 : whL fl true bl p = onesL (marksL fl true) := if_pos e3
  have w3 : whL (notL fl fl.length) false bl p = onesL (marksL fl true) := by rw [← marks_not]; exact if_pos e3'
  have p1 : paL l fl false bl p = sortedL l (onesL (marksL fl false)) := by rw [← w1]; exact if_pos hl
  have p2 : paL l (notL fl fl.length) false bl p = sortedL l (onesL (marksL fl true)) := by rw [← w3]; exact if_pos hl'
  have pe : paE l fl bl p = 0 := (if_pos hl).trans e3
  refine ⟨pe, (if_pos hl').trans e3', e3, ?_, if_pos pe, by rw [w1, p1, sortedL_len], ?_, fun i hi => ?_⟩
  · rw [p2, ← w2]; exact if_pos pe
  · rw [p1, p2, sortedL_len, sortedL_len, ← marks_not, ones_len, ones_len]
    have := cnt_not fl
    unfold notL
    rw [List.take_of_length_le (Nat.le_refl _)]; omega
  · rw [w1] at hi ⊢
    obtain ⟨a, b, c, d⟩ := onesN_at hi
    rw [marksL_len] at d
    refine ⟨⟨c, d⟩, ?_, by rw [p1, sortedL_get hi], fun h1 => ?_⟩
    · rw [marksL_get (by omega)] at b
      cases hq : fl.getD ((onesL (marksL fl false)).getD i 0).toNat false
      · rw [hq] at b; simp at b
      · rfl
    · have hs : (onesL (marksL fl false)).Pairwise fun x y => x < y := by
        have hu : (upto 0 ((marksL fl false).length : Int)).Pairwise fun x y => x < y := by
          unfold upto
          rw [List.pairwise_map]
          exact List.pairwise_lt_range.imp fun {x y} h => by omega
        exact hu.filter _
      rw [List.getD_eq_getElem?_getD, List.getElem?_eq_getElem (show i - 1 < (onesL (marksL fl false)).length by omega), List.getD_eq_getElem?_getD, List.getElem?_eq_getElem hi]
      exact List.pairwise_iff_getElem.1 hs (i - 1) i (by omega) hi (by omega)
end Go.Pl
end
section
set_option linter.unusedSimpArgs false
set_option linter.unusedVariables false
namespace Go.Pl
theorem edges_of {a b : List Edge} (h : a.length = b.length) {i : Nat} (hi : a.length ≤ i) (h2 : ∀ j, j < i → a.getD j default = b.getD j default) : a = b := by
  refine List.ext_getElem h fun j h1 h3 => ?_
  have := h2 j (by omega)
  simpa [List.getD_eq_getElem?_getD, List.getElem?_eq_getElem h1, List.getElem?_eq_getElem h3] using this
theorem edge_ne (a b : Edge) : (!(a.u == b.u && a.v == b.v)) = decide ¬ a = b := by
  rw [Bool.eq_iff_iff]
  cases a; cases b
  simp
def fitE (e : Edge) : Prop := (0 ≤ e.u ∧ e.u < 65536) ∧ 0 ≤ e.v ∧ e.v < 65536
instance (e : Edge) : Decidable (fitE e) := by unfold fitE; infer_instance
theorem take_snocE {α : Type} [Inhabited α] (l : List α) (i : Nat) (h : i < l.length) : l.take (i + 1) = l.take i ++ [l.getD i default] := by
  rw [List.take_add_one, List.getD_eq_getElem?_getD, List.getElem?_eq_getElem h]; rfl
end Go.Pl
end
section
set_option linter.unusedSimpArgs false
set_option linter.unusedVariables false
namespace Go.Pl
def B8 (x : Int) : Prop := 0 ≤ x ∧ x < 256
def num2 (b : List Int) (i : Nat) : Int := b.getD i 0 * 256 + b.getD (i + 1) 0
def kindE (hi : Int) (b : List Int) (i : Nat) : Option (Int × Int) := if b.length ≤ i then some (i, 7) else if 1 ≤ b.getD i 0 ∧ b.getD i 0 ≤ hi then none else some (i, 8)
def numE (b : List Int) (i : Nat) : Option (Int × Int) := if i + 2 ≤ b.length then none else some (b.length, 7)
def itE (q : Bool) (b : List Int) (i : Nat) : Option (Int × Int) :=
  if q = true then (kindE 4 b i).or ((numE b (i + 1)).or (numE b (i + 3))) else (numE b i).or (numE b (i + 2))
def itS (q : Bool) : Nat := if q = true then 5 else 4
def itsE (q : Bool) (b : List Int) (i : Nat) : Nat → Option (Int × Int)
  | 0 => none
  | n + 1 => (itsE q b i n).or (itE q b (i + itS q * n))
def edgeAt (b : List Int) (i : Nat) : Edge := ⟨num2 b i, num2 b (i + 2)⟩
def askAt (b : List Int) (i : Nat) : Ask := ⟨b.getD i 0, num2 b (i + 1), num2 b (i + 3)⟩
def edgesAt (b : List Int) (i n : Nat) : List Edge := (List.range n).map fun k => edgeAt b (i + 4 * k)
def asksAt (b : List Int) (i n : Nat) : List Ask := (List.range n).map fun k => askAt b (i + 5 * k)
def isQ (b : List Int) (i : Nat) : Bool := decide (b.getD i 0 = 3)
def batN (b : List Int) (i : Nat) : Nat := (num2 b (i + 1)).toNat
def batE (b : List Int) (i : Nat) : Option (Int × Int) :=
  (kindE 3 b i).or ((numE b (i + 1)).or (if 60 < num2 b (i + 1) then some ((i : Int) + 1, 9) else itsE (isQ b i) b (i + 3) (batN b i)))
def batX (b : List Int) (i : Nat) : Batch :=
  ⟨b.getD i 0, if isQ b i = true then [] else edgesAt b (i + 3) (batN b i), if isQ b i = true then asksAt b (i + 3) (batN b i) else []⟩
def batS (b : List Int) (i : Nat) : Nat := 3 + itS (isQ b i) * batN b i
theorem kind_ok {hi : Int} {b : List Int} {i : Nat} (h : kindE hi b i = none) : i < b.length ∧ 1 ≤ b.getD i 0 ∧ b.getD i 0 ≤ hi := by
  unfold kindE at h
  split at h
  · cases h
  · split at h
    · rename_i h1 h2; exact ⟨by omega, h2⟩
    · cases h
theorem num_ok {b : List Int} {i : Nat} (h : numE b i = none) : i + 2 ≤ b.length := by
  unfold numE at h
  split at h
  · assumption
  · cases h
theorem kind_no {hi : Int} {b : List Int} {i : Nat} {e : Int × Int} (h : kindE hi b i = some e) : (b.length ≤ i ∧ e = ((i : Int), 7)) ∨ (i < b.length ∧ ¬ (1 ≤ b.getD i 0 ∧ b.getD i 0 ≤ hi) ∧ e = ((i : Int), 8)) := by
  unfold kindE at h
  split at h
  · injection h with h; exact .inl ⟨by assumption, h.symm⟩
  · split at h
    · cases h
    · injection h with h; exact .inr ⟨by omega, by assumption, h.symm⟩
theorem num_no {b : List Int} {i : Nat} {e : Int × Int} (h : numE b i = some e) : ¬ i + 2 ≤ b.length ∧ e = ((b.length : Int), 7) := by
  unfold numE at h
  split at h
  · cases h
  · injection h with h; exact ⟨by assumption, h.symm⟩
theorem or_none {o p : Option (Int × Int)} (h : o.or p = none) : o = none ∧ p = none := by cases o <;> simp_all [Option.or]
theorem num2_b {b : List Int} (hb : ∀ x, x ∈ b → B8 x) (i : Nat) : 0 ≤ num2 b i ∧ num2 b i < 65536 := by
  have h : ∀ j, 0 ≤ b.getD j 0 ∧ b.getD j 0 < 256 := fun j => by
    by_cases hj : j < b.length
    · exact hb _ (getD_mem b j 0 hj)
    · rw [List.getD_eq_getElem?_getD, List.getElem?_eq_none (by omega)]; simp
  have h1 := h i
  have h2 := h (i + 1)
  unfold num2; omega
theorem or_num {a b : Int} (ha : B8 a) (hb : B8 b) : ((BitVec.ofInt 64 (a * 256) ||| BitVec.ofInt 64 b).toNat : Int) = a * 256 + b := by
  unfold B8 at *
  obtain ⟨A, rfl⟩ := Int.eq_ofNat_of_zero_le ha.1
  obtain ⟨B, rfl⟩ := Int.eq_ofNat_of_zero_le hb.1
  rw [BitVec.toNat_or, BitVec.toNat_ofInt, BitVec.toNat_ofInt]
  have e2 : (((A : Int) * 256) % ((2 ^ 64 : Nat) : Int)).toNat = 2 ^ 8 * A := by omega
  have e3 : (((B : Nat) : Int) % ((2 ^ 64 : Nat) : Int)).toNat = B := by omega
  rw [e2, e3, ← Nat.two_pow_add_eq_or_of_lt (by omega)]
  omega
theorem edgesAt_snoc (b : List Int) (i n : Nat) : edgesAt b i (n + 1) = edgesAt b i n ++ [edgeAt b (i + 4 * n)] := by unfold edgesAt; rw [List.range_succ, List.map_append]; rfl
theorem asksAt_snoc (b : List Int) (i n : Nat) : asksAt b i (n + 1) = asksAt b i n ++ [askAt b (i + 5 * n)] := by unfold asksAt; rw [List.range_succ, List.map_append]; rfl
theorem edgesAt_len (b : List Int) (i n : Nat) : (edgesAt b i n).length = n := by simp [edgesAt]
theorem asksAt_len (b : List Int) (i n : Nat) : (asksAt b i n).length = n := by simp [asksAt]
theorem itsE_up {q : Bool} {b : List Int} {i : Nat} : ∀ {n m : Nat} {e : Int × Int}, itsE q b i n = none → itE q b (i + itS q * n) = some e → n < m → itsE q b i m = some e
  | n, 0, e, _, _, h => absurd h (by omega)
  | n, m + 1, e, h1, h2, h => by
    unfold itsE
    by_cases hm : n = m
    · subst hm; rw [h1, h2]; rfl
    · rw [itsE_up h1 h2 (show n < m by omega)]; rfl
theorem itsE_ok {q : Bool} {b : List Int} {i n : Nat} (h1 : itsE q b i n = none) (h2 : itE q b (i + itS q * n) = none) : itsE q b i (n + 1) = none := by
  unfold itsE; rw [h1, h2]; rfl
theorem some_or (o : Option (Int × Int)) : (∃ e, o = some e) ∨ o = none := by cases o with
  | none => exact .inr rfl
  | some e => exact .inl ⟨e, rfl⟩
theorem its_at {q : Bool} {b : List Int} {i n : Nat} : ∀ {m : Nat}, itsE q b i m = none → n < m → itE q b (i + itS q * n) = none ∧ itsE q b i n = none
  | 0, _, h => absurd h (by omega)
  | m + 1, h1, h => by
    unfold itsE at h1
    obtain ⟨h2, h3⟩ := or_none h1
    by_cases e : n = m
    · subst e; exact ⟨h3, h2⟩
    · exact its_at h2 (by omega)
theorem itE_ask {b : List Int} {i : Nat} (h : itE true b i = none) : kindE 4 b i = none ∧ numE b (i + 1) = none ∧ numE b (i + 3) = none := by
  unfold itE at h
  rw [if_pos rfl] at h
  obtain ⟨h1, h2⟩ := or_none h
  obtain ⟨h2, h3⟩ := or_none h2
  exact ⟨h1, h2, h3⟩
theorem itE_edge {b : List Int} {i : Nat} (h : itE false b i = none) : numE b i = none ∧ numE b (i + 2) = none := by
  unfold itE at h
  rw [if_neg (by decide)] at h
  exact or_none h
theorem ask_1 {b : List Int} {i : Nat} {e : Int × Int} (h : kindE 4 b i = some e) : itE true b i = some e := by unfold itE; rw [if_pos rfl, h]; rfl
theorem ask_2 {b : List Int} {i : Nat} {e : Int × Int} (h0 : kindE 4 b i = none) (h : numE b (i + 1) = some e) : itE true b i = some e := by unfold itE; rw [if_pos rfl, h0, h]; rfl
theorem ask_3 {b : List Int} {i : Nat} {e : Int × Int} (h0 : kindE 4 b i = none) (h1 : numE b (i + 1) = none) (h : numE b (i + 3) = some e) : itE true b i = some e := by unfold itE; rw [if_pos rfl, h0, h1, h]; rfl
theorem edge_1 {b : List Int} {i : Nat} {e : Int × Int} (h : numE b i = some e) : itE false b i = some e := by unfold itE; rw [if_neg (by decide), h]; rfl
theorem edge_2 {b : List Int} {i : Nat} {e : Int × Int} (h1 : numE b i = none) (h : numE b (i + 2) = some e) : itE false b i = some e := by unfold itE; rw [if_neg (by decide), h1, h]; rfl
theorem ask_no {b : List Int} {i : Nat} (h0 : kindE 4 b i = none) (h1 : numE b (i + 1) = none) (h : numE b (i + 3) = none) : itE true b i = none := by unfold itE; rw [if_pos rfl, h0, h1, h]; rfl
theorem edge_no {b : List Int} {i : Nat} (h1 : numE b i = none) (h : numE b (i + 2) = none) : itE false b i = none := by unfold itE; rw [if_neg (by decide), h1, h]; rfl
theorem bat_ok {b : List Int} {i : Nat} (h : batE b i = none) : kindE 3 b i = none ∧ numE b (i + 1) = none ∧ ¬ 60 < num2 b (i + 1) ∧ itsE (isQ b i) b (i + 3) (batN b i) = none := by
  unfold batE at h
  obtain ⟨h1, h⟩ := or_none h
  obtain ⟨h2, h⟩ := or_none h
  split at h
  · cases h
  · exact ⟨h1, h2, by assumption, h⟩
theorem bat_1 {b : List Int} {i : Nat} {e e1 : Int × Int} (h : batE b i = some e) (h1 : kindE 3 b i = some e1) : e1 = e := by
  unfold batE at h; rw [h1] at h; simpa using h
theorem bat_2 {b : List Int} {i : Nat} {e e1 : Int × Int} (h : batE b i = some e) (h0 : kindE 3 b i = none) (h1 : numE b (i + 1) = some e1) : e1 = e := by
  unfold batE at h; rw [h0, h1] at h; simpa using h
theorem bat_3 {b : List Int} {i : Nat} {e : Int × Int} (h : batE b i = some e) (h0 : kindE 3 b i = none) (h1 : numE b (i + 1) = none) (h2 : 60 < num2 b (i + 1)) : e = ((i : Int) + 1, 9) := by
  unfold batE at h; rw [h0, h1, if_pos h2] at h; simpa using h.symm
theorem bat_4 {b : List Int} {i : Nat} {e : Int × Int} (h : batE b i = some e) (h0 : kindE 3 b i = none) (h1 : numE b (i + 1) = none) (h2 : ¬ 60 < num2 b (i + 1)) : itsE (isQ b i) b (i + 3) (batN b i) = some e := by
  unfold batE at h; rw [h0, h1, if_neg h2] at h; simpa using h
theorem its_is {q : Bool} {b : List Int} {i n m : Nat} {e e1 : Int × Int} (h : itsE q b i m = some e) (hn : itsE q b i n = none) (h1 : itE q b (i + itS q * n) = some e1) (hm : n < m) : e1 = e := by
  rw [itsE_up hn h1 hm] at h; injection h
def eN (b : List Int) (i n : Nat) : List Edge := if isQ b i = true then [] else edgesAt b (i + 3) n
def aN (b : List Int) (i n : Nat) : List Ask := if isQ b i = true then asksAt b (i + 3) n else []
theorem eN_0 (b : List Int) (i : Nat) : eN b i 0 = [] := by unfold eN; split <;> rfl
theorem aN_0 (b : List Int) (i : Nat) : aN b i 0 = [] := by unfold aN; split <;> rfl
theorem eN_q {b : List Int} {i n : Nat} (h : isQ b i = true) : eN b i n = [] := if_pos h
theorem aN_e {b : List Int} {i n : Nat} (h : isQ b i = false) : aN b i n = [] := if_neg (by rw [h]; decide)
theorem eN_s {b : List Int} {i n : Nat} (h : isQ b i = false) : eN b i (n + 1) = eN b i n ++ [edgeAt b (i + 3 + 4 * n)] := by
  unfold eN; rw [if_neg (by rw [h]; decide), if_neg (by rw [h]; decide)]; exact edgesAt_snoc _ _ _
theorem aN_s {b : List Int} {i n : Nat} (h : isQ b i = true) : aN b i (n + 1) = aN b i n ++ [askAt b (i + 3 + 5 * n)] := by
  unfold aN; rw [if_pos h, if_pos h]; exact asksAt_snoc _ _ _
theorem eN_len (b : List Int) (i n : Nat) : (eN b i n).length ≤ n := by unfold eN; split; exact Nat.zero_le _; rw [edgesAt_len]; exact Nat.le_refl _
theorem aN_len (b : List Int) (i n : Nat) : (aN b i n).length ≤ n := by unfold aN; split; rw [asksAt_len]; exact Nat.le_refl _; exact Nat.zero_le _
theorem batX_eq (b : List Int) (i : Nat) : batX b i = ⟨b.getD i 0, eN b i (batN b i), aN b i (batN b i)⟩ := rfl
theorem kindE_nz {hi : Int} {b : List Int} {i : Nat} {e : Int × Int} (h : kindE hi b i = some e) : e.2 ≠ 0 ∧ 0 ≤ e.1 ∧ e.1 ≤ max b.length i := by
  rcases kind_no h with ⟨h1, rfl⟩ | ⟨h1, _, rfl⟩
  · exact ⟨by dsimp only; omega, by dsimp only; omega, by dsimp only; omega⟩
  · exact ⟨by dsimp only; omega, by dsimp only; omega, by dsimp only; omega⟩
theorem numE_nz {b : List Int} {i : Nat} {e : Int × Int} (h : numE b i = some e) : e.2 ≠ 0 ∧ e.1 = b.length := by
  obtain ⟨_, rfl⟩ := num_no h
  exact ⟨by dsimp only; omega, rfl⟩
theorem or_some {o p : Option (Int × Int)} {e : Int × Int} (h : o.or p = some e) : o = some e ∨ (o = none ∧ p = some e) := by cases o <;> simp_all [Option.or]
theorem itE_nz {q : Bool} {b : List Int} {i : Nat} {e : Int × Int} (h : itE q b i = some e) : e.2 ≠ 0 := by
  unfold itE at h
  split at h
  · rcases or_some h with h | ⟨_, h⟩
    · exact (kindE_nz h).1
    · rcases or_some h with h | ⟨_, h⟩
      · exact (numE_nz h).1
      · exact (numE_nz h).1
  · rcases or_some h with h | ⟨_, h⟩
    · exact (numE_nz h).1
    · exact (numE_nz h).1
theorem itsE_nz {q : Bool} {b : List Int} {i : Nat} : ∀ {n : Nat} {e : Int × Int}, itsE q b i n = some e → e.2 ≠ 0
  | 0, _, h => by cases h
  | n + 1, e, h => by
    unfold itsE at h
    rcases or_some h with h | ⟨_, h⟩
    · exact itsE_nz h
    · exact itE_nz h
theorem batE_nz {b : List Int} {i : Nat} {e : Int × Int} (h : batE b i = some e) : e.2 ≠ 0 := by
  unfold batE at h
  rcases or_some h with h | ⟨_, h⟩
  · exact (kindE_nz h).1
  · rcases or_some h with h | ⟨_, h⟩
    · exact (numE_nz h).1
    · split at h
      · injection h with h; subst h; show (9 : Int) ≠ 0; decide
      · exact itsE_nz h
theorem its_fits {q : Bool} {b : List Int} {i : Nat} : ∀ {n : Nat}, itsE q b i n = none → i ≤ b.length → i + itS q * n ≤ b.length
  | 0, _, h => by rw [Nat.mul_zero]; omega
  | n + 1, h1, h => by
    unfold itsE at h1
    obtain ⟨h2, h3⟩ := or_none h1
    cases q with
    | true =>
      have := num_ok (itE_ask h3).2.2
      have e : itS true = 5 := rfl
      rw [e] at this ⊢; omega
    | false =>
      have := num_ok (itE_edge h3).2
      have e : itS false = 4 := rfl
      rw [e] at this ⊢; omega
theorem bat_fits {b : List Int} {i : Nat} (h : batE b i = none) : i + batS b i ≤ b.length ∧ 3 ≤ batS b i := by
  obtain ⟨_, h2, _, h4⟩ := bat_ok h
  have := num_ok h2
  have := its_fits h4 (by omega)
  unfold batS; omega
def strF (b : List Int) : Nat → Nat → List Batch × Int × Int
  | 0, i => ([], (i : Int), 0)
  | f + 1, i => if b.length ≤ i then ([], (i : Int), 0) else match batE b i with
    | some e => ([], e.1, e.2)
    | none => (batX b i :: (strF b f (i + batS b i)).1, (strF b f (i + batS b i)).2)
def strm (b : List Int) : List Batch × Int × Int := strF b b.length 0
def StrI (b : List Int) (l : List Batch) (i : Nat) : Prop := ∃ f, b.length ≤ i + f ∧ i ≤ b.length ∧ strm b = (l ++ (strF b f i).1, (strF b f i).2) ∧ l.length ≤ i
theorem str_start (b : List Int) : StrI b [] 0 := ⟨b.length, by omega, by omega, rfl, Nat.le_refl _⟩
theorem strF_no {b : List Int} {f i : Nat} (h1 : i < b.length) (h2 : batE b i = none) : strF b (f + 1) i = (batX b i :: (strF b f (i + batS b i)).1, (strF b f (i + batS b i)).2) := by
  simp only [strF]; rw [if_neg (by omega), h2]
theorem strF_err {b : List Int} {f i : Nat} {e : Int × Int} (h1 : i < b.length) (h2 : batE b i = some e) : strF b (f + 1) i = ([], e.1, e.2) := by
  simp only [strF]; rw [if_neg (by omega), h2]
theorem strF_end {b : List Int} {f i : Nat} (h1 : b.length ≤ i) : strF b f i = ([], (i : Int), 0) := by
  cases f with
  | zero => rfl
  | succ f => simp only [strF]; rw [if_pos h1]
theorem str_step {b : List Int} {l : List Batch} {i : Nat} (h : StrI b l i) (h1 : i < b.length) (h2 : batE b i = none) : StrI b (l ++ [batX b i]) (i + batS b i) := by
  obtain ⟨f, q1, q2, q3, q4⟩ := h
  obtain ⟨g, rfl⟩ : ∃ g, f = g + 1 := ⟨f - 1, by omega⟩
  obtain ⟨z1, z2⟩ := bat_fits h2
  refine ⟨g, by omega, z1, ?_, by rw [List.length_append]; simp only [List.length_cons, List.length_nil]; omega⟩
  rw [q3, strF_no h1 h2]
  simp
theorem str_err {b : List Int} {l : List Batch} {i : Nat} {e : Int × Int} (h : StrI b l i) (h1 : i < b.length) (h2 : batE b i = some e) : strm b = (l, e.1, e.2) := by
  obtain ⟨f, q1, q2, q3, q4⟩ := h
  obtain ⟨g, rfl⟩ : ∃ g, f = g + 1 := ⟨f - 1, by omega⟩
  rw [q3, strF_err h1 h2, List.append_nil]
theorem str_end {b : List Int} {l : List Batch} {i : Nat} (h : StrI b l i) (h1 : b.length ≤ i) : strm b = (l, (i : Int), 0) := by
  obtain ⟨f, q1, q2, q3, q4⟩ := h
  rw [q3, strF_end h1, List.append_nil]
theorem str_le {b : List Int} {l : List Batch} {i : Nat} (h : StrI b l i) : i ≤ b.length ∧ l.length ≤ i := by
  obtain ⟨f, q1, q2, q3, q4⟩ := h
  exact ⟨q2, q4⟩
def decR (b : List Int) : Batch × Int × Int := match batE b 0 with
  | none => (batX b 0, (batS b 0 : Int), 0)
  | some e => (⟨0, [], []⟩, e.1, e.2)
theorem decR_ok {b : List Int} (h : batE b 0 = none) : decR b = (batX b 0, (batS b 0 : Int), 0) := by unfold decR; rw [h]
theorem decR_no {b : List Int} {e : Int × Int} (h : batE b 0 = some e) : decR b = (⟨0, [], []⟩, e.1, e.2) := by unfold decR; rw [h]
def shE (i : Nat) (e : Int × Int) : Int × Int := (e.1 - i, e.2)
theorem getD_drop (b : List Int) (i j : Nat) : (b.drop i).getD j 0 = b.getD (i + j) 0 := by
  rw [List.getD_eq_getElem?_getD, List.getD_eq_getElem?_getD, List.getElem?_drop]
theorem num2_drop (b : List Int) (i j : Nat) : num2 (b.drop i) j = num2 b (i + j) := by
  unfold num2; rw [getD_drop, getD_drop, Nat.add_assoc]
theorem kindE_drop {hi : Int} {b : List Int} {i : Nat} (h : i ≤ b.length) (j : Nat) : kindE hi (b.drop i) j = (kindE hi b (i + j)).map (shE i) := by
  unfold kindE
  rw [List.length_drop, getD_drop]
  by_cases h1 : b.length ≤ i + j
  · rw [if_pos (by omega), if_pos h1]
    simp only [Option.map_some, shE]
    congr 2; omega
  · rw [if_neg (by omega), if_neg h1]
    split
    · rfl
    · simp only [Option.map_some, shE]
      congr 2; omega
theorem numE_drop {b : List Int} {i : Nat} (h : i ≤ b.length) (j : Nat) : numE (b.drop i) j = (numE b (i + j)).map (shE i) := by
  unfold numE
  rw [List.length_drop]
  by_cases h1 : i + j + 2 ≤ b.length
  · rw [if_pos (by omega), if_pos h1]; rfl
  · rw [if_neg (by omega), if_neg h1]
    simp only [Option.map_some, shE]
    congr 2; omega
theorem map_or (f : Int × Int → Int × Int) (o p : Option (Int × Int)) : (o.or p).map f = (o.map f).or (p.map f) := by cases o <;> rfl
theorem itE_drop {q : Bool} {b : List Int} {i : Nat} (h : i ≤ b.length) (j : Nat) : itE q (b.drop i) j = (itE q b (i + j)).map (shE i) := by
  unfold itE
  rw [kindE_drop h, numE_drop h, numE_drop h, numE_drop h, numE_drop h]
  simp only [← Nat.add_assoc]
  split
  · rw [map_or, map_or]
  · rw [map_or]
theorem itsE_drop {q : Bool} {b : List Int} {i : Nat} (h : i ≤ b.length) (j : Nat) : ∀ n, itsE q (b.drop i) j n = (itsE q b (i + j) n).map (shE i)
  | 0 => rfl
  | n + 1 => by
    unfold itsE
    rw [itsE_drop h j n, itE_drop h, map_or, Nat.add_assoc]
theorem batE_drop {b : List Int} {i : Nat} (h : i ≤ b.length) (j : Nat) : batE (b.drop i) j = (batE b (i + j)).map (shE i) := by
  unfold batE
  rw [kindE_drop h, numE_drop h, num2_drop, map_or, map_or, ← Nat.add_assoc]
  congr 2
  have e1 : isQ (b.drop i) j = isQ b (i + j) := by unfold isQ; rw [getD_drop]
  have e2 : batN (b.drop i) j = batN b (i + j) := by unfold batN; rw [num2_drop, Nat.add_assoc]
  rw [e1, e2, itsE_drop h]
  split
  · simp only [Option.map_some, shE]
    congr 2; omega
  · rw [Nat.add_assoc]
theorem batX_drop (b : List Int) (i : Nat) : batX (b.drop i) 0 = batX b i := by
  unfold batX isQ batN edgesAt asksAt edgeAt askAt
  simp only [getD_drop, num2_drop, ← Nat.add_assoc, Nat.add_zero]
theorem batS_drop (b : List Int) (i : Nat) : batS (b.drop i) 0 = batS b i := by
  unfold batS isQ batN
  simp only [getD_drop, num2_drop, ← Nat.add_assoc, Nat.add_zero]
theorem itE_rng {q : Bool} {b : List Int} {i : Nat} {e : Int × Int} (hi : i ≤ b.length) (h : itE q b i = some e) : 0 ≤ e.1 ∧ e.1 ≤ b.length := by
  have hn : ∀ {j : Nat}, numE b j = some e → 0 ≤ e.1 ∧ e.1 ≤ b.length := fun h => by have := (numE_nz h).2; omega
  unfold itE at h
  split at h
  · rcases or_some h with h | ⟨_, h⟩
    · have := (kindE_nz h).2; omega
    · rcases or_some h with h | ⟨_, h⟩ <;> exact hn h
  · rcases or_some h with h | ⟨_, h⟩ <;> exact hn h
theorem itsE_rng {q : Bool} {b : List Int} {i : Nat} (hi : i ≤ b.length) : ∀ {n : Nat} {e : Int × Int}, itsE q b i n = some e → 0 ≤ e.1 ∧ e.1 ≤ b.length
  | 0, _, h => by cases h
  | n + 1, e, h => by
    unfold itsE at h
    rcases or_some h with h | ⟨h0, h⟩
    · exact itsE_rng hi h
    · exact itE_rng (its_fits h0 hi) h
theorem batE_rng {b : List Int} {i : Nat} {e : Int × Int} (hi : i ≤ b.length) (h : batE b i = some e) : 0 ≤ e.1 ∧ e.1 ≤ b.length := by
  unfold batE at h
  rcases or_some h with h | ⟨_, h⟩
  · have := (kindE_nz h).2; omega
  · rcases or_some h with h | ⟨h0, h⟩
    · have := (numE_nz h).2; omega
    · have := num_ok h0
      split at h
      · injection h with h; subst h; dsimp only; omega
      · exact itsE_rng (by omega) h
def numsB (ns : List Int) : List Int := ns.flatMap fun n => [n / 256 % 256, n % 256]
def hdB (x : Batch) : List Int := [x.kind % 256] ++ numsB [(x.edges.length : Int) + x.asks.length]
def edB (l : List Edge) : List Int := l.flatMap fun e => numsB [e.u, e.v]
def asB (l : List Ask) : List Int := l.flatMap fun a => (a.kind % 256) :: numsB [a.u, a.v]
def encB (x : Batch) : List Int := hdB x ++ edB x.edges ++ asB x.asks
theorem numsB_len : ∀ ns : List Int, (numsB ns).length = 2 * ns.length
  | [] => rfl
  | n :: ns => by
    have := numsB_len ns
    simp only [numsB, List.flatMap_cons, List.length_append, List.length_cons, List.length_nil] at this ⊢
    omega
theorem numsB_snoc (ns : List Int) (n : Int) : numsB (ns ++ [n]) = numsB ns ++ [n / 256 % 256, n % 256] := by simp [numsB]
theorem edB_len : ∀ l : List Edge, (edB l).length = 4 * l.length
  | [] => rfl
  | e :: l => by
    have := edB_len l
    have h := numsB_len [e.u, e.v]
    simp only [edB, List.flatMap_cons, List.length_append, List.length_cons, List.length_nil] at this h ⊢
    omega
theorem asB_len : ∀ l : List Ask, (asB l).length = 5 * l.length
  | [] => rfl
  | a :: l => by
    have := asB_len l
    have h := numsB_len [a.u, a.v]
    simp only [asB, List.flatMap_cons, List.length_append, List.length_cons, List.length_nil] at this h ⊢
    omega
theorem hdB_len (x : Batch) : (hdB x).length = 3 := rfl
theorem encB_len (x : Batch) : (encB x).length = 3 + 4 * x.edges.length + 5 * x.asks.length := by
  unfold encB; rw [List.length_append, List.length_append, hdB_len, edB_len, asB_len]
theorem edB_snoc (l : List Edge) (i : Nat) (h : i < l.length) : edB (l.take (i + 1)) = edB (l.take i) ++ numsB [(l.getD i default).u, (l.getD i default).v] := by
  rw [take_snocE l i h]; simp [edB]
theorem asB_snoc (l : List Ask) (i : Nat) (h : i < l.length) : asB (l.take (i + 1)) = asB (l.take i) ++ ((l.getD i default).kind % 256) :: numsB [(l.getD i default).u, (l.getD i default).v] := by
  rw [take_snocE l i h]; simp [asB]
theorem two_fits {n : Int} (h : fits n) : n.tdiv 256 % 256 = n / 256 % 256 ∧ n.tmod 256 % 256 = n % 256 := by
  unfold fits at h
  obtain ⟨m, rfl⟩ := Int.eq_ofNat_of_zero_le h.1
  rw [Int.tdiv_eq_ediv_of_nonneg (by omega), Int.tmod_eq_emod_of_nonneg (by omega)]
  exact ⟨rfl, by omega⟩
theorem ask_ne (a b : Ask) : (!(a.kind == b.kind && (a.u == b.u && a.v == b.v))) = decide ¬ a = b := by
  rw [Bool.eq_iff_iff]
  cases a; cases b
  simp
theorem lists_of {α : Type} [Inhabited α] {a b : List α} (h : a.length = b.length) {i : Nat} (hi : a.length ≤ i) (h2 : ∀ j, j < i → a.getD j default = b.getD j default) : a = b := by
  refine List.ext_getElem h fun j h1 h3 => ?_
  have := h2 j (by omega)
  simpa [List.getD_eq_getElem?_getD, List.getElem?_eq_getElem h1, List.getElem?_eq_getElem h3] using this
theorem batch_eq {a b : Batch} : a = b ↔ a.kind = b.kind ∧ a.edges = b.edges ∧ a.asks = b.asks := by
  cases a; cases b; simp
theorem batch_dec (a b : Batch) : decide (a = b) = decide (a.kind = b.kind ∧ a.edges = b.edges ∧ a.asks = b.asks) := decide_eq_decide.mpr batch_eq
theorem bat_len {b : List Int} {i : Nat} (h : batE b i = none) : (batX b i).edges.length ≤ 60 ∧ (batX b i).asks.length ≤ 60 := by
  obtain ⟨_, _, h3, _⟩ := bat_ok h
  have hn : batN b i ≤ 60 := by unfold batN; omega
  rw [batX_eq]
  exact ⟨Nat.le_trans (eN_len _ _ _) hn, Nat.le_trans (aN_len _ _ _) hn⟩
theorem strF_len (b : List Int) : ∀ f i, (strF b f i).1.length ≤ f ∧ ∀ x, x ∈ (strF b f i).1 → x.edges.length ≤ 9223372036854775807 ∧ x.asks.length ≤ 9223372036854775807
  | 0, i => ⟨Nat.le_refl _, fun x hx => by cases hx⟩
  | f + 1, i => by
    by_cases h1 : b.length ≤ i
    · rw [strF_end h1]; exact ⟨Nat.zero_le _, fun x hx => by cases hx⟩
    · rcases some_or (batE b i) with ⟨e, h⟩ | h
      · rw [strF_err (by omega) h]; exact ⟨Nat.zero_le _, fun x hx => by cases hx⟩
      · rw [strF_no (by omega) h]
        obtain ⟨q1, q2⟩ := strF_len b f (i + batS b i)
        refine ⟨by simp only [List.length_cons]; omega, fun x hx => ?_⟩
        rcases List.mem_cons.1 hx with rfl | hx
        · have := bat_len h; omega
        · exact q2 x hx
theorem strm_len (b : List Int) : (strm b).1.length ≤ b.length ∧ ∀ x, x ∈ (strm b).1 → x.edges.length ≤ 9223372036854775807 ∧ x.asks.length ≤ 9223372036854775807 := strF_len b b.length 0
def encL (x : Batch) : List Int := if batchRight x then encB x else []
def encC (x : Batch) : Int := if batchRight x then 0 else 1
end Go.Pl
end
section
set_option linter.unusedSimpArgs false
set_option linter.unusedVariables false
namespace Go.Am
open Go.RowKit
def StepX (P : Program) (o : Oper) (f : Nat) (V : PS) (ch : List PanicEntry) (u : Upd) : Prop :=
  ∀ (C : Ctx) (U : Nat → Prop) (s : PS) (a : Act) (w : World), (∀ j, j < 7 → ¬ U (f + j)) → (∀ x, x ∈ o.op.operands → ∀ v, V.eval x = some v → s.eval x = some v) → (∀ id k, V.hp id = some k → s.hp id = some k) → Sat C U s a w →
    ∀ (next : Act → World → Prop) (Q : Exit → Act → World → Prop), (∀ w', Sat C (fun i => U i ∨ (f ≤ i ∧ i < f + 7)) ⟨s.sl, PS.setHp s.hp u.hps⟩ a w' → Q (.panic ch) a w') → o.wp P a w next Q
def callX (P : Program) (g : FuncId) (xs : List AV) (f : Nat) (V : PS) (K : List PanicEntry → Upd → Prop) : Prop := ∃ ch u, CallsX P g xs f V none (some ch) u ∧ K ch u
@[congr] theorem callX_congr {P : Program} {g : FuncId} {xs xs' : List AV} {f : Nat} {V : PS} {K : List PanicEntry → Upd → Prop} (h : mark xs = xs') : callX P g xs f V K = callX P g xs' f V K := by rw [← h, mark_eq]
def aopX (P : Program) (f : Nat) (V : PS) (o : Op) (K : List PanicEntry → Upd → Prop) : Prop :=
  match o with
  | .panic x => ∃ t u, V.eval x = some (.p (.lit (.iface t u))) ∧ K [{ v := .iface t u, recovered := false }] ⟨undefA, []⟩
  | .call ⟨.value g, args, _⟩ => ∃ v, V.eval g = some v ∧ ∃ h caps, v = .fn h caps ∧ enters P h = true ∧ ∃ xs, evals V args.toList = some xs ∧ callX P h (xs ++ caps) f V K
  | _ => False
theorem aopX_sound {P : Program} {o : Oper} {f : Nat} {V : PS} {K : List PanicEntry → Upd → Prop} (h : aopX P f V o.op K) : ∃ ch u, K ch u ∧ StepX P o f V ch u := by
  obtain ⟨dst, op, type, pos, after, guard⟩ := o
  simp only at h
  unfold aopX at h
  split at h
  · rename_i x
    obtain ⟨t, u, hx, hK⟩ := h
    refine ⟨_, _, hK, ?_⟩
    intro C U s a w hf hV hH hs next Q hQ
    obtain ⟨ρ, hr⟩ := hs
    have h1 := (hr.eval (hV x (by simp [Op.operands]) _ hx)).lit
    have hex : (execOp a.eval ⟨dst, .panic x, type, pos, after, guard⟩).run P w = .halt (.panic (.iface t u)) w := by
      simp only [execOp, h1, Instr.panic]; rfl
    unfold Oper.wp
    rw [hex]
    exact hQ w ⟨ρ, hr.widen (fun _ => .inl)⟩
  · rename_i g args ts
    obtain ⟨v, hg, h', caps, rfl, hen, xs, hx, ch, u, hc, hK⟩ := h
    refine ⟨ch, u, hK, ?_⟩
    intro C U s a w hf hV hHp ⟨ρ, hs⟩ next Q hQ
    have hgr := hs.eval (hV g (by simp [Op.operands, Call.operands]) _ hg)
    have hxr := evals_spec (O := Own C s ρ) (ρ := ρ) (w := w) (a := a) args.toList xs (fun y hy v hv => hs.eval (hV y (by simp only [Op.operands, Call.operands]; simp; exact .inr (Array.mem_toList_iff.1 hy)) v hv)) hx
    generalize hz : a.eval g = z at hgr
    cases hgr with
    | fn _ _ vs hvs hcaps =>
      have hcall := hc C U s ρ a w (args.map a.eval ++ vs) (fun d hd => by cases hd) hf hHp hs (by simp [hxr.1, hvs]) (fun i x hi => ?_)
      · unfold enters at hen
        split at hen
        · rename_i fn hfn
          simp only [Bool.and_eq_true, Bool.not_eq_true', beq_eq_false_iff_ne, ne_eq] at hen
          obtain ⟨c, hb⟩ := Option.isSome_iff_exists.1 hen.1
          have hexec : (execOp a.eval ⟨dst, .call ⟨.value g, args, ts⟩, type, pos, after, guard⟩).run P w = .ok (.enter h' (args.map a.eval ++ vs)) w := by
            simp [execOp, resolve, hz, Deferred.ofValue, invoke, callFunc, hfn, hen.2, hb]
          unfold Oper.wp
          rw [hexec]
          show Calls _ _ _ _ _
          refine hcall.mono fun e w' ⟨he, hsat⟩ => ?_
          subst he
          exact hQ w' hsat
        · cases hen
      · by_cases hlt : i < xs.length
        · rw [List.getElem?_append_left hlt] at hi
          have := hxr.2 i x hi
          rw [List.getD_eq_getElem?_getD, List.getElem?_map] at this
          rw [Array.getD_eq_getD_getElem?, Array.getElem?_append_left (by have := hxr.1; simp at this ⊢; omega), Array.getElem?_map]
          simpa using this
        · rw [List.getElem?_append_right (by omega)] at hi
          have := hcaps _ x hi
          rw [Array.getD_eq_getD_getElem?] at this ⊢
          rw [Array.getElem?_append_right (by simp; have := hxr.1; simp at this; omega)]
          have e : (args.map a.eval).size = xs.length := by simp [hxr.1]
          rw [e]; exact this
  · exact h.elim
theorem callX_h {P : Program} {g : FuncId} {xs ys : List AV} {hp hp' : List (Nat × Blk)} {ch : List PanicEntry} {r : AV} {f : Nat} {V : PS} {K : List PanicEntry → Upd → Prop} (h : HXCall P g xs hp (some ch) r hp') (σ same : List Nat)
    (hys : ys = AV.rens (sgm σ f) xs) (hn : namesOk σ same hp hp' = true) (hsame : SameIn hp hp' same) (hB : BlksOk hp hp) (hB' : BlksOk hp' hp') (hX : ∀ n, n ∈ AV.namess xs → Nm hp n) (hR : ∀ n, n ∈ r.names → Nm hp' n)
    (hV : HpIn V σ f hp) (hK : K ch ⟨r.ren (sgm σ f), hpsOf σ f same hp' hp⟩) : callX P g ys f V K := ⟨ch, _, callsX_of_hxcall h hn hsame hB hB' hX hR hys hV, hK⟩
theorem x01 {P : Program} {f : Nat} {V : PS} {K : List PanicEntry → Upd → Prop} (x : Operand) : aopX P f V (.panic x) K = onIf (V.eval x) fun t u => K [{ v := .iface t u, recovered := false }] ⟨undefA, []⟩ := rfl
theorem x02 {P : Program} {f : Nat} {V : PS} {K : List PanicEntry → Upd → Prop} (g : FuncId) (l : List Operand) (ts : Array TypeId) : aopX P f V (.call ⟨.value (.func g), l.toArray, ts⟩) K = (enters P g = true ∧ onE (evals V l) fun xs => callX P g (xs ++ []) f V K) := by
  simp only [aopX, PS.eval, onE]
  exact propext ⟨by rintro ⟨_, e, _, _, e', h⟩; cases e; cases e'; exact h, fun h => ⟨_, rfl, _, _, rfl, h⟩⟩
theorem aops_pre {P : Program} {H : List Nat} {ops : Array Oper} {K : LS → Prop} {C : Ctx} {Q : Exit → Act → World → Prop} (rest : List Oper) : ∀ (os : List Oper) (i : Nat) (s : LS) (a : Act) (w : World),
    aops P H (gdOf ops) K i os s → (∀ o, o ∈ os → ∀ d, o.dst = some d → d < C.n) → (∀ g d, gdOf ops g = some d → d < C.n) → Sat C (fun j => nmPos j ≤ s.nx + i) s.ps a w →
    (∀ s' a' w', K s' → s'.nx = s.nx → Sat C (fun j => nmPos j ≤ s'.nx + (i + os.length)) s'.ps a' w' → wpList P ops Q rest a' w') → wpList P ops Q (os ++ rest) a w
  | [], i, s, a, w, h, _, _, hs, hQ => hQ s a w h rfl hs
  | o :: os, i, s, a, w, h, hd, hgd, hs, hQ => by
    have hd0 := hd o (by simp)
    have hd1 : ∀ o', o' ∈ os → ∀ d, o'.dst = some d → d < C.n := fun o' ho' => hd o' (by simp [ho'])
    have hsize : a.tmps.size = C.n := by obtain ⟨ρ, h⟩ := hs; exact h.size
    have next : ∀ (s2 : LS) (a2 : Act) (w2 : World), s2.nx = s.nx → aops P H (gdOf ops) K (i + 1) os s2 → Sat C (fun j => nmPos j ≤ s.nx + (i + 1)) s2.ps a2 w2 → wpList P ops Q (os ++ rest) a2 w2 := by
      intro s2 a2 w2 hnx h2 hs2
      refine aops_pre rest os (i + 1) s2 a2 w2 h2 hd1 hgd (by rw [hnx]; exact hs2) (fun s' a' w' hK hn hs' => hQ s' a' w' hK (hn.trans hnx) ?_)
      simp only [List.length_cons]
      rw [show i + (os.length + 1) = i + 1 + os.length by omega]; exact hs'
    have run : ∀ (s1 : LS), s1.nx = s.nx → s1.ps = s.ps → (aop P H (8 * (s1.nx + i)) s1.ps o.dst o.op fun u => aops P H (gdOf ops) K (i + 1) os (s1.upd o.dst u)) → Region.wanted o (yielded ops a.tmps) = true → wpList P ops Q (o :: (os ++ rest)) a w := by
      intro s1 hnx hps h1 hw
      obtain ⟨u, hK, hstep⟩ := aop_sound h1
      unfold wpList
      rw [if_pos hw]
      refine .inl (Oper.wp_mono (fun a' w' hs' => ?_) (stepA_use hstep hd0 (U := fun j => nmPos j ≤ s.nx + i) (U' := fun j => nmPos j ≤ s.nx + (i + 1)) (by rw [hnx]; intro j hj; simp only [nmPos]; split <;> omega) hps hs (fun j hj => by rw [hnx] at hj; rcases hj with hj | hj; omega; simp only [nmPos]; split <;> omega) Q))
      refine next (s1.upd o.dst u) a' w' hnx hK ?_
      rw [ps_upd, hps]; exact hs'
    simp only [aops] at h
    split at h
    · rename_i hg
      exact run s rfl rfl h (by simp [Region.wanted, hg])
    · rename_i g b hg
      obtain ⟨d, hgd', x, hx, h⟩ := h
      have hdn : d < a.tmps.size := by rw [hsize]; exact hgd g d hgd'
      have hy := yielded_of hgd' hdn
      have idle : ∀ (s1 : LS), s1.nx = s.nx → s1.ps = s.ps → aops P H (gdOf ops) K (i + 1) os (s1.upd o.dst ⟨undefA, []⟩) → Region.wanted o (yielded ops a.tmps) = false → wpList P ops Q (o :: (os ++ rest)) a w := by
        intro s1 hnx hps h1 hw
        unfold wpList
        rw [if_neg (by rw [hw]; simp)]
        refine next (s1.upd o.dst ⟨undefA, []⟩) _ w hnx h1 ?_
        rw [ps_upd, hps]
        exact (hs.skip hd0).widen (fun j hj => by omega)
      unfold gcase at h
      split at h
      · rename_i t
        have hv := hs.getBool (d := d) hx
        rw [hv] at hy
        have hps : (s.upd (some d) ⟨.p (.lit (.bool t)), []⟩).ps = s.ps := by rw [ps_upd]; exact hs.known hx
        by_cases e : t = b
        · subst e
          exact run (s.upd (some d) ⟨.p (.lit (.bool t)), []⟩) rfl hps (h.1 rfl) (by simp [Region.wanted, hg, hy])
        · have e' : t = !b := by cases t <;> cases b <;> simp_all
          subst e'
          exact idle (s.upd (some d) ⟨.p (.lit (.bool (!b))), []⟩) rfl hps (h.2 rfl) (by simp [Region.wanted, hg, hy])
      · have hv := hs.getBool (d := d) hx
        rw [hv] at hy
        exact idle s rfl rfl h (by simp [Region.wanted, hg, hy])
      · exact h.elim
theorem awp_rx {P : Program} {C : Ctx} {K : Exit → LS → Prop} {s : LS} {id : Nat} {l : List Oper} (H : List Nat) (n : Nat) {o : Oper} (hf : inFrame C.n l.toArray = true) (ho : l[n]? = some o) (hg : o.guard = none)
    (h : ∀ k : List PanicEntry → LS → Prop, (∀ ch s', K (.panic ch) s' → k ch s') → aops P H (gdOf l.toArray) (fun s' => aopX P (8 * (s'.nx + n)) s'.ps o.op fun ch u => k ch ⟨s'.sl, hpUpd s'.hp u.hps, s'.nx + l.length⟩) 0 (l.take n) s) :
    Awp P C (.region id l.toArray false) K s := by
  intro a w hs
  refine wp_region_lit ?_
  have hlt := (List.getElem?_eq_some_iff.1 ho).1
  have hl : l = l.take n ++ (o :: l.drop (n + 1)) := by
    have : l.drop n = o :: l.drop (n + 1) := by
      rw [List.drop_eq_getElem_cons hlt]
      congr 1; exact (List.getElem?_eq_some_iff.1 ho).2
    rw [← this, List.take_append_drop]
  have hd := inFrame_spec hf
  have hd' : ∀ o', o' ∈ l → ∀ d, o'.dst = some d → d < C.n := fun o' h => hd o' (by simpa using h)
  have key : wpList P l.toArray (fun e a' w' => ∃ s', K e s' ∧ Sat C (fun i => nmPos i ≤ s'.nx) s'.ps a' w') (l.take n ++ (o :: l.drop (n + 1))) a w := by
    refine aops_pre (o :: l.drop (n + 1)) (l.take n) 0 s a w (h (fun ch s' => K (.panic ch) s') (fun _ _ h => h)) (fun o' ho' => hd' o' (List.mem_of_mem_take ho')) (gdOf_lt hf) (by simpa using hs) (fun s' a' w' hk hnx hs' => ?_)
    obtain ⟨ch, u, hK, hst⟩ := aopX_sound hk
    unfold wpList
    rw [if_pos (by simp [Region.wanted, hg])]
    rw [List.length_take, Nat.min_eq_left (by omega), Nat.zero_add] at hs'
    refine .inl (hst C (fun j => nmPos j ≤ s'.nx + n) s'.ps a' w' (fun j hj => by simp only [nmPos]; split <;> omega) (fun _ _ _ h => h) (fun _ _ h => h) hs' _ _ fun w'' hs'' => ?_)
    refine ⟨_, hK, ?_⟩
    have e : (⟨s'.sl, hpUpd s'.hp u.hps, s'.nx + l.length⟩ : LS).ps = ⟨s'.ps.sl, PS.setHp s'.ps.hp u.hps⟩ := by
      simp only [LS.ps, PS.mk.injEq, true_and]; exact lkp_hpUpd s'.hp u.hps
    rw [e]
    refine hs''.widen fun i hi => ?_
    show nmPos i ≤ s'.nx + l.length
    rcases hi with hi | ⟨h1, h2⟩
    · omega
    · simp only [nmPos]; split <;> omega
  rw [← hl] at key
  exact key
theorem awp_srx {P : Program} {C : Ctx} {K : Exit → LS → Prop} {s : LS} {id : Nat} {l : List Oper} {y : Code} (H : List Nat) (n : Nat) {o : Oper} (hf : inFrame C.n l.toArray = true) (ho : l[n]? = some o) (hg : o.guard = none)
    (h : ∀ k : List PanicEntry → LS → Prop, (∀ ch s', K (.panic ch) s' → k ch s') → aops P H (gdOf l.toArray) (fun s' => aopX P (8 * (s'.nx + n)) s'.ps o.op fun ch u => k ch ⟨s'.sl, hpUpd s'.hp u.hps, s'.nx + l.length⟩) 0 (l.take n) s) :
    Awp P C (.seq (.region id l.toArray false) y) K s := awp_seq fun _ _ => awp_rx H n hf ho hg h
def aopsN (P : Program) (H : List Nat) (D : Ord) (n L : Nat) (dead pre : List Nat) (K : List PanicEntry → LS → Prop) : Nat → List Oper → LS → Prop
  | _, [], _ => True
  | i, o :: os, s => o.guard = none ∧
      if i = n then aopX P (8 * (s.nx + i)) (viewD D s.nx i s) o.op fun ch u => K ch ⟨[], hpUpd s.hp u.hps, s.nx + L⟩ ∧ aopsN P H D n L dead pre K (i + 1) os (s.upd o.dst ⟨undefA, []⟩)
      else if dead.contains i = true then aopsN P H D n L dead pre K (i + 1) os (s.upd o.dst ⟨undefA, []⟩)
      else aop P H (8 * (s.nx + i)) (viewD D s.nx i s) o.dst o.op fun u => okU D s.nx i u ∧ (pre.contains i = true ∨ u.hps = []) ∧ aopsN P H D n L dead pre K (i + 1) os (s.upd o.dst u)
theorem n01 {P : Program} {H : List Nat} {D : Ord} {n L : Nat} {dead pre : List Nat} {K : List PanicEntry → LS → Prop} (i : Nat) (s : LS) : aopsN P H D n L dead pre K i [] s = True := rfl
theorem n02 {P : Program} {H : List Nat} {D : Ord} {n L : Nat} {dead pre : List Nat} {K : List PanicEntry → LS → Prop} (i : Nat) (d : Option Nat) (op : Op) (ty : TypeId) (ps : String) (af : Array Edge) (os : List Oper) (s : LS) :
    aopsN P H D n L dead pre K i (⟨d, op, ty, ps, af, none⟩ :: os) s = if i = n then aopX P (8 * (s.nx + i)) (viewD D s.nx i s) op fun ch u => K ch ⟨[], hpUpd s.hp u.hps, s.nx + L⟩ ∧ aopsN P H D n L dead pre K (i + 1) os (s.upd d ⟨undefA, []⟩)
      else if dead.contains i = true then aopsN P H D n L dead pre K (i + 1) os (s.upd d ⟨undefA, []⟩)
      else aop P H (8 * (s.nx + i)) (viewD D s.nx i s) d op fun u => okU D s.nx i u ∧ (pre.contains i = true ∨ u.hps = []) ∧ aopsN P H D n L dead pre K (i + 1) os (s.upd d u) := by
  simp only [aopsN, true_and]
structure GoodN (P : Program) (D : Ord) (n L : Nat) (dead pre : List Nat) (K : List PanicEntry → LS → Prop) (nx0 k : Nat) (o : Oper) (s : PS) (u : Upd) : Prop where
  guard : o.guard = none
  at' : k = n → u = ⟨undefA, []⟩ ∧ ∃ ch un sn, StepX P o (8 * (nx0 + n)) (viewP D nx0 n s) ch un ∧ LS.ps sn = s ∧ sn.nx = nx0 ∧ K ch ⟨[], hpUpd sn.hp un.hps, nx0 + L⟩
  dead' : k ≠ n → dead.contains k = true → u = ⟨undefA, []⟩
  step : k ≠ n → dead.contains k = false → StepF P o (8 * (nx0 + k)) (viewP D nx0 k s) u ∧ okU D nx0 k u ∧ (pre.contains k = true ∨ u.hps = [])
theorem traceN {P : Program} {H : List Nat} {D : Ord} {n L : Nat} {dead pre : List Nat} {K : List PanicEntry → LS → Prop} : ∀ (os : List Oper) (i : Nat) (s : LS), aopsN P H D n L dead pre K i os s →
    ∃ us : Nat → Upd, ∀ k o, os[k]? = some o → GoodN P D n L dead pre K s.nx (i + k) o (stFrom os us s.ps k) (us k)
  | [], i, s, h => ⟨fun _ => ⟨undefA, []⟩, fun k o hk => by simp at hk⟩
  | o :: os, i, s, h => by
    have fin : ∀ (u : Upd), GoodN P D n L dead pre K s.nx i o s.ps u → aopsN P H D n L dead pre K (i + 1) os (s.upd o.dst u) → ∃ us : Nat → Upd, ∀ k o', (o :: os)[k]? = some o' → GoodN P D n L dead pre K s.nx (i + k) o' (stFrom (o :: os) us s.ps k) (us k) := by
      intro u hg h1
      obtain ⟨us, hall⟩ := traceN os (i + 1) (s.upd o.dst u) h1
      refine ⟨fun k => match k with | 0 => u | k + 1 => us k, fun k o' hk => ?_⟩
      cases k with
      | zero => simp only [List.getElem?_cons_zero, Option.some.injEq] at hk; subst hk; exact hg
      | succ k =>
        rw [stFrom_head]
        have := hall k o' (by simpa using hk)
        rw [ps_upd, show i + 1 + k = i + (k + 1) by omega] at this
        exact this
    simp only [aopsN] at h
    obtain ⟨hg, h⟩ := h
    split at h
    · rename_i e
      obtain ⟨ch, un, ⟨hK, h1⟩, hst⟩ := aopX_sound h
      subst e
      exact fin ⟨undefA, []⟩ ⟨hg, fun _ => ⟨rfl, ch, un, s, hst, rfl, rfl, hK⟩, fun hne => absurd rfl hne, fun hne => absurd rfl hne⟩ h1
    · rename_i hne
      split at h
      · rename_i hd
        exact fin ⟨undefA, []⟩ ⟨hg, fun e => absurd e hne, fun _ _ => rfl, fun _ e => by rw [hd] at e; cases e⟩ h
      · rename_i hd
        obtain ⟨u, ⟨hok, hp, h1⟩, hst⟩ := aop_sound h
        exact fin u ⟨hg, fun e => absurd e hne, fun _ e => absurd e hd, fun _ _ => ⟨hst, hok, hp⟩⟩ h1
theorem bit_lt {D : Ord} {ops : Array Oper} (hO : OrdOk D ops) : ∀ (j i : Nat), D.bit i j = true → i < j := by
  intro j
  induction j using Nat.strongRecOn with
  | _ j ih =>
    intro i hb
    obtain ⟨hi, hj⟩ := hO.small i j hb
    obtain ⟨e, he, hbi, hor⟩ := hO.why i j ops[i] ops[j] (by simp [hi]) (by simp [hj]) hb
    have hlt := hO.edge j ops[j] (by simp [hj]) e he hbi
    rcases hor with rfl | hor
    · exact hlt
    · exact Nat.lt_trans (ih e.on hlt i hor) hlt
theorem drawN {P : Program} {D : Ord} {ops : Array Oper} {us : Nat → Upd} {s0 : PS} {nx0 n L : Nat} {dead pre : List Nat} {K : List PanicEntry → LS → Prop} {C : Ctx} {Q : Exit → Act → World → Prop} (hO : OrdOk D ops) (hn : n < ops.size)
    (hdead : ∀ i, i < ops.size → dead.contains i = D.bit n i) (hpre0 : ∀ i, i < ops.size → pre.contains i = D.bit i n)
    (hg : ∀ k o, ops[k]? = some o → GoodN P D n L dead pre K nx0 k o (stFrom ops.toList us s0 k) (us k)) (hd : ∀ o, o ∈ ops.toList → ∀ d, o.dst = some d → d < C.n)
    (hQ : ∀ ch s a w, K ch s → s.nx = nx0 + L → Sat C (fun id => nmPos id ≤ nx0 + ops.size) s.ps a w → Q (.panic ch) a w) : ∀ (fuel : Nat) (listed : Array Bool) (a : Act) (w : World), listed.size = ops.size →
      (∀ j, listed.getD j false = true → ∀ i, D.bit i j = true → listed.getD i false = true) → listed.getD n false = false → ((List.range ops.size).filter fun j => !listed.getD j false).length ≤ fuel →
      Sat C (SU nx0 ops.size fun j => listed.getD j false) (PSof ops.toList us s0 (fun j => listed.getD j false) ops.size) a w → wpAny P .any ops Q fuel listed a w := by
  have hu : ∀ j, j < ops.size → okU D nx0 j (us j) := by
    intro j hj
    have := hg j ops[j] (by simp [hj])
    by_cases e : j = n
    · rw [(this.at' e).1]; exact trivial
    · cases hdj : dead.contains j with
      | true => rw [this.dead' e hdj]; exact trivial
      | false => exact (this.step e hdj).2.1
  have hreadyAll : ∀ (listed : Array Bool), listed.size = ops.size → Region.ready .any ops listed = [] → ∀ j, j < ops.size → listed.getD j false = true := by
    intro listed hsz hr j
    induction j using Nat.strongRecOn with
    | _ j ih =>
      intro hj
      by_cases h : listed.getD j false = true
      · exact h
      · exfalso
        have hf : listed.getD j false = false := by simpa using h
        have hft : listed.getD j true = false := by
          rw [Array.getD_eq_getD_getElem?] at hf ⊢
          have : listed[j]? = some listed[j] := by simp [show j < listed.size by omega]
          rw [this] at hf ⊢; exact hf
        have hmem : j ∈ Region.ready .any ops listed := by
          simp only [Region.ready, List.mem_filter, List.mem_range, Bool.and_eq_true, Bool.not_eq_true']
          refine ⟨hj, hft, ?_⟩
          rw [Array.getElem?_eq_getElem hj]
          simp only [Option.map_some, Option.getD_some]
          rw [Array.all_eq_true']
          intro e he
          by_cases hb : Region.binds .any e = true
          · have hlt := hO.edge j ops[j] (by simp [hj]) e (by simpa using he) hb
            simp [ih e.on hlt (by omega)]
          · simp [hb]
        rw [hr] at hmem; cases hmem
  intro fuel
  induction fuel with
  | zero =>
    intro listed a w hsz hdown hnn hcount hs
    exfalso
    have hnil := List.eq_nil_of_length_eq_zero (Nat.le_zero.1 hcount)
    have : n ∈ (List.range ops.size).filter fun j => !listed.getD j false := by
      simp only [List.mem_filter, List.mem_range, hn, true_and, hnn]; rfl
    rw [hnil] at this; cases this
  | succ fuel ih =>
    intro listed a w hsz hdown hnn hcount hs
    refine ⟨fun hr => (by rw [hreadyAll listed hsz hr n hn] at hnn; cases hnn), fun k hk => ?_⟩
    obtain ⟨o, ho, hlk, hedge⟩ := ready_mem hk
    have hkn : k < ops.size := (Array.getElem?_eq_some_iff.1 ho).1
    have hSk : listed.getD k false = false := by
      rw [Array.getD_eq_getD_getElem?] at hlk ⊢
      have h2 : listed[k]? = some listed[k] := by simp [show k < listed.size by omega]
      rw [h2] at hlk ⊢; exact hlk
    have hpre : ∀ i, D.bit i k = true → listed.getD i false = true := by
      intro i hb
      have hin := (hO.small i k hb).1
      obtain ⟨e, he, hbi, hor⟩ := hO.why i k ops[i] o (by simp [hin]) ho hb
      rcases hor with rfl | hor
      · exact hedge e he hbi
      · exact hdown e.on (hedge e he hbi) i hor
    have hlisted : ∀ j, (listed.setIfInBounds k true).getD j false = (listed.getD j false || j == k) := by
      intro j
      rw [Array.getD_eq_getD_getElem?, Array.getD_eq_getD_getElem?]
      by_cases e : j = k
      · subst e; rw [Array.getElem?_setIfInBounds_self_of_lt (by omega)]; simp
      · rw [Array.getElem?_setIfInBounds_ne (fun h => e h.symm)]; simp [e]
    have good := hg k o ho
    have hdk : ∀ d, o.dst = some d → d < C.n := hd o (by rw [Array.mem_toList_iff]; exact Array.mem_of_getElem? ho)
    have hnext := next_agree (S := fun j => listed.getD j false) (s0 := s0) hO hu hdown ho hSk
    have heval : ∀ x, x ∈ o.op.operands → ∀ v, (viewP D nx0 k (stFrom ops.toList us s0 k)).eval x = some v → (PSof ops.toList us s0 (fun j => listed.getD j false) ops.size).eval x = some v := by
      intro x hx v hv
      cases x with
      | tmp t =>
        have hmem : t ∈ looksAt (gdOf ops) o := by
          simp only [looksAt, List.mem_append, List.mem_filterMap]
          exact .inl ⟨.tmp t, by simpa using hx, rfl⟩
        have := slot_agree (S := fun j => listed.getD j false) (s0 := s0) (us := us) hO hdown ho hSk hpre hmem
        simp only [PS.eval] at hv ⊢
        rw [this]; exact hv
      | const c => exact hv
      | global g => exact hv
      | func g => exact hv
    have hheap : ∀ id b, (viewP D nx0 k (stFrom ops.toList us s0 k)).hp id = some b → (PSof ops.toList us s0 (fun j => listed.getD j false) ops.size).hp id = some b := fun id b hb => heap_agree hO hu hdown ho hSk hpre hb
    have hfresh : ∀ j, j < 7 → ¬ SU nx0 ops.size (fun j => listed.getD j false) (8 * (nx0 + k) + j) := by
      intro j' hj'
      have hpos : nmPos (8 * (nx0 + k) + j') = nx0 + k + 1 := by simp only [nmPos]; split <;> omega
      rintro (h | ⟨j, hj, hSj, he⟩)
      · omega
      · have : j = k := by omega
        subst this; simp only at hSj; rw [hSk] at hSj; cases hSj
    unfold wpOp
    rw [ho]
    simp only
    have hwant : Region.wanted o (yielded ops a.tmps) = true := by simp [Region.wanted, good.guard]
    rw [if_pos hwant]
    left
    by_cases hkn' : k = n
    · -- the one that ends by a panic
      obtain ⟨_, ch, un, sn, hst, hps, hnx, hK⟩ := good.at' hkn'
      subst hkn'
      refine hst C (SU nx0 ops.size fun j => listed.getD j false) _ a w hfresh heval hheap hs _ _ fun w' hs' => ?_
      refine hQ ch _ a w' hK rfl ?_
      have hhp : (PSof ops.toList us s0 (fun j => listed.getD j false) ops.size).hp = (stFrom ops.toList us s0 k).hp := by
        funext id
        rw [stFrom_hp]
        simp only [PSof]
        have hpj : ∀ j, j < ops.size → touches us j id = true → listed.getD j false = true ∨ j < k → D.bit j k = true := by
          intro j hj ht hor
          have hgj := hg j ops[j] (by simp [hj])
          have hne : (us j).hps ≠ [] := fun e => by simp [touches, e] at ht
          by_cases e : j = k
          · rw [(hgj.at' e).1] at hne; exact absurd rfl hne
          · cases hdj : dead.contains j with
            | true => rw [hgj.dead' e hdj] at hne; exact absurd rfl hne
            | false =>
              rcases (hgj.step e hdj).2.2 with h | h
              · rw [← hpre0 j hj]; exact h
              · exact absurd h hne
        rw [last_eq (p := fun j => touches us j id) (q := fun j => listed.getD j false && touches us j id) (i := k) (n := ops.size)
          (fun j hj ht => ⟨by omega, by rw [hpre j (hpj j (by omega) ht (.inr hj)), ht]; rfl⟩)
          (fun j hj hq => by
            simp only [Bool.and_eq_true] at hq
            exact ⟨bit_lt hO k j (hpj j hj hq.2 (.inl hq.1)), hq.2⟩)]
      have e : (⟨[], hpUpd sn.hp un.hps, nx0 + L⟩ : LS).ps = ⟨fun _ => none, PS.setHp (PSof ops.toList us s0 (fun j => listed.getD j false) ops.size).hp un.hps⟩ := by
        simp only [LS.ps, PS.mk.injEq]
        refine ⟨rfl, funext fun id => ?_⟩
        rw [lkp_hpUpd, hhp, ← hps]; rfl
      rw [e]
      obtain ⟨ρ, hr⟩ := hs'
      have hr2 : SatR C (fun i => SU nx0 ops.size (fun j => listed.getD j false) i ∨ (8 * (nx0 + k) ≤ i ∧ i < 8 * (nx0 + k) + 7)) ⟨fun _ => none, PS.setHp (PSof ops.toList us s0 (fun j => listed.getD j false) ops.size).hp un.hps⟩ ρ a w' := { hr with slots := fun d x hx => by cases hx }
      refine ⟨ρ, hr2.widen fun i hi => ?_⟩
      rcases hi with (h | ⟨j, hj, _, h⟩) | ⟨h1, h2⟩
      · omega
      · omega
      · simp only [nmPos]; split <;> omega
    · have hdk' : dead.contains k = false := by
        cases hdd : dead.contains k with
        | false => rfl
        | true =>
          rw [hdead k hkn] at hdd
          rw [hpre n hdd] at hnn; cases hnn
      obtain ⟨hst, _, _⟩ := good.step hkn' hdk'
      refine Oper.wp_mono (fun a' w' hs' => ?_) (hst C (SU nx0 ops.size fun j => listed.getD j false) _ a w hdk hfresh heval hheap hs Q)
      refine ih _ a' w' (by simpa using hsz) (fun j hj i hb => ?_) ?_ ?_ ?_
      · rw [hlisted] at hj ⊢
        simp only [Bool.or_eq_true, beq_iff_eq] at hj ⊢
        rcases hj with hj | rfl
        · exact .inl (hdown j hj i hb)
        · exact .inl (hpre i hb)
      · rw [hlisted, hnn]; simp; exact fun e => hkn' e.symm
      · have hlt : ((List.range ops.size).filter fun j => !(listed.setIfInBounds k true).getD j false).length < ((List.range ops.size).filter fun j => !listed.getD j false).length := by
          have e1 : ((List.range ops.size).filter fun j => !(listed.setIfInBounds k true).getD j false) = (((List.range ops.size).filter fun j => !listed.getD j false).filter fun j => !(j == k)) := by
            rw [List.filter_filter]
            refine List.filter_congr (fun j _ => ?_)
            rw [hlisted, Bool.not_or, Bool.and_comm]
          rw [e1]
          refine List.length_filter_lt_length_iff_exists.2 ⟨k, ?_, by simp⟩
          simp only [List.mem_filter, List.mem_range, hkn, true_and]
          simp [hSk]
        omega
      · have e1 : PSof ops.toList us s0 (fun j => (listed.setIfInBounds k true).getD j false) ops.size = PSof ops.toList us s0 (fun j => listed.getD j false || j == k) ops.size := by
          congr 1; funext j; exact hlisted j
        rw [e1, ← hnext]
        refine hs'.widen (fun id hid => ?_)
        rcases hid with (h | ⟨j, hj, hSj, h⟩) | h
        · exact .inl h
        · exact .inr ⟨j, hj, (hlisted j).trans (by simp only at hSj; rw [hSj]; rfl), h⟩
        · exact .inr ⟨k, hkn, (hlisted k).trans (by simp), by simp only [nmPos]; split <;> omega⟩
theorem drawL {P : Program} {D : Ord} {ops : Array Oper} {us : Nat → Upd} {rn : Nat → Bool} {s0 : PS} {nx0 n : Nat} {un : Upd} {C : Ctx} {Q : Exit → Act → World → Prop} (hO : OrdOk D ops) (hn : n + 1 = ops.size) (hall : ∀ i, i < n → D.bit i n = true) (hun : us n = ⟨undefA, []⟩)
    (hg : ∀ k o, k < n → ops[k]? = some o → Good P D (gdOf ops) nx0 k o (stFrom ops.toList us s0 k) (us k) (rn k)) (hlast : ∀ o, ops[n]? = some o → o.guard = none ∧ StepF P o (8 * (nx0 + n)) (stFrom ops.toList us s0 n) un) (hd : ∀ o, o ∈ ops.toList → ∀ d, o.dst = some d → d < C.n)
    (hQ : ∀ a w, Sat C (fun id => nmPos id ≤ nx0 + ops.size) ((stFrom ops.toList us s0 n).upd ((ops[n]?).bind (·.dst)) un) a w → Q .normal a w) : ∀ (fuel : Nat) (listed : Array Bool) (a : Act) (w : World), listed.size = ops.size →
      (∀ j, listed.getD j false = true → ∀ i, D.bit i j = true → listed.getD i false = true) → listed.getD n false = false → ((List.range ops.size).filter fun j => !listed.getD j false).length ≤ fuel →
      Sat C (SU nx0 ops.size fun j => listed.getD j false) (PSof ops.toList us s0 (fun j => listed.getD j false) ops.size) a w → wpAny P .any ops Q fuel listed a w := by
  have hu : ∀ j, j < ops.size → okU D nx0 j (us j) := by
    intro j hj
    by_cases e : j = n
    · rw [e, hun]; exact trivial
    · have := hg j ops[j] (by omega) (by simp [hj])
      cases h : rn j with
      | true => exact (this.step h).2
      | false => rw [this.idle h]; exact trivial
  have hn' : n < ops.size := by omega
  have hreadyAll : ∀ (listed : Array Bool), listed.size = ops.size → Region.ready .any ops listed = [] → ∀ j, j < ops.size → listed.getD j false = true := by
    intro listed hsz hr j
    induction j using Nat.strongRecOn with
    | _ j ih =>
      intro hj
      by_cases h : listed.getD j false = true
      · exact h
      · exfalso
        have hf : listed.getD j false = false := by simpa using h
        have hft : listed.getD j true = false := by
          rw [Array.getD_eq_getD_getElem?] at hf ⊢
          have : listed[j]? = some listed[j] := by simp [show j < listed.size by omega]
          rw [this] at hf ⊢; exact hf
        have hmem : j ∈ Region.ready .any ops listed := by
          simp only [Region.ready, List.mem_filter, List.mem_range, Bool.and_eq_true, Bool.not_eq_true']
          refine ⟨hj, hft, ?_⟩
          rw [Array.getElem?_eq_getElem hj]
          simp only [Option.map_some, Option.getD_some]
          rw [Array.all_eq_true']
          intro e he
          by_cases hb : Region.binds .any e = true
          · have hlt := hO.edge j ops[j] (by simp [hj]) e (by simpa using he) hb
            simp [ih e.on hlt (by omega)]
          · simp [hb]
        rw [hr] at hmem; cases hmem
  intro fuel
  induction fuel with
  | zero =>
    intro listed a w hsz hdown hnn hcount hs
    exfalso
    have hnil := List.eq_nil_of_length_eq_zero (Nat.le_zero.1 hcount)
    have : n ∈ (List.range ops.size).filter fun j => !listed.getD j false := by
      simp only [List.mem_filter, List.mem_range, hn', true_and, hnn]; rfl
    rw [hnil] at this; cases this
  | succ fuel ih =>
    intro listed a w hsz hdown hnn hcount hs
    refine ⟨fun hr => (by rw [hreadyAll listed hsz hr n hn'] at hnn; cases hnn), fun k hk => ?_⟩
    obtain ⟨o, ho, hlk, hedge⟩ := ready_mem hk
    have hkn : k < ops.size := (Array.getElem?_eq_some_iff.1 ho).1
    have hSk : listed.getD k false = false := by
      rw [Array.getD_eq_getD_getElem?] at hlk ⊢
      have h2 : listed[k]? = some listed[k] := by simp [show k < listed.size by omega]
      rw [h2] at hlk ⊢; exact hlk
    have hpre : ∀ i, D.bit i k = true → listed.getD i false = true := by
      intro i hb
      have hin := (hO.small i k hb).1
      obtain ⟨e, he, hbi, hor⟩ := hO.why i k ops[i] o (by simp [hin]) ho hb
      rcases hor with rfl | hor
      · exact hedge e he hbi
      · exact hdown e.on (hedge e he hbi) i hor
    have hlisted : ∀ j, (listed.setIfInBounds k true).getD j false = (listed.getD j false || j == k) := by
      intro j
      rw [Array.getD_eq_getD_getElem?, Array.getD_eq_getD_getElem?]
      by_cases e : j = k
      · subst e; rw [Array.getElem?_setIfInBounds_self_of_lt (by omega)]; simp
      · rw [Array.getElem?_setIfInBounds_ne (fun h => e h.symm)]; simp [e]
    have hdk : ∀ d, o.dst = some d → d < C.n := hd o (by rw [Array.mem_toList_iff]; exact Array.mem_of_getElem? ho)
    have hnext := next_agree (S := fun j => listed.getD j false) (s0 := s0) hO hu hdown ho hSk
    have heval : ∀ x, x ∈ o.op.operands → ∀ v, (viewP D nx0 k (stFrom ops.toList us s0 k)).eval x = some v → (PSof ops.toList us s0 (fun j => listed.getD j false) ops.size).eval x = some v := by
      intro x hx v hv
      cases x with
      | tmp t =>
        have hmem : t ∈ looksAt (gdOf ops) o := by
          simp only [looksAt, List.mem_append, List.mem_filterMap]
          exact .inl ⟨.tmp t, by simpa using hx, rfl⟩
        have := slot_agree (S := fun j => listed.getD j false) (s0 := s0) (us := us) hO hdown ho hSk hpre hmem
        simp only [PS.eval] at hv ⊢
        rw [this]; exact hv
      | const c => exact hv
      | global g => exact hv
      | func g => exact hv
    have hheap : ∀ id b, (viewP D nx0 k (stFrom ops.toList us s0 k)).hp id = some b → (PSof ops.toList us s0 (fun j => listed.getD j false) ops.size).hp id = some b := fun id b hb => heap_agree hO hu hdown ho hSk hpre hb
    have hfresh : ∀ j, j < 7 → ¬ SU nx0 ops.size (fun j => listed.getD j false) (8 * (nx0 + k) + j) := by
      intro j' hj'
      have hpos : nmPos (8 * (nx0 + k) + j') = nx0 + k + 1 := by simp only [nmPos]; split <;> omega
      rintro (h | ⟨j, hj, hSj, he⟩)
      · omega
      · have : j = k := by omega
        subst this; simp only at hSj; rw [hSk] at hSj; cases hSj
    have hstep : ∀ (a' : Act) (w' : World), k ≠ n → Sat C (fun id => SU nx0 ops.size (fun j => listed.getD j false) id ∨ (8 * (nx0 + k) ≤ id ∧ id < 8 * (nx0 + k) + 7)) ((PSof ops.toList us s0 (fun j => listed.getD j false) ops.size).upd o.dst (us k)) a' w' → wpAny P .any ops Q fuel (listed.setIfInBounds k true) a' w' := by
      intro a' w' hkn' hs'
      refine ih _ a' w' (by simpa using hsz) (fun j hj i hb => ?_) ?_ ?_ ?_
      · rw [hlisted] at hj ⊢
        simp only [Bool.or_eq_true, beq_iff_eq] at hj ⊢
        rcases hj with hj | rfl
        · exact .inl (hdown j hj i hb)
        · exact .inl (hpre i hb)
      · rw [hlisted, hnn]; simp; exact fun e => hkn' e.symm
      · have hlt : ((List.range ops.size).filter fun j => !(listed.setIfInBounds k true).getD j false).length < ((List.range ops.size).filter fun j => !listed.getD j false).length := by
          have e1 : ((List.range ops.size).filter fun j => !(listed.setIfInBounds k true).getD j false) = (((List.range ops.size).filter fun j => !listed.getD j false).filter fun j => !(j == k)) := by
            rw [List.filter_filter]
            refine List.filter_congr (fun j _ => ?_)
            rw [hlisted, Bool.not_or, Bool.and_comm]
          rw [e1]
          refine List.length_filter_lt_length_iff_exists.2 ⟨k, ?_, by simp⟩
          simp only [List.mem_filter, List.mem_range, hkn, true_and]
          simp [hSk]
        omega
      · have e1 : PSof ops.toList us s0 (fun j => (listed.setIfInBounds k true).getD j false) ops.size = PSof ops.toList us s0 (fun j => listed.getD j false || j == k) ops.size := by
          congr 1; funext j; exact hlisted j
        rw [e1, ← hnext]
        refine hs'.widen (fun id hid => ?_)
        rcases hid with (h | ⟨j, hj, hSj, h⟩) | h
        · exact .inl h
        · exact .inr ⟨j, hj, (hlisted j).trans (by simp only at hSj; rw [hSj]; rfl), h⟩
        · exact .inr ⟨k, hkn, (hlisted k).trans (by simp), by simp only [nmPos]; split <;> omega⟩
    unfold wpOp
    rw [ho]
    simp only
    by_cases hkn' : k = n
    · subst hkn'
      obtain ⟨hg0, hst⟩ := hlast o ho
      rw [if_pos (by simp [Region.wanted, hg0])]
      left
      have hfull : PSof ops.toList us s0 (fun j => listed.getD j false) ops.size = stFrom ops.toList us s0 k := by
        have h1 : ∀ d, (PSof ops.toList us s0 (fun j => listed.getD j false) ops.size).sl d = (stFrom ops.toList us s0 k).sl d := by
          intro d
          rw [stFrom_sl]
          simp only [PSof]
          rw [last_eq (p := fun j => writes ops.toList j d) (q := fun j => listed.getD j false && writes ops.toList j d) (i := k) (fun j hj hp => ⟨by omega, by rw [hpre j (hall j hj), hp]; rfl⟩)
            (fun j hj hq => by
              simp only [Bool.and_eq_true] at hq
              refine ⟨?_, hq.2⟩
              by_cases e : j = k
              · subst e; rw [hSk] at hq; cases hq.1
              · omega)]
        have h2 : ∀ id, (PSof ops.toList us s0 (fun j => listed.getD j false) ops.size).hp id = (stFrom ops.toList us s0 k).hp id := by
          intro id
          rw [stFrom_hp]
          simp only [PSof]
          rw [last_eq (p := fun j => touches us j id) (q := fun j => listed.getD j false && touches us j id) (i := k) (fun j hj hp => ⟨by omega, by rw [hpre j (hall j hj), hp]; rfl⟩)
            (fun j hj hq => by
              simp only [Bool.and_eq_true] at hq
              refine ⟨?_, hq.2⟩
              by_cases e : j = k
              · subst e; rw [hSk] at hq; cases hq.1
              · omega)]
        generalize PSof ops.toList us s0 (fun j => listed.getD j false) ops.size = x at *
        generalize stFrom ops.toList us s0 k = y at *
        cases x; cases y
        simp only [PS.mk.injEq]
        exact ⟨funext h1, funext h2⟩
      rw [hfull] at hs
      refine Oper.wp_mono (fun a' w' hs' => ?_) (hst C (SU nx0 ops.size fun j => listed.getD j false) _ a w hdk hfresh (fun _ _ _ h => h) (fun _ _ h => h) hs Q)
      have hall2 : ∀ j, j < ops.size → (listed.setIfInBounds k true).getD j false = true := fun j hj => by
        rw [hlisted]
        by_cases e : j = k
        · simp [e]
        · rw [hpre j (hall j (by omega))]; rfl
      have hq : Q .normal a' w' := hQ a' w' (by
        rw [ho]
        refine hs'.widen fun i hi => ?_
        rcases hi with (h | ⟨j, hj, _, h⟩) | ⟨h1, h2⟩
        · omega
        · omega
        · simp only [nmPos]; split <;> omega)
      have hr0 : Region.ready .any ops (listed.setIfInBounds k true) = [] := by
        simp only [Region.ready, List.filter_eq_nil_iff, List.mem_range, Bool.and_eq_true, Bool.not_eq_true', not_and]
        intro i hi hf
        have := hall2 i hi
        rw [Array.getD_eq_getD_getElem?] at this hf
        have h2 : (listed.setIfInBounds k true)[i]? = some ((listed.setIfInBounds k true)[i]'(by rw [Array.size_setIfInBounds]; omega)) := by simp [show i < listed.size by omega]
        rw [h2] at this hf
        simp only [Option.getD_some] at this hf
        rw [this] at hf; cases hf
      cases fuel with
      | zero => exact ⟨hr0, hq⟩
      | succ f => exact ⟨fun _ => hq, fun i hi => by rw [hr0] at hi; cases hi⟩
    · have good := hg k o (by omega) ho
      have hwant : Region.wanted o (yielded ops a.tmps) = rn k := by
        rcases good.guard with ⟨h1, h2⟩ | ⟨g, b, d, v, h1, h2, h3, h4⟩
        · rw [h2]; simp [Region.wanted, h1]
        · have hmem : d ∈ looksAt (gdOf ops) o := by simp [looksAt, h1, h2]
          have hag := slot_agree (S := fun j => listed.getD j false) (s0 := s0) (us := us) hO hdown ho hSk hpre hmem
          rw [h3] at hag
          have hv := hs.getBool hag
          have hdn : d < a.tmps.size := by
            obtain ⟨ρ, hr⟩ := hs
            rw [hr.size]
            simp only [gdOf] at h2
            obtain ⟨x, hx, hxd⟩ := Option.bind_eq_some_iff.1 h2
            exact hd x (by rw [Array.mem_toList_iff]; exact Array.mem_of_getElem? hx) d hxd
          rw [h4]
          simp only [Region.wanted, h1, yielded_of h2 hdn, hv]
          cases v <;> simp [yv] <;> first | rfl | (rename_i q; cases q <;> cases b <;> rfl)
      rw [hwant]
      cases hr : rn k with
      | true =>
        simp only [if_true]
        left
        obtain ⟨hst, _⟩ := good.step hr
        exact Oper.wp_mono (fun a' w' hs' => hstep a' w' hkn' hs') (hst C (SU nx0 ops.size fun j => listed.getD j false) _ a w hdk hfresh heval hheap hs Q)
      | false =>
        simp only [Bool.false_eq_true, if_false]
        refine hstep _ w hkn' ?_
        rw [good.idle hr]
        exact (hs.skip hdk).widen (fun _ h => .inl h)
def lastOk (D : Ord) (n : Nat) : Bool := (List.range n).all fun i => D.bit i n
theorem awp_dL {P : Program} {C : Ctx} {K : Exit → LS → Prop} {s : LS} {id : Nat} {l : List Oper} {o : Oper} (H : List Nat) (D : Ord) (n : Nat) (hf : inFrame C.n l.toArray = true) (hm : P.follows .mixedOrders = true) (hD : okD D l.toArray = true)
    (hn : decide (n + 1 = l.length) = true) (hlast : lastOk D n = true) (ho : l[n]? = some o) (hg0 : o.guard = none)
    (h : ∀ k : LS → Prop, (∀ s', K .normal s' → k s') → aopsD P H D (gdOf l.toArray) (fun s' => aop P H (8 * (s'.nx + n)) s'.ps o.dst o.op fun u => k ⟨(s'.upd o.dst u).sl, (s'.upd o.dst u).hp, s'.nx + l.length⟩) 0 (l.take n) s) : Awp P C (.region id l.toArray true) K s := by
  intro a w hs
  refine wp_region_any hm ?_
  have hO := ordOk_of hD
  have hsz : l.toArray.size = l.length := by simp
  have hl : l.toArray.toList = l := by simp
  have hn1 : n + 1 = l.length := by simpa using hn
  obtain ⟨us0, rn0, s', ⟨u, hK, hst⟩, hnx, hps, hgood⟩ : ∃ (us : Nat → Upd) (rn : Nat → Bool) (s' : LS), (∃ u : Upd, (K .normal ⟨(s'.upd o.dst u).sl, (s'.upd o.dst u).hp, s'.nx + l.length⟩) ∧ StepF P o (8 * (s'.nx + n)) s'.ps u) ∧ s'.nx = s.nx ∧ s'.ps = stFrom (l.take n) us s.ps (l.take n).length ∧
      ∀ k o', (l.take n)[k]? = some o' → Good P D (gdOf l.toArray) s.nx (0 + k) o' (stFrom (l.take n) us s.ps k) (us k) (rn k) := by
    obtain ⟨us, rn, s', hk, h1, h2, h3⟩ := traceD (l.take n) 0 s (h (fun s' => K .normal s') fun _ h => h)
    obtain ⟨u, hK, hst⟩ := aop_sound hk
    exact ⟨us, rn, s', ⟨u, hK, hst⟩, h1, h2, h3⟩
  rw [List.length_take, Nat.min_eq_left (by omega)] at hps
  let us : Nat → Upd := fun k => if k < n then us0 k else ⟨undefA, []⟩
  have hst0 : ∀ k, k ≤ n → stFrom l us s.ps k = stFrom (l.take n) us0 s.ps k := by
    intro k
    induction k with
    | zero => intro _; rfl
    | succ k ih =>
      intro hk
      simp only [stFrom]
      rw [ih (by omega), List.getElem?_take, if_pos (by omega)]
      simp only [us, if_pos (show k < n by omega)]
  refine drawL (C := C) (us := us) (rn := rn0) (s0 := s.ps) (nx0 := s.nx) (n := n) (un := u) hO (by omega) (fun i hi => ?_) (by simp [us]) (fun k o' hkn hk => ?_) (fun o' ho' => ?_) (inFrame_spec hf) (fun a' w' hs' => ?_) l.toArray.size _ a _ (by simp) (fun j hj => ?_) ?_ ?_ ?_
  · exact List.all_eq_true.1 hlast i (List.mem_range.2 hi)
  · have := hgood k o' (by rw [List.getElem?_take, if_pos hkn]; simpa using hk)
    rw [Nat.zero_add] at this
    rw [hl, hst0 k (by omega)]
    simp only [us, if_pos hkn]
    exact this
  · have e : o' = o := by
      have : l[n]? = some o' := by simpa using ho'
      rw [ho] at this; injection this with this; exact this.symm
    subst e
    refine ⟨hg0, ?_⟩
    rw [hl, hst0 n (Nat.le_refl _), ← hps, ← hnx]; exact hst
  · refine ⟨⟨(s'.upd o.dst u).sl, (s'.upd o.dst u).hp, s'.nx + l.length⟩, hK, ?_⟩
    have e1 : (⟨(s'.upd o.dst u).sl, (s'.upd o.dst u).hp, s'.nx + l.length⟩ : LS).ps = s'.ps.upd o.dst u := by rw [← ps_upd]; rfl
    have e2 : (l.toArray[n]?).bind (·.dst) = o.dst := by
      have : l.toArray[n]? = some o := by simpa using ho
      rw [this]; rfl
    rw [e1]
    rw [hl, hst0 n (Nat.le_refl _), ← hps, e2, hsz, ← hnx] at hs'
    exact hs'
  · rw [Array.getD_eq_getD_getElem?, Array.getElem?_replicate] at hj
    split at hj <;> cases hj
  · rw [Array.getD_eq_getD_getElem?, Array.getElem?_replicate]
    split <;> rfl
  · refine Nat.le_trans (List.length_filter_le _ _) (by simp)
  · have e1 : PSof l.toArray.toList us s.ps (fun j => (Array.replicate l.toArray.size false).getD j false) l.toArray.size = s.ps := by
      have hz : ∀ j, (Array.replicate l.toArray.size false).getD j false = false := by
        intro j
        rw [Array.getD_eq_getD_getElem?, Array.getElem?_replicate]
        split <;> rfl
      have h0 : ∀ p : Nat → Bool, last (fun j => (Array.replicate l.toArray.size false).getD j false && p j) l.toArray.size = none := fun p => last_none.2 (fun j _ => by rw [hz]; rfl)
      simp only [PSof, h0]
    rw [e1]
    obtain ⟨ρ, hr⟩ := hs
    exact ⟨ρ, (hr.drew).widen (fun i hi => .inl hi)⟩
def sidesOk (D : Ord) (n L : Nat) (dead pre : List Nat) : Bool := (List.range L).all fun i => (dead.contains i == D.bit n i) && (pre.contains i == D.bit i n)
theorem awp_dxe {P : Program} {C : Ctx} {K : Exit → LS → Prop} {s : LS} {id : Nat} {l : List Oper} (H : List Nat) (D : Ord) (n : Nat) (dead pre : List Nat) (hf : inFrame C.n l.toArray = true) (hm : P.follows .mixedOrders = true) (hD : okD D l.toArray = true)
    (hn : decide (n < l.length) = true) (hside : sidesOk D n l.length dead pre = true)
    (h : ∀ k : List PanicEntry → LS → Prop, (∀ ch s', K (.panic ch) s' → k ch s') → aopsN P H D n l.length dead pre k 0 l s) : Awp P C (.region id l.toArray true) K s := by
  intro a w hs
  refine wp_region_any hm ?_
  have hO := ordOk_of hD
  obtain ⟨us, hgood⟩ := traceN l 0 s (h (fun ch s' => K (.panic ch) s') fun _ _ h => h)
  have hl : l.toArray.toList = l := by simp
  have hsz : l.toArray.size = l.length := by simp
  have hsd : ∀ i, i < l.toArray.size → dead.contains i = D.bit n i ∧ pre.contains i = D.bit i n := fun i hi => by
    have := List.all_eq_true.1 hside i (List.mem_range.2 (by omega))
    simpa using this
  refine drawN (C := C) (us := us) (s0 := s.ps) (nx0 := s.nx) (n := n) (L := l.length) (K := fun ch s' => K (.panic ch) s') hO (by simpa using hn) (fun i hi => (hsd i hi).1) (fun i hi => (hsd i hi).2) (fun k o hk => ?_) (inFrame_spec hf) (fun ch s' a' w' hk hnx hs' => ⟨s', hk, by rw [hnx]; rw [hsz] at hs'; exact hs'⟩) l.toArray.size _ a _ (by simp) (fun j hj => ?_) ?_ ?_ ?_
  · have := hgood k o (by simpa using hk)
    rw [Nat.zero_add] at this
    rw [hl]; exact this
  · rw [Array.getD_eq_getD_getElem?, Array.getElem?_replicate] at hj
    split at hj <;> cases hj
  · rw [Array.getD_eq_getD_getElem?, Array.getElem?_replicate]
    split <;> rfl
  · refine Nat.le_trans (List.length_filter_le _ _) (by simp)
  · have e1 : PSof l.toArray.toList us s.ps (fun j => (Array.replicate l.toArray.size false).getD j false) l.toArray.size = s.ps := by
      have hz : ∀ j, (Array.replicate l.toArray.size false).getD j false = false := by
        intro j
        rw [Array.getD_eq_getD_getElem?, Array.getElem?_replicate]
        split <;> rfl
      have h0 : ∀ p : Nat → Bool, last (fun j => (Array.replicate l.toArray.size false).getD j false && p j) l.toArray.size = none := fun p => last_none.2 (fun j _ => by rw [hz]; rfl)
      simp only [PSof, h0]
    rw [e1]
    obtain ⟨ρ, hr⟩ := hs
    exact ⟨ρ, (hr.drew).widen (fun i hi => .inl hi)⟩
end Go.Am
namespace Go.Am
open Go.RowKit
def rpin (σ : List Nat) (i : Nat) : Nat := 8 * σ.idxOf i + 7
def RepinSl (s : LS) (σ : List Nat) : List (Nat × AV) → Prop
  | [] => True
  | (d, x) :: r => (∃ y, lkp s.sl d = some y ∧ x = y.ren (rpin σ) ∧ ∀ i, i ∈ y.names → i ∈ σ) ∧ RepinSl s σ r
def RepinHp (s : LS) (σ : List Nat) : List (Nat × Blk) → Prop
  | [] => True
  | (id, k) :: r => (∃ j i k0, id = 8 * j + 7 ∧ σ[j]? = some i ∧ lkp s.hp i = some k0 ∧ k = k0.ren (rpin σ) ∧ k0.hasOnly (fun i => i ∈ σ)) ∧ RepinHp s σ r
theorem RepinSl.get {s : LS} {σ : List Nat} : ∀ {l : List (Nat × AV)}, RepinSl s σ l → ∀ d x, lkp l d = some x → ∃ y, lkp s.sl d = some y ∧ x = y.ren (rpin σ) ∧ ∀ i, i ∈ y.names → i ∈ σ
  | [], _, d, x, h => by simp [lkp] at h
  | (e, y) :: r, hi, d, x, h => by
    simp only [lkp] at h
    split at h
    · rename_i e; subst e; simp only [Option.some.injEq] at h; subst h; exact hi.1
    · exact hi.2.get d x h
theorem RepinHp.get {s : LS} {σ : List Nat} : ∀ {l : List (Nat × Blk)}, RepinHp s σ l → ∀ id k, lkp l id = some k → ∃ j i k0, id = 8 * j + 7 ∧ σ[j]? = some i ∧ lkp s.hp i = some k0 ∧ k = k0.ren (rpin σ) ∧ k0.hasOnly (fun i => i ∈ σ)
  | [], _, d, x, h => by simp [lkp] at h
  | (e, y) :: r, hi, d, x, h => by
    simp only [lkp] at h
    split at h
    · rename_i e; subst e; simp only [Option.some.injEq] at h; subst h; exact hi.1
    · exact hi.2.get d x h
theorem SatR.repin {C : Ctx} {U : Nat → Prop} {s s' : LS} {ρ : Nat → Option Value} {a : Act} {w : World} (h : SatR C U s.ps ρ a w) (σ : List Nat) (hnd : σ.Nodup) (D : List Deferred) (hsl : RepinSl s σ s'.sl) (hhp : RepinHp s σ s'.hp) :
    ∃ ρ', SatR ⟨C.w0, C.Oc, C.A, C.n, fun j => (σ[j]?).bind ρ, D⟩ (fun i => U i ∨ i % 8 = 7) s'.ps ρ' ⟨a.tmps, D⟩ w := by
  let ρ' : Nat → Option Value := fun i => if i % 8 = 7 then (σ[i / 8]?).bind ρ else ρ i
  let C' : Ctx := ⟨C.w0, C.Oc, C.A, C.n, fun j => (σ[j]?).bind ρ, D⟩
  have hp7 : ∀ j, ρ' (8 * j + 7) = (σ[j]?).bind ρ := fun j => by
    show (if (8 * j + 7) % 8 = 7 then _ else _) = _
    rw [if_pos (by omega), show (8 * j + 7) / 8 = j by omega]
  have hren : ∀ i, i ∈ σ → ∀ u, ρ i = some u → ρ' (rpin σ i) = some u := fun i hi u hu => by
    unfold rpin
    rw [hp7, List.getElem?_eq_getElem (List.idxOf_lt_length_of_mem hi), List.getElem_idxOf]; exact hu
  have hO : ∀ b, Own C' s'.ps ρ' b → Own C s.ps ρ b := by
    rintro b (ho | ⟨id, k, v, h1, h2, h3⟩)
    · exact .inl ho
    · obtain ⟨j, i, k0, rfl, hj, hk, _, _⟩ := hhp.get id k h1
      rw [hp7, hj] at h2
      exact .inr ⟨i, k0, v, hk, h2, h3⟩
  have hm : Moves (Own C s.ps ρ) w (Own C' s'.ps ρ') w := ⟨Nat.le_refl _, fun _ _ _ => rfl, fun b _ => hO b⟩
  refine ⟨ρ', rfl, h.size, fun d x hx => ?_, fun id k hid => ?_, fun i j k l v u b h1 h2 h3 h4 h5 h6 => ?_, fun id hid => ?_, fun id k v b h1 h2 h3 => ?_, h.oc, h.os, h.tape, h.output, h.grows, h.frame, fun j v hj => ?_⟩
  · obtain ⟨y, hy, rfl, hn⟩ := hsl.get d x hx
    exact ((h.slots d y hy).ren (rpin σ) (fun i hi u hu => hren i (hn i hi) u hu)).mono hm (fun _ _ h => h)
  · obtain ⟨j, i, k0, rfl, hj, hk, rfl, hn⟩ := hhp.get id k hid
    obtain ⟨v, hv, hb⟩ := h.heap i k0 hk
    exact ⟨v, by rw [hp7, hj]; exact hv, (hb.ren (rpin σ) hn (fun i hi u hu => hren i hi u hu)).mono hm (fun _ _ h => h) (fun _ _ => rfl)⟩
  · obtain ⟨j1, i1, k1, rfl, e1, e2, _, _⟩ := hhp.get i k h1
    obtain ⟨j2, i2, k2, rfl, e3, e4, _, _⟩ := hhp.get j l h2
    rw [hp7, e1] at h3
    rw [hp7, e3] at h4
    have e := h.inj i1 i2 _ _ v u b e2 e4 h3 h4 h5 h6
    subst e
    have hd := (List.getElem?_inj (List.getElem?_eq_some_iff.1 e1).1 hnd).mp (e1.trans e3.symm)
    rw [hd]
  · have h1 : ¬ id % 8 = 7 := fun e => hid (.inr e)
    show (if id % 8 = 7 then _ else _) = none
    rw [if_neg h1]
    exact h.used id (fun e => hid (.inl e))
  · obtain ⟨j, i, k0, rfl, hj, hk, _, _⟩ := hhp.get id k h1
    rw [hp7, hj] at h2
    exact h.range i k0 v b hk h2 h3
  · rw [hp7]; exact hj
def Modes (rv : Value) (u u' : FrameMode) : Prop := (u = .returning ∧ u' = .returning ∧ rv = .nilIface) ∨ (u = .panicking [{ v := rv, recovered := false }] ∧ u' = .panicking [{ v := rv, recovered := true }])
def doorK (hp' : List (Nat × Blk)) (e : Exit) (s : LS) : Prop := (e = .ret ∨ e = .normal) ∧ LE ⟨[(0, undefA)], s.hp, s.nx⟩ ⟨[(0, undefA)], hp', 1⟩
def Door (P : Program) (g : FuncId) (xs : List AV) (hp hp' : List (Nat × Blk)) (rv : Value) : Prop :=
  ∃ fn id0 t ty p af l0 y, P.funcs[g]? = some fn ∧ fn.body = some (.seq (.region id0 (⟨some t, .call ⟨.builtin .recover, #[], #[]⟩, ty, p, af, none⟩ :: l0).toArray false) y) ∧ xs.length ≤ fn.ntmps ∧ fn.results = #[] ∧ t < fn.ntmps ∧
    l0.all (fun o => o.guard.isNone) = true ∧ inFrame fn.ntmps l0.toArray = true ∧
    ∀ C : Ctx, C.n = fn.ntmps → ∀ k : LS → Prop, (∀ s', Awp P C y (doorK hp') s' → k s') → aops P [] (fun _ => none) (fun s' => k ⟨s'.sl, s'.hp, s'.nx + l0.length⟩) 0 l0 ⟨(t, .p (.lit rv)) :: argA 0 xs, hp, 0⟩
theorem door_of {P : Program} {g : FuncId} {xs : List AV} {hp hp' : List (Nat × Blk)} {rv : Value} {fn : Func} {id0 t : Nat} {ty : TypeId} {p : String} {af : Array Edge} {l0 : List Oper} {y : Code} (hf : P.funcs[g]? = some fn)
    (hb : fn.body = some (.seq (.region id0 (⟨some t, .call ⟨.builtin .recover, #[], #[]⟩, ty, p, af, none⟩ :: l0).toArray false) y)) (hn : xs.length ≤ fn.ntmps) (hr : fn.results = #[]) (ht : t < fn.ntmps)
    (hg : l0.all (fun o => o.guard.isNone) = true) (hi : inFrame fn.ntmps l0.toArray = true)
    (h : ∀ C : Ctx, C.n = fn.ntmps → ∀ k : LS → Prop, (∀ s', Awp P C y (doorK hp') s' → k s') → aops P [] (fun _ => none) (fun s' => k ⟨s'.sl, s'.hp, s'.nx + l0.length⟩) 0 l0 ⟨(t, .p (.lit rv)) :: argA 0 xs, hp, 0⟩) : Door P g xs hp hp' rv :=
  ⟨fn, id0, t, ty, p, af, l0, y, hf, hb, hn, hr, ht, hg, hi, h⟩
theorem wpOpsS_cons {P : Program} {ops : Array Oper} {Q : Exit → Act → List Frame → World → Prop} {i : Nat} {rest : List Nat} {a : Act} {cs : List Frame} {w : World} {o : Oper} (ho : ops[i]? = some o) (hg : o.guard = none)
    (h : o.wp P a w (fun a' w' => wpOpsS P ops Q rest a' cs w') (fun e a' w' => Q e a' cs w')) : wpOpsS P ops Q (i :: rest) a cs w := by
  unfold wpOpsS
  rw [ho]
  have hw : Region.wanted o (yielded ops a.tmps) = true := by simp [Region.wanted, hg]
  simp only [hw, if_true]
  unfold Oper.wp at h
  generalize hr : (execOp a.eval o).run P w = r at h
  split
  · simp [Oper.upon] at h
  · exact h
theorem aops_S {P : Program} {H : List Nat} {gd : Nat → Option Nat} {ops : Array Oper} {K : LS → Prop} {C : Ctx} {Q : Exit → Act → List Frame → World → Prop} {cs : List Frame} : ∀ (os : List Oper) (i x : Nat) (s : LS) (a : Act) (w : World),
    aops P H gd K i os s → (∀ o, o ∈ os → o.guard = none ∧ ∀ d, o.dst = some d → d < C.n) → (∀ j o, os[j]? = some o → ops[x + j]? = some o) → Sat C (fun j => nmPos j ≤ s.nx + i) s.ps a w →
    (∀ s' a' w', K s' → s'.nx = s.nx → Sat C (fun j => nmPos j ≤ s'.nx + (i + os.length)) s'.ps a' w' → Q .normal a' cs w') → wpOpsS P ops Q (List.range' x os.length) a cs w
  | [], i, x, s, a, w, h, _, _, hs, hQ => hQ s a w h rfl hs
  | o :: os, i, x, s, a, w, h, hd, hx, hs, hQ => by
    obtain ⟨hg, hd0⟩ := hd o (by simp)
    simp only [aops, hg] at h
    obtain ⟨u, hK, hstep⟩ := aop_sound h
    rw [List.length_cons, List.range'_succ]
    refine wpOpsS_cons (by simpa using hx 0 o rfl) hg (Oper.wp_mono (fun a' w' hs' => ?_) (stepA_use hstep hd0 (U := fun j => nmPos j ≤ s.nx + i) (U' := fun j => nmPos j ≤ s.nx + (i + 1)) (by intro j hj; simp only [nmPos]; split <;> omega) rfl hs (fun j hj => by rcases hj with hj | hj; omega; simp only [nmPos]; split <;> omega) _))
    refine aops_S os (i + 1) (x + 1) (s.upd o.dst u) a' w' hK (fun o' ho' => hd o' (by simp [ho'])) (fun j o' hj => by have := hx (j + 1) o' (by simpa using hj); rwa [show x + 1 + j = x + (j + 1) by omega]) (by rw [ps_upd]; exact hs') (fun s' a' w' hK hn hs' => hQ s' a' w' hK hn ?_)
    rw [List.length_cons, show i + (os.length + 1) = i + 1 + os.length by omega]; exact hs'
theorem run_recover {P : Program} (a : Act) (t : Option Nat) (ty : TypeId) (p : String) (af : Array Edge) (w : World) : (execOp a.eval ⟨t, .call ⟨.builtin .recover, #[], #[]⟩, ty, p, af, none⟩).run P w = .ok .recover w := by
  simp [execOp, resolve, invoke, builtin]
theorem door_calls {P : Program} {g : FuncId} {xs ys : List AV} {hp hp' : List (Nat × Blk)} {rv : Value} (h : Door P g xs hp hp' rv) {σ same : List Nat} {f : Nat} {V : PS}
    (hn : namesOk σ same hp hp' = true) (hsame : SameIn hp hp' same) (hB : BlksOk hp hp) (hB' : BlksOk hp' hp') (hX : ∀ n, n ∈ AV.namess xs → Nm hp n) (hys : ys = AV.rens (sgm σ f) xs) (hV : HpIn V σ f hp)
    {C : Ctx} {U : Nat → Prop} {s : PS} {ρ : Nat → Option Value} {a : Act} {w : World} {vs : Array Value} (hf : ∀ j, j < 7 → ¬ U (f + j)) (hVs : ∀ id k, V.hp id = some k → s.hp id = some k) (hs : SatR C U s ρ a w)
    (hsz : vs.size = ys.length) (hr : ∀ i x, ys[i]? = some x → RepA (Own C s ρ) ρ w x (vs.getD i undef)) {u u' : FrameMode} (hu : Modes rv u u') :
    CallsD P g vs u w fun e u'' w' => (∃ v, e = .returned v) ∧ u'' = u' ∧ Sat C (fun i => U i ∨ (f ≤ i ∧ i < f + 7)) ⟨s.sl, PS.setHp s.hp (hpsOf σ f same hp' hp)⟩ a w' := by
  obtain ⟨fn, id0, t, ty, p, af, l0, y, hfn, hb, hlen, hres, htn, hgs, hin, hbody⟩ := h
  obtain ⟨C', hCn, hds, hsat0, back⟩ := lend (r := undefA) hn hsame hB hB' hX (fun n h => by simp [undefA, AV.names] at h) hys hV hf hVs hs hsz hr fn.ntmps hlen
  refine callsD_of_wpS hfn hb fun c₀ cs hmode => ?_
  refine wpS_seq (wpS_region ?_)
  have hsize : (⟨some t, .call ⟨.builtin .recover, #[], #[]⟩, ty, p, af, none⟩ :: l0).toArray.size = l0.length + 1 := by simp
  rw [hsize, List.range_eq_range', List.range'_succ]
  -- what is left once something was recovered
  have rest : ∀ cs', cs' = { c₀ with mode := u' } :: cs → wpOpsS P (⟨some t, .call ⟨.builtin .recover, #[], #[]⟩, ty, p, af, none⟩ :: l0).toArray (Exit.thenS (y.wpS P (bodyPostS P fn c₀ cs fun e u'' w' => (∃ v, e = .returned v) ∧ u'' = u' ∧ Sat C (fun i => U i ∨ (f ≤ i ∧ i < f + 7)) ⟨s.sl, PS.setHp s.hp (hpsOf σ f same hp' hp)⟩ a w'))
      (bodyPostS P fn c₀ cs fun e u'' w' => (∃ v, e = .returned v) ∧ u'' = u' ∧ Sat C (fun i => U i ∨ (f ≤ i ∧ i < f + 7)) ⟨s.sl, PS.setHp s.hp (hpsOf σ f same hp' hp)⟩ a w')) (List.range' (0 + 1) l0.length)
      ((⟨vs ++ Array.replicate (fn.ntmps - vs.size) undef, []⟩ : Act).put (some t) rv) cs' w := by
    rintro cs' rfl
    have hsat1 : Sat C' (fun j => nmPos j ≤ (⟨(t, .p (.lit rv)) :: argA 0 xs, hp, 0⟩ : LS).nx + 0) (⟨(t, .p (.lit rv)) :: argA 0 xs, hp, 0⟩ : LS).ps ((⟨vs ++ Array.replicate (fn.ntmps - vs.size) undef, []⟩ : Act).put (some t) rv) w := by
      obtain ⟨ρ0, h0⟩ := hsat0
      have := h0.put (dst := some t) (fun d hd => by injection hd with hd; subst hd; rw [hCn]; exact htn) (x := .p (.lit rv)) (v := rv) (.p _ _ (.lit _))
      have e6 : (⟨(t, .p (.lit rv)) :: argA 0 xs, hp, 0⟩ : LS).ps = PS.upd (⟨argA 0 xs, hp, 0⟩ : LS).ps (some t) ⟨.p (.lit rv), []⟩ := by
        simp only [LS.ps, PS.upd, PS.setHp, PS.mk.injEq, and_true]
        funext q
        simp only [lkp, Option.some.injEq]
        by_cases e : q = t
        · subst e; simp
        · rw [if_neg e, if_neg (fun h => e h.symm)]
      rw [e6]
      exact ⟨ρ0, this⟩
    refine aops_S l0 0 (0 + 1) _ _ w (hbody C' hCn (fun s' => Awp P C' y (doorK hp') s') fun _ h => h) (fun o ho => ⟨by have := List.all_eq_true.1 hgs o ho; simpa using this, by rw [hCn]; exact inFrame_spec hin o (by simpa using ho)⟩) (fun j o hj => by simp [Nat.add_comm 1 j]; simpa using hj) hsat1 (fun s' a' w' hk hnx hs' => ?_)
    refine wpS_of_wp (wp_mono (hk a' w' (by rw [Nat.zero_add] at hs'; exact hs')) fun e a'' w'' ⟨s1, hd, hs1⟩ => ?_)
    obtain ⟨he, hle⟩ := hd
    obtain ⟨ρ1, hr1⟩ := hs1
    have hdf : a''.defers = [] := hr1.defers.trans hds
    obtain ⟨ρ3, h3, _⟩ := back s1 ρ1 a'' w'' hr1 undefA undef (.p _ _ (.lit _)) hle
    have hrun : (results fn a''.tmps).run P w'' = .ok (.tuple #[]) w'' := by rw [results_eq, hres]; simp
    have fin : bodyPostS P fn c₀ cs (fun e u'' w' => (∃ v, e = .returned v) ∧ u'' = u' ∧ Sat C (fun i => U i ∨ (f ≤ i ∧ i < f + 7)) ⟨s.sl, PS.setHp s.hp (hpsOf σ f same hp' hp)⟩ a w') .ret a'' ({ c₀ with mode := u' } :: cs) w'' :=
      ⟨hdf, u', rfl, _, hrun, ⟨_, rfl⟩, rfl, ρ3, h3⟩
    rcases he with rfl | rfl
    · exact fin
    · exact fin
  unfold wpOpsS
  have hw : Region.wanted (⟨some t, .call ⟨.builtin .recover, #[], #[]⟩, ty, p, af, none⟩ : Oper) (yielded (⟨some t, .call ⟨.builtin .recover, #[], #[]⟩, ty, p, af, none⟩ :: l0).toArray (⟨vs ++ Array.replicate (fn.ntmps - vs.size) undef, []⟩ : Act).tmps) = true := by simp [Region.wanted]
  have h0 : (⟨some t, .call ⟨.builtin .recover, #[], #[]⟩, ty, p, af, none⟩ :: l0).toArray[0]? = some (⟨some t, .call ⟨.builtin .recover, #[], #[]⟩, ty, p, af, none⟩ : Oper) := by simp
  rw [h0]
  simp only [hw, if_true, run_recover]
  rcases hu with ⟨rfl, rfl, rfl⟩ | ⟨rfl, rfl⟩
  · have e : recoverD (c₀ :: cs) = none := by simp [recoverD, hmode]
    rw [e]
    exact rest _ (by rw [← hmode])
  · have e : recoverD (c₀ :: cs) = some (rv, { c₀ with mode := .panicking [{ v := rv, recovered := true }] } :: cs) := by simp [recoverD, hmode]
    rw [e]
    exact rest _ rfl
def RC (C : Ctx) (r : PV) (e : Ending) (w' : World) : Prop := ∃ v, e = .returned v ∧ RepP C.Oc w' r v ∧ Below C.w0.heap.size C.w0 w'
def DW (P : Program) (fn : Func) (C : Ctx) (r : PV) (c : Code) (s : LS) : Prop := ∀ a w, Sat C (fun i => nmPos i ≤ s.nx) s.ps a w → c.wp P (bodyPostD P fn (RC C r)) a w
theorem dw_end {P : Program} {fn : Func} {C : Ctx} {r : PV} (hds : C.ds = []) (hA : ∀ b, ¬ C.A b) {e : Exit} {s : LS} (h : retK P fn r e s) {a : Act} {w : World} (hs : Sat C (fun i => nmPos i ≤ s.nx) s.ps a w) : bodyPostD P fn (RC C r) e a w := by
  obtain ⟨ρ, hr⟩ := hs
  have fin : resR P s fn.results.toList r → Leaves P fn a.tmps (RC C r) a.defers .returning w := fun hres => by
    obtain ⟨v, hv, hrep⟩ := run_results hr hres
    rw [hr.defers.trans hds]
    exact ⟨v, hv, v, rfl, hrep, ⟨hr.os, hr.tape, hr.output, hr.grows, fun b hb => hr.frame b hb (hA b)⟩⟩
  cases e with
  | ret => exact fin h
  | normal => exact fin h
  | exit => exact h.elim
  | goto => exact h.elim
  | panic => exact h.elim
  | outgrown => exact h.elim
theorem dw_seq {P : Program} {fn : Func} {C : Ctx} {r : PV} (hds : C.ds = []) (hA : ∀ b, ¬ C.A b) {x y : Code} {s : LS} (h : Awp P C x (fun e s' => match e with | .normal => DW P fn C r y s' | e => retK P fn r e s') s) : DW P fn C r (.seq x y) s := by
  intro a w hs
  refine wp_seq (wp_mono (h a w hs) fun e a' w' ⟨s', hk, hs'⟩ => ?_)
  cases e with
  | normal => exact hk a' w' hs'
  | ret => exact dw_end (e := .ret) hds hA hk hs'
  | exit => exact hk.elim
  | goto => exact hk.elim
  | panic => exact hk.elim
  | outgrown => exact hk.elim
theorem pcall_of_dw {P : Program} {f : FuncId} {fn : Func} {c : Code} {args : List PV} {r : PV} (hf : P.funcs[f]? = some fn) (hb : fn.body = some c) (hn : args.length ≤ fn.ntmps)
    (h : ∀ C : Ctx, C.n = fn.ntmps → C.ds = [] → (∀ b, ¬ C.A b) → DW P fn C r c ⟨argSl 0 args, [], 0⟩) : PCall P f args r := by
  intro O w vs hO hsz hr
  refine calls_of_wp_defers hf hb ?_
  let C : Ctx := ⟨w, O, fun _ => False, fn.ntmps, fun _ => none, []⟩
  have hs : Sat C (fun i => nmPos i ≤ 0) (⟨argSl 0 args, [], 0⟩ : LS).ps ⟨vs ++ Array.replicate (fn.ntmps - vs.size) undef, []⟩ w := by
    refine ⟨fun _ => none, ⟨rfl, by simp [C]; omega, fun d x hx => ?_, fun id k hk => (by cases hk), fun i j k l v u b hk => (by cases hk), fun _ _ => rfl, fun id k v b hk => (by cases hk), hO, rfl, rfl, rfl, Nat.le_refl _, fun _ _ _ => rfl, fun j v hj => (by cases hj)⟩⟩
    obtain ⟨y, j, rfl, hy, rfl⟩ := lkp_argSl args 0 d x hx
    have hj := (List.getElem?_eq_some_iff.1 hy).1
    have := hr j y hy
    rw [Nat.zero_add, Array.getD_eq_getD_getElem?, Array.getElem?_append_left (by omega), ← Array.getD_eq_getD_getElem?]
    refine .p _ _ (this.mono ⟨Nat.le_refl _, fun _ _ _ => rfl, fun b hb ho => ?_⟩)
    rcases ho with ho | ⟨id, k, v, hk, _⟩
    · exact ho
    · cases hk
  exact h C rfl rfl (fun b hb => hb) _ w hs
def restK (o : Option Value) (S : LS) (e : Exit) (s : LS) : Prop := match o with
  | none => (e = .ret ∨ e = .normal) ∧ LE s S
  | some v => e = .panic [{ v := v, recovered := false }] ∧ LE s S
theorem dw_defer {P : Program} {fn : Func} {C : Ctx} {r : PV} (hCn : C.n = fn.ntmps) (hds : C.ds = []) (hA : ∀ b, ¬ C.A b) {id1 t : Nat} {g : FuncId} {caps : List Operand} {ty1 ty2 : TypeId} {p1 p2 : String} {a1 a2 : Array Edge} {ts : Array TypeId} {rest : Code} {s : LS}
    (ht : decide (t < fn.ntmps) = true) (hen : enters P g = true) (σ σ' same : List Nat) (o : Option Value) (S2 S3 : LS) (hpL hp4 : List (Nat × Blk)) (xs0 xs : List AV) (hnd : decide σ.Nodup = true) (hcap : evals s.ps caps = some xs0)
    (hsl : RepinSl ⟨(t, .fn g xs0) :: s.sl, s.hp, s.nx⟩ σ S2.sl) (hhp : RepinHp ⟨(t, .fn g xs0) :: s.sl, s.hp, s.nx⟩ σ S2.hp) (hnx : S2.nx = s.nx)
    (hptr : ∀ (i : Nat) (x : AV), xs0[i]? = some x → ∃ j id sz : Nat, σ[j]? = some id ∧ x = AV.ptr id sz 0 0 ∧ xs[i]? = some (AV.ptr (8 * j + 7) sz 0 0)) (hlen : xs.length = xs0.length)
    (hrest : ∀ C' : Ctx, C'.n = fn.ntmps → Awp P C' rest (restK o S3) S2) (hdoor : Door P g xs hpL hp4 (o.getD .nilIface))
    (hn : namesOk σ' same hpL hp4 = true) (hsame : SameIn hpL hp4 same) (hB : BlksOk hpL hpL) (hB' : BlksOk hp4 hp4) (hX : ∀ n, n ∈ AV.namess xs → Nm hpL n) (hys : xs = AV.rens (sgm σ' (8 * S3.nx)) xs) (hV : HpIn S3.ps σ' (8 * S3.nx) hpL)
    (hres : resR P ⟨S3.sl, hpUpd S3.hp (hpsOf σ' (8 * S3.nx) same hp4 hpL), S3.nx + 1⟩ fn.results.toList r) :
    DW P fn C r (.seq (.region id1 #[⟨some t, .makeFunc (.func g) #[] caps.toArray, ty1, p1, a1, none⟩, ⟨none, .defer ⟨.value (.tmp t), #[], ts⟩, ty2, p2, a2, none⟩] false) rest) s := by
  intro a w ⟨ρ, hr⟩
  have htn : t < C.n := by rw [hCn]; simpa using ht
  have hnd' : σ.Nodup := by simpa using hnd
  have hcs := evals_spec (O := Own C s.ps ρ) (ρ := ρ) (w := w) (a := a) caps xs0 (fun y _ v hv => hr.eval hv) hcap
  let vcaps : Array Value := caps.toArray.map a.eval
  have hvc : vcaps.size = xs0.length := by simp [vcaps, hcs.1]
  have hvr : ∀ i x, xs0[i]? = some x → RepA (Own C s.ps ρ) ρ w x (vcaps.getD i undef) := fun i x hx => by
    have := hcs.2 i x hx
    rw [List.getD_eq_getElem?_getD, List.getElem?_map] at this
    rw [Array.getD_eq_getD_getElem?, Array.getElem?_map]
    simpa using this
  let fv : Value := .func (.func g) #[] vcaps
  let d : Deferred := ⟨.fn (.func g) vcaps, #[]⟩
  have hput := hr.put (dst := some t) (fun d hd => by injection hd with hd; subst hd; exact htn) (x := .fn g xs0) (v := fv) (.fn g xs0 vcaps hvc hvr)
  let s1 : LS := ⟨(t, .fn g xs0) :: s.sl, s.hp, s.nx⟩
  have hs1 : s1.ps = s.ps.upd (some t) ⟨.fn g xs0, []⟩ := by
    simp only [s1, LS.ps, PS.upd, PS.setHp, PS.mk.injEq, and_true]
    funext q
    simp only [lkp, Option.some.injEq]
    by_cases e : q = t
    · subst e; simp
    · rw [if_neg e, if_neg (fun h => e h.symm)]
  rw [← hs1] at hput
  obtain ⟨ρ', hr2⟩ := hput.repin (s' := S2) σ hnd' [d] hsl hhp
  let C' : Ctx := ⟨C.w0, C.Oc, C.A, C.n, fun j => (σ[j]?).bind ρ, [d]⟩
  have hsat2 : Sat C' (fun i => nmPos i ≤ S2.nx) S2.ps ⟨(a.put (some t) fv).tmps, [d]⟩ w := ⟨ρ', hr2.widen fun i hi => by
    rcases hi with hi | hi
    · rw [hnx]; exact hi
    · simp [nmPos, hi]⟩
  refine wp_seq (wp_region_lit ?_)
  unfold wpList
  rw [if_pos (by rfl)]
  refine .inl (wp_value (v := fv) (w' := w) (by simp [execOp, Instr.makeFunc, fv, vcaps]) ?_)
  unfold wpList
  rw [if_pos (by rfl)]
  refine .inl ?_
  have hlt : t < a.tmps.size := by rw [hr.size]; exact htn
  have hev : (a.put (some t) fv).eval (.tmp t) = fv := by simp [Act.eval, Act.put, hlt]
  have hexec : (execOp (a.put (some t) fv).eval ⟨none, .defer ⟨.value (.tmp t), #[], ts⟩, ty2, p2, a2, none⟩).run P w = .ok (.defer d) w := by
    simp [execOp, resolve, hev, fv, Deferred.ofValue, d]
  unfold Oper.wp
  rw [hexec, Oper.upon_defer]
  have hdef : ({ (a.put (some t) fv) with defers := d :: (a.put (some t) fv).defers }.put none undef : Act) = ⟨(a.put (some t) fv).tmps, [d]⟩ := by
    have : (a.put (some t) fv).defers = [] := hr.defers.trans hds
    simp [Act.put, this]
    exact this
  rw [hdef]
  show rest.wp P _ _ w
  refine wp_mono (hrest C' hCn _ w hsat2) fun e a' w' ⟨s3, hk, hs3⟩ => ?_
  have fin : ∀ (u u' : FrameMode), Modes (o.getD .nilIface) u u' → u ≠ .run → settle u' = .returning → Sat C' (fun i => nmPos i ≤ S3.nx) S3.ps a' w' → Leaves P fn a'.tmps (RC C r) a'.defers u w' := by
    rintro u u' hu hrun hset ⟨ρ3, hr3⟩
    have hdf : a'.defers = [d] := hr3.defers
    rw [hdf]
    have hinv : (invoke (.fn (.func g) vcaps) #[]).run P w' = .ok (.enter g vcaps) w' := by
      unfold enters at hen
      split at hen
      · rename_i fn' hfn
        simp only [Bool.and_eq_true, Bool.not_eq_true', beq_eq_false_iff_ne, ne_eq] at hen
        obtain ⟨c, hb⟩ := Option.isSome_iff_exists.1 hen.1
        simp [invoke, callFunc, hfn, hen.2, hb]
      · cases hen
    have hargs : ∀ i x, xs[i]? = some x → RepA (Own C' S3.ps ρ3) ρ3 w' x (vcaps.getD i undef) := fun i x hx => by
      have hi : i < xs0.length := by have := (List.getElem?_eq_some_iff.1 hx).1; omega
      obtain ⟨j, id, sz, hj, he, hx'⟩ := hptr i xs0[i] (by simp [hi])
      rw [hx] at hx'; injection hx' with hx'; subst hx'
      have h0 := hvr i xs0[i] (by simp [hi])
      rw [he] at h0
      generalize vcaps.getD i undef = q at h0
      cases h0 with
      | ptr _ _ _ _ b v hv hb =>
        exact .ptr _ _ _ _ b v (hr3.pins j v (by show (σ[j]?).bind ρ = some v; rw [hj]; exact hv)) hb
    have hcall := door_calls hdoor hn hsame hB hB' hX hys hV (C := C') (U := fun i => nmPos i ≤ S3.nx) (f := 8 * S3.nx) (fun j hj => by simp only [nmPos]; split <;> omega) (fun _ _ h => h) hr3 (vs := vcaps) (by rw [hvc, hlen]) hargs hu
    refine leaves_cons hrun hinv (hcall.mono fun e u'' w'' ⟨⟨v, he⟩, hu'', hsat⟩ => ?_)
    subst he hu''
    obtain ⟨ρ4, hr4⟩ := hsat
    have hr5 : SatR C' (fun i => nmPos i ≤ S3.nx ∨ (8 * S3.nx ≤ i ∧ i < 8 * S3.nx + 7)) (⟨S3.sl, hpUpd S3.hp (hpsOf σ' (8 * S3.nx) same hp4 hpL), S3.nx + 1⟩ : LS).ps ρ4 a' w'' := by
      have e : (⟨S3.sl, hpUpd S3.hp (hpsOf σ' (8 * S3.nx) same hp4 hpL), S3.nx + 1⟩ : LS).ps = ⟨S3.ps.sl, PS.setHp S3.ps.hp (hpsOf σ' (8 * S3.nx) same hp4 hpL)⟩ := by
        simp only [LS.ps, PS.mk.injEq, true_and]; exact lkp_hpUpd _ _
      rw [e]; exact hr4
    obtain ⟨v', hv', hrep⟩ := run_results hr5 hres
    simp only [hset]
    exact ⟨v', hv', v', rfl, hrep, ⟨hr5.os, hr5.tape, hr5.output, hr5.grows, fun b hb => hr5.frame b hb (hA b)⟩⟩
  cases o with
  | none =>
    obtain ⟨he, hle⟩ := hk
    have h3 := hle C' a' w' hs3
    have hu : Modes .nilIface .returning .returning := .inl ⟨rfl, rfl, rfl⟩
    rcases he with rfl | rfl
    · exact fin _ _ hu (fun h => by cases h) rfl h3
    · exact fin _ _ hu (fun h => by cases h) rfl h3
  | some v =>
    obtain ⟨rfl, hle⟩ := hk
    exact fin (.panicking [{ v := v, recovered := false }]) (.panicking [{ v := v, recovered := true }]) (.inr ⟨rfl, rfl⟩) (fun h => by cases h) rfl (hle C' a' w' hs3)
end Go.Am
namespace Go.Am
section
variable {P : Program} {H : List Nat} {D : Ord} {n L : Nat} {dead pre : List Nat} {K : List PanicEntry → LS → Prop}
@[congr] theorem aopsN_congr {i : Nat} {os : List Oper} {s s' : LS} (h : mark s = s') : aopsN P H D n L dead pre K i os s = aopsN P H D n L dead pre K i os s' := by rw [← h, mark_eq]
end
theorem x03 : constAV .nilIface = .p (.lit .nilIface) := rfl
theorem x04 (s : ByteArray) : constAV (.string s) = .p (.lit (.string s)) := rfl
section
variable {P : Program} {H : List Nat} {D : Ord} {gd : Nat → Option Nat} {Kl : LS → Prop}
theorem x05 {i : Nat} {s : LS} (n : Nat) (o : Oper) (os : List Oper) : aops P H gd Kl i (List.take (n + 1) (o :: os)) s = aops P H gd Kl i (o :: List.take n os) s := rfl
theorem x06 {i : Nat} {s : LS} (os : List Oper) : aops P H gd Kl i (List.take 0 os) s = Kl s := rfl
theorem x07 {i : Nat} {s : LS} (n : Nat) (o : Oper) (os : List Oper) : aopsD P H D gd Kl i (List.take (n + 1) (o :: os)) s = aopsD P H D gd Kl i (o :: List.take n os) s := rfl
theorem x08 {i : Nat} {s : LS} (os : List Oper) : aopsD P H D gd Kl i (List.take 0 os) s = Kl s := rfl
end
theorem xmb : type_of% (And.intro (And.intro (And.intro @x05 @x06) (And.intro @x07 @x08)) (And.intro @x01 (And.intro @x02 (And.intro @n01 @n02)))) := And.intro (And.intro (And.intro @x05 @x06) (And.intro @x07 @x08)) (And.intro @x01 (And.intro @x02 (And.intro @n01 @n02)))
theorem xm : type_of% (And.intro @x03 @x04) := And.intro @x03 @x04
theorem retx_some {P : Program} {fn : Func} {r : AV} {hp' : List (Nat × Blk)} {ch : List PanicEntry} {s : LS} (h : LE ⟨[(0, .p (.lit undef))], s.hp, s.nx⟩ ⟨[(0, r)], hp', 1⟩) : retHX P fn (some ch) r hp' (.panic ch) s := ⟨rfl, h⟩
theorem retx_dw {v : Value} {S s : LS} (h : LE s S) : restK (some v) S (.panic [{ v := v, recovered := false }]) s := ⟨rfl, h⟩
theorem retd_dw {S s : LS} (h : LE s S) : restK none S .ret s := ⟨.inl rfl, h⟩
theorem RepinSl.cons {s : LS} {σ : List Nat} {d : Nat} {x y : AV} {r : List (Nat × AV)} (h : lkp s.sl d = some y) (hx : x = y.ren (rpin σ)) (hn : y.names.all (fun i => σ.contains i) = true) (hr : RepinSl s σ r) : RepinSl s σ ((d, x) :: r) :=
  ⟨⟨y, h, hx, fun i hi => by have := List.all_eq_true.1 hn i hi; simpa using this⟩, hr⟩
def Blk.onlyIn (σ : List Nat) : Blk → Bool
  | .row _ es => es.all fun cs => (AV.namess cs).all fun i => σ.contains i
  | _ => true
theorem RepinHp.cons {s : LS} {σ : List Nat} {id i : Nat} (j : Nat) {k k0 : Blk} {r : List (Nat × Blk)} (h1 : id = 8 * j + 7) (h2 : σ[j]? = some i) (h3 : lkp s.hp i = some k0) (h4 : k = k0.ren (rpin σ)) (hn : k0.onlyIn σ = true) (hr : RepinHp s σ r) : RepinHp s σ ((id, k) :: r) :=
  ⟨⟨j, i, k0, h1, h2, h3, h4, by
    cases k0 with
    | row sz es =>
      intro cs hcs n hn'
      have := List.all_eq_true.1 (List.all_eq_true.1 hn cs hcs) n hn'
      simpa using this
    | map => trivial
    | mapS => trivial⟩, hr⟩
theorem awp_loop1 {P : Program} {C : Ctx} {K : Exit → LS → Prop} {s : LS} {σ : Type} {c : Code} (ok : σ → Prop) (st : σ → LS) (μ : σ → Nat) (M : Nat)
    (h0 : Awp P C c (fun e s' => match e with | .normal => ∃ x', ok x' ∧ LE s' (st x') ∧ μ x' < M | e => K e s') s)
    (h : ∀ x, ok x → Awp P C c (fun e s' => match e with | .normal => ∃ x', ok x' ∧ LE s' (st x') ∧ μ x' < μ x | e => K e s') (st x)) : Awp P C (.loop c) K s := by
  refine awp_loop (σ := Option σ) (fun o => match o with | none => True | some x => ok x) (fun o => match o with | none => s | some x => st x) (fun o => match o with | none => M | some x => μ x) none trivial (fun _ _ _ h => h) (fun o ho => ?_)
  cases o with
  | none =>
    intro a w hs b k cs
    obtain ⟨e, a', w', ⟨s', hk, hs'⟩, harr⟩ := h0 a w hs b k cs
    refine ⟨e, a', w', ⟨s', ?_, hs'⟩, harr⟩
    cases e with
    | normal => obtain ⟨x', q1, q2, q3⟩ := hk; exact ⟨some x', q1, q2, q3⟩
    | exit => exact hk
    | goto => exact hk
    | ret => exact hk
    | panic => exact hk
    | outgrown => exact hk
  | some x =>
    intro a w hs b k cs
    obtain ⟨e, a', w', ⟨s', hk, hs'⟩, harr⟩ := h x ho a w hs b k cs
    refine ⟨e, a', w', ⟨s', ?_, hs'⟩, harr⟩
    cases e with
    | normal => obtain ⟨x', q1, q2, q3⟩ := hk; exact ⟨some x', q1, q2, q3⟩
    | exit => exact hk
    | goto => exact hk
    | ret => exact hk
    | panic => exact hk
    | outgrown => exact hk
theorem pcall_le {P : Program} {f : FuncId} {args args' : List PV} {r : PV} (h : PCall P f args r) (hl : LePs args' args) : PCall P f args' r := by
  intro O w vs hO hsz hr
  refine h O w vs hO (hsz.trans hl.1) fun i x hx => ?_
  have hi := (List.getElem?_eq_some_iff.1 hx).1
  obtain ⟨y, hy⟩ : ∃ y, args'[i]? = some y := ⟨args'[i]'(by have := hl.1; omega), by simp [show i < args'.length from by have := hl.1; omega]⟩
  exact hl.2 i y x hy hx O w _ (hr i y hy)
theorem LeP.seqs {c : Bool} {es es' : List (List PV)} (hl : es.length = es'.length) (h : ∀ (i : Nat) (a b : List PV), es[i]? = some a → es'[i]? = some b → LePs a b) : LeP (.seq c es) (.seq c es') := by
  intro O w v hr
  have hfl : ∀ (xs ys : List (List PV)), xs.length = ys.length → (∀ (i : Nat) (a b : List PV), xs[i]? = some a → ys[i]? = some b → LePs a b) → LePs xs.flatten ys.flatten := by
    intro xs
    induction xs with
    | nil => intro ys h1 _; cases ys with
      | nil => exact LePs.nil
      | cons => cases h1
    | cons x xs ih => intro ys h1 h2; cases ys with
      | nil => cases h1
      | cons y ys =>
        have a1 := h2 0 x y rfl rfl
        have a2 := ih ys (by simpa using h1) fun i a b ha hb => h2 (i + 1) a b (by simpa using ha) (by simpa using hb)
        refine ⟨by simp only [List.flatten_cons, List.length_append]; rw [a1.1, a2.1], fun i u w hu hw => ?_⟩
        simp only [List.flatten_cons] at hu hw
        rw [List.getElem?_append] at hu hw
        rw [a1.1] at hu
        split at hu
        · rename_i hlt; rw [if_pos hlt] at hw; exact a1.2 i u w hu hw
        · rename_i hlt; rw [if_neg hlt] at hw; exact a2.2 _ u w hu hw
  have hf := hfl es es' hl h
  cases hr with
  | nilseq _ a cap hc =>
    have : es' = [] := List.eq_nil_of_length_eq_zero (by rw [← hl]; rfl)
    subst this; exact .nilseq _ _ _ hc
  | seq _ _ sz b off cap f g1 g2 g3 g4 g5 =>
    rw [hl]
    refine .seq _ _ sz b off cap f (fun y hy => ?_) (by rw [← hl]; exact g2) (fun hc => by rw [← hl]; exact g3 hc) (fun j hj => g4 j (by rw [hf.1]; exact hj)) (fun j x hx => ?_)
    · obtain ⟨i, hi, rfl⟩ := List.getElem_of_mem hy
      have h1 : es[i]? = some (es[i]'(by omega)) := by simp [show i < es.length by omega]
      have := h i _ _ h1 (by simp [hi] : es'[i]? = some es'[i])
      rw [← this.1]; exact g1 _ (List.getElem_mem _)
    · have hj := (List.getElem?_eq_some_iff.1 hx).1
      obtain ⟨y, hy⟩ : ∃ y, es.flatten[j]? = some y := ⟨es.flatten[j]'(by rw [hf.1]; exact hj), by simp [show j < es.flatten.length by rw [hf.1]; exact hj]⟩
      exact hf.2 j y x hy hx O w _ (g5 j y hy)
end Go.Am
end
section
set_option linter.unusedSimpArgs false
set_option linter.unusedVariables false
set_option maxRecDepth 100000
namespace Go.Proofs.Ytjkkjiaeeobnkaa
open Go.Am Go.Proofs
def wrg (q : Int × Int) : List PanicEntry := [{ v := .iface 77 (.agg #[.int .i64 q.1, .int .i64 q.2]), recovered := false }]
theorem pos_at {b : List Int} (hb : ∀ x, x ∈ b → Pl.B8 x) (i : Nat) : Pl.B8 (b.getD i 0) := by
  by_cases hi : i < b.length
  · exact hb _ (Pl.getD_mem b i 0 hi)
  · rw [List.getD_eq_getElem?_getD, List.getElem?_eq_none (by omega)]; exact ⟨by decide, by decide⟩
theorem el22 : tEl Try.prog 22 = some 5 := by kernel_rfl
theorem sz5 : tSz Try.prog 5 = some (false, 1) := by kernel_rfl
theorem un5 : (Try.prog.underlying 5).isSome = true := by kernel_rfl
set_option maxHeartbeats 4000000 in
theorem c_wire_Number (c : Bool) (b : List Int) (i : Int) (hb8 : ∀ x, x ∈ b → Pl.B8 x) (hl : b.length ≤ 1000000) : PCall Try.prog 18 [(.seq c (b.map fun x => [.lit (.int .u8 x)])), iV i] (.tup [iV (if (0 ≤ i ∧ i + 2 ≤ (b.length : Int)) then Pl.num2 b i.toNat else 0), bV (decide (0 ≤ i ∧ i + 2 ≤ (b.length : Int)))]) := by
 refine pcall_of_awp Try.func18 rfl (by simp [Try.ntmps18]) fun C hC => ?_
 refine awp_le (le_keep [0, 1]) ?_
 simp only [kp, argSl, simprocAttr]
 refine awp_sr [] (by rw [hC]; rfl) fun k hk => ?_
 simp (maxSteps := 9^9) (disch := (try simp only [lens]); omega) only [argSl, sm, ↓amb, mark_eq, simprocAttr, wr_u8, dx]
 repeat refine an ?_
 refine hk _ ?_; clear hk k
 refine awp_seq fun k1 h1 => ?_
 refine awp_test [] 14 (decide (¬ (0 ≤ i ∧ i + 2 ≤ (b.length : Int)))) [0, 1, 4, 5] (by rw [hC]; rfl) (fun gd hgd k hk => ?_) ?_
 ·have g2 : gd 2 = some 8 := by rw [hgd]; rfl
  clear hgd
  simp (maxSteps := 9^9) (disch := (try simp only [lens]); omega) only [argSl, sm, ↓amb, mark_eq, simprocAttr, el22, gcase_undef, g2, wr_u8, dx]
  repeat' first | refine hk _ _ rfl rfl rfl rfl ?_ | (refine gsplit (fun hg => ?_) (fun hg => ?_) <;> (try simp only [hbx] at hg) <;> simp (maxSteps := 9^9) (disch := (try simp only [lens]); omega) only [argSl, sm, ↓amb, mark_eq, simprocAttr, el22, gcase_undef, g2, wr_u8, dx]) | apply And.intro | fail
  all_goals first | rfl | omega | exact (decide_eq_true (by omega)).symm | exact (decide_eq_false (by omega)).symm | exact decide_eq_decide.mpr (by omega) | (refine Bool.eq_iff_iff.mpr ?_; simp only [beq_iff_eq, bne_iff_ne, ne_eq, decide_eq_true_eq]; omega) | (refine Bool.eq_iff_iff.mpr ?_; simp only [Bool.not_eq_true', Bool.not_eq_false', decide_eq_false_iff_not, decide_eq_true_eq, beq_iff_eq, bne_iff_ne, ne_eq]; omega) | assumption | (simp; done) | (simp [maxLen]; omega) | skip
 simp only [kp, argSl, simprocAttr, List.length_cons, List.length_nil]
 refine awp_cond rfl (fun hb => ?_) (fun hb => ?_)
 ·try simp only [hbx] at hb
  refine awp_le (le_keep []) ?_
  simp only [kp, argSl, simprocAttr]
  refine awp_sr [] (by rw [hC]; rfl) fun k hk => ?_
  simp (maxSteps := 9^9) (disch := (try simp only [lens]); omega) only [argSl, sm, ↓amb, mark_eq, simprocAttr, wr_u8, dx]
  repeat refine an ?_
  refine hk _ ?_; clear hk k
  refine awp_ret ?_
  have hno : ¬ (0 ≤ i ∧ i + 2 ≤ (b.length : Int)) := by first | exact hb | simpa using hb
  rw [if_neg hno, decide_eq_false hno]
  refine ret2 rfl rfl rfl ?_ ?_
  ·exact .p (LeP.refl _)
  ·exact .p (LeP.refl _)
 ·try simp only [hbx] at hb
  refine awp_skip ?_
  refine h1 _ ?_; clear h1 k1
  refine awp_le (le_keep [0, 1]) ?_
  simp only [kp, argSl, simprocAttr]
  have hyes : (0 ≤ i ∧ i + 2 ≤ (b.length : Int)) := by first | exact hb | exact Decidable.not_not.1 hb
  have p1 := pos_at hb8 i.toNat
  have p2 := pos_at hb8 (i.toNat + 1)
  have hi1 : (i + 1).toNat = i.toNat + 1 := by omega
  unfold Pl.B8 at p1 p2
  refine awp_sd [] ⟨[0, 0, 3, 7, 15, 31, 0, 0, 128, 448, 960, 1984, 4095, 8191, 16383], [3, 10], [], [], some []⟩ (by rw [hC]; rfl) (by kernel_rfl) (by kernel_rfl) fun k hk => ?_
  simp (maxSteps := 9^9) (disch := (try simp only [lens]); omega) only [argSl, sm, ↓amb, mark_eq, simprocAttr, el22, sz5, it3, un5, wr_u8, dx]
  repeat refine an ?_
  refine hk _ ?_; clear hk k
  refine awp_ret ?_
  have u1 : (2 : Int) ^ min 8 IntKind.i64.bits = 256 := by decide
  rw [if_pos hyes, decide_eq_true hyes]
  refine ret2 rfl rfl rfl ?_ ?_
  ·exact .p (LeP.of_eq (by rw [u1, hi1, wrap64_of (x := b.getD i.toNat 0 * 256) (by omega) (by omega), wrap64_of (x := b.getD (i.toNat + 1) 0) (by omega) (by omega), show IntKind.i64.bits = 64 from rfl, Pl.or_num (by exact p1) (by exact p2), wrap64_of (by omega) (by omega)]; rfl))
  ·exact .p (LeP.refl _)
end Go.Proofs.Ytjkkjiaeeobnkaa
end
section
set_option linter.unusedSimpArgs false
set_option linter.unusedVariables false
set_option maxRecDepth 100000
namespace Go.Proofs.Ytjkkjiaeeobnkaa
open Go.Am Go.Proofs
theorem bt77 : tBuilt Try.prog 77 = true := by kernel_rfl
theorem en18 : enters Try.prog 18 = true := by kernel_rfl
theorem en83 : enters Try.prog 83 = true := by kernel_rfl
theorem fl81_0 : tFld Try.prog 81 0 = some (0, 1, false) := by kernel_rfl
theorem fl81_1 : tFld Try.prog 81 1 = some (1, 1, false) := by kernel_rfl
theorem pl77_0 : tPlace Try.prog 77 0 = some (0, 1) := by kernel_rfl
theorem pl77_1 : tPlace Try.prog 77 1 = some (1, 1) := by kernel_rfl
theorem sz22 : tSz Try.prog 22 = some (false, 1) := by kernel_rfl
theorem tc77 : tConc Try.prog 77 = true := by kernel_rfl
theorem vr77 : tVar Try.prog 77 = some (true, [.lit (.int .i64 0), .lit (.int .i64 0)]) := by kernel_rfl
set_option maxHeartbeats 4000000 in
theorem c_kt3 (n : Int) : PCall Try.prog 83 [iV n] (bV (decide (1 ≤ n ∧ n ≤ 3))) := by
 refine pcall_of_awp Try.func83 rfl (by simp [Try.ntmps83]) fun C hC => ?_
 refine awp_le (le_keep [0]) ?_
 simp only [kp, argSl, simprocAttr]
 refine awp_sr [] (by rw [hC]; rfl) fun k hk => ?_
 simp (maxSteps := 9^9) (disch := (try simp only [lens]); omega) only [argSl, sm, ↓amb, mark_eq, simprocAttr, dx]
 repeat refine an ?_
 refine hk _ ?_; clear hk k
 refine awp_test [] 2 (decide (1 ≤ n ∧ n ≤ 3)) [] (by rw [hC]; rfl) (fun gd hgd k hk => ?_) ?_
 ·have g2 : gd 2 = some 5 := by rw [hgd]; rfl
  clear hgd
  simp (maxSteps := 9^9) (disch := (try simp only [lens]); omega) only [argSl, sm, ↓amb, mark_eq, simprocAttr, gcase_undef, g2, dx]
  repeat' first | refine hk _ _ rfl rfl rfl rfl ?_ | (refine gsplit (fun hg => ?_) (fun hg => ?_) <;> (try simp only [hbx] at hg) <;> simp (maxSteps := 9^9) (disch := (try simp only [lens]); omega) only [argSl, sm, ↓amb, mark_eq, simprocAttr, gcase_undef, g2, dx]) | apply And.intro | fail
  all_goals first | rfl | omega | exact (decide_eq_true (by omega)).symm | exact (decide_eq_false (by omega)).symm | exact decide_eq_decide.mpr (by omega) | (refine Bool.eq_iff_iff.mpr ?_; simp only [beq_iff_eq, bne_iff_ne, ne_eq, decide_eq_true_eq]; omega) | (refine Bool.eq_iff_iff.mpr ?_; simp only [Bool.not_eq_true', Bool.not_eq_false', decide_eq_false_iff_not, decide_eq_true_eq, beq_iff_eq, bne_iff_ne, ne_eq]; omega) | assumption | (simp; done) | (simp [maxLen]; omega) | skip
 simp only [kp, argSl, simprocAttr, List.length_cons, List.length_nil]
 refine awp_ret ?_
 refine ret1 rfl rfl ?_
 exact .p (LeP.refl _)
set_option maxHeartbeats 4000000 in
theorem c_kind3 (c : Bool) (b : List Int) (at' : Nat) (hb8 : ∀ x, x ∈ b → Pl.B8 x) (hl : b.length ≤ 1000000) (ha : at' ≤ b.length) (hq : Pl.kindE 3 b at' = none) : HCall Try.prog 82 [.ptr 7 2 0 0, .fn 83 []] [(7, (.row 2 [[.p (.seq c (b.map fun x => [.lit (.int .u8 x)])), .p (iV ((at' : Nat) : Int))]]))] (.p (iV (b.getD at' 0))) [(7, (.row 2 [[.p (.seq c (b.map fun x => [.lit (.int .u8 x)])), .p (iV ((at' + 1 : Nat) : Int))]]))] := by
 obtain ⟨q1, q2, q3⟩ := Pl.kind_ok hq
 have k3 := pos_at hb8 at'
 unfold Pl.B8 at k3
 refine hcall_of_awp Try.func82 rfl (by simp [Try.ntmps82]) fun C hC => ?_
 refine awp_le (le_keep [0, 1]) ?_
 simp only [kp, argSl, simprocAttr]
 refine awp_sr [] (by rw [hC]; rfl) fun k hk => ?_
 simp (maxSteps := 9^9) (disch := (try simp only [lens]); omega) only [argSl, sm, ↓amb, mark_eq, simprocAttr, dx, en83]
 repeat refine an ?_
 refine hk _ ?_; clear hk k
 refine awp_seq fun k1 h1 => ?_
 refine awp_le (le_keep [0, 1, 4]) ?_
 simp only [kp, argSl, simprocAttr]
 refine awp_sd [] ⟨[0, 1, 3, 7, 0, 16, 48, 112, 240, 511], [3, 7, 8], [], [], some []⟩ (by rw [hC]; rfl) (by kernel_rfl) (by kernel_rfl) fun k hk => ?_
 simp (maxSteps := 9^9) (disch := (try simp only [lens]); omega) only [argSl, sm, ↓amb, mark_eq, simprocAttr, fl81_1, sz3, fl81_0, sz22, el22, dx, en83]
 repeat refine an ?_
 refine hk _ ?_; clear hk k
 refine awp_cond rfl (fun hb => ?_) (fun hb => ?_)
 ·exact absurd (beq_iff_eq.mp hb) (by omega)
 ·try simp only [hbx] at hb
  refine awp_skip ?_
  refine h1 _ ?_; clear h1 k1
  refine awp_le (le_keep [0, 1]) ?_
  simp only [kp, argSl, simprocAttr]
  refine awp_sd [] ⟨[0, 1, 3, 7, 0, 16, 48, 112, 255, 511, 1023, 2047], [3, 7, 9], [], [], some []⟩ (by rw [hC]; rfl) (by kernel_rfl) (by kernel_rfl) fun k hk => ?_
  simp (maxSteps := 9^9) (disch := (try simp only [lens]); omega) only [argSl, sm, ↓amb, mark_eq, simprocAttr, fl81_0, sz22, fl81_1, sz3, el22, sz5, it3, un5, dx, en83]
  repeat refine an ?_
  refine hk _ ?_; clear hk k
  refine awp_seq fun k2 h2 => ?_
  refine awp_le (le_keep [0, 1, 4, 5]) ?_
  simp only [kp, argSl, simprocAttr]
  refine awp_sr [] (by rw [hC]; rfl) fun k hk => ?_
  simp (maxSteps := 9^9) (disch := (try simp only [lens]); omega) only [argSl, sm, ↓amb, mark_eq, simprocAttr, dx, en83]
  repeat refine an ?_
  refine callK_p (c_kt3 _) rfl ?_
  simp (maxSteps := 9^9) (disch := (try simp only [lens]); omega) only [argSl, sm, ↓amb, mark_eq, simprocAttr, dx, en83]
  repeat refine an ?_
  refine hk _ ?_; clear hk k
  refine awp_cond rfl (fun hb => ?_) (fun hb => ?_)
  ·exact absurd hb (by rw [decide_eq_true ⟨by omega, by omega⟩]; decide)
  ·try simp only [hbx] at hb
   refine awp_skip ?_
   refine h2 _ ?_; clear h2 k2
   refine awp_le (le_keep [0, 5]) ?_
   simp only [kp, argSl, simprocAttr]
   refine awp_sr [] (by rw [hC]; rfl) fun k hk => ?_
   simp (maxSteps := 9^9) (disch := (try simp only [lens]); omega) only [argSl, sm, ↓amb, mark_eq, simprocAttr, fl81_1, sz3, dx, en83]
   repeat refine an ?_
   refine hk _ ?_; clear hk k
   refine awp_le (le_keep [5]) ?_
   simp only [kp, argSl, simprocAttr]
   refine awp_sr [] (by rw [hC]; rfl) fun k hk => ?_
   simp (maxSteps := 9^9) (disch := (try simp only [lens]); omega) only [argSl, sm, ↓amb, mark_eq, simprocAttr, dx, en83]
   repeat refine an ?_
   refine hk _ ?_; clear hk k
   refine awp_ret ?_
   refine reth1 rfl rfl ?_
   exact le_of [] (by rfl) (by rfl) ⟨⟨_, rfl, .p (.refl _)⟩, trivial⟩ ⟨⟨_, rfl, _, rfl, .one (.cons (.p (.refl _)) (.cons (.p (.refl _)) (.nil)))⟩, trivial⟩
set_option maxHeartbeats 4000000 in
theorem c_kind3x (c : Bool) (b : List Int) (at' : Nat) (hb8 : ∀ x, x ∈ b → Pl.B8 x) (hl : b.length ≤ 1000000) (ha : at' ≤ b.length) (e : Int × Int) (hq : Pl.kindE 3 b at' = some e) : HXCall Try.prog 82 [.ptr 7 2 0 0, .fn 83 []] [(7, (.row 2 [[.p (.seq c (b.map fun x => [.lit (.int .u8 x)])), .p (iV ((at' : Nat) : Int))]]))] (some (wrg e)) (.p (.lit undef)) [] := by
 have q := Pl.kind_no hq
 have k3 := pos_at hb8 at'
 unfold Pl.B8 at k3
 refine hxcall_of_awp Try.func82 rfl (by simp [Try.ntmps82]) fun C hC => ?_
 refine awp_le (le_keep [0, 1]) ?_
 simp only [kp, argSl, simprocAttr]
 refine awp_sr [] (by rw [hC]; rfl) fun k hk => ?_
 simp (maxSteps := 9^9) (disch := (try simp only [lens]); omega) only [argSl, sm, ↓amb, mark_eq, simprocAttr, dx, en83]
 repeat refine an ?_
 refine hk _ ?_; clear hk k
 refine awp_seq fun k1 h1 => ?_
 refine awp_le (le_keep [0, 1, 4]) ?_
 simp only [kp, argSl, simprocAttr]
 refine awp_sd [] ⟨[0, 1, 3, 7, 0, 16, 48, 112, 240, 511], [3, 7, 8], [], [], some []⟩ (by rw [hC]; rfl) (by kernel_rfl) (by kernel_rfl) fun k hk => ?_
 simp (maxSteps := 9^9) (disch := (try simp only [lens]); omega) only [argSl, sm, ↓amb, mark_eq, simprocAttr, fl81_1, sz3, fl81_0, sz22, el22, dx, en83]
 repeat refine an ?_
 refine hk _ ?_; clear hk k
 refine awp_cond rfl (fun hb => ?_) (fun hb => ?_)
 ·try simp only [hbx] at hb
  refine awp_rx [] 6 (by rw [hC]; rfl) rfl rfl fun k hk => ?_
  simp (maxSteps := 9^9) (disch := (try simp only [lens]); omega) only [argSl, sm, ↓amb, mark_eq, simprocAttr, fl81_1, sz3, vr77, bt77, pl77_0, pl77_1, tc77, ↓xmb, xm, dx, en83]
  repeat refine an ?_
  refine hk _ _ ?_
  clear hk k
  have he : e = ((at' : Int), 7) := (q.resolve_right (by omega)).2
  subst he
  exact retx_some (hp' := []) (le_of [] (by rfl) (by rfl) ⟨⟨_, rfl, .p (.refl _)⟩, trivial⟩ trivial)
 ·try simp only [hbx] at hb
  refine awp_skip ?_
  refine h1 _ ?_; clear h1 k1
  refine awp_le (le_keep [0, 1]) ?_
  simp only [kp, argSl, simprocAttr]
  refine awp_sd [] ⟨[0, 1, 3, 7, 0, 16, 48, 112, 255, 511, 1023, 2047], [3, 7, 9], [], [], some []⟩ (by rw [hC]; rfl) (by kernel_rfl) (by kernel_rfl) fun k hk => ?_
  simp (maxSteps := 9^9) (disch := (try simp only [lens]); omega) only [argSl, sm, ↓amb, mark_eq, simprocAttr, fl81_0, sz22, fl81_1, sz3, el22, sz5, it3, un5, dx, en83]
  repeat refine an ?_
  refine hk _ ?_; clear hk k
  refine awp_seq fun k2 h2 => ?_
  refine awp_le (le_keep [0, 1, 4, 5]) ?_
  simp only [kp, argSl, simprocAttr]
  refine awp_sr [] (by rw [hC]; rfl) fun k hk => ?_
  simp (maxSteps := 9^9) (disch := (try simp only [lens]); omega) only [argSl, sm, ↓amb, mark_eq, simprocAttr, dx, en83]
  repeat refine an ?_
  refine callK_p (c_kt3 _) rfl ?_
  simp (maxSteps := 9^9) (disch := (try simp only [lens]); omega) only [argSl, sm, ↓amb, mark_eq, simprocAttr, dx, en83]
  repeat refine an ?_
  refine hk _ ?_; clear hk k
  refine awp_cond rfl (fun hb => ?_) (fun hb => ?_)
  ·try simp only [hbx] at hb
   refine awp_rx [] 6 (by rw [hC]; rfl) rfl rfl fun k hk => ?_
   simp (maxSteps := 9^9) (disch := (try simp only [lens]); omega) only [argSl, sm, ↓amb, mark_eq, simprocAttr, fl81_1, sz3, vr77, bt77, pl77_0, pl77_1, tc77, ↓xmb, xm, dx, en83]
   repeat refine an ?_
   refine hk _ _ ?_
   clear hk k
   have he : e = ((at' : Int), 8) := (q.resolve_left (by omega)).2.2
   subst he
   exact retx_some (hp' := []) (le_of [] (by rfl) (by rfl) ⟨⟨_, rfl, .p (.refl _)⟩, trivial⟩ trivial)
  ·exact absurd hb (by rw [decide_eq_false (by omega)]; decide)
set_option maxHeartbeats 4000000 in
theorem c_kind4 (c : Bool) (b : List Int) (at' : Nat) (hb8 : ∀ x, x ∈ b → Pl.B8 x) (hl : b.length ≤ 1000000) (ha : at' ≤ b.length) (hq : Pl.kindE 4 b at' = none) : HCall Try.prog 82 [.ptr 7 2 0 0, .fn 58 []] [(7, (.row 2 [[.p (.seq c (b.map fun x => [.lit (.int .u8 x)])), .p (iV ((at' : Nat) : Int))]]))] (.p (iV (b.getD at' 0))) [(7, (.row 2 [[.p (.seq c (b.map fun x => [.lit (.int .u8 x)])), .p (iV ((at' + 1 : Nat) : Int))]]))] := by
 obtain ⟨q1, q2, q3⟩ := Pl.kind_ok hq
 have k3 := pos_at hb8 at'
 unfold Pl.B8 at k3
 refine hcall_of_awp Try.func82 rfl (by simp [Try.ntmps82]) fun C hC => ?_
 refine awp_le (le_keep [0, 1]) ?_
 simp only [kp, argSl, simprocAttr]
 refine awp_sr [] (by rw [hC]; rfl) fun k hk => ?_
 simp (maxSteps := 9^9) (disch := (try simp only [lens]); omega) only [argSl, sm, ↓amb, mark_eq, simprocAttr, dx, en58]
 repeat refine an ?_
 refine hk _ ?_; clear hk k
 refine awp_seq fun k1 h1 => ?_
 refine awp_le (le_keep [0, 1, 4]) ?_
 simp only [kp, argSl, simprocAttr]
 refine awp_sd [] ⟨[0, 1, 3, 7, 0, 16, 48, 112, 240, 511], [3, 7, 8], [], [], some []⟩ (by rw [hC]; rfl) (by kernel_rfl) (by kernel_rfl) fun k hk => ?_
 simp (maxSteps := 9^9) (disch := (try simp only [lens]); omega) only [argSl, sm, ↓amb, mark_eq, simprocAttr, fl81_1, sz3, fl81_0, sz22, el22, dx, en58]
 repeat refine an ?_
 refine hk _ ?_; clear hk k
 refine awp_cond rfl (fun hb => ?_) (fun hb => ?_)
 ·exact absurd (beq_iff_eq.mp hb) (by omega)
 ·try simp only [hbx] at hb
  refine awp_skip ?_
  refine h1 _ ?_; clear h1 k1
  refine awp_le (le_keep [0, 1]) ?_
  simp only [kp, argSl, simprocAttr]
  refine awp_sd [] ⟨[0, 1, 3, 7, 0, 16, 48, 112, 255, 511, 1023, 2047], [3, 7, 9], [], [], some []⟩ (by rw [hC]; rfl) (by kernel_rfl) (by kernel_rfl) fun k hk => ?_
  simp (maxSteps := 9^9) (disch := (try simp only [lens]); omega) only [argSl, sm, ↓amb, mark_eq, simprocAttr, fl81_0, sz22, fl81_1, sz3, el22, sz5, it3, un5, dx, en58]
  repeat refine an ?_
  refine hk _ ?_; clear hk k
  refine awp_seq fun k2 h2 => ?_
  refine awp_le (le_keep [0, 1, 4, 5]) ?_
  simp only [kp, argSl, simprocAttr]
  refine awp_sr [] (by rw [hC]; rfl) fun k hk => ?_
  simp (maxSteps := 9^9) (disch := (try simp only [lens]); omega) only [argSl, sm, ↓amb, mark_eq, simprocAttr, dx, en58]
  repeat refine an ?_
  refine callK_p (c_wire_known _) rfl ?_
  simp (maxSteps := 9^9) (disch := (try simp only [lens]); omega) only [argSl, sm, ↓amb, mark_eq, simprocAttr, dx, en58]
  repeat refine an ?_
  refine hk _ ?_; clear hk k
  refine awp_cond rfl (fun hb => ?_) (fun hb => ?_)
  ·exact absurd hb (by rw [decide_eq_true ⟨by omega, by omega⟩]; decide)
  ·try simp only [hbx] at hb
   refine awp_skip ?_
   refine h2 _ ?_; clear h2 k2
   refine awp_le (le_keep [0, 5]) ?_
   simp only [kp, argSl, simprocAttr]
   refine awp_sr [] (by rw [hC]; rfl) fun k hk => ?_
   simp (maxSteps := 9^9) (disch := (try simp only [lens]); omega) only [argSl, sm, ↓amb, mark_eq, simprocAttr, fl81_1, sz3, dx, en58]
   repeat refine an ?_
   refine hk _ ?_; clear hk k
   refine awp_le (le_keep [5]) ?_
   simp only [kp, argSl, simprocAttr]
   refine awp_sr [] (by rw [hC]; rfl) fun k hk => ?_
   simp (maxSteps := 9^9) (disch := (try simp only [lens]); omega) only [argSl, sm, ↓amb, mark_eq, simprocAttr, dx, en58]
   repeat refine an ?_
   refine hk _ ?_; clear hk k
   refine awp_ret ?_
   refine reth1 rfl rfl ?_
   exact le_of [] (by rfl) (by rfl) ⟨⟨_, rfl, .p (.refl _)⟩, trivial⟩ ⟨⟨_, rfl, _, rfl, .one (.cons (.p (.refl _)) (.cons (.p (.refl _)) (.nil)))⟩, trivial⟩
set_option maxHeartbeats 4000000 in
theorem c_kind4x (c : Bool) (b : List Int) (at' : Nat) (hb8 : ∀ x, x ∈ b → Pl.B8 x) (hl : b.length ≤ 1000000) (ha : at' ≤ b.length) (e : Int × Int) (hq : Pl.kindE 4 b at' = some e) : HXCall Try.prog 82 [.ptr 7 2 0 0, .fn 58 []] [(7, (.row 2 [[.p (.seq c (b.map fun x => [.lit (.int .u8 x)])), .p (iV ((at' : Nat) : Int))]]))] (some (wrg e)) (.p (.lit undef)) [] := by
 have q := Pl.kind_no hq
 have k3 := pos_at hb8 at'
 unfold Pl.B8 at k3
 refine hxcall_of_awp Try.func82 rfl (by simp [Try.ntmps82]) fun C hC => ?_
 refine awp_le (le_keep [0, 1]) ?_
 simp only [kp, argSl, simprocAttr]
 refine awp_sr [] (by rw [hC]; rfl) fun k hk => ?_
 simp (maxSteps := 9^9) (disch := (try simp only [lens]); omega) only [argSl, sm, ↓amb, mark_eq, simprocAttr, dx, en58]
 repeat refine an ?_
 refine hk _ ?_; clear hk k
 refine awp_seq fun k1 h1 => ?_
 refine awp_le (le_keep [0, 1, 4]) ?_
 simp only [kp, argSl, simprocAttr]
 refine awp_sd [] ⟨[0, 1, 3, 7, 0, 16, 48, 112, 240, 511], [3, 7, 8], [], [], some []⟩ (by rw [hC]; rfl) (by kernel_rfl) (by kernel_rfl) fun k hk => ?_
 simp (maxSteps := 9^9) (disch := (try simp only [lens]); omega) only [argSl, sm, ↓amb, mark_eq, simprocAttr, fl81_1, sz3, fl81_0, sz22, el22, dx, en58]
 repeat refine an ?_
 refine hk _ ?_; clear hk k
 refine awp_cond rfl (fun hb => ?_) (fun hb => ?_)
 ·try simp only [hbx] at hb
  refine awp_rx [] 6 (by rw [hC]; rfl) rfl rfl fun k hk => ?_
  simp (maxSteps := 9^9) (disch := (try simp only [lens]); omega) only [argSl, sm, ↓amb, mark_eq, simprocAttr, fl81_1, sz3, vr77, bt77, pl77_0, pl77_1, tc77, ↓xmb, xm, dx, en58]
  repeat refine an ?_
  refine hk _ _ ?_
  clear hk k
  have he : e = ((at' : Int), 7) := (q.resolve_right (by omega)).2
  subst he
  exact retx_some (hp' := []) (le_of [] (by rfl) (by rfl) ⟨⟨_, rfl, .p (.refl _)⟩, trivial⟩ trivial)
 ·try simp only [hbx] at hb
  refine awp_skip ?_
  refine h1 _ ?_; clear h1 k1
  refine awp_le (le_keep [0, 1]) ?_
  simp only [kp, argSl, simprocAttr]
  refine awp_sd [] ⟨[0, 1, 3, 7, 0, 16, 48, 112, 255, 511, 1023, 2047], [3, 7, 9], [], [], some []⟩ (by rw [hC]; rfl) (by kernel_rfl) (by kernel_rfl) fun k hk => ?_
  simp (maxSteps := 9^9) (disch := (try simp only [lens]); omega) only [argSl, sm, ↓amb, mark_eq, simprocAttr, fl81_0, sz22, fl81_1, sz3, el22, sz5, it3, un5, dx, en58]
  repeat refine an ?_
  refine hk _ ?_; clear hk k
  refine awp_seq fun k2 h2 => ?_
  refine awp_le (le_keep [0, 1, 4, 5]) ?_
  simp only [kp, argSl, simprocAttr]
  refine awp_sr [] (by rw [hC]; rfl) fun k hk => ?_
  simp (maxSteps := 9^9) (disch := (try simp only [lens]); omega) only [argSl, sm, ↓amb, mark_eq, simprocAttr, dx, en58]
  repeat refine an ?_
  refine callK_p (c_wire_known _) rfl ?_
  simp (maxSteps := 9^9) (disch := (try simp only [lens]); omega) only [argSl, sm, ↓amb, mark_eq, simprocAttr, dx, en58]
  repeat refine an ?_
  refine hk _ ?_; clear hk k
  refine awp_cond rfl (fun hb => ?_) (fun hb => ?_)
  ·try simp only [hbx] at hb
   refine awp_rx [] 6 (by rw [hC]; rfl) rfl rfl fun k hk => ?_
   simp (maxSteps := 9^9) (disch := (try simp only [lens]); omega) only [argSl, sm, ↓amb, mark_eq, simprocAttr, fl81_1, sz3, vr77, bt77, pl77_0, pl77_1, tc77, ↓xmb, xm, dx, en58]
   repeat refine an ?_
   refine hk _ _ ?_
   clear hk k
   have he : e = ((at' : Int), 8) := (q.resolve_left (by omega)).2.2
   subst he
   exact retx_some (hp' := []) (le_of [] (by rfl) (by rfl) ⟨⟨_, rfl, .p (.refl _)⟩, trivial⟩ trivial)
  ·exact absurd hb (by rw [decide_eq_false (by omega)]; decide)
set_option maxHeartbeats 4000000 in
theorem c_rnum (c : Bool) (b : List Int) (at' : Nat) (hb8 : ∀ x, x ∈ b → Pl.B8 x) (hl : b.length ≤ 1000000) (ha : at' ≤ b.length) (hq : Pl.numE b at' = none) : HCall Try.prog 84 [.ptr 7 2 0 0] [(7, (.row 2 [[.p (.seq c (b.map fun x => [.lit (.int .u8 x)])), .p (iV ((at' : Nat) : Int))]]))] (.p (iV (Pl.num2 b at'))) [(7, (.row 2 [[.p (.seq c (b.map fun x => [.lit (.int .u8 x)])), .p (iV ((at' + 2 : Nat) : Int))]]))] := by
 have k1 := Pl.num2_b hb8 at'
 have q := Pl.num_ok hq
 have f1 := c_wire_Number c b at' hb8 hl
 rw [if_pos (show 0 ≤ (at' : Int) ∧ (at' : Int) + 2 ≤ (b.length : Int) by omega), decide_eq_true (show 0 ≤ (at' : Int) ∧ (at' : Int) + 2 ≤ (b.length : Int) by omega), Int.toNat_natCast] at f1
 refine hcall_of_awp Try.func84 rfl (by simp [Try.ntmps84]) fun C hC => ?_
 refine awp_le (le_keep [0]) ?_
 simp only [kp, argSl, simprocAttr]
 refine awp_sr [] (by rw [hC]; rfl) fun k hk => ?_
 simp (maxSteps := 9^9) (disch := (try simp only [lens]); omega) only [argSl, sm, ↓amb, mark_eq, simprocAttr, dx]
 repeat refine an ?_
 refine hk _ ?_; clear hk k
 refine awp_le (le_keep [0]) ?_
 simp only [kp, argSl, simprocAttr]
 refine awp_sd [] ⟨[0, 1, 3, 7, 0, 16, 48, 112, 255, 511, 1023, 1023, 2047, 8191], [3, 7], [], [], some []⟩ (by rw [hC]; rfl) (by kernel_rfl) (by kernel_rfl) fun k hk => ?_
 simp (maxSteps := 9^9) (disch := (try simp only [lens]); omega) only [argSl, sm, ↓amb, mark_eq, simprocAttr, fl81_0, sz22, fl81_1, sz3, en18, dx]
 repeat refine an ?_
 refine callK_p (f1) rfl ?_
 simp (maxSteps := 9^9) (disch := (try simp only [lens]); omega) only [argSl, sm, ↓amb, mark_eq, simprocAttr, fl81_0, sz22, fl81_1, sz3, en18, dx]
 repeat refine an ?_
 refine hk _ ?_; clear hk k
 refine awp_seq fun k1 h1 => ?_
 refine awp_le (le_keep [0, 2, 3, 4]) ?_
 simp only [kp, argSl, simprocAttr]
 refine awp_sr [] (by rw [hC]; rfl) fun k hk => ?_
 simp (maxSteps := 9^9) (disch := (try simp only [lens]); omega) only [argSl, sm, ↓amb, mark_eq, simprocAttr, dx]
 repeat refine an ?_
 refine hk _ ?_; clear hk k
 refine awp_cond rfl (fun hb => ?_) (fun hb => ?_)
 ·exact absurd hb (by simp)
 ·try simp only [hbx] at hb
  refine awp_skip ?_
  refine h1 _ ?_; clear h1 k1
  refine awp_le (le_keep [0, 3]) ?_
  simp only [kp, argSl, simprocAttr]
  refine awp_sr [] (by rw [hC]; rfl) fun k hk => ?_
  simp (maxSteps := 9^9) (disch := (try simp only [lens]); omega) only [argSl, sm, ↓amb, mark_eq, simprocAttr, fl81_1, sz3, dx]
  repeat refine an ?_
  refine hk _ ?_; clear hk k
  refine awp_le (le_keep [3]) ?_
  simp only [kp, argSl, simprocAttr]
  refine awp_sr [] (by rw [hC]; rfl) fun k hk => ?_
  simp (maxSteps := 9^9) (disch := (try simp only [lens]); omega) only [argSl, sm, ↓amb, mark_eq, simprocAttr, dx]
  repeat refine an ?_
  refine hk _ ?_; clear hk k
  refine awp_ret ?_
  refine reth1 rfl rfl ?_
  exact le_of [] (by rfl) (by rfl) ⟨⟨_, rfl, .p (.refl _)⟩, trivial⟩ ⟨⟨_, rfl, _, rfl, .one (.cons (.p (.refl _)) (.cons (.p (.refl _)) (.nil)))⟩, trivial⟩
set_option maxHeartbeats 4000000 in
theorem c_rnumx (c : Bool) (b : List Int) (at' : Nat) (hb8 : ∀ x, x ∈ b → Pl.B8 x) (hl : b.length ≤ 1000000) (ha : at' ≤ b.length) (e : Int × Int) (hq : Pl.numE b at' = some e) : HXCall Try.prog 84 [.ptr 7 2 0 0] [(7, (.row 2 [[.p (.seq c (b.map fun x => [.lit (.int .u8 x)])), .p (iV ((at' : Nat) : Int))]]))] (some (wrg e)) (.p (.lit undef)) [] := by
 have k1 := Pl.num2_b hb8 at'
 obtain ⟨q, he⟩ := Pl.num_no hq
 have f1 := c_wire_Number c b at' hb8 hl
 rw [if_neg (show ¬ (0 ≤ (at' : Int) ∧ (at' : Int) + 2 ≤ (b.length : Int)) by omega), decide_eq_false (show ¬ (0 ≤ (at' : Int) ∧ (at' : Int) + 2 ≤ (b.length : Int)) by omega)] at f1
 refine hxcall_of_awp Try.func84 rfl (by simp [Try.ntmps84]) fun C hC => ?_
 refine awp_le (le_keep [0]) ?_
 simp only [kp, argSl, simprocAttr]
 refine awp_sr [] (by rw [hC]; rfl) fun k hk => ?_
 simp (maxSteps := 9^9) (disch := (try simp only [lens]); omega) only [argSl, sm, ↓amb, mark_eq, simprocAttr, dx]
 repeat refine an ?_
 refine hk _ ?_; clear hk k
 refine awp_le (le_keep [0]) ?_
 simp only [kp, argSl, simprocAttr]
 refine awp_sd [] ⟨[0, 1, 3, 7, 0, 16, 48, 112, 255, 511, 1023, 1023, 2047, 8191], [3, 7], [], [], some []⟩ (by rw [hC]; rfl) (by kernel_rfl) (by kernel_rfl) fun k hk => ?_
 simp (maxSteps := 9^9) (disch := (try simp only [lens]); omega) only [argSl, sm, ↓amb, mark_eq, simprocAttr, fl81_0, sz22, fl81_1, sz3, en18, dx]
 repeat refine an ?_
 refine callK_p (f1) rfl ?_
 simp (maxSteps := 9^9) (disch := (try simp only [lens]); omega) only [argSl, sm, ↓amb, mark_eq, simprocAttr, fl81_0, sz22, fl81_1, sz3, en18, dx]
 repeat refine an ?_
 refine hk _ ?_; clear hk k
 refine awp_seq fun k1 h1 => ?_
 refine awp_le (le_keep [0, 2, 3, 4]) ?_
 simp only [kp, argSl, simprocAttr]
 refine awp_sr [] (by rw [hC]; rfl) fun k hk => ?_
 simp (maxSteps := 9^9) (disch := (try simp only [lens]); omega) only [argSl, sm, ↓amb, mark_eq, simprocAttr, dx]
 repeat refine an ?_
 refine hk _ ?_; clear hk k
 refine awp_cond rfl (fun hb => ?_) (fun hb => ?_)
 ·try simp only [hbx] at hb
  refine awp_rx [] 7 (by rw [hC]; rfl) rfl rfl fun k hk => ?_
  simp (maxSteps := 9^9) (disch := (try simp only [lens]); omega) only [argSl, sm, ↓amb, mark_eq, simprocAttr, fl81_0, sz22, el22, vr77, bt77, pl77_0, pl77_1, tc77, ↓xmb, xm, dx]
  repeat refine an ?_
  refine hk _ _ ?_
  clear hk k
  subst he
  exact retx_some (hp' := []) (le_of [] (by rfl) (by rfl) ⟨⟨_, rfl, .p (.refl _)⟩, trivial⟩ trivial)
 ·exact absurd hb (by simp)
end Go.Proofs.Ytjkkjiaeeobnkaa
end
