/-
  ScanJoins, part 6 of 6: what the proof that the law holds at whatever arguments stands on; the last part holds the theorem. No condition.
-/
import Derived.Test.YthelnccjcbnjfaaScanJoinsZ5
import Derived.Test.YthelnccjcbnjfaaRows
section
set_option linter.unusedSimpArgs false
set_option linter.unusedVariables false
set_option maxRecDepth 100000
namespace Go.Proofs.Ythelnccjcbnjfaa
open Go.Am Go.Proofs
set_option maxHeartbeats 4000000 in
theorem c23 (c d : Bool) (a b : List Int) (ha : a.length ≤ 1000000) : PCall Try.prog 23 [ints c a, ints d b] (bV (decide (a = b))) := by
 refine pcall_of_awp Try.func23 rfl (by simp [Try.ntmps23]) fun C hC => ?_
 refine awp_sr [] (by rw [hC]; rfl) fun k hk => ?_
 simp (maxSteps := 9^9) (disch := (try simp only [lens]); omega) only [argSl, sm, ↓amb, mark_eq, simprocAttr, dx]
 repeat refine ⟨by first | omega | (simp; done) | (unfold maxLen; omega) | (simp [maxLen]; omega) | assumption, ?_⟩
 refine hk _ ?_; clear hk k
 refine awp_seq fun k1 h1 => ?_
 refine awp_sr [] (by rw [hC]; rfl) fun k hk => ?_
 simp (maxSteps := 9^9) (disch := (try simp only [lens]); omega) only [argSl, sm, ↓amb, mark_eq, simprocAttr, el32, dx]
 repeat refine ⟨by first | omega | (simp; done) | (unfold maxLen; omega) | (simp [maxLen]; omega) | assumption, ?_⟩
 refine hk _ ?_; clear hk k
 refine awp_cond rfl (fun hb => ?_) (fun hb => ?_)
 ·try simp only [hbx] at hb
  refine awp_sr [] (by rw [hC]; rfl) fun k hk => ?_
  simp (maxSteps := 9^9) (disch := (try simp only [lens]); omega) only [argSl, sm, ↓amb, mark_eq, simprocAttr, dx]
  repeat refine ⟨by first | omega | (simp; done) | (unfold maxLen; omega) | (simp [maxLen]; omega) | assumption, ?_⟩
  refine hk _ ?_; clear hk k
  refine awp_ret ?_
  refine ret1 rfl rfl ?_
  exact .p (LeP.of_eq (by rw [decide_eq_false (fun e => hb (by rw [e]))]))
 ·try simp only [hbx] at hb
  refine awp_skip ?_
  refine h1 _ ?_; clear h1 k1
  refine awp_seq fun k2 h2 => ?_
  refine awp_sr [] (by rw [hC]; rfl) fun k hk => ?_
  simp (maxSteps := 9^9) (disch := (try simp only [lens]); omega) only [argSl, sm, ↓amb, mark_eq, simprocAttr, dx]
  repeat refine ⟨by first | omega | (simp; done) | (unfold maxLen; omega) | (simp [maxLen]; omega) | assumption, ?_⟩
  refine hk _ ?_; clear hk k
  refine awp_block ?_
  refine awp_loop (σ := Nat) (fun i => i ≤ a.length ∧ a.take i = b.take i) (fun (i : Nat) => ⟨[(0, (.p (ints c a))), (1, (.p (ints d b))), (5, (.p (iV i)))], [], 1⟩) (fun i => a.length - i) 0 ?_ ?_ fun x hx => ?_
  ·exact ⟨Nat.zero_le _, rfl⟩
  ·exact le_of [] (by rfl) (by rfl) ⟨⟨_, rfl, .p (.of_eq (by first | rfl | (simp only [PV.lit.injEq, Value.int.injEq, true_and]; omega) | (simp; done) | (simp; omega)))⟩, ⟨_, rfl, .p (.of_eq (by first | rfl | (simp only [PV.lit.injEq, Value.int.injEq, true_and]; omega) | (simp; done) | (simp; omega)))⟩, ⟨_, rfl, .p (.of_eq (by first | rfl | (simp only [PV.lit.injEq, Value.int.injEq, true_and]; omega) | (simp; done) | (simp; omega)))⟩, trivial⟩ trivial
  obtain ⟨hx1, hx2⟩ := hx
  refine awp_seq fun k4 h4 => ?_
  refine awp_sr [] (by rw [hC]; rfl) fun k hk => ?_
  simp (maxSteps := 9^9) (disch := (try simp only [lens]); omega) only [argSl, sm, ↓amb, mark_eq, simprocAttr, el32, dx]
  repeat refine ⟨by first | omega | (simp; done) | (unfold maxLen; omega) | (simp [maxLen]; omega) | assumption, ?_⟩
  refine hk _ ?_; clear hk k
  refine awp_cond rfl (fun hb => ?_) (fun hb => ?_)
  ·try simp only [hbx] at hb
   refine awp_skip ?_
   refine h4 _ ?_; clear h4 k4
   refine awp_seq fun k5 h5 => ?_
   refine awp_block ?_
   refine awp_sd [] ⟨[0, 0, 3, 7, 0, 0, 48, 112, 255], [3, 7], [], [], some []⟩ (by rw [hC]; rfl) (by kernel_rfl) (by kernel_rfl) fun k hk => ?_
   simp (maxSteps := 9^9) (disch := (try simp only [lens]); omega) only [argSl, sm, ↓amb, mark_eq, simprocAttr, el32, sz3, dx]
   repeat refine ⟨by first | omega | (simp; done) | (unfold maxLen; omega) | (simp [maxLen]; omega) | assumption, ?_⟩
   refine hk _ ?_; clear hk k
   refine awp_cond rfl (fun hb => ?_) (fun hb => ?_)
   ·try simp only [hbx] at hb
    refine awp_sr [] (by rw [hC]; rfl) fun k hk => ?_
    simp (maxSteps := 9^9) (disch := (try simp only [lens]); omega) only [argSl, sm, ↓amb, mark_eq, simprocAttr, dx]
    repeat refine ⟨by first | omega | (simp; done) | (unfold maxLen; omega) | (simp [maxLen]; omega) | assumption, ?_⟩
    refine hk _ ?_; clear hk k
    refine awp_ret ?_
    refine ret1 rfl rfl ?_
    exact .p (LeP.of_eq (by rw [decide_eq_false (fun e => hb (by rw [e]))]))
   ·try simp only [hbx] at hb
    refine awp_skip ?_
    refine h5 _ ?_; clear h5 k5
    refine awp_region [] (by rw [hC]; rfl) fun k hk => ?_
    simp (maxSteps := 9^9) (disch := (try simp only [lens]); omega) only [argSl, sm, ↓amb, mark_eq, simprocAttr, dx]
    repeat refine ⟨by first | omega | (simp; done) | (unfold maxLen; omega) | (simp [maxLen]; omega) | assumption, ?_⟩
    refine hk _ ?_; clear hk k
    refine ⟨x + 1, ⟨by omega, take_next hx2 (by omega) (by omega) hb⟩, le_of [] (by rfl) (by rfl) ⟨⟨_, rfl, .p (.of_eq (by first | rfl | (simp only [PV.lit.injEq, Value.int.injEq, true_and]; omega) | (simp; done) | (simp; omega)))⟩, ⟨_, rfl, .p (.of_eq (by first | rfl | (simp only [PV.lit.injEq, Value.int.injEq, true_and]; omega) | (simp; done) | (simp; omega)))⟩, ⟨_, rfl, .p (.of_eq (by first | rfl | (simp only [PV.lit.injEq, Value.int.injEq, true_and]; omega) | (simp; done) | (simp; omega)))⟩, trivial⟩ trivial, by omega⟩
  ·try simp only [hbx] at hb
   refine awp_exit ((if_pos rfl).mpr ?_)
   refine h2 _ ?_; clear h4 k4; clear h2 k2
   refine awp_sr [] (by rw [hC]; rfl) fun k hk => ?_
   simp (maxSteps := 9^9) (disch := (try simp only [lens]); omega) only [argSl, sm, ↓amb, mark_eq, simprocAttr, dx]
   repeat refine ⟨by first | omega | (simp; done) | (unfold maxLen; omega) | (simp [maxLen]; omega) | assumption, ?_⟩
   refine hk _ ?_; clear hk k
   refine awp_ret ?_
   refine ret1 rfl rfl ?_
   exact .p (LeP.of_eq (by rw [decide_eq_true (by rwa [List.take_of_length_le (by omega), List.take_of_length_le (by omega)] at hx2)]))
end Go.Proofs.Ythelnccjcbnjfaa
end
section
set_option linter.unusedSimpArgs false
set_option linter.unusedVariables false
set_option maxRecDepth 100000
namespace Go.Proofs.Ythelnccjcbnjfaa
open Go.Am Go.Proofs
theorem bt26 : tBuilt Try.prog 26 = true := by kernel_rfl
theorem en22 : enters Try.prog 22 = true := by kernel_rfl
theorem en31 : enters Try.prog 31 = true := by kernel_rfl
theorem en33 : enters Try.prog 33 = true := by kernel_rfl
theorem en35 : enters Try.prog 35 = true := by kernel_rfl
theorem en37 : enters Try.prog 37 = true := by kernel_rfl
theorem pl26_0 : tPlace Try.prog 26 0 = some (0, 1) := by kernel_rfl
theorem pl26_1 : tPlace Try.prog 26 1 = some (1, 1) := by kernel_rfl
theorem vr26 : tVar Try.prog 26 = some (true, [.lit (.int .i64 0), .lit (.int .i64 0), .seq true []]) := by kernel_rfl
set_option maxHeartbeats 4000000 in
theorem c_law08_alive : PCall Try.prog 30 [] (bV true) := by
 refine pcall_of_awp Try.func30 rfl (by simp [Try.ntmps30]) fun C hC => ?_
 refine awp_le (le_keep []) ?_
 simp only [kp, argSl, simprocAttr]
 have a1 := c_scan_Sums true true ([3, 1, 2, 4294967295] : List Int) 2 (⟨1, 1, []⟩ : Pl.Plan) (by decide)
 rw [show Pl.scL Pl.add32 ([3, 1, 2, 4294967295] : List Int) 2 (⟨1, 1, []⟩ : Pl.Plan) = ([0, 3, 4, 6] : List Int) from by decide +kernel] at a1
 rw [show Pl.scT Pl.add32 ([3, 1, 2, 4294967295] : List Int) 2 (⟨1, 1, []⟩ : Pl.Plan) = 5 from by decide +kernel] at a1
 rw [show Pl.scS ([3, 1, 2, 4294967295] : List Int).length 2 (⟨1, 1, []⟩ : Pl.Plan) = 6 from by decide +kernel] at a1
 rw [show Pl.scE ([3, 1, 2, 4294967295] : List Int).length 2 (⟨1, 1, []⟩ : Pl.Plan) = 0 from by decide +kernel] at a1
 have a2 := c_scan_Highest true true ([2, 5, 1, 7] : List Int) 3 (⟨1, 1, []⟩ : Pl.Plan) (by decide) (by decide)
 rw [show Pl.hiL ([2, 5, 1, 7] : List Int) 3 (⟨1, 1, []⟩ : Pl.Plan) = ([2, 5, 5, 7] : List Int) from by decide +kernel] at a2
 rw [show Pl.scS ([2, 5, 1, 7] : List Int).length 3 (⟨1, 1, []⟩ : Pl.Plan) = 6 from by decide +kernel] at a2
 rw [show Pl.scE ([2, 5, 1, 7] : List Int).length 3 (⟨1, 1, []⟩ : Pl.Plan) = 0 from by decide +kernel] at a2
 have a3 := c_scan_Sums true true ([3, 1, 2, 4294967295] : List Int) 0 (⟨1, 1, []⟩ : Pl.Plan) (by decide)
 rw [show Pl.scL Pl.add32 ([3, 1, 2, 4294967295] : List Int) 0 (⟨1, 1, []⟩ : Pl.Plan) = ([] : List Int) from by decide +kernel] at a3
 rw [show Pl.scT Pl.add32 ([3, 1, 2, 4294967295] : List Int) 0 (⟨1, 1, []⟩ : Pl.Plan) = 0 from by decide +kernel] at a3
 rw [show Pl.scS ([3, 1, 2, 4294967295] : List Int).length 0 (⟨1, 1, []⟩ : Pl.Plan) = 0 from by decide +kernel] at a3
 rw [show Pl.scE ([3, 1, 2, 4294967295] : List Int).length 0 (⟨1, 1, []⟩ : Pl.Plan) = 1 from by decide +kernel] at a3
 have a4 := c_ref07_Words false true ([0, 3, 4, 6] : List Int) ([0, 3, 4, 6] : List Int) (by decide)
 have a5 := c_ref07_Words false true ([2, 5, 5, 7] : List Int) ([2, 5, 5, 7] : List Int) (by decide)
 have a6 := c_scan_Blocks 7 3
 rw [show Pl.blk 7 3 = 3 from by decide +kernel] at a6
 have a7 := c_scan_Totals true ([3, 1, 2, 4294967295] : List Int) 3 (by decide)
 rw [show Pl.totR ([3, 1, 2, 4294967295] : List Int) 3 = ([6, 4294967295] : List Int) from by decide +kernel] at a7
 have a8 := c_ref07_Words false true ([6, 4294967295] : List Int) ([6, 4294967295] : List Int) (by decide)
 have a9 := c_scan_Back false ([0, 3, 4, 6] : List Int) 5 (by decide) ⟨by decide, by decide⟩ (by decide)
 rw [show Pl.backL ([0, 3, 4, 6] : List Int) 5 ([0, 3, 4, 6] : List Int).length = ([3, 1, 2, 4294967295] : List Int) from by decide +kernel] at a9
 have a10 := c_ref07_Words false true ([3, 1, 2, 4294967295] : List Int) ([3, 1, 2, 4294967295] : List Int) (by decide)
 refine awp_sr [] (by rw [hC]; rfl) fun k hk => ?_
 simp (maxSteps := 9^9) (disch := (try simp only [lens]); omega) only [argSl, sm, ↓amb, mark_eq, simprocAttr, dx]
 repeat refine ⟨by first | omega | (simp; done) | (unfold maxLen; omega) | (simp [maxLen]; omega) | assumption, ?_⟩
 refine hk _ ?_; clear hk k
 refine awp_le (le_keep []) ?_
 simp only [kp, argSl, simprocAttr]
 refine awp_sr [] (by rw [hC]; rfl) fun k hk => ?_
 simp (maxSteps := 9^9) (disch := (try simp only [lens]); omega) only [argSl, sm, ↓amb, mark_eq, simprocAttr, vr26, bt26, pl26_0, pl26_1, sz26, dx]
 repeat refine ⟨by first | omega | (simp; done) | (unfold maxLen; omega) | (simp [maxLen]; omega) | assumption, ?_⟩
 refine hk _ ?_; clear hk k
 refine awp_le (le_keep [1]) ?_
 simp only [kp, argSl, simprocAttr]
 refine awp_sr [] (by rw [hC]; rfl) fun k hk => ?_
 simp (maxSteps := 9^9) (disch := (try simp only [lens]); omega) only [argSl, sm, ↓amb, mark_eq, simprocAttr, el22, vr28, dx]
 repeat refine ⟨by first | omega | (simp; done) | (unfold maxLen; omega) | (simp [maxLen]; omega) | assumption, ?_⟩
 refine hk _ ?_; clear hk k
 refine awp_le (le_keep [1, 2]) ?_
 simp only [kp, argSl, simprocAttr]
 refine awp_sr [] (by rw [hC]; rfl) fun k hk => ?_
 simp (maxSteps := 9^9) (disch := (try simp only [lens]); omega) only [argSl, sm, ↓amb, mark_eq, simprocAttr, sz26, en31, dx]
 repeat refine ⟨by first | omega | (simp; done) | (unfold maxLen; omega) | (simp [maxLen]; omega) | assumption, ?_⟩
 refine callK_p (a1) rfl ?_
 simp (maxSteps := 9^9) (disch := (try simp only [lens]); omega) only [argSl, sm, ↓amb, mark_eq, simprocAttr, sz26, en31, dx]
 repeat refine ⟨by first | omega | (simp; done) | (unfold maxLen; omega) | (simp [maxLen]; omega) | assumption, ?_⟩
 refine hk _ ?_; clear hk k
 refine awp_le (le_keep [1, 2, 3, 4, 5, 6]) ?_
 simp only [kp, argSl, simprocAttr]
 refine awp_sr [] (by rw [hC]; rfl) fun k hk => ?_
 simp (maxSteps := 9^9) (disch := (try simp only [lens]); omega) only [argSl, sm, ↓amb, mark_eq, simprocAttr, el22, vr28, sz26, en33, dx]
 repeat refine ⟨by first | omega | (simp; done) | (unfold maxLen; omega) | (simp [maxLen]; omega) | assumption, ?_⟩
 refine callK_p (a2) rfl ?_
 simp (maxSteps := 9^9) (disch := (try simp only [lens]); omega) only [argSl, sm, ↓amb, mark_eq, simprocAttr, el22, vr28, sz26, en33, dx]
 repeat refine ⟨by first | omega | (simp; done) | (unfold maxLen; omega) | (simp [maxLen]; omega) | assumption, ?_⟩
 refine hk _ ?_; clear hk k
 refine awp_le (le_keep [1, 2, 3, 4, 5, 6, 7, 8, 9]) ?_
 simp only [kp, argSl, simprocAttr]
 refine awp_sr [] (by rw [hC]; rfl) fun k hk => ?_
 simp (maxSteps := 9^9) (disch := (try simp only [lens]); omega) only [argSl, sm, ↓amb, mark_eq, simprocAttr, sz26, en31, dx]
 repeat refine ⟨by first | omega | (simp; done) | (unfold maxLen; omega) | (simp [maxLen]; omega) | assumption, ?_⟩
 refine callK_p (a3) rfl ?_
 simp (maxSteps := 9^9) (disch := (try simp only [lens]); omega) only [argSl, sm, ↓amb, mark_eq, simprocAttr, sz26, en31, dx]
 repeat refine ⟨by first | omega | (simp; done) | (unfold maxLen; omega) | (simp [maxLen]; omega) | assumption, ?_⟩
 refine hk _ ?_; clear hk k
 refine awp_test [] 0 (decide (True)) [] (by rw [hC]; rfl) (fun gd hgd k hk => ?_) ?_
 ·have g2 : gd 2 = some 41 := by rw [hgd]; rfl
  have g6 : gd 6 = some 45 := by rw [hgd]; rfl
  have g10 : gd 10 = some 49 := by rw [hgd]; rfl
  have g14 : gd 14 = some 53 := by rw [hgd]; rfl
  have g18 : gd 18 = some 57 := by rw [hgd]; rfl
  have g22 : gd 22 = some 61 := by rw [hgd]; rfl
  have g27 : gd 27 = some 66 := by rw [hgd]; rfl
  have g32 : gd 32 = some 71 := by rw [hgd]; rfl
  have g36 : gd 36 = some 75 := by rw [hgd]; rfl
  have g42 : gd 42 = some 81 := by rw [hgd]; rfl
  clear hgd
  simp (maxSteps := 9^9) (disch := (try simp only [lens]); omega) only [argSl, sm, ↓amb, mark_eq, simprocAttr, el22, vr28, en22, en39, en35, en37, gcase_undef, g2, g6, g10, g14, g18, g22, g27, g32, g36, g42, dx]
  repeat' first | refine hk _ _ rfl rfl rfl rfl ?_ | (refine gsplit (fun hg => ?_) (fun hg => ?_) <;> (try simp only [hbx] at hg) <;> simp (maxSteps := 9^9) (disch := (try simp only [lens]); omega) only [argSl, sm, ↓amb, mark_eq, simprocAttr, el22, vr28, en22, en39, en35, en37, gcase_undef, g2, g6, g10, g14, g18, g22, g27, g32, g36, g42, dx]) | apply And.intro | (refine callK_p (a4) rfl ?_; (try simp (maxSteps := 9^9) (disch := (try simp only [lens]); omega) only [argSl, sm, ↓amb, mark_eq, simprocAttr, el22, vr28, en22, en39, en35, en37, gcase_undef, g2, g6, g10, g14, g18, g22, g27, g32, g36, g42, dx])) | (refine callK_p (a5) rfl ?_; (try simp (maxSteps := 9^9) (disch := (try simp only [lens]); omega) only [argSl, sm, ↓amb, mark_eq, simprocAttr, el22, vr28, en22, en39, en35, en37, gcase_undef, g2, g6, g10, g14, g18, g22, g27, g32, g36, g42, dx])) | (refine callK_p (a6) rfl ?_; (try simp (maxSteps := 9^9) (disch := (try simp only [lens]); omega) only [argSl, sm, ↓amb, mark_eq, simprocAttr, el22, vr28, en22, en39, en35, en37, gcase_undef, g2, g6, g10, g14, g18, g22, g27, g32, g36, g42, dx])) | (refine callK_p (a7) rfl ?_; (try simp (maxSteps := 9^9) (disch := (try simp only [lens]); omega) only [argSl, sm, ↓amb, mark_eq, simprocAttr, el22, vr28, en22, en39, en35, en37, gcase_undef, g2, g6, g10, g14, g18, g22, g27, g32, g36, g42, dx])) | (refine callK_p (a8) rfl ?_; (try simp (maxSteps := 9^9) (disch := (try simp only [lens]); omega) only [argSl, sm, ↓amb, mark_eq, simprocAttr, el22, vr28, en22, en39, en35, en37, gcase_undef, g2, g6, g10, g14, g18, g22, g27, g32, g36, g42, dx])) | (refine callK_p (a9) rfl ?_; (try simp (maxSteps := 9^9) (disch := (try simp only [lens]); omega) only [argSl, sm, ↓amb, mark_eq, simprocAttr, el22, vr28, en22, en39, en35, en37, gcase_undef, g2, g6, g10, g14, g18, g22, g27, g32, g36, g42, dx])) | (refine callK_p (a10) rfl ?_; (try simp (maxSteps := 9^9) (disch := (try simp only [lens]); omega) only [argSl, sm, ↓amb, mark_eq, simprocAttr, el22, vr28, en22, en39, en35, en37, gcase_undef, g2, g6, g10, g14, g18, g22, g27, g32, g36, g42, dx])) | fail
  all_goals first | rfl | omega | exact (decide_eq_true (by omega)).symm | exact (decide_eq_false (by omega)).symm | exact decide_eq_decide.mpr (by omega) | (refine Bool.eq_iff_iff.mpr ?_; simp only [beq_iff_eq, bne_iff_ne, ne_eq, decide_eq_true_eq]; omega) | (refine Bool.eq_iff_iff.mpr ?_; simp only [Bool.not_eq_true', Bool.not_eq_false', decide_eq_false_iff_not, decide_eq_true_eq, beq_iff_eq, bne_iff_ne, ne_eq]; omega) | assumption | (simp; done) | (simp [maxLen]; omega) | skip
 simp only [kp, argSl, simprocAttr, List.length_cons, List.length_nil]
 refine awp_ret ?_
 refine ret1 rfl rfl ?_
 exact .p (LeP.refl _)
end Go.Proofs.Ythelnccjcbnjfaa
end
section
set_option linter.unusedSimpArgs false
set_option linter.unusedVariables false
namespace Go.Pl
theorem scE_yes {n : Nat} {bl : Int} {p : Plan} (h1 : 1 ≤ bl ∧ bl ≤ 100) (hn : n ≤ 1000) (hp : planRight p) : scE n bl p = 0 := by
  have := blk_nn n bl
  exact sc_iff.2 ⟨h1, hn, this.1, this.2, hp⟩
theorem ahead_take (f : Int → Int → Int) (a b : List Int) : (aheadF f (a ++ b)).take a.length = aheadF f a := by
  unfold aheadF
  rw [← List.map_take, List.take_range, List.length_append, Nat.min_eq_left (by omega)]
  refine List.map_congr_left fun j hj => ?_
  have hj := List.mem_range.1 hj
  rw [List.take_append_of_le_length (by omega)]
theorem ahead_app {f : Int → Int → Int} (hf : Rule f) {a b : List Int} (ha : ∀ x, x ∈ a → W32 x) (hb : ∀ x, x ∈ b → W32 x) {i : Nat} (h : i < b.length) : (aheadF f (a ++ b)).getD (a.length + i) 0 = f (allF f a) (allF f (b.take i)) := by
  rw [aheadF_get f _ (by rw [List.length_append]; omega), List.take_append, List.take_of_length_le (by omega), show a.length + i - a.length = i by omega, allF_app hf ha (take_w hb)]
theorem app_w {a b : List Int} (ha : ∀ x, x ∈ a → W32 x) (hb : ∀ x, x ∈ b → W32 x) : ∀ x, x ∈ a ++ b → W32 x := fun x h => (List.mem_append.1 h).elim (ha x) (hb x)
end Go.Pl
end
section
set_option linter.unusedSimpArgs false
set_option linter.unusedVariables false
set_option maxRecDepth 100000
namespace Go.Proofs.Ythelnccjcbnjfaa
open Go.Am Go.Proofs
theorem en30 : enters Try.prog 30 = true := by kernel_rfl
theorem it3 : tInt Try.prog 3 = some .i64 := by kernel_rfl
theorem un5 : (Try.prog.underlying 5).isSome = true := by kernel_rfl
set_option maxHeartbeats 4000000 in
theorem c_law08_ScanJoins (a b : List Int) (y : Int) (ha : ∀ x, x ∈ a → Pl.W32 x) (hb' : ∀ x, x ∈ b → Pl.W32 x) (hy : 0 ≤ y ∧ y ≤ 255) : PCall Try.prog 10 [words false a, words false b, .lit (.int .u8 y)] (bV true) := by
 refine pcall_of_awp Try.func10 rfl (by simp [Try.ntmps10]) fun C hC => ?_
 refine awp_le (le_keep [0, 1, 2]) ?_
 simp only [kp, argSl, simprocAttr]
 refine awp_sr [58] (by rw [hC]; rfl) fun k hk => ?_
 simp (maxSteps := 9^9) (disch := (try simp only [lens]); omega) only [argSl, sm, ↓amb, mark_eq, simprocAttr, wr_u32, dx]
 repeat refine ⟨by first | omega | (simp; done) | (unfold maxLen; omega) | (simp [maxLen]; omega) | assumption, ?_⟩
 refine hk _ ?_; clear hk k
 refine awp_seq fun k1 h1 => ?_
 refine awp_le (le_keep [0, 1, 2, 6]) ?_
 simp only [kp, argSl, simprocAttr]
 refine awp_sr [58] (by rw [hC]; rfl) fun k hk => ?_
 simp (maxSteps := 9^9) (disch := (try simp only [lens]); omega) only [argSl, sm, ↓amb, mark_eq, simprocAttr, en30, wr_u32, dx]
 repeat refine ⟨by first | omega | (simp; done) | (unfold maxLen; omega) | (simp [maxLen]; omega) | assumption, ?_⟩
 refine callK_p (c_law08_alive) rfl ?_
 simp (maxSteps := 9^9) (disch := (try simp only [lens]); omega) only [argSl, sm, ↓amb, mark_eq, simprocAttr, en30, wr_u32, dx]
 repeat refine ⟨by first | omega | (simp; done) | (unfold maxLen; omega) | (simp [maxLen]; omega) | assumption, ?_⟩
 refine hk _ ?_; clear hk k
 refine awp_cond rfl (fun hb => ?_) (fun hb => ?_)
 ·try simp only [hbx] at hb
  refine awp_le (le_keep []) ?_
  simp only [kp, argSl, simprocAttr]
  refine awp_sr [58] (by rw [hC]; rfl) fun k hk => ?_
  simp (maxSteps := 9^9) (disch := (try simp only [lens]); omega) only [argSl, sm, ↓amb, mark_eq, simprocAttr, wr_u32, dx]
  repeat refine ⟨by first | omega | (simp; done) | (unfold maxLen; omega) | (simp [maxLen]; omega) | assumption, ?_⟩
  refine hk _ ?_; clear hk k
  refine awp_ret ?_
  exact absurd hb (by simp)
 ·try simp only [hbx] at hb
  refine awp_skip ?_
  refine h1 _ ?_; clear h1 k1
  refine awp_seq fun k2 h2 => ?_
  refine awp_test [58] 31 (decide (60 < a.length ∨ 60 < b.length)) [0, 1, 2, 6] (by rw [hC]; rfl) (fun gd hgd k hk => ?_) ?_
  ·have g3 : gd 3 = some 27 := by rw [hgd]; rfl
   clear hgd
   simp (maxSteps := 9^9) (disch := (try simp only [lens]); omega) only [argSl, sm, ↓amb, mark_eq, simprocAttr, el22, gcase_undef, g3, wr_u32, dx]
   repeat' first | refine hk _ _ rfl rfl rfl rfl ?_ | (refine gsplit (fun hg => ?_) (fun hg => ?_) <;> (try simp only [hbx] at hg) <;> simp (maxSteps := 9^9) (disch := (try simp only [lens]); omega) only [argSl, sm, ↓amb, mark_eq, simprocAttr, el22, gcase_undef, g3, wr_u32, dx]) | apply And.intro | fail
   all_goals first | rfl | omega | exact (decide_eq_true (by omega)).symm | exact (decide_eq_false (by omega)).symm | exact decide_eq_decide.mpr (by omega) | (refine Bool.eq_iff_iff.mpr ?_; simp only [beq_iff_eq, bne_iff_ne, ne_eq, decide_eq_true_eq]; omega) | (refine Bool.eq_iff_iff.mpr ?_; simp only [Bool.not_eq_true', Bool.not_eq_false', decide_eq_false_iff_not, decide_eq_true_eq, beq_iff_eq, bne_iff_ne, ne_eq]; omega) | assumption | (simp; done) | (simp [maxLen]; omega) | skip
  simp only [kp, argSl, simprocAttr, List.length_cons, List.length_nil]
  refine awp_cond rfl (fun hb => ?_) (fun hb => ?_)
  ·try simp only [hbx] at hb
   refine awp_le (le_keep []) ?_
   simp only [kp, argSl, simprocAttr]
   refine awp_sr [58] (by rw [hC]; rfl) fun k hk => ?_
   simp (maxSteps := 9^9) (disch := (try simp only [lens]); omega) only [argSl, sm, ↓amb, mark_eq, simprocAttr, wr_u32, dx]
   repeat refine ⟨by first | omega | (simp; done) | (unfold maxLen; omega) | (simp [maxLen]; omega) | assumption, ?_⟩
   refine hk _ ?_; clear hk k
   refine awp_ret ?_
   refine ret1 rfl rfl ?_
   exact .p (LeP.refl _)
  ·try simp only [hbx] at hb
   refine awp_skip ?_
   refine h2 _ ?_; clear h2 k2
   refine awp_le (le_keep [0, 1, 2]) ?_
   simp only [kp, argSl, simprocAttr]
   have hef1 : Pl.scE a.length (1 + y % 100) (⟨3, 2, []⟩ : Pl.Plan) = 0 := Pl.scE_yes (by omega) (by first | omega | (rw [List.length_append]; omega)) (by decide)
   have f1 := c_scan_Sums false true a (1 + y % 100) (⟨3, 2, []⟩ : Pl.Plan) ha
   rw [hef1, show Pl.scL Pl.add32 a (1 + y % 100) (⟨3, 2, []⟩ : Pl.Plan) = (Pl.aheadF Pl.add32 a) from if_pos hef1, show Pl.scT Pl.add32 a (1 + y % 100) (⟨3, 2, []⟩ : Pl.Plan) = (Pl.allF Pl.add32 a) from if_pos hef1] at f1
   have hef2 : Pl.scE b.length (1 + y % 100) (⟨3, 2, []⟩ : Pl.Plan) = 0 := Pl.scE_yes (by omega) (by first | omega | (rw [List.length_append]; omega)) (by decide)
   have f2 := c_scan_Sums false true b (1 + y % 100) (⟨3, 2, []⟩ : Pl.Plan) hb'
   rw [hef2, show Pl.scL Pl.add32 b (1 + y % 100) (⟨3, 2, []⟩ : Pl.Plan) = (Pl.aheadF Pl.add32 b) from if_pos hef2, show Pl.scT Pl.add32 b (1 + y % 100) (⟨3, 2, []⟩ : Pl.Plan) = (Pl.allF Pl.add32 b) from if_pos hef2] at f2
   have hab := Pl.app_w ha hb'
   have hef3 : Pl.scE (a ++ b).length (1 + y % 100) (⟨3, 2, []⟩ : Pl.Plan) = 0 := Pl.scE_yes (by omega) (by rw [List.length_append]; omega) (by decide)
   have f3 := c_scan_Sums false true (a ++ b) (1 + y % 100) (⟨3, 2, []⟩ : Pl.Plan) hab
   rw [hef3, show Pl.scL Pl.add32 (a ++ b) (1 + y % 100) (⟨3, 2, []⟩ : Pl.Plan) = (Pl.aheadF Pl.add32 (a ++ b)) from if_pos hef3, show Pl.scT Pl.add32 (a ++ b) (1 + y % 100) (⟨3, 2, []⟩ : Pl.Plan) = (Pl.allF Pl.add32 (a ++ b)) from if_pos hef3] at f3
   have l1 := Pl.aheadF_len Pl.add32 a
   have l2 := Pl.aheadF_len Pl.add32 b
   have l3 := Pl.aheadF_len Pl.add32 (a ++ b)
   rw [List.length_append] at l3
   have s3 := Pl.allF_app Pl.rule_add ha hb'
   have s4 := Pl.ahead_take Pl.add32 a b
   refine awp_sr [58] (by rw [hC]; rfl) fun k hk => ?_
   simp (maxSteps := 9^9) (disch := (try simp only [lens]); omega) only [argSl, sm, ↓amb, mark_eq, simprocAttr, vr26, bt26, pl26_0, pl26_1, sz26, wr_u32, dx]
   repeat refine ⟨by first | omega | (simp; done) | (unfold maxLen; omega) | (simp [maxLen]; omega) | assumption, ?_⟩
   refine hk _ ?_; clear hk k
   refine awp_le (le_keep [0, 1, 2, 7]) ?_
   simp only [kp, argSl, simprocAttr]
   refine awp_sr [58] (by rw [hC]; rfl) fun k hk => ?_
   simp (maxSteps := 9^9) (disch := (try simp only [lens]); omega) only [argSl, sm, ↓amb, mark_eq, simprocAttr, it3, un5, wr_u32, dx]
   repeat refine ⟨by first | omega | (simp; done) | (unfold maxLen; omega) | (simp [maxLen]; omega) | assumption, ?_⟩
   refine hk _ ?_; clear hk k
   refine awp_le (le_keep [0, 1, 7, 8]) ?_
   simp only [kp, argSl, simprocAttr]
   refine awp_sr [58] (by rw [hC]; rfl) fun k hk => ?_
   simp (maxSteps := 9^9) (disch := (try simp only [lens]); omega) only [argSl, sm, ↓amb, mark_eq, simprocAttr, sz26, en31, wr_u32, dx]
   repeat refine ⟨by first | omega | (simp; done) | (unfold maxLen; omega) | (simp [maxLen]; omega) | assumption, ?_⟩
   refine callK_p (f1) rfl ?_
   simp (maxSteps := 9^9) (disch := (try simp only [lens]); omega) only [argSl, sm, ↓amb, mark_eq, simprocAttr, sz26, en31, wr_u32, dx]
   repeat refine ⟨by first | omega | (simp; done) | (unfold maxLen; omega) | (simp [maxLen]; omega) | assumption, ?_⟩
   refine hk _ ?_; clear hk k
   refine awp_le (le_keep [0, 1, 7, 8, 9, 10, 12]) ?_
   simp only [kp, argSl, simprocAttr]
   refine awp_sr [58] (by rw [hC]; rfl) fun k hk => ?_
   simp (maxSteps := 9^9) (disch := (try simp only [lens]); omega) only [argSl, sm, ↓amb, mark_eq, simprocAttr, sz26, en31, wr_u32, dx]
   repeat refine ⟨by first | omega | (simp; done) | (unfold maxLen; omega) | (simp [maxLen]; omega) | assumption, ?_⟩
   refine callK_p (f2) rfl ?_
   simp (maxSteps := 9^9) (disch := (try simp only [lens]); omega) only [argSl, sm, ↓amb, mark_eq, simprocAttr, sz26, en31, wr_u32, dx]
   repeat refine ⟨by first | omega | (simp; done) | (unfold maxLen; omega) | (simp [maxLen]; omega) | assumption, ?_⟩
   refine hk _ ?_; clear hk k
   refine awp_le (le_keep [0, 1, 7, 8, 9, 10, 12, 13, 14, 16]) ?_
   simp only [kp, argSl, simprocAttr]
   refine awp_sd [58] ⟨[0, 0, 3, 0, 15, 0, 0, 127, 255, 511, 511, 511, 511, 1023, 10239, 28671, 65535], [4], [4], [(2, 4)], some []⟩ (by rw [hC]; rfl) (by kernel_rfl) (by kernel_rfl) fun k hk => ?_
   simp (maxSteps := 9^9) (disch := (try simp only [lens]); omega) only [argSl, sm, ↓amb, mark_eq, simprocAttr, el22, vr28, by28, sz26, en31, wr_u32, dx]
   repeat refine ⟨by first | omega | (simp; done) | (unfold maxLen; omega) | (simp [maxLen]; omega) | assumption, ?_⟩
   refine callK_p (f3) rfl ?_
   simp (maxSteps := 9^9) (disch := (try simp only [lens]); omega) only [argSl, sm, ↓amb, mark_eq, simprocAttr, el22, vr28, by28, sz26, en31, wr_u32, dx]
   repeat refine ⟨by first | omega | (simp; done) | (unfold maxLen; omega) | (simp [maxLen]; omega) | assumption, ?_⟩
   refine hk _ ?_; clear hk k
   refine awp_seq fun k3 h3 => ?_
   refine awp_test [58] 94 (decide (False)) [6, 9, 10, 13, 17] (by rw [hC]; rfl) (fun gd hgd k hk => ?_) ?_
   ·have g2 : gd 2 = some 70 := by rw [hgd]; rfl
    have g6 : gd 6 = some 74 := by rw [hgd]; rfl
    have g10 : gd 10 = some 78 := by rw [hgd]; rfl
    have g17 : gd 17 = some 85 := by rw [hgd]; rfl
    clear hgd
    simp (maxSteps := 9^9) (disch := (try simp only [lens]); omega) only [argSl, sm, ↓amb, mark_eq, simprocAttr, el22, gcase_undef, g2, g6, g10, g17, wr_u32, dx]
    repeat' first | refine hk _ _ rfl rfl rfl rfl ?_ | (refine gsplit (fun hg => ?_) (fun hg => ?_) <;> (try simp only [hbx] at hg) <;> simp (maxSteps := 9^9) (disch := (try simp only [lens]); omega) only [argSl, sm, ↓amb, mark_eq, simprocAttr, el22, gcase_undef, g2, g6, g10, g17, wr_u32, dx]) | apply And.intro | fail
    all_goals first | rfl | omega | exact (decide_eq_true (by omega)).symm | exact (decide_eq_false (by omega)).symm | exact decide_eq_decide.mpr (by omega) | (refine Bool.eq_iff_iff.mpr ?_; simp only [beq_iff_eq, bne_iff_ne, ne_eq, decide_eq_true_eq]; omega) | (refine Bool.eq_iff_iff.mpr ?_; simp only [Bool.not_eq_true', Bool.not_eq_false', decide_eq_false_iff_not, decide_eq_true_eq, beq_iff_eq, bne_iff_ne, ne_eq]; omega) | assumption | (simp; done) | (simp [maxLen]; omega) | skip
    all_goals first | rfl | (exfalso; omega) | (simp; done) | (simp_all; done) | trace_state
   simp only [kp, argSl, simprocAttr, List.length_cons, List.length_nil]
   refine awp_cond rfl (fun hb => ?_) (fun hb => ?_)
   ·exact absurd hb (by simp)
   ·try simp only [hbx] at hb
    refine awp_skip ?_
    refine h3 _ ?_; clear h3 k3
    refine awp_seq fun k4 h4 => ?_
    refine awp_le (le_keep [6, 9, 10, 13, 17]) ?_
    simp only [kp, argSl, simprocAttr]
    refine awp_sr [58] (by rw [hC]; rfl) fun k hk => ?_
    simp (maxSteps := 9^9) (disch := (try simp only [lens]); omega) only [argSl, sm, ↓amb, mark_eq, simprocAttr, wr_u32, dx]
    repeat refine ⟨by first | omega | (simp; done) | (unfold maxLen; omega) | (simp [maxLen]; omega) | assumption, ?_⟩
    refine hk _ ?_; clear hk k
    refine awp_block ?_
    refine awp_loop (σ := Nat) (fun i => i ≤ b.length) (fun (i : Nat) => ⟨[(9, (.p (words false (Pl.aheadF Pl.add32 a)))), (10, (.p (u32V (Pl.allF Pl.add32 a)))), (13, (.p (words false (Pl.aheadF Pl.add32 b)))), (17, (.p (words false (Pl.aheadF Pl.add32 (a ++ b))))), (21, (.p (iV (i : Int))))], [], 1⟩) (fun i => b.length - i) 0 ?_ ?_ fun i hi => ?_
    ·exact Nat.zero_le _
    ·exact le_of [] (by rfl) (by rfl) ⟨⟨_, rfl, .p (.of_eq (by first | rfl | (simp only [PV.lit.injEq, Value.int.injEq, true_and]; omega) | (simp; done) | (simp; omega)))⟩, ⟨_, rfl, .p (.of_eq (by first | rfl | (simp only [PV.lit.injEq, Value.int.injEq, true_and]; omega) | (simp; done) | (simp; omega)))⟩, ⟨_, rfl, .p (.of_eq (by first | rfl | (simp only [PV.lit.injEq, Value.int.injEq, true_and]; omega) | (simp; done) | (simp; omega)))⟩, ⟨_, rfl, .p (.of_eq (by first | rfl | (simp only [PV.lit.injEq, Value.int.injEq, true_and]; omega) | (simp; done) | (simp; omega)))⟩, ⟨_, rfl, .p (.of_eq (by first | rfl | (simp only [PV.lit.injEq, Value.int.injEq, true_and]; omega) | (simp; done) | (simp; omega)))⟩, trivial⟩ trivial
    refine awp_seq fun k6 h6 => ?_
    refine awp_le (le_keep [6, 9, 10, 13, 17, 21]) ?_
    simp only [kp, argSl, simprocAttr]
    refine awp_sr [58] (by rw [hC]; rfl) fun k hk => ?_
    simp (maxSteps := 9^9) (disch := (try simp only [lens]); omega) only [argSl, sm, ↓amb, mark_eq, simprocAttr, el22, wr_u32, dx]
    repeat refine ⟨by first | omega | (simp; done) | (unfold maxLen; omega) | (simp [maxLen]; omega) | assumption, ?_⟩
    refine hk _ ?_; clear hk k
    refine awp_cond rfl (fun hb => ?_) (fun hb => ?_)
    ·try simp only [hbx] at hb
     refine awp_skip ?_
     refine h6 _ ?_; clear h6 k6
     refine awp_seq fun k7 h7 => ?_
     refine awp_block ?_
     have u1 := Pl.ahead_app Pl.rule_add ha hb' (i := i) (by omega)
     have u2 := Pl.aheadF_get Pl.add32 b (i := i) (by omega)
     refine awp_testD [58] ⟨[0, 0, 2, 0, 14, 31, 63, 0, 0, 384, 896, 0, 3968, 8191], [2, 6, 10], [], [], some []⟩ 114 (decide (False)) [6, 9, 10, 13, 17, 21] (by rw [hC]; rfl) (by kernel_rfl) (by kernel_rfl) (fun gd hgd k hk => ?_) ?_
     ·clear hgd
      simp (maxSteps := 9^9) (disch := (try simp only [lens]); omega) only [argSl, sm, ↓amb, mark_eq, simprocAttr, el22, sz28, gcase_undef, wr_u32, dx]
      repeat' first | refine hk _ _ rfl rfl rfl rfl ?_ | (refine gsplit (fun hg => ?_) (fun hg => ?_) <;> (try simp only [hbx] at hg) <;> simp (maxSteps := 9^9) (disch := (try simp only [lens]); omega) only [argSl, sm, ↓amb, mark_eq, simprocAttr, el22, sz28, gcase_undef, wr_u32, dx]) | apply And.intro | fail
      all_goals first | rfl | omega | exact (decide_eq_true (by omega)).symm | exact (decide_eq_false (by omega)).symm | exact decide_eq_decide.mpr (by omega) | (refine Bool.eq_iff_iff.mpr ?_; simp only [beq_iff_eq, bne_iff_ne, ne_eq, decide_eq_true_eq]; omega) | (refine Bool.eq_iff_iff.mpr ?_; simp only [Bool.not_eq_true', Bool.not_eq_false', decide_eq_false_iff_not, decide_eq_true_eq, beq_iff_eq, bne_iff_ne, ne_eq]; omega) | assumption | (simp; done) | (simp [maxLen]; omega) | skip
      all_goals first | rfl | (exact (bne_eq_false_iff_eq.mpr (by rw [show (((Pl.aheadF Pl.add32 a).length : Int) + (i : Int)).toNat = a.length + i by (rw [l1]; omega), u1, u2]; unfold Pl.add32; omega)).trans (decide_eq_false (fun h => h)).symm) | (exfalso; omega) | (simp; done) | trace_state
     simp only [kp, argSl, simprocAttr, List.length_cons, List.length_nil]
     refine awp_cond rfl (fun hb => ?_) (fun hb => ?_)
     ·exact absurd hb (by simp)
     ·try simp only [hbx] at hb
      refine awp_skip ?_
      refine h7 _ ?_; clear h7 k7
      refine awp_region [58] (by rw [hC]; rfl) fun k hk => ?_
      simp (maxSteps := 9^9) (disch := (try simp only [lens]); omega) only [argSl, sm, ↓amb, mark_eq, simprocAttr, wr_u32, dx]
      repeat refine ⟨by first | omega | (simp; done) | (unfold maxLen; omega) | (simp [maxLen]; omega) | assumption, ?_⟩
      refine hk _ ?_; clear hk k
      refine ⟨i + 1, by omega, le_of [] (by rfl) (by rfl) ⟨⟨_, rfl, .p (.of_eq (by first | rfl | (simp only [PV.lit.injEq, Value.int.injEq, true_and]; omega) | (simp; done) | (simp; omega)))⟩, ⟨_, rfl, .p (.of_eq (by first | rfl | (simp only [PV.lit.injEq, Value.int.injEq, true_and]; omega) | (simp; done) | (simp; omega)))⟩, ⟨_, rfl, .p (.of_eq (by first | rfl | (simp only [PV.lit.injEq, Value.int.injEq, true_and]; omega) | (simp; done) | (simp; omega)))⟩, ⟨_, rfl, .p (.of_eq (by first | rfl | (simp only [PV.lit.injEq, Value.int.injEq, true_and]; omega) | (simp; done) | (simp; omega)))⟩, ⟨_, rfl, .p (.of_eq (by first | rfl | (simp only [PV.lit.injEq, Value.int.injEq, true_and]; omega) | (simp; done) | (simp; omega)))⟩, trivial⟩ trivial, by omega⟩
    ·try simp only [hbx] at hb
     refine awp_exit ((if_pos rfl).mpr ?_)
     refine h4 _ ?_; clear h6 k6; clear h4 k4
     have u5 : ((Pl.aheadF Pl.add32 (a ++ b)).take (Pl.aheadF Pl.add32 a).length) = (Pl.aheadF Pl.add32 a) := by rw [l1]; exact s4
     have f5 := c_ref07_Words false false ((Pl.aheadF Pl.add32 (a ++ b)).take (Pl.aheadF Pl.add32 a).length) (Pl.aheadF Pl.add32 a) (by rw [List.length_take]; omega)
     rw [decide_eq_true u5] at f5
     have u6 : 0 < a.length + b.length → (Pl.aheadF Pl.add32 (a ++ b)).getD 0 0 = 0 := fun h => Pl.aheadF_get Pl.add32 (a ++ b) (i := 0) (by rw [List.length_append]; exact h)
     refine awp_test [58] 6 (decide (True)) [] (by rw [hC]; rfl) (fun gd hgd k hk => ?_) ?_
     ·have g6 : gd 6 = some 121 := by rw [hgd]; rfl
      have g10 : gd 10 = some 125 := by rw [hgd]; rfl
      clear hgd
      simp (maxSteps := 9^9) (disch := (try simp only [lens]); omega) only [argSl, sm, ↓amb, mark_eq, simprocAttr, el22, sz28, en22, gcase_undef, g6, g10, wr_u32, dx]
      repeat' first | refine hk _ _ rfl rfl rfl rfl ?_ | (refine gsplit (fun hg => ?_) (fun hg => ?_) <;> (try simp only [hbx] at hg) <;> simp (maxSteps := 9^9) (disch := (try simp only [lens]); omega) only [argSl, sm, ↓amb, mark_eq, simprocAttr, el22, sz28, en22, gcase_undef, g6, g10, wr_u32, dx]) | apply And.intro | (refine callK_p (f5) rfl ?_; (try simp (maxSteps := 9^9) (disch := (try simp only [lens]); omega) only [argSl, sm, ↓amb, mark_eq, simprocAttr, el22, sz28, en22, gcase_undef, g6, g10, wr_u32, dx])) | fail
      all_goals first | rfl | omega | exact (decide_eq_true (by omega)).symm | exact (decide_eq_false (by omega)).symm | exact decide_eq_decide.mpr (by omega) | (refine Bool.eq_iff_iff.mpr ?_; simp only [beq_iff_eq, bne_iff_ne, ne_eq, decide_eq_true_eq]; omega) | (refine Bool.eq_iff_iff.mpr ?_; simp only [Bool.not_eq_true', Bool.not_eq_false', decide_eq_false_iff_not, decide_eq_true_eq, beq_iff_eq, bne_iff_ne, ne_eq]; omega) | assumption | (simp; done) | (simp [maxLen]; omega) | skip
      all_goals first | (exfalso; omega) | rfl | (exfalso; exact absurd rfl (by assumption)) | (simp; done) | (simp_all; done) | (rw [u6 (by omega)]; try simp; done) | trace_state
     simp only [kp, argSl, simprocAttr, List.length_cons, List.length_nil]
     refine awp_ret ?_
     refine ret1 rfl rfl ?_
     exact .p (LeP.refl _)
end Go.Proofs.Ythelnccjcbnjfaa
end
section
namespace Go.Proofs.Ythelnccjcbnjfaa
open Go.Am Go.Proofs
theorem Try.own : ownKnob Try.prog.godebug = none := by kernel_rfl
theorem Try.laidOut : laidOutB Try.prog = true := by kernel_rfl
theorem wf8 {n : Int} (h : (Lit.int .u8 n).wf = true) : 0 ≤ n ∧ n ≤ 255 := by
  simp only [Lit.wf, Bool.and_eq_true, decide_eq_true_eq, show IntKind.u8.min = 0 from rfl, show IntKind.u8.max = 255 from rfl] at h; exact h
theorem wf32 {n : Int} (h : (Lit.int .u32 n).wf = true) : 0 ≤ n ∧ n ≤ 4294967295 := by
  simp only [Lit.wf, Bool.and_eq_true, decide_eq_true_eq, show IntKind.u32.min = 0 from rfl, show IntKind.u32.max = 4294967295 from rfl] at h; exact h
theorem op_u32 : Opens Try.prog 28 Int (fun n => (Lit.int .u32 n).wf = true) (fun n => [.lit (.int .u32 n)]) := opens_int Try.underlying28
theorem op_u8 : Opens Try.prog 5 Int (fun n => (Lit.int .u8 n).wf = true) (fun n => [.lit (.int .u8 n)]) := opens_int Try.underlying5
theorem op_words : Opens Try.prog 22 (List Int) (fun l => l.length ≤ maxLen ∧ ∀ a, a ∈ l → (Lit.int .u32 a).wf = true) (fun l => [words false l]) := opens_slice Try.underlying22 (of_decide_eq_true (by kernel_rfl)) op_u32
end Go.Proofs.Ythelnccjcbnjfaa
end
section
namespace Go.Proofs.Ythelnccjcbnjfaa
open Go.ChangeShapes Go.WideShapes Go.ChangeAt Go.RowKit Go.Am
set_option maxRecDepth 100000 in
theorem scanJoins_lifted (os : Os) (started : os.Started) (H : Type) (enc : TypeId × Value → H) :
    ReturnsInHanded {} Try.checked os 10 .any (Rows.scanJoinsSpec.pre6 enc Try.prog Try.f10 Rows.scanJoinsRow.domain false) (Rows.scanJoinsSpec.post enc Try.prog Try.f10 false true false false) := by
  refine returnsInHanded_of_change (C := Try.checked) Try.own started (by kernel_rfl) Try.func10
    (ChangeSpec.witness6 (enc := enc) (C := Try.checked) false ⟨#[], #[.slice none 0 0, .slice none 0 0, .int .u8 0], []⟩ 20 (by kernel_rfl) (by kernel_rfl) (by kernel_rfl) (by kernel_rfl)) ?_
  intro W base args ds gs before hval0 hW hcnd _
  have hval : ∀ (j : Nat) t v, Try.f10.params[j]? = some t → args[j]? = some v → Value.okWide Try.prog W .any base t v := hval0
  have hW' := hW
  have hlt := hW.lt
  obtain ⟨p, q, hA0, hV, rfl, hfz, hnd⟩ := hW
  have hA : DataW.TrodAll enc Try.prog W 0 (fun _ => true) true Try.f10.params.toList args.toList ds p := hA0
  rw [Try.params10] at hA hval
  obtain ⟨v0, v1, v2, d0, d1, d2, p0, p1, p2, rfl, rfl, rfl, h0, h1, h2⟩ := trodAll_three hA
  obtain ⟨rfl, rfl⟩ := trodVars_none hV
  obtain ⟨a0, k0, r0⟩ := arg_one op_words (okWide_one_s Try.underlying22 (hval 0 22 _ rfl rfl)) h0
  obtain ⟨a1, k1, r1⟩ := arg_one op_words (okWide_one_s Try.underlying22 (hval 1 22 _ rfl rfl)) h1
  obtain ⟨a2, k2, r2⟩ := arg_one op_u8 (okWide_one Try.underlying5 (hval 2 5 _ rfl rfl)) h2
  clear hA0 hval0
  simp only [List.append_nil] at hW' hlt
  refine (law_calls (c_law08_ScanJoins a0 a1 a2 (fun x hx => wf32 (k0.2 x hx)) (fun x hx => wf32 (k1.2 x hx)) (wf8 k2)) rfl ?_).mono fun e W' ⟨he, hB⟩ => ?_
  · intro i x hx
    match i, hx with
    | 0, hx => simp only [List.getElem?_cons_zero, Option.some.injEq] at hx; subst hx; exact r0
    | 1, hx => simp only [List.getElem?_cons_succ, List.getElem?_cons_zero, Option.some.injEq] at hx; subst hx; exact r1
    | 2, hx => simp only [List.getElem?_cons_succ, List.getElem?_cons_zero, Option.some.injEq] at hx; subst hx; exact r2
    | i + 3, hx => simp at hx
  subst he
  exact ⟨_, rfl, law_post (pv := []) hW' (fun _ _ _ => trodAll_mk1 (shut_bool Try.underlying4 _))
    (fun sp hs => trodAll_mk3 (WideElems.Trod_stays Try.laidOut (by kernel_rfl) (of_decide_eq_true (by kernel_rfl)) h0 (fun x hx => hB.same (hlt x (by simp [hx]))) (fun x hx => hs x (by simp [hx]))) (WideElems.Trod_stays Try.laidOut (by kernel_rfl) (of_decide_eq_true (by kernel_rfl)) h1 (fun x hx => hB.same (hlt x (by simp [hx]))) (fun x hx => hs x (by simp [hx]))) (WideElems.Trod_stays Try.laidOut (by kernel_rfl) (of_decide_eq_true (by kernel_rfl)) h2 (fun x hx => hB.same (hlt x (by simp [hx]))) (fun x hx => hs x (by simp [hx]))))
    (fun _ _ => rfl) (by simp) hB (ok_one (by kernel_rfl) rfl (okWide_bool_mk Try.underlying4 _))⟩
theorem scanJoins_holds : Rows.ScanJoinsSaid :=
  OpenClaim.holds_of_wide 10 Try.f10 rfl rfl rfl rfl rfl rfl rfl ⟨rfl, rfl, rfl, rfl, rfl⟩ rfl rfl rfl rfl rfl (by kernel_rfl) Try.func10 (by kernel_rfl)
    (of_decide_eq_true (by kernel_rfl)) (by unfold Func.isWrapper; first | (rw [if_pos (by decide +kernel)]; kernel_rfl) | (rw [if_neg (by decide +kernel)]; exact ⟨rfl, rfl⟩))
    (fun os started H enc _ => scanJoins_lifted os started H enc)
#print axioms scanJoins_holds
end Go.Proofs.Ythelnccjcbnjfaa
end
