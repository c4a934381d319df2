/-
  ScanBlocks, part 6 of 6: what the proof that the law holds at whatever arguments stands on; the last part holds the theorem. No condition.
-/
import Derived.Test.YthelnccjcbnjfaaScanBlocksZ5
import Derived.Test.YthelnccjcbnjfaaRows
section
set_option linter.unusedSimpArgs false
set_option linter.unusedVariables false
set_option maxRecDepth 100000
namespace Go.Proofs.Ythelnccjcbnjfaa
open Go.Am Go.Proofs
set_option maxHeartbeats 4000000 in
theorem c23 (c d : Bool) (a b : List Int) (ha : a.length ≤ 1000000) : PCall Try.prog 23 [ints c a, ints d b] (bV (decide (a = b))) := by
 refine pcall_of_awp Try.func23 rfl (by simp [Try.ntmps23]) fun C hC => ?_
 refine awp_sr [] (by rw [hC]; rfl) fun k hk => ?_
 simp (maxSteps := 9^9) (disch := (try simp only [lens]); omega) only [argSl, sm, ↓amb, mark_eq, simprocAttr, dx]
 repeat refine ⟨by first | omega | (simp; done) | (unfold maxLen; omega) | (simp [maxLen]; omega) | assumption, ?_⟩
 refine hk _ ?_; clear hk k
 refine awp_seq fun k1 h1 => ?_
 refine awp_sr [] (by rw [hC]; rfl) fun k hk => ?_
 simp (maxSteps := 9^9) (disch := (try simp only [lens]); omega) only [argSl, sm, ↓amb, mark_eq, simprocAttr, el32, dx]
 repeat refine ⟨by first | omega | (simp; done) | (unfold maxLen; omega) | (simp [maxLen]; omega) | assumption, ?_⟩
 refine hk _ ?_; clear hk k
 refine awp_cond rfl (fun hb => ?_) (fun hb => ?_)
 ·try simp only [hbx] at hb
  refine awp_sr [] (by rw [hC]; rfl) fun k hk => ?_
  simp (maxSteps := 9^9) (disch := (try simp only [lens]); omega) only [argSl, sm, ↓amb, mark_eq, simprocAttr, dx]
  repeat refine ⟨by first | omega | (simp; done) | (unfold maxLen; omega) | (simp [maxLen]; omega) | assumption, ?_⟩
  refine hk _ ?_; clear hk k
  refine awp_ret ?_
  refine ret1 rfl rfl ?_
  exact .p (LeP.of_eq (by rw [decide_eq_false (fun e => hb (by rw [e]))]))
 ·try simp only [hbx] at hb
  refine awp_skip ?_
  refine h1 _ ?_; clear h1 k1
  refine awp_seq fun k2 h2 => ?_
  refine awp_sr [] (by rw [hC]; rfl) fun k hk => ?_
  simp (maxSteps := 9^9) (disch := (try simp only [lens]); omega) only [argSl, sm, ↓amb, mark_eq, simprocAttr, dx]
  repeat refine ⟨by first | omega | (simp; done) | (unfold maxLen; omega) | (simp [maxLen]; omega) | assumption, ?_⟩
  refine hk _ ?_; clear hk k
  refine awp_block ?_
  refine awp_loop (σ := Nat) (fun i => i ≤ a.length ∧ a.take i = b.take i) (fun (i : Nat) => ⟨[(0, (.p (ints c a))), (1, (.p (ints d b))), (5, (.p (iV i)))], [], 1⟩) (fun i => a.length - i) 0 ?_ ?_ fun x hx => ?_
  ·exact ⟨Nat.zero_le _, rfl⟩
  ·exact le_of [] (by rfl) (by rfl) ⟨⟨_, rfl, .p (.of_eq (by first | rfl | (simp only [PV.lit.injEq, Value.int.injEq, true_and]; omega) | (simp; done) | (simp; omega)))⟩, ⟨_, rfl, .p (.of_eq (by first | rfl | (simp only [PV.lit.injEq, Value.int.injEq, true_and]; omega) | (simp; done) | (simp; omega)))⟩, ⟨_, rfl, .p (.of_eq (by first | rfl | (simp only [PV.lit.injEq, Value.int.injEq, true_and]; omega) | (simp; done) | (simp; omega)))⟩, trivial⟩ trivial
  obtain ⟨hx1, hx2⟩ := hx
  refine awp_seq fun k4 h4 => ?_
  refine awp_sr [] (by rw [hC]; rfl) fun k hk => ?_
  simp (maxSteps := 9^9) (disch := (try simp only [lens]); omega) only [argSl, sm, ↓amb, mark_eq, simprocAttr, el32, dx]
  repeat refine ⟨by first | omega | (simp; done) | (unfold maxLen; omega) | (simp [maxLen]; omega) | assumption, ?_⟩
  refine hk _ ?_; clear hk k
  refine awp_cond rfl (fun hb => ?_) (fun hb => ?_)
  ·try simp only [hbx] at hb
   refine awp_skip ?_
   refine h4 _ ?_; clear h4 k4
   refine awp_seq fun k5 h5 => ?_
   refine awp_block ?_
   refine awp_sd [] ⟨[0, 0, 3, 7, 0, 0, 48, 112, 255], [3, 7], [], [], some []⟩ (by rw [hC]; rfl) (by kernel_rfl) (by kernel_rfl) fun k hk => ?_
   simp (maxSteps := 9^9) (disch := (try simp only [lens]); omega) only [argSl, sm, ↓amb, mark_eq, simprocAttr, el32, sz3, dx]
   repeat refine ⟨by first | omega | (simp; done) | (unfold maxLen; omega) | (simp [maxLen]; omega) | assumption, ?_⟩
   refine hk _ ?_; clear hk k
   refine awp_cond rfl (fun hb => ?_) (fun hb => ?_)
   ·try simp only [hbx] at hb
    refine awp_sr [] (by rw [hC]; rfl) fun k hk => ?_
    simp (maxSteps := 9^9) (disch := (try simp only [lens]); omega) only [argSl, sm, ↓amb, mark_eq, simprocAttr, dx]
    repeat refine ⟨by first | omega | (simp; done) | (unfold maxLen; omega) | (simp [maxLen]; omega) | assumption, ?_⟩
    refine hk _ ?_; clear hk k
    refine awp_ret ?_
    refine ret1 rfl rfl ?_
    exact .p (LeP.of_eq (by rw [decide_eq_false (fun e => hb (by rw [e]))]))
   ·try simp only [hbx] at hb
    refine awp_skip ?_
    refine h5 _ ?_; clear h5 k5
    refine awp_region [] (by rw [hC]; rfl) fun k hk => ?_
    simp (maxSteps := 9^9) (disch := (try simp only [lens]); omega) only [argSl, sm, ↓amb, mark_eq, simprocAttr, dx]
    repeat refine ⟨by first | omega | (simp; done) | (unfold maxLen; omega) | (simp [maxLen]; omega) | assumption, ?_⟩
    refine hk _ ?_; clear hk k
    refine ⟨x + 1, ⟨by omega, take_next hx2 (by omega) (by omega) hb⟩, le_of [] (by rfl) (by rfl) ⟨⟨_, rfl, .p (.of_eq (by first | rfl | (simp only [PV.lit.injEq, Value.int.injEq, true_and]; omega) | (simp; done) | (simp; omega)))⟩, ⟨_, rfl, .p (.of_eq (by first | rfl | (simp only [PV.lit.injEq, Value.int.injEq, true_and]; omega) | (simp; done) | (simp; omega)))⟩, ⟨_, rfl, .p (.of_eq (by first | rfl | (simp only [PV.lit.injEq, Value.int.injEq, true_and]; omega) | (simp; done) | (simp; omega)))⟩, trivial⟩ trivial, by omega⟩
  ·try simp only [hbx] at hb
   refine awp_exit ((if_pos rfl).mpr ?_)
   refine h2 _ ?_; clear h4 k4; clear h2 k2
   refine awp_sr [] (by rw [hC]; rfl) fun k hk => ?_
   simp (maxSteps := 9^9) (disch := (try simp only [lens]); omega) only [argSl, sm, ↓amb, mark_eq, simprocAttr, dx]
   repeat refine ⟨by first | omega | (simp; done) | (unfold maxLen; omega) | (simp [maxLen]; omega) | assumption, ?_⟩
   refine hk _ ?_; clear hk k
   refine awp_ret ?_
   refine ret1 rfl rfl ?_
   exact .p (LeP.of_eq (by rw [decide_eq_true (by rwa [List.take_of_length_le (by omega), List.take_of_length_le (by omega)] at hx2)]))
end Go.Proofs.Ythelnccjcbnjfaa
end
section
set_option linter.unusedSimpArgs false
set_option linter.unusedVariables false
set_option maxRecDepth 100000
namespace Go.Proofs.Ythelnccjcbnjfaa
open Go.Am Go.Proofs
theorem bt26 : tBuilt Try.prog 26 = true := by kernel_rfl
theorem en22 : enters Try.prog 22 = true := by kernel_rfl
theorem en31 : enters Try.prog 31 = true := by kernel_rfl
theorem en33 : enters Try.prog 33 = true := by kernel_rfl
theorem en35 : enters Try.prog 35 = true := by kernel_rfl
theorem en37 : enters Try.prog 37 = true := by kernel_rfl
theorem pl26_0 : tPlace Try.prog 26 0 = some (0, 1) := by kernel_rfl
theorem pl26_1 : tPlace Try.prog 26 1 = some (1, 1) := by kernel_rfl
theorem vr26 : tVar Try.prog 26 = some (true, [.lit (.int .i64 0), .lit (.int .i64 0), .seq true []]) := by kernel_rfl
set_option maxHeartbeats 4000000 in
theorem c_law08_alive : PCall Try.prog 30 [] (bV true) := by
 refine pcall_of_awp Try.func30 rfl (by simp [Try.ntmps30]) fun C hC => ?_
 refine awp_le (le_keep []) ?_
 simp only [kp, argSl, simprocAttr]
 have a1 := c_scan_Sums true true ([3, 1, 2, 4294967295] : List Int) 2 (⟨1, 1, []⟩ : Pl.Plan) (by decide)
 rw [show Pl.scL Pl.add32 ([3, 1, 2, 4294967295] : List Int) 2 (⟨1, 1, []⟩ : Pl.Plan) = ([0, 3, 4, 6] : List Int) from by decide +kernel] at a1
 rw [show Pl.scT Pl.add32 ([3, 1, 2, 4294967295] : List Int) 2 (⟨1, 1, []⟩ : Pl.Plan) = 5 from by decide +kernel] at a1
 rw [show Pl.scS ([3, 1, 2, 4294967295] : List Int).length 2 (⟨1, 1, []⟩ : Pl.Plan) = 6 from by decide +kernel] at a1
 rw [show Pl.scE ([3, 1, 2, 4294967295] : List Int).length 2 (⟨1, 1, []⟩ : Pl.Plan) = 0 from by decide +kernel] at a1
 have a2 := c_scan_Highest true true ([2, 5, 1, 7] : List Int) 3 (⟨1, 1, []⟩ : Pl.Plan) (by decide) (by decide)
 rw [show Pl.hiL ([2, 5, 1, 7] : List Int) 3 (⟨1, 1, []⟩ : Pl.Plan) = ([2, 5, 5, 7] : List Int) from by decide +kernel] at a2
 rw [show Pl.scS ([2, 5, 1, 7] : List Int).length 3 (⟨1, 1, []⟩ : Pl.Plan) = 6 from by decide +kernel] at a2
 rw [show Pl.scE ([2, 5, 1, 7] : List Int).length 3 (⟨1, 1, []⟩ : Pl.Plan) = 0 from by decide +kernel] at a2
 have a3 := c_scan_Sums true true ([3, 1, 2, 4294967295] : List Int) 0 (⟨1, 1, []⟩ : Pl.Plan) (by decide)
 rw [show Pl.scL Pl.add32 ([3, 1, 2, 4294967295] : List Int) 0 (⟨1, 1, []⟩ : Pl.Plan) = ([] : List Int) from by decide +kernel] at a3
 rw [show Pl.scT Pl.add32 ([3, 1, 2, 4294967295] : List Int) 0 (⟨1, 1, []⟩ : Pl.Plan) = 0 from by decide +kernel] at a3
 rw [show Pl.scS ([3, 1, 2, 4294967295] : List Int).length 0 (⟨1, 1, []⟩ : Pl.Plan) = 0 from by decide +kernel] at a3
 rw [show Pl.scE ([3, 1, 2, 4294967295] : List Int).length 0 (⟨1, 1, []⟩ : Pl.Plan) = 1 from by decide +kernel] at a3
 have a4 := c_ref07_Words false true ([0, 3, 4, 6] : List Int) ([0, 3, 4, 6] : List Int) (by decide)
 have a5 := c_ref07_Words false true ([2, 5, 5, 7] : List Int) ([2, 5, 5, 7] : List Int) (by decide)
 have a6 := c_scan_Blocks 7 3
 rw [show Pl.blk 7 3 = 3 from by decide +kernel] at a6
 have a7 := c_scan_Totals true ([3, 1, 2, 4294967295] : List Int) 3 (by decide)
 rw [show Pl.totR ([3, 1, 2, 4294967295] : List Int) 3 = ([6, 4294967295] : List Int) from by decide +kernel] at a7
 have a8 := c_ref07_Words false true ([6, 4294967295] : List Int) ([6, 4294967295] : List Int) (by decide)
 have a9 := c_scan_Back false ([0, 3, 4, 6] : List Int) 5 (by decide) ⟨by decide, by decide⟩ (by decide)
 rw [show Pl.backL ([0, 3, 4, 6] : List Int) 5 ([0, 3, 4, 6] : List Int).length = ([3, 1, 2, 4294967295] : List Int) from by decide +kernel] at a9
 have a10 := c_ref07_Words false true ([3, 1, 2, 4294967295] : List Int) ([3, 1, 2, 4294967295] : List Int) (by decide)
 refine awp_sr [] (by rw [hC]; rfl) fun k hk => ?_
 simp (maxSteps := 9^9) (disch := (try simp only [lens]); omega) only [argSl, sm, ↓amb, mark_eq, simprocAttr, dx]
 repeat refine ⟨by first | omega | (simp; done) | (unfold maxLen; omega) | (simp [maxLen]; omega) | assumption, ?_⟩
 refine hk _ ?_; clear hk k
 refine awp_le (le_keep []) ?_
 simp only [kp, argSl, simprocAttr]
 refine awp_sr [] (by rw [hC]; rfl) fun k hk => ?_
 simp (maxSteps := 9^9) (disch := (try simp only [lens]); omega) only [argSl, sm, ↓amb, mark_eq, simprocAttr, vr26, bt26, pl26_0, pl26_1, sz26, dx]
 repeat refine ⟨by first | omega | (simp; done) | (unfold maxLen; omega) | (simp [maxLen]; omega) | assumption, ?_⟩
 refine hk _ ?_; clear hk k
 refine awp_le (le_keep [1]) ?_
 simp only [kp, argSl, simprocAttr]
 refine awp_sr [] (by rw [hC]; rfl) fun k hk => ?_
 simp (maxSteps := 9^9) (disch := (try simp only [lens]); omega) only [argSl, sm, ↓amb, mark_eq, simprocAttr, el22, vr28, dx]
 repeat refine ⟨by first | omega | (simp; done) | (unfold maxLen; omega) | (simp [maxLen]; omega) | assumption, ?_⟩
 refine hk _ ?_; clear hk k
 refine awp_le (le_keep [1, 2]) ?_
 simp only [kp, argSl, simprocAttr]
 refine awp_sr [] (by rw [hC]; rfl) fun k hk => ?_
 simp (maxSteps := 9^9) (disch := (try simp only [lens]); omega) only [argSl, sm, ↓amb, mark_eq, simprocAttr, sz26, en31, dx]
 repeat refine ⟨by first | omega | (simp; done) | (unfold maxLen; omega) | (simp [maxLen]; omega) | assumption, ?_⟩
 refine callK_p (a1) rfl ?_
 simp (maxSteps := 9^9) (disch := (try simp only [lens]); omega) only [argSl, sm, ↓amb, mark_eq, simprocAttr, sz26, en31, dx]
 repeat refine ⟨by first | omega | (simp; done) | (unfold maxLen; omega) | (simp [maxLen]; omega) | assumption, ?_⟩
 refine hk _ ?_; clear hk k
 refine awp_le (le_keep [1, 2, 3, 4, 5, 6]) ?_
 simp only [kp, argSl, simprocAttr]
 refine awp_sr [] (by rw [hC]; rfl) fun k hk => ?_
 simp (maxSteps := 9^9) (disch := (try simp only [lens]); omega) only [argSl, sm, ↓amb, mark_eq, simprocAttr, el22, vr28, sz26, en33, dx]
 repeat refine ⟨by first | omega | (simp; done) | (unfold maxLen; omega) | (simp [maxLen]; omega) | assumption, ?_⟩
 refine callK_p (a2) rfl ?_
 simp (maxSteps := 9^9) (disch := (try simp only [lens]); omega) only [argSl, sm, ↓amb, mark_eq, simprocAttr, el22, vr28, sz26, en33, dx]
 repeat refine ⟨by first | omega | (simp; done) | (unfold maxLen; omega) | (simp [maxLen]; omega) | assumption, ?_⟩
 refine hk _ ?_; clear hk k
 refine awp_le (le_keep [1, 2, 3, 4, 5, 6, 7, 8, 9]) ?_
 simp only [kp, argSl, simprocAttr]
 refine awp_sr [] (by rw [hC]; rfl) fun k hk => ?_
 simp (maxSteps := 9^9) (disch := (try simp only [lens]); omega) only [argSl, sm, ↓amb, mark_eq, simprocAttr, sz26, en31, dx]
 repeat refine ⟨by first | omega | (simp; done) | (unfold maxLen; omega) | (simp [maxLen]; omega) | assumption, ?_⟩
 refine callK_p (a3) rfl ?_
 simp (maxSteps := 9^9) (disch := (try simp only [lens]); omega) only [argSl, sm, ↓amb, mark_eq, simprocAttr, sz26, en31, dx]
 repeat refine ⟨by first | omega | (simp; done) | (unfold maxLen; omega) | (simp [maxLen]; omega) | assumption, ?_⟩
 refine hk _ ?_; clear hk k
 refine awp_test [] 0 (decide (True)) [] (by rw [hC]; rfl) (fun gd hgd k hk => ?_) ?_
 ·have g2 : gd 2 = some 41 := by rw [hgd]; rfl
  have g6 : gd 6 = some 45 := by rw [hgd]; rfl
  have g10 : gd 10 = some 49 := by rw [hgd]; rfl
  have g14 : gd 14 = some 53 := by rw [hgd]; rfl
  have g18 : gd 18 = some 57 := by rw [hgd]; rfl
  have g22 : gd 22 = some 61 := by rw [hgd]; rfl
  have g27 : gd 27 = some 66 := by rw [hgd]; rfl
  have g32 : gd 32 = some 71 := by rw [hgd]; rfl
  have g36 : gd 36 = some 75 := by rw [hgd]; rfl
  have g42 : gd 42 = some 81 := by rw [hgd]; rfl
  clear hgd
  simp (maxSteps := 9^9) (disch := (try simp only [lens]); omega) only [argSl, sm, ↓amb, mark_eq, simprocAttr, el22, vr28, en22, en39, en35, en37, gcase_undef, g2, g6, g10, g14, g18, g22, g27, g32, g36, g42, dx]
  repeat' first | refine hk _ _ rfl rfl rfl rfl ?_ | (refine gsplit (fun hg => ?_) (fun hg => ?_) <;> (try simp only [hbx] at hg) <;> simp (maxSteps := 9^9) (disch := (try simp only [lens]); omega) only [argSl, sm, ↓amb, mark_eq, simprocAttr, el22, vr28, en22, en39, en35, en37, gcase_undef, g2, g6, g10, g14, g18, g22, g27, g32, g36, g42, dx]) | apply And.intro | (refine callK_p (a4) rfl ?_; (try simp (maxSteps := 9^9) (disch := (try simp only [lens]); omega) only [argSl, sm, ↓amb, mark_eq, simprocAttr, el22, vr28, en22, en39, en35, en37, gcase_undef, g2, g6, g10, g14, g18, g22, g27, g32, g36, g42, dx])) | (refine callK_p (a5) rfl ?_; (try simp (maxSteps := 9^9) (disch := (try simp only [lens]); omega) only [argSl, sm, ↓amb, mark_eq, simprocAttr, el22, vr28, en22, en39, en35, en37, gcase_undef, g2, g6, g10, g14, g18, g22, g27, g32, g36, g42, dx])) | (refine callK_p (a6) rfl ?_; (try simp (maxSteps := 9^9) (disch := (try simp only [lens]); omega) only [argSl, sm, ↓amb, mark_eq, simprocAttr, el22, vr28, en22, en39, en35, en37, gcase_undef, g2, g6, g10, g14, g18, g22, g27, g32, g36, g42, dx])) | (refine callK_p (a7) rfl ?_; (try simp (maxSteps := 9^9) (disch := (try simp only [lens]); omega) only [argSl, sm, ↓amb, mark_eq, simprocAttr, el22, vr28, en22, en39, en35, en37, gcase_undef, g2, g6, g10, g14, g18, g22, g27, g32, g36, g42, dx])) | (refine callK_p (a8) rfl ?_; (try simp (maxSteps := 9^9) (disch := (try simp only [lens]); omega) only [argSl, sm, ↓amb, mark_eq, simprocAttr, el22, vr28, en22, en39, en35, en37, gcase_undef, g2, g6, g10, g14, g18, g22, g27, g32, g36, g42, dx])) | (refine callK_p (a9) rfl ?_; (try simp (maxSteps := 9^9) (disch := (try simp only [lens]); omega) only [argSl, sm, ↓amb, mark_eq, simprocAttr, el22, vr28, en22, en39, en35, en37, gcase_undef, g2, g6, g10, g14, g18, g22, g27, g32, g36, g42, dx])) | (refine callK_p (a10) rfl ?_; (try simp (maxSteps := 9^9) (disch := (try simp only [lens]); omega) only [argSl, sm, ↓amb, mark_eq, simprocAttr, el22, vr28, en22, en39, en35, en37, gcase_undef, g2, g6, g10, g14, g18, g22, g27, g32, g36, g42, dx])) | fail
  all_goals first | rfl | omega | exact (decide_eq_true (by omega)).symm | exact (decide_eq_false (by omega)).symm | exact decide_eq_decide.mpr (by omega) | (refine Bool.eq_iff_iff.mpr ?_; simp only [beq_iff_eq, bne_iff_ne, ne_eq, decide_eq_true_eq]; omega) | (refine Bool.eq_iff_iff.mpr ?_; simp only [Bool.not_eq_true', Bool.not_eq_false', decide_eq_false_iff_not, decide_eq_true_eq, beq_iff_eq, bne_iff_ne, ne_eq]; omega) | assumption | (simp; done) | (simp [maxLen]; omega) | skip
 simp only [kp, argSl, simprocAttr, List.length_cons, List.length_nil]
 refine awp_ret ?_
 refine ret1 rfl rfl ?_
 exact .p (LeP.refl _)
end Go.Proofs.Ythelnccjcbnjfaa
end
section
set_option linter.unusedSimpArgs false
set_option linter.unusedVariables false
namespace Go.Pl
theorem scE_yes {n : Nat} {bl : Int} {p : Plan} (h1 : 1 ≤ bl ∧ bl ≤ 100) (hn : n ≤ 1000) (hp : planRight p) : scE n bl p = 0 := by
  have := blk_nn n bl
  exact sc_iff.2 ⟨h1, hn, this.1, this.2, hp⟩
theorem self_map (l : List Int) : (List.range l.length).map (fun j => l.getD j 0) = l := by
  refine List.ext_getElem (by simp) fun i h1 h2 => ?_
  simp [List.getD_eq_getElem?_getD, List.getElem?_eq_getElem h2]
theorem back_id {l : List Int} (hl : ∀ x, x ∈ l → W32 x) : backL (aheadF add32 l) (allF add32 l) (aheadF add32 l).length = l := by
  rw [aheadF_len]
  refine Eq.trans ?_ (self_map l)
  unfold backL
  refine List.map_congr_left fun j hj => ?_
  have hj := List.mem_range.1 hj
  have h1 : (if j + 1 < (aheadF add32 l).length then (aheadF add32 l).getD (j + 1) 0 else allF add32 l) = allF add32 (l.take (j + 1)) := by
    rw [aheadF_len]
    split
    · rename_i h; exact aheadF_get _ _ h
    · rw [List.take_of_length_le (by omega)]
  rw [h1, aheadF_get _ _ hj, allF_take _ _ _ hj]
  have h2 := allF_w rule_add (take_w (i := j) hl)
  have h3 := getD_w hl j
  unfold add32 W32 at *
  omega
theorem tot_sum {l : List Int} (hl : ∀ x, x ∈ l → W32 x) {b : Int} (hb : 1 ≤ b ∧ b ≤ 100) (hn : l.length ≤ 1000) : allF add32 (totR l b) = allF add32 l := by
  unfold totR
  rw [if_pos ⟨by omega, by omega, by omega, by omega⟩]
  exact allF_tots rule_add hl (by omega)
theorem tot_len (l : List Int) (b : Int) : ((totR l b).length : Int) = blk l.length b := by
  unfold totR
  by_cases h : blkOk' l.length b
  · rw [if_pos h, totF_len]
    obtain ⟨q1, q2, q3, q4⟩ := h
    obtain ⟨B, rfl⟩ := Int.eq_ofNat_of_zero_le (show 0 ≤ b by omega)
    rw [blk_nat (by omega) (by omega), Int.toNat_natCast]
  · rw [if_neg h]; unfold blk; rw [if_neg h]; rfl
theorem totR_w {l : List Int} (hl : ∀ x, x ∈ l → W32 x) (b : Int) : ∀ x, x ∈ totR l b → W32 x := by
  unfold totR
  split
  · exact totF_w rule_add hl _ _
  · intro x h; cases h
end Go.Pl
end
section
set_option linter.unusedSimpArgs false
set_option linter.unusedVariables false
set_option maxRecDepth 100000
namespace Go.Proofs.Ythelnccjcbnjfaa
open Go.Am Go.Proofs
theorem ar55 : tArr Try.prog 55 = some (2, 1, false) := by kernel_rfl
theorem el55 : tEl Try.prog 55 = none := by kernel_rfl
theorem en30 : enters Try.prog 30 = true := by kernel_rfl
theorem it3 : tInt Try.prog 3 = some .i64 := by kernel_rfl
theorem sz5 : tSz Try.prog 5 = some (false, 1) := by kernel_rfl
theorem un5 : (Try.prog.underlying 5).isSome = true := by kernel_rfl
set_option maxHeartbeats 4000000 in
theorem c_law08_ScanBlocks (l : List Int) (q : Int × Int) (p : Pl.Plan) (hl : ∀ x, x ∈ l → Pl.W32 x) (hq : (0 ≤ q.1 ∧ q.1 ≤ 255) ∧ 0 ≤ q.2 ∧ q.2 ≤ 255) : PCall Try.prog 8 [words false l, .agg [.lit (.int .u8 q.1), .lit (.int .u8 q.2)], .agg (planC false p)] (bV true) := by
 refine pcall_of_awp Try.func8 rfl (by simp [Try.ntmps8]) fun C hC => ?_
 refine awp_le (le_keep [0, 1, 2]) ?_
 simp only [kp, argSl, simprocAttr]
 refine awp_sr [] (by rw [hC]; rfl) fun k hk => ?_
 simp (maxSteps := 9^9) (disch := (try simp only [lens]); omega) only [argSl, sm, ↓amb, mark_eq, simprocAttr, wr_u32, dx]
 repeat refine ⟨by first | omega | (simp; done) | (unfold maxLen; omega) | (simp [maxLen]; omega) | assumption, ?_⟩
 refine hk _ ?_; clear hk k
 refine awp_seq fun k1 h1 => ?_
 refine awp_le (le_keep [0, 4, 5, 6]) ?_
 simp only [kp, argSl, simprocAttr]
 refine awp_sr [] (by rw [hC]; rfl) fun k hk => ?_
 simp (maxSteps := 9^9) (disch := (try simp only [lens]); omega) only [argSl, sm, ↓amb, mark_eq, simprocAttr, en30, wr_u32, dx]
 repeat refine ⟨by first | omega | (simp; done) | (unfold maxLen; omega) | (simp [maxLen]; omega) | assumption, ?_⟩
 refine callK_p (c_law08_alive) rfl ?_
 simp (maxSteps := 9^9) (disch := (try simp only [lens]); omega) only [argSl, sm, ↓amb, mark_eq, simprocAttr, en30, wr_u32, dx]
 repeat refine ⟨by first | omega | (simp; done) | (unfold maxLen; omega) | (simp [maxLen]; omega) | assumption, ?_⟩
 refine hk _ ?_; clear hk k
 refine awp_cond rfl (fun hb => ?_) (fun hb => ?_)
 ·try simp only [hbx] at hb
  refine awp_le (le_keep []) ?_
  simp only [kp, argSl, simprocAttr]
  refine awp_sr [] (by rw [hC]; rfl) fun k hk => ?_
  simp (maxSteps := 9^9) (disch := (try simp only [lens]); omega) only [argSl, sm, ↓amb, mark_eq, simprocAttr, wr_u32, dx]
  repeat refine ⟨by first | omega | (simp; done) | (unfold maxLen; omega) | (simp [maxLen]; omega) | assumption, ?_⟩
  refine hk _ ?_; clear hk k
  refine awp_ret ?_
  exact absurd hb (by simp)
 ·try simp only [hbx] at hb
  refine awp_skip ?_
  refine h1 _ ?_; clear h1 k1
  refine awp_seq fun k2 h2 => ?_
  refine awp_test [] 33 (decide (100 < l.length ∨ 200 < p.picks.length ∨ ¬ Pl.planRight p)) [0, 4, 5, 6] (by rw [hC]; rfl) (fun gd hgd k hk => ?_) ?_
  ·have g3 : gd 3 = some 23 := by rw [hgd]; rfl
   have g9 : gd 9 = some 29 := by rw [hgd]; rfl
   clear hgd
   simp (maxSteps := 9^9) (disch := (try simp only [lens]); omega) only [argSl, sm, ↓amb, mark_eq, simprocAttr, el22, fl26_2, sz24, el24, sz26, en25, gcase_undef, g3, g9, wr_u32, dx]
   repeat' first | refine hk _ _ rfl rfl rfl rfl ?_ | (refine gsplit (fun hg => ?_) (fun hg => ?_) <;> (try simp only [hbx] at hg) <;> simp (maxSteps := 9^9) (disch := (try simp only [lens]); omega) only [argSl, sm, ↓amb, mark_eq, simprocAttr, el22, fl26_2, sz24, el24, sz26, en25, gcase_undef, g3, g9, wr_u32, dx]) | apply And.intro | (refine callK_p (c_ref07_Right _ _) rfl ?_; (try simp (maxSteps := 9^9) (disch := (try simp only [lens]); omega) only [argSl, sm, ↓amb, mark_eq, simprocAttr, el22, fl26_2, sz24, el24, sz26, en25, gcase_undef, g3, g9, wr_u32, dx])) | fail
   all_goals first | rfl | omega | exact (decide_eq_true (by omega)).symm | exact (decide_eq_false (by omega)).symm | exact decide_eq_decide.mpr (by omega) | (refine Bool.eq_iff_iff.mpr ?_; simp only [beq_iff_eq, bne_iff_ne, ne_eq, decide_eq_true_eq]; omega) | (refine Bool.eq_iff_iff.mpr ?_; simp only [Bool.not_eq_true', Bool.not_eq_false', decide_eq_false_iff_not, decide_eq_true_eq, beq_iff_eq, bne_iff_ne, ne_eq]; omega) | assumption | (simp; done) | (simp [maxLen]; omega) | skip
   all_goals (refine Bool.eq_iff_iff.mpr ?_; simp only [Bool.not_eq_true', decide_eq_false_iff_not, decide_eq_true_eq]; exact ⟨fun h => .inr (.inr h), fun h => h.elim (fun q => by omega) (fun q => q.elim (fun q => by omega) id)⟩)
  simp only [kp, argSl, simprocAttr, List.length_cons, List.length_nil]
  refine awp_cond rfl (fun hb => ?_) (fun hb => ?_)
  ·try simp only [hbx] at hb
   refine awp_le (le_keep []) ?_
   simp only [kp, argSl, simprocAttr]
   refine awp_sr [] (by rw [hC]; rfl) fun k hk => ?_
   simp (maxSteps := 9^9) (disch := (try simp only [lens]); omega) only [argSl, sm, ↓amb, mark_eq, simprocAttr, wr_u32, dx]
   repeat refine ⟨by first | omega | (simp; done) | (unfold maxLen; omega) | (simp [maxLen]; omega) | assumption, ?_⟩
   refine hk _ ?_; clear hk k
   refine awp_ret ?_
   refine ret1 rfl rfl ?_
   exact .p (LeP.refl _)
  ·try simp only [hbx] at hb
   refine awp_skip ?_
   refine h2 _ ?_; clear h2 k2
   refine awp_le (le_keep [0, 4, 5]) ?_
   simp only [kp, argSl, simprocAttr]
   have hpr : Pl.planRight p ∧ l.length ≤ 100 := by refine ⟨?_, by omega⟩; exact Decidable.byContradiction fun q => by first | exact hb (.inr (.inr q)) | omega
   have he1 : Pl.scE l.length (1 + q.1 % 100) p = 0 := Pl.scE_yes (by omega) (by omega) hpr.1
   have he2 : Pl.scE l.length (1 + q.2 % 100) (⟨1, 1, []⟩ : Pl.Plan) = 0 := Pl.scE_yes (by omega) (by omega) (by decide)
   have f1 := c_scan_Sums false false l (1 + q.1 % 100) p hl
   rw [he1, show Pl.scL Pl.add32 l (1 + q.1 % 100) p = (Pl.aheadF Pl.add32 l) from if_pos he1, show Pl.scT Pl.add32 l (1 + q.1 % 100) p = (Pl.allF Pl.add32 l) from if_pos he1] at f1
   have f2 := c_scan_Sums false true l (1 + q.2 % 100) (⟨1, 1, []⟩ : Pl.Plan) hl
   rw [he2, show Pl.scL Pl.add32 l (1 + q.2 % 100) (⟨1, 1, []⟩ : Pl.Plan) = (Pl.aheadF Pl.add32 l) from if_pos he2, show Pl.scT Pl.add32 l (1 + q.2 % 100) (⟨1, 1, []⟩ : Pl.Plan) = (Pl.allF Pl.add32 l) from if_pos he2] at f2
   have hal : (Pl.aheadF Pl.add32 l).length ≤ 1000000 := by rw [Pl.aheadF_len]; omega
   have f3 := c_scan_Back false (Pl.aheadF Pl.add32 l) (Pl.allF Pl.add32 l) (Pl.aheadF_w Pl.rule_add hl) (Pl.allF_w Pl.rule_add hl) hal
   rw [Pl.back_id hl] at f3
   have hTw := Pl.totR_w hl (1 + q.1 % 100)
   have htb := Pl.totR_len l (1 + q.1 % 100)
   refine awp_sr [] (by rw [hC]; rfl) fun k hk => ?_
   simp (maxSteps := 9^9) (disch := (try simp only [lens]); omega) only [argSl, sm, ↓amb, mark_eq, simprocAttr, el55, ar55, sz5, it3, un5, sz26, en31, wr_u32, dx]
   repeat refine ⟨by first | omega | (simp; done) | (unfold maxLen; omega) | (simp [maxLen]; omega) | assumption, ?_⟩
   refine callK_p (f1) rfl ?_
   simp (maxSteps := 9^9) (disch := (try simp only [lens]); omega) only [argSl, sm, ↓amb, mark_eq, simprocAttr, el55, ar55, sz5, it3, un5, sz26, en31, wr_u32, dx]
   repeat refine ⟨by first | omega | (simp; done) | (unfold maxLen; omega) | (simp [maxLen]; omega) | assumption, ?_⟩
   refine hk _ ?_; clear hk k
   refine awp_le (le_keep [0, 4, 7, 8, 10]) ?_
   simp only [kp, argSl, simprocAttr]
   refine awp_sr [] (by rw [hC]; rfl) fun k hk => ?_
   simp (maxSteps := 9^9) (disch := (try simp only [lens]); omega) only [argSl, sm, ↓amb, mark_eq, simprocAttr, el55, ar55, sz5, it3, un5, vr26, bt26, pl26_0, pl26_1, en31, wr_u32, dx]
   repeat refine ⟨by first | omega | (simp; done) | (unfold maxLen; omega) | (simp [maxLen]; omega) | assumption, ?_⟩
   refine callK_p (f2) rfl ?_
   simp (maxSteps := 9^9) (disch := (try simp only [lens]); omega) only [argSl, sm, ↓amb, mark_eq, simprocAttr, el55, ar55, sz5, it3, un5, vr26, bt26, pl26_0, pl26_1, en31, wr_u32, dx]
   repeat refine ⟨by first | omega | (simp; done) | (unfold maxLen; omega) | (simp [maxLen]; omega) | assumption, ?_⟩
   refine hk _ ?_; clear hk k
   refine awp_seq fun k3 h3 => ?_
   refine awp_test [] 84 (decide (False)) [0, 4, 6, 8] (by rw [hC]; rfl) (fun gd hgd k hk => ?_) ?_
   ·have g2 : gd 2 = some 62 := by rw [hgd]; rfl
    have g6 : gd 6 = some 66 := by rw [hgd]; rfl
    have g11 : gd 11 = some 71 := by rw [hgd]; rfl
    have g17 : gd 17 = some 77 := by rw [hgd]; rfl
    clear hgd
    simp (maxSteps := 9^9) (disch := (try simp only [lens]); omega) only [argSl, sm, ↓amb, mark_eq, simprocAttr, en22, en37, gcase_undef, g2, g6, g11, g17, wr_u32, dx]
    repeat' first | refine hk _ _ rfl rfl rfl rfl ?_ | (refine gsplit (fun hg => ?_) (fun hg => ?_) <;> (try simp only [hbx] at hg) <;> simp (maxSteps := 9^9) (disch := (try simp only [lens]); omega) only [argSl, sm, ↓amb, mark_eq, simprocAttr, en22, en37, gcase_undef, g2, g6, g11, g17, wr_u32, dx]) | apply And.intro | (refine callK_p (c_ref07_Words false false (Pl.aheadF Pl.add32 l) (Pl.aheadF Pl.add32 l) hal) rfl ?_; (try simp (maxSteps := 9^9) (disch := (try simp only [lens]); omega) only [argSl, sm, ↓amb, mark_eq, simprocAttr, en22, en37, gcase_undef, g2, g6, g11, g17, wr_u32, dx])) | (refine callK_p (f3) rfl ?_; (try simp (maxSteps := 9^9) (disch := (try simp only [lens]); omega) only [argSl, sm, ↓amb, mark_eq, simprocAttr, en22, en37, gcase_undef, g2, g6, g11, g17, wr_u32, dx])) | (refine callK_p (c_ref07_Words false false l l (by omega)) rfl ?_; (try simp (maxSteps := 9^9) (disch := (try simp only [lens]); omega) only [argSl, sm, ↓amb, mark_eq, simprocAttr, en22, en37, gcase_undef, g2, g6, g11, g17, wr_u32, dx])) | fail
    all_goals first | rfl | omega | exact (decide_eq_true (by omega)).symm | exact (decide_eq_false (by omega)).symm | exact decide_eq_decide.mpr (by omega) | (refine Bool.eq_iff_iff.mpr ?_; simp only [beq_iff_eq, bne_iff_ne, ne_eq, decide_eq_true_eq]; omega) | (refine Bool.eq_iff_iff.mpr ?_; simp only [Bool.not_eq_true', Bool.not_eq_false', decide_eq_false_iff_not, decide_eq_true_eq, beq_iff_eq, bne_iff_ne, ne_eq]; omega) | assumption | (simp; done) | (simp [maxLen]; omega) | skip
    all_goals first | rfl | (exfalso; omega) | (simp; done) | (simp_all; done) | trace_state
   simp only [kp, argSl, simprocAttr, List.length_cons, List.length_nil]
   refine awp_cond rfl (fun hb => ?_) (fun hb => ?_)
   ·exact absurd hb (by simp)
   ·try simp only [hbx] at hb
    refine awp_skip ?_
    refine h3 _ ?_; clear h3 k3
    refine awp_le (le_keep [0, 4, 8]) ?_
    simp only [kp, argSl, simprocAttr]
    refine awp_sr [] (by rw [hC]; rfl) fun k hk => ?_
    simp (maxSteps := 9^9) (disch := (try simp only [lens]); omega) only [argSl, sm, ↓amb, mark_eq, simprocAttr, el55, ar55, sz5, it3, un5, en35, wr_u32, dx]
    repeat refine ⟨by first | omega | (simp; done) | (unfold maxLen; omega) | (simp [maxLen]; omega) | assumption, ?_⟩
    refine callK_p (c_scan_Totals false l (1 + q.1 % 100) hl) rfl ?_
    simp (maxSteps := 9^9) (disch := (try simp only [lens]); omega) only [argSl, sm, ↓amb, mark_eq, simprocAttr, el55, ar55, sz5, it3, un5, en35, wr_u32, dx]
    repeat refine ⟨by first | omega | (simp; done) | (unfold maxLen; omega) | (simp [maxLen]; omega) | assumption, ?_⟩
    refine hk _ ?_; clear hk k
    refine awp_le (le_keep [0, 4, 8, 15]) ?_
    simp only [kp, argSl, simprocAttr]
    refine awp_sr [] (by rw [hC]; rfl) fun k hk => ?_
    simp (maxSteps := 9^9) (disch := (try simp only [lens]); omega) only [argSl, sm, ↓amb, mark_eq, simprocAttr, wr_u32, dx]
    repeat refine ⟨by first | omega | (simp; done) | (unfold maxLen; omega) | (simp [maxLen]; omega) | assumption, ?_⟩
    refine hk _ ?_; clear hk k
    refine awp_seq fun k4 h4 => ?_
    refine awp_le (le_keep [0, 4, 6, 8, 15, 16]) ?_
    simp only [kp, argSl, simprocAttr]
    refine awp_sr [] (by rw [hC]; rfl) fun k hk => ?_
    simp (maxSteps := 9^9) (disch := (try simp only [lens]); omega) only [argSl, sm, ↓amb, mark_eq, simprocAttr, wr_u32, dx]
    repeat refine ⟨by first | omega | (simp; done) | (unfold maxLen; omega) | (simp [maxLen]; omega) | assumption, ?_⟩
    refine hk _ ?_; clear hk k
    refine awp_block ?_
    refine awp_loop (σ := Nat) (fun i => i ≤ (Pl.totR l (1 + q.1 % 100)).length) (fun (i : Nat) => ⟨[(0, (.p (words false l))), (4, (.ptr 0 2 0 0)), (8, (.p (u32V (Pl.allF Pl.add32 l)))), (15, (.p (words false (Pl.totR l (1 + q.1 % 100))))), (16, (.p (u32V (Pl.allF Pl.add32 ((Pl.totR l (1 + q.1 % 100)).take i))))), (17, (.p (iV (i : Int))))], [(0, (.row 2 [[.p (.lit (.int .u8 q.1)), .p (.lit (.int .u8 q.2))]]))], 1⟩) (fun i => (Pl.totR l (1 + q.1 % 100)).length - i) 0 ?_ ?_ fun i hi => ?_
    ·exact Nat.zero_le _
    ·exact le_of [(0, _)] (by rfl) (by rfl) ⟨⟨_, rfl, .p (.of_eq (by first | rfl | (simp only [PV.lit.injEq, Value.int.injEq, true_and]; omega) | (simp; done) | (simp; omega)))⟩, ⟨_, rfl, .ptr rfl⟩, ⟨_, rfl, .p (.of_eq (by first | rfl | (simp only [PV.lit.injEq, Value.int.injEq, true_and]; omega) | (simp; done) | (simp; omega)))⟩, ⟨_, rfl, .p (.of_eq (by first | rfl | (simp only [PV.lit.injEq, Value.int.injEq, true_and]; omega) | (simp; done) | (simp; omega)))⟩, ⟨_, rfl, .p (.of_eq (by first | rfl | (rw [Pl.allF_take _ (Pl.totR l (1 + q.1 % 100)) i (by omega)]; first | done | rfl) | trace_state))⟩, ⟨_, rfl, .p (.of_eq (by first | rfl | (simp only [PV.lit.injEq, Value.int.injEq, true_and]; omega) | (simp; done) | (simp; omega)))⟩, trivial⟩ ⟨⟨_, rfl, _, rfl, .one (.cons (.p (.refl _)) (.cons (.p (.refl _)) (.nil)))⟩, trivial⟩
    refine awp_seq fun k6 h6 => ?_
    refine awp_le (le_keep [0, 4, 6, 8, 15, 16, 17]) ?_
    simp only [kp, argSl, simprocAttr]
    refine awp_sr [] (by rw [hC]; rfl) fun k hk => ?_
    simp (maxSteps := 9^9) (disch := (try simp only [lens]); omega) only [argSl, sm, ↓amb, mark_eq, simprocAttr, el22, wr_u32, dx]
    repeat refine ⟨by first | omega | (simp; done) | (unfold maxLen; omega) | (simp [maxLen]; omega) | assumption, ?_⟩
    refine hk _ ?_; clear hk k
    refine awp_cond rfl (fun hb => ?_) (fun hb => ?_)
    ·try simp only [hbx] at hb
     refine awp_skip ?_
     refine h6 _ ?_; clear h6 k6
     refine awp_seq fun k7 h7 => ?_
     refine awp_block ?_
     have hw := hTw _ (Pl.getD_mem (Pl.totR l (1 + q.1 % 100)) i 0 (by omega))
     refine awp_region [] (by rw [hC]; rfl) fun k hk => ?_
     simp (maxSteps := 9^9) (disch := (try simp only [lens]); omega) only [argSl, sm, ↓amb, mark_eq, simprocAttr, el22, sz28, wr_u32, dx]
     repeat refine ⟨by first | omega | (simp; done) | (unfold maxLen; omega) | (simp [maxLen]; omega) | assumption, ?_⟩
     refine hk _ ?_; clear hk k
     refine h7 _ ?_; clear h7 k7
     refine awp_region [] (by rw [hC]; rfl) fun k hk => ?_
     simp (maxSteps := 9^9) (disch := (try simp only [lens]); omega) only [argSl, sm, ↓amb, mark_eq, simprocAttr, wr_u32, dx]
     repeat refine ⟨by first | omega | (simp; done) | (unfold maxLen; omega) | (simp [maxLen]; omega) | assumption, ?_⟩
     refine hk _ ?_; clear hk k
     refine ⟨i + 1, by omega, le_of [(0, _)] (by rfl) (by rfl) ⟨⟨_, rfl, .p (.of_eq (by first | rfl | (simp only [PV.lit.injEq, Value.int.injEq, true_and]; omega) | (simp; done) | (simp; omega)))⟩, ⟨_, rfl, .ptr rfl⟩, ⟨_, rfl, .p (.of_eq (by first | rfl | (simp only [PV.lit.injEq, Value.int.injEq, true_and]; omega) | (simp; done) | (simp; omega)))⟩, ⟨_, rfl, .p (.of_eq (by first | rfl | (simp only [PV.lit.injEq, Value.int.injEq, true_and]; omega) | (simp; done) | (simp; omega)))⟩, ⟨_, rfl, .p (.of_eq (by first | rfl | (rw [Pl.allF_take _ (Pl.totR l (1 + q.1 % 100)) i (by omega)]; first | done | rfl) | trace_state))⟩, ⟨_, rfl, .p (.of_eq (by first | rfl | (simp only [PV.lit.injEq, Value.int.injEq, true_and]; omega) | (simp; done) | (simp; omega)))⟩, trivial⟩ ⟨⟨_, rfl, _, rfl, .one (.cons (.p (.refl _)) (.cons (.p (.refl _)) (.nil)))⟩, trivial⟩, by omega⟩
    ·try simp only [hbx] at hb
     refine awp_exit ((if_pos rfl).mpr ?_)
     refine h4 _ ?_; clear h6 k6; clear h4 k4
     have htl := Pl.tot_len l (1 + q.1 % 100)
     have htk : (Pl.totR l (1 + q.1 % 100)).take i = (Pl.totR l (1 + q.1 % 100)) := List.take_of_length_le (by omega)
     rw [htk, Pl.tot_sum hl (by omega) (by omega)]
     refine awp_test [] 6 (decide (True)) [] (by rw [hC]; rfl) (fun gd hgd k hk => ?_) ?_
     ·have g3 : gd 3 = some 107 := by rw [hgd]; rfl
      clear hgd
      simp (maxSteps := 9^9) (disch := (try simp only [lens]); omega) only [argSl, sm, ↓amb, mark_eq, simprocAttr, el22, el55, ar55, sz5, it3, un5, en39, gcase_undef, g3, wr_u32, dx]
      repeat' first | refine hk _ _ rfl rfl rfl rfl ?_ | (refine gsplit (fun hg => ?_) (fun hg => ?_) <;> (try simp only [hbx] at hg) <;> simp (maxSteps := 9^9) (disch := (try simp only [lens]); omega) only [argSl, sm, ↓amb, mark_eq, simprocAttr, el22, el55, ar55, sz5, it3, un5, en39, gcase_undef, g3, wr_u32, dx]) | apply And.intro | (refine callK_p (c_scan_Blocks _ _) rfl ?_; (try simp (maxSteps := 9^9) (disch := (try simp only [lens]); omega) only [argSl, sm, ↓amb, mark_eq, simprocAttr, el22, el55, ar55, sz5, it3, un5, en39, gcase_undef, g3, wr_u32, dx])) | fail
      all_goals first | rfl | omega | exact (decide_eq_true (by omega)).symm | exact (decide_eq_false (by omega)).symm | exact decide_eq_decide.mpr (by omega) | (refine Bool.eq_iff_iff.mpr ?_; simp only [beq_iff_eq, bne_iff_ne, ne_eq, decide_eq_true_eq]; omega) | (refine Bool.eq_iff_iff.mpr ?_; simp only [Bool.not_eq_true', Bool.not_eq_false', decide_eq_false_iff_not, decide_eq_true_eq, beq_iff_eq, bne_iff_ne, ne_eq]; omega) | assumption | (simp; done) | (simp [maxLen]; omega) | skip
      all_goals first | (exfalso; omega) | rfl | (exfalso; exact absurd rfl (by assumption)) | (simp; done) | (simp_all; done) | trace_state
     simp only [kp, argSl, simprocAttr, List.length_cons, List.length_nil]
     refine awp_ret ?_
     refine ret1 rfl rfl ?_
     exact .p (LeP.refl _)
end Go.Proofs.Ythelnccjcbnjfaa
end
section
namespace Go.Proofs.Ythelnccjcbnjfaa
open Go.Am Go.Proofs
theorem Try.own : ownKnob Try.prog.godebug = none := by kernel_rfl
theorem Try.laidOut : laidOutB Try.prog = true := by kernel_rfl
abbrev W64 (n : Int) : Prop := (Lit.int .i64 n).wf = true
theorem wf8 {n : Int} (h : (Lit.int .u8 n).wf = true) : 0 ≤ n ∧ n ≤ 255 := by
  simp only [Lit.wf, Bool.and_eq_true, decide_eq_true_eq, show IntKind.u8.min = 0 from rfl, show IntKind.u8.max = 255 from rfl] at h; exact h
theorem wf32 {n : Int} (h : (Lit.int .u32 n).wf = true) : 0 ≤ n ∧ n ≤ 4294967295 := by
  simp only [Lit.wf, Bool.and_eq_true, decide_eq_true_eq, show IntKind.u32.min = 0 from rfl, show IntKind.u32.max = 4294967295 from rfl] at h; exact h
theorem op_int : Opens Try.prog 3 Int (fun n => (Lit.int .i64 n).wf = true) (fun n => [.lit (.int .i64 n)]) := opens_int Try.underlying3
theorem op_pair : Opens Try.prog 23 (Int × Int) (fun p => W64 p.1 ∧ W64 p.2) (fun p => [iV p.1, iV p.2]) := (opens_agg (ts := [3, 3]) (by kernel_rfl) (.cons op_int (.cons op_int .nil))).map (fun p => (p.1, p.2.1)) (fun _ h => ⟨⟨h.1, h.2.1⟩, rfl⟩)
theorem op_u32 : Opens Try.prog 28 Int (fun n => (Lit.int .u32 n).wf = true) (fun n => [.lit (.int .u32 n)]) := opens_int Try.underlying28
theorem op_u8 : Opens Try.prog 5 Int (fun n => (Lit.int .u8 n).wf = true) (fun n => [.lit (.int .u8 n)]) := opens_int Try.underlying5
theorem op_words : Opens Try.prog 22 (List Int) (fun l => l.length ≤ maxLen ∧ ∀ a, a ∈ l → (Lit.int .u32 a).wf = true) (fun l => [words false l]) := opens_slice Try.underlying22 (of_decide_eq_true (by kernel_rfl)) op_u32
theorem op_picks : Opens Try.prog 24 (List (Int × Int)) (fun l => l.length ≤ maxLen ∧ ∀ p, p ∈ l → W64 p.1 ∧ W64 p.2) (fun l => [picksV false l]) := opens_slice Try.underlying24 (of_decide_eq_true (by kernel_rfl)) op_pair
theorem op_plan : Opens Try.prog 26 Pl.Plan (fun p => W64 p.grain ∧ W64 p.workers ∧ p.picks.length ≤ maxLen ∧ ∀ q, q ∈ p.picks → W64 q.1 ∧ W64 q.2) (planC false) := (opens_agg (ts := [3, 3, 24]) (by kernel_rfl) (.cons op_int (.cons op_int (.cons op_picks .nil)))).map (fun p => ⟨p.1, p.2.1, p.2.2.1⟩) (fun _ h => ⟨⟨h.1, h.2.1, h.2.2.1.1, h.2.2.1.2⟩, rfl⟩)
theorem op_u8x2 : Opens Try.prog 55 (Int × Int) (fun p => (Lit.int .u8 p.1).wf = true ∧ (Lit.int .u8 p.2).wf = true) (fun p => [.lit (.int .u8 p.1), .lit (.int .u8 p.2)]) := (opens_agg (ts := [5, 5]) (by kernel_rfl) (.cons op_u8 (.cons op_u8 .nil))).map (fun p => (p.1, p.2.1)) (fun _ h => ⟨⟨h.1, h.2.1⟩, rfl⟩)
end Go.Proofs.Ythelnccjcbnjfaa
end
section
namespace Go.Proofs.Ythelnccjcbnjfaa
open Go.ChangeShapes Go.WideShapes Go.ChangeAt Go.RowKit Go.Am
set_option maxRecDepth 100000 in
theorem scanBlocks_lifted (os : Os) (started : os.Started) (H : Type) (enc : TypeId × Value → H) :
    ReturnsInHanded {} Try.checked os 8 .any (Rows.scanBlocksSpec.pre6 enc Try.prog Try.f8 Rows.scanBlocksRow.domain false) (Rows.scanBlocksSpec.post enc Try.prog Try.f8 false true false false) := by
  refine returnsInHanded_of_change (C := Try.checked) Try.own started (by kernel_rfl) Try.func8
    (ChangeSpec.witness6 (enc := enc) (C := Try.checked) false ⟨#[], #[.slice none 0 0, .agg #[.int .u8 0, .int .u8 0], .agg #[.int .i64 0, .int .i64 0, .slice none 0 0]], []⟩ 20 (by kernel_rfl) (by kernel_rfl) (by kernel_rfl) (by kernel_rfl)) ?_
  intro W base args ds gs before hval0 hW hcnd _
  have hval : ∀ (j : Nat) t v, Try.f8.params[j]? = some t → args[j]? = some v → Value.okWide Try.prog W .any base t v := hval0
  have hW' := hW
  have hlt := hW.lt
  obtain ⟨p, q, hA0, hV, rfl, hfz, hnd⟩ := hW
  have hA : DataW.TrodAll enc Try.prog W 0 (fun _ => true) true Try.f8.params.toList args.toList ds p := hA0
  rw [Try.params8] at hA hval
  obtain ⟨v0, v1, v2, d0, d1, d2, p0, p1, p2, rfl, rfl, rfl, h0, h1, h2⟩ := trodAll_three hA
  obtain ⟨rfl, rfl⟩ := trodVars_none hV
  obtain ⟨a0, k0, r0⟩ := arg_one op_words (okWide_one_s Try.underlying22 (hval 0 22 _ rfl rfl)) h0
  obtain ⟨cs1, rfl⟩ := okWide_agg (by kernel_rfl) (hval 1 55 _ rfl rfl)
  obtain ⟨a1, k1, r1⟩ := arg_agg op_u8x2 h1
  obtain ⟨cs2, rfl⟩ := okWide_agg (by kernel_rfl) (hval 2 26 _ rfl rfl)
  obtain ⟨a2, k2, r2⟩ := arg_agg op_plan h2
  clear hA0 hval0
  simp only [List.append_nil] at hW' hlt
  refine (law_calls (c_law08_ScanBlocks a0 a1 a2 (fun x hx => wf32 (k0.2 x hx)) ⟨wf8 k1.1, wf8 k1.2⟩) rfl ?_).mono fun e W' ⟨he, hB⟩ => ?_
  · intro i x hx
    match i, hx with
    | 0, hx => simp only [List.getElem?_cons_zero, Option.some.injEq] at hx; subst hx; exact r0
    | 1, hx => simp only [List.getElem?_cons_succ, List.getElem?_cons_zero, Option.some.injEq] at hx; subst hx; exact r1
    | 2, hx => simp only [List.getElem?_cons_succ, List.getElem?_cons_zero, Option.some.injEq] at hx; subst hx; exact r2
    | i + 3, hx => simp at hx
  subst he
  exact ⟨_, rfl, law_post (pv := []) hW' (fun _ _ _ => trodAll_mk1 (shut_bool Try.underlying4 _))
    (fun sp hs => trodAll_mk3 (WideElems.Trod_stays Try.laidOut (by kernel_rfl) (of_decide_eq_true (by kernel_rfl)) h0 (fun x hx => hB.same (hlt x (by simp [hx]))) (fun x hx => hs x (by simp [hx]))) (WideElems.Trod_stays Try.laidOut (by kernel_rfl) (of_decide_eq_true (by kernel_rfl)) h1 (fun x hx => hB.same (hlt x (by simp [hx]))) (fun x hx => hs x (by simp [hx]))) (WideElems.Trod_stays Try.laidOut (by kernel_rfl) (of_decide_eq_true (by kernel_rfl)) h2 (fun x hx => hB.same (hlt x (by simp [hx]))) (fun x hx => hs x (by simp [hx]))))
    (fun _ _ => rfl) (by simp) hB (ok_one (by kernel_rfl) rfl (okWide_bool_mk Try.underlying4 _))⟩
theorem scanBlocks_holds : Rows.ScanBlocksSaid :=
  OpenClaim.holds_of_wide 8 Try.f8 rfl rfl rfl rfl rfl rfl rfl ⟨rfl, rfl, rfl, rfl, rfl⟩ rfl rfl rfl rfl rfl (by kernel_rfl) Try.func8 (by kernel_rfl)
    (of_decide_eq_true (by kernel_rfl)) (by unfold Func.isWrapper; first | (rw [if_pos (by decide +kernel)]; kernel_rfl) | (rw [if_neg (by decide +kernel)]; exact ⟨rfl, rfl⟩))
    (fun os started H enc _ => scanBlocks_lifted os started H enc)
#print axioms scanBlocks_holds
end Go.Proofs.Ythelnccjcbnjfaa
end
