/-
  DedupOnce, part 7 of 7: what the proof that the law holds at whatever arguments stands on; the last part holds the theorem. No condition.
-/
import Derived.Test.YtbehekmnccoifaaDedupOnceZ6
import Derived.Test.YtbehekmnccoifaaRows
section
set_option linter.unusedSimpArgs false
set_option linter.unusedVariables false
set_option maxRecDepth 100000
namespace Go.Proofs.Ytbehekmnccoifaa
open Go.Am Go.Proofs
theorem ar63 : tArr Try.prog 63 = some (2, 1, false) := by kernel_rfl
theorem el63 : tEl Try.prog 63 = none := by kernel_rfl
theorem en22 : enters Try.prog 22 = true := by kernel_rfl
theorem sz5 : tSz Try.prog 5 = some (false, 1) := by kernel_rfl
theorem un5 : (Try.prog.underlying 5).isSome = true := by kernel_rfl
set_option maxHeartbeats 4000000 in
theorem c_law11_DedupOnce (l : List Int) (q : Int × Int) (hl : ∀ x, x ∈ l → Pl.W32 x) (hq : (0 ≤ q.1 ∧ q.1 ≤ 255) ∧ 0 ≤ q.2 ∧ q.2 ≤ 255) : PCall Try.prog 9 [words false l, .agg [.lit (.int .u8 q.1), .lit (.int .u8 q.2)]] (bV true) := by
 refine pcall_of_awp Try.func9 rfl (by simp [Try.ntmps9]) fun C hC => ?_
 refine awp_le (le_keep [0, 1]) ?_
 simp only [kp, argSl, simprocAttr]
 refine awp_sr [] (by rw [hC]; rfl) fun k hk => ?_
 simp (maxSteps := 9^9) (disch := (try simp only [lens]); omega) only [argSl, sm, ↓amb, mark_eq, simprocAttr, dx]
 repeat refine ⟨by first | omega | (simp; done) | (unfold maxLen; omega) | (simp [maxLen]; omega) | assumption, ?_⟩
 refine hk _ ?_; clear hk k
 refine awp_seq fun k1 h1 => ?_
 refine awp_le (le_keep [0, 3, 4]) ?_
 simp only [kp, argSl, simprocAttr]
 refine awp_sr [] (by rw [hC]; rfl) fun k hk => ?_
 simp (maxSteps := 9^9) (disch := (try simp only [lens]); omega) only [argSl, sm, ↓amb, mark_eq, simprocAttr, en22, dx]
 repeat refine ⟨by first | omega | (simp; done) | (unfold maxLen; omega) | (simp [maxLen]; omega) | assumption, ?_⟩
 refine callK_p (c_law11_alive) rfl ?_
 simp (maxSteps := 9^9) (disch := (try simp only [lens]); omega) only [argSl, sm, ↓amb, mark_eq, simprocAttr, en22, dx]
 repeat refine ⟨by first | omega | (simp; done) | (unfold maxLen; omega) | (simp [maxLen]; omega) | assumption, ?_⟩
 refine hk _ ?_; clear hk k
 refine awp_cond rfl (fun hb => ?_) (fun hb => ?_)
 ·try simp only [hbx] at hb
  refine awp_le (le_keep []) ?_
  simp only [kp, argSl, simprocAttr]
  refine awp_sr [] (by rw [hC]; rfl) fun k hk => ?_
  simp (maxSteps := 9^9) (disch := (try simp only [lens]); omega) only [argSl, sm, ↓amb, mark_eq, simprocAttr, dx]
  repeat refine ⟨by first | omega | (simp; done) | (unfold maxLen; omega) | (simp [maxLen]; omega) | assumption, ?_⟩
  refine hk _ ?_; clear hk k
  refine awp_ret ?_
  exact absurd hb (by simp)
 ·try simp only [hbx] at hb
  refine awp_skip ?_
  refine h1 _ ?_; clear h1 k1
  refine awp_seq fun k2 h2 => ?_
  refine awp_le (le_keep [0, 3, 4]) ?_
  simp only [kp, argSl, simprocAttr]
  refine awp_sr [] (by rw [hC]; rfl) fun k hk => ?_
  simp (maxSteps := 9^9) (disch := (try simp only [lens]); omega) only [argSl, sm, ↓amb, mark_eq, simprocAttr, el22, dx]
  repeat refine ⟨by first | omega | (simp; done) | (unfold maxLen; omega) | (simp [maxLen]; omega) | assumption, ?_⟩
  refine hk _ ?_; clear hk k
  refine awp_cond rfl (fun hb => ?_) (fun hb => ?_)
  ·try simp only [hbx] at hb
   refine awp_le (le_keep []) ?_
   simp only [kp, argSl, simprocAttr]
   refine awp_sr [] (by rw [hC]; rfl) fun k hk => ?_
   simp (maxSteps := 9^9) (disch := (try simp only [lens]); omega) only [argSl, sm, ↓amb, mark_eq, simprocAttr, dx]
   repeat refine ⟨by first | omega | (simp; done) | (unfold maxLen; omega) | (simp [maxLen]; omega) | assumption, ?_⟩
   refine hk _ ?_; clear hk k
   refine awp_ret ?_
   refine ret1 rfl rfl ?_
   exact .p (LeP.refl _)
  ·try simp only [hbx] at hb
   refine awp_skip ?_
   refine h2 _ ?_; clear h2 k2
   refine awp_le (le_keep [0, 3]) ?_
   simp only [kp, argSl, simprocAttr]
   obtain ⟨a, ha⟩ : ∃ a, a = 1 + q.1 % 16 := ⟨_, rfl⟩
   obtain ⟨b, hb'⟩ : ∃ b, b = 1 + q.2 % 100 := ⟨_, rfl⟩
   obtain ⟨hE, g1, g2, g3, g4, g5⟩ := Pl.gr_once (w := (⟨a, b, ⟨3, 2, []⟩⟩ : Pl.Way)) hl (show 1 ≤ a ∧ a ≤ 16 by omega) (show 1 ≤ b ∧ b ≤ 100 by omega) (by omega) (show Pl.planRight ⟨3, 2, []⟩ by decide)
   have hkl := Pl.grK_len hl (⟨a, b, ⟨3, 2, []⟩⟩ : Pl.Way)
   refine awp_sr [] (by rw [hC]; rfl) fun k hk => ?_
   simp (maxSteps := 9^9) (disch := (try simp only [lens]); omega) only [argSl, sm, ↓amb, mark_eq, simprocAttr, el63, ar63, sz5, it3, un5, vr26, bt26, pl26_0, pl26_1, vr47, bt47, pl47_0, pl47_1, pl47_2, sz47, dx]
   repeat refine ⟨by first | omega | (simp; done) | (unfold maxLen; omega) | (simp [maxLen]; omega) | assumption, ?_⟩
   refine hk _ ?_; clear hk k
   refine awp_le (le_keep [0, 5]) ?_
   simp only [kp, argSl, simprocAttr]
   rw [← ha, ← hb']
   refine awp_sr [] (by rw [hC]; rfl) fun k hk => ?_
   simp (maxSteps := 9^9) (disch := (try simp only [lens]); omega) only [argSl, sm, ↓amb, mark_eq, simprocAttr, sz47, en23, dx]
   repeat refine ⟨by first | omega | (simp; done) | (unfold maxLen; omega) | (simp [maxLen]; omega) | assumption, ?_⟩
   refine callK_p (c_dedup_Groups false true l (⟨a, b, ⟨3, 2, []⟩⟩ : Pl.Way) hl (by omega)) rfl ?_
   simp (maxSteps := 9^9) (disch := (try simp only [lens]); omega) only [argSl, sm, ↓amb, mark_eq, simprocAttr, sz47, en23, dx]
   repeat refine ⟨by first | omega | (simp; done) | (unfold maxLen; omega) | (simp [maxLen]; omega) | assumption, ?_⟩
   refine hk _ ?_; clear hk k
   refine awp_seq fun k3 h3 => ?_
   rw [hE]
   refine awp_test [] 47 (decide (False)) [0, 4, 6, 7] (by rw [hC]; rfl) (fun gd hgd k hk => ?_) ?_
   ·have g2 : gd 2 = some 41 := by rw [hgd]; rfl
    clear hgd
    simp (maxSteps := 9^9) (disch := (try simp only [lens]); omega) only [argSl, sm, ↓amb, mark_eq, simprocAttr, el33, el22, gcase_undef, g2, dx]
    repeat' first | refine hk _ _ rfl rfl rfl rfl ?_ | (refine gsplit (fun hg => ?_) (fun hg => ?_) <;> (try simp only [hbx] at hg) <;> simp (maxSteps := 9^9) (disch := (try simp only [lens]); omega) only [argSl, sm, ↓amb, mark_eq, simprocAttr, el33, el22, gcase_undef, g2, dx]) | apply And.intro | fail
    all_goals first | rfl | omega | exact (decide_eq_true (by omega)).symm | exact (decide_eq_false (by omega)).symm | exact decide_eq_decide.mpr (by omega) | (refine Bool.eq_iff_iff.mpr ?_; simp only [beq_iff_eq, bne_iff_ne, ne_eq, decide_eq_true_eq]; omega) | (refine Bool.eq_iff_iff.mpr ?_; simp only [Bool.not_eq_true', Bool.not_eq_false', decide_eq_false_iff_not, decide_eq_true_eq, beq_iff_eq, bne_iff_ne, ne_eq]; omega) | assumption | (simp; done) | (simp [maxLen]; omega) | skip
    all_goals first | (exfalso; omega) | rfl | (exfalso; exact absurd rfl (by assumption)) | (simp; done) | (simp_all; done) | (refine (decide_eq_false ?_).symm; rw [Pl.edge_iff]; simp only [Bool.and_eq_false_iff, beq_eq_false_iff_ne, ne_eq, Bool.and_eq_true, beq_iff_eq] at *; omega) | (refine (decide_eq_true ?_).symm; rw [Pl.edge_iff]; simp only [Bool.and_eq_false_iff, beq_eq_false_iff_ne, ne_eq, Bool.and_eq_true, beq_iff_eq] at *; omega) | (refine (decide_eq_false ?_); omega) | (exact decide_eq_decide.mpr ⟨fun h => by omega, False.elim⟩) | trace_state
   simp only [kp, argSl, simprocAttr, List.length_cons, List.length_nil]
   refine awp_cond rfl (fun hb => ?_) (fun hb => ?_)
   ·exact absurd hb (by simp)
   ·try simp only [hbx] at hb
    refine awp_skip ?_
    refine h3 _ ?_; clear h3 k3
    refine awp_le (le_keep [0, 6, 7]) ?_
    simp only [kp, argSl, simprocAttr]
    refine awp_sr [] (by rw [hC]; rfl) fun k hk => ?_
    simp (maxSteps := 9^9) (disch := (try simp only [lens]); omega) only [argSl, sm, ↓amb, mark_eq, simprocAttr, dx]
    repeat refine ⟨by first | omega | (simp; done) | (unfold maxLen; omega) | (simp [maxLen]; omega) | assumption, ?_⟩
    refine hk _ ?_; clear hk k
    refine awp_seq fun k4 h4 => ?_
    refine awp_le (le_keep [0, 4, 6, 7, 10]) ?_
    simp only [kp, argSl, simprocAttr]
    refine awp_sr [] (by rw [hC]; rfl) fun k hk => ?_
    simp (maxSteps := 9^9) (disch := (try simp only [lens]); omega) only [argSl, sm, ↓amb, mark_eq, simprocAttr, dx]
    repeat refine ⟨by first | omega | (simp; done) | (unfold maxLen; omega) | (simp [maxLen]; omega) | assumption, ?_⟩
    refine hk _ ?_; clear hk k
    refine awp_block ?_
    refine awp_loop (σ := Nat) (fun i => i ≤ (Pl.grK l (⟨a, b, ⟨3, 2, []⟩⟩ : Pl.Way)).length) (fun (i : Nat) => ⟨[(0, (.p (words false l))), (6, (.p (words false (Pl.grK l (⟨a, b, ⟨3, 2, []⟩⟩ : Pl.Way))))), (7, (.p (ints false (Pl.grC l (⟨a, b, ⟨3, 2, []⟩⟩ : Pl.Way))))), (10, (.p (iV ((Pl.grC l (⟨a, b, ⟨3, 2, []⟩⟩ : Pl.Way)).take i).sum))), (11, (.p (iV (i : Int))))], [], 1⟩) (fun i => (Pl.grK l (⟨a, b, ⟨3, 2, []⟩⟩ : Pl.Way)).length - i) 0 ?_ ?_ fun i hi => ?_
    ·exact Nat.zero_le _
    ·exact le_of [] (by rfl) (by rfl) ⟨⟨_, rfl, .p (.of_eq (by first | rfl | (simp only [PV.lit.injEq, Value.int.injEq, true_and]; omega) | (simp; done) | (simp; omega)))⟩, ⟨_, rfl, .p (.of_eq (by first | rfl | (simp only [PV.lit.injEq, Value.int.injEq, true_and]; omega) | (simp; done) | (simp; omega)))⟩, ⟨_, rfl, .p (.of_eq (by first | rfl | (simp only [PV.lit.injEq, Value.int.injEq, true_and]; omega) | (simp; done) | (simp; omega)))⟩, ⟨_, rfl, .p (.of_eq (by first | rfl | (simp only [PV.lit.injEq, Value.int.injEq, true_and]; omega) | (simp; done) | (simp; omega)))⟩, ⟨_, rfl, .p (.of_eq (by first | rfl | (simp only [PV.lit.injEq, Value.int.injEq, true_and]; omega) | (simp; done) | (simp; omega)))⟩, trivial⟩ trivial
    refine awp_seq fun k6 h6 => ?_
    refine awp_le (le_keep [0, 4, 6, 7, 10, 11]) ?_
    simp only [kp, argSl, simprocAttr]
    refine awp_sr [] (by rw [hC]; rfl) fun k hk => ?_
    simp (maxSteps := 9^9) (disch := (try simp only [lens]); omega) only [argSl, sm, ↓amb, mark_eq, simprocAttr, el22, dx]
    repeat refine ⟨by first | omega | (simp; done) | (unfold maxLen; omega) | (simp [maxLen]; omega) | assumption, ?_⟩
    refine hk _ ?_; clear hk k
    refine awp_cond rfl (fun hb => ?_) (fun hb => ?_)
    ·try simp only [hbx] at hb
     refine awp_skip ?_
     refine h6 _ ?_; clear h6 k6
     refine awp_seq fun k7 h7 => ?_
     refine awp_block ?_
     refine awp_le (le_keep [0, 4, 6, 7, 10, 11]) ?_
     simp only [kp, argSl, simprocAttr]
     refine awp_sr [] (by rw [hC]; rfl) fun k hk => ?_
     simp (maxSteps := 9^9) (disch := (try simp only [lens]); omega) only [argSl, sm, ↓amb, mark_eq, simprocAttr, dx]
     repeat refine ⟨by first | omega | (simp; done) | (unfold maxLen; omega) | (simp [maxLen]; omega) | assumption, ?_⟩
     refine hk _ ?_; clear hk k
     refine awp_seq fun k8 h8 => ?_
     refine awp_le (le_keep [0, 4, 6, 7, 10, 11, 12]) ?_
     simp only [kp, argSl, simprocAttr]
     refine awp_sr [] (by rw [hC]; rfl) fun k hk => ?_
     simp (maxSteps := 9^9) (disch := (try simp only [lens]); omega) only [argSl, sm, ↓amb, mark_eq, simprocAttr, dx]
     repeat refine ⟨by first | omega | (simp; done) | (unfold maxLen; omega) | (simp [maxLen]; omega) | assumption, ?_⟩
     refine hk _ ?_; clear hk k
     refine awp_block ?_
     refine awp_loop (σ := Nat) (fun k => k ≤ l.length) (fun (k : Nat) => ⟨[(0, (.p (words false l))), (6, (.p (words false (Pl.grK l (⟨a, b, ⟨3, 2, []⟩⟩ : Pl.Way))))), (7, (.p (ints false (Pl.grC l (⟨a, b, ⟨3, 2, []⟩⟩ : Pl.Way))))), (10, (.p (iV ((Pl.grC l (⟨a, b, ⟨3, 2, []⟩⟩ : Pl.Way)).take i).sum))), (11, (.p (iV (i : Int)))), (12, (.p (iV ((l.take k).count ((Pl.grK l (⟨a, b, ⟨3, 2, []⟩⟩ : Pl.Way)).getD i 0) : Nat)))), (13, (.p (iV (k : Int))))], [], 1⟩) (fun k => l.length - k) 0 ?_ ?_ fun k hk => ?_
     ·exact Nat.zero_le _
     ·exact le_of [] (by rfl) (by rfl) ⟨⟨_, rfl, .p (.of_eq (by first | rfl | (simp only [PV.lit.injEq, Value.int.injEq, true_and]; omega) | (simp; done) | (simp; omega)))⟩, ⟨_, rfl, .p (.of_eq (by first | rfl | (simp only [PV.lit.injEq, Value.int.injEq, true_and]; omega) | (simp; done) | (simp; omega)))⟩, ⟨_, rfl, .p (.of_eq (by first | rfl | (simp only [PV.lit.injEq, Value.int.injEq, true_and]; omega) | (simp; done) | (simp; omega)))⟩, ⟨_, rfl, .p (.of_eq (by first | rfl | (simp only [PV.lit.injEq, Value.int.injEq, true_and]; omega) | (simp; done) | (simp; omega)))⟩, ⟨_, rfl, .p (.of_eq (by first | rfl | (simp only [PV.lit.injEq, Value.int.injEq, true_and]; omega) | (simp; done) | (simp; omega)))⟩, ⟨_, rfl, .p (.of_eq (by first | rfl | (simp only [PV.lit.injEq, Value.int.injEq, true_and]; omega) | (simp; done) | (simp; omega)))⟩, ⟨_, rfl, .p (.of_eq (by first | rfl | (simp only [PV.lit.injEq, Value.int.injEq, true_and]; omega) | (simp; done) | (simp; omega)))⟩, trivial⟩ trivial
     refine awp_seq fun k10 h10 => ?_
     refine awp_le (le_keep [0, 4, 6, 7, 10, 11, 12, 13]) ?_
     simp only [kp, argSl, simprocAttr]
     have hcl := Pl.count_le l k ((Pl.grK l (⟨a, b, ⟨3, 2, []⟩⟩ : Pl.Way)).getD i 0)
     refine awp_sr [] (by rw [hC]; rfl) fun k hk => ?_
     simp (maxSteps := 9^9) (disch := (try simp only [lens]); omega) only [argSl, sm, ↓amb, mark_eq, simprocAttr, el22, dx]
     repeat refine ⟨by first | omega | (simp; done) | (unfold maxLen; omega) | (simp [maxLen]; omega) | assumption, ?_⟩
     refine hk _ ?_; clear hk k
     refine awp_cond rfl (fun hb => ?_) (fun hb => ?_)
     ·try simp only [hbx] at hb
      refine awp_skip ?_
      refine h10 _ ?_; clear h10 k10
      refine awp_seq fun k11 h11 => ?_
      refine awp_block ?_
      refine awp_le (le_keep [0, 4, 6, 7, 10, 11, 12, 13]) ?_
      simp only [kp, argSl, simprocAttr]
      refine awp_sd [] ⟨[0, 0, 3, 7, 0, 0, 48, 112, 255], [3, 7], [], [], some []⟩ (by rw [hC]; rfl) (by kernel_rfl) (by kernel_rfl) fun k hk => ?_
      simp (maxSteps := 9^9) (disch := (try simp only [lens]); omega) only [argSl, sm, ↓amb, mark_eq, simprocAttr, el22, sz41, dx]
      repeat refine ⟨by first | omega | (simp; done) | (unfold maxLen; omega) | (simp [maxLen]; omega) | assumption, ?_⟩
      refine hk _ ?_; clear hk k
      refine awp_cond rfl (fun hb => ?_) (fun hb => ?_)
      ·try simp only [hbx] at hb
       refine awp_region [] (by rw [hC]; rfl) fun k hk => ?_
       simp (maxSteps := 9^9) (disch := (try simp only [lens]); omega) only [argSl, sm, ↓amb, mark_eq, simprocAttr, dx]
       repeat refine ⟨by first | omega | (simp; done) | (unfold maxLen; omega) | (simp [maxLen]; omega) | assumption, ?_⟩
       refine hk _ ?_; clear hk k
       refine h11 _ ?_; clear h11 k11
       have hcn := Pl.count_yes (l := l) (k := k) (x := (Pl.grK l (⟨a, b, ⟨3, 2, []⟩⟩ : Pl.Way)).getD i 0) (by omega) hb
       refine awp_region [] (by rw [hC]; rfl) fun k hk => ?_
       simp (maxSteps := 9^9) (disch := (try simp only [lens]); omega) only [argSl, sm, ↓amb, mark_eq, simprocAttr, dx]
       repeat refine ⟨by first | omega | (simp; done) | (unfold maxLen; omega) | (simp [maxLen]; omega) | assumption, ?_⟩
       refine hk _ ?_; clear hk k
       refine ⟨k + 1, by omega, le_of [] (by rfl) (by rfl) ⟨⟨_, rfl, .p (.of_eq (by first | rfl | (simp only [PV.lit.injEq, Value.int.injEq, true_and]; omega) | (simp; done) | (simp; omega)))⟩, ⟨_, rfl, .p (.of_eq (by first | rfl | (simp only [PV.lit.injEq, Value.int.injEq, true_and]; omega) | (simp; done) | (simp; omega)))⟩, ⟨_, rfl, .p (.of_eq (by first | rfl | (simp only [PV.lit.injEq, Value.int.injEq, true_and]; omega) | (simp; done) | (simp; omega)))⟩, ⟨_, rfl, .p (.of_eq (by first | rfl | (simp only [PV.lit.injEq, Value.int.injEq, true_and]; omega) | (simp; done) | (simp; omega)))⟩, ⟨_, rfl, .p (.of_eq (by first | rfl | (simp only [PV.lit.injEq, Value.int.injEq, true_and]; omega) | (simp; done) | (simp; omega)))⟩, ⟨_, rfl, .p (.of_eq (by first | rfl | (simp only [PV.lit.injEq, Value.int.injEq, true_and]; omega) | (simp; done) | (simp; omega)))⟩, ⟨_, rfl, .p (.of_eq (by first | rfl | (simp only [PV.lit.injEq, Value.int.injEq, true_and]; omega) | (simp; done) | (simp; omega)))⟩, trivial⟩ trivial, by omega⟩
      ·try simp only [hbx] at hb
       refine awp_skip ?_
       refine h11 _ ?_; clear h11 k11
       have hcn := Pl.count_no (l := l) (k := k) (x := (Pl.grK l (⟨a, b, ⟨3, 2, []⟩⟩ : Pl.Way)).getD i 0) (by omega) hb
       refine awp_region [] (by rw [hC]; rfl) fun k hk => ?_
       simp (maxSteps := 9^9) (disch := (try simp only [lens]); omega) only [argSl, sm, ↓amb, mark_eq, simprocAttr, dx]
       repeat refine ⟨by first | omega | (simp; done) | (unfold maxLen; omega) | (simp [maxLen]; omega) | assumption, ?_⟩
       refine hk _ ?_; clear hk k
       refine ⟨k + 1, by omega, le_of [] (by rfl) (by rfl) ⟨⟨_, rfl, .p (.of_eq (by first | rfl | (simp only [PV.lit.injEq, Value.int.injEq, true_and]; omega) | (simp; done) | (simp; omega)))⟩, ⟨_, rfl, .p (.of_eq (by first | rfl | (simp only [PV.lit.injEq, Value.int.injEq, true_and]; omega) | (simp; done) | (simp; omega)))⟩, ⟨_, rfl, .p (.of_eq (by first | rfl | (simp only [PV.lit.injEq, Value.int.injEq, true_and]; omega) | (simp; done) | (simp; omega)))⟩, ⟨_, rfl, .p (.of_eq (by first | rfl | (simp only [PV.lit.injEq, Value.int.injEq, true_and]; omega) | (simp; done) | (simp; omega)))⟩, ⟨_, rfl, .p (.of_eq (by first | rfl | (simp only [PV.lit.injEq, Value.int.injEq, true_and]; omega) | (simp; done) | (simp; omega)))⟩, ⟨_, rfl, .p (.of_eq (by first | rfl | (simp only [PV.lit.injEq, Value.int.injEq, true_and]; omega) | (simp; done) | (simp; omega)))⟩, ⟨_, rfl, .p (.of_eq (by first | rfl | (simp only [PV.lit.injEq, Value.int.injEq, true_and]; omega) | (simp; done) | (simp; omega)))⟩, trivial⟩ trivial, by omega⟩
     ·try simp only [hbx] at hb
      refine awp_exit ((if_pos rfl).mpr ?_)
      refine h8 _ ?_; clear h10 k10; clear h8 k8
      refine awp_seq fun k12 h12 => ?_
      obtain rfl : k = l.length := by omega
      have csb := Pl.sum_bd (C := (Pl.grC l (⟨a, b, ⟨3, 2, []⟩⟩ : Pl.Way))) (fun j hj => (g3 j (by omega)).2) i
      have c1 := g3 i (by omega)
      rw [List.take_length] at hcl
      rw [List.take_length]
      have c3 : 0 < i → (Pl.grK l (⟨a, b, ⟨3, 2, []⟩⟩ : Pl.Way)).getD (i - 1) 0 < (Pl.grK l (⟨a, b, ⟨3, 2, []⟩⟩ : Pl.Way)).getD i 0 := fun h => Pl.pair_at (R := fun x y => x < y) g2 h (by omega)
      refine awp_testD [] ⟨[0, 0, 0, 6, 14, 31, 63, 127, 255, 511, 1023, 2047, 4095, 8191, 16383, 16383, 49151, 131071, 262143, 16383, 16383, 1589247, 3686399, 8388607, 16777215, 33554431], [4, 18, 22], [], [], some []⟩ 96 (decide (False)) [0, 4, 6, 7, 10, 11, 12] (by rw [hC]; rfl) (by kernel_rfl) (by kernel_rfl) (fun gd hgd k hk => ?_) ?_
      ·have g6 : gd 6 = some 77 := by rw [hgd]; rfl
       have g10 : gd 10 = some 81 := by rw [hgd]; rfl
       have g13 : gd 13 = some 84 := by rw [hgd]; rfl
       clear hgd
       simp (maxSteps := 9^9) (disch := (try simp only [lens]); omega) only [argSl, sm, ↓amb, mark_eq, simprocAttr, el33, sz3, el22, sz41, gcase_undef, g6, g10, g13, dx]
       repeat' first | refine hk _ _ rfl rfl rfl rfl ?_ | (refine gsplit (fun hg => ?_) (fun hg => ?_) <;> (try simp only [hbx] at hg) <;> simp (maxSteps := 9^9) (disch := (try simp only [lens]); omega) only [argSl, sm, ↓amb, mark_eq, simprocAttr, el33, sz3, el22, sz41, gcase_undef, g6, g10, g13, dx]) | apply And.intro | fail
       all_goals first | rfl | omega | exact (decide_eq_true (by omega)).symm | exact (decide_eq_false (by omega)).symm | exact decide_eq_decide.mpr (by omega) | (refine Bool.eq_iff_iff.mpr ?_; simp only [beq_iff_eq, bne_iff_ne, ne_eq, decide_eq_true_eq]; omega) | (refine Bool.eq_iff_iff.mpr ?_; simp only [Bool.not_eq_true', Bool.not_eq_false', decide_eq_false_iff_not, decide_eq_true_eq, beq_iff_eq, bne_iff_ne, ne_eq]; omega) | assumption | (simp; done) | (simp [maxLen]; omega) | skip
       all_goals first | (exfalso; omega) | rfl | (exfalso; exact absurd rfl (by assumption)) | (simp; done) | (simp_all; done) | (refine (decide_eq_false ?_); omega) | (exact decide_eq_decide.mpr ⟨fun h => by omega, False.elim⟩) | trace_state
      simp only [kp, argSl, simprocAttr, List.length_cons, List.length_nil]
      refine awp_cond rfl (fun hb => ?_) (fun hb => ?_)
      ·exact absurd hb (by simp)
      ·try simp only [hbx] at hb
       refine awp_skip ?_
       refine h12 _ ?_; clear h12 k12
       refine awp_region [] (by rw [hC]; rfl) fun k hk => ?_
       simp (maxSteps := 9^9) (disch := (try simp only [lens]); omega) only [argSl, sm, ↓amb, mark_eq, simprocAttr, dx]
       repeat refine ⟨by first | omega | (simp; done) | (unfold maxLen; omega) | (simp [maxLen]; omega) | assumption, ?_⟩
       refine hk _ ?_; clear hk k
       refine h7 _ ?_; clear h7 k7
       have hst := Pl.sum_take (C := (Pl.grC l (⟨a, b, ⟨3, 2, []⟩⟩ : Pl.Way))) (i := i) (by omega)
       refine awp_region [] (by rw [hC]; rfl) fun k hk => ?_
       simp (maxSteps := 9^9) (disch := (try simp only [lens]); omega) only [argSl, sm, ↓amb, mark_eq, simprocAttr, dx]
       repeat refine ⟨by first | omega | (simp; done) | (unfold maxLen; omega) | (simp [maxLen]; omega) | assumption, ?_⟩
       refine hk _ ?_; clear hk k
       refine ⟨i + 1, by omega, le_of [] (by rfl) (by rfl) ⟨⟨_, rfl, .p (.of_eq (by first | rfl | (simp only [PV.lit.injEq, Value.int.injEq, true_and]; omega) | (simp; done) | (simp; omega)))⟩, ⟨_, rfl, .p (.of_eq (by first | rfl | (simp only [PV.lit.injEq, Value.int.injEq, true_and]; omega) | (simp; done) | (simp; omega)))⟩, ⟨_, rfl, .p (.of_eq (by first | rfl | (simp only [PV.lit.injEq, Value.int.injEq, true_and]; omega) | (simp; done) | (simp; omega)))⟩, ⟨_, rfl, .p (.of_eq (by first | rfl | (simp only [PV.lit.injEq, Value.int.injEq, true_and]; omega) | (simp; done) | (simp; omega)))⟩, ⟨_, rfl, .p (.of_eq (by first | rfl | (simp only [PV.lit.injEq, Value.int.injEq, true_and]; omega) | (simp; done) | (simp; omega)))⟩, trivial⟩ trivial, by omega⟩
    ·try simp only [hbx] at hb
     refine awp_exit ((if_pos rfl).mpr ?_)
     refine h4 _ ?_; clear h6 k6; clear h4 k4
     obtain rfl : i = (Pl.grK l (⟨a, b, ⟨3, 2, []⟩⟩ : Pl.Way)).length := by omega
     have b5 := c_dedup_Without false false l (Pl.grK l (⟨a, b, ⟨3, 2, []⟩⟩ : Pl.Way)) (by omega) (by omega)
     rw [Pl.woL_all (fun x hx => (g4 x).1 hx)] at b5
     have b6 := c_dedup_Without false true l [] (by omega) (by decide)
     rw [Pl.woL_nil] at b6
     have b7 := c_ref07_Words false false l l (by omega)
     have e5 : ((Pl.grC l (⟨a, b, ⟨3, 2, []⟩⟩ : Pl.Way)).take (Pl.grK l (⟨a, b, ⟨3, 2, []⟩⟩ : Pl.Way)).length).sum = l.length := by rw [← g1, List.take_length]; exact g5
     refine awp_test [] 4 (decide (True)) [] (by rw [hC]; rfl) (fun gd hgd k hk => ?_) ?_
     ·have g4 : gd 4 = some 104 := by rw [hgd]; rfl
      have g11 : gd 11 = some 111 := by rw [hgd]; rfl
      clear hgd
      simp (maxSteps := 9^9) (disch := (try simp only [lens]); omega) only [argSl, sm, ↓amb, mark_eq, simprocAttr, el22, en26, en18, gcase_undef, g4, g11, dx]
      repeat' first | refine hk _ _ rfl rfl rfl rfl ?_ | (refine gsplit (fun hg => ?_) (fun hg => ?_) <;> (try simp only [hbx] at hg) <;> simp (maxSteps := 9^9) (disch := (try simp only [lens]); omega) only [argSl, sm, ↓amb, mark_eq, simprocAttr, el22, en26, en18, gcase_undef, g4, g11, dx]) | apply And.intro | (refine callK_p (b5) rfl ?_; (try simp (maxSteps := 9^9) (disch := (try simp only [lens]); omega) only [argSl, sm, ↓amb, mark_eq, simprocAttr, el22, en26, en18, gcase_undef, g4, g11, dx])) | (refine callK_p (b6) rfl ?_; (try simp (maxSteps := 9^9) (disch := (try simp only [lens]); omega) only [argSl, sm, ↓amb, mark_eq, simprocAttr, el22, en26, en18, gcase_undef, g4, g11, dx])) | (refine callK_p (b7) rfl ?_; (try simp (maxSteps := 9^9) (disch := (try simp only [lens]); omega) only [argSl, sm, ↓amb, mark_eq, simprocAttr, el22, en26, en18, gcase_undef, g4, g11, dx])) | fail
      all_goals first | rfl | omega | exact (decide_eq_true (by omega)).symm | exact (decide_eq_false (by omega)).symm | exact decide_eq_decide.mpr (by omega) | (refine Bool.eq_iff_iff.mpr ?_; simp only [beq_iff_eq, bne_iff_ne, ne_eq, decide_eq_true_eq]; omega) | (refine Bool.eq_iff_iff.mpr ?_; simp only [Bool.not_eq_true', Bool.not_eq_false', decide_eq_false_iff_not, decide_eq_true_eq, beq_iff_eq, bne_iff_ne, ne_eq]; omega) | assumption | (simp; done) | (simp [maxLen]; omega) | skip
      all_goals first | (exfalso; omega) | rfl | (exfalso; exact absurd rfl (by assumption)) | (simp; done) | (simp_all; done) | (exact decide_eq_true (by omega)) | (exact absurd e5 hg) | trace_state
     simp only [kp, argSl, simprocAttr, List.length_cons, List.length_nil]
     refine awp_ret ?_
     refine ret1 rfl rfl ?_
     exact .p (LeP.refl _)
end Go.Proofs.Ytbehekmnccoifaa
end
section
namespace Go.Proofs.Ytbehekmnccoifaa
open Go.Am Go.Proofs
theorem Try.own : ownKnob Try.prog.godebug = none := by kernel_rfl
theorem Try.laidOut : laidOutB Try.prog = true := by kernel_rfl
theorem wf8 {n : Int} (h : (Lit.int .u8 n).wf = true) : 0 ≤ n ∧ n ≤ 255 := by
  simp only [Lit.wf, Bool.and_eq_true, decide_eq_true_eq, show IntKind.u8.min = 0 from rfl, show IntKind.u8.max = 255 from rfl] at h; exact h
theorem wf32 {n : Int} (h : (Lit.int .u32 n).wf = true) : 0 ≤ n ∧ n ≤ 4294967295 := by
  simp only [Lit.wf, Bool.and_eq_true, decide_eq_true_eq, show IntKind.u32.min = 0 from rfl, show IntKind.u32.max = 4294967295 from rfl] at h; exact h
theorem op_u32 : Opens Try.prog 41 Int (fun n => (Lit.int .u32 n).wf = true) (fun n => [.lit (.int .u32 n)]) := opens_int Try.underlying41
theorem op_u8 : Opens Try.prog 5 Int (fun n => (Lit.int .u8 n).wf = true) (fun n => [.lit (.int .u8 n)]) := opens_int Try.underlying5
theorem op_words : Opens Try.prog 22 (List Int) (fun l => l.length ≤ maxLen ∧ ∀ a, a ∈ l → (Lit.int .u32 a).wf = true) (fun l => [words false l]) := opens_slice Try.underlying22 (of_decide_eq_true (by kernel_rfl)) op_u32
theorem op_u8x2 : Opens Try.prog 63 (Int × Int) (fun p => (Lit.int .u8 p.1).wf = true ∧ (Lit.int .u8 p.2).wf = true) (fun p => [.lit (.int .u8 p.1), .lit (.int .u8 p.2)]) := (opens_agg (ts := [5, 5]) (by kernel_rfl) (.cons op_u8 (.cons op_u8 .nil))).map (fun p => (p.1, p.2.1)) (fun _ h => ⟨⟨h.1, h.2.1⟩, rfl⟩)
end Go.Proofs.Ytbehekmnccoifaa
end
section
namespace Go.Proofs.Ytbehekmnccoifaa
open Go.ChangeShapes Go.WideShapes Go.ChangeAt Go.RowKit Go.Am
set_option maxRecDepth 100000 in
theorem dedupOnce_lifted (os : Os) (started : os.Started) (H : Type) (enc : TypeId × Value → H) :
    ReturnsInHanded {} Try.checked os 9 .any (Rows.dedupOnceSpec.pre6 enc Try.prog Try.f9 Rows.dedupOnceRow.domain false) (Rows.dedupOnceSpec.post enc Try.prog Try.f9 false true false false) := by
  refine returnsInHanded_of_change (C := Try.checked) Try.own started (by kernel_rfl) Try.func9
    (ChangeSpec.witness6 (enc := enc) (C := Try.checked) false ⟨#[], #[.slice none 0 0, .agg #[.int .u8 0, .int .u8 0]], []⟩ 20 (by kernel_rfl) (by kernel_rfl) (by kernel_rfl) (by kernel_rfl)) ?_
  intro W base args ds gs before hval0 hW hcnd _
  have hval : ∀ (j : Nat) t v, Try.f9.params[j]? = some t → args[j]? = some v → Value.okWide Try.prog W .any base t v := hval0
  have hW' := hW
  have hlt := hW.lt
  obtain ⟨p, q, hA0, hV, rfl, hfz, hnd⟩ := hW
  have hA : DataW.TrodAll enc Try.prog W 0 (fun _ => true) true Try.f9.params.toList args.toList ds p := hA0
  rw [Try.params9] at hA hval
  obtain ⟨v0, v1, d0, d1, p0, p1, rfl, rfl, rfl, h0, h1⟩ := trodAll_two hA
  obtain ⟨rfl, rfl⟩ := trodVars_none hV
  obtain ⟨a0, k0, r0⟩ := arg_one op_words (okWide_one_s Try.underlying22 (hval 0 22 _ rfl rfl)) h0
  obtain ⟨cs1, rfl⟩ := okWide_agg (by kernel_rfl) (hval 1 63 _ rfl rfl)
  obtain ⟨a1, k1, r1⟩ := arg_agg op_u8x2 h1
  clear hA0 hval0
  simp only [List.append_nil] at hW' hlt
  refine (law_calls (c_law11_DedupOnce a0 a1 (fun x hx => wf32 (k0.2 x hx)) ⟨wf8 k1.1, wf8 k1.2⟩) rfl ?_).mono fun e W' ⟨he, hB⟩ => ?_
  · intro i x hx
    match i, hx with
    | 0, hx => simp only [List.getElem?_cons_zero, Option.some.injEq] at hx; subst hx; exact r0
    | 1, hx => simp only [List.getElem?_cons_succ, List.getElem?_cons_zero, Option.some.injEq] at hx; subst hx; exact r1
    | i + 2, hx => simp at hx
  subst he
  exact ⟨_, rfl, law_post (pv := []) hW' (fun _ _ _ => trodAll_mk1 (shut_bool Try.underlying4 _))
    (fun sp hs => trodAll_mk2 (WideElems.Trod_stays Try.laidOut (by kernel_rfl) (of_decide_eq_true (by kernel_rfl)) h0 (fun x hx => hB.same (hlt x (by simp [hx]))) (fun x hx => hs x (by simp [hx]))) (WideElems.Trod_stays Try.laidOut (by kernel_rfl) (of_decide_eq_true (by kernel_rfl)) h1 (fun x hx => hB.same (hlt x (by simp [hx]))) (fun x hx => hs x (by simp [hx]))))
    (fun _ _ => rfl) (by simp) hB (ok_one (by kernel_rfl) rfl (okWide_bool_mk Try.underlying4 _))⟩
theorem dedupOnce_holds : Rows.DedupOnceSaid :=
  OpenClaim.holds_of_wide 9 Try.f9 rfl rfl rfl rfl rfl rfl rfl ⟨rfl, rfl, rfl, rfl, rfl⟩ rfl rfl rfl rfl rfl (by kernel_rfl) Try.func9 (by kernel_rfl)
    (of_decide_eq_true (by kernel_rfl)) (by unfold Func.isWrapper; first | (rw [if_pos (by decide +kernel)]; kernel_rfl) | (rw [if_neg (by decide +kernel)]; exact ⟨rfl, rfl⟩))
    (fun os started H enc _ => dedupOnce_lifted os started H enc)
#print axioms dedupOnce_holds
end Go.Proofs.Ytbehekmnccoifaa
end
