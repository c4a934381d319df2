/-
  To the end, by the document: rounds.
-/
import Derived.Test.YthelnccjcbnjfaaR6
set_option linter.unusedSimpArgs false
set_option linter.unusedVariables false
set_option maxRecDepth 100000
namespace Go.Proofs.Ythelnccjcbnjfaa
open Go.Am Go.Proofs
theorem by112 : tBytes Try.prog 112 = some 32 := by kernel_rfl
theorem el82 : tEl Try.prog 82 = some 112 := by kernel_rfl
theorem en78 : enters Try.prog 78 = true := by kernel_rfl
theorem en95 : enters Try.prog 95 = true := by kernel_rfl
set_option maxHeartbeats 4000000 in
theorem c_ref06_Drain (n g : Int) (c : Pl.Crew) (ev : List Pl.Event) (hR : Pl.Run n g c ev) (hM : Pl.most n g 0 c ev ≤ 16010) (he : ev.length ≤ 70000) : PCall Try.prog 79 [.agg (crewC c)] (.tup [.agg (crewC (Pl.rounds 20000 0 c ev).1), .seq false (((Pl.rounds 20000 0 c ev).2.1.drop ev.length).map evC), iV 0]) := by
 have hcr := hR.right (by omega)
 refine pcall_of_awp Try.func79 rfl (by simp [Try.ntmps79]) fun C hC => ?_
 refine awp_le (le_keep [0]) ?_
 simp only [kp, argSl, simprocAttr]
 refine awp_sr [63] (by rw [hC]; rfl) fun k hk => ?_
 simp (maxSteps := 9^9) (disch := (try simp only [lens]); omega) only [argSl, sm, ↓amb, mark_eq, simprocAttr, vr81, dx]
 repeat refine ⟨by first | omega | (simp; done) | (unfold maxLen; omega) | (simp [maxLen]; omega) | assumption, ?_⟩
 refine hk _ ?_; clear hk k
 refine awp_seq fun k1 h1 => ?_
 refine awp_test [63] 23 (decide (False)) [1, 2, 3, 4] (by rw [hC]; rfl) (fun gd hgd k hk => ?_) ?_
 ·have g3 : gd 3 = some 14 := by rw [hgd]; rfl
  have g7 : gd 7 = some 18 := by rw [hgd]; rfl
  clear hgd
  simp (maxSteps := 9^9) (disch := (try simp only [lens]); omega) only [argSl, sm, ↓amb, mark_eq, simprocAttr, sz81, en87, fl81_2, sz4, en95, gcase_undef, g3, g7, dx]
  repeat' first | refine hk _ _ rfl rfl rfl rfl ?_ | (refine gsplit (fun hg => ?_) (fun hg => ?_) <;> (try simp only [hbx] at hg) <;> simp (maxSteps := 9^9) (disch := (try simp only [lens]); omega) only [argSl, sm, ↓amb, mark_eq, simprocAttr, sz81, en87, fl81_2, sz4, en95, gcase_undef, g3, g7, dx]) | apply And.intro | (refine callK_p (c_ref05_Right _ (Pl.good_hl hR.gd)) rfl ?_; (try simp (maxSteps := 9^9) (disch := (try simp only [lens]); omega) only [argSl, sm, ↓amb, mark_eq, simprocAttr, sz81, en87, fl81_2, sz4, en95, gcase_undef, g3, g7, dx])) | (refine callK_p (c_ref05_Held _ hR.held.2 (by have := hR.dqlen; omega)) rfl ?_; (try simp (maxSteps := 9^9) (disch := (try simp only [lens]); omega) only [argSl, sm, ↓amb, mark_eq, simprocAttr, sz81, en87, fl81_2, sz4, en95, gcase_undef, g3, g7, dx])) | fail
  all_goals first | rfl | omega | exact (decide_eq_true (by omega)).symm | exact (decide_eq_false (by omega)).symm | exact decide_eq_decide.mpr (by omega) | (refine Bool.eq_iff_iff.mpr ?_; simp only [beq_iff_eq, bne_iff_ne, ne_eq, decide_eq_true_eq]; omega) | (refine Bool.eq_iff_iff.mpr ?_; simp only [Bool.not_eq_true', Bool.not_eq_false', decide_eq_false_iff_not, decide_eq_true_eq, beq_iff_eq, bne_iff_ne, ne_eq]; omega) | assumption | (simp; done) | (simp [maxLen]; omega) | skip
  all_goals first | exact absurd hcr (by assumption) | (have hov : ¬ c.over = true := (by rw [show c.over = false from by assumption]; decide); have hne : ¬ Pl.held c.dq = 0 := (fun q => hov (hR.held.1.2 q)); rw [beq_eq_false_iff_ne.mpr (by omega)]; rfl) | rfl | trace_state
 simp only [kp, argSl, simprocAttr, List.length_cons, List.length_nil]
 refine awp_cond rfl (fun hb => ?_) (fun hb => ?_)
 ·exact absurd hb (by simp)
 ·try simp only [hbx] at hb
  refine awp_skip ?_
  refine h1 _ ?_; clear h1 k1
  refine awp_le (le_keep [1, 2]) ?_
  simp only [kp, argSl, simprocAttr]
  refine awp_sr [63] (by rw [hC]; rfl) fun k hk => ?_
  simp (maxSteps := 9^9) (disch := (try simp only [lens]); omega) only [argSl, sm, ↓amb, mark_eq, simprocAttr, dx]
  repeat refine ⟨by first | omega | (simp; done) | (unfold maxLen; omega) | (simp [maxLen]; omega) | assumption, ?_⟩
  refine hk _ ?_; clear hk k
  refine awp_le (le_keep [1, 2, 5]) ?_
  simp only [kp, argSl, simprocAttr]
  refine awp_own' 5 4 rfl ?_
  refine awp_sr [63] (by rw [hC]; rfl) fun k hk => ?_
  simp (maxSteps := 9^9) (disch := (try simp only [lens]); omega) only [argSl, sm, ↓amb, mark_eq, simprocAttr, dx]
  repeat refine ⟨by first | omega | (simp; done) | (unfold maxLen; omega) | (simp [maxLen]; omega) | assumption, ?_⟩
  refine hk _ ?_; clear hk k
  refine awp_block ?_
  refine awp_loop (σ := Nat × Pl.Crew × List Pl.Event) (fun x => Pl.Run n g x.2.1 (ev ++ x.2.2) ∧ x.2.1.dq.length = c.dq.length ∧ Pl.rounds (20000 - (x.1 * c.dq.length)) (x.1 * c.dq.length) x.2.1 (ev ++ x.2.2) = (Pl.rounds 20000 0 c ev) ∧ Pl.most n g (x.1 * c.dq.length) x.2.1 (ev ++ x.2.2) + (((x.1 * c.dq.length) : Nat) : Int) ≤ 16010 ∧ (ev ++ x.2.2).length = ev.length + (x.1 * c.dq.length)) (fun x => ⟨[(1, (.ptr 0 7 0 0)), (2, (.ptr 1 7 0 0)), (5, (.own 2)), (6, (.p (iV (x.1 : Int))))], [(0, (.row 7 [[.p (.seq false (x.2.1.work.ts.map taskC)), .p (iV x.2.1.work.grain), .p (.seq false (x.2.1.work.done.map fun b => [bV b])), .p (.seq false (x.2.1.dq.map lV)), .p (bV x.2.1.over), .p (iV x.2.1.steps), .p (iV x.2.1.idle)]])), (1, (.row 7 [[.p (.seq true []), .p (iV 0), .p (.seq true []), .p (.seq true []), .p (bV false), .p (iV 0), .p (iV 0)]])), (2, (.row 4 (lift (x.2.2.map evC))))], 1⟩) (fun x => 16011 - x.1 * c.dq.length) (0, c, []) ?_ ?_ fun x hx => ?_
  ·dsimp only; rw [Nat.zero_mul, List.append_nil]; exact ⟨hR, rfl, rfl, by omega, by omega⟩
  ·exact le_of [(0, _), (1, _), (2, _)] (by rfl) (by rfl) ⟨⟨_, rfl, .ptr rfl⟩, ⟨_, rfl, .ptr rfl⟩, ⟨_, rfl, .own rfl⟩, ⟨_, rfl, .p (.of_eq (by first | rfl | (simp only [PV.lit.injEq, Value.int.injEq, true_and]; omega) | (simp; done) | (simp; omega)))⟩, trivial⟩ ⟨⟨_, rfl, _, rfl, .one (.cons (.p (.refl _)) (.cons (.p (.refl _)) (.cons (.p (.refl _)) (.cons (.p (.refl _)) (.cons (.p (.refl _)) (.cons (.p (.refl _)) (.cons (.p (.refl _)) (.nil))))))))⟩, ⟨_, rfl, _, rfl, .one (.cons (.p (.refl _)) (.cons (.p (.refl _)) (.cons (.p (.refl _)) (.cons (.p (.refl _)) (.cons (.p (.refl _)) (.cons (.p (.refl _)) (.cons (.p (.refl _)) (.nil))))))))⟩, ⟨_, rfl, _, rfl, .liftE (by first | rfl | (rw [List.map_append]; rfl))⟩, trivial⟩
  obtain ⟨r, c1, m1⟩ := x
  obtain ⟨hR1, hRw, hRr, hRm, hRe⟩ := hx
  dsimp only at hR1 hRw hRr hRm hRe
  refine awp_seq fun k3 h3 => ?_
  refine awp_block ?_
  refine awp_le (le_keep [0, 1, 2, 3, 4, 5, 6]) ?_
  simp only [kp, argSl, simprocAttr]
  refine awp_sr [63] (by rw [hC]; rfl) fun k hk => ?_
  simp (maxSteps := 9^9) (disch := (try simp only [lens]); omega) only [argSl, sm, ↓amb, mark_eq, simprocAttr, dx]
  repeat refine ⟨by first | omega | (simp; done) | (unfold maxLen; omega) | (simp [maxLen]; omega) | assumption, ?_⟩
  refine hk _ ?_; clear hk k
  refine awp_block ?_
  refine awp_loop (σ := Nat × Pl.Crew × List Pl.Event) (fun x => x.1 ≤ c.dq.length ∧ Pl.Run n g x.2.1 (ev ++ x.2.2) ∧ x.2.1.dq.length = c.dq.length ∧ Pl.rounds (20000 - (r * c.dq.length + x.1)) (r * c.dq.length + x.1) x.2.1 (ev ++ x.2.2) = (Pl.rounds 20000 0 c ev) ∧ Pl.most n g (r * c.dq.length + x.1) x.2.1 (ev ++ x.2.2) + (((r * c.dq.length + x.1) : Nat) : Int) ≤ 16010 ∧ (ev ++ x.2.2).length = ev.length + (r * c.dq.length + x.1)) (fun x => ⟨[(1, (.ptr 0 7 0 0)), (2, (.ptr 1 7 0 0)), (5, (.own 2)), (6, (.p (iV (r : Int)))), (7, (.p (iV (x.1 : Int))))], [(0, (.row 7 [[.p (.seq false (x.2.1.work.ts.map taskC)), .p (iV x.2.1.work.grain), .p (.seq false (x.2.1.work.done.map fun b => [bV b])), .p (.seq false (x.2.1.dq.map lV)), .p (bV x.2.1.over), .p (iV x.2.1.steps), .p (iV x.2.1.idle)]])), (1, (.row 7 [[.p (.seq true []), .p (iV 0), .p (.seq true []), .p (.seq true []), .p (bV false), .p (iV 0), .p (iV 0)]])), (2, (.row 4 (lift (x.2.2.map evC))))], 1⟩) (fun x => c.dq.length - x.1) (0, c1, m1) ?_ ?_ fun x hx => ?_
  ·dsimp only; rw [Nat.add_zero]; exact ⟨Nat.zero_le _, hR1, hRw, hRr, hRm, hRe⟩
  ·exact le_of [(0, _), (1, _), (2, _)] (by rfl) (by rfl) ⟨⟨_, rfl, .ptr rfl⟩, ⟨_, rfl, .ptr rfl⟩, ⟨_, rfl, .own rfl⟩, ⟨_, rfl, .p (.of_eq (by first | rfl | (simp only [PV.lit.injEq, Value.int.injEq, true_and]; omega) | (simp; done) | (simp; omega)))⟩, ⟨_, rfl, .p (.of_eq (by first | rfl | (simp only [PV.lit.injEq, Value.int.injEq, true_and]; omega) | (simp; done) | (simp; omega)))⟩, trivial⟩ ⟨⟨_, rfl, _, rfl, .one (.cons (.p (.refl _)) (.cons (.p (.refl _)) (.cons (.p (.refl _)) (.cons (.p (.refl _)) (.cons (.p (.refl _)) (.cons (.p (.refl _)) (.cons (.p (.refl _)) (.nil))))))))⟩, ⟨_, rfl, _, rfl, .one (.cons (.p (.refl _)) (.cons (.p (.refl _)) (.cons (.p (.refl _)) (.cons (.p (.refl _)) (.cons (.p (.refl _)) (.cons (.p (.refl _)) (.cons (.p (.refl _)) (.nil))))))))⟩, ⟨_, rfl, _, rfl, .liftE (by first | rfl | (rw [List.map_append]; rfl))⟩, trivial⟩
  obtain ⟨p, c2, m2⟩ := x
  obtain ⟨hp1, hR2, hR3, hR4, hR5, hR6⟩ := hx
  dsimp only at hp1 hR2 hR3 hR4 hR5 hR6
  have hdl := hR1.dqlen
  have hm0 := hR1.most_0 (k := r * c.dq.length) (r := r) (by rw [hRw])
  have hrr : r ≤ r * c.dq.length := Nat.le_mul_of_pos_right r (by omega)
  have hml : m2.length = r * c.dq.length + p := by rw [List.length_append] at hR6; omega
  refine awp_seq fun k5 h5 => ?_
  refine awp_le (le_keep [0, 1, 2, 3, 4, 5, 6, 7]) ?_
  simp only [kp, argSl, simprocAttr]
  refine awp_sr [63] (by rw [hC]; rfl) fun k hk => ?_
  simp (maxSteps := 9^9) (disch := (try simp only [lens]); omega) only [argSl, sm, ↓amb, mark_eq, simprocAttr, fl81_1, sz79, el79, dx]
  repeat refine ⟨by first | omega | (simp; done) | (unfold maxLen; omega) | (simp [maxLen]; omega) | assumption, ?_⟩
  refine hk _ ?_; clear hk k
  refine awp_cond rfl (fun hb => ?_) (fun hb => ?_)
  ·try simp only [hbx] at hb
   refine awp_skip ?_
   refine h5 _ ?_; clear h5 k5
   refine awp_seq fun k6 h6 => ?_
   refine awp_block ?_
   refine awp_seq fun k7 h7 => ?_
   refine awp_le (le_keep [0, 1, 2, 3, 4, 5, 6, 7]) ?_
   simp only [kp, argSl, simprocAttr]
   refine awp_sr [63] (by rw [hC]; rfl) fun k hk => ?_
   simp (maxSteps := 9^9) (disch := (try simp only [lens]); omega) only [argSl, sm, ↓amb, mark_eq, simprocAttr, fl81_2, sz4, dx]
   repeat refine ⟨by first | omega | (simp; done) | (unfold maxLen; omega) | (simp [maxLen]; omega) | assumption, ?_⟩
   refine hk _ ?_; clear hk k
   refine awp_cond rfl (fun hb => ?_) (fun hb => ?_)
   ·try simp only [hbx] at hb
    refine awp_le (le_keep [1, 2, 5]) ?_
    simp only [kp, argSl, simprocAttr]
    have ho := hb
    refine awp_sr [63] (by rw [hC]; rfl) fun k hk => ?_
    simp (maxSteps := 9^9) (disch := (try simp only [lens]); omega) only [argSl, sm, ↓amb, mark_eq, simprocAttr, sz81, dx]
    repeat refine ⟨by first | omega | (simp; done) | (unfold maxLen; omega) | (simp [maxLen]; omega) | assumption, ?_⟩
    refine hk _ ?_; clear hk k
    refine awp_ret ?_
    rw [Pl.rounds_over ho] at hR4
    rw [← hR4, List.drop_left]
    refine retl rfl rfl ⟨retc rfl sz81 ?_, rett rfl ?_, rett rfl ?_, trivial⟩
    simp (maxSteps := 9^9) (disch := (try simp only [lens]); omega) only [argSl, sm, ↓amb, mark_eq, simprocAttr, sz81, dx]
    ·exact .p (LeP.refl _)
    ·exact .ownE rfl rfl
    ·exact .p (LeP.refl _)
   ·try simp only [hbx] at hb
    refine awp_skip ?_
    refine h7 _ ?_; clear h7 k7
    refine awp_seq fun k8 h8 => ?_
    refine awp_le (le_keep [0, 1, 2, 3, 4, 5, 6, 7]) ?_
    simp only [kp, argSl, simprocAttr]
    have ho : ¬ c2.over = true := by simp [hb]
    refine awp_sr [63] (by rw [hC]; rfl) fun k hk => ?_
    simp (maxSteps := 9^9) (disch := (try simp only [lens]); omega) only [argSl, sm, ↓amb, mark_eq, simprocAttr, sz81, en95, dx]
    repeat refine ⟨by first | omega | (simp; done) | (unfold maxLen; omega) | (simp [maxLen]; omega) | assumption, ?_⟩
    refine callK_p (c_ref05_Held _ hR2.held.2 (by have := hR2.dqlen; omega)) rfl ?_
    simp (maxSteps := 9^9) (disch := (try simp only [lens]); omega) only [argSl, sm, ↓amb, mark_eq, simprocAttr, sz81, en95, dx]
    repeat refine ⟨by first | omega | (simp; done) | (unfold maxLen; omega) | (simp [maxLen]; omega) | assumption, ?_⟩
    refine hk _ ?_; clear hk k
    refine awp_cond rfl (fun hb => ?_) (fun hb => ?_)
    ·exact absurd (hR2.held.1.2 (by have := beq_iff_eq.mp hb; omega)) ho
    ·try simp only [hbx] at hb
     refine awp_skip ?_
     refine h8 _ ?_; clear h8 k8
     refine awp_le (le_keep [0, 1, 2, 3, 4, 5, 6, 7]) ?_
     simp only [kp, argSl, simprocAttr]
     have hh : ¬ Pl.held c2.dq = 0 := by omega
     have hk1 := (hR2.most_pos (r * c.dq.length + p) ho).1
     obtain ⟨hs1, hs2⟩ := hR2.step (by omega) p (p + 1 + r)
     have hs3 := Pl.rounds_on (f := 20000) (k := r * c.dq.length + p) (W := c.dq.length) (r := r) (p := p) (ev := ev ++ m2) hR3 (by omega) rfl ho hh hs1 (by omega)
     have hs4 := hR2.most_on (by omega) (W := c.dq.length) (r := r) (p := p) hR3 (by omega) rfl ho
     refine awp_sr [63] (by rw [hC]; rfl) fun k hk => ?_
     simp (maxSteps := 9^9) (disch := (try simp only [lens]); omega) only [argSl, sm, ↓amb, mark_eq, simprocAttr, sz81, en78, vr81, vr112, sz112, dx]
     repeat refine ⟨by first | omega | (simp; done) | (unfold maxLen; omega) | (simp [maxLen]; omega) | assumption, ?_⟩
     refine callK_p (c_ref05_Step c2 p (p + 1 + r) (Pl.good_hl hR2.gd) hs1) rfl ?_
     simp (maxSteps := 9^9) (disch := (try simp only [lens]); omega) only [argSl, sm, ↓amb, mark_eq, simprocAttr, sz81, en78, vr81, vr112, sz112, dx]
     repeat refine ⟨by first | omega | (simp; done) | (unfold maxLen; omega) | (simp [maxLen]; omega) | assumption, ?_⟩
     refine hk _ ?_; clear hk k
     refine awp_seq fun k9 h9 => ?_
     refine awp_le (le_keep [0, 1, 2, 3, 4, 5, 6, 7, 8, 9, 10]) ?_
     simp only [kp, argSl, simprocAttr]
     refine awp_sr [63] (by rw [hC]; rfl) fun k hk => ?_
     simp (maxSteps := 9^9) (disch := (try simp only [lens]); omega) only [argSl, sm, ↓amb, mark_eq, simprocAttr, dx]
     repeat refine ⟨by first | omega | (simp; done) | (unfold maxLen; omega) | (simp [maxLen]; omega) | assumption, ?_⟩
     refine hk _ ?_; clear hk k
     refine awp_cond rfl (fun hb => ?_) (fun hb => ?_)
     ·exact absurd hb (by simp)
     ·try simp only [hbx] at hb
      refine awp_skip ?_
      refine h9 _ ?_; clear h9 k9
      refine awp_draw [63] ⟨[0, 0, 0, 4, 14, 31, 63], [], [4, 5], [(4, 5)], some [0, 2]⟩ (by rw [hC]; rfl) (by kernel_rfl) (by kernel_rfl) fun k hk => ?_
      simp (maxSteps := 9^9) (disch := (try simp only [lens]); omega) only [argSl, sm, ↓amb, mark_eq, simprocAttr, sz81, sz112, el82, vr112, by112, dx]
      repeat refine ⟨by first | omega | (simp; done) | (unfold maxLen; omega) | (simp [maxLen]; omega) | assumption, ?_⟩
      refine hk _ ?_; clear hk k
      refine h6 _ ?_; clear h6 k6
      refine awp_region [63] (by rw [hC]; rfl) fun k hk => ?_
      simp (maxSteps := 9^9) (disch := (try simp only [lens]); omega) only [argSl, sm, ↓amb, mark_eq, simprocAttr, dx]
      repeat refine ⟨by first | omega | (simp; done) | (unfold maxLen; omega) | (simp [maxLen]; omega) | assumption, ?_⟩
      refine hk _ ?_; clear hk k
      refine ⟨(p + 1, (Pl.step c2 p (p + 1 + r)).1, m2 ++ [(Pl.step c2 p (p + 1 + r)).2.1]), (by dsimp only; rw [← Nat.add_assoc, ← List.append_assoc]; exact ⟨by omega, hs2, by rw [Pl.step_dqlen]; exact hR3, by rw [← hs3]; exact hR4, by omega, by rw [List.length_append, List.length_singleton]; omega⟩), le_of [(0, _), (1, _), (2, _)] (by rfl) (by rfl) ⟨⟨_, rfl, .ptr rfl⟩, ⟨_, rfl, .ptr rfl⟩, ⟨_, rfl, .own rfl⟩, ⟨_, rfl, .p (.of_eq (by first | rfl | (simp only [PV.lit.injEq, Value.int.injEq, true_and]; omega) | (simp; done) | (simp; omega)))⟩, ⟨_, rfl, .p (.of_eq (by first | rfl | (simp only [PV.lit.injEq, Value.int.injEq, true_and]; omega) | (simp; done) | (simp; omega)))⟩, trivial⟩ ⟨⟨_, rfl, _, rfl, .one (.cons (.p (.refl _)) (.cons (.p (.refl _)) (.cons (.p (.refl _)) (.cons (.p (.refl _)) (.cons (.p (.refl _)) (.cons (.p (.refl _)) (.cons (.p (.refl _)) (.nil))))))))⟩, ⟨_, rfl, _, rfl, .one (.cons (.p (.refl _)) (.cons (.p (.refl _)) (.cons (.p (.refl _)) (.cons (.p (.refl _)) (.cons (.p (.refl _)) (.cons (.p (.refl _)) (.cons (.p (.refl _)) (.nil))))))))⟩, ⟨_, rfl, _, rfl, .liftE (by first | rfl | (rw [List.map_append]; rfl))⟩, trivial⟩, (by dsimp only; omega)⟩
  ·try simp only [hbx] at hb
   refine awp_exit ((if_pos rfl).mpr ?_)
   refine h3 _ ?_; clear h5 k5; clear h3 k3
   have hp2 : r * c.dq.length + p = r * c.dq.length + c.dq.length := by omega
   refine awp_region [63] (by rw [hC]; rfl) fun k hk => ?_
   simp (maxSteps := 9^9) (disch := (try simp only [lens]); omega) only [argSl, sm, ↓amb, mark_eq, simprocAttr, dx]
   repeat refine ⟨by first | omega | (simp; done) | (unfold maxLen; omega) | (simp [maxLen]; omega) | assumption, ?_⟩
   refine hk _ ?_; clear hk k
   refine ⟨(r + 1, c2, m2), (by dsimp only; rw [Nat.add_mul, Nat.one_mul]; rw [hp2] at hR4 hR5 hR6; exact ⟨hR2, hR3, hR4, hR5, hR6⟩), le_of [(0, _), (1, _), (2, _)] (by rfl) (by rfl) ⟨⟨_, rfl, .ptr rfl⟩, ⟨_, rfl, .ptr rfl⟩, ⟨_, rfl, .own rfl⟩, ⟨_, rfl, .p (.of_eq (by first | rfl | (simp only [PV.lit.injEq, Value.int.injEq, true_and]; omega) | (simp; done) | (simp; omega)))⟩, trivial⟩ ⟨⟨_, rfl, _, rfl, .one (.cons (.p (.refl _)) (.cons (.p (.refl _)) (.cons (.p (.refl _)) (.cons (.p (.refl _)) (.cons (.p (.refl _)) (.cons (.p (.refl _)) (.cons (.p (.refl _)) (.nil))))))))⟩, ⟨_, rfl, _, rfl, .one (.cons (.p (.refl _)) (.cons (.p (.refl _)) (.cons (.p (.refl _)) (.cons (.p (.refl _)) (.cons (.p (.refl _)) (.cons (.p (.refl _)) (.cons (.p (.refl _)) (.nil))))))))⟩, ⟨_, rfl, _, rfl, .liftE (by first | rfl | (rw [List.map_append]; rfl))⟩, trivial⟩, (by dsimp only; rw [Nat.add_mul, Nat.one_mul]; have := hR1.most_0 (k := r * c.dq.length) (r := r) (by rw [hRw]); have := hR1.dqlen; omega)⟩
end Go.Proofs.Ythelnccjcbnjfaa
