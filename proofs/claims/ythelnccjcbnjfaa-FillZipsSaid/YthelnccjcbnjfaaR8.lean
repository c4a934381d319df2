/-
  To the end, by the document.
-/
import Derived.Test.YthelnccjcbnjfaaR7
set_option linter.unusedSimpArgs false
set_option linter.unusedVariables false
set_option maxRecDepth 100000
namespace Go.Proofs.Ythelnccjcbnjfaa
open Go.Am Go.Proofs
theorem ar23 : tArr Try.prog 23 = some (2, 1, false) := by kernel_rfl
theorem el23 : tEl Try.prog 23 = none := by kernel_rfl
theorem el24 : tEl Try.prog 24 = some 23 := by kernel_rfl
theorem en61 : enters Try.prog 61 = true := by kernel_rfl
theorem en79 : enters Try.prog 79 = true := by kernel_rfl
theorem sz23 : tSz Try.prog 23 = some (true, 2) := by kernel_rfl
set_option maxHeartbeats 4000000 in
theorem c_ref06_Whole (cp : Bool) (n g w : Int) (P : List (Int × Int)) (hok : Pl.bdOk n g w) (hP : P.length ≤ 70000) : PCall Try.prog 57 [iV n, iV g, iV w, picksV cp P] (.tup [.agg (crewC (Pl.whole n g w P).1), .seq false ((Pl.whole n g w P).2.1.map evC), iV 0]) := by
 obtain ⟨hcn, hww⟩ := hok
 obtain ⟨b0, b1, b2, b3, b4, b5, b6⟩ := Pl.picked_ok (P := P) hcn hww hP
 have hcn' := hcn
 unfold Pl.cnt at hcn'
 refine pcall_of_awp Try.func57 rfl (by simp [Try.ntmps57]) fun C hC => ?_
 refine awp_le (le_keep [0, 1, 2, 3]) ?_
 simp only [kp, argSl, simprocAttr]
 refine awp_sr [66, 76] (by rw [hC]; rfl) fun k hk => ?_
 simp (maxSteps := 9^9) (disch := (try simp only [lens]); omega) only [argSl, sm, ↓amb, mark_eq, simprocAttr, vr81, dx]
 repeat refine ⟨by first | omega | (simp; done) | (unfold maxLen; omega) | (simp [maxLen]; omega) | assumption, ?_⟩
 refine hk _ ?_; clear hk k
 refine awp_le (le_keep [0, 1, 2, 3, 8]) ?_
 simp only [kp, argSl, simprocAttr]
 refine awp_sr [66, 76] (by rw [hC]; rfl) fun k hk => ?_
 simp (maxSteps := 9^9) (disch := (try simp only [lens]); omega) only [argSl, sm, ↓amb, mark_eq, simprocAttr, en61, vr81, sz81, dx]
 repeat refine ⟨by first | omega | (simp; done) | (unfold maxLen; omega) | (simp [maxLen]; omega) | assumption, ?_⟩
 refine callK_p (c_ref05_Begin _ _ _ (by omega)) rfl ?_
 simp (maxSteps := 9^9) (disch := (try simp only [lens]); omega) only [argSl, sm, ↓amb, mark_eq, simprocAttr, en61, vr81, sz81, dx]
 repeat refine ⟨by first | omega | (simp; done) | (unfold maxLen; omega) | (simp [maxLen]; omega) | assumption, ?_⟩
 refine hk _ ?_; clear hk k
 refine awp_seq fun k1 h1 => ?_
 refine awp_le (le_keep [3, 8, 9, 10, 11, 12]) ?_
 simp only [kp, argSl, simprocAttr]
 rw [b0]
 refine awp_sr [66, 76] (by rw [hC]; rfl) fun k hk => ?_
 simp (maxSteps := 9^9) (disch := (try simp only [lens]); omega) only [argSl, sm, ↓amb, mark_eq, simprocAttr, dx]
 repeat refine ⟨by first | omega | (simp; done) | (unfold maxLen; omega) | (simp [maxLen]; omega) | assumption, ?_⟩
 refine hk _ ?_; clear hk k
 refine awp_cond rfl (fun hb => ?_) (fun hb => ?_)
 ·exact absurd hb (by simp)
 ·try simp only [hbx] at hb
  refine awp_skip ?_
  refine h1 _ ?_; clear h1 k1
  refine awp_le (le_keep [3, 8, 11]) ?_
  simp only [kp, argSl, simprocAttr]
  refine awp_sr [66, 76] (by rw [hC]; rfl) fun k hk => ?_
  simp (maxSteps := 9^9) (disch := (try simp only [lens]); omega) only [argSl, sm, ↓amb, mark_eq, simprocAttr, dx]
  repeat refine ⟨by first | omega | (simp; done) | (unfold maxLen; omega) | (simp [maxLen]; omega) | assumption, ?_⟩
  refine hk _ ?_; clear hk k
  refine awp_seq fun k2 h2 => ?_
  refine awp_le (le_keep [3, 8, 9, 10, 11, 13]) ?_
  simp only [kp, argSl, simprocAttr]
  refine awp_own' 13 4 rfl ?_
  refine awp_sr [66, 76] (by rw [hC]; rfl) fun k hk => ?_
  simp (maxSteps := 9^9) (disch := (try simp only [lens]); omega) only [argSl, sm, ↓amb, mark_eq, simprocAttr, dx]
  repeat refine ⟨by first | omega | (simp; done) | (unfold maxLen; omega) | (simp [maxLen]; omega) | assumption, ?_⟩
  refine hk _ ?_; clear hk k
  refine awp_block ?_
  refine awp_loop (σ := Nat × Pl.Crew × List Pl.Event) (fun x => x.1 ≤ P.length ∧ Pl.Run n g x.2.1 x.2.2 ∧ Pl.picked (P.drop x.1) x.2.1 x.2.2 = (Pl.picked P (Pl.crewBegin n g w).1 []) ∧ x.2.2.length ≤ x.1) (fun x => ⟨[(3, (.p (picksV cp P))), (8, (.ptr 0 7 0 0)), (11, (.ptr 1 7 0 0)), (13, (.own 2)), (14, (.p (iV (x.1 : Int))))], [(0, (.row 7 [[.p (.seq true []), .p (iV 0), .p (.seq true []), .p (.seq true []), .p (bV false), .p (iV 0), .p (iV 0)]])), (1, (.row 7 [[.p (.seq false (x.2.1.work.ts.map taskC)), .p (iV x.2.1.work.grain), .p (.seq false (x.2.1.work.done.map fun b => [bV b])), .p (.seq false (x.2.1.dq.map lV)), .p (bV x.2.1.over), .p (iV x.2.1.steps), .p (iV x.2.1.idle)]])), (2, (.row 4 (lift (x.2.2.map evC))))], 1⟩) (fun x => P.length - x.1) (0, (Pl.crewBegin n g w).1, []) ?_ ?_ fun x hx => ?_
  ·exact ⟨Nat.zero_le _, b1, rfl, Nat.le_refl _⟩
  ·exact le_of [(0, _), (1, _), (2, _)] (by rfl) (by rfl) ⟨⟨_, rfl, .p (.of_eq (by first | rfl | (simp only [PV.lit.injEq, Value.int.injEq, true_and]; omega) | (simp; done) | (simp; omega)))⟩, ⟨_, rfl, .ptr rfl⟩, ⟨_, rfl, .ptr rfl⟩, ⟨_, rfl, .own rfl⟩, ⟨_, rfl, .p (.of_eq (by first | rfl | (simp only [PV.lit.injEq, Value.int.injEq, true_and]; omega) | (simp; done) | (simp; omega)))⟩, trivial⟩ ⟨⟨_, rfl, _, rfl, .one (.cons (.p (.refl _)) (.cons (.p (.refl _)) (.cons (.p (.refl _)) (.cons (.p (.refl _)) (.cons (.p (.refl _)) (.cons (.p (.refl _)) (.cons (.p (.refl _)) (.nil))))))))⟩, ⟨_, rfl, _, rfl, .one (.cons (.p (.refl _)) (.cons (.p (.refl _)) (.cons (.p (.refl _)) (.cons (.p (.refl _)) (.cons (.p (.refl _)) (.cons (.p (.refl _)) (.cons (.p (.refl _)) (.nil))))))))⟩, ⟨_, rfl, _, rfl, .liftE (by first | rfl | (rw [List.map_append]; rfl))⟩, trivial⟩
  obtain ⟨i, c, ev⟩ := x
  obtain ⟨hi, hR, hK, hel⟩ := hx
  dsimp only at hi hR hK hel
  refine awp_seq fun k4 h4 => ?_
  refine awp_test [66, 76] 38 (decide ((i : Int) < P.length ∧ ¬ c.over = true)) [0, 1, 2, 3, 8, 9, 10, 11, 13, 14] (by rw [hC]; rfl) (fun gd hgd k hk => ?_) ?_
  ·have g4 : gd 4 = some 34 := by rw [hgd]; rfl
   clear hgd
   simp (maxSteps := 9^9) (disch := (try simp only [lens]); omega) only [argSl, sm, ↓amb, mark_eq, simprocAttr, el24, fl81_2, sz4, gcase_undef, g4, dx]
   repeat' first | refine hk _ _ rfl rfl rfl rfl ?_ | (refine gsplit (fun hg => ?_) (fun hg => ?_) <;> (try simp only [hbx] at hg) <;> simp (maxSteps := 9^9) (disch := (try simp only [lens]); omega) only [argSl, sm, ↓amb, mark_eq, simprocAttr, el24, fl81_2, sz4, gcase_undef, g4, dx]) | apply And.intro | fail
   all_goals first | rfl | omega | exact (decide_eq_true (by omega)).symm | exact (decide_eq_false (by omega)).symm | exact decide_eq_decide.mpr (by omega) | (refine Bool.eq_iff_iff.mpr ?_; simp only [beq_iff_eq, bne_iff_ne, ne_eq, decide_eq_true_eq]; omega) | (refine Bool.eq_iff_iff.mpr ?_; simp only [Bool.not_eq_true', Bool.not_eq_false', decide_eq_false_iff_not, decide_eq_true_eq, beq_iff_eq, bne_iff_ne, ne_eq]; omega) | assumption | (simp; done) | (simp [maxLen]; omega) | skip
   all_goals first | (refine Bool.eq_iff_iff.mpr ?_; simp_all; done) | (refine (decide_eq_false ?_).symm; omega) | (refine (decide_eq_false ?_); omega) | trace_state
  simp only [kp, argSl, simprocAttr, List.length_cons, List.length_nil]
  refine awp_cond rfl (fun hb => ?_) (fun hb => ?_)
  ·try simp only [hbx] at hb
   refine awp_skip ?_
   refine h4 _ ?_; clear h4 k4
   refine awp_seq fun k5 h5 => ?_
   refine awp_block ?_
   refine awp_le (le_keep [0, 1, 2, 3, 8, 9, 10, 11, 13, 14]) ?_
   simp only [kp, argSl, simprocAttr]
   have ho : ¬ c.over = true := by simp [hb.2]
   obtain ⟨hs1, hs2⟩ := hR.step (by omega) (P.getD i default).1 (P.getD i default).2
   have hs3 := Pl.picked_on (l := ev) (P := P) (i := i) (by omega) ho hs1
   refine awp_sd [66, 76] ⟨[0, 0, 0, 6, 14, 30, 0, 0, 192, 448, 960, 2047, 4095, 8191, 8191, 8191, 0, 0, 212991, 491519, 1048575], [0, 5, 10], [18, 19], [(11, 18), (16, 18), (17, 18), (11, 19), (16, 19), (17, 19)], none⟩ (by rw [hC]; rfl) (by kernel_rfl) (by kernel_rfl) fun k hk => ?_
   simp (maxSteps := 9^9) (disch := (try simp only [lens]); omega) only [argSl, sm, ↓amb, mark_eq, simprocAttr, sz81, el24, sz23, el23, ar23, sz3, en78, vr81, vr112, sz112, dx]
   repeat refine ⟨by first | omega | (simp; done) | (unfold maxLen; omega) | (simp [maxLen]; omega) | assumption, ?_⟩
   refine callK_p (c_ref05_Step c (P.getD i default).1 (P.getD i default).2 (Pl.good_hl hR.gd) hs1) rfl ?_
   simp (maxSteps := 9^9) (disch := (try simp only [lens]); omega) only [argSl, sm, ↓amb, mark_eq, simprocAttr, sz81, el24, sz23, el23, ar23, sz3, en78, vr81, vr112, sz112, dx]
   repeat refine ⟨by first | omega | (simp; done) | (unfold maxLen; omega) | (simp [maxLen]; omega) | assumption, ?_⟩
   refine hk _ ?_; clear hk k
   refine awp_seq fun k6 h6 => ?_
   refine awp_le (le_keep [0, 1, 2, 3, 8, 9, 10, 11, 13, 14, 15, 16, 17]) ?_
   simp only [kp, argSl, simprocAttr]
   refine awp_sr [66, 76] (by rw [hC]; rfl) fun k hk => ?_
   simp (maxSteps := 9^9) (disch := (try simp only [lens]); omega) only [argSl, sm, ↓amb, mark_eq, simprocAttr, dx]
   repeat refine ⟨by first | omega | (simp; done) | (unfold maxLen; omega) | (simp [maxLen]; omega) | assumption, ?_⟩
   refine hk _ ?_; clear hk k
   refine awp_cond rfl (fun hb => ?_) (fun hb => ?_)
   ·exact absurd hb (by simp)
   ·try simp only [hbx] at hb
    refine awp_skip ?_
    refine h6 _ ?_; clear h6 k6
    refine awp_draw [66, 76] ⟨[0, 0, 0, 4, 14, 31, 63], [], [4, 5], [(4, 5)], some [1, 2]⟩ (by rw [hC]; rfl) (by kernel_rfl) (by kernel_rfl) fun k hk => ?_
    simp (maxSteps := 9^9) (disch := (try simp only [lens]); omega) only [argSl, sm, ↓amb, mark_eq, simprocAttr, sz81, sz112, el82, vr112, by112, dx]
    repeat refine ⟨by first | omega | (simp; done) | (unfold maxLen; omega) | (simp [maxLen]; omega) | assumption, ?_⟩
    refine hk _ ?_; clear hk k
    refine h5 _ ?_; clear h5 k5
    refine awp_region [66, 76] (by rw [hC]; rfl) fun k hk => ?_
    simp (maxSteps := 9^9) (disch := (try simp only [lens]); omega) only [argSl, sm, ↓amb, mark_eq, simprocAttr, dx]
    repeat refine ⟨by first | omega | (simp; done) | (unfold maxLen; omega) | (simp [maxLen]; omega) | assumption, ?_⟩
    refine hk _ ?_; clear hk k
    refine ⟨(i + 1, (Pl.step c (P.getD i default).1 (P.getD i default).2).1, ev ++ [(Pl.step c (P.getD i default).1 (P.getD i default).2).2.1]), ⟨by dsimp only; omega, hs2, by rw [← hK, hs3], by simp; omega⟩, le_of [(0, _), (1, _), (2, _)] (by rfl) (by rfl) ⟨⟨_, rfl, .p (.of_eq (by first | rfl | (simp only [PV.lit.injEq, Value.int.injEq, true_and]; omega) | (simp; done) | (simp; omega)))⟩, ⟨_, rfl, .ptr rfl⟩, ⟨_, rfl, .ptr rfl⟩, ⟨_, rfl, .own rfl⟩, ⟨_, rfl, .p (.of_eq (by first | rfl | (simp only [PV.lit.injEq, Value.int.injEq, true_and]; omega) | (simp; done) | (simp; omega)))⟩, trivial⟩ ⟨⟨_, rfl, _, rfl, .one (.cons (.p (.refl _)) (.cons (.p (.refl _)) (.cons (.p (.refl _)) (.cons (.p (.refl _)) (.cons (.p (.refl _)) (.cons (.p (.refl _)) (.cons (.p (.refl _)) (.nil))))))))⟩, ⟨_, rfl, _, rfl, .one (.cons (.p (.refl _)) (.cons (.p (.refl _)) (.cons (.p (.refl _)) (.cons (.p (.refl _)) (.cons (.p (.refl _)) (.cons (.p (.refl _)) (.cons (.p (.refl _)) (.nil))))))))⟩, ⟨_, rfl, _, rfl, .liftE (by first | rfl | (rw [List.map_append]; rfl))⟩, trivial⟩, by dsimp only; omega⟩
  ·try simp only [hbx] at hb
   refine awp_exit ((if_pos rfl).mpr ?_)
   refine h2 _ ?_; clear h4 k4; clear h2 k2
   refine awp_le (le_keep [8, 11, 13]) ?_
   simp only [kp, argSl, simprocAttr]
   have he0 : (Pl.picked P (Pl.crewBegin n g w).1 []) = (c, ev, 0) := by
    rw [← hK]
    by_cases hov : c.over = true
    ·exact Pl.picked_over _ hov
    ·exact Pl.picked_nil (Nat.le_of_not_lt fun q => hb ⟨by omega, by simpa using hov⟩)
   have hM : Pl.most n g 0 c ev ≤ 16010 := by rw [he0] at b5; exact b5
   have hW : (Pl.whole n g w P) = Pl.rounds 20000 0 c ev := by rw [b6, he0]
   rw [hW]
   have hrl : (Pl.rounds 20000 0 c ev).2.1.length - ev.length ≤ 1000000 := by
    have h1 := (Pl.whole_ok (P := P) hcn hww hP).2.2.2.2.2.1
    have h2 := Pl.bd_nn ⟨hcn, hww⟩
    rw [hW] at h1; rw [Int.mul_add, Int.mul_comm w] at h2; omega
   have hall : ∀ y, y ∈ List.map evC ((Pl.rounds 20000 0 c ev).2.1.drop ev.length) → y.length = 4 := fun y hy => by
    obtain ⟨e, _, rfl⟩ := List.mem_map.1 hy; rfl
   refine awp_sr [66, 76] (by rw [hC]; rfl) fun k hk => ?_
   simp (maxSteps := 9^9) (disch := (try simp only [lens]); omega) only [argSl, sm, ↓amb, mark_eq, simprocAttr, sz81, en79, dx]
   repeat refine ⟨by first | omega | (simp; done) | (unfold maxLen; omega) | (simp [maxLen]; omega) | assumption, ?_⟩
   refine callK_p (c_ref06_Drain n g c ev hR hM (by omega)) rfl ?_
   simp (maxSteps := 9^9) (disch := (try simp only [lens]); omega) only [argSl, sm, ↓amb, mark_eq, simprocAttr, sz81, en79, dx]
   repeat refine ⟨by first | omega | (simp; done) | (unfold maxLen; omega) | (simp [maxLen]; omega) | assumption, ?_⟩
   refine hk _ ?_; clear hk k
   refine awp_le (le_keep [8, 11, 12, 13, 18]) ?_
   simp only [kp, argSl, simprocAttr]
   refine awp_sd [66, 76] ⟨[0, 0, 0, 6, 0, 15, 47, 127], [], [3, 5], [(3, 5)], some [0, 2]⟩ (by rw [hC]; rfl) (by kernel_rfl) (by kernel_rfl) fun k hk => ?_
   simp (maxSteps := 9^9) (disch := (try simp only [lens]); omega) only [argSl, sm, ↓amb, mark_eq, simprocAttr, sz81, el82, vr112, by112, dx]
   repeat refine ⟨by first | omega | (simp; done) | (unfold maxLen; omega) | (simp [maxLen]; omega) | assumption, ?_⟩
   refine hk _ ?_; clear hk k
   refine awp_ret ?_
   refine retl rfl rfl ⟨retc rfl sz81 ?_, rett rfl ?_, rett rfl ?_, trivial⟩
   simp (maxSteps := 9^9) (disch := (try simp only [lens]); omega) only [argSl, sm, ↓amb, mark_eq, simprocAttr, sz81, dx]
   ·exact .p (LeP.refl _)
   ·exact .ownE rfl (by rw [Pl.rounds_rest])
   ·exact .p (LeP.refl _)
end Go.Proofs.Ythelnccjcbnjfaa
