/-
  ScanJoins, part 5 of 6: what the proof that the law holds at whatever arguments stands on; the last part holds the theorem. No condition.
-/
import Derived.Test.YthelnccjcbnjfaaScanJoinsZ4
import Derived.Test.YthelnccjcbnjfaaRows
section
set_option linter.unusedSimpArgs false
set_option linter.unusedVariables false
set_option maxRecDepth 100000
namespace Go.Proofs.Ythelnccjcbnjfaa
open Go.Am Go.Proofs
theorem bt108 : tBuilt Try.prog 108 = true := by kernel_rfl
theorem bt88 : tBuilt Try.prog 88 = true := by kernel_rfl
theorem by88 : tBytes Try.prog 88 = some 16 := by kernel_rfl
theorem el85 : tEl Try.prog 85 = some 88 := by kernel_rfl
theorem en75 : enters Try.prog 75 = true := by kernel_rfl
theorem en77 : enters Try.prog 77 = true := by kernel_rfl
theorem pl108_0 : tPlace Try.prog 108 0 = some (0, 7) := by kernel_rfl
theorem pl88_0 : tPlace Try.prog 88 0 = some (0, 1) := by kernel_rfl
theorem pl88_1 : tPlace Try.prog 88 1 = some (1, 1) := by kernel_rfl
theorem vr108 : tVar Try.prog 108 = some (true, [.seq true [], .lit (.int .i64 0), .seq true [], .seq true [], .lit (.bool false), .lit (.int .i64 0), .lit (.int .i64 0), .seq true []]) := by kernel_rfl
theorem vr23 : tVar Try.prog 23 = some (true, [.lit (.int .i64 0), .lit (.int .i64 0)]) := by kernel_rfl
theorem vr88 : tVar Try.prog 88 = some (true, [.lit (.int .i64 0), .lit (.int .i64 0)]) := by kernel_rfl
set_option maxHeartbeats 4000000 in
theorem c_drain_Whole (cp : Bool) (n g w : Int) (P : List (Int × Int)) (hok : Pl.bdOk n g w) (hP : P.length ≤ 70000) : PCall Try.prog 55 [iV n, iV g, iV w, picksV cp P] (.tup [.agg (crewC (Pl.whole n g w P).1), .seq false ((Pl.whole n g w P).2.1.map evC), iV 0]) := by
 obtain ⟨hcn, hww⟩ := hok
 obtain ⟨b0, b1, b2, b3, b4, b5, b6⟩ := Pl.picked_ok (P := P) hcn hww hP
 have hcn' := hcn
 unfold Pl.cnt at hcn'
 refine pcall_of_awp Try.func55 rfl (by simp [Try.ntmps55]) fun C hC => ?_
 refine awp_le (le_keep [0, 1, 2, 3]) ?_
 simp only [kp, argSl, simprocAttr]
 refine awp_sr [] (by rw [hC]; rfl) fun k hk => ?_
 simp (maxSteps := 9^9) (disch := (try simp only [lens]); omega) only [argSl, sm, ↓amb, mark_eq, simprocAttr, vr81, dx]
 repeat refine ⟨by first | omega | (simp; done) | (unfold maxLen; omega) | (simp [maxLen]; omega) | assumption, ?_⟩
 refine hk _ ?_; clear hk k
 refine awp_le (le_keep [0, 1, 2, 3, 8]) ?_
 simp only [kp, argSl, simprocAttr]
 refine awp_sr [] (by rw [hC]; rfl) fun k hk => ?_
 simp (maxSteps := 9^9) (disch := (try simp only [lens]); omega) only [argSl, sm, ↓amb, mark_eq, simprocAttr, en75, vr81, sz81, dx]
 repeat refine ⟨by first | omega | (simp; done) | (unfold maxLen; omega) | (simp [maxLen]; omega) | assumption, ?_⟩
 refine callK_p (c42 _ _ _ (by omega)) rfl ?_
 simp (maxSteps := 9^9) (disch := (try simp only [lens]); omega) only [argSl, sm, ↓amb, mark_eq, simprocAttr, en75, vr81, sz81, dx]
 repeat refine ⟨by first | omega | (simp; done) | (unfold maxLen; omega) | (simp [maxLen]; omega) | assumption, ?_⟩
 refine hk _ ?_; clear hk k
 refine awp_seq fun k1 h1 => ?_
 refine awp_le (le_keep [3, 8, 9, 10, 11, 12]) ?_
 simp only [kp, argSl, simprocAttr]
 rw [b0]
 refine awp_sr [] (by rw [hC]; rfl) fun k hk => ?_
 simp (maxSteps := 9^9) (disch := (try simp only [lens]); omega) only [argSl, sm, ↓amb, mark_eq, simprocAttr, dx]
 repeat refine ⟨by first | omega | (simp; done) | (unfold maxLen; omega) | (simp [maxLen]; omega) | assumption, ?_⟩
 refine hk _ ?_; clear hk k
 refine awp_cond rfl (fun hb => ?_) (fun hb => ?_)
 ·exact absurd hb (by simp)
 ·try simp only [hbx] at hb
  refine awp_skip ?_
  refine h1 _ ?_; clear h1 k1
  refine awp_le (le_keep [3, 8, 11]) ?_
  simp only [kp, argSl, simprocAttr]
  refine awp_sr [] (by rw [hC]; rfl) fun k hk => ?_
  simp (maxSteps := 9^9) (disch := (try simp only [lens]); omega) only [argSl, sm, ↓amb, mark_eq, simprocAttr, sz81, vr108, bt108, pl108_0, dx]
  repeat refine ⟨by first | omega | (simp; done) | (unfold maxLen; omega) | (simp [maxLen]; omega) | assumption, ?_⟩
  refine hk _ ?_; clear hk k
  refine awp_seq fun k2 h2 => ?_
  refine awp_le (le_keep [3, 8, 9, 10, 13]) ?_
  simp only [kp, argSl, simprocAttr]
  refine awp_ownCs 13 4 7 rfl rfl rfl ?_
  simp only [am, List.set_cons_succ, List.set_cons_zero, Nat.reduceEqDiff, ↓reduceIte, reduceCtorEq, Nat.reduceAdd, Nat.reduceMul]
  refine awp_sr [] (by rw [hC]; rfl) fun k hk => ?_
  simp (maxSteps := 9^9) (disch := (try simp only [lens]); omega) only [argSl, sm, ↓amb, mark_eq, simprocAttr, el24, dx]
  repeat refine ⟨by first | omega | (simp; done) | (unfold maxLen; omega) | (simp [maxLen]; omega) | assumption, ?_⟩
  refine hk _ ?_; clear hk k
  refine awp_block ?_
  refine awp_loop (σ := Nat × Pl.Crew × List Pl.Event) (fun x => x.1 ≤ P.length ∧ Pl.Run n g x.2.1 x.2.2 ∧ Pl.picked (P.drop x.1) x.2.1 x.2.2 = (Pl.picked P (Pl.crewBegin n g w).1 []) ∧ x.2.2.length ≤ x.1) (fun x => ⟨[(8, (.ptr 0 7 0 0)), (13, (.ptr 1 8 0 0)), (31, (.p (picksV cp P))), (32, (.p (iV P.length))), (33, (.p (iV (x.1 : Int))))], [(0, (.row 7 [[.p (.seq true []), .p (iV 0), .p (.seq true []), .p (.seq true []), .p (bV false), .p (iV 0), .p (iV 0)]])), (1, (.row 8 [[.p (.seq false (x.2.1.work.ts.map taskC)), .p (iV x.2.1.work.grain), .p (.seq false (x.2.1.work.done.map fun b => [bV b])), .p (.seq false (x.2.1.dq.map lV)), .p (bV x.2.1.over), .p (iV x.2.1.steps), .p (iV x.2.1.idle), .own 2]])), (2, (.row 4 (lift (x.2.2.map evC))))], 1⟩) (fun x => P.length - x.1) (0, (Pl.crewBegin n g w).1, []) ?_ ?_ fun x hx => ?_
  ·exact ⟨Nat.zero_le _, b1, rfl, Nat.le_refl _⟩
  ·exact le_of [(0, _), (1, _), (2, _)] (by rfl) (by rfl) ⟨⟨_, rfl, .ptr rfl⟩, ⟨_, rfl, .ptr rfl⟩, ⟨_, rfl, .p (.of_eq (by first | rfl | (simp only [PV.lit.injEq, Value.int.injEq, true_and]; omega) | (simp; done) | (simp; omega)))⟩, ⟨_, rfl, .p (.of_eq (by first | rfl | (simp only [PV.lit.injEq, Value.int.injEq, true_and]; omega) | (simp; done) | (simp; omega)))⟩, ⟨_, rfl, .p (.of_eq (by first | rfl | (simp only [PV.lit.injEq, Value.int.injEq, true_and]; omega) | (simp; done) | (simp; omega)))⟩, trivial⟩ ⟨⟨_, rfl, _, rfl, .one (.cons (.p (.refl _)) (.cons (.p (.refl _)) (.cons (.p (.refl _)) (.cons (.p (.refl _)) (.cons (.p (.refl _)) (.cons (.p (.refl _)) (.cons (.p (.refl _)) (.nil))))))))⟩, ⟨_, rfl, _, rfl, .one (.cons (.p (.refl _)) (.cons (.p (.refl _)) (.cons (.p (.refl _)) (.cons (.p (.refl _)) (.cons (.p (.refl _)) (.cons (.p (.refl _)) (.cons (.p (.refl _)) (.cons (.own rfl) (.nil)))))))))⟩, ⟨_, rfl, _, rfl, .liftE (by first | rfl | simp)⟩, trivial⟩
  obtain ⟨i, c, ev⟩ := x
  obtain ⟨hi, hR, hK, hel⟩ := hx
  dsimp only at hi hR hK hel
  refine awp_le (le_keep [0, 1, 2, 8, 9, 10, 13, 31, 32, 33]) ?_
  simp only [kp, argSl, simprocAttr]
  refine awp_sr [] (by rw [hC]; rfl) fun k hk => ?_
  simp (maxSteps := 9^9) (disch := (try simp only [lens]); omega) only [argSl, sm, ↓amb, mark_eq, simprocAttr, dx]
  repeat refine ⟨by first | omega | (simp; done) | (unfold maxLen; omega) | (simp [maxLen]; omega) | assumption, ?_⟩
  refine hk _ ?_; clear hk k
  refine awp_seq fun k4 h4 => ?_
  refine awp_cond rfl (fun hb => ?_) (fun hb => ?_)
  ·try simp only [hbx] at hb
   refine awp_skip ?_
   refine h4 _ ?_; clear h4 k4
   refine awp_seq fun k5 h5 => ?_
   refine awp_block ?_
   refine awp_le (le_keep [0, 1, 2, 8, 9, 10, 13, 31, 32, 33]) ?_
   simp only [kp, argSl, simprocAttr]
   refine awp_sr [] (by rw [hC]; rfl) fun k hk => ?_
   simp (maxSteps := 9^9) (disch := (try simp only [lens]); omega) only [argSl, sm, ↓amb, mark_eq, simprocAttr, el24, sz23, vr23, dx]
   repeat refine ⟨by first | omega | (simp; done) | (unfold maxLen; omega) | (simp [maxLen]; omega) | assumption, ?_⟩
   refine hk _ ?_; clear hk k
   refine awp_seq fun k6 h6 => ?_
   refine awp_le (le_keep [0, 1, 2, 8, 9, 10, 13, 15, 31, 32, 33]) ?_
   simp only [kp, argSl, simprocAttr]
   refine awp_sr [] (by rw [hC]; rfl) fun k hk => ?_
   simp (maxSteps := 9^9) (disch := (try simp only [lens]); omega) only [argSl, sm, ↓amb, mark_eq, simprocAttr, fl108_0, fl81_2, sz4, dx]
   repeat refine ⟨by first | omega | (simp; done) | (unfold maxLen; omega) | (simp [maxLen]; omega) | assumption, ?_⟩
   refine hk _ ?_; clear hk k
   refine awp_cond rfl (fun hb => ?_) (fun hb => ?_)
   ·try simp only [hbx] at hb
    refine awp_exit ((if_neg (by decide)).mpr ((if_pos rfl).mpr ?_))
    refine h2 _ ?_; clear h6 k6; clear h5 k5; clear h2 k2
    refine awp_le (le_keep [8, 13]) ?_
    simp only [kp, argSl, simprocAttr]
    have he0 : (Pl.picked P (Pl.crewBegin n g w).1 []) = (c, ev, 0) := by first | (rw [← hK]; exact Pl.picked_nil (by omega)) | (rw [← hK]; exact Pl.picked_over _ (by first | exact hb | simp [hb]))
    have hM : Pl.most n g 0 c ev ≤ 16010 := by rw [he0] at b5; exact b5
    have hW : (Pl.whole n g w P) = Pl.rounds 20000 0 c ev := by rw [b6, he0]
    rw [hW]
    refine awp_sr [] (by rw [hC]; rfl) fun k hk => ?_
    simp (maxSteps := 9^9) (disch := (try simp only [lens]); omega) only [argSl, sm, ↓amb, mark_eq, simprocAttr, en77, dx]
    repeat refine ⟨by first | omega | (simp; done) | (unfold maxLen; omega) | (simp [maxLen]; omega) | assumption, ?_⟩
    refine callK_h (c_drain_go1_rounds n g c ev hR hM (by omega)) [1, 2] [] (by first | rfl | (simp only [hm]; done)) (by first | rfl | (simp [namesOk, lkp]; done)) ?_ ?_ ?_ ?_ ?_ ?_ ?_
    (iterate 6 (focus (first | trivial | (intro n hn; cases hn; done) | (simp (maxSteps := 9^9) (disch := (try simp only [lens]); omega) only [argSl, sm, ↓amb, mark_eq, simprocAttr, en77, dx, hmx, List.filter_cons, Nat.reduceBNe, imp_self, implies_true]; done))))
    simp (maxSteps := 9^9) (disch := (try simp only [lens]); omega) only [argSl, sm, ↓amb, mark_eq, simprocAttr, en77, dx, hm, List.filter_cons, List.filter_nil, Nat.reduceBNe, Option.map_none]
    repeat refine ⟨by first | omega | (simp; done) | (unfold maxLen; omega) | (simp [maxLen]; omega) | assumption, ?_⟩
    refine hk _ ?_; clear hk k
    refine awp_le (le_keep [8, 12, 13]) ?_
    simp only [kp, argSl, simprocAttr]
    refine awp_sd [] ⟨[0, 1, 3, 7, 0, 16, 48, 112, 0, 15, 767, 2047], [], [9], [], some [0]⟩ (by rw [hC]; rfl) (by kernel_rfl) (by kernel_rfl) fun k hk => ?_
    simp (maxSteps := 9^9) (disch := (try simp only [lens]); omega) only [argSl, sm, ↓amb, mark_eq, simprocAttr, fl108_0, sz81, fl108_1, sz82, dx]
    repeat refine ⟨by first | omega | (simp; done) | (unfold maxLen; omega) | (simp [maxLen]; omega) | assumption, ?_⟩
    refine hk _ ?_; clear hk k
    refine awp_ret ?_
    refine retl rfl rfl ⟨retc rfl sz81 ?_, rett rfl ?_, rett rfl ?_, trivial⟩
    simp (maxSteps := 9^9) (disch := (try simp only [lens]); omega) only [argSl, sm, ↓amb, mark_eq, simprocAttr, sz81, dx]
    ·exact .p (LeP.refl _)
    ·exact .p (LeP.refl _)
    ·exact .p (LeP.refl _)
   ·try simp only [hbx] at hb
    refine awp_skip ?_
    refine h6 _ ?_; clear h6 k6
    refine awp_le (le_keep [0, 1, 2, 8, 9, 10, 13, 15, 31, 32, 33]) ?_
    simp only [kp, argSl, simprocAttr]
    have ho : ¬ c.over = true := by simp [hb]
    obtain ⟨hs1, hs2⟩ := hR.step (by omega) (P.getD i default).1 (P.getD i default).2
    have hs3 := Pl.picked_on (l := ev) (P := P) (i := i) (by omega) ho hs1
    refine awp_sr [] (by rw [hC]; rfl) fun k hk => ?_
    simp (maxSteps := 9^9) (disch := (try simp only [lens]); omega) only [argSl, sm, ↓amb, mark_eq, simprocAttr, el23, ar23, sz3, en76, dx]
    repeat refine ⟨by first | omega | (simp; done) | (unfold maxLen; omega) | (simp [maxLen]; omega) | assumption, ?_⟩
    refine callK_h (c_drain_go1_step c ev _ _ (Pl.good_hl hR.gd) hs1 (by omega)) [1, 2] [] (by first | rfl | (simp only [hm]; done)) (by first | rfl | (simp [namesOk, lkp]; done)) ?_ ?_ ?_ ?_ ?_ ?_ ?_
    (iterate 6 (focus (first | trivial | (intro n hn; cases hn; done) | (simp (maxSteps := 9^9) (disch := (try simp only [lens]); omega) only [argSl, sm, ↓amb, mark_eq, simprocAttr, el23, ar23, sz3, en76, dx, hmx, List.filter_cons, Nat.reduceBNe, imp_self, implies_true]; done))))
    simp (maxSteps := 9^9) (disch := (try simp only [lens]); omega) only [argSl, sm, ↓amb, mark_eq, simprocAttr, el23, ar23, sz3, en76, dx, hm, List.filter_cons, List.filter_nil, Nat.reduceBNe, Option.map_none]
    repeat refine ⟨by first | omega | (simp; done) | (unfold maxLen; omega) | (simp [maxLen]; omega) | assumption, ?_⟩
    refine hk _ ?_; clear hk k
    refine awp_le (le_keep [0, 1, 2, 8, 9, 10, 13, 16, 31, 32, 33]) ?_
    simp only [kp, argSl, simprocAttr]
    refine awp_sr [] (by rw [hC]; rfl) fun k hk => ?_
    simp (maxSteps := 9^9) (disch := (try simp only [lens]); omega) only [argSl, sm, ↓amb, mark_eq, simprocAttr, dx]
    repeat refine ⟨by first | omega | (simp; done) | (unfold maxLen; omega) | (simp [maxLen]; omega) | assumption, ?_⟩
    refine hk _ ?_; clear hk k
    refine awp_cond rfl (fun hb => ?_) (fun hb => ?_)
    ·exact absurd hb (by simp)
    ·try simp only [hbx] at hb
     refine awp_skip ?_
     refine h5 _ ?_; clear h5 k5
     refine awp_region [] (by rw [hC]; rfl) fun k hk => ?_
     simp (maxSteps := 9^9) (disch := (try simp only [lens]); omega) only [argSl, sm, ↓amb, mark_eq, simprocAttr, dx]
     repeat refine ⟨by first | omega | (simp; done) | (unfold maxLen; omega) | (simp [maxLen]; omega) | assumption, ?_⟩
     refine hk _ ?_; clear hk k
     refine ⟨(i + 1, (Pl.step c (P.getD i default).1 (P.getD i default).2).1, ev ++ [(Pl.step c (P.getD i default).1 (P.getD i default).2).2.1]), ⟨by dsimp only; omega, hs2, by rw [← hK, hs3], by simp; omega⟩, le_of [(0, _), (1, _), (2, _)] (by rfl) (by rfl) ⟨⟨_, rfl, .ptr rfl⟩, ⟨_, rfl, .ptr rfl⟩, ⟨_, rfl, .p (.of_eq (by first | rfl | (simp only [PV.lit.injEq, Value.int.injEq, true_and]; omega) | (simp; done) | (simp; omega)))⟩, ⟨_, rfl, .p (.of_eq (by first | rfl | (simp only [PV.lit.injEq, Value.int.injEq, true_and]; omega) | (simp; done) | (simp; omega)))⟩, ⟨_, rfl, .p (.of_eq (by first | rfl | (simp only [PV.lit.injEq, Value.int.injEq, true_and]; omega) | (simp; done) | (simp; omega)))⟩, trivial⟩ ⟨⟨_, rfl, _, rfl, .one (.cons (.p (.refl _)) (.cons (.p (.refl _)) (.cons (.p (.refl _)) (.cons (.p (.refl _)) (.cons (.p (.refl _)) (.cons (.p (.refl _)) (.cons (.p (.refl _)) (.nil))))))))⟩, ⟨_, rfl, _, rfl, .one (.cons (.p (.refl _)) (.cons (.p (.refl _)) (.cons (.p (.refl _)) (.cons (.p (.refl _)) (.cons (.p (.refl _)) (.cons (.p (.refl _)) (.cons (.p (.refl _)) (.cons (.own rfl) (.nil)))))))))⟩, ⟨_, rfl, _, rfl, .liftE (by first | rfl | simp)⟩, trivial⟩, by dsimp only; omega⟩
  ·try simp only [hbx] at hb
   refine awp_exit ((if_pos rfl).mpr ?_)
   refine h2 _ ?_; clear h4 k4; clear h2 k2
   refine awp_le (le_keep [8, 13]) ?_
   simp only [kp, argSl, simprocAttr]
   have he0 : (Pl.picked P (Pl.crewBegin n g w).1 []) = (c, ev, 0) := by first | (rw [← hK]; exact Pl.picked_nil (by omega)) | (rw [← hK]; exact Pl.picked_over _ (by first | exact hb | simp [hb]))
   have hM : Pl.most n g 0 c ev ≤ 16010 := by rw [he0] at b5; exact b5
   have hW : (Pl.whole n g w P) = Pl.rounds 20000 0 c ev := by rw [b6, he0]
   rw [hW]
   refine awp_sr [] (by rw [hC]; rfl) fun k hk => ?_
   simp (maxSteps := 9^9) (disch := (try simp only [lens]); omega) only [argSl, sm, ↓amb, mark_eq, simprocAttr, en77, dx]
   repeat refine ⟨by first | omega | (simp; done) | (unfold maxLen; omega) | (simp [maxLen]; omega) | assumption, ?_⟩
   refine callK_h (c_drain_go1_rounds n g c ev hR hM (by omega)) [1, 2] [] (by first | rfl | (simp only [hm]; done)) (by first | rfl | (simp [namesOk, lkp]; done)) ?_ ?_ ?_ ?_ ?_ ?_ ?_
   (iterate 6 (focus (first | trivial | (intro n hn; cases hn; done) | (simp (maxSteps := 9^9) (disch := (try simp only [lens]); omega) only [argSl, sm, ↓amb, mark_eq, simprocAttr, en77, dx, hmx, List.filter_cons, Nat.reduceBNe, imp_self, implies_true]; done))))
   simp (maxSteps := 9^9) (disch := (try simp only [lens]); omega) only [argSl, sm, ↓amb, mark_eq, simprocAttr, en77, dx, hm, List.filter_cons, List.filter_nil, Nat.reduceBNe, Option.map_none]
   repeat refine ⟨by first | omega | (simp; done) | (unfold maxLen; omega) | (simp [maxLen]; omega) | assumption, ?_⟩
   refine hk _ ?_; clear hk k
   refine awp_le (le_keep [8, 12, 13]) ?_
   simp only [kp, argSl, simprocAttr]
   refine awp_sd [] ⟨[0, 1, 3, 7, 0, 16, 48, 112, 0, 15, 767, 2047], [], [9], [], some [0]⟩ (by rw [hC]; rfl) (by kernel_rfl) (by kernel_rfl) fun k hk => ?_
   simp (maxSteps := 9^9) (disch := (try simp only [lens]); omega) only [argSl, sm, ↓amb, mark_eq, simprocAttr, fl108_0, sz81, fl108_1, sz82, dx]
   repeat refine ⟨by first | omega | (simp; done) | (unfold maxLen; omega) | (simp [maxLen]; omega) | assumption, ?_⟩
   refine hk _ ?_; clear hk k
   refine awp_ret ?_
   refine retl rfl rfl ⟨retc rfl sz81 ?_, rett rfl ?_, rett rfl ?_, trivial⟩
   simp (maxSteps := 9^9) (disch := (try simp only [lens]); omega) only [argSl, sm, ↓amb, mark_eq, simprocAttr, sz81, dx]
   ·exact .p (LeP.refl _)
   ·exact .p (LeP.refl _)
   ·exact .p (LeP.refl _)
set_option maxHeartbeats 4000000 in
theorem c_drain_Leaves (ce : Bool) (c : Pl.Crew) (ev : List Pl.Event) (he : ev.length ≤ 1000000) : PCall Try.prog 56 [.agg (crewC c), .seq ce (ev.map evC)] (.seq false ((Pl.leaves' c.work.ts ev).map (fun s => [iV s.1, iV s.2]))) := by
 refine pcall_of_awp Try.func56 rfl (by simp [Try.ntmps56]) fun C hC => ?_
 refine awp_le (le_keep [0, 1]) ?_
 simp only [kp, argSl, simprocAttr]
 refine awp_sr [45] (by rw [hC]; rfl) fun k hk => ?_
 simp (maxSteps := 9^9) (disch := (try simp only [lens]); omega) only [argSl, sm, ↓amb, mark_eq, simprocAttr, dx]
 repeat refine ⟨by first | omega | (simp; done) | (unfold maxLen; omega) | (simp [maxLen]; omega) | assumption, ?_⟩
 refine hk _ ?_; clear hk k
 refine awp_le (le_keep [1, 2]) ?_
 simp only [kp, argSl, simprocAttr]
 refine awp_sr [45] (by rw [hC]; rfl) fun k hk => ?_
 simp (maxSteps := 9^9) (disch := (try simp only [lens]); omega) only [argSl, sm, ↓amb, mark_eq, simprocAttr, dx]
 repeat refine ⟨by first | omega | (simp; done) | (unfold maxLen; omega) | (simp [maxLen]; omega) | assumption, ?_⟩
 refine hk _ ?_; clear hk k
 refine awp_seq fun k1 h1 => ?_
 refine awp_le (le_keep [1, 2, 4, 5]) ?_
 simp only [kp, argSl, simprocAttr]
 refine awp_own' 5 2 rfl ?_
 refine awp_sr [45] (by rw [hC]; rfl) fun k hk => ?_
 simp (maxSteps := 9^9) (disch := (try simp only [lens]); omega) only [argSl, sm, ↓amb, mark_eq, simprocAttr, el82, dx]
 repeat refine ⟨by first | omega | (simp; done) | (unfold maxLen; omega) | (simp [maxLen]; omega) | assumption, ?_⟩
 refine hk _ ?_; clear hk k
 refine awp_block ?_
 refine awp_loop (σ := Nat) (fun i => i ≤ ev.length) (fun (i : Nat) => ⟨[(2, (.ptr 0 7 0 0)), (5, (.own 1)), (9, (.p (.seq ce (ev.map evC)))), (10, (.p (iV ev.length))), (11, (.p (iV i)))], [(0, (.row 7 [[.p (.seq false (c.work.ts.map taskC)), .p (iV c.work.grain), .p (.seq false (c.work.done.map fun b => [bV b])), .p (.seq false (c.dq.map lV)), .p (bV c.over), .p (iV c.steps), .p (iV c.idle)]])), (1, (.row 2 (lift ((Pl.leaves' c.work.ts (ev.take i)).map (fun s => [iV s.1, iV s.2])))))], 1⟩) (fun i => ev.length - i) 0 ?_ ?_ fun i hi => ?_
 ·exact Nat.zero_le _
 ·exact le_of [(0, _), (1, _)] (by rfl) (by rfl) ⟨⟨_, rfl, .ptr rfl⟩, ⟨_, rfl, .own rfl⟩, ⟨_, rfl, .p (.of_eq (by first | rfl | (simp only [PV.lit.injEq, Value.int.injEq, true_and]; omega) | (simp; done) | (simp; omega)))⟩, ⟨_, rfl, .p (.of_eq (by first | rfl | (simp only [PV.lit.injEq, Value.int.injEq, true_and]; omega) | (simp; done) | (simp; omega)))⟩, ⟨_, rfl, .p (.of_eq (by first | rfl | (simp only [PV.lit.injEq, Value.int.injEq, true_and]; omega) | (simp; done) | (simp; omega)))⟩, trivial⟩ ⟨⟨_, rfl, _, rfl, .one (.cons (.p (.refl _)) (.cons (.p (.refl _)) (.cons (.p (.refl _)) (.cons (.p (.refl _)) (.cons (.p (.refl _)) (.cons (.p (.refl _)) (.cons (.p (.refl _)) (.nil))))))))⟩, ⟨_, rfl, _, rfl, .liftE (by first | (rw [List.take_zero]; rfl) | (rw [Pl.leaves_take _ _ i (by omega), if_neg (by rw [hnl]; decide), List.append_nil]; done) | (rw [Pl.leaves_take _ _ i (by omega), if_pos hlf, List.map_append]; rfl))⟩, trivial⟩
 refine awp_le (le_keep [0, 1, 2, 4, 5, 9, 10, 11]) ?_
 simp only [kp, argSl, simprocAttr]
 refine awp_sr [45] (by rw [hC]; rfl) fun k hk => ?_
 simp (maxSteps := 9^9) (disch := (try simp only [lens]); omega) only [argSl, sm, ↓amb, mark_eq, simprocAttr, dx]
 repeat refine ⟨by first | omega | (simp; done) | (unfold maxLen; omega) | (simp [maxLen]; omega) | assumption, ?_⟩
 refine hk _ ?_; clear hk k
 refine awp_seq fun k3 h3 => ?_
 refine awp_cond rfl (fun hb => ?_) (fun hb => ?_)
 ·try simp only [hbx] at hb
  refine awp_skip ?_
  refine h3 _ ?_; clear h3 k3
  refine awp_seq fun k4 h4 => ?_
  refine awp_block ?_
  refine awp_le (le_keep [0, 1, 2, 4, 5, 9, 10, 11]) ?_
  simp only [kp, argSl, simprocAttr]
  refine awp_sr [45] (by rw [hC]; rfl) fun k hk => ?_
  simp (maxSteps := 9^9) (disch := (try simp only [lens]); omega) only [argSl, sm, ↓amb, mark_eq, simprocAttr, el82, sz112, vr112, dx]
  repeat refine ⟨by first | omega | (simp; done) | (unfold maxLen; omega) | (simp [maxLen]; omega) | assumption, ?_⟩
  refine hk _ ?_; clear hk k
  refine awp_seq fun k5 h5 => ?_
  refine awp_test [45] 30 (decide ((ev.getD i default).parted = true ∨ (ev.getD i default).task < 0 ∨ (c.work.ts.length : Int) ≤ (ev.getD i default).task)) [0, 1, 2, 4, 5, 7, 9, 10, 11] (by rw [hC]; rfl) (fun gd hgd k hk => ?_) ?_
  ·have g2 : gd 2 = some 17 := by rw [hgd]; rfl
   have g7 : gd 7 = some 22 := by rw [hgd]; rfl
   clear hgd
   simp (maxSteps := 9^9) (disch := (try simp only [lens]); omega) only [argSl, sm, ↓amb, mark_eq, simprocAttr, fl112_3, sz4, fl112_2, sz3, fl81_0, fl78_0, sz75, el75, gcase_undef, g2, g7, dx]
   repeat' first | refine hk _ _ rfl rfl rfl rfl ?_ | (refine gsplit (fun hg => ?_) (fun hg => ?_) <;> (try simp only [hbx] at hg) <;> simp (maxSteps := 9^9) (disch := (try simp only [lens]); omega) only [argSl, sm, ↓amb, mark_eq, simprocAttr, fl112_3, sz4, fl112_2, sz3, fl81_0, fl78_0, sz75, el75, gcase_undef, g2, g7, dx]) | apply And.intro | fail
   all_goals first | rfl | omega | exact (decide_eq_true (by omega)).symm | exact (decide_eq_false (by omega)).symm | exact decide_eq_decide.mpr (by omega) | (refine Bool.eq_iff_iff.mpr ?_; simp only [beq_iff_eq, bne_iff_ne, ne_eq, decide_eq_true_eq]; omega) | (refine Bool.eq_iff_iff.mpr ?_; simp only [Bool.not_eq_true', Bool.not_eq_false', decide_eq_false_iff_not, decide_eq_true_eq, beq_iff_eq, bne_iff_ne, ne_eq]; omega) | assumption | (simp; done) | (simp [maxLen]; omega) | skip
   all_goals first | (refine (decide_eq_true ?_).symm; first | (left; assumption) | (right; left; assumption) | (right; right; assumption)) | exact decide_eq_decide.mpr ⟨fun h => .inr (.inr h), fun h => h.elim (fun q => absurd (q.symm.trans (show _ = false by assumption)) (by decide)) (fun q => q.elim (fun q => by omega) id)⟩
  simp only [kp, argSl, simprocAttr, List.length_cons, List.length_nil]
  refine awp_cond rfl (fun hb => ?_) (fun hb => ?_)
  ·try simp only [hbx] at hb
   refine awp_exit ((if_pos rfl).mpr ?_)
   refine h4 _ ?_; clear h5 k5; clear h4 k4
   have hnl := Pl.isLeaf_no (ts := c.work.ts) hb
   refine awp_region [45] (by rw [hC]; rfl) fun k hk => ?_
   simp (maxSteps := 9^9) (disch := (try simp only [lens]); omega) only [argSl, sm, ↓amb, mark_eq, simprocAttr, dx]
   repeat refine ⟨by first | omega | (simp; done) | (unfold maxLen; omega) | (simp [maxLen]; omega) | assumption, ?_⟩
   refine hk _ ?_; clear hk k
   refine ⟨i + 1, by omega, le_of [(0, _), (1, _)] (by rfl) (by rfl) ⟨⟨_, rfl, .ptr rfl⟩, ⟨_, rfl, .own rfl⟩, ⟨_, rfl, .p (.of_eq (by first | rfl | (simp only [PV.lit.injEq, Value.int.injEq, true_and]; omega) | (simp; done) | (simp; omega)))⟩, ⟨_, rfl, .p (.of_eq (by first | rfl | (simp only [PV.lit.injEq, Value.int.injEq, true_and]; omega) | (simp; done) | (simp; omega)))⟩, ⟨_, rfl, .p (.of_eq (by first | rfl | (simp only [PV.lit.injEq, Value.int.injEq, true_and]; omega) | (simp; done) | (simp; omega)))⟩, trivial⟩ ⟨⟨_, rfl, _, rfl, .one (.cons (.p (.refl _)) (.cons (.p (.refl _)) (.cons (.p (.refl _)) (.cons (.p (.refl _)) (.cons (.p (.refl _)) (.cons (.p (.refl _)) (.cons (.p (.refl _)) (.nil))))))))⟩, ⟨_, rfl, _, rfl, .liftE (by first | (rw [List.take_zero]; rfl) | (rw [Pl.leaves_take _ _ i (by omega), if_neg (by rw [hnl]; decide), List.append_nil]; done) | (rw [Pl.leaves_take _ _ i (by omega), if_pos hlf, List.map_append]; rfl))⟩, trivial⟩, by omega⟩
  ·try simp only [hbx] at hb
   refine awp_skip ?_
   refine h5 _ ?_; clear h5 k5
   refine awp_le (le_keep [0, 1, 2, 4, 5, 7, 9, 10, 11]) ?_
   simp only [kp, argSl, simprocAttr]
   obtain ⟨hlf, hlf2, hlf3⟩ := Pl.isLeaf_yes (ts := c.work.ts) (e := (ev.getD i default)) (by first | exact hb | simpa using hb)
   have hll := Pl.leaves_len c.work.ts (ev.take i)
   rw [List.length_take] at hll
   refine awp_sr [45] (by rw [hC]; rfl) fun k hk => ?_
   simp (maxSteps := 9^9) (disch := (try simp only [lens]); omega) only [argSl, sm, ↓amb, mark_eq, simprocAttr, fl81_0, fl78_0, sz75, fl112_2, sz3, el75, sz114, vr114, dx]
   repeat refine ⟨by first | omega | (simp; done) | (unfold maxLen; omega) | (simp [maxLen]; omega) | assumption, ?_⟩
   refine hk _ ?_; clear hk k
   refine awp_region [45] (by rw [hC]; rfl) fun k hk => ?_
   simp (maxSteps := 9^9) (disch := (try simp only [lens]); omega) only [argSl, sm, ↓amb, mark_eq, simprocAttr, fl114_0, sz3, fl114_1, vr88, bt88, pl88_0, pl88_1, el85, by88, dx]
   repeat refine ⟨by first | omega | (simp; done) | (unfold maxLen; omega) | (simp [maxLen]; omega) | assumption, ?_⟩
   refine hk _ ?_; clear hk k
   refine h4 _ ?_; clear h4 k4
   refine awp_region [45] (by rw [hC]; rfl) fun k hk => ?_
   simp (maxSteps := 9^9) (disch := (try simp only [lens]); omega) only [argSl, sm, ↓amb, mark_eq, simprocAttr, dx]
   repeat refine ⟨by first | omega | (simp; done) | (unfold maxLen; omega) | (simp [maxLen]; omega) | assumption, ?_⟩
   refine hk _ ?_; clear hk k
   refine ⟨i + 1, by omega, le_of [(0, _), (1, _)] (by rfl) (by rfl) ⟨⟨_, rfl, .ptr rfl⟩, ⟨_, rfl, .own rfl⟩, ⟨_, rfl, .p (.of_eq (by first | rfl | (simp only [PV.lit.injEq, Value.int.injEq, true_and]; omega) | (simp; done) | (simp; omega)))⟩, ⟨_, rfl, .p (.of_eq (by first | rfl | (simp only [PV.lit.injEq, Value.int.injEq, true_and]; omega) | (simp; done) | (simp; omega)))⟩, ⟨_, rfl, .p (.of_eq (by first | rfl | (simp only [PV.lit.injEq, Value.int.injEq, true_and]; omega) | (simp; done) | (simp; omega)))⟩, trivial⟩ ⟨⟨_, rfl, _, rfl, .one (.cons (.p (.refl _)) (.cons (.p (.refl _)) (.cons (.p (.refl _)) (.cons (.p (.refl _)) (.cons (.p (.refl _)) (.cons (.p (.refl _)) (.cons (.p (.refl _)) (.nil))))))))⟩, ⟨_, rfl, _, rfl, .liftE (by first | (rw [List.take_zero]; rfl) | (rw [Pl.leaves_take _ _ i (by omega), if_neg (by rw [hnl]; decide), List.append_nil]; done) | (rw [Pl.leaves_take _ _ i (by omega), if_pos hlf, List.map_append]; rfl))⟩, trivial⟩, by omega⟩
 ·try simp only [hbx] at hb
  refine awp_exit ((if_pos rfl).mpr ?_)
  refine h1 _ ?_; clear h3 k3; clear h1 k1
  refine awp_le (le_keep [5]) ?_
  simp only [kp, argSl, simprocAttr]
  have htk : ev.take i = ev := List.take_of_length_le (by omega)
  rw [htk]
  refine awp_sr [45] (by rw [hC]; rfl) fun k hk => ?_
  simp (maxSteps := 9^9) (disch := (try simp only [lens]); omega) only [argSl, sm, ↓amb, mark_eq, simprocAttr, dx]
  repeat refine ⟨by first | omega | (simp; done) | (unfold maxLen; omega) | (simp [maxLen]; omega) | assumption, ?_⟩
  refine hk _ ?_; clear hk k
  refine awp_ret ?_
  refine ret1 rfl rfl ?_
  exact .ownE rfl rfl
end Go.Proofs.Ythelnccjcbnjfaa
end
section
set_option linter.unusedSimpArgs false
set_option linter.unusedVariables false
set_option maxRecDepth 100000
namespace Go.Proofs.Ythelnccjcbnjfaa
open Go.Am Go.Proofs
theorem en69 : enters Try.prog 69 = true := by kernel_rfl
theorem fl26_0 : tFld Try.prog 26 0 = some (0, 1, false) := by kernel_rfl
theorem fl26_1 : tFld Try.prog 26 1 = some (1, 1, false) := by kernel_rfl
theorem fl26_2 : tFld Try.prog 26 2 = some (2, 1, false) := by kernel_rfl
theorem sz24 : tSz Try.prog 24 = some (false, 1) := by kernel_rfl
set_option maxHeartbeats 4000000 in
theorem c_fill_Right (c : Bool) (p : Pl.Plan) : PCall Try.prog 24 [.agg (planC c p)] (bV (decide (Pl.planRight p))) := by
 refine pcall_of_awp Try.func24 rfl (by simp [Try.ntmps24]) fun C hC => ?_
 refine awp_sr [] (by rw [hC]; rfl) fun k hk => ?_
 simp (maxSteps := 9^9) (disch := (try simp only [lens]); omega) only [argSl, sm, ↓amb, mark_eq, simprocAttr, dx]
 repeat refine ⟨by first | omega | (simp; done) | (unfold maxLen; omega) | (simp [maxLen]; omega) | assumption, ?_⟩
 refine hk _ ?_; clear hk k
 refine awp_test [] 2 (decide (Pl.planRight p)) [] (by rw [hC]; rfl) (fun gd hgd k hk => ?_) ?_
 ·have g3 : gd 3 = some 6 := by rw [hgd]; rfl
  have g8 : gd 8 = some 11 := by rw [hgd]; rfl
  have g13 : gd 13 = some 16 := by rw [hgd]; rfl
  have g18 : gd 18 = some 21 := by rw [hgd]; rfl
  clear hgd
  simp (maxSteps := 9^9) (disch := (try simp only [lens]); omega) only [argSl, sm, ↓amb, mark_eq, simprocAttr, fl26_0, sz3, fl26_1, fl26_2, sz24, el24, gcase_undef, g3, g8, g13, g18, dx]
  repeat' first | refine hk _ _ rfl rfl rfl rfl ?_ | (refine gsplit (fun hg => ?_) (fun hg => ?_) <;> (try simp only [hbx] at hg) <;> simp (maxSteps := 9^9) (disch := (try simp only [lens]); omega) only [argSl, sm, ↓amb, mark_eq, simprocAttr, fl26_0, sz3, fl26_1, fl26_2, sz24, el24, gcase_undef, g3, g8, g13, g18, dx]) | apply And.intro | fail
  all_goals first | rfl | omega | exact (decide_eq_true (by (try simp only [Pl.planRight] at *); omega)).symm | exact (decide_eq_false (by (try simp only [Pl.planRight] at *); omega)).symm | exact decide_eq_decide.mpr (by (try simp only [Pl.planRight] at *); omega) | (refine Bool.eq_iff_iff.mpr ?_; (try simp only [Pl.planRight] at *); simp only [beq_iff_eq, bne_iff_ne, ne_eq, decide_eq_true_eq]; omega) | (refine Bool.eq_iff_iff.mpr ?_; simp only [Bool.not_eq_true', Bool.not_eq_false', decide_eq_false_iff_not, decide_eq_true_eq, beq_iff_eq, bne_iff_ne, ne_eq]; (try simp only [Pl.planRight] at *); omega) | assumption | (simp; done) | (simp [maxLen]; omega) | skip
 simp only [kp, argSl, simprocAttr, List.length_cons, List.length_nil]
 refine awp_ret ?_
 refine ret1 rfl rfl ?_
 exact .p (LeP.refl _)
set_option maxHeartbeats 4000000 in
theorem c_scan_sized (b : Int) : PCall Try.prog 69 [iV b] (bV (decide (1 ≤ b ∧ b ≤ 100))) := by
 refine pcall_of_awp Try.func69 rfl (by simp [Try.ntmps69]) fun C hC => ?_
 refine awp_sr [] (by rw [hC]; rfl) fun k hk => ?_
 simp (maxSteps := 9^9) (disch := (try simp only [lens]); omega) only [argSl, sm, ↓amb, mark_eq, simprocAttr, dx]
 repeat refine ⟨by first | omega | (simp; done) | (unfold maxLen; omega) | (simp [maxLen]; omega) | assumption, ?_⟩
 refine hk _ ?_; clear hk k
 refine awp_test [] 2 (decide (1 ≤ b ∧ b ≤ 100)) [] (by rw [hC]; rfl) (fun gd hgd k hk => ?_) ?_
 ·have g2 : gd 2 = some 5 := by rw [hgd]; rfl
  clear hgd
  simp (maxSteps := 9^9) (disch := (try simp only [lens]); omega) only [argSl, sm, ↓amb, mark_eq, simprocAttr, gcase_undef, g2, dx]
  repeat' first | refine hk _ _ rfl rfl rfl rfl ?_ | (refine gsplit (fun hg => ?_) (fun hg => ?_) <;> (try simp only [hbx] at hg) <;> simp (maxSteps := 9^9) (disch := (try simp only [lens]); omega) only [argSl, sm, ↓amb, mark_eq, simprocAttr, gcase_undef, g2, dx]) | apply And.intro | fail
  all_goals first | rfl | omega | exact (decide_eq_true (by omega)).symm | exact (decide_eq_false (by omega)).symm | exact decide_eq_decide.mpr (by omega) | (refine Bool.eq_iff_iff.mpr ?_; simp only [beq_iff_eq, bne_iff_ne, ne_eq, decide_eq_true_eq]; omega) | (refine Bool.eq_iff_iff.mpr ?_; simp only [Bool.not_eq_true', Bool.not_eq_false', decide_eq_false_iff_not, decide_eq_true_eq, beq_iff_eq, bne_iff_ne, ne_eq]; omega) | assumption | (simp; done) | (simp [maxLen]; omega) | skip
 simp only [kp, argSl, simprocAttr, List.length_cons, List.length_nil]
 refine awp_ret ?_
 refine ret1 rfl rfl ?_
 exact .p (LeP.refl _)
set_option maxHeartbeats 4000000 in
theorem c_scan_Blocks (n b : Int) : PCall Try.prog 39 [iV n, iV b] (iV (Pl.blk n b)) := by
 refine pcall_of_awp Try.func39 rfl (by simp [Try.ntmps39]) fun C hC => ?_
 refine awp_sr [] (by rw [hC]; rfl) fun k hk => ?_
 simp (maxSteps := 9^9) (disch := (try simp only [lens]); omega) only [argSl, sm, ↓amb, mark_eq, simprocAttr, dx]
 repeat refine ⟨by first | omega | (simp; done) | (unfold maxLen; omega) | (simp [maxLen]; omega) | assumption, ?_⟩
 refine hk _ ?_; clear hk k
 refine awp_seq fun k1 h1 => ?_
 refine awp_test [] 15 (decide (¬ Pl.blkOk' n b)) [0, 1, 4] (by rw [hC]; rfl) (fun gd hgd k hk => ?_) ?_
 ·have g2 : gd 2 = some 7 := by rw [hgd]; rfl
  have g6 : gd 6 = some 11 := by rw [hgd]; rfl
  clear hgd
  simp (maxSteps := 9^9) (disch := (try simp only [lens]); omega) only [argSl, sm, ↓amb, mark_eq, simprocAttr, en69, gcase_undef, g2, g6, dx]
  repeat' first | refine hk _ _ rfl rfl rfl rfl ?_ | (refine gsplit (fun hg => ?_) (fun hg => ?_) <;> (try simp only [hbx] at hg) <;> simp (maxSteps := 9^9) (disch := (try simp only [lens]); omega) only [argSl, sm, ↓amb, mark_eq, simprocAttr, en69, gcase_undef, g2, g6, dx]) | apply And.intro | (refine callK_p (c_scan_sized _) rfl ?_; (try simp (maxSteps := 9^9) (disch := (try simp only [lens]); omega) only [argSl, sm, ↓amb, mark_eq, simprocAttr, en69, gcase_undef, g2, g6, dx])) | fail
  all_goals first | rfl | omega | exact (decide_eq_true (by (try simp only [Pl.blkOk'] at *); omega)).symm | exact (decide_eq_false (by (try simp only [Pl.blkOk'] at *); omega)).symm | exact decide_eq_decide.mpr (by (try simp only [Pl.blkOk'] at *); omega) | (refine Bool.eq_iff_iff.mpr ?_; (try simp only [Pl.blkOk'] at *); simp only [beq_iff_eq, bne_iff_ne, ne_eq, decide_eq_true_eq]; omega) | (refine Bool.eq_iff_iff.mpr ?_; simp only [Bool.not_eq_true', Bool.not_eq_false', decide_eq_false_iff_not, decide_eq_true_eq, beq_iff_eq, bne_iff_ne, ne_eq]; (try simp only [Pl.blkOk'] at *); omega) | assumption | (simp; done) | (simp [maxLen]; omega) | skip
 simp only [kp, argSl, simprocAttr, List.length_cons, List.length_nil]
 refine awp_cond rfl (fun hb => ?_) (fun hb => ?_)
 ·try simp only [hbx] at hb
  refine awp_sr [] (by rw [hC]; rfl) fun k hk => ?_
  simp (maxSteps := 9^9) (disch := (try simp only [lens]); omega) only [argSl, sm, ↓amb, mark_eq, simprocAttr, dx]
  repeat refine ⟨by first | omega | (simp; done) | (unfold maxLen; omega) | (simp [maxLen]; omega) | assumption, ?_⟩
  refine hk _ ?_; clear hk k
  refine awp_ret ?_
  rw [show Pl.blk n b = 0 from if_neg (by first | exact hb | simpa using hb)]
  refine ret1 rfl rfl ?_
  exact .p (LeP.refl _)
 ·try simp only [hbx] at hb
  refine awp_skip ?_
  refine h1 _ ?_; clear h1 k1
  have hbk : Pl.blkOk' n b := by first | exact hb | simpa using hb
  have hbo := hbk
  unfold Pl.blkOk' at hbo
  have hq : 0 ≤ (n + b - 1) / b ∧ (n + b - 1) / b ≤ 1000 := by
   have h := Pl.blk_up (b := b) hbo.1 (Int.le_refl n) hbo.2.1
   rw [show Pl.blk n b = (n + b - 1) / b from if_pos hbk] at h; exact ⟨h.1, h.2.2⟩
  refine awp_sr [] (by rw [hC]; rfl) fun k hk => ?_
  simp (maxSteps := 9^9) (disch := (try simp only [lens]); omega) only [argSl, sm, ↓amb, mark_eq, simprocAttr, dx]
  repeat refine ⟨by first | omega | (simp; done) | (unfold maxLen; omega) | (simp [maxLen]; omega) | assumption, ?_⟩
  refine hk _ ?_; clear hk k
  refine awp_ret ?_
  rw [show Pl.blk n b = (n + b - 1) / b from if_pos hbk]
  refine ret1 rfl rfl ?_
  exact .p (LeP.refl _)
end Go.Proofs.Ythelnccjcbnjfaa
end
section
set_option linter.unusedSimpArgs false
set_option linter.unusedVariables false
set_option maxRecDepth 100000
namespace Go.Proofs.Ythelnccjcbnjfaa
open Go.Am Go.Proofs
theorem en24 : enters Try.prog 24 = true := by kernel_rfl
theorem en55 : enters Try.prog 55 = true := by kernel_rfl
theorem en56 : enters Try.prog 56 = true := by kernel_rfl
theorem fl88_0 : tFld Try.prog 88 0 = some (0, 1, false) := by kernel_rfl
theorem fl88_1 : tFld Try.prog 88 1 = some (1, 1, false) := by kernel_rfl
theorem sz26 : tSz Try.prog 26 = some (true, 3) := by kernel_rfl
theorem sz88 : tSz Try.prog 88 = some (true, 2) := by kernel_rfl
set_option maxHeartbeats 4000000 in
theorem c_fill_Order (c : Bool) (n : Int) (p : Pl.Plan) : PCall Try.prog 18 [iV n, .agg (planC c p)] (.tup [ints false (Pl.ordU n p), iV (Pl.ordS n p), iV (Pl.ordE n p)]) := by
 refine pcall_of_awp Try.func18 rfl (by simp [Try.ntmps18]) fun C hC => ?_
 refine awp_le (le_keep [0, 1]) ?_
 simp only [kp, argSl, simprocAttr]
 refine awp_sr [64] (by rw [hC]; rfl) fun k hk => ?_
 simp (maxSteps := 9^9) (disch := (try simp only [lens]); omega) only [argSl, sm, ↓amb, mark_eq, simprocAttr, dx]
 repeat refine ⟨by first | omega | (simp; done) | (unfold maxLen; omega) | (simp [maxLen]; omega) | assumption, ?_⟩
 refine hk _ ?_; clear hk k
 refine awp_seq fun k1 h1 => ?_
 refine awp_test [64] 24 (decide (¬ Pl.ordOk n p)) [0, 3, 4, 5, 6] (by rw [hC]; rfl) (fun gd hgd k hk => ?_) ?_
 ·have g2 : gd 2 = some 16 := by rw [hgd]; rfl
  have g6 : gd 6 = some 20 := by rw [hgd]; rfl
  clear hgd
  simp (maxSteps := 9^9) (disch := (try simp only [lens]); omega) only [argSl, sm, ↓amb, mark_eq, simprocAttr, sz26, en24, gcase_undef, g2, g6, dx]
  repeat' first | refine hk _ _ rfl rfl rfl rfl ?_ | (refine gsplit (fun hg => ?_) (fun hg => ?_) <;> (try simp only [hbx] at hg) <;> simp (maxSteps := 9^9) (disch := (try simp only [lens]); omega) only [argSl, sm, ↓amb, mark_eq, simprocAttr, sz26, en24, gcase_undef, g2, g6, dx]) | apply And.intro | (refine callK_p (c_fill_Right _ _) rfl ?_; (try simp (maxSteps := 9^9) (disch := (try simp only [lens]); omega) only [argSl, sm, ↓amb, mark_eq, simprocAttr, sz26, en24, gcase_undef, g2, g6, dx])) | fail
  all_goals first | rfl | omega | exact (decide_eq_true (by omega)).symm | exact (decide_eq_false (by omega)).symm | exact decide_eq_decide.mpr (by omega) | (refine Bool.eq_iff_iff.mpr ?_; simp only [beq_iff_eq, bne_iff_ne, ne_eq, decide_eq_true_eq]; omega) | (refine Bool.eq_iff_iff.mpr ?_; simp only [Bool.not_eq_true', Bool.not_eq_false', decide_eq_false_iff_not, decide_eq_true_eq, beq_iff_eq, bne_iff_ne, ne_eq]; omega) | assumption | (simp; done) | (simp [maxLen]; omega) | skip
  all_goals first | (refine (decide_eq_true ?_).symm; intro q; exact absurd q.1 (by omega)) | (refine (decide_eq_true ?_).symm; intro q; exact absurd q.2.1 (by omega)) | (refine Bool.eq_iff_iff.mpr ?_; simp only [Bool.not_eq_true', decide_eq_false_iff_not, decide_eq_true_eq]; exact ⟨fun h q => h q.2.2, fun h q => h ⟨by omega, by omega, q⟩⟩)
 simp only [kp, argSl, simprocAttr, List.length_cons, List.length_nil]
 refine awp_cond rfl (fun hb => ?_) (fun hb => ?_)
 ·try simp only [hbx] at hb
  refine awp_le (le_keep []) ?_
  simp only [kp, argSl, simprocAttr]
  refine awp_sr [64] (by rw [hC]; rfl) fun k hk => ?_
  simp (maxSteps := 9^9) (disch := (try simp only [lens]); omega) only [argSl, sm, ↓amb, mark_eq, simprocAttr, dx]
  repeat refine ⟨by first | omega | (simp; done) | (unfold maxLen; omega) | (simp [maxLen]; omega) | assumption, ?_⟩
  refine hk _ ?_; clear hk k
  refine awp_ret ?_
  obtain ⟨e1, e2, e3⟩ := Pl.ord_no (n := n) (p := p) (by first | exact hb | simpa using hb)
  rw [e1, e2, e3]
  refine ret3 rfl rfl rfl rfl ?_ ?_ ?_
  ·exact .p (LeP.seq _ _)
  ·exact .p (LeP.refl _)
  ·exact .p (LeP.refl _)
 ·try simp only [hbx] at hb
  refine awp_skip ?_
  refine h1 _ ?_; clear h1 k1
  refine awp_seq fun k2 h2 => ?_
  refine awp_le (le_keep [0, 3, 4, 5, 6]) ?_
  simp only [kp, argSl, simprocAttr]
  have hok : Pl.ordOk n p := by first | exact hb | (simpa using hb)
  refine awp_sr [64] (by rw [hC]; rfl) fun k hk => ?_
  simp (maxSteps := 9^9) (disch := (try simp only [lens]); omega) only [argSl, sm, ↓amb, mark_eq, simprocAttr, dx]
  repeat refine ⟨by first | omega | (simp; done) | (unfold maxLen; omega) | (simp [maxLen]; omega) | assumption, ?_⟩
  refine hk _ ?_; clear hk k
  refine awp_cond rfl (fun hb => ?_) (fun hb => ?_)
  ·try simp only [hbx] at hb
   refine awp_le (le_keep []) ?_
   simp only [kp, argSl, simprocAttr]
   refine awp_sr [64] (by rw [hC]; rfl) fun k hk => ?_
   simp (maxSteps := 9^9) (disch := (try simp only [lens]); omega) only [argSl, sm, ↓amb, mark_eq, simprocAttr, dx]
   repeat refine ⟨by first | omega | (simp; done) | (unfold maxLen; omega) | (simp [maxLen]; omega) | assumption, ?_⟩
   refine hk _ ?_; clear hk k
   refine awp_ret ?_
   subst hb
   obtain ⟨e1, e2⟩ := Pl.ord_zero p
   rw [e1, e2, Pl.ordE0 hok]
   refine ret3 rfl rfl rfl rfl ?_ ?_ ?_
   ·exact .p (LeP.seq _ _)
   ·exact .p (LeP.refl _)
   ·exact .p (LeP.refl _)
  ·try simp only [hbx] at hb
   refine awp_skip ?_
   refine h2 _ ?_; clear h2 k2
   refine awp_le (le_keep [0, 3]) ?_
   simp only [kp, argSl, simprocAttr]
   have hn0 := hb
   have hbd := Pl.ord_bd hok hn0
   obtain ⟨u1, u2, u3, u4, u5, u6, u7⟩ := Pl.ordL_ok hok hn0
   have hn1 := hok.2.1
   refine awp_sr [64] (by rw [hC]; rfl) fun k hk => ?_
   simp (maxSteps := 9^9) (disch := (try simp only [lens]); omega) only [argSl, sm, ↓amb, mark_eq, simprocAttr, fl26_0, sz3, fl26_1, fl26_2, sz24, en55, vr81, sz81, dx]
   repeat refine ⟨by first | omega | (simp; done) | (unfold maxLen; omega) | (simp [maxLen]; omega) | assumption, ?_⟩
   refine callK_p (c_drain_Whole _ n p.grain p.workers p.picks hbd.1 (by omega)) rfl ?_
   simp (maxSteps := 9^9) (disch := (try simp only [lens]); omega) only [argSl, sm, ↓amb, mark_eq, simprocAttr, fl26_0, sz3, fl26_1, fl26_2, sz24, en55, vr81, sz81, dx]
   repeat refine ⟨by first | omega | (simp; done) | (unfold maxLen; omega) | (simp [maxLen]; omega) | assumption, ?_⟩
   refine hk _ ?_; clear hk k
   refine awp_seq fun k3 h3 => ?_
   refine awp_le (le_keep [4, 5, 6, 7, 8, 9]) ?_
   simp only [kp, argSl, simprocAttr]
   refine awp_sr [64] (by rw [hC]; rfl) fun k hk => ?_
   simp (maxSteps := 9^9) (disch := (try simp only [lens]); omega) only [argSl, sm, ↓amb, mark_eq, simprocAttr, dx]
   repeat refine ⟨by first | omega | (simp; done) | (unfold maxLen; omega) | (simp [maxLen]; omega) | assumption, ?_⟩
   refine hk _ ?_; clear hk k
   refine awp_cond rfl (fun hb => ?_) (fun hb => ?_)
   ·exact absurd hb (by simp)
   ·try simp only [hbx] at hb
    refine awp_skip ?_
    refine h3 _ ?_; clear h3 k3
    refine awp_le (le_keep [7, 8]) ?_
    simp only [kp, argSl, simprocAttr]
    refine awp_sr [64] (by rw [hC]; rfl) fun k hk => ?_
    simp (maxSteps := 9^9) (disch := (try simp only [lens]); omega) only [argSl, sm, ↓amb, mark_eq, simprocAttr, dx]
    repeat refine ⟨by first | omega | (simp; done) | (unfold maxLen; omega) | (simp [maxLen]; omega) | assumption, ?_⟩
    refine hk _ ?_; clear hk k
    refine awp_seq fun k4 h4 => ?_
    refine awp_le (le_keep [4, 5, 6, 7, 8, 10]) ?_
    simp only [kp, argSl, simprocAttr]
    have hws : (Pl.whole n p.grain p.workers p.picks).2.1.length ≤ 1000000 := by have := u6; unfold Pl.ordW at this; omega
    refine awp_own' 10 1 rfl ?_
    refine awp_sr [64] (by rw [hC]; rfl) fun k hk => ?_
    simp (maxSteps := 9^9) (disch := (try simp only [lens]); omega) only [argSl, sm, ↓amb, mark_eq, simprocAttr, sz81, en56, el85, dx]
    repeat refine ⟨by first | omega | (simp; done) | (unfold maxLen; omega) | (simp [maxLen]; omega) | assumption, ?_⟩
    refine callK_p (c_drain_Leaves _ _ _ hws) rfl ?_
    simp (maxSteps := 9^9) (disch := (try simp only [lens]); omega) only [argSl, sm, ↓amb, mark_eq, simprocAttr, sz81, en56, el85, dx]
    repeat refine ⟨by first | omega | (simp; done) | (unfold maxLen; omega) | (simp [maxLen]; omega) | assumption, ?_⟩
    refine hk _ ?_; clear hk k
    refine awp_block ?_
    refine awp_loop (σ := Nat) (fun i => i ≤ (Pl.ordL n p).length) (fun (i : Nat) => ⟨[(8, (.p (.seq false ((Pl.whole n p.grain p.workers p.picks).2.1.map evC)))), (10, (.own 0)), (44, (.p (.seq false ((Pl.ordL n p).map (fun s => [iV s.1, iV s.2]))))), (45, (.p (iV (Pl.ordL n p).length))), (46, (.p (iV i)))], [(0, (.row 1 (lift ((Pl.unitsOf ((Pl.ordL n p).take i)).map fun x => [iV x]))))], 1⟩) (fun i => (Pl.ordL n p).length - i) 0 ?_ ?_ fun i hi => ?_
    ·exact Nat.zero_le _
    ·exact le_of [(0, _)] (by rfl) (by rfl) ⟨⟨_, rfl, .p (.of_eq (by first | rfl | (simp only [PV.lit.injEq, Value.int.injEq, true_and]; omega) | (simp; done) | (simp; omega)))⟩, ⟨_, rfl, .own rfl⟩, ⟨_, rfl, .p (.of_eq (by first | rfl | (simp only [PV.lit.injEq, Value.int.injEq, true_and]; omega) | (simp; done) | (simp; omega)))⟩, ⟨_, rfl, .p (.of_eq (by first | rfl | (simp only [PV.lit.injEq, Value.int.injEq, true_and]; omega) | (simp; done) | (simp; omega)))⟩, ⟨_, rfl, .p (.of_eq (by first | rfl | (simp only [PV.lit.injEq, Value.int.injEq, true_and]; omega) | (simp; done) | (simp; omega)))⟩, trivial⟩ ⟨⟨_, rfl, _, rfl, .liftE (by first | (rw [List.take_zero]; rfl) | (rw [Pl.unitsOf_take _ i (by omega), show ((Pl.ordL n p).getD i default).1 + (k : Int) = ((Pl.ordL n p).getD i default).2 by omega]))⟩, trivial⟩
    refine awp_le (le_keep [0, 4, 5, 6, 8, 10, 44, 45, 46]) ?_
    simp only [kp, argSl, simprocAttr]
    refine awp_sr [64] (by rw [hC]; rfl) fun k hk => ?_
    simp (maxSteps := 9^9) (disch := (try simp only [lens]); omega) only [argSl, sm, ↓amb, mark_eq, simprocAttr, dx]
    repeat refine ⟨by first | omega | (simp; done) | (unfold maxLen; omega) | (simp [maxLen]; omega) | assumption, ?_⟩
    refine hk _ ?_; clear hk k
    refine awp_seq fun k6 h6 => ?_
    refine awp_cond rfl (fun hb => ?_) (fun hb => ?_)
    ·try simp only [hbx] at hb
     refine awp_skip ?_
     refine h6 _ ?_; clear h6 k6
     refine awp_seq fun k7 h7 => ?_
     refine awp_block ?_
     refine awp_le (le_keep [0, 4, 5, 6, 8, 10, 44, 45, 46]) ?_
     simp only [kp, argSl, simprocAttr]
     refine awp_sr [64] (by rw [hC]; rfl) fun k hk => ?_
     simp (maxSteps := 9^9) (disch := (try simp only [lens]); omega) only [argSl, sm, ↓amb, mark_eq, simprocAttr, el85, sz88, vr88, dx]
     repeat refine ⟨by first | omega | (simp; done) | (unfold maxLen; omega) | (simp [maxLen]; omega) | assumption, ?_⟩
     refine hk _ ?_; clear hk k
     refine awp_le (le_keep [0, 4, 5, 6, 8, 10, 12, 44, 45, 46]) ?_
     simp only [kp, argSl, simprocAttr]
     obtain ⟨s1, s2, s3⟩ := u3 ((Pl.ordL n p).getD i default) (Pl.getD_mem _ i default (by omega))
     refine awp_sr [64] (by rw [hC]; rfl) fun k hk => ?_
     simp (maxSteps := 9^9) (disch := (try simp only [lens]); omega) only [argSl, sm, ↓amb, mark_eq, simprocAttr, fl88_1, sz3, fl88_0, dx]
     repeat refine ⟨by first | omega | (simp; done) | (unfold maxLen; omega) | (simp [maxLen]; omega) | assumption, ?_⟩
     refine hk _ ?_; clear hk k
     refine awp_block ?_
     refine awp_loop (σ := Nat) (fun k => (k : Int) ≤ ((Pl.ordL n p).getD i default).2 - ((Pl.ordL n p).getD i default).1) (fun (k : Nat) => ⟨[(8, (.p (.seq false ((Pl.whole n p.grain p.workers p.picks).2.1.map evC)))), (10, (.own 0)), (44, (.p (.seq false ((Pl.ordL n p).map (fun s => [iV s.1, iV s.2]))))), (45, (.p (iV (Pl.ordL n p).length))), (46, (.p (iV i))), (12, (.ptr 1 2 0 0)), (54, (.p (iV (((Pl.ordL n p).getD i default).2 - ((Pl.ordL n p).getD i default).1)))), (55, (.p (iV (k : Int))))], [(0, (.row 1 (lift ((Pl.unitsOf ((Pl.ordL n p).take i) ++ Pl.upto ((Pl.ordL n p).getD i default).1 (((Pl.ordL n p).getD i default).1 + (k : Int))).map fun x => [iV x])))), (1, (.row 2 [[.p (iV ((Pl.ordL n p).getD i default).1), .p (iV ((Pl.ordL n p).getD i default).2)]]))], 1⟩) (fun k => (((Pl.ordL n p).getD i default).2 - ((Pl.ordL n p).getD i default).1).toNat - k) 0 ?_ ?_ fun k hk => ?_
     ·show ((0 : Nat) : Int) ≤ _; omega
     ·exact le_of [(0, _), (1, _)] (by rfl) (by rfl) ⟨⟨_, rfl, .p (.of_eq (by first | rfl | (simp only [PV.lit.injEq, Value.int.injEq, true_and]; omega) | (simp; done) | (simp; omega)))⟩, ⟨_, rfl, .own rfl⟩, ⟨_, rfl, .p (.of_eq (by first | rfl | (simp only [PV.lit.injEq, Value.int.injEq, true_and]; omega) | (simp; done) | (simp; omega)))⟩, ⟨_, rfl, .p (.of_eq (by first | rfl | (simp only [PV.lit.injEq, Value.int.injEq, true_and]; omega) | (simp; done) | (simp; omega)))⟩, ⟨_, rfl, .p (.of_eq (by first | rfl | (simp only [PV.lit.injEq, Value.int.injEq, true_and]; omega) | (simp; done) | (simp; omega)))⟩, ⟨_, rfl, .ptr rfl⟩, ⟨_, rfl, .p (.of_eq (by first | rfl | (simp only [PV.lit.injEq, Value.int.injEq, true_and]; omega) | (simp; done) | (simp; omega)))⟩, ⟨_, rfl, .p (.of_eq (by first | rfl | (simp only [PV.lit.injEq, Value.int.injEq, true_and]; omega) | (simp; done) | (simp; omega)))⟩, trivial⟩ ⟨⟨_, rfl, _, rfl, .liftE (by first | (rw [Pl.upto_nil (by simp), List.append_nil]; done) | (rw [← Pl.upto_snoc, ← List.append_assoc]; simp only [List.map_append, List.map_cons, List.map_nil]))⟩, ⟨_, rfl, _, rfl, .one (.cons (.p (.refl _)) (.cons (.p (.refl _)) (.nil)))⟩, trivial⟩
     refine awp_le (le_keep [0, 1, 4, 5, 6, 8, 10, 12, 44, 45, 46, 54, 55]) ?_
     simp only [kp, argSl, simprocAttr]
     refine awp_sr [64] (by rw [hC]; rfl) fun k hk => ?_
     simp (maxSteps := 9^9) (disch := (try simp only [lens]); omega) only [argSl, sm, ↓amb, mark_eq, simprocAttr, dx]
     repeat refine ⟨by first | omega | (simp; done) | (unfold maxLen; omega) | (simp [maxLen]; omega) | assumption, ?_⟩
     refine hk _ ?_; clear hk k
     refine awp_seq fun k9 h9 => ?_
     refine awp_cond rfl (fun hb => ?_) (fun hb => ?_)
     ·try simp only [hbx] at hb
      refine awp_skip ?_
      refine h9 _ ?_; clear h9 k9
      refine awp_seq fun k10 h10 => ?_
      refine awp_block ?_
      refine awp_le (le_keep [0, 1, 4, 5, 6, 8, 10, 12, 44, 45, 46, 54, 55]) ?_
      simp only [kp, argSl, simprocAttr]
      refine awp_sr [64] (by rw [hC]; rfl) fun k hk => ?_
      simp (maxSteps := 9^9) (disch := (try simp only [lens]); omega) only [argSl, sm, ↓amb, mark_eq, simprocAttr, dx]
      repeat refine ⟨by first | omega | (simp; done) | (unfold maxLen; omega) | (simp [maxLen]; omega) | assumption, ?_⟩
      refine hk _ ?_; clear hk k
      have hul := Pl.upto_take_len (Pl.ordL n p) i k (by omega) (by omega)
      rw [List.length_append] at hul
      refine awp_region [64] (by rw [hC]; rfl) fun k hk => ?_
      simp (maxSteps := 9^9) (disch := (try simp only [lens]); omega) only [argSl, sm, ↓amb, mark_eq, simprocAttr, fl88_0, sz3, el32, vr3, by3, dx]
      repeat refine ⟨by first | omega | (simp; done) | (unfold maxLen; omega) | (simp [maxLen]; omega) | assumption, ?_⟩
      refine hk _ ?_; clear hk k
      refine h10 _ ?_; clear h10 k10
      refine awp_region [64] (by rw [hC]; rfl) fun k hk => ?_
      simp (maxSteps := 9^9) (disch := (try simp only [lens]); omega) only [argSl, sm, ↓amb, mark_eq, simprocAttr, dx]
      repeat refine ⟨by first | omega | (simp; done) | (unfold maxLen; omega) | (simp [maxLen]; omega) | assumption, ?_⟩
      refine hk _ ?_; clear hk k
      refine ⟨k + 1, by omega, le_of [(0, _), (1, _)] (by rfl) (by rfl) ⟨⟨_, rfl, .p (.of_eq (by first | rfl | (simp only [PV.lit.injEq, Value.int.injEq, true_and]; omega) | (simp; done) | (simp; omega)))⟩, ⟨_, rfl, .own rfl⟩, ⟨_, rfl, .p (.of_eq (by first | rfl | (simp only [PV.lit.injEq, Value.int.injEq, true_and]; omega) | (simp; done) | (simp; omega)))⟩, ⟨_, rfl, .p (.of_eq (by first | rfl | (simp only [PV.lit.injEq, Value.int.injEq, true_and]; omega) | (simp; done) | (simp; omega)))⟩, ⟨_, rfl, .p (.of_eq (by first | rfl | (simp only [PV.lit.injEq, Value.int.injEq, true_and]; omega) | (simp; done) | (simp; omega)))⟩, ⟨_, rfl, .ptr rfl⟩, ⟨_, rfl, .p (.of_eq (by first | rfl | (simp only [PV.lit.injEq, Value.int.injEq, true_and]; omega) | (simp; done) | (simp; omega)))⟩, ⟨_, rfl, .p (.of_eq (by first | rfl | (simp only [PV.lit.injEq, Value.int.injEq, true_and]; omega) | (simp; done) | (simp; omega)))⟩, trivial⟩ ⟨⟨_, rfl, _, rfl, .liftE (by first | (rw [Pl.upto_nil (by simp), List.append_nil]; done) | (rw [← Pl.upto_snoc, ← List.append_assoc]; simp only [List.map_append, List.map_cons, List.map_nil]))⟩, ⟨_, rfl, _, rfl, .one (.cons (.p (.refl _)) (.cons (.p (.refl _)) (.nil)))⟩, trivial⟩, by omega⟩
     ·try simp only [hbx] at hb
      refine awp_exit ((if_pos rfl).mpr ?_)
      refine h7 _ ?_; clear h9 k9; clear h7 k7
      refine awp_region [64] (by rw [hC]; rfl) fun k hk => ?_
      simp (maxSteps := 9^9) (disch := (try simp only [lens]); omega) only [argSl, sm, ↓amb, mark_eq, simprocAttr, dx]
      repeat refine ⟨by first | omega | (simp; done) | (unfold maxLen; omega) | (simp [maxLen]; omega) | assumption, ?_⟩
      refine hk _ ?_; clear hk k
      refine ⟨i + 1, by omega, le_of [(0, _)] (by rfl) (by rfl) ⟨⟨_, rfl, .p (.of_eq (by first | rfl | (simp only [PV.lit.injEq, Value.int.injEq, true_and]; omega) | (simp; done) | (simp; omega)))⟩, ⟨_, rfl, .own rfl⟩, ⟨_, rfl, .p (.of_eq (by first | rfl | (simp only [PV.lit.injEq, Value.int.injEq, true_and]; omega) | (simp; done) | (simp; omega)))⟩, ⟨_, rfl, .p (.of_eq (by first | rfl | (simp only [PV.lit.injEq, Value.int.injEq, true_and]; omega) | (simp; done) | (simp; omega)))⟩, ⟨_, rfl, .p (.of_eq (by first | rfl | (simp only [PV.lit.injEq, Value.int.injEq, true_and]; omega) | (simp; done) | (simp; omega)))⟩, trivial⟩ ⟨⟨_, rfl, _, rfl, .liftE (by first | (rw [List.take_zero]; rfl) | (rw [Pl.unitsOf_take _ i (by omega), show ((Pl.ordL n p).getD i default).1 + (k : Int) = ((Pl.ordL n p).getD i default).2 by omega]))⟩, trivial⟩, by omega⟩
    ·try simp only [hbx] at hb
     refine awp_exit ((if_pos rfl).mpr ?_)
     refine h4 _ ?_; clear h6 k6; clear h4 k4
     refine awp_le (le_keep [8, 10]) ?_
     simp only [kp, argSl, simprocAttr]
     have htk : (Pl.ordL n p).take i = (Pl.ordL n p) := List.take_of_length_le (by omega)
     rw [htk]
     refine awp_sr [64] (by rw [hC]; rfl) fun k hk => ?_
     simp (maxSteps := 9^9) (disch := (try simp only [lens]); omega) only [argSl, sm, ↓amb, mark_eq, simprocAttr, el82, dx]
     repeat refine ⟨by first | omega | (simp; done) | (unfold maxLen; omega) | (simp [maxLen]; omega) | assumption, ?_⟩
     refine hk _ ?_; clear hk k
     refine awp_ret ?_
     rw [u1, u2, Pl.ordE0 hok]
     refine ret3 rfl rfl rfl rfl ?_ ?_ ?_
     ·exact .ownE rfl rfl
     ·exact .p (LeP.refl _)
     ·exact .p (LeP.refl _)
end Go.Proofs.Ythelnccjcbnjfaa
end
section
set_option linter.unusedSimpArgs false
set_option linter.unusedVariables false
namespace Go.Pl
def fillL (n : Nat) (S : List Int) (v : Nat → Int) : List Int := (List.range n).map fun (j : Nat) => if (j : Int) ∈ S then v j else 0
theorem fillL_len (n : Nat) (S : List Int) (v : Nat → Int) : (fillL n S v).length = n := by simp [fillL]
theorem fillL_nil (n : Nat) (v : Nat → Int) : fillL n [] v = List.replicate n 0 := by
  unfold fillL
  simp only [List.not_mem_nil, if_false]
  rw [List.map_const', List.length_range]
theorem fillL_set {n : Nat} {S : List Int} {v : Nat → Int} {i x : Int} (h0 : 0 ≤ i) (hx : x = v i.toNat) : (fillL n S v).set i.toNat x = fillL n (S ++ [i]) v := by
  subst hx
  apply List.ext_getElem?
  intro j
  rw [List.getElem?_set]
  simp only [fillL, List.getElem?_map, List.length_map, List.length_range, List.mem_append, List.mem_singleton]
  by_cases e : i.toNat = j
  · subst e
    rw [if_pos rfl]
    split
    · rename_i h
      rw [List.getElem?_range h]
      simp only [Option.map_some]
      rw [if_pos (.inr (by omega))]
    · rename_i h
      rw [List.getElem?_eq_none (by simpa using h)]; rfl
  · rw [if_neg e]
    by_cases h : j < n
    · have : ((j : Int) = i) ↔ False := ⟨fun q => e (by omega), False.elim⟩
      rw [List.getElem?_range h]
      simp only [Option.map_some, this, or_false]
    · rw [List.getElem?_eq_none (by simpa using h)]; rfl
theorem fillL_all {n : Nat} {S : List Int} {v : Nat → Int} (h : ∀ j : Nat, j < n → (j : Int) ∈ S) : fillL n S v = (List.range n).map v := by
  unfold fillL
  refine List.map_congr_left fun j hj => ?_
  rw [if_pos (h j (List.mem_range.1 hj))]
theorem mapR_get {n : Nat} {v : Nat → Int} {j : Nat} (h : j < n) (d : Int) : ((List.range n).map v).getD j d = v j := by
  simp [List.getD_eq_getElem?_getD, h]
@[reducible] def W32 (x : Int) : Prop := 0 ≤ x ∧ x ≤ 4294967295
structure Rule (f : Int → Int → Int) : Prop where
  cl : ∀ a b, W32 a → W32 b → W32 (f a b)
  asc : ∀ a b c, W32 a → W32 b → W32 c → f (f a b) c = f a (f b c)
  z1 : ∀ a, W32 a → f 0 a = a
  z2 : ∀ a, W32 a → f a 0 = a
@[reducible] def add32 (a b : Int) : Int := (a + b) % 4294967296
theorem rule_add : Rule add32 := by
  refine ⟨fun a b ha hb => ?_, fun a b c ha hb hc => ?_, fun a ha => ?_, fun a ha => ?_⟩ <;> unfold add32 <;> omega
theorem rule_max : Rule (fun a b => max a b) := by
  refine ⟨fun a b ha hb => ?_, fun a b c ha hb hc => ?_, fun a ha => ?_, fun a ha => ?_⟩ <;> omega
def allF (f : Int → Int → Int) (l : List Int) : Int := l.foldl f 0
def aheadF (f : Int → Int → Int) (l : List Int) : List Int := (List.range l.length).map fun i => allF f (l.take i)
theorem aheadF_len (f : Int → Int → Int) (l : List Int) : (aheadF f l).length = l.length := by simp [aheadF]
theorem aheadF_get (f : Int → Int → Int) (l : List Int) {i : Nat} (h : i < l.length) : (aheadF f l).getD i 0 = allF f (l.take i) := mapR_get h 0
theorem take_snoc' (l : List Int) (i : Nat) (h : i < l.length) : l.take (i + 1) = l.take i ++ [l.getD i 0] := by
  rw [List.take_add_one, List.getD_eq_getElem?_getD, List.getElem?_eq_getElem h]; rfl
theorem allF_snoc (f : Int → Int → Int) (l : List Int) (x : Int) : allF f (l ++ [x]) = f (allF f l) x := by simp [allF]
theorem allF_take (f : Int → Int → Int) (l : List Int) (i : Nat) (h : i < l.length) : allF f (l.take (i + 1)) = f (allF f (l.take i)) (l.getD i 0) := by
  rw [take_snoc' l i h, allF_snoc]
theorem foldl_w {f : Int → Int → Int} (hf : Rule f) : ∀ (l : List Int) (a : Int), W32 a → (∀ x, x ∈ l → W32 x) → W32 (l.foldl f a)
  | [], a, ha, _ => ha
  | x :: l, a, ha, h => foldl_w hf l (f a x) (hf.cl a x ha (h x (by simp))) (fun y hy => h y (by simp [hy]))
theorem allF_w {f : Int → Int → Int} (hf : Rule f) {l : List Int} (h : ∀ x, x ∈ l → W32 x) : W32 (allF f l) := foldl_w hf l 0 (by omega) h
theorem foldl_pull {f : Int → Int → Int} (hf : Rule f) : ∀ (l : List Int) (a b : Int), W32 a → W32 b → (∀ x, x ∈ l → W32 x) → l.foldl f (f a b) = f a (l.foldl f b)
  | [], a, b, _, _, _ => rfl
  | x :: l, a, b, ha, hb, h => by
    have hx := h x (by simp)
    simp only [List.foldl_cons]
    rw [hf.asc a b x ha hb hx, foldl_pull hf l a (f b x) ha (hf.cl b x hb hx) (fun y hy => h y (by simp [hy]))]
theorem allF_app {f : Int → Int → Int} (hf : Rule f) {a b : List Int} (ha : ∀ x, x ∈ a → W32 x) (hb : ∀ x, x ∈ b → W32 x) : allF f (a ++ b) = f (allF f a) (allF f b) := by
  have h1 := allF_w hf ha
  unfold allF at *
  rw [List.foldl_append]
  conv => lhs; rw [show a.foldl f 0 = f (a.foldl f 0) 0 from (hf.z2 _ h1).symm]
  exact foldl_pull hf b _ 0 h1 (by omega) hb
def part (l : List Int) (b i : Nat) : List Int := (l.take (min l.length ((i + 1) * b))).drop (i * b)
theorem part_len (l : List Int) (b i : Nat) : (part l b i).length = min l.length ((i + 1) * b) - i * b := by
  unfold part; rw [List.length_drop, List.length_take]; congr 1; omega
theorem take_part (l : List Int) (b i : Nat) : l.take (min l.length (i * b)) ++ part l b i = l.take (min l.length ((i + 1) * b)) := by
  unfold part
  have h1 : i * b ≤ (i + 1) * b := Nat.mul_le_mul_right b (by omega)
  have e : l.take (min l.length (i * b)) = (l.take (min l.length ((i + 1) * b))).take (i * b) := by
    rw [List.take_take]
    by_cases c : i * b ≤ l.length
    · congr 1; omega
    · rw [List.take_of_length_le (by omega), List.take_of_length_le (by omega)]
  rw [e, List.take_append_drop]
theorem part_w {l : List Int} {b i : Nat} (h : ∀ x, x ∈ l → W32 x) : ∀ x, x ∈ part l b i → W32 x := fun x hx => h x (List.mem_of_mem_take (List.mem_of_mem_drop hx))
theorem take_w {l : List Int} {i : Nat} (h : ∀ x, x ∈ l → W32 x) : ∀ x, x ∈ l.take i → W32 x := fun x hx => h x (List.mem_of_mem_take hx)
def totF (f : Int → Int → Int) (l : List Int) (b n : Nat) : List Int := (List.range n).map fun i => allF f (part l b i)
theorem allF_tot {f : Int → Int → Int} (hf : Rule f) {l : List Int} (h : ∀ x, x ∈ l → W32 x) (b n : Nat) : ∀ i, i ≤ n → allF f ((totF f l b n).take i) = allF f (l.take (min l.length (i * b)))
  | 0, _ => by simp [allF]
  | i + 1, hi => by
    have hlen : (totF f l b n).length = n := by simp [totF]
    rw [allF_take f _ i (by omega), allF_tot hf h b n i (by omega), ← take_part, allF_app hf (take_w h) (part_w h)]
    congr 1
    exact mapR_get (by omega) 0
theorem ahead_at {f : Int → Int → Int} (hf : Rule f) {l : List Int} (h : ∀ x, x ∈ l → W32 x) {b n i k : Nat} (hi : i < n) (hb : i * b + k < l.length) (hk : k < b) :
    f (allF f ((totF f l b n).take i)) (allF f ((part l b i).take k)) = allF f (l.take (i * b + k)) := by
  have h1 : (i + 1) * b = i * b + b := by rw [Nat.add_mul, Nat.one_mul]
  rw [allF_tot hf h b n i (by omega), ← allF_app hf (take_w h) (take_w (part_w h))]
  congr 1
  have e : (part l b i).take k = (l.take (i * b + k)).drop (i * b) := by
    unfold part
    rw [List.take_drop, List.take_take]
    congr 2; omega
  rw [e, show min l.length (i * b) = i * b by omega]
  have : l.take (i * b) = (l.take (i * b + k)).take (i * b) := by rw [List.take_take]; congr 1; omega
  rw [this, List.take_append_drop]
def blockPl (len b : Nat) (i : Int) : List Int := upto (i * b) (min len ((i + 1) * b))
theorem blocks_all {len b n : Nat} (hb : 1 ≤ b) (hn : n = (len + b - 1) / b) {U : List Int} (hU : ∀ u, u ∈ U ↔ (0 ≤ u ∧ u < n)) : ∀ j : Nat, j < len → (j : Int) ∈ U.flatMap (blockPl len b) := by
  intro j hj
  refine List.mem_flatMap.2 ⟨((j / b : Nat) : Int), (hU _).2 ⟨Int.natCast_nonneg _, ?_⟩, ?_⟩
  · have : j / b < n := by
      rw [hn, Nat.div_lt_iff_lt_mul hb]
      have h1 := Nat.div_add_mod (len + b - 1) b
      have h2 := Nat.mod_lt (len + b - 1) hb
      have h3 : (len + b - 1) / b * b = b * ((len + b - 1) / b) := Nat.mul_comm _ _
      omega
    exact Int.ofNat_lt.2 this
  · unfold blockPl
    rw [mem_upto]
    have h1 := Nat.div_add_mod j b
    have h2 := Nat.mod_lt j hb
    have h3 : j / b * b = b * (j / b) := Nat.mul_comm _ _
    have h4 : (j / b + 1) * b = j / b * b + b := by rw [Nat.add_mul, Nat.one_mul]
    have e1 : (((j / b : Nat) : Int)) * (b : Int) = ((j / b * b : Nat) : Int) := by rw [Int.natCast_mul]
    have e2 : (((j / b : Nat) : Int) + 1) * (b : Int) = (((j / b + 1) * b : Nat) : Int) := by rw [Int.natCast_mul]; rfl
    rw [e1, e2]; omega
end Go.Pl
end
section
set_option linter.unusedSimpArgs false
set_option linter.unusedVariables false
namespace Go.Pl
def xr (x y : Int) : Int := ((BitVec.ofInt 32 x ^^^ BitVec.ofInt 32 y).toNat : Int) % 4294967296
def an (x y : Int) : Int := ((BitVec.ofInt 32 x &&& BitVec.ofInt 32 y).toNat : Int) % 4294967296
def one (x op y : Int) : Int :=
  if op = 1 then (x + y) % 4294967296 else if op = 2 then xr x y else if op = 3 then (x * 2 ^ min (y % 32).toNat 32) % 4294967296 else
  if op = 4 then x / 2 ^ min (y % 32).toNat 32 else if op = 5 then an x y else if op = 6 then (if y < x then 1 else 0) else 0
def opOk (op : Int) : Prop := 1 ≤ op ∧ op ≤ 6
instance (op : Int) : Decidable (opOk op) := by unfold opOk; infer_instance
theorem ordE_01 (n : Int) (p : Plan) : ordE n p = 0 ∨ ordE n p = 1 := by unfold ordE; split <;> simp
theorem ordE_iff {n : Int} {p : Plan} : ordE n p = 0 ↔ ordOk n p := by
  unfold ordE; split
  · rename_i h; exact ⟨fun _ => h, fun _ => rfl⟩
  · rename_i h; exact ⟨fun q => absurd q (by decide), fun q => absurd q h⟩
theorem fill_ord {n : Nat} {p : Plan} (h : ordOk n p) (v : Nat → Int) : fillL n (ordU n p) v = (List.range n).map v :=
  fillL_all fun j hj => ((ordU_ok h).2.1 j).2 ⟨by omega, by omega⟩
def onceP (l : List Int) (n : Nat) : Prop := l.length = n ∧ (∀ x, x ∈ l → 0 ≤ x ∧ x < n) ∧ ∀ k, k < n → (k : Int) ∈ l
instance (l : List Int) (n : Nat) : Decidable (onceP l n) := by unfold onceP; infer_instance
end Go.Pl
namespace Go.Pl
theorem getD_w {l : List Int} (h : ∀ x, x ∈ l → W32 x) (j : Nat) : W32 (l.getD j 0) := by
  by_cases c : j < l.length
  · exact h _ (getD_mem l j 0 c)
  · rw [List.getD_eq_getElem?_getD, List.getElem?_eq_none (by omega)]; exact ⟨by decide, by decide⟩
theorem upto_snoc' (k : Nat) : upto 0 (k : Int) ++ [(k : Int)] = upto 0 ((k + 1 : Nat) : Int) := by
  have := upto_snoc (a := 0) k
  rwa [Int.zero_add, Int.zero_add] at this
end Go.Pl
end
section
set_option linter.unusedSimpArgs false
set_option linter.unusedVariables false
namespace Go.Pl
def scE (n : Nat) (b : Int) (p : Plan) : Int := if (1 ≤ b ∧ b ≤ 100) ∧ n ≤ 1000 then ordE (blk n b) p else 1
def scL (f : Int → Int → Int) (l : List Int) (b : Int) (p : Plan) : List Int := if scE l.length b p = 0 then aheadF f l else []
def scT (f : Int → Int → Int) (l : List Int) (b : Int) (p : Plan) : Int := if scE l.length b p = 0 then allF f l else 0
def scS (n : Nat) (b : Int) (p : Plan) : Int := if scE n b p = 0 then 2 * ordS (blk n b) p else 0
theorem sc_no {f : Int → Int → Int} {l : List Int} {b : Int} {p : Plan} (h : ¬ scE l.length b p = 0) : scL f l b p = [] ∧ scT f l b p = 0 ∧ scS l.length b p = 0 :=
  ⟨if_neg h, if_neg h, if_neg h⟩
theorem sc_yes {f : Int → Int → Int} {l : List Int} {b : Int} {p : Plan} (h : scE l.length b p = 0) : scL f l b p = aheadF f l ∧ scT f l b p = allF f l ∧ scS l.length b p = 2 * ordS (blk l.length b) p :=
  ⟨if_pos h, if_pos h, if_pos h⟩
theorem scE_01 (n : Nat) (b : Int) (p : Plan) : scE n b p = 0 ∨ scE n b p = 1 := by
  unfold scE; split
  · exact ordE_01 _ p
  · exact .inr rfl
theorem sc_iff {n : Nat} {b : Int} {p : Plan} : scE n b p = 0 ↔ (1 ≤ b ∧ b ≤ 100) ∧ n ≤ 1000 ∧ ordOk (blk n b) p := by
  unfold scE; split
  · rename_i h; rw [ordE_iff]; exact ⟨fun q => ⟨h.1, h.2, q⟩, fun q => q.2.2⟩
  · rename_i h; exact ⟨fun q => absurd q (by decide), fun q => absurd ⟨q.1, q.2.1⟩ h⟩
def blkN (n b : Nat) : Nat := (n + b - 1) / b
theorem blk_nat {n b : Nat} (hb : 1 ≤ b ∧ b ≤ 100) (hn : n ≤ 1000) : blk n b = (blkN n b : Int) := by
  unfold blk blkN
  rw [if_pos ⟨by omega, by omega, by omega, by omega⟩, Int.natCast_ediv]
  congr 1; omega
theorem blk_at {n b u : Nat} (hb : 1 ≤ b ∧ b ≤ 100) (hn : n ≤ 1000) (h : u < blkN n b) : u * b < n ∧ (u + 1) * b = u * b + b ∧ u < 1000 := by
  unfold blkN at h
  rw [Nat.lt_div_iff_mul_lt (by omega)] at h
  have h1 : (u + 1) * b = u * b + b := by rw [Nat.add_mul, Nat.one_mul]
  have h2 : u ≤ u * b := Nat.le_mul_of_pos_right u (by omega)
  omega
theorem blkN_up {n b : Nat} (hb : 1 ≤ b ∧ b ≤ 100) (hn : n ≤ 1000) : blkN n b ≤ 1000 := by
  have := (blk_up (b := (b : Int)) (show (0 : Int) ≤ n by omega) (Int.le_refl _) (by omega)).2.2
  rw [blk_nat hb hn] at this; omega
theorem block_snoc {l : List Int} {b : Nat} {L : List Int} {z u : Nat} (hz : z < L.length) (hu : L.getD z 0 = u) (h : u * b < l.length) : (L.take (z + 1)).flatMap (blockPl l.length b) = (L.take z).flatMap (blockPl l.length b) ++ upto ((u : Int) * b) ((u : Int) * b + ((part l b u).length : Nat)) := by
  rw [take_snoc' L z hz, List.flatMap_append, hu]
  congr 1
  rw [List.flatMap_singleton]
  unfold blockPl
  congr 1
  rw [part_len]
  have h1 : (u + 1) * b = u * b + b := by rw [Nat.add_mul, Nat.one_mul]
  have e1 : (u : Int) * b = ((u * b : Nat) : Int) := by rw [Int.natCast_mul]
  have e2 : ((u : Int) + 1) * b = (((u + 1) * b : Nat) : Int) := by rw [Int.natCast_mul]; rfl
  rw [e1, e2]
  omega
theorem ahead_cell {f : Int → Int → Int} (hf : Rule f) {l : List Int} (h : ∀ x, x ∈ l → W32 x) {b n u y : Nat} (hu : u < n) (hb : u * b < l.length) (hy : y < (part l b u).length) :
    f ((aheadF f (totF f l b n)).getD u 0) ((aheadF f (part l b u)).getD y 0) = allF f (l.take (u * b + y)) ∧ u * b + y < l.length := by
  have h1 : (u + 1) * b = u * b + b := by rw [Nat.add_mul, Nat.one_mul]
  have h2 := hy
  rw [part_len] at h2
  rw [aheadF_get f _ (by simp [totF]; omega), aheadF_get f _ hy]
  exact ⟨ahead_at hf h hu (by omega) (by omega), by omega⟩
theorem totF_len (f : Int → Int → Int) (l : List Int) (b n : Nat) : (totF f l b n).length = n := by simp [totF]
theorem totF_w {f : Int → Int → Int} (hf : Rule f) {l : List Int} (h : ∀ x, x ∈ l → W32 x) (b n : Nat) : ∀ x, x ∈ totF f l b n → W32 x := fun x hx => by
  unfold totF at hx
  obtain ⟨j, _, rfl⟩ := List.mem_map.1 hx
  exact allF_w hf (part_w h)
theorem aheadF_w {f : Int → Int → Int} (hf : Rule f) {l : List Int} (h : ∀ x, x ∈ l → W32 x) : ∀ x, x ∈ aheadF f l → W32 x := fun x hx => by
  unfold aheadF at hx
  obtain ⟨j, _, rfl⟩ := List.mem_map.1 hx
  exact allF_w hf (take_w h)
theorem allF_tots {f : Int → Int → Int} (hf : Rule f) {l : List Int} (h : ∀ x, x ∈ l → W32 x) {b : Nat} (hb : 1 ≤ b) : allF f (totF f l b (blkN l.length b)) = allF f l := by
  have := allF_tot hf h b (blkN l.length b) _ (Nat.le_refl _)
  rw [List.take_of_length_le (by rw [totF_len]; exact Nat.le_refl _)] at this
  rw [this]
  congr 1
  apply List.take_of_length_le
  have : l.length ≤ blkN l.length b * b := by
    unfold blkN
    have h1 := Nat.div_add_mod (l.length + b - 1) b
    have h2 := Nat.mod_lt (l.length + b - 1) (show b > 0 by omega)
    have h3 : (l.length + b - 1) / b * b = b * ((l.length + b - 1) / b) := Nat.mul_comm _ _
    omega
  omega
theorem fill_upto {n : Nat} (v : Nat → Int) {i : Nat} (h : n ≤ i) : fillL n (upto 0 (i : Int)) v = (List.range n).map v :=
  fillL_all fun j hj => mem_upto.2 ⟨by omega, by omega⟩
theorem fill_blocks {n b : Nat} (hb : 1 ≤ b ∧ b ≤ 100) (hn : n ≤ 1000) {p : Plan} (h : ordOk (blkN n b : Nat) p) (v : Nat → Int) : fillL n ((ordU (blkN n b : Nat) p).flatMap (blockPl n b)) v = (List.range n).map v :=
  fillL_all (blocks_all (n := blkN n b) (by omega) rfl (fun u => (ordU_ok h).2.1 u))
end Go.Pl
end
section
set_option linter.unusedSimpArgs false
set_option linter.unusedVariables false
namespace Go.Pl
def lowB (d : Int → Int) (l : List Int) (v : Nat) : List Int := (List.range v).flatMap fun (u : Nat) => l.filter fun x => decide (d x = u)
def less (d : Int → Int) (l : List Int) (v : Nat) : Nat := (lowB d l v).length
def same (d : Int → Int) (l : List Int) (v : Int) : Nat := (l.filter fun x => decide (d x = v)).length
end Go.Pl
end
section
set_option linter.unusedSimpArgs false
set_option linter.unusedVariables false
namespace Go.Pl
def tabL (n : Nat) (g : Nat → Int) : List Int := (List.range n).map g
theorem tabL_len (n : Nat) (g : Nat → Int) : (tabL n g).length = n := by simp [tabL]
theorem tabL_get {n : Nat} {g : Nat → Int} {i : Nat} (h : i < n) : (tabL n g).getD i 0 = g i := mapR_get h 0
theorem tabL_set {n : Nat} {g g' : Nat → Int} {i : Nat} {x : Int} (h1 : x = g' i) (h2 : ∀ j, j < n → j ≠ i → g j = g' j) : (tabL n g).set i x = tabL n g' := by
  subst h1
  unfold tabL
  apply List.ext_getElem?
  intro j
  rw [List.getElem?_set]
  by_cases hj : j < n
  · rw [List.getElem?_map, List.getElem?_map, List.getElem?_range hj]
    by_cases e : i = j
    · subst e; simp [hj]
    · rw [if_neg e]; simp [h2 j hj (fun q => e q.symm)]
  · have e1 : ((List.range n).map g)[j]? = none := List.getElem?_eq_none (by simp; omega)
    have e2 : ((List.range n).map g')[j]? = none := List.getElem?_eq_none (by simp; omega)
    rw [e1, e2]
    split
    · rw [if_neg (by simp; omega)]
    · rfl
end Go.Pl
end
section
set_option linter.unusedSimpArgs false
set_option linter.unusedVariables false
namespace Go.Pl
def bits (m : List Int) : Prop := ∀ x, x ∈ m → x = 0 ∨ x = 1
def spOk (l : List Int) (fl : List Bool) : Prop := fl.count true = l.length
instance (l : List Int) (fl : List Bool) : Decidable (spOk l fl) := by unfold spOk; infer_instance
end Go.Pl
end
section
set_option linter.unusedSimpArgs false
set_option linter.unusedVariables false
namespace Go.Pl
def highF (l : List Int) (i : Nat) : List Int := (List.range i).map fun j => allF (fun a b => max a b) (l.take (j + 1))
def totR (l : List Int) (b : Int) : List Int := if blkOk' l.length b then totF add32 l b.toNat (blkN l.length b.toNat) else []
def backL (l : List Int) (x : Int) (i : Nat) : List Int := (List.range i).map fun j => ((if j + 1 < l.length then l.getD (j + 1) 0 else x) - l.getD j 0) % 4294967296
end Go.Pl
end
section
namespace Go.Am
theorem ret4 {P : Program} {s : LS} {fn : Func} {t u v w : Nat} {x y z a : AV} {r q p o : PV} (hf : fn.results = #[.tmp t, .tmp u, .tmp v, .tmp w]) (h : lkp s.sl t = some x) (h2 : lkp s.sl u = some y) (h3 : lkp s.sl v = some z) (h4 : lkp s.sl w = some a)
    (hr : ResA s.hp x r) (hr2 : ResA s.hp y q) (hr3 : ResA s.hp z p) (hr4 : ResA s.hp a o) : retK P fn (.tup [r, q, p, o]) .ret s := by
  show resR P s fn.results.toList _
  rw [hf]; exact ⟨_, rfl, ⟨x, h, hr⟩, ⟨y, h2, hr2⟩, ⟨z, h3, hr3⟩, ⟨a, h4, hr4⟩, trivial⟩
theorem reth4 {P : Program} {s : LS} {fn : Func} {hp' : List (Nat × Blk)} {t u x w : Nat} {r0 q0 z0 w0 r : AV} (hf : fn.results = #[.tmp t, .tmp u, .tmp x, .tmp w]) (h : lkp s.sl t = some r0) (h2 : lkp s.sl u = some q0) (h3 : lkp s.sl x = some z0) (h4 : lkp s.sl w = some w0) (hle : LE ⟨[(0, .tup [r0, q0, z0, w0])], s.hp, s.nx⟩ ⟨[(0, r)], hp', 1⟩) : retH P fn r hp' .ret s := by
  refine ⟨_, ?_, hle⟩
  rw [hf]; exact ⟨_, rfl, h, h2, h3, h4, trivial⟩
end Go.Am
end
section
set_option linter.unusedSimpArgs false
set_option linter.unusedVariables false
set_option maxRecDepth 100000
namespace Go.Proofs.Ythelnccjcbnjfaa
open Go.Am Go.Proofs
theorem by28 : tBytes Try.prog 28 = some 4 := by kernel_rfl
theorem el22 : tEl Try.prog 22 = some 28 := by kernel_rfl
theorem sz28 : tSz Try.prog 28 = some (false, 1) := by kernel_rfl
theorem vr28 : tVar Try.prog 28 = some (false, [.lit (.int .u32 0)]) := by kernel_rfl
end Go.Proofs.Ythelnccjcbnjfaa
end
section
set_option linter.unusedSimpArgs false
set_option linter.unusedVariables false
set_option maxRecDepth 100000
namespace Go.Proofs.Ythelnccjcbnjfaa
open Go.Am Go.Proofs
set_option maxHeartbeats 4000000 in
theorem c_scan_Sums_1 (a b : Int) (ha : Pl.W32 a) (hb' : Pl.W32 b) : PCall Try.prog 64 [u32V a, u32V b] (u32V (Pl.add32 a b)) := by
 refine pcall_of_awp Try.func64 rfl (by simp [Try.ntmps64]) fun C hC => ?_
 refine awp_sr [] (by rw [hC]; rfl) fun k hk => ?_
 simp (maxSteps := 9^9) (disch := (try simp only [lens]); omega) only [argSl, sm, ↓amb, mark_eq, simprocAttr, wr_u32, dx]
 repeat refine ⟨by first | omega | (simp; done) | (unfold maxLen; omega) | (simp [maxLen]; omega) | assumption, ?_⟩
 refine hk _ ?_; clear hk k
 refine awp_sr [] (by rw [hC]; rfl) fun k hk => ?_
 simp (maxSteps := 9^9) (disch := (try simp only [lens]); omega) only [argSl, sm, ↓amb, mark_eq, simprocAttr, wr_u32, dx]
 repeat refine ⟨by first | omega | (simp; done) | (unfold maxLen; omega) | (simp [maxLen]; omega) | assumption, ?_⟩
 refine hk _ ?_; clear hk k
 refine awp_ret ?_
 refine ret1 rfl rfl ?_
 exact .p (LeP.of_eq (by rfl))
set_option maxHeartbeats 4000000 in
theorem c_scan_Highest_1 (a b : Int) (ha : Pl.W32 a) (hb' : Pl.W32 b) : PCall Try.prog 66 [u32V a, u32V b] (u32V (max a b)) := by
 refine pcall_of_awp Try.func66 rfl (by simp [Try.ntmps66]) fun C hC => ?_
 refine awp_sr [] (by rw [hC]; rfl) fun k hk => ?_
 simp (maxSteps := 9^9) (disch := (try simp only [lens]); omega) only [argSl, sm, ↓amb, mark_eq, simprocAttr, dx]
 repeat refine ⟨by first | omega | (simp; done) | (unfold maxLen; omega) | (simp [maxLen]; omega) | assumption, ?_⟩
 refine hk _ ?_; clear hk k
 refine awp_sr [] (by rw [hC]; rfl) fun k hk => ?_
 simp (maxSteps := 9^9) (disch := (try simp only [lens]); omega) only [argSl, sm, ↓amb, mark_eq, simprocAttr, dx]
 repeat refine ⟨by first | omega | (simp; done) | (unfold maxLen; omega) | (simp [maxLen]; omega) | assumption, ?_⟩
 refine hk _ ?_; clear hk k
 refine awp_ret ?_
 refine ret1 rfl rfl ?_
 exact .p (LeP.of_eq (by rfl))
set_option maxHeartbeats 4000000 in
theorem c_scan_part (c : Bool) (l : List Int) (u b : Nat) (h : u * b ≤ l.length) (hu : u ≤ 1000) (hb' : b ≤ 100) (hn : l.length ≤ 1000) : PCall Try.prog 82 [words c l, iV u, iV b] (words false (Pl.part l b u)) := by
 refine pcall_of_awp Try.func82 rfl (by simp [Try.ntmps82]) fun C hC => ?_
 refine awp_le (le_keep [0, 1, 2]) ?_
 simp only [kp, argSl, simprocAttr]
 refine awp_sr [] (by rw [hC]; rfl) fun k hk => ?_
 simp (maxSteps := 9^9) (disch := (try simp only [lens]); omega) only [argSl, sm, ↓amb, mark_eq, simprocAttr, dx]
 repeat refine ⟨by first | omega | (simp; done) | (unfold maxLen; omega) | (simp [maxLen]; omega) | assumption, ?_⟩
 refine hk _ ?_; clear hk k
 refine awp_le (le_keep [0, 1, 2]) ?_
 simp only [kp, argSl, simprocAttr]
 have h1 : (u + 1) * b = u * b + b := by rw [Nat.add_mul, Nat.one_mul]
 have e1 : (u : Int) * (b : Int) = ((u * b : Nat) : Int) := by rw [Int.natCast_mul]
 have e2 : ((u : Int) + 1) * (b : Int) = ((u * b + b : Nat) : Int) := by rw [← h1, Int.natCast_mul]; rfl
 refine awp_sr [] (by rw [hC]; rfl) fun k hk => ?_
 simp (maxSteps := 9^9) (disch := (try simp only [lens]); omega) only [argSl, sm, ↓amb, mark_eq, simprocAttr, el22, sz28, dx]
 repeat refine ⟨by first | omega | (simp; done) | (unfold maxLen; omega) | (simp [maxLen]; omega) | assumption, ?_⟩
 refine hk _ ?_; clear hk k
 refine awp_ret ?_
 have e3 : (List.take (min (l.length : Int) ((u * b + b : Nat) : Int)).toNat l).drop ((u * b : Nat) : Int).toNat = Pl.part l b u := by unfold Pl.part; rw [h1, Int.toNat_natCast]; congr 2; omega
 refine ret1 rfl rfl ?_
 rw [e1, e2, e3]
 exact .p (LeP.seq _ _)
set_option maxHeartbeats 4000000 in
theorem c_scan_ahead (c : Bool) (l : List Int) (hl : ∀ x, x ∈ l → Pl.W32 x) (hn : l.length ≤ 1000000) (F : FuncId) (hen : enters Try.prog F = true) (f : Int → Int → Int) (hf : Pl.Rule f) (hF : ∀ a b : Int, Pl.W32 a → Pl.W32 b → PCall Try.prog F [u32V a, u32V b] (u32V (f a b))) : HCall Try.prog 81 [.p (words c l), .fn F []] [] (.tup [.p (words false (Pl.aheadF f l)), .p (u32V (Pl.allF f l))]) [] := by
 refine hcall_of_awp Try.func81 rfl (by simp [Try.ntmps81]) fun C hC => ?_
 refine awp_le (le_keep [0, 1]) ?_
 simp only [kp, argSl, simprocAttr]
 refine awp_sr [] (by rw [hC]; rfl) fun k hk => ?_
 simp (maxSteps := 9^9) (disch := (try simp only [lens]); omega) only [argSl, sm, ↓amb, mark_eq, simprocAttr, hen, dx]
 repeat refine ⟨by first | omega | (simp; done) | (unfold maxLen; omega) | (simp [maxLen]; omega) | assumption, ?_⟩
 refine hk _ ?_; clear hk k
 refine awp_le (le_keep [0, 1]) ?_
 simp only [kp, argSl, simprocAttr]
 refine awp_sr [] (by rw [hC]; rfl) fun k hk => ?_
 simp (maxSteps := 9^9) (disch := (try simp only [lens]); omega) only [argSl, sm, ↓amb, mark_eq, simprocAttr, el22, by28, vr28, hen, dx]
 repeat refine ⟨by first | omega | (simp; done) | (unfold maxLen; omega) | (simp [maxLen]; omega) | assumption, ?_⟩
 refine hk _ ?_; clear hk k
 refine awp_le (le_keep [0, 1, 6]) ?_
 simp only [kp, argSl, simprocAttr]
 refine awp_sr [] (by rw [hC]; rfl) fun k hk => ?_
 simp (maxSteps := 9^9) (disch := (try simp only [lens]); omega) only [argSl, sm, ↓amb, mark_eq, simprocAttr, hen, dx]
 repeat refine ⟨by first | omega | (simp; done) | (unfold maxLen; omega) | (simp [maxLen]; omega) | assumption, ?_⟩
 refine hk _ ?_; clear hk k
 refine awp_seq fun k1 h1 => ?_
 refine awp_le (le_keep [0, 1, 4, 5, 6, 7]) ?_
 simp only [kp, argSl, simprocAttr]
 refine awp_sr [] (by rw [hC]; rfl) fun k hk => ?_
 simp (maxSteps := 9^9) (disch := (try simp only [lens]); omega) only [argSl, sm, ↓amb, mark_eq, simprocAttr, el22, hen, dx]
 repeat refine ⟨by first | omega | (simp; done) | (unfold maxLen; omega) | (simp [maxLen]; omega) | assumption, ?_⟩
 refine hk _ ?_; clear hk k
 refine awp_block ?_
 refine awp_loop (σ := Nat) (fun i => i ≤ l.length) (fun (i : Nat) => ⟨[(1, (.fn F [])), (6, (.own 0)), (7, (.p (u32V (Pl.allF f (l.take i))))), (13, (.p (words c l))), (14, (.p (iV l.length))), (15, (.p (iV (i : Int))))], [(0, (.row 1 (lift ((Pl.fillL l.length (Pl.upto 0 ((i : Nat) : Int)) (fun j => Pl.allF f (l.take j))).map fun x => [u32V x]))))], 1⟩) (fun i => l.length - i) 0 ?_ ?_ fun i hi => ?_
 ·exact Nat.zero_le _
 ·exact le_of [(0, _)] (by rfl) (by rfl) ⟨⟨_, rfl, .fn rfl LeRow.nil.2⟩, ⟨_, rfl, .own rfl⟩, ⟨_, rfl, .p (.of_eq (by first | rfl | (rw [Pl.allF_take f l i (by omega)]; done) | trace_state))⟩, ⟨_, rfl, .p (.of_eq (by first | rfl | (simp only [PV.lit.injEq, Value.int.injEq, true_and]; omega) | (simp; done) | (simp; omega)))⟩, ⟨_, rfl, .p (.of_eq (by first | rfl | (simp only [PV.lit.injEq, Value.int.injEq, true_and]; omega) | (simp; done) | (simp; omega)))⟩, ⟨_, rfl, .p (.of_eq (by first | rfl | (simp only [PV.lit.injEq, Value.int.injEq, true_and]; omega) | (simp; done) | (simp; omega)))⟩, trivial⟩ ⟨⟨_, rfl, _, rfl, .liftE (by first | (rw [Pl.upto_nil (by simp), Pl.fillL_nil, List.map_replicate]; done) | (rw [← Pl.upto_snoc' i, ← Pl.fillL_set (by omega) (x := Pl.allF f (l.take i)) rfl, List.map_set]; rfl) | trace_state)⟩, trivial⟩
 refine awp_le (le_keep [0, 1, 4, 5, 6, 7, 13, 14, 15]) ?_
 simp only [kp, argSl, simprocAttr]
 refine awp_sr [] (by rw [hC]; rfl) fun k hk => ?_
 simp (maxSteps := 9^9) (disch := (try simp only [lens]); omega) only [argSl, sm, ↓amb, mark_eq, simprocAttr, hen, dx]
 repeat refine ⟨by first | omega | (simp; done) | (unfold maxLen; omega) | (simp [maxLen]; omega) | assumption, ?_⟩
 refine hk _ ?_; clear hk k
 refine awp_seq fun k3 h3 => ?_
 refine awp_cond rfl (fun hb => ?_) (fun hb => ?_)
 ·try simp only [hbx] at hb
  refine awp_skip ?_
  refine h3 _ ?_; clear h3 k3
  refine awp_seq fun k4 h4 => ?_
  refine awp_block ?_
  refine awp_le (le_keep [0, 1, 4, 5, 6, 7, 13, 14, 15]) ?_
  simp only [kp, argSl, simprocAttr]
  refine awp_sr [] (by rw [hC]; rfl) fun k hk => ?_
  simp (maxSteps := 9^9) (disch := (try simp only [lens]); omega) only [argSl, sm, ↓amb, mark_eq, simprocAttr, el22, sz28, hen, dx]
  repeat refine ⟨by first | omega | (simp; done) | (unfold maxLen; omega) | (simp [maxLen]; omega) | assumption, ?_⟩
  refine hk _ ?_; clear hk k
  refine awp_le (le_keep [0, 1, 4, 5, 6, 7, 8, 9, 13, 14, 15]) ?_
  simp only [kp, argSl, simprocAttr]
  have hfl := Pl.fillL_len l.length (Pl.upto 0 ((i : Nat) : Int)) (fun j => Pl.allF f (l.take j))
  refine awp_sr [] (by rw [hC]; rfl) fun k hk => ?_
  simp (maxSteps := 9^9) (disch := (try simp only [lens]); omega) only [argSl, sm, ↓amb, mark_eq, simprocAttr, el22, sz28, hen, dx]
  repeat refine ⟨by first | omega | (simp; done) | (unfold maxLen; omega) | (simp [maxLen]; omega) | assumption, ?_⟩
  refine hk _ ?_; clear hk k
  have hw1 := hl _ (Pl.getD_mem l i 0 (by omega))
  have hw2 : Pl.W32 (Pl.allF f (l.take i)) := Pl.allF_w hf (Pl.take_w hl)
  refine awp_region [] (by rw [hC]; rfl) fun k hk => ?_
  simp (maxSteps := 9^9) (disch := (try simp only [lens]); omega) only [argSl, sm, ↓amb, mark_eq, simprocAttr, hen, dx]
  repeat refine ⟨by first | omega | (simp; done) | (unfold maxLen; omega) | (simp [maxLen]; omega) | assumption, ?_⟩
  refine callK_p (hF _ _ hw2 hw1) rfl ?_
  simp (maxSteps := 9^9) (disch := (try simp only [lens]); omega) only [argSl, sm, ↓amb, mark_eq, simprocAttr, hen, dx]
  repeat refine ⟨by first | omega | (simp; done) | (unfold maxLen; omega) | (simp [maxLen]; omega) | assumption, ?_⟩
  refine hk _ ?_; clear hk k
  refine h4 _ ?_; clear h4 k4
  refine awp_region [] (by rw [hC]; rfl) fun k hk => ?_
  simp (maxSteps := 9^9) (disch := (try simp only [lens]); omega) only [argSl, sm, ↓amb, mark_eq, simprocAttr, hen, dx]
  repeat refine ⟨by first | omega | (simp; done) | (unfold maxLen; omega) | (simp [maxLen]; omega) | assumption, ?_⟩
  refine hk _ ?_; clear hk k
  refine ⟨i + 1, by omega, le_of [(0, _)] (by rfl) (by rfl) ⟨⟨_, rfl, .fn rfl LeRow.nil.2⟩, ⟨_, rfl, .own rfl⟩, ⟨_, rfl, .p (.of_eq (by first | rfl | (rw [Pl.allF_take f l i (by omega)]; done) | trace_state))⟩, ⟨_, rfl, .p (.of_eq (by first | rfl | (simp only [PV.lit.injEq, Value.int.injEq, true_and]; omega) | (simp; done) | (simp; omega)))⟩, ⟨_, rfl, .p (.of_eq (by first | rfl | (simp only [PV.lit.injEq, Value.int.injEq, true_and]; omega) | (simp; done) | (simp; omega)))⟩, ⟨_, rfl, .p (.of_eq (by first | rfl | (simp only [PV.lit.injEq, Value.int.injEq, true_and]; omega) | (simp; done) | (simp; omega)))⟩, trivial⟩ ⟨⟨_, rfl, _, rfl, .liftE (by first | (rw [Pl.upto_nil (by simp), Pl.fillL_nil, List.map_replicate]; done) | (rw [← Pl.upto_snoc' i, ← Pl.fillL_set (by omega) (x := Pl.allF f (l.take i)) rfl, List.map_set]; rfl) | trace_state)⟩, trivial⟩, by omega⟩
 ·try simp only [hbx] at hb
  refine awp_exit ((if_pos rfl).mpr ?_)
  refine h1 _ ?_; clear h3 k3; clear h1 k1
  refine awp_le (le_keep [6, 7]) ?_
  simp only [kp, argSl, simprocAttr]
  have htk : l.take i = l := List.take_of_length_le (by omega)
  rw [htk, Pl.fill_upto (fun j => Pl.allF f (l.take j)) (show l.length ≤ i by omega)]
  refine awp_sr [] (by rw [hC]; rfl) fun k hk => ?_
  simp (maxSteps := 9^9) (disch := (try simp only [lens]); omega) only [argSl, sm, ↓amb, mark_eq, simprocAttr, hen, dx]
  repeat refine ⟨by first | omega | (simp; done) | (unfold maxLen; omega) | (simp [maxLen]; omega) | assumption, ?_⟩
  refine hk _ ?_; clear hk k
  refine awp_ret ?_
  refine reth2 rfl rfl rfl ?_
  exact le_of [] (by rfl) (by rfl) ⟨⟨_, rfl, leTup (LeRow.cons (.frz rfl (by rfl)) (LeRow.cons (.p (.refl _)) .nil))⟩, trivial⟩ trivial
end Go.Proofs.Ythelnccjcbnjfaa
end
section
set_option linter.unusedSimpArgs false
set_option linter.unusedVariables false
set_option maxRecDepth 100000
namespace Go.Proofs.Ythelnccjcbnjfaa
open Go.Am Go.Proofs
theorem en18 : enters Try.prog 18 = true := by kernel_rfl
theorem en39 : enters Try.prog 39 = true := by kernel_rfl
theorem en63 : enters Try.prog 63 = true := by kernel_rfl
theorem en64 : enters Try.prog 64 = true := by kernel_rfl
theorem en81 : enters Try.prog 81 = true := by kernel_rfl
theorem en82 : enters Try.prog 82 = true := by kernel_rfl
set_option maxHeartbeats 4000000 in
theorem c_scan_phases (c d : Bool) (l : List Int) (b : Int) (p : Pl.Plan) (hl : ∀ x, x ∈ l → Pl.W32 x) (F : FuncId) (hen : enters Try.prog F = true) (f : Int → Int → Int) (hf : Pl.Rule f) (hF : ∀ a b : Int, Pl.W32 a → Pl.W32 b → PCall Try.prog F [u32V a, u32V b] (u32V (f a b))) : HCall Try.prog 63 [.p (words c l), .p (iV b), .p (.agg (planC d p)), .fn F []] [] (.tup [.p (words false (Pl.scL f l b p)), .p (u32V (Pl.scT f l b p)), .p (iV (Pl.scS l.length b p)), .p (iV (Pl.scE l.length b p))]) [] := by
 refine hcall_of_awp Try.func63 rfl (by simp [Try.ntmps63]) fun C hC => ?_
 refine awp_le (le_keep [0, 1, 2, 3]) ?_
 simp only [kp, argSl, simprocAttr]
 refine awp_sr [] (by rw [hC]; rfl) fun k hk => ?_
 simp (maxSteps := 9^9) (disch := (try simp only [lens]); omega) only [argSl, sm, ↓amb, mark_eq, simprocAttr, hen, dx]
 repeat refine ⟨by first | omega | (simp; done) | (unfold maxLen; omega) | (simp [maxLen]; omega) | assumption, ?_⟩
 refine hk _ ?_; clear hk k
 refine awp_seq fun k1 h1 => ?_
 refine awp_test [] 31 (decide (¬ ((1 ≤ b ∧ b ≤ 100) ∧ l.length ≤ 1000))) [0, 1, 3, 6, 8, 9, 10, 11] (by rw [hC]; rfl) (fun gd hgd k hk => ?_) ?_
 ·have g3 : gd 3 = some 27 := by rw [hgd]; rfl
  clear hgd
  simp (maxSteps := 9^9) (disch := (try simp only [lens]); omega) only [argSl, sm, ↓amb, mark_eq, simprocAttr, en69, el22, gcase_undef, g3, hen, dx]
  repeat' first | refine hk _ _ rfl rfl rfl rfl ?_ | (refine gsplit (fun hg => ?_) (fun hg => ?_) <;> (try simp only [hbx] at hg) <;> simp (maxSteps := 9^9) (disch := (try simp only [lens]); omega) only [argSl, sm, ↓amb, mark_eq, simprocAttr, en69, el22, gcase_undef, g3, hen, dx]) | apply And.intro | (refine callK_p (c_scan_sized _) rfl ?_; (try simp (maxSteps := 9^9) (disch := (try simp only [lens]); omega) only [argSl, sm, ↓amb, mark_eq, simprocAttr, en69, el22, gcase_undef, g3, hen, dx])) | fail
  all_goals first | rfl | omega | exact (decide_eq_true (by omega)).symm | exact (decide_eq_false (by omega)).symm | exact decide_eq_decide.mpr (by omega) | (refine Bool.eq_iff_iff.mpr ?_; simp only [beq_iff_eq, bne_iff_ne, ne_eq, decide_eq_true_eq]; omega) | (refine Bool.eq_iff_iff.mpr ?_; simp only [Bool.not_eq_true', Bool.not_eq_false', decide_eq_false_iff_not, decide_eq_true_eq, beq_iff_eq, bne_iff_ne, ne_eq]; omega) | assumption | (simp; done) | (simp [maxLen]; omega) | skip
 simp only [kp, argSl, simprocAttr, List.length_cons, List.length_nil]
 refine awp_cond rfl (fun hb => ?_) (fun hb => ?_)
 ·try simp only [hbx] at hb
  refine awp_le (le_keep []) ?_
  simp only [kp, argSl, simprocAttr]
  refine awp_sr [] (by rw [hC]; rfl) fun k hk => ?_
  simp (maxSteps := 9^9) (disch := (try simp only [lens]); omega) only [argSl, sm, ↓amb, mark_eq, simprocAttr, hen, dx]
  repeat refine ⟨by first | omega | (simp; done) | (unfold maxLen; omega) | (simp [maxLen]; omega) | assumption, ?_⟩
  refine hk _ ?_; clear hk k
  refine awp_ret ?_
  have hse : ¬ Pl.scE l.length b p = 0 := by unfold Pl.scE; rw [if_neg (by first | exact hb | simpa using hb)]; decide
  have hs1 : Pl.scE l.length b p = 1 := (Pl.scE_01 _ _ _).resolve_left hse
  rw [(Pl.sc_no hse).1, (Pl.sc_no (f := f) hse).2.1, (Pl.sc_no (f := f) hse).2.2, hs1]
  refine reth4 rfl rfl rfl rfl rfl ?_
  exact le_of [] (by rfl) (by rfl) ⟨⟨_, rfl, leTup (LeRow.cons (.p (LeP.seq _ _)) (LeRow.cons (.p (.refl _)) (LeRow.cons (.p (.refl _)) (LeRow.cons (.p (.refl _)) .nil))))⟩, trivial⟩ trivial
 ·try simp only [hbx] at hb
  refine awp_skip ?_
  refine h1 _ ?_; clear h1 k1
  refine awp_le (le_keep [0, 1, 3, 6]) ?_
  simp only [kp, argSl, simprocAttr]
  have hq : (1 ≤ b ∧ b ≤ 100) ∧ l.length ≤ 1000 := by first | exact hb | exact Decidable.not_not.1 hb
  obtain ⟨B, rfl⟩ := Int.eq_ofNat_of_zero_le (show 0 ≤ b by omega)
  have hB : 1 ≤ B ∧ B ≤ 100 := by omega
  have hn := hq.2
  refine awp_sr [] (by rw [hC]; rfl) fun k hk => ?_
  simp (maxSteps := 9^9) (disch := (try simp only [lens]); omega) only [argSl, sm, ↓amb, mark_eq, simprocAttr, el22, en39, hen, dx]
  repeat refine ⟨by first | omega | (simp; done) | (unfold maxLen; omega) | (simp [maxLen]; omega) | assumption, ?_⟩
  refine callK_p (c_scan_Blocks _ _) rfl ?_
  simp (maxSteps := 9^9) (disch := (try simp only [lens]); omega) only [argSl, sm, ↓amb, mark_eq, simprocAttr, el22, en39, hen, dx]
  repeat refine ⟨by first | omega | (simp; done) | (unfold maxLen; omega) | (simp [maxLen]; omega) | assumption, ?_⟩
  refine hk _ ?_; clear hk k
  refine awp_le (le_keep [0, 1, 3, 6, 12]) ?_
  simp only [kp, argSl, simprocAttr]
  rw [Pl.blk_nat hB hn]
  have hNu := Pl.blkN_up hB hn
  refine awp_sr [] (by rw [hC]; rfl) fun k hk => ?_
  simp (maxSteps := 9^9) (disch := (try simp only [lens]); omega) only [argSl, sm, ↓amb, mark_eq, simprocAttr, sz26, en18, hen, dx]
  repeat refine ⟨by first | omega | (simp; done) | (unfold maxLen; omega) | (simp [maxLen]; omega) | assumption, ?_⟩
  refine callK_p (c_fill_Order _ _ p) rfl ?_
  simp (maxSteps := 9^9) (disch := (try simp only [lens]); omega) only [argSl, sm, ↓amb, mark_eq, simprocAttr, sz26, en18, hen, dx]
  repeat refine ⟨by first | omega | (simp; done) | (unfold maxLen; omega) | (simp [maxLen]; omega) | assumption, ?_⟩
  refine hk _ ?_; clear hk k
  refine awp_seq fun k2 h2 => ?_
  refine awp_le (le_keep [0, 1, 3, 8, 9, 10, 11, 12, 13]) ?_
  simp only [kp, argSl, simprocAttr]
  refine awp_sr [] (by rw [hC]; rfl) fun k hk => ?_
  simp (maxSteps := 9^9) (disch := (try simp only [lens]); omega) only [argSl, sm, ↓amb, mark_eq, simprocAttr, hen, dx]
  repeat refine ⟨by first | omega | (simp; done) | (unfold maxLen; omega) | (simp [maxLen]; omega) | assumption, ?_⟩
  refine hk _ ?_; clear hk k
  refine awp_cond rfl (fun hb => ?_) (fun hb => ?_)
  ·try simp only [hbx] at hb
   refine awp_le (le_keep [11]) ?_
   simp only [kp, argSl, simprocAttr]
   have hse : ¬ Pl.scE l.length B p = 0 := by unfold Pl.scE; rw [if_pos hq, Pl.blk_nat hB hn]; exact hb
   refine awp_sr [] (by rw [hC]; rfl) fun k hk => ?_
   simp (maxSteps := 9^9) (disch := (try simp only [lens]); omega) only [argSl, sm, ↓amb, mark_eq, simprocAttr, hen, dx]
   repeat refine ⟨by first | omega | (simp; done) | (unfold maxLen; omega) | (simp [maxLen]; omega) | assumption, ?_⟩
   refine hk _ ?_; clear hk k
   refine awp_ret ?_
   have hs1 : Pl.scE l.length B p = Pl.ordE (Pl.blkN l.length B : Nat) p := by unfold Pl.scE; rw [if_pos hq, Pl.blk_nat hB hn]
   rw [(Pl.sc_no hse).1, (Pl.sc_no (f := f) hse).2.1, (Pl.sc_no (f := f) hse).2.2, hs1]
   refine reth4 rfl rfl rfl rfl rfl ?_
   exact le_of [] (by rfl) (by rfl) ⟨⟨_, rfl, leTup (LeRow.cons (.p (LeP.seq _ _)) (LeRow.cons (.p (.refl _)) (LeRow.cons (.p (.refl _)) (LeRow.cons (.p (.refl _)) .nil))))⟩, trivial⟩ trivial
  ·try simp only [hbx] at hb
   refine awp_skip ?_
   refine h2 _ ?_; clear h2 k2
   refine awp_le (le_keep [0, 1, 3, 10, 12, 13]) ?_
   simp only [kp, argSl, simprocAttr]
   have hse : Pl.scE l.length B p = 0 := by unfold Pl.scE; rw [if_pos hq, Pl.blk_nat hB hn]; exact hb
   have hoo := Pl.ordE_iff.1 hb
   have hU : ∀ u, u ∈ (Pl.ordU (Pl.blkN l.length B : Nat) p) → 0 ≤ u ∧ u < ((Pl.blkN l.length B) : Nat) := fun u h => ((Pl.ordU_ok hoo).2.1 u).1 h
   have hUl := (Pl.ordU_ok hoo).2.2
   have hos := (Pl.ord_steps hoo).2.2.2.2.2
   have hos2 : 0 ≤ Pl.ordS (Pl.blkN l.length B : Nat) p := by have := Pl.ord_steps hoo; omega
   refine awp_sr [] (by rw [hC]; rfl) fun k hk => ?_
   simp (maxSteps := 9^9) (disch := (try simp only [lens]); omega) only [argSl, sm, ↓amb, mark_eq, simprocAttr, el22, by28, vr28, hen, dx]
   repeat refine ⟨by first | omega | (simp; done) | (unfold maxLen; omega) | (simp [maxLen]; omega) | assumption, ?_⟩
   refine hk _ ?_; clear hk k
   refine awp_seq fun k3 h3 => ?_
   refine awp_le (le_keep [0, 1, 3, 8, 9, 10, 11, 13, 14]) ?_
   simp only [kp, argSl, simprocAttr]
   refine awp_sr [] (by rw [hC]; rfl) fun k hk => ?_
   simp (maxSteps := 9^9) (disch := (try simp only [lens]); omega) only [argSl, sm, ↓amb, mark_eq, simprocAttr, el32, hen, dx]
   repeat refine ⟨by first | omega | (simp; done) | (unfold maxLen; omega) | (simp [maxLen]; omega) | assumption, ?_⟩
   refine hk _ ?_; clear hk k
   refine awp_block ?_
   refine awp_loop (σ := Nat) (fun z => z ≤ (Pl.ordU (Pl.blkN l.length B : Nat) p).length) (fun (z : Nat) => ⟨[(0, (.p (words c l))), (1, (.p (iV B))), (3, (.fn F [])), (10, (.p (iV (Pl.ordS (Pl.blkN l.length B) p)))), (13, (.p (ints false (Pl.ordU (Pl.blkN l.length B : Nat) p)))), (14, (.own 0)), (48, (.p (ints false (Pl.ordU (Pl.blkN l.length B : Nat) p)))), (49, (.p (iV (Pl.ordU (Pl.blkN l.length B : Nat) p).length))), (50, (.p (iV (z : Int))))], [(0, (.row 1 (lift ((Pl.fillL (Pl.blkN l.length B) ((Pl.ordU (Pl.blkN l.length B : Nat) p).take z) (fun j => Pl.allF f (Pl.part l B j))).map fun x => [u32V x]))))], 1⟩) (fun z => (Pl.ordU (Pl.blkN l.length B : Nat) p).length - z) 0 ?_ ?_ fun z hz => ?_
   ·exact Nat.zero_le _
   ·exact le_of [(0, _)] (by rfl) (by rfl) ⟨⟨_, rfl, .p (.of_eq (by first | rfl | (simp only [PV.lit.injEq, Value.int.injEq, true_and]; omega) | (simp; done) | (simp; omega)))⟩, ⟨_, rfl, .p (.of_eq (by first | rfl | (simp only [PV.lit.injEq, Value.int.injEq, true_and]; omega) | (simp; done) | (simp; omega)))⟩, ⟨_, rfl, .fn rfl LeRow.nil.2⟩, ⟨_, rfl, .p (.of_eq (by first | rfl | (simp only [PV.lit.injEq, Value.int.injEq, true_and]; omega) | (simp; done) | (simp; omega)))⟩, ⟨_, rfl, .p (.of_eq (by first | rfl | (simp only [PV.lit.injEq, Value.int.injEq, true_and]; omega) | (simp; done) | (simp; omega)))⟩, ⟨_, rfl, .own rfl⟩, ⟨_, rfl, .p (.of_eq (by first | rfl | (simp only [PV.lit.injEq, Value.int.injEq, true_and]; omega) | (simp; done) | (simp; omega)))⟩, ⟨_, rfl, .p (.of_eq (by first | rfl | (simp only [PV.lit.injEq, Value.int.injEq, true_and]; omega) | (simp; done) | (simp; omega)))⟩, ⟨_, rfl, .p (.of_eq (by first | rfl | (simp only [PV.lit.injEq, Value.int.injEq, true_and]; omega) | (simp; done) | (simp; omega)))⟩, trivial⟩ ⟨⟨_, rfl, _, rfl, .liftE (by first | (rw [List.take_zero, Pl.fillL_nil, List.map_replicate]; done) | (rw [Pl.take_snoc' (Pl.ordU (Pl.blkN l.length B : Nat) p) z (by omega), hu, ← Pl.fillL_set (i := (u : Int)) (Int.natCast_nonneg u) (x := Pl.allF f (Pl.part l B u)) rfl, Int.toNat_natCast, List.map_set]; first | done | rfl) | trace_state)⟩, trivial⟩
   refine awp_le (le_keep [0, 1, 3, 8, 9, 10, 11, 13, 14, 48, 49, 50]) ?_
   simp only [kp, argSl, simprocAttr]
   refine awp_sr [] (by rw [hC]; rfl) fun k hk => ?_
   simp (maxSteps := 9^9) (disch := (try simp only [lens]); omega) only [argSl, sm, ↓amb, mark_eq, simprocAttr, hen, dx]
   repeat refine ⟨by first | omega | (simp; done) | (unfold maxLen; omega) | (simp [maxLen]; omega) | assumption, ?_⟩
   refine hk _ ?_; clear hk k
   refine awp_seq fun k5 h5 => ?_
   refine awp_cond rfl (fun hb => ?_) (fun hb => ?_)
   ·try simp only [hbx] at hb
    refine awp_skip ?_
    refine h5 _ ?_; clear h5 k5
    refine awp_seq fun k6 h6 => ?_
    refine awp_block ?_
    refine awp_le (le_keep [0, 1, 3, 8, 9, 10, 11, 13, 14, 48, 49, 50]) ?_
    simp only [kp, argSl, simprocAttr]
    refine awp_sr [] (by rw [hC]; rfl) fun k hk => ?_
    simp (maxSteps := 9^9) (disch := (try simp only [lens]); omega) only [argSl, sm, ↓amb, mark_eq, simprocAttr, el32, sz3, hen, dx]
    repeat refine ⟨by first | omega | (simp; done) | (unfold maxLen; omega) | (simp [maxLen]; omega) | assumption, ?_⟩
    refine hk _ ?_; clear hk k
    obtain ⟨u, hu⟩ := Int.eq_ofNat_of_zero_le (hU ((Pl.ordU (Pl.blkN l.length B : Nat) p).getD z 0) (Pl.getD_mem (Pl.ordU (Pl.blkN l.length B : Nat) p) z 0 (by omega))).1
    have hu2 := hU ((Pl.ordU (Pl.blkN l.length B : Nat) p).getD z 0) (Pl.getD_mem (Pl.ordU (Pl.blkN l.length B : Nat) p) z 0 (by omega))
    rw [hu] at hu2
    obtain ⟨u1, u2, u3⟩ := Pl.blk_at hB hn (show u < (Pl.blkN l.length B) by omega)
    rw [hu]
    have hfl := Pl.fillL_len (Pl.blkN l.length B) ((Pl.ordU (Pl.blkN l.length B : Nat) p).take z) (fun j => Pl.allF f (Pl.part l B j))
    refine awp_region [] (by rw [hC]; rfl) fun k hk => ?_
    simp (maxSteps := 9^9) (disch := (try simp only [lens]); omega) only [argSl, sm, ↓amb, mark_eq, simprocAttr, en82, en81, el22, sz28, hen, dx]
    repeat refine ⟨by first | omega | (simp; done) | (unfold maxLen; omega) | (simp [maxLen]; omega) | assumption, ?_⟩
    refine callK_p (c_scan_part c l u B (by omega) (by omega) (by omega) hn) rfl ?_
    simp (maxSteps := 9^9) (disch := (try simp only [lens]); omega) only [argSl, sm, ↓amb, mark_eq, simprocAttr, en82, en81, el22, sz28, hen, dx]
    repeat refine ⟨by first | omega | (simp; done) | (unfold maxLen; omega) | (simp [maxLen]; omega) | assumption, ?_⟩
    refine callK_h (c_scan_ahead false (Pl.part l B u) (Pl.part_w hl) (by rw [Pl.part_len]; omega) F hen f hf hF) [] [] (by first | rfl | (simp only [hm]; done)) (by first | rfl | (simp [namesOk, lkp]; done)) ?_ ?_ ?_ ?_ ?_ ?_ ?_
    (iterate 6 (focus (first | trivial | (intro n hn; cases hn; done) | (simp (maxSteps := 9^9) (disch := (try simp only [lens]); omega) only [argSl, sm, ↓amb, mark_eq, simprocAttr, en82, en81, el22, sz28, hen, dx, hmx, List.filter_cons, Nat.reduceBNe, imp_self, implies_true]; done))))
    simp (maxSteps := 9^9) (disch := (try simp only [lens]); omega) only [argSl, sm, ↓amb, mark_eq, simprocAttr, en82, en81, el22, sz28, hen, dx, hm, List.filter_cons, List.filter_nil, Nat.reduceBNe, Option.map_none]
    repeat refine ⟨by first | omega | (simp; done) | (unfold maxLen; omega) | (simp [maxLen]; omega) | assumption, ?_⟩
    refine hk _ ?_; clear hk k
    refine h6 _ ?_; clear h6 k6
    refine awp_region [] (by rw [hC]; rfl) fun k hk => ?_
    simp (maxSteps := 9^9) (disch := (try simp only [lens]); omega) only [argSl, sm, ↓amb, mark_eq, simprocAttr, hen, dx]
    repeat refine ⟨by first | omega | (simp; done) | (unfold maxLen; omega) | (simp [maxLen]; omega) | assumption, ?_⟩
    refine hk _ ?_; clear hk k
    refine ⟨z + 1, by omega, le_of [(0, _)] (by rfl) (by rfl) ⟨⟨_, rfl, .p (.of_eq (by first | rfl | (simp only [PV.lit.injEq, Value.int.injEq, true_and]; omega) | (simp; done) | (simp; omega)))⟩, ⟨_, rfl, .p (.of_eq (by first | rfl | (simp only [PV.lit.injEq, Value.int.injEq, true_and]; omega) | (simp; done) | (simp; omega)))⟩, ⟨_, rfl, .fn rfl LeRow.nil.2⟩, ⟨_, rfl, .p (.of_eq (by first | rfl | (simp only [PV.lit.injEq, Value.int.injEq, true_and]; omega) | (simp; done) | (simp; omega)))⟩, ⟨_, rfl, .p (.of_eq (by first | rfl | (simp only [PV.lit.injEq, Value.int.injEq, true_and]; omega) | (simp; done) | (simp; omega)))⟩, ⟨_, rfl, .own rfl⟩, ⟨_, rfl, .p (.of_eq (by first | rfl | (simp only [PV.lit.injEq, Value.int.injEq, true_and]; omega) | (simp; done) | (simp; omega)))⟩, ⟨_, rfl, .p (.of_eq (by first | rfl | (simp only [PV.lit.injEq, Value.int.injEq, true_and]; omega) | (simp; done) | (simp; omega)))⟩, ⟨_, rfl, .p (.of_eq (by first | rfl | (simp only [PV.lit.injEq, Value.int.injEq, true_and]; omega) | (simp; done) | (simp; omega)))⟩, trivial⟩ ⟨⟨_, rfl, _, rfl, .liftE (by first | (rw [List.take_zero, Pl.fillL_nil, List.map_replicate]; done) | (rw [Pl.take_snoc' (Pl.ordU (Pl.blkN l.length B : Nat) p) z (by omega), hu, ← Pl.fillL_set (i := (u : Int)) (Int.natCast_nonneg u) (x := Pl.allF f (Pl.part l B u)) rfl, Int.toNat_natCast, List.map_set]; first | done | rfl) | trace_state)⟩, trivial⟩, by omega⟩
   ·try simp only [hbx] at hb
    refine awp_exit ((if_pos rfl).mpr ?_)
    refine h3 _ ?_; clear h5 k5; clear h3 k3
    refine awp_le (le_keep [0, 1, 3, 10, 13, 14]) ?_
    simp only [kp, argSl, simprocAttr]
    have htk : (Pl.ordU (Pl.blkN l.length B : Nat) p).take z = (Pl.ordU (Pl.blkN l.length B : Nat) p) := List.take_of_length_le (by omega)
    refine awp_le (show LE _ (⟨[(0, (.p (words c l))), (1, (.p (iV B))), (3, (.fn F [])), (10, (.p (iV (Pl.ordS (Pl.blkN l.length B) p)))), (13, (.p (ints false (Pl.ordU (Pl.blkN l.length B : Nat) p)))), (14, (.p (words false (Pl.totF f l B (Pl.blkN l.length B)))))], [], 1⟩ : LS) from le_of [] (by rfl) (by rfl) ⟨⟨_, rfl, .p (.of_eq (by first | rfl | (simp only [PV.lit.injEq, Value.int.injEq, true_and]; omega) | (simp; done) | (simp; omega)))⟩, ⟨_, rfl, .p (.of_eq (by first | rfl | (simp only [PV.lit.injEq, Value.int.injEq, true_and]; omega) | (simp; done) | (simp; omega)))⟩, ⟨_, rfl, .fn rfl LeRow.nil.2⟩, ⟨_, rfl, .p (.of_eq (by first | rfl | (simp only [PV.lit.injEq, Value.int.injEq, true_and]; omega) | (simp; done) | (simp; omega)))⟩, ⟨_, rfl, .p (.of_eq (by first | rfl | (simp only [PV.lit.injEq, Value.int.injEq, true_and]; omega) | (simp; done) | (simp; omega)))⟩, ⟨_, rfl, .frz (es := (Pl.totF f l B (Pl.blkN l.length B)).map fun x => [u32V x]) (by rw [htk, Pl.fill_ord hoo]; rfl) (by rfl)⟩, trivial⟩ trivial) ?_
    refine awp_sr [] (by rw [hC]; rfl) fun k hk => ?_
    simp (maxSteps := 9^9) (disch := (try simp only [lens]); omega) only [argSl, sm, ↓amb, mark_eq, simprocAttr, en81, hen, dx]
    repeat refine ⟨by first | omega | (simp; done) | (unfold maxLen; omega) | (simp [maxLen]; omega) | assumption, ?_⟩
    refine callK_h (c_scan_ahead false (Pl.totF f l B (Pl.blkN l.length B)) (Pl.totF_w hf hl B (Pl.blkN l.length B)) (by rw [Pl.totF_len]; omega) F hen f hf hF) [] [] (by first | rfl | (simp only [hm]; done)) (by first | rfl | (simp [namesOk, lkp]; done)) ?_ ?_ ?_ ?_ ?_ ?_ ?_
    (iterate 6 (focus (first | trivial | (intro n hn; cases hn; done) | (simp (maxSteps := 9^9) (disch := (try simp only [lens]); omega) only [argSl, sm, ↓amb, mark_eq, simprocAttr, en81, hen, dx, hmx, List.filter_cons, Nat.reduceBNe, imp_self, implies_true]; done))))
    simp (maxSteps := 9^9) (disch := (try simp only [lens]); omega) only [argSl, sm, ↓amb, mark_eq, simprocAttr, en81, hen, dx, hm, List.filter_cons, List.filter_nil, Nat.reduceBNe, Option.map_none]
    repeat refine ⟨by first | omega | (simp; done) | (unfold maxLen; omega) | (simp [maxLen]; omega) | assumption, ?_⟩
    refine hk _ ?_; clear hk k
    refine awp_le (le_keep [0, 1, 3, 9, 10, 13, 17]) ?_
    simp only [kp, argSl, simprocAttr]
    refine awp_sr [] (by rw [hC]; rfl) fun k hk => ?_
    simp (maxSteps := 9^9) (disch := (try simp only [lens]); omega) only [argSl, sm, ↓amb, mark_eq, simprocAttr, el22, by28, vr28, hen, dx]
    repeat refine ⟨by first | omega | (simp; done) | (unfold maxLen; omega) | (simp [maxLen]; omega) | assumption, ?_⟩
    refine hk _ ?_; clear hk k
    refine awp_seq fun k7 h7 => ?_
    refine awp_le (le_keep [0, 1, 3, 8, 9, 10, 11, 13, 17]) ?_
    simp only [kp, argSl, simprocAttr]
    refine awp_sr [] (by rw [hC]; rfl) fun k hk => ?_
    simp (maxSteps := 9^9) (disch := (try simp only [lens]); omega) only [argSl, sm, ↓amb, mark_eq, simprocAttr, el32, hen, dx]
    repeat refine ⟨by first | omega | (simp; done) | (unfold maxLen; omega) | (simp [maxLen]; omega) | assumption, ?_⟩
    refine hk _ ?_; clear hk k
    refine awp_block ?_
    refine awp_loop (σ := Nat) (fun z => z ≤ (Pl.ordU (Pl.blkN l.length B : Nat) p).length) (fun (z : Nat) => ⟨[(0, (.p (words c l))), (1, (.p (iV B))), (3, (.fn F [])), (8, (.own 0)), (9, (.p (u32V (Pl.allF f l)))), (10, (.p (iV (Pl.ordS (Pl.blkN l.length B) p)))), (17, (.p (words false (Pl.aheadF f (Pl.totF f l B (Pl.blkN l.length B)))))), (76, (.p (ints false (Pl.ordU (Pl.blkN l.length B : Nat) p)))), (77, (.p (iV (Pl.ordU (Pl.blkN l.length B : Nat) p).length))), (78, (.p (iV (z : Int))))], [(0, (.row 1 (lift ((Pl.fillL l.length (((Pl.ordU (Pl.blkN l.length B : Nat) p).take z).flatMap (Pl.blockPl l.length B)) (fun j => Pl.allF f (l.take j))).map fun x => [u32V x]))))], 1⟩) (fun z => (Pl.ordU (Pl.blkN l.length B : Nat) p).length - z) 0 ?_ ?_ fun z hz => ?_
    ·exact Nat.zero_le _
    ·exact le_of [(0, _)] (by rfl) (by rfl) ⟨⟨_, rfl, .p (.of_eq (by first | rfl | (simp only [PV.lit.injEq, Value.int.injEq, true_and]; omega) | (simp; done) | (simp; omega)))⟩, ⟨_, rfl, .p (.of_eq (by first | rfl | (simp only [PV.lit.injEq, Value.int.injEq, true_and]; omega) | (simp; done) | (simp; omega)))⟩, ⟨_, rfl, .fn rfl LeRow.nil.2⟩, ⟨_, rfl, .own rfl⟩, ⟨_, rfl, .p (.of_eq (by first | rfl | rw [Pl.allF_tots hf hl hB.1]))⟩, ⟨_, rfl, .p (.of_eq (by first | rfl | (simp only [PV.lit.injEq, Value.int.injEq, true_and]; omega) | (simp; done) | (simp; omega)))⟩, ⟨_, rfl, .p (.of_eq (by first | rfl | (simp only [PV.lit.injEq, Value.int.injEq, true_and]; omega) | (simp; done) | (simp; omega)))⟩, ⟨_, rfl, .p (.of_eq (by first | rfl | (simp only [PV.lit.injEq, Value.int.injEq, true_and]; omega) | (simp; done) | (simp; omega)))⟩, ⟨_, rfl, .p (.of_eq (by first | rfl | (simp only [PV.lit.injEq, Value.int.injEq, true_and]; omega) | (simp; done) | (simp; omega)))⟩, ⟨_, rfl, .p (.of_eq (by first | rfl | (simp only [PV.lit.injEq, Value.int.injEq, true_and]; omega) | (simp; done) | (simp; omega)))⟩, trivial⟩ ⟨⟨_, rfl, _, rfl, .liftE (by first | (rw [List.take_zero, List.flatMap_nil, Pl.fillL_nil, List.map_replicate]; done) | (rw [Pl.block_snoc (L := (Pl.ordU (Pl.blkN l.length B : Nat) p)) (z := z) (by omega) hu u1, show y = (Pl.part l B u).length by omega]; done) | trace_state)⟩, trivial⟩
    refine awp_le (le_keep [0, 1, 3, 8, 9, 10, 11, 17, 76, 77, 78]) ?_
    simp only [kp, argSl, simprocAttr]
    refine awp_sr [] (by rw [hC]; rfl) fun k hk => ?_
    simp (maxSteps := 9^9) (disch := (try simp only [lens]); omega) only [argSl, sm, ↓amb, mark_eq, simprocAttr, hen, dx]
    repeat refine ⟨by first | omega | (simp; done) | (unfold maxLen; omega) | (simp [maxLen]; omega) | assumption, ?_⟩
    refine hk _ ?_; clear hk k
    refine awp_seq fun k9 h9 => ?_
    refine awp_cond rfl (fun hb => ?_) (fun hb => ?_)
    ·try simp only [hbx] at hb
     refine awp_skip ?_
     refine h9 _ ?_; clear h9 k9
     refine awp_seq fun k10 h10 => ?_
     refine awp_block ?_
     refine awp_le (le_keep [0, 1, 3, 8, 9, 10, 11, 17, 76, 77, 78]) ?_
     simp only [kp, argSl, simprocAttr]
     refine awp_sr [] (by rw [hC]; rfl) fun k hk => ?_
     simp (maxSteps := 9^9) (disch := (try simp only [lens]); omega) only [argSl, sm, ↓amb, mark_eq, simprocAttr, el32, sz3, hen, dx]
     repeat refine ⟨by first | omega | (simp; done) | (unfold maxLen; omega) | (simp [maxLen]; omega) | assumption, ?_⟩
     refine hk _ ?_; clear hk k
     refine awp_le (le_keep [0, 1, 3, 8, 9, 10, 11, 17, 19, 76, 77, 78]) ?_
     simp only [kp, argSl, simprocAttr]
     obtain ⟨u, hu⟩ := Int.eq_ofNat_of_zero_le (hU ((Pl.ordU (Pl.blkN l.length B : Nat) p).getD z 0) (Pl.getD_mem (Pl.ordU (Pl.blkN l.length B : Nat) p) z 0 (by omega))).1
     have hu2 := hU ((Pl.ordU (Pl.blkN l.length B : Nat) p).getD z 0) (Pl.getD_mem (Pl.ordU (Pl.blkN l.length B : Nat) p) z 0 (by omega))
     rw [hu] at hu2
     obtain ⟨u1, u2, u3⟩ := Pl.blk_at hB hn (show u < (Pl.blkN l.length B) by omega)
     rw [hu]
     refine awp_sr [] (by rw [hC]; rfl) fun k hk => ?_
     simp (maxSteps := 9^9) (disch := (try simp only [lens]); omega) only [argSl, sm, ↓amb, mark_eq, simprocAttr, en82, en81, hen, dx]
     repeat refine ⟨by first | omega | (simp; done) | (unfold maxLen; omega) | (simp [maxLen]; omega) | assumption, ?_⟩
     refine callK_p (c_scan_part c l u B (by omega) (by omega) (by omega) hn) rfl ?_
     simp (maxSteps := 9^9) (disch := (try simp only [lens]); omega) only [argSl, sm, ↓amb, mark_eq, simprocAttr, en82, en81, hen, dx]
     repeat refine ⟨by first | omega | (simp; done) | (unfold maxLen; omega) | (simp [maxLen]; omega) | assumption, ?_⟩
     refine callK_h (c_scan_ahead false (Pl.part l B u) (Pl.part_w hl) (by rw [Pl.part_len]; omega) F hen f hf hF) [] [] (by first | rfl | (simp only [hm]; done)) (by first | rfl | (simp [namesOk, lkp]; done)) ?_ ?_ ?_ ?_ ?_ ?_ ?_
     (iterate 6 (focus (first | trivial | (intro n hn; cases hn; done) | (simp (maxSteps := 9^9) (disch := (try simp only [lens]); omega) only [argSl, sm, ↓amb, mark_eq, simprocAttr, en82, en81, hen, dx, hmx, List.filter_cons, Nat.reduceBNe, imp_self, implies_true]; done))))
     simp (maxSteps := 9^9) (disch := (try simp only [lens]); omega) only [argSl, sm, ↓amb, mark_eq, simprocAttr, en82, en81, hen, dx, hm, List.filter_cons, List.filter_nil, Nat.reduceBNe, Option.map_none]
     repeat refine ⟨by first | omega | (simp; done) | (unfold maxLen; omega) | (simp [maxLen]; omega) | assumption, ?_⟩
     refine hk _ ?_; clear hk k
     refine awp_le (le_keep [0, 1, 3, 8, 9, 10, 11, 17, 19, 20, 76, 77, 78]) ?_
     simp only [kp, argSl, simprocAttr]
     refine awp_sr [] (by rw [hC]; rfl) fun k hk => ?_
     simp (maxSteps := 9^9) (disch := (try simp only [lens]); omega) only [argSl, sm, ↓amb, mark_eq, simprocAttr, el22, hen, dx]
     repeat refine ⟨by first | omega | (simp; done) | (unfold maxLen; omega) | (simp [maxLen]; omega) | assumption, ?_⟩
     refine hk _ ?_; clear hk k
     refine awp_block ?_
     refine awp_loop (σ := Nat) (fun y => y ≤ (Pl.part l B u).length) (fun (y : Nat) => ⟨[(0, (.p (words c l))), (1, (.p (iV B))), (3, (.fn F [])), (8, (.own 0)), (9, (.p (u32V (Pl.allF f l)))), (10, (.p (iV (Pl.ordS (Pl.blkN l.length B) p)))), (17, (.p (words false (Pl.aheadF f (Pl.totF f l B (Pl.blkN l.length B)))))), (19, (.p (iV ((u : Nat) : Int)))), (76, (.p (ints false (Pl.ordU (Pl.blkN l.length B : Nat) p)))), (77, (.p (iV (Pl.ordU (Pl.blkN l.length B : Nat) p).length))), (78, (.p (iV (z : Int)))), (91, (.p (words false (Pl.aheadF f (Pl.part l B u))))), (92, (.p (iV (Pl.part l B u).length))), (93, (.p (iV (y : Int))))], [(0, (.row 1 (lift ((Pl.fillL l.length ((((Pl.ordU (Pl.blkN l.length B : Nat) p).take z).flatMap (Pl.blockPl l.length B)) ++ Pl.upto (((u : Nat) : Int) * B) (((u : Nat) : Int) * B + ((y : Nat) : Int))) (fun j => Pl.allF f (l.take j))).map fun x => [u32V x]))))], 1⟩) (fun y => (Pl.part l B u).length - y) 0 ?_ ?_ fun y hy => ?_
     ·exact Nat.zero_le _
     ·exact le_of [(0, _)] (by rfl) (by rfl) ⟨⟨_, rfl, .p (.of_eq (by first | rfl | (simp only [PV.lit.injEq, Value.int.injEq, true_and]; omega) | (simp; done) | (simp; omega)))⟩, ⟨_, rfl, .p (.of_eq (by first | rfl | (simp only [PV.lit.injEq, Value.int.injEq, true_and]; omega) | (simp; done) | (simp; omega)))⟩, ⟨_, rfl, .fn rfl LeRow.nil.2⟩, ⟨_, rfl, .own rfl⟩, ⟨_, rfl, .p (.of_eq (by first | rfl | (simp only [PV.lit.injEq, Value.int.injEq, true_and]; omega) | (simp; done) | (simp; omega)))⟩, ⟨_, rfl, .p (.of_eq (by first | rfl | (simp only [PV.lit.injEq, Value.int.injEq, true_and]; omega) | (simp; done) | (simp; omega)))⟩, ⟨_, rfl, .p (.of_eq (by first | rfl | (simp only [PV.lit.injEq, Value.int.injEq, true_and]; omega) | (simp; done) | (simp; omega)))⟩, ⟨_, rfl, .p (.of_eq (by first | rfl | (simp only [PV.lit.injEq, Value.int.injEq, true_and]; omega) | (simp; done) | (simp; omega)))⟩, ⟨_, rfl, .p (.of_eq (by first | rfl | (simp only [PV.lit.injEq, Value.int.injEq, true_and]; omega) | (simp; done) | (simp; omega)))⟩, ⟨_, rfl, .p (.of_eq (by first | rfl | (simp only [PV.lit.injEq, Value.int.injEq, true_and]; omega) | (simp; done) | (simp; omega)))⟩, ⟨_, rfl, .p (.of_eq (by first | rfl | (simp only [PV.lit.injEq, Value.int.injEq, true_and]; omega) | (simp; done) | (simp; omega)))⟩, ⟨_, rfl, .p (.of_eq (by first | rfl | (simp only [PV.lit.injEq, Value.int.injEq, true_and]; omega) | (simp; done) | (simp; omega)))⟩, ⟨_, rfl, .p (.of_eq (by first | rfl | rw [Pl.aheadF_len]))⟩, ⟨_, rfl, .p (.of_eq (by first | rfl | (simp only [PV.lit.injEq, Value.int.injEq, true_and]; omega) | (simp; done) | (simp; omega)))⟩, trivial⟩ ⟨⟨_, rfl, _, rfl, .liftE (by first | (rw [Pl.upto_nil (by simp), List.append_nil]; done) | (rw [← Pl.upto_snoc, ← List.append_assoc, ← Pl.fillL_set hnn hpl', List.map_set]; first | done | rfl) | trace_state)⟩, trivial⟩
     refine awp_le (le_keep [0, 1, 3, 8, 9, 10, 11, 17, 19, 76, 77, 78, 91, 92, 93]) ?_
     simp only [kp, argSl, simprocAttr]
     refine awp_sr [] (by rw [hC]; rfl) fun k hk => ?_
     simp (maxSteps := 9^9) (disch := (try simp only [lens]); omega) only [argSl, sm, ↓amb, mark_eq, simprocAttr, hen, dx]
     repeat refine ⟨by first | omega | (simp; done) | (unfold maxLen; omega) | (simp [maxLen]; omega) | assumption, ?_⟩
     refine hk _ ?_; clear hk k
     refine awp_seq fun k12 h12 => ?_
     refine awp_cond rfl (fun hb => ?_) (fun hb => ?_)
     ·try simp only [hbx] at hb
      refine awp_skip ?_
      refine h12 _ ?_; clear h12 k12
      refine awp_seq fun k13 h13 => ?_
      refine awp_block ?_
      refine awp_le (le_keep [0, 1, 3, 8, 9, 10, 11, 17, 19, 76, 77, 78, 91, 92, 93]) ?_
      simp only [kp, argSl, simprocAttr]
      have hal := Pl.aheadF_len f (Pl.part l B u)
      refine awp_sr [] (by rw [hC]; rfl) fun k hk => ?_
      simp (maxSteps := 9^9) (disch := (try simp only [lens]); omega) only [argSl, sm, ↓amb, mark_eq, simprocAttr, el22, sz28, hen, dx]
      repeat refine ⟨by first | omega | (simp; done) | (unfold maxLen; omega) | (simp [maxLen]; omega) | assumption, ?_⟩
      refine hk _ ?_; clear hk k
      have hal2 := Pl.aheadF_len f (Pl.totF f l B (Pl.blkN l.length B))
      have hal3 := Pl.totF_len f l B (Pl.blkN l.length B)
      have hfl := Pl.fillL_len l.length ((((Pl.ordU (Pl.blkN l.length B : Nat) p).take z).flatMap (Pl.blockPl l.length B)) ++ Pl.upto (((u : Nat) : Int) * B) (((u : Nat) : Int) * B + ((y : Nat) : Int))) (fun j => Pl.allF f (l.take j))
      obtain ⟨hpl, hpl2⟩ := Pl.ahead_cell hf hl (show u < (Pl.blkN l.length B) by omega) u1 (show y < (Pl.part l B u).length by omega)
      have hw1 := Pl.getD_w (Pl.aheadF_w hf (Pl.part_w (b := B) (i := u) hl)) y
      have hw2 := Pl.getD_w (Pl.aheadF_w hf (Pl.totF_w hf hl B (Pl.blkN l.length B))) u
      have e1 : (u : Int) * (B : Int) = ((u * B : Nat) : Int) := by rw [Int.natCast_mul]
      have hnn : 0 ≤ (u : Int) * (B : Int) + (y : Int) := by rw [e1]; omega
      have hpl' : f ((Pl.aheadF f (Pl.totF f l B (Pl.blkN l.length B))).getD u 0) ((Pl.aheadF f (Pl.part l B u)).getD y 0) = (fun j => Pl.allF f (l.take j)) ((u : Int) * (B : Int) + (y : Int)).toNat := by rw [hpl, e1]; show Pl.allF f (l.take _) = Pl.allF f (l.take _); congr 2
      refine awp_region [] (by rw [hC]; rfl) fun k hk => ?_
      simp (maxSteps := 9^9) (disch := (try simp only [lens]); omega) only [argSl, sm, ↓amb, mark_eq, simprocAttr, el22, sz28, hen, dx]
      repeat refine ⟨by first | omega | (simp; done) | (unfold maxLen; omega) | (simp [maxLen]; omega) | assumption, ?_⟩
      refine callK_p (hF _ _ hw2 hw1) rfl ?_
      simp (maxSteps := 9^9) (disch := (try simp only [lens]); omega) only [argSl, sm, ↓amb, mark_eq, simprocAttr, el22, sz28, hen, dx]
      repeat refine ⟨by first | omega | (simp; done) | (unfold maxLen; omega) | (simp [maxLen]; omega) | assumption, ?_⟩
      refine hk _ ?_; clear hk k
      refine h13 _ ?_; clear h13 k13
      refine awp_region [] (by rw [hC]; rfl) fun k hk => ?_
      simp (maxSteps := 9^9) (disch := (try simp only [lens]); omega) only [argSl, sm, ↓amb, mark_eq, simprocAttr, hen, dx]
      repeat refine ⟨by first | omega | (simp; done) | (unfold maxLen; omega) | (simp [maxLen]; omega) | assumption, ?_⟩
      refine hk _ ?_; clear hk k
      refine ⟨y + 1, by omega, le_of [(0, _)] (by rfl) (by rfl) ⟨⟨_, rfl, .p (.of_eq (by first | rfl | (simp only [PV.lit.injEq, Value.int.injEq, true_and]; omega) | (simp; done) | (simp; omega)))⟩, ⟨_, rfl, .p (.of_eq (by first | rfl | (simp only [PV.lit.injEq, Value.int.injEq, true_and]; omega) | (simp; done) | (simp; omega)))⟩, ⟨_, rfl, .fn rfl LeRow.nil.2⟩, ⟨_, rfl, .own rfl⟩, ⟨_, rfl, .p (.of_eq (by first | rfl | (simp only [PV.lit.injEq, Value.int.injEq, true_and]; omega) | (simp; done) | (simp; omega)))⟩, ⟨_, rfl, .p (.of_eq (by first | rfl | (simp only [PV.lit.injEq, Value.int.injEq, true_and]; omega) | (simp; done) | (simp; omega)))⟩, ⟨_, rfl, .p (.of_eq (by first | rfl | (simp only [PV.lit.injEq, Value.int.injEq, true_and]; omega) | (simp; done) | (simp; omega)))⟩, ⟨_, rfl, .p (.of_eq (by first | rfl | (simp only [PV.lit.injEq, Value.int.injEq, true_and]; omega) | (simp; done) | (simp; omega)))⟩, ⟨_, rfl, .p (.of_eq (by first | rfl | (simp only [PV.lit.injEq, Value.int.injEq, true_and]; omega) | (simp; done) | (simp; omega)))⟩, ⟨_, rfl, .p (.of_eq (by first | rfl | (simp only [PV.lit.injEq, Value.int.injEq, true_and]; omega) | (simp; done) | (simp; omega)))⟩, ⟨_, rfl, .p (.of_eq (by first | rfl | (simp only [PV.lit.injEq, Value.int.injEq, true_and]; omega) | (simp; done) | (simp; omega)))⟩, ⟨_, rfl, .p (.of_eq (by first | rfl | (simp only [PV.lit.injEq, Value.int.injEq, true_and]; omega) | (simp; done) | (simp; omega)))⟩, ⟨_, rfl, .p (.of_eq (by first | rfl | rw [Pl.aheadF_len]))⟩, ⟨_, rfl, .p (.of_eq (by first | rfl | (simp only [PV.lit.injEq, Value.int.injEq, true_and]; omega) | (simp; done) | (simp; omega)))⟩, trivial⟩ ⟨⟨_, rfl, _, rfl, .liftE (by first | (rw [Pl.upto_nil (by simp), List.append_nil]; done) | (rw [← Pl.upto_snoc, ← List.append_assoc, ← Pl.fillL_set hnn hpl', List.map_set]; first | done | rfl) | trace_state)⟩, trivial⟩, by omega⟩
     ·try simp only [hbx] at hb
      refine awp_exit ((if_pos rfl).mpr ?_)
      refine h10 _ ?_; clear h12 k12; clear h10 k10
      refine awp_region [] (by rw [hC]; rfl) fun k hk => ?_
      simp (maxSteps := 9^9) (disch := (try simp only [lens]); omega) only [argSl, sm, ↓amb, mark_eq, simprocAttr, hen, dx]
      repeat refine ⟨by first | omega | (simp; done) | (unfold maxLen; omega) | (simp [maxLen]; omega) | assumption, ?_⟩
      refine hk _ ?_; clear hk k
      refine ⟨z + 1, by omega, le_of [(0, _)] (by rfl) (by rfl) ⟨⟨_, rfl, .p (.of_eq (by first | rfl | (simp only [PV.lit.injEq, Value.int.injEq, true_and]; omega) | (simp; done) | (simp; omega)))⟩, ⟨_, rfl, .p (.of_eq (by first | rfl | (simp only [PV.lit.injEq, Value.int.injEq, true_and]; omega) | (simp; done) | (simp; omega)))⟩, ⟨_, rfl, .fn rfl LeRow.nil.2⟩, ⟨_, rfl, .own rfl⟩, ⟨_, rfl, .p (.of_eq (by first | rfl | rw [Pl.allF_tots hf hl hB.1]))⟩, ⟨_, rfl, .p (.of_eq (by first | rfl | (simp only [PV.lit.injEq, Value.int.injEq, true_and]; omega) | (simp; done) | (simp; omega)))⟩, ⟨_, rfl, .p (.of_eq (by first | rfl | (simp only [PV.lit.injEq, Value.int.injEq, true_and]; omega) | (simp; done) | (simp; omega)))⟩, ⟨_, rfl, .p (.of_eq (by first | rfl | (simp only [PV.lit.injEq, Value.int.injEq, true_and]; omega) | (simp; done) | (simp; omega)))⟩, ⟨_, rfl, .p (.of_eq (by first | rfl | (simp only [PV.lit.injEq, Value.int.injEq, true_and]; omega) | (simp; done) | (simp; omega)))⟩, ⟨_, rfl, .p (.of_eq (by first | rfl | (simp only [PV.lit.injEq, Value.int.injEq, true_and]; omega) | (simp; done) | (simp; omega)))⟩, trivial⟩ ⟨⟨_, rfl, _, rfl, .liftE (by first | (rw [List.take_zero, List.flatMap_nil, Pl.fillL_nil, List.map_replicate]; done) | (rw [Pl.block_snoc (L := (Pl.ordU (Pl.blkN l.length B : Nat) p)) (z := z) (by omega) hu u1, show y = (Pl.part l B u).length by omega]; done) | trace_state)⟩, trivial⟩, by omega⟩
    ·try simp only [hbx] at hb
     refine awp_exit ((if_pos rfl).mpr ?_)
     refine h7 _ ?_; clear h9 k9; clear h7 k7
     refine awp_le (le_keep [8, 9, 10]) ?_
     simp only [kp, argSl, simprocAttr]
     have htk : (Pl.ordU (Pl.blkN l.length B : Nat) p).take z = (Pl.ordU (Pl.blkN l.length B : Nat) p) := List.take_of_length_le (by omega)
     rw [htk, Pl.fill_blocks hB hn hoo (fun j => Pl.allF f (l.take j))]
     refine awp_sr [] (by rw [hC]; rfl) fun k hk => ?_
     simp (maxSteps := 9^9) (disch := (try simp only [lens]); omega) only [argSl, sm, ↓amb, mark_eq, simprocAttr, hen, dx]
     repeat refine ⟨by first | omega | (simp; done) | (unfold maxLen; omega) | (simp [maxLen]; omega) | assumption, ?_⟩
     refine hk _ ?_; clear hk k
     refine awp_ret ?_
     rw [(Pl.sc_yes hse).1, (Pl.sc_yes (f := f) hse).2.1, (Pl.sc_yes (f := f) hse).2.2, hse, Pl.blk_nat hB hn]
     refine reth4 rfl rfl rfl rfl rfl ?_
     exact le_of [] (by rfl) (by rfl) ⟨⟨_, rfl, leTup (LeRow.cons (.frz rfl (by rfl)) (LeRow.cons (.p (.refl _)) (LeRow.cons (.p (.refl _)) (LeRow.cons (.p (.refl _)) .nil))))⟩, trivial⟩ trivial
set_option maxHeartbeats 4000000 in
theorem c_scan_Sums (c d : Bool) (l : List Int) (b : Int) (p : Pl.Plan) (hl : ∀ x, x ∈ l → Pl.W32 x) : PCall Try.prog 31 [words c l, iV b, .agg (planC d p)] (.tup [words false (Pl.scL Pl.add32 l b p), u32V (Pl.scT Pl.add32 l b p), iV (Pl.scS l.length b p), iV (Pl.scE l.length b p)]) := by
 refine pcall_of_awp Try.func31 rfl (by simp [Try.ntmps31]) fun C hC => ?_
 refine awp_le (le_keep [0, 1, 2]) ?_
 simp only [kp, argSl, simprocAttr]
 refine awp_sr [] (by rw [hC]; rfl) fun k hk => ?_
 simp (maxSteps := 9^9) (disch := (try simp only [lens]); omega) only [argSl, sm, ↓amb, mark_eq, simprocAttr, dx, en64]
 repeat refine ⟨by first | omega | (simp; done) | (unfold maxLen; omega) | (simp [maxLen]; omega) | assumption, ?_⟩
 refine hk _ ?_; clear hk k
 refine awp_le (le_keep [0, 1, 5]) ?_
 simp only [kp, argSl, simprocAttr]
 refine awp_sr [] (by rw [hC]; rfl) fun k hk => ?_
 simp (maxSteps := 9^9) (disch := (try simp only [lens]); omega) only [argSl, sm, ↓amb, mark_eq, simprocAttr, sz26, en63, dx, en64]
 repeat refine ⟨by first | omega | (simp; done) | (unfold maxLen; omega) | (simp [maxLen]; omega) | assumption, ?_⟩
 refine callK_h (c_scan_phases c d l b p hl 64 en64 Pl.add32 Pl.rule_add (fun a b ha hb => c_scan_Sums_1 a b ha hb)) [] [] (by first | rfl | (simp only [hm]; done)) (by first | rfl | (simp [namesOk, lkp]; done)) ?_ ?_ ?_ ?_ ?_ ?_ ?_
 (iterate 6 (focus (first | trivial | (intro n hn; cases hn; done) | (simp (maxSteps := 9^9) (disch := (try simp only [lens]); omega) only [argSl, sm, ↓amb, mark_eq, simprocAttr, sz26, en63, dx, en64, hmx, List.filter_cons, Nat.reduceBNe, imp_self, implies_true]; done))))
 simp (maxSteps := 9^9) (disch := (try simp only [lens]); omega) only [argSl, sm, ↓amb, mark_eq, simprocAttr, sz26, en63, dx, en64, hm, List.filter_cons, List.filter_nil, Nat.reduceBNe, Option.map_none]
 repeat refine ⟨by first | omega | (simp; done) | (unfold maxLen; omega) | (simp [maxLen]; omega) | assumption, ?_⟩
 refine hk _ ?_; clear hk k
 refine awp_ret ?_
 refine ret4 rfl rfl rfl rfl rfl ?_ ?_ ?_ ?_
 ·exact .p (LeP.refl _)
 ·exact .p (LeP.refl _)
 ·exact .p (LeP.refl _)
 ·exact .p (LeP.refl _)
end Go.Proofs.Ythelnccjcbnjfaa
end
section
set_option linter.unusedSimpArgs false
set_option linter.unusedVariables false
namespace Go.Pl
theorem backL_snoc (l : List Int) (x : Int) (i : Nat) : backL l x (i + 1) = backL l x i ++ [((if i + 1 < l.length then l.getD (i + 1) 0 else x) - l.getD i 0) % 4294967296] := by
  unfold backL; rw [List.range_succ, List.map_append]; rfl
theorem backL_len (l : List Int) (x : Int) (i : Nat) : (backL l x i).length = i := by simp [backL]
def hiT (l : List Int) (i j : Nat) : Int := allF (fun a b => max a b) (l.take (if j < i then j + 1 else j))
theorem hiT_0 (l : List Int) : aheadF (fun a b => max a b) l = tabL l.length (hiT l 0) := by
  unfold aheadF tabL hiT
  refine List.map_congr_left fun j _ => ?_
  rw [if_neg (Nat.not_lt_zero j)]
theorem hiT_end (l : List Int) : tabL l.length (hiT l l.length) = highF l l.length := by
  unfold highF tabL hiT
  refine List.map_congr_left fun j hj => ?_
  rw [if_pos (List.mem_range.1 hj)]
theorem hiT_at (l : List Int) (i : Nat) : hiT l i i = allF (fun a b => max a b) (l.take i) := by
  unfold hiT; rw [if_neg (Nat.lt_irrefl i)]
theorem hiT_set {l : List Int} {i : Nat} (h : i < l.length) : (tabL l.length (hiT l i)).set i (max (hiT l i i) (l.getD i 0)) = tabL l.length (hiT l (i + 1)) := by
  refine tabL_set ?_ fun j _ hj => ?_
  · rw [hiT_at]; unfold hiT; rw [if_pos (Nat.lt_succ_self i), allF_take _ _ _ h]
  · unfold hiT
    by_cases q : j < i
    · rw [if_pos q, if_pos (by omega)]
    · rw [if_neg q, if_neg (by omega)]
def hiL (l : List Int) (b : Int) (p : Plan) : List Int := if scE l.length b p = 0 then highF l l.length else []
theorem part_get {l : List Int} {b i j : Nat} (h : j < (part l b i).length) : (part l b i).getD j 0 = l.getD (i * b + j) 0 := by
  rw [part_len] at h
  unfold part
  rw [List.getD_eq_getElem?_getD, List.getElem?_drop, List.getElem?_take_of_lt (by omega), List.getD_eq_getElem?_getD]
theorem blk_nn (n : Nat) (b : Int) : 0 ≤ blk n b ∧ blk n b ≤ 1000 := by
  by_cases h : blkOk' n b
  · exact ⟨(blk_up (b := b) h.1 (Int.le_refl _) h.2.1).1, (blk_up (b := b) h.1 (Int.le_refl _) h.2.1).2.2⟩
  · unfold blk; rw [if_neg h]; omega
theorem blk_in {n u : Nat} {b : Int} (h : (u : Int) < blk n b) : ∃ B : Nat, b = B ∧ (1 ≤ B ∧ B ≤ 100) ∧ n ≤ 1000 ∧ u * B < n ∧ (u + 1) * B = u * B + B ∧ u < 1000 := by
  by_cases q : blkOk' n b
  · obtain ⟨q1, q2, q3, q4⟩ := q
    obtain ⟨B, rfl⟩ := Int.eq_ofNat_of_zero_le (show 0 ≤ b by omega)
    rw [blk_nat (by omega) (by omega)] at h
    obtain ⟨u1, u2, u3⟩ := blk_at (n := n) (b := B) (u := u) (by omega) (by omega) (by omega)
    exact ⟨B, rfl, by omega, by omega, u1, u2, u3⟩
  · unfold blk at h; rw [if_neg q] at h; omega
theorem totR_eq {l : List Int} {b : Int} {u : Nat} (h : ¬ (u : Int) < blk l.length b) (h2 : (u : Int) ≤ blk l.length b) : totF add32 l b.toNat u = totR l b := by
  unfold totR
  by_cases q : blkOk' l.length b
  · rw [if_pos q]
    obtain ⟨q1, q2, q3, q4⟩ := q
    obtain ⟨B, rfl⟩ := Int.eq_ofNat_of_zero_le (show 0 ≤ b by omega)
    rw [blk_nat (by omega) (by omega)] at h h2
    rw [Int.toNat_natCast, show u = blkN l.length B by omega]
  · rw [if_neg q]
    unfold blk at h h2; rw [if_neg q] at h h2
    obtain rfl : u = 0 := by omega
    rfl
end Go.Pl
end
section
set_option linter.unusedSimpArgs false
set_option linter.unusedVariables false
set_option maxRecDepth 100000
namespace Go.Proofs.Ythelnccjcbnjfaa
open Go.Am Go.Proofs
set_option maxHeartbeats 4000000 in
theorem c_scan_sum (c : Bool) (l : List Int) (hl : ∀ x, x ∈ l → Pl.W32 x) (hn : l.length ≤ 1000000) : PCall Try.prog 68 [words c l] (u32V (Pl.allF Pl.add32 l)) := by
 refine pcall_of_awp Try.func68 rfl (by simp [Try.ntmps68]) fun C hC => ?_
 refine awp_le (le_keep [0]) ?_
 simp only [kp, argSl, simprocAttr]
 refine awp_sr [] (by rw [hC]; rfl) fun k hk => ?_
 simp (maxSteps := 9^9) (disch := (try simp only [lens]); omega) only [argSl, sm, ↓amb, mark_eq, simprocAttr, wr_u32, dx]
 repeat refine ⟨by first | omega | (simp; done) | (unfold maxLen; omega) | (simp [maxLen]; omega) | assumption, ?_⟩
 refine hk _ ?_; clear hk k
 refine awp_seq fun k1 h1 => ?_
 refine awp_le (le_keep [0, 2]) ?_
 simp only [kp, argSl, simprocAttr]
 refine awp_sr [] (by rw [hC]; rfl) fun k hk => ?_
 simp (maxSteps := 9^9) (disch := (try simp only [lens]); omega) only [argSl, sm, ↓amb, mark_eq, simprocAttr, el22, wr_u32, dx]
 repeat refine ⟨by first | omega | (simp; done) | (unfold maxLen; omega) | (simp [maxLen]; omega) | assumption, ?_⟩
 refine hk _ ?_; clear hk k
 refine awp_block ?_
 refine awp_loop (σ := Nat) (fun i => i ≤ l.length) (fun (i : Nat) => ⟨[(2, (.p (u32V (Pl.allF Pl.add32 (l.take i))))), (5, (.p (words c l))), (6, (.p (iV l.length))), (7, (.p (iV (i : Int))))], [], 1⟩) (fun i => l.length - i) 0 ?_ ?_ fun i hi => ?_
 ·exact Nat.zero_le _
 ·exact le_of [] (by rfl) (by rfl) ⟨⟨_, rfl, .p (.of_eq (by first | rfl | (rw [Pl.allF_take _ l i (by omega)]; first | done | rfl) | trace_state))⟩, ⟨_, rfl, .p (.of_eq (by first | rfl | (simp only [PV.lit.injEq, Value.int.injEq, true_and]; omega) | (simp; done) | (simp; omega)))⟩, ⟨_, rfl, .p (.of_eq (by first | rfl | (simp only [PV.lit.injEq, Value.int.injEq, true_and]; omega) | (simp; done) | (simp; omega)))⟩, ⟨_, rfl, .p (.of_eq (by first | rfl | (simp only [PV.lit.injEq, Value.int.injEq, true_and]; omega) | (simp; done) | (simp; omega)))⟩, trivial⟩ trivial
 refine awp_le (le_keep [2, 5, 6, 7]) ?_
 simp only [kp, argSl, simprocAttr]
 refine awp_sr [] (by rw [hC]; rfl) fun k hk => ?_
 simp (maxSteps := 9^9) (disch := (try simp only [lens]); omega) only [argSl, sm, ↓amb, mark_eq, simprocAttr, wr_u32, dx]
 repeat refine ⟨by first | omega | (simp; done) | (unfold maxLen; omega) | (simp [maxLen]; omega) | assumption, ?_⟩
 refine hk _ ?_; clear hk k
 refine awp_seq fun k3 h3 => ?_
 refine awp_cond rfl (fun hb => ?_) (fun hb => ?_)
 ·try simp only [hbx] at hb
  refine awp_skip ?_
  refine h3 _ ?_; clear h3 k3
  refine awp_seq fun k4 h4 => ?_
  refine awp_block ?_
  refine awp_le (le_keep [2, 5, 6, 7]) ?_
  simp only [kp, argSl, simprocAttr]
  have hw1 := hl _ (Pl.getD_mem l i 0 (by omega))
  refine awp_sr [] (by rw [hC]; rfl) fun k hk => ?_
  simp (maxSteps := 9^9) (disch := (try simp only [lens]); omega) only [argSl, sm, ↓amb, mark_eq, simprocAttr, el22, sz28, wr_u32, dx]
  repeat refine ⟨by first | omega | (simp; done) | (unfold maxLen; omega) | (simp [maxLen]; omega) | assumption, ?_⟩
  refine hk _ ?_; clear hk k
  refine awp_region [] (by rw [hC]; rfl) fun k hk => ?_
  simp (maxSteps := 9^9) (disch := (try simp only [lens]); omega) only [argSl, sm, ↓amb, mark_eq, simprocAttr, wr_u32, dx]
  repeat refine ⟨by first | omega | (simp; done) | (unfold maxLen; omega) | (simp [maxLen]; omega) | assumption, ?_⟩
  refine hk _ ?_; clear hk k
  refine h4 _ ?_; clear h4 k4
  refine awp_region [] (by rw [hC]; rfl) fun k hk => ?_
  simp (maxSteps := 9^9) (disch := (try simp only [lens]); omega) only [argSl, sm, ↓amb, mark_eq, simprocAttr, wr_u32, dx]
  repeat refine ⟨by first | omega | (simp; done) | (unfold maxLen; omega) | (simp [maxLen]; omega) | assumption, ?_⟩
  refine hk _ ?_; clear hk k
  refine ⟨i + 1, by omega, le_of [] (by rfl) (by rfl) ⟨⟨_, rfl, .p (.of_eq (by first | rfl | (rw [Pl.allF_take _ l i (by omega)]; first | done | rfl) | trace_state))⟩, ⟨_, rfl, .p (.of_eq (by first | rfl | (simp only [PV.lit.injEq, Value.int.injEq, true_and]; omega) | (simp; done) | (simp; omega)))⟩, ⟨_, rfl, .p (.of_eq (by first | rfl | (simp only [PV.lit.injEq, Value.int.injEq, true_and]; omega) | (simp; done) | (simp; omega)))⟩, ⟨_, rfl, .p (.of_eq (by first | rfl | (simp only [PV.lit.injEq, Value.int.injEq, true_and]; omega) | (simp; done) | (simp; omega)))⟩, trivial⟩ trivial, by omega⟩
 ·try simp only [hbx] at hb
  refine awp_exit ((if_pos rfl).mpr ?_)
  refine h1 _ ?_; clear h3 k3; clear h1 k1
  refine awp_le (le_keep [2]) ?_
  simp only [kp, argSl, simprocAttr]
  have htk : l.take i = l := List.take_of_length_le (by omega)
  rw [htk]
  refine awp_sr [] (by rw [hC]; rfl) fun k hk => ?_
  simp (maxSteps := 9^9) (disch := (try simp only [lens]); omega) only [argSl, sm, ↓amb, mark_eq, simprocAttr, wr_u32, dx]
  repeat refine ⟨by first | omega | (simp; done) | (unfold maxLen; omega) | (simp [maxLen]; omega) | assumption, ?_⟩
  refine hk _ ?_; clear hk k
  refine awp_ret ?_
  refine ret1 rfl rfl ?_
  exact .p (LeP.refl _)
set_option maxHeartbeats 4000000 in
theorem c_scan_Back (c : Bool) (l : List Int) (x : Int) (hl : ∀ x, x ∈ l → Pl.W32 x) (hx : Pl.W32 x) (hn : l.length ≤ 1000000) : PCall Try.prog 37 [words c l, u32V x] (words false (Pl.backL l x l.length)) := by
 refine pcall_of_awp Try.func37 rfl (by simp [Try.ntmps37]) fun C hC => ?_
 refine awp_le (le_keep [0, 1]) ?_
 simp only [kp, argSl, simprocAttr]
 refine awp_sr [32] (by rw [hC]; rfl) fun k hk => ?_
 simp (maxSteps := 9^9) (disch := (try simp only [lens]); omega) only [argSl, sm, ↓amb, mark_eq, simprocAttr, wr_u32, dx]
 repeat refine ⟨by first | omega | (simp; done) | (unfold maxLen; omega) | (simp [maxLen]; omega) | assumption, ?_⟩
 refine hk _ ?_; clear hk k
 refine awp_le (le_keep [0, 1]) ?_
 simp only [kp, argSl, simprocAttr]
 refine awp_sr [32] (by rw [hC]; rfl) fun k hk => ?_
 simp (maxSteps := 9^9) (disch := (try simp only [lens]); omega) only [argSl, sm, ↓amb, mark_eq, simprocAttr, wr_u32, dx]
 repeat refine ⟨by first | omega | (simp; done) | (unfold maxLen; omega) | (simp [maxLen]; omega) | assumption, ?_⟩
 refine hk _ ?_; clear hk k
 refine awp_seq fun k1 h1 => ?_
 refine awp_le (le_keep [0, 1, 4, 5]) ?_
 simp only [kp, argSl, simprocAttr]
 refine awp_own' 5 1 rfl ?_
 refine awp_sr [32] (by rw [hC]; rfl) fun k hk => ?_
 simp (maxSteps := 9^9) (disch := (try simp only [lens]); omega) only [argSl, sm, ↓amb, mark_eq, simprocAttr, el22, wr_u32, dx]
 repeat refine ⟨by first | omega | (simp; done) | (unfold maxLen; omega) | (simp [maxLen]; omega) | assumption, ?_⟩
 refine hk _ ?_; clear hk k
 refine awp_block ?_
 refine awp_loop (σ := Nat) (fun i => i ≤ l.length) (fun (i : Nat) => ⟨[(0, (.p (words c l))), (1, (.p (u32V x))), (5, (.own 0)), (9, (.p (words c l))), (10, (.p (iV l.length))), (11, (.p (iV (i : Int))))], [(0, (.row 1 (lift ((Pl.backL l x i).map fun x => [u32V x]))))], 1⟩) (fun i => l.length - i) 0 ?_ ?_ fun i hi => ?_
 ·exact Nat.zero_le _
 ·exact le_of [(0, _)] (by rfl) (by rfl) ⟨⟨_, rfl, .p (.of_eq (by first | rfl | (simp only [PV.lit.injEq, Value.int.injEq, true_and]; omega) | (simp; done) | (simp; omega)))⟩, ⟨_, rfl, .p (.of_eq (by first | rfl | (simp only [PV.lit.injEq, Value.int.injEq, true_and]; omega) | (simp; done) | (simp; omega)))⟩, ⟨_, rfl, .own rfl⟩, ⟨_, rfl, .p (.of_eq (by first | rfl | (simp only [PV.lit.injEq, Value.int.injEq, true_and]; omega) | (simp; done) | (simp; omega)))⟩, ⟨_, rfl, .p (.of_eq (by first | rfl | (simp only [PV.lit.injEq, Value.int.injEq, true_and]; omega) | (simp; done) | (simp; omega)))⟩, ⟨_, rfl, .p (.of_eq (by first | rfl | (simp only [PV.lit.injEq, Value.int.injEq, true_and]; omega) | (simp; done) | (simp; omega)))⟩, trivial⟩ ⟨⟨_, rfl, _, rfl, .liftE (by first | rfl | (rw [Pl.backL_snoc, List.map_append]; first | (rw [if_pos (by omega)]; done) | (rw [if_neg (by omega)]; done) | (rw [if_pos (by omega)]; rfl) | (rw [if_neg (by omega)]; rfl)) | trace_state)⟩, trivial⟩
 refine awp_le (le_keep [0, 1, 4, 5, 9, 10, 11]) ?_
 simp only [kp, argSl, simprocAttr]
 refine awp_sr [32] (by rw [hC]; rfl) fun k hk => ?_
 simp (maxSteps := 9^9) (disch := (try simp only [lens]); omega) only [argSl, sm, ↓amb, mark_eq, simprocAttr, wr_u32, dx]
 repeat refine ⟨by first | omega | (simp; done) | (unfold maxLen; omega) | (simp [maxLen]; omega) | assumption, ?_⟩
 refine hk _ ?_; clear hk k
 refine awp_seq fun k3 h3 => ?_
 refine awp_cond rfl (fun hb => ?_) (fun hb => ?_)
 ·try simp only [hbx] at hb
  refine awp_skip ?_
  refine h3 _ ?_; clear h3 k3
  refine awp_seq fun k4 h4 => ?_
  refine awp_block ?_
  refine awp_le (le_keep [0, 1, 4, 5, 9, 10, 11]) ?_
  simp only [kp, argSl, simprocAttr]
  refine awp_sr [32] (by rw [hC]; rfl) fun k hk => ?_
  simp (maxSteps := 9^9) (disch := (try simp only [lens]); omega) only [argSl, sm, ↓amb, mark_eq, simprocAttr, el22, sz28, wr_u32, dx]
  repeat refine ⟨by first | omega | (simp; done) | (unfold maxLen; omega) | (simp [maxLen]; omega) | assumption, ?_⟩
  refine hk _ ?_; clear hk k
  refine awp_le (le_keep [0, 1, 4, 5, 6, 7, 9, 10, 11]) ?_
  simp only [kp, argSl, simprocAttr]
  refine awp_sr [32] (by rw [hC]; rfl) fun k hk => ?_
  simp (maxSteps := 9^9) (disch := (try simp only [lens]); omega) only [argSl, sm, ↓amb, mark_eq, simprocAttr, wr_u32, dx]
  repeat refine ⟨by first | omega | (simp; done) | (unfold maxLen; omega) | (simp [maxLen]; omega) | assumption, ?_⟩
  refine hk _ ?_; clear hk k
  refine awp_seq fun k5 h5 => ?_
  refine awp_le (le_keep [0, 1, 4, 5, 6, 7, 8, 9, 10, 11]) ?_
  simp only [kp, argSl, simprocAttr]
  have hln := Pl.backL_len l x i
  refine awp_sr [32] (by rw [hC]; rfl) fun k hk => ?_
  simp (maxSteps := 9^9) (disch := (try simp only [lens]); omega) only [argSl, sm, ↓amb, mark_eq, simprocAttr, el22, wr_u32, dx]
  repeat refine ⟨by first | omega | (simp; done) | (unfold maxLen; omega) | (simp [maxLen]; omega) | assumption, ?_⟩
  refine hk _ ?_; clear hk k
  refine awp_cond rfl (fun hb => ?_) (fun hb => ?_)
  ·try simp only [hbx] at hb
   refine awp_region [32] (by rw [hC]; rfl) fun k hk => ?_
   simp (maxSteps := 9^9) (disch := (try simp only [lens]); omega) only [argSl, sm, ↓amb, mark_eq, simprocAttr, el22, sz28, wr_u32, dx]
   repeat refine ⟨by first | omega | (simp; done) | (unfold maxLen; omega) | (simp [maxLen]; omega) | assumption, ?_⟩
   refine hk _ ?_; clear hk k
   refine h5 _ ?_; clear h5 k5
   refine awp_region [32] (by rw [hC]; rfl) fun k hk => ?_
   simp (maxSteps := 9^9) (disch := (try simp only [lens]); omega) only [argSl, sm, ↓amb, mark_eq, simprocAttr, el22, vr28, by28, wr_u32, dx]
   repeat refine ⟨by first | omega | (simp; done) | (unfold maxLen; omega) | (simp [maxLen]; omega) | assumption, ?_⟩
   refine hk _ ?_; clear hk k
   refine h4 _ ?_; clear h4 k4
   refine awp_region [32] (by rw [hC]; rfl) fun k hk => ?_
   simp (maxSteps := 9^9) (disch := (try simp only [lens]); omega) only [argSl, sm, ↓amb, mark_eq, simprocAttr, wr_u32, dx]
   repeat refine ⟨by first | omega | (simp; done) | (unfold maxLen; omega) | (simp [maxLen]; omega) | assumption, ?_⟩
   refine hk _ ?_; clear hk k
   refine ⟨i + 1, by omega, le_of [(0, _)] (by rfl) (by rfl) ⟨⟨_, rfl, .p (.of_eq (by first | rfl | (simp only [PV.lit.injEq, Value.int.injEq, true_and]; omega) | (simp; done) | (simp; omega)))⟩, ⟨_, rfl, .p (.of_eq (by first | rfl | (simp only [PV.lit.injEq, Value.int.injEq, true_and]; omega) | (simp; done) | (simp; omega)))⟩, ⟨_, rfl, .own rfl⟩, ⟨_, rfl, .p (.of_eq (by first | rfl | (simp only [PV.lit.injEq, Value.int.injEq, true_and]; omega) | (simp; done) | (simp; omega)))⟩, ⟨_, rfl, .p (.of_eq (by first | rfl | (simp only [PV.lit.injEq, Value.int.injEq, true_and]; omega) | (simp; done) | (simp; omega)))⟩, ⟨_, rfl, .p (.of_eq (by first | rfl | (simp only [PV.lit.injEq, Value.int.injEq, true_and]; omega) | (simp; done) | (simp; omega)))⟩, trivial⟩ ⟨⟨_, rfl, _, rfl, .liftE (by first | rfl | (rw [Pl.backL_snoc, List.map_append]; first | (rw [if_pos (by omega)]; done) | (rw [if_neg (by omega)]; done) | (rw [if_pos (by omega)]; rfl) | (rw [if_neg (by omega)]; rfl)) | trace_state)⟩, trivial⟩, by omega⟩
  ·try simp only [hbx] at hb
   refine awp_skip ?_
   refine h5 _ ?_; clear h5 k5
   refine awp_region [32] (by rw [hC]; rfl) fun k hk => ?_
   simp (maxSteps := 9^9) (disch := (try simp only [lens]); omega) only [argSl, sm, ↓amb, mark_eq, simprocAttr, el22, vr28, by28, wr_u32, dx]
   repeat refine ⟨by first | omega | (simp; done) | (unfold maxLen; omega) | (simp [maxLen]; omega) | assumption, ?_⟩
   refine hk _ ?_; clear hk k
   refine h4 _ ?_; clear h4 k4
   refine awp_region [32] (by rw [hC]; rfl) fun k hk => ?_
   simp (maxSteps := 9^9) (disch := (try simp only [lens]); omega) only [argSl, sm, ↓amb, mark_eq, simprocAttr, wr_u32, dx]
   repeat refine ⟨by first | omega | (simp; done) | (unfold maxLen; omega) | (simp [maxLen]; omega) | assumption, ?_⟩
   refine hk _ ?_; clear hk k
   refine ⟨i + 1, by omega, le_of [(0, _)] (by rfl) (by rfl) ⟨⟨_, rfl, .p (.of_eq (by first | rfl | (simp only [PV.lit.injEq, Value.int.injEq, true_and]; omega) | (simp; done) | (simp; omega)))⟩, ⟨_, rfl, .p (.of_eq (by first | rfl | (simp only [PV.lit.injEq, Value.int.injEq, true_and]; omega) | (simp; done) | (simp; omega)))⟩, ⟨_, rfl, .own rfl⟩, ⟨_, rfl, .p (.of_eq (by first | rfl | (simp only [PV.lit.injEq, Value.int.injEq, true_and]; omega) | (simp; done) | (simp; omega)))⟩, ⟨_, rfl, .p (.of_eq (by first | rfl | (simp only [PV.lit.injEq, Value.int.injEq, true_and]; omega) | (simp; done) | (simp; omega)))⟩, ⟨_, rfl, .p (.of_eq (by first | rfl | (simp only [PV.lit.injEq, Value.int.injEq, true_and]; omega) | (simp; done) | (simp; omega)))⟩, trivial⟩ ⟨⟨_, rfl, _, rfl, .liftE (by first | rfl | (rw [Pl.backL_snoc, List.map_append]; first | (rw [if_pos (by omega)]; done) | (rw [if_neg (by omega)]; done) | (rw [if_pos (by omega)]; rfl) | (rw [if_neg (by omega)]; rfl)) | trace_state)⟩, trivial⟩, by omega⟩
 ·try simp only [hbx] at hb
  refine awp_exit ((if_pos rfl).mpr ?_)
  refine h1 _ ?_; clear h3 k3; clear h1 k1
  refine awp_le (le_keep [5]) ?_
  simp only [kp, argSl, simprocAttr]
  obtain rfl : i = l.length := by omega
  refine awp_sr [32] (by rw [hC]; rfl) fun k hk => ?_
  simp (maxSteps := 9^9) (disch := (try simp only [lens]); omega) only [argSl, sm, ↓amb, mark_eq, simprocAttr, wr_u32, dx]
  repeat refine ⟨by first | omega | (simp; done) | (unfold maxLen; omega) | (simp [maxLen]; omega) | assumption, ?_⟩
  refine hk _ ?_; clear hk k
  refine awp_ret ?_
  refine ret1 rfl rfl ?_
  exact .ownE rfl rfl
end Go.Proofs.Ythelnccjcbnjfaa
end
section
set_option linter.unusedSimpArgs false
set_option linter.unusedVariables false
set_option maxRecDepth 100000
namespace Go.Proofs.Ythelnccjcbnjfaa
open Go.Am Go.Proofs
set_option maxHeartbeats 4000000 in
theorem c_phases_o (c d : Bool) (l : List Int) (b : Int) (p : Pl.Plan) (hl : ∀ x, x ∈ l → Pl.W32 x) (F : FuncId) (hen : enters Try.prog F = true) (f : Int → Int → Int) (hf : Pl.Rule f) (hF : ∀ a b : Int, Pl.W32 a → Pl.W32 b → PCall Try.prog F [u32V a, u32V b] (u32V (f a b))) (hse0 : Pl.scE l.length b p = 0) : HCall Try.prog 63 [.p (words c l), .p (iV b), .p (.agg (planC d p)), .fn F []] [] (.tup [.own 0, .p (u32V (Pl.scT f l b p)), .p (iV (Pl.scS l.length b p)), .p (iV (Pl.scE l.length b p))]) [(0, (.row 1 (lift ((Pl.aheadF f l).map fun x => [u32V x]))))] := by
 refine hcall_of_awp Try.func63 rfl (by simp [Try.ntmps63]) fun C hC => ?_
 refine awp_le (le_keep [0, 1, 2, 3]) ?_
 simp only [kp, argSl, simprocAttr]
 refine awp_sr [] (by rw [hC]; rfl) fun k hk => ?_
 simp (maxSteps := 9^9) (disch := (try simp only [lens]); omega) only [argSl, sm, ↓amb, mark_eq, simprocAttr, hen, dx]
 repeat refine ⟨by first | omega | (simp; done) | (unfold maxLen; omega) | (simp [maxLen]; omega) | assumption, ?_⟩
 refine hk _ ?_; clear hk k
 refine awp_seq fun k1 h1 => ?_
 refine awp_test [] 31 (decide (¬ ((1 ≤ b ∧ b ≤ 100) ∧ l.length ≤ 1000))) [0, 1, 3, 6, 8, 9, 10, 11] (by rw [hC]; rfl) (fun gd hgd k hk => ?_) ?_
 ·have g3 : gd 3 = some 27 := by rw [hgd]; rfl
  clear hgd
  simp (maxSteps := 9^9) (disch := (try simp only [lens]); omega) only [argSl, sm, ↓amb, mark_eq, simprocAttr, en69, el22, gcase_undef, g3, hen, dx]
  repeat' first | refine hk _ _ rfl rfl rfl rfl ?_ | (refine gsplit (fun hg => ?_) (fun hg => ?_) <;> (try simp only [hbx] at hg) <;> simp (maxSteps := 9^9) (disch := (try simp only [lens]); omega) only [argSl, sm, ↓amb, mark_eq, simprocAttr, en69, el22, gcase_undef, g3, hen, dx]) | apply And.intro | (refine callK_p (c_scan_sized _) rfl ?_; (try simp (maxSteps := 9^9) (disch := (try simp only [lens]); omega) only [argSl, sm, ↓amb, mark_eq, simprocAttr, en69, el22, gcase_undef, g3, hen, dx])) | fail
  all_goals first | rfl | omega | exact (decide_eq_true (by omega)).symm | exact (decide_eq_false (by omega)).symm | exact decide_eq_decide.mpr (by omega) | (refine Bool.eq_iff_iff.mpr ?_; simp only [beq_iff_eq, bne_iff_ne, ne_eq, decide_eq_true_eq]; omega) | (refine Bool.eq_iff_iff.mpr ?_; simp only [Bool.not_eq_true', Bool.not_eq_false', decide_eq_false_iff_not, decide_eq_true_eq, beq_iff_eq, bne_iff_ne, ne_eq]; omega) | assumption | (simp; done) | (simp [maxLen]; omega) | skip
 simp only [kp, argSl, simprocAttr, List.length_cons, List.length_nil]
 refine awp_cond rfl (fun hb => ?_) (fun hb => ?_)
 ·try simp only [hbx] at hb
  refine awp_le (le_keep []) ?_
  simp only [kp, argSl, simprocAttr]
  refine awp_sr [] (by rw [hC]; rfl) fun k hk => ?_
  simp (maxSteps := 9^9) (disch := (try simp only [lens]); omega) only [argSl, sm, ↓amb, mark_eq, simprocAttr, hen, dx]
  repeat refine ⟨by first | omega | (simp; done) | (unfold maxLen; omega) | (simp [maxLen]; omega) | assumption, ?_⟩
  refine hk _ ?_; clear hk k
  refine awp_ret ?_
  have hse : ¬ Pl.scE l.length b p = 0 := by unfold Pl.scE; rw [if_neg (by first | exact hb | simpa using hb)]; decide
  exact absurd hse0 hse
 ·try simp only [hbx] at hb
  refine awp_skip ?_
  refine h1 _ ?_; clear h1 k1
  refine awp_le (le_keep [0, 1, 3, 6]) ?_
  simp only [kp, argSl, simprocAttr]
  have hq : (1 ≤ b ∧ b ≤ 100) ∧ l.length ≤ 1000 := by first | exact hb | exact Decidable.not_not.1 hb
  obtain ⟨B, rfl⟩ := Int.eq_ofNat_of_zero_le (show 0 ≤ b by omega)
  have hB : 1 ≤ B ∧ B ≤ 100 := by omega
  have hn := hq.2
  refine awp_sr [] (by rw [hC]; rfl) fun k hk => ?_
  simp (maxSteps := 9^9) (disch := (try simp only [lens]); omega) only [argSl, sm, ↓amb, mark_eq, simprocAttr, el22, en39, hen, dx]
  repeat refine ⟨by first | omega | (simp; done) | (unfold maxLen; omega) | (simp [maxLen]; omega) | assumption, ?_⟩
  refine callK_p (c_scan_Blocks _ _) rfl ?_
  simp (maxSteps := 9^9) (disch := (try simp only [lens]); omega) only [argSl, sm, ↓amb, mark_eq, simprocAttr, el22, en39, hen, dx]
  repeat refine ⟨by first | omega | (simp; done) | (unfold maxLen; omega) | (simp [maxLen]; omega) | assumption, ?_⟩
  refine hk _ ?_; clear hk k
  refine awp_le (le_keep [0, 1, 3, 6, 12]) ?_
  simp only [kp, argSl, simprocAttr]
  rw [Pl.blk_nat hB hn]
  have hNu := Pl.blkN_up hB hn
  refine awp_sr [] (by rw [hC]; rfl) fun k hk => ?_
  simp (maxSteps := 9^9) (disch := (try simp only [lens]); omega) only [argSl, sm, ↓amb, mark_eq, simprocAttr, sz26, en18, hen, dx]
  repeat refine ⟨by first | omega | (simp; done) | (unfold maxLen; omega) | (simp [maxLen]; omega) | assumption, ?_⟩
  refine callK_p (c_fill_Order _ _ p) rfl ?_
  simp (maxSteps := 9^9) (disch := (try simp only [lens]); omega) only [argSl, sm, ↓amb, mark_eq, simprocAttr, sz26, en18, hen, dx]
  repeat refine ⟨by first | omega | (simp; done) | (unfold maxLen; omega) | (simp [maxLen]; omega) | assumption, ?_⟩
  refine hk _ ?_; clear hk k
  refine awp_seq fun k2 h2 => ?_
  refine awp_le (le_keep [0, 1, 3, 8, 9, 10, 11, 12, 13]) ?_
  simp only [kp, argSl, simprocAttr]
  refine awp_sr [] (by rw [hC]; rfl) fun k hk => ?_
  simp (maxSteps := 9^9) (disch := (try simp only [lens]); omega) only [argSl, sm, ↓amb, mark_eq, simprocAttr, hen, dx]
  repeat refine ⟨by first | omega | (simp; done) | (unfold maxLen; omega) | (simp [maxLen]; omega) | assumption, ?_⟩
  refine hk _ ?_; clear hk k
  refine awp_cond rfl (fun hb => ?_) (fun hb => ?_)
  ·try simp only [hbx] at hb
   refine awp_le (le_keep [11]) ?_
   simp only [kp, argSl, simprocAttr]
   have hse : ¬ Pl.scE l.length B p = 0 := by unfold Pl.scE; rw [if_pos hq, Pl.blk_nat hB hn]; exact hb
   refine awp_sr [] (by rw [hC]; rfl) fun k hk => ?_
   simp (maxSteps := 9^9) (disch := (try simp only [lens]); omega) only [argSl, sm, ↓amb, mark_eq, simprocAttr, hen, dx]
   repeat refine ⟨by first | omega | (simp; done) | (unfold maxLen; omega) | (simp [maxLen]; omega) | assumption, ?_⟩
   refine hk _ ?_; clear hk k
   refine awp_ret ?_
   exact absurd hse0 hse
  ·try simp only [hbx] at hb
   refine awp_skip ?_
   refine h2 _ ?_; clear h2 k2
   refine awp_le (le_keep [0, 1, 3, 10, 12, 13]) ?_
   simp only [kp, argSl, simprocAttr]
   have hse : Pl.scE l.length B p = 0 := by unfold Pl.scE; rw [if_pos hq, Pl.blk_nat hB hn]; exact hb
   have hoo := Pl.ordE_iff.1 hb
   have hU : ∀ u, u ∈ (Pl.ordU (Pl.blkN l.length B : Nat) p) → 0 ≤ u ∧ u < ((Pl.blkN l.length B) : Nat) := fun u h => ((Pl.ordU_ok hoo).2.1 u).1 h
   have hUl := (Pl.ordU_ok hoo).2.2
   have hos := (Pl.ord_steps hoo).2.2.2.2.2
   have hos2 : 0 ≤ Pl.ordS (Pl.blkN l.length B : Nat) p := by have := Pl.ord_steps hoo; omega
   refine awp_sr [] (by rw [hC]; rfl) fun k hk => ?_
   simp (maxSteps := 9^9) (disch := (try simp only [lens]); omega) only [argSl, sm, ↓amb, mark_eq, simprocAttr, el22, by28, vr28, hen, dx]
   repeat refine ⟨by first | omega | (simp; done) | (unfold maxLen; omega) | (simp [maxLen]; omega) | assumption, ?_⟩
   refine hk _ ?_; clear hk k
   refine awp_seq fun k3 h3 => ?_
   refine awp_le (le_keep [0, 1, 3, 8, 9, 10, 11, 13, 14]) ?_
   simp only [kp, argSl, simprocAttr]
   refine awp_sr [] (by rw [hC]; rfl) fun k hk => ?_
   simp (maxSteps := 9^9) (disch := (try simp only [lens]); omega) only [argSl, sm, ↓amb, mark_eq, simprocAttr, el32, hen, dx]
   repeat refine ⟨by first | omega | (simp; done) | (unfold maxLen; omega) | (simp [maxLen]; omega) | assumption, ?_⟩
   refine hk _ ?_; clear hk k
   refine awp_block ?_
   refine awp_loop (σ := Nat) (fun z => z ≤ (Pl.ordU (Pl.blkN l.length B : Nat) p).length) (fun (z : Nat) => ⟨[(0, (.p (words c l))), (1, (.p (iV B))), (3, (.fn F [])), (10, (.p (iV (Pl.ordS (Pl.blkN l.length B) p)))), (13, (.p (ints false (Pl.ordU (Pl.blkN l.length B : Nat) p)))), (14, (.own 0)), (48, (.p (ints false (Pl.ordU (Pl.blkN l.length B : Nat) p)))), (49, (.p (iV (Pl.ordU (Pl.blkN l.length B : Nat) p).length))), (50, (.p (iV (z : Int))))], [(0, (.row 1 (lift ((Pl.fillL (Pl.blkN l.length B) ((Pl.ordU (Pl.blkN l.length B : Nat) p).take z) (fun j => Pl.allF f (Pl.part l B j))).map fun x => [u32V x]))))], 1⟩) (fun z => (Pl.ordU (Pl.blkN l.length B : Nat) p).length - z) 0 ?_ ?_ fun z hz => ?_
   ·exact Nat.zero_le _
   ·exact le_of [(0, _)] (by rfl) (by rfl) ⟨⟨_, rfl, .p (.of_eq (by first | rfl | (simp only [PV.lit.injEq, Value.int.injEq, true_and]; omega) | (simp; done) | (simp; omega)))⟩, ⟨_, rfl, .p (.of_eq (by first | rfl | (simp only [PV.lit.injEq, Value.int.injEq, true_and]; omega) | (simp; done) | (simp; omega)))⟩, ⟨_, rfl, .fn rfl LeRow.nil.2⟩, ⟨_, rfl, .p (.of_eq (by first | rfl | (simp only [PV.lit.injEq, Value.int.injEq, true_and]; omega) | (simp; done) | (simp; omega)))⟩, ⟨_, rfl, .p (.of_eq (by first | rfl | (simp only [PV.lit.injEq, Value.int.injEq, true_and]; omega) | (simp; done) | (simp; omega)))⟩, ⟨_, rfl, .own rfl⟩, ⟨_, rfl, .p (.of_eq (by first | rfl | (simp only [PV.lit.injEq, Value.int.injEq, true_and]; omega) | (simp; done) | (simp; omega)))⟩, ⟨_, rfl, .p (.of_eq (by first | rfl | (simp only [PV.lit.injEq, Value.int.injEq, true_and]; omega) | (simp; done) | (simp; omega)))⟩, ⟨_, rfl, .p (.of_eq (by first | rfl | (simp only [PV.lit.injEq, Value.int.injEq, true_and]; omega) | (simp; done) | (simp; omega)))⟩, trivial⟩ ⟨⟨_, rfl, _, rfl, .liftE (by first | (rw [List.take_zero, Pl.fillL_nil, List.map_replicate]; done) | (rw [Pl.take_snoc' (Pl.ordU (Pl.blkN l.length B : Nat) p) z (by omega), hu, ← Pl.fillL_set (i := (u : Int)) (Int.natCast_nonneg u) (x := Pl.allF f (Pl.part l B u)) rfl, Int.toNat_natCast, List.map_set]; first | done | rfl) | trace_state)⟩, trivial⟩
   refine awp_le (le_keep [0, 1, 3, 8, 9, 10, 11, 13, 14, 48, 49, 50]) ?_
   simp only [kp, argSl, simprocAttr]
   refine awp_sr [] (by rw [hC]; rfl) fun k hk => ?_
   simp (maxSteps := 9^9) (disch := (try simp only [lens]); omega) only [argSl, sm, ↓amb, mark_eq, simprocAttr, hen, dx]
   repeat refine ⟨by first | omega | (simp; done) | (unfold maxLen; omega) | (simp [maxLen]; omega) | assumption, ?_⟩
   refine hk _ ?_; clear hk k
   refine awp_seq fun k5 h5 => ?_
   refine awp_cond rfl (fun hb => ?_) (fun hb => ?_)
   ·try simp only [hbx] at hb
    refine awp_skip ?_
    refine h5 _ ?_; clear h5 k5
    refine awp_seq fun k6 h6 => ?_
    refine awp_block ?_
    refine awp_le (le_keep [0, 1, 3, 8, 9, 10, 11, 13, 14, 48, 49, 50]) ?_
    simp only [kp, argSl, simprocAttr]
    refine awp_sr [] (by rw [hC]; rfl) fun k hk => ?_
    simp (maxSteps := 9^9) (disch := (try simp only [lens]); omega) only [argSl, sm, ↓amb, mark_eq, simprocAttr, el32, sz3, hen, dx]
    repeat refine ⟨by first | omega | (simp; done) | (unfold maxLen; omega) | (simp [maxLen]; omega) | assumption, ?_⟩
    refine hk _ ?_; clear hk k
    obtain ⟨u, hu⟩ := Int.eq_ofNat_of_zero_le (hU ((Pl.ordU (Pl.blkN l.length B : Nat) p).getD z 0) (Pl.getD_mem (Pl.ordU (Pl.blkN l.length B : Nat) p) z 0 (by omega))).1
    have hu2 := hU ((Pl.ordU (Pl.blkN l.length B : Nat) p).getD z 0) (Pl.getD_mem (Pl.ordU (Pl.blkN l.length B : Nat) p) z 0 (by omega))
    rw [hu] at hu2
    obtain ⟨u1, u2, u3⟩ := Pl.blk_at hB hn (show u < (Pl.blkN l.length B) by omega)
    rw [hu]
    have hfl := Pl.fillL_len (Pl.blkN l.length B) ((Pl.ordU (Pl.blkN l.length B : Nat) p).take z) (fun j => Pl.allF f (Pl.part l B j))
    refine awp_region [] (by rw [hC]; rfl) fun k hk => ?_
    simp (maxSteps := 9^9) (disch := (try simp only [lens]); omega) only [argSl, sm, ↓amb, mark_eq, simprocAttr, en82, en81, el22, sz28, hen, dx]
    repeat refine ⟨by first | omega | (simp; done) | (unfold maxLen; omega) | (simp [maxLen]; omega) | assumption, ?_⟩
    refine callK_p (c_scan_part c l u B (by omega) (by omega) (by omega) hn) rfl ?_
    simp (maxSteps := 9^9) (disch := (try simp only [lens]); omega) only [argSl, sm, ↓amb, mark_eq, simprocAttr, en82, en81, el22, sz28, hen, dx]
    repeat refine ⟨by first | omega | (simp; done) | (unfold maxLen; omega) | (simp [maxLen]; omega) | assumption, ?_⟩
    refine callK_h (c_scan_ahead false (Pl.part l B u) (Pl.part_w hl) (by rw [Pl.part_len]; omega) F hen f hf hF) [] [] (by first | rfl | (simp only [hm]; done)) (by first | rfl | (simp [namesOk, lkp]; done)) ?_ ?_ ?_ ?_ ?_ ?_ ?_
    (iterate 6 (focus (first | trivial | (intro n hn; cases hn; done) | (simp (maxSteps := 9^9) (disch := (try simp only [lens]); omega) only [argSl, sm, ↓amb, mark_eq, simprocAttr, en82, en81, el22, sz28, hen, dx, hmx, List.filter_cons, Nat.reduceBNe, imp_self, implies_true]; done))))
    simp (maxSteps := 9^9) (disch := (try simp only [lens]); omega) only [argSl, sm, ↓amb, mark_eq, simprocAttr, en82, en81, el22, sz28, hen, dx, hm, List.filter_cons, List.filter_nil, Nat.reduceBNe, Option.map_none]
    repeat refine ⟨by first | omega | (simp; done) | (unfold maxLen; omega) | (simp [maxLen]; omega) | assumption, ?_⟩
    refine hk _ ?_; clear hk k
    refine h6 _ ?_; clear h6 k6
    refine awp_region [] (by rw [hC]; rfl) fun k hk => ?_
    simp (maxSteps := 9^9) (disch := (try simp only [lens]); omega) only [argSl, sm, ↓amb, mark_eq, simprocAttr, hen, dx]
    repeat refine ⟨by first | omega | (simp; done) | (unfold maxLen; omega) | (simp [maxLen]; omega) | assumption, ?_⟩
    refine hk _ ?_; clear hk k
    refine ⟨z + 1, by omega, le_of [(0, _)] (by rfl) (by rfl) ⟨⟨_, rfl, .p (.of_eq (by first | rfl | (simp only [PV.lit.injEq, Value.int.injEq, true_and]; omega) | (simp; done) | (simp; omega)))⟩, ⟨_, rfl, .p (.of_eq (by first | rfl | (simp only [PV.lit.injEq, Value.int.injEq, true_and]; omega) | (simp; done) | (simp; omega)))⟩, ⟨_, rfl, .fn rfl LeRow.nil.2⟩, ⟨_, rfl, .p (.of_eq (by first | rfl | (simp only [PV.lit.injEq, Value.int.injEq, true_and]; omega) | (simp; done) | (simp; omega)))⟩, ⟨_, rfl, .p (.of_eq (by first | rfl | (simp only [PV.lit.injEq, Value.int.injEq, true_and]; omega) | (simp; done) | (simp; omega)))⟩, ⟨_, rfl, .own rfl⟩, ⟨_, rfl, .p (.of_eq (by first | rfl | (simp only [PV.lit.injEq, Value.int.injEq, true_and]; omega) | (simp; done) | (simp; omega)))⟩, ⟨_, rfl, .p (.of_eq (by first | rfl | (simp only [PV.lit.injEq, Value.int.injEq, true_and]; omega) | (simp; done) | (simp; omega)))⟩, ⟨_, rfl, .p (.of_eq (by first | rfl | (simp only [PV.lit.injEq, Value.int.injEq, true_and]; omega) | (simp; done) | (simp; omega)))⟩, trivial⟩ ⟨⟨_, rfl, _, rfl, .liftE (by first | (rw [List.take_zero, Pl.fillL_nil, List.map_replicate]; done) | (rw [Pl.take_snoc' (Pl.ordU (Pl.blkN l.length B : Nat) p) z (by omega), hu, ← Pl.fillL_set (i := (u : Int)) (Int.natCast_nonneg u) (x := Pl.allF f (Pl.part l B u)) rfl, Int.toNat_natCast, List.map_set]; first | done | rfl) | trace_state)⟩, trivial⟩, by omega⟩
   ·try simp only [hbx] at hb
    refine awp_exit ((if_pos rfl).mpr ?_)
    refine h3 _ ?_; clear h5 k5; clear h3 k3
    refine awp_le (le_keep [0, 1, 3, 10, 13, 14]) ?_
    simp only [kp, argSl, simprocAttr]
    have htk : (Pl.ordU (Pl.blkN l.length B : Nat) p).take z = (Pl.ordU (Pl.blkN l.length B : Nat) p) := List.take_of_length_le (by omega)
    refine awp_le (show LE _ (⟨[(0, (.p (words c l))), (1, (.p (iV B))), (3, (.fn F [])), (10, (.p (iV (Pl.ordS (Pl.blkN l.length B) p)))), (13, (.p (ints false (Pl.ordU (Pl.blkN l.length B : Nat) p)))), (14, (.p (words false (Pl.totF f l B (Pl.blkN l.length B)))))], [], 1⟩ : LS) from le_of [] (by rfl) (by rfl) ⟨⟨_, rfl, .p (.of_eq (by first | rfl | (simp only [PV.lit.injEq, Value.int.injEq, true_and]; omega) | (simp; done) | (simp; omega)))⟩, ⟨_, rfl, .p (.of_eq (by first | rfl | (simp only [PV.lit.injEq, Value.int.injEq, true_and]; omega) | (simp; done) | (simp; omega)))⟩, ⟨_, rfl, .fn rfl LeRow.nil.2⟩, ⟨_, rfl, .p (.of_eq (by first | rfl | (simp only [PV.lit.injEq, Value.int.injEq, true_and]; omega) | (simp; done) | (simp; omega)))⟩, ⟨_, rfl, .p (.of_eq (by first | rfl | (simp only [PV.lit.injEq, Value.int.injEq, true_and]; omega) | (simp; done) | (simp; omega)))⟩, ⟨_, rfl, .frz (es := (Pl.totF f l B (Pl.blkN l.length B)).map fun x => [u32V x]) (by rw [htk, Pl.fill_ord hoo]; rfl) (by rfl)⟩, trivial⟩ trivial) ?_
    refine awp_sr [] (by rw [hC]; rfl) fun k hk => ?_
    simp (maxSteps := 9^9) (disch := (try simp only [lens]); omega) only [argSl, sm, ↓amb, mark_eq, simprocAttr, en81, hen, dx]
    repeat refine ⟨by first | omega | (simp; done) | (unfold maxLen; omega) | (simp [maxLen]; omega) | assumption, ?_⟩
    refine callK_h (c_scan_ahead false (Pl.totF f l B (Pl.blkN l.length B)) (Pl.totF_w hf hl B (Pl.blkN l.length B)) (by rw [Pl.totF_len]; omega) F hen f hf hF) [] [] (by first | rfl | (simp only [hm]; done)) (by first | rfl | (simp [namesOk, lkp]; done)) ?_ ?_ ?_ ?_ ?_ ?_ ?_
    (iterate 6 (focus (first | trivial | (intro n hn; cases hn; done) | (simp (maxSteps := 9^9) (disch := (try simp only [lens]); omega) only [argSl, sm, ↓amb, mark_eq, simprocAttr, en81, hen, dx, hmx, List.filter_cons, Nat.reduceBNe, imp_self, implies_true]; done))))
    simp (maxSteps := 9^9) (disch := (try simp only [lens]); omega) only [argSl, sm, ↓amb, mark_eq, simprocAttr, en81, hen, dx, hm, List.filter_cons, List.filter_nil, Nat.reduceBNe, Option.map_none]
    repeat refine ⟨by first | omega | (simp; done) | (unfold maxLen; omega) | (simp [maxLen]; omega) | assumption, ?_⟩
    refine hk _ ?_; clear hk k
    refine awp_le (le_keep [0, 1, 3, 9, 10, 13, 17]) ?_
    simp only [kp, argSl, simprocAttr]
    refine awp_sr [] (by rw [hC]; rfl) fun k hk => ?_
    simp (maxSteps := 9^9) (disch := (try simp only [lens]); omega) only [argSl, sm, ↓amb, mark_eq, simprocAttr, el22, by28, vr28, hen, dx]
    repeat refine ⟨by first | omega | (simp; done) | (unfold maxLen; omega) | (simp [maxLen]; omega) | assumption, ?_⟩
    refine hk _ ?_; clear hk k
    refine awp_seq fun k7 h7 => ?_
    refine awp_le (le_keep [0, 1, 3, 8, 9, 10, 11, 13, 17]) ?_
    simp only [kp, argSl, simprocAttr]
    refine awp_sr [] (by rw [hC]; rfl) fun k hk => ?_
    simp (maxSteps := 9^9) (disch := (try simp only [lens]); omega) only [argSl, sm, ↓amb, mark_eq, simprocAttr, el32, hen, dx]
    repeat refine ⟨by first | omega | (simp; done) | (unfold maxLen; omega) | (simp [maxLen]; omega) | assumption, ?_⟩
    refine hk _ ?_; clear hk k
    refine awp_block ?_
    refine awp_loop (σ := Nat) (fun z => z ≤ (Pl.ordU (Pl.blkN l.length B : Nat) p).length) (fun (z : Nat) => ⟨[(0, (.p (words c l))), (1, (.p (iV B))), (3, (.fn F [])), (8, (.own 0)), (9, (.p (u32V (Pl.allF f l)))), (10, (.p (iV (Pl.ordS (Pl.blkN l.length B) p)))), (17, (.p (words false (Pl.aheadF f (Pl.totF f l B (Pl.blkN l.length B)))))), (76, (.p (ints false (Pl.ordU (Pl.blkN l.length B : Nat) p)))), (77, (.p (iV (Pl.ordU (Pl.blkN l.length B : Nat) p).length))), (78, (.p (iV (z : Int))))], [(0, (.row 1 (lift ((Pl.fillL l.length (((Pl.ordU (Pl.blkN l.length B : Nat) p).take z).flatMap (Pl.blockPl l.length B)) (fun j => Pl.allF f (l.take j))).map fun x => [u32V x]))))], 1⟩) (fun z => (Pl.ordU (Pl.blkN l.length B : Nat) p).length - z) 0 ?_ ?_ fun z hz => ?_
    ·exact Nat.zero_le _
    ·exact le_of [(0, _)] (by rfl) (by rfl) ⟨⟨_, rfl, .p (.of_eq (by first | rfl | (simp only [PV.lit.injEq, Value.int.injEq, true_and]; omega) | (simp; done) | (simp; omega)))⟩, ⟨_, rfl, .p (.of_eq (by first | rfl | (simp only [PV.lit.injEq, Value.int.injEq, true_and]; omega) | (simp; done) | (simp; omega)))⟩, ⟨_, rfl, .fn rfl LeRow.nil.2⟩, ⟨_, rfl, .own rfl⟩, ⟨_, rfl, .p (.of_eq (by first | rfl | rw [Pl.allF_tots hf hl hB.1]))⟩, ⟨_, rfl, .p (.of_eq (by first | rfl | (simp only [PV.lit.injEq, Value.int.injEq, true_and]; omega) | (simp; done) | (simp; omega)))⟩, ⟨_, rfl, .p (.of_eq (by first | rfl | (simp only [PV.lit.injEq, Value.int.injEq, true_and]; omega) | (simp; done) | (simp; omega)))⟩, ⟨_, rfl, .p (.of_eq (by first | rfl | (simp only [PV.lit.injEq, Value.int.injEq, true_and]; omega) | (simp; done) | (simp; omega)))⟩, ⟨_, rfl, .p (.of_eq (by first | rfl | (simp only [PV.lit.injEq, Value.int.injEq, true_and]; omega) | (simp; done) | (simp; omega)))⟩, ⟨_, rfl, .p (.of_eq (by first | rfl | (simp only [PV.lit.injEq, Value.int.injEq, true_and]; omega) | (simp; done) | (simp; omega)))⟩, trivial⟩ ⟨⟨_, rfl, _, rfl, .liftE (by first | (rw [List.take_zero, List.flatMap_nil, Pl.fillL_nil, List.map_replicate]; done) | (rw [Pl.block_snoc (L := (Pl.ordU (Pl.blkN l.length B : Nat) p)) (z := z) (by omega) hu u1, show y = (Pl.part l B u).length by omega]; done) | trace_state)⟩, trivial⟩
    refine awp_le (le_keep [0, 1, 3, 8, 9, 10, 11, 17, 76, 77, 78]) ?_
    simp only [kp, argSl, simprocAttr]
    refine awp_sr [] (by rw [hC]; rfl) fun k hk => ?_
    simp (maxSteps := 9^9) (disch := (try simp only [lens]); omega) only [argSl, sm, ↓amb, mark_eq, simprocAttr, hen, dx]
    repeat refine ⟨by first | omega | (simp; done) | (unfold maxLen; omega) | (simp [maxLen]; omega) | assumption, ?_⟩
    refine hk _ ?_; clear hk k
    refine awp_seq fun k9 h9 => ?_
    refine awp_cond rfl (fun hb => ?_) (fun hb => ?_)
    ·try simp only [hbx] at hb
     refine awp_skip ?_
     refine h9 _ ?_; clear h9 k9
     refine awp_seq fun k10 h10 => ?_
     refine awp_block ?_
     refine awp_le (le_keep [0, 1, 3, 8, 9, 10, 11, 17, 76, 77, 78]) ?_
     simp only [kp, argSl, simprocAttr]
     refine awp_sr [] (by rw [hC]; rfl) fun k hk => ?_
     simp (maxSteps := 9^9) (disch := (try simp only [lens]); omega) only [argSl, sm, ↓amb, mark_eq, simprocAttr, el32, sz3, hen, dx]
     repeat refine ⟨by first | omega | (simp; done) | (unfold maxLen; omega) | (simp [maxLen]; omega) | assumption, ?_⟩
     refine hk _ ?_; clear hk k
     refine awp_le (le_keep [0, 1, 3, 8, 9, 10, 11, 17, 19, 76, 77, 78]) ?_
     simp only [kp, argSl, simprocAttr]
     obtain ⟨u, hu⟩ := Int.eq_ofNat_of_zero_le (hU ((Pl.ordU (Pl.blkN l.length B : Nat) p).getD z 0) (Pl.getD_mem (Pl.ordU (Pl.blkN l.length B : Nat) p) z 0 (by omega))).1
     have hu2 := hU ((Pl.ordU (Pl.blkN l.length B : Nat) p).getD z 0) (Pl.getD_mem (Pl.ordU (Pl.blkN l.length B : Nat) p) z 0 (by omega))
     rw [hu] at hu2
     obtain ⟨u1, u2, u3⟩ := Pl.blk_at hB hn (show u < (Pl.blkN l.length B) by omega)
     rw [hu]
     refine awp_sr [] (by rw [hC]; rfl) fun k hk => ?_
     simp (maxSteps := 9^9) (disch := (try simp only [lens]); omega) only [argSl, sm, ↓amb, mark_eq, simprocAttr, en82, en81, hen, dx]
     repeat refine ⟨by first | omega | (simp; done) | (unfold maxLen; omega) | (simp [maxLen]; omega) | assumption, ?_⟩
     refine callK_p (c_scan_part c l u B (by omega) (by omega) (by omega) hn) rfl ?_
     simp (maxSteps := 9^9) (disch := (try simp only [lens]); omega) only [argSl, sm, ↓amb, mark_eq, simprocAttr, en82, en81, hen, dx]
     repeat refine ⟨by first | omega | (simp; done) | (unfold maxLen; omega) | (simp [maxLen]; omega) | assumption, ?_⟩
     refine callK_h (c_scan_ahead false (Pl.part l B u) (Pl.part_w hl) (by rw [Pl.part_len]; omega) F hen f hf hF) [] [] (by first | rfl | (simp only [hm]; done)) (by first | rfl | (simp [namesOk, lkp]; done)) ?_ ?_ ?_ ?_ ?_ ?_ ?_
     (iterate 6 (focus (first | trivial | (intro n hn; cases hn; done) | (simp (maxSteps := 9^9) (disch := (try simp only [lens]); omega) only [argSl, sm, ↓amb, mark_eq, simprocAttr, en82, en81, hen, dx, hmx, List.filter_cons, Nat.reduceBNe, imp_self, implies_true]; done))))
     simp (maxSteps := 9^9) (disch := (try simp only [lens]); omega) only [argSl, sm, ↓amb, mark_eq, simprocAttr, en82, en81, hen, dx, hm, List.filter_cons, List.filter_nil, Nat.reduceBNe, Option.map_none]
     repeat refine ⟨by first | omega | (simp; done) | (unfold maxLen; omega) | (simp [maxLen]; omega) | assumption, ?_⟩
     refine hk _ ?_; clear hk k
     refine awp_le (le_keep [0, 1, 3, 8, 9, 10, 11, 17, 19, 20, 76, 77, 78]) ?_
     simp only [kp, argSl, simprocAttr]
     refine awp_sr [] (by rw [hC]; rfl) fun k hk => ?_
     simp (maxSteps := 9^9) (disch := (try simp only [lens]); omega) only [argSl, sm, ↓amb, mark_eq, simprocAttr, el22, hen, dx]
     repeat refine ⟨by first | omega | (simp; done) | (unfold maxLen; omega) | (simp [maxLen]; omega) | assumption, ?_⟩
     refine hk _ ?_; clear hk k
     refine awp_block ?_
     refine awp_loop (σ := Nat) (fun y => y ≤ (Pl.part l B u).length) (fun (y : Nat) => ⟨[(0, (.p (words c l))), (1, (.p (iV B))), (3, (.fn F [])), (8, (.own 0)), (9, (.p (u32V (Pl.allF f l)))), (10, (.p (iV (Pl.ordS (Pl.blkN l.length B) p)))), (17, (.p (words false (Pl.aheadF f (Pl.totF f l B (Pl.blkN l.length B)))))), (19, (.p (iV ((u : Nat) : Int)))), (76, (.p (ints false (Pl.ordU (Pl.blkN l.length B : Nat) p)))), (77, (.p (iV (Pl.ordU (Pl.blkN l.length B : Nat) p).length))), (78, (.p (iV (z : Int)))), (91, (.p (words false (Pl.aheadF f (Pl.part l B u))))), (92, (.p (iV (Pl.part l B u).length))), (93, (.p (iV (y : Int))))], [(0, (.row 1 (lift ((Pl.fillL l.length ((((Pl.ordU (Pl.blkN l.length B : Nat) p).take z).flatMap (Pl.blockPl l.length B)) ++ Pl.upto (((u : Nat) : Int) * B) (((u : Nat) : Int) * B + ((y : Nat) : Int))) (fun j => Pl.allF f (l.take j))).map fun x => [u32V x]))))], 1⟩) (fun y => (Pl.part l B u).length - y) 0 ?_ ?_ fun y hy => ?_
     ·exact Nat.zero_le _
     ·exact le_of [(0, _)] (by rfl) (by rfl) ⟨⟨_, rfl, .p (.of_eq (by first | rfl | (simp only [PV.lit.injEq, Value.int.injEq, true_and]; omega) | (simp; done) | (simp; omega)))⟩, ⟨_, rfl, .p (.of_eq (by first | rfl | (simp only [PV.lit.injEq, Value.int.injEq, true_and]; omega) | (simp; done) | (simp; omega)))⟩, ⟨_, rfl, .fn rfl LeRow.nil.2⟩, ⟨_, rfl, .own rfl⟩, ⟨_, rfl, .p (.of_eq (by first | rfl | (simp only [PV.lit.injEq, Value.int.injEq, true_and]; omega) | (simp; done) | (simp; omega)))⟩, ⟨_, rfl, .p (.of_eq (by first | rfl | (simp only [PV.lit.injEq, Value.int.injEq, true_and]; omega) | (simp; done) | (simp; omega)))⟩, ⟨_, rfl, .p (.of_eq (by first | rfl | (simp only [PV.lit.injEq, Value.int.injEq, true_and]; omega) | (simp; done) | (simp; omega)))⟩, ⟨_, rfl, .p (.of_eq (by first | rfl | (simp only [PV.lit.injEq, Value.int.injEq, true_and]; omega) | (simp; done) | (simp; omega)))⟩, ⟨_, rfl, .p (.of_eq (by first | rfl | (simp only [PV.lit.injEq, Value.int.injEq, true_and]; omega) | (simp; done) | (simp; omega)))⟩, ⟨_, rfl, .p (.of_eq (by first | rfl | (simp only [PV.lit.injEq, Value.int.injEq, true_and]; omega) | (simp; done) | (simp; omega)))⟩, ⟨_, rfl, .p (.of_eq (by first | rfl | (simp only [PV.lit.injEq, Value.int.injEq, true_and]; omega) | (simp; done) | (simp; omega)))⟩, ⟨_, rfl, .p (.of_eq (by first | rfl | (simp only [PV.lit.injEq, Value.int.injEq, true_and]; omega) | (simp; done) | (simp; omega)))⟩, ⟨_, rfl, .p (.of_eq (by first | rfl | rw [Pl.aheadF_len]))⟩, ⟨_, rfl, .p (.of_eq (by first | rfl | (simp only [PV.lit.injEq, Value.int.injEq, true_and]; omega) | (simp; done) | (simp; omega)))⟩, trivial⟩ ⟨⟨_, rfl, _, rfl, .liftE (by first | (rw [Pl.upto_nil (by simp), List.append_nil]; done) | (rw [← Pl.upto_snoc, ← List.append_assoc, ← Pl.fillL_set hnn hpl', List.map_set]; first | done | rfl) | trace_state)⟩, trivial⟩
     refine awp_le (le_keep [0, 1, 3, 8, 9, 10, 11, 17, 19, 76, 77, 78, 91, 92, 93]) ?_
     simp only [kp, argSl, simprocAttr]
     refine awp_sr [] (by rw [hC]; rfl) fun k hk => ?_
     simp (maxSteps := 9^9) (disch := (try simp only [lens]); omega) only [argSl, sm, ↓amb, mark_eq, simprocAttr, hen, dx]
     repeat refine ⟨by first | omega | (simp; done) | (unfold maxLen; omega) | (simp [maxLen]; omega) | assumption, ?_⟩
     refine hk _ ?_; clear hk k
     refine awp_seq fun k12 h12 => ?_
     refine awp_cond rfl (fun hb => ?_) (fun hb => ?_)
     ·try simp only [hbx] at hb
      refine awp_skip ?_
      refine h12 _ ?_; clear h12 k12
      refine awp_seq fun k13 h13 => ?_
      refine awp_block ?_
      refine awp_le (le_keep [0, 1, 3, 8, 9, 10, 11, 17, 19, 76, 77, 78, 91, 92, 93]) ?_
      simp only [kp, argSl, simprocAttr]
      have hal := Pl.aheadF_len f (Pl.part l B u)
      refine awp_sr [] (by rw [hC]; rfl) fun k hk => ?_
      simp (maxSteps := 9^9) (disch := (try simp only [lens]); omega) only [argSl, sm, ↓amb, mark_eq, simprocAttr, el22, sz28, hen, dx]
      repeat refine ⟨by first | omega | (simp; done) | (unfold maxLen; omega) | (simp [maxLen]; omega) | assumption, ?_⟩
      refine hk _ ?_; clear hk k
      have hal2 := Pl.aheadF_len f (Pl.totF f l B (Pl.blkN l.length B))
      have hal3 := Pl.totF_len f l B (Pl.blkN l.length B)
      have hfl := Pl.fillL_len l.length ((((Pl.ordU (Pl.blkN l.length B : Nat) p).take z).flatMap (Pl.blockPl l.length B)) ++ Pl.upto (((u : Nat) : Int) * B) (((u : Nat) : Int) * B + ((y : Nat) : Int))) (fun j => Pl.allF f (l.take j))
      obtain ⟨hpl, hpl2⟩ := Pl.ahead_cell hf hl (show u < (Pl.blkN l.length B) by omega) u1 (show y < (Pl.part l B u).length by omega)
      have hw1 := Pl.getD_w (Pl.aheadF_w hf (Pl.part_w (b := B) (i := u) hl)) y
      have hw2 := Pl.getD_w (Pl.aheadF_w hf (Pl.totF_w hf hl B (Pl.blkN l.length B))) u
      have e1 : (u : Int) * (B : Int) = ((u * B : Nat) : Int) := by rw [Int.natCast_mul]
      have hnn : 0 ≤ (u : Int) * (B : Int) + (y : Int) := by rw [e1]; omega
      have hpl' : f ((Pl.aheadF f (Pl.totF f l B (Pl.blkN l.length B))).getD u 0) ((Pl.aheadF f (Pl.part l B u)).getD y 0) = (fun j => Pl.allF f (l.take j)) ((u : Int) * (B : Int) + (y : Int)).toNat := by rw [hpl, e1]; show Pl.allF f (l.take _) = Pl.allF f (l.take _); congr 2
      refine awp_region [] (by rw [hC]; rfl) fun k hk => ?_
      simp (maxSteps := 9^9) (disch := (try simp only [lens]); omega) only [argSl, sm, ↓amb, mark_eq, simprocAttr, el22, sz28, hen, dx]
      repeat refine ⟨by first | omega | (simp; done) | (unfold maxLen; omega) | (simp [maxLen]; omega) | assumption, ?_⟩
      refine callK_p (hF _ _ hw2 hw1) rfl ?_
      simp (maxSteps := 9^9) (disch := (try simp only [lens]); omega) only [argSl, sm, ↓amb, mark_eq, simprocAttr, el22, sz28, hen, dx]
      repeat refine ⟨by first | omega | (simp; done) | (unfold maxLen; omega) | (simp [maxLen]; omega) | assumption, ?_⟩
      refine hk _ ?_; clear hk k
      refine h13 _ ?_; clear h13 k13
      refine awp_region [] (by rw [hC]; rfl) fun k hk => ?_
      simp (maxSteps := 9^9) (disch := (try simp only [lens]); omega) only [argSl, sm, ↓amb, mark_eq, simprocAttr, hen, dx]
      repeat refine ⟨by first | omega | (simp; done) | (unfold maxLen; omega) | (simp [maxLen]; omega) | assumption, ?_⟩
      refine hk _ ?_; clear hk k
      refine ⟨y + 1, by omega, le_of [(0, _)] (by rfl) (by rfl) ⟨⟨_, rfl, .p (.of_eq (by first | rfl | (simp only [PV.lit.injEq, Value.int.injEq, true_and]; omega) | (simp; done) | (simp; omega)))⟩, ⟨_, rfl, .p (.of_eq (by first | rfl | (simp only [PV.lit.injEq, Value.int.injEq, true_and]; omega) | (simp; done) | (simp; omega)))⟩, ⟨_, rfl, .fn rfl LeRow.nil.2⟩, ⟨_, rfl, .own rfl⟩, ⟨_, rfl, .p (.of_eq (by first | rfl | (simp only [PV.lit.injEq, Value.int.injEq, true_and]; omega) | (simp; done) | (simp; omega)))⟩, ⟨_, rfl, .p (.of_eq (by first | rfl | (simp only [PV.lit.injEq, Value.int.injEq, true_and]; omega) | (simp; done) | (simp; omega)))⟩, ⟨_, rfl, .p (.of_eq (by first | rfl | (simp only [PV.lit.injEq, Value.int.injEq, true_and]; omega) | (simp; done) | (simp; omega)))⟩, ⟨_, rfl, .p (.of_eq (by first | rfl | (simp only [PV.lit.injEq, Value.int.injEq, true_and]; omega) | (simp; done) | (simp; omega)))⟩, ⟨_, rfl, .p (.of_eq (by first | rfl | (simp only [PV.lit.injEq, Value.int.injEq, true_and]; omega) | (simp; done) | (simp; omega)))⟩, ⟨_, rfl, .p (.of_eq (by first | rfl | (simp only [PV.lit.injEq, Value.int.injEq, true_and]; omega) | (simp; done) | (simp; omega)))⟩, ⟨_, rfl, .p (.of_eq (by first | rfl | (simp only [PV.lit.injEq, Value.int.injEq, true_and]; omega) | (simp; done) | (simp; omega)))⟩, ⟨_, rfl, .p (.of_eq (by first | rfl | (simp only [PV.lit.injEq, Value.int.injEq, true_and]; omega) | (simp; done) | (simp; omega)))⟩, ⟨_, rfl, .p (.of_eq (by first | rfl | rw [Pl.aheadF_len]))⟩, ⟨_, rfl, .p (.of_eq (by first | rfl | (simp only [PV.lit.injEq, Value.int.injEq, true_and]; omega) | (simp; done) | (simp; omega)))⟩, trivial⟩ ⟨⟨_, rfl, _, rfl, .liftE (by first | (rw [Pl.upto_nil (by simp), List.append_nil]; done) | (rw [← Pl.upto_snoc, ← List.append_assoc, ← Pl.fillL_set hnn hpl', List.map_set]; first | done | rfl) | trace_state)⟩, trivial⟩, by omega⟩
     ·try simp only [hbx] at hb
      refine awp_exit ((if_pos rfl).mpr ?_)
      refine h10 _ ?_; clear h12 k12; clear h10 k10
      refine awp_region [] (by rw [hC]; rfl) fun k hk => ?_
      simp (maxSteps := 9^9) (disch := (try simp only [lens]); omega) only [argSl, sm, ↓amb, mark_eq, simprocAttr, hen, dx]
      repeat refine ⟨by first | omega | (simp; done) | (unfold maxLen; omega) | (simp [maxLen]; omega) | assumption, ?_⟩
      refine hk _ ?_; clear hk k
      refine ⟨z + 1, by omega, le_of [(0, _)] (by rfl) (by rfl) ⟨⟨_, rfl, .p (.of_eq (by first | rfl | (simp only [PV.lit.injEq, Value.int.injEq, true_and]; omega) | (simp; done) | (simp; omega)))⟩, ⟨_, rfl, .p (.of_eq (by first | rfl | (simp only [PV.lit.injEq, Value.int.injEq, true_and]; omega) | (simp; done) | (simp; omega)))⟩, ⟨_, rfl, .fn rfl LeRow.nil.2⟩, ⟨_, rfl, .own rfl⟩, ⟨_, rfl, .p (.of_eq (by first | rfl | rw [Pl.allF_tots hf hl hB.1]))⟩, ⟨_, rfl, .p (.of_eq (by first | rfl | (simp only [PV.lit.injEq, Value.int.injEq, true_and]; omega) | (simp; done) | (simp; omega)))⟩, ⟨_, rfl, .p (.of_eq (by first | rfl | (simp only [PV.lit.injEq, Value.int.injEq, true_and]; omega) | (simp; done) | (simp; omega)))⟩, ⟨_, rfl, .p (.of_eq (by first | rfl | (simp only [PV.lit.injEq, Value.int.injEq, true_and]; omega) | (simp; done) | (simp; omega)))⟩, ⟨_, rfl, .p (.of_eq (by first | rfl | (simp only [PV.lit.injEq, Value.int.injEq, true_and]; omega) | (simp; done) | (simp; omega)))⟩, ⟨_, rfl, .p (.of_eq (by first | rfl | (simp only [PV.lit.injEq, Value.int.injEq, true_and]; omega) | (simp; done) | (simp; omega)))⟩, trivial⟩ ⟨⟨_, rfl, _, rfl, .liftE (by first | (rw [List.take_zero, List.flatMap_nil, Pl.fillL_nil, List.map_replicate]; done) | (rw [Pl.block_snoc (L := (Pl.ordU (Pl.blkN l.length B : Nat) p)) (z := z) (by omega) hu u1, show y = (Pl.part l B u).length by omega]; done) | trace_state)⟩, trivial⟩, by omega⟩
    ·try simp only [hbx] at hb
     refine awp_exit ((if_pos rfl).mpr ?_)
     refine h7 _ ?_; clear h9 k9; clear h7 k7
     refine awp_le (le_keep [8, 9, 10]) ?_
     simp only [kp, argSl, simprocAttr]
     have htk : (Pl.ordU (Pl.blkN l.length B : Nat) p).take z = (Pl.ordU (Pl.blkN l.length B : Nat) p) := List.take_of_length_le (by omega)
     rw [htk, Pl.fill_blocks hB hn hoo (fun j => Pl.allF f (l.take j))]
     refine awp_sr [] (by rw [hC]; rfl) fun k hk => ?_
     simp (maxSteps := 9^9) (disch := (try simp only [lens]); omega) only [argSl, sm, ↓amb, mark_eq, simprocAttr, hen, dx]
     repeat refine ⟨by first | omega | (simp; done) | (unfold maxLen; omega) | (simp [maxLen]; omega) | assumption, ?_⟩
     refine hk _ ?_; clear hk k
     refine awp_ret ?_
     rw [(Pl.sc_yes (f := f) hse).2.1, (Pl.sc_yes (f := f) hse).2.2, hse, Pl.blk_nat hB hn]
     refine reth4 rfl rfl rfl rfl rfl ?_
     exact le_of [(0, _)] (by rfl) (by rfl) ⟨⟨_, rfl, leTup (LeRow.cons (.own rfl) (LeRow.cons (.p (.refl _)) (LeRow.cons (.p (.refl _)) (LeRow.cons (.p (.refl _)) .nil))))⟩, trivial⟩ ⟨⟨_, rfl, _, rfl, .liftE (by first | rfl | trace_state)⟩, trivial⟩
end Go.Proofs.Ythelnccjcbnjfaa
end
section
set_option linter.unusedSimpArgs false
set_option linter.unusedVariables false
set_option maxRecDepth 100000
namespace Go.Proofs.Ythelnccjcbnjfaa
open Go.Am Go.Proofs
theorem en66 : enters Try.prog 66 = true := by kernel_rfl
set_option maxHeartbeats 4000000 in
theorem c_Highest_o (c d : Bool) (l : List Int) (b : Int) (p : Pl.Plan) (hl : ∀ x, x ∈ l → Pl.W32 x) (hn : l.length ≤ 1000000) (hse0 : Pl.scE l.length b p = 0) : PCall Try.prog 33 [words c l, iV b, .agg (planC d p)] (.tup [words false (Pl.highF l l.length), iV (Pl.scS l.length b p), iV (Pl.scE l.length b p)]) := by
 refine pcall_of_awp Try.func33 rfl (by simp [Try.ntmps33]) fun C hC => ?_
 refine awp_le (le_keep [0, 1, 2]) ?_
 simp only [kp, argSl, simprocAttr]
 refine awp_sr [] (by rw [hC]; rfl) fun k hk => ?_
 simp (maxSteps := 9^9) (disch := (try simp only [lens]); omega) only [argSl, sm, ↓amb, mark_eq, simprocAttr, dx, en66]
 repeat refine ⟨by first | omega | (simp; done) | (unfold maxLen; omega) | (simp [maxLen]; omega) | assumption, ?_⟩
 refine hk _ ?_; clear hk k
 refine awp_le (le_keep [0, 1, 5]) ?_
 simp only [kp, argSl, simprocAttr]
 refine awp_sr [] (by rw [hC]; rfl) fun k hk => ?_
 simp (maxSteps := 9^9) (disch := (try simp only [lens]); omega) only [argSl, sm, ↓amb, mark_eq, simprocAttr, sz26, en63, dx, en66]
 repeat refine ⟨by first | omega | (simp; done) | (unfold maxLen; omega) | (simp [maxLen]; omega) | assumption, ?_⟩
 refine callK_h (c_phases_o c d l b p hl 66 en66 (fun a b => max a b) Pl.rule_max (fun a b ha hb => c_scan_Highest_1 a b ha hb) hse0) [] [] (by first | rfl | (simp only [hm]; done)) (by first | rfl | (simp [namesOk, lkp]; done)) ?_ ?_ ?_ ?_ ?_ ?_ ?_
 (iterate 6 (focus (first | trivial | (intro n hn; cases hn; done) | (simp (maxSteps := 9^9) (disch := (try simp only [lens]); omega) only [argSl, sm, ↓amb, mark_eq, simprocAttr, sz26, en63, dx, en66, hmx, List.filter_cons, Nat.reduceBNe, imp_self, implies_true]; done))))
 simp (maxSteps := 9^9) (disch := (try simp only [lens]); omega) only [argSl, sm, ↓amb, mark_eq, simprocAttr, sz26, en63, dx, en66, hm, List.filter_cons, List.filter_nil, Nat.reduceBNe, Option.map_none]
 repeat refine ⟨by first | omega | (simp; done) | (unfold maxLen; omega) | (simp [maxLen]; omega) | assumption, ?_⟩
 refine hk _ ?_; clear hk k
 refine awp_seq fun k1 h1 => ?_
 refine awp_le (le_keep [0, 6, 7, 8, 9, 11, 12]) ?_
 simp only [kp, argSl, simprocAttr]
 have hal := Pl.aheadF_len (fun a b => max a b) l
 refine awp_sr [] (by rw [hC]; rfl) fun k hk => ?_
 simp (maxSteps := 9^9) (disch := (try simp only [lens]); omega) only [argSl, sm, ↓amb, mark_eq, simprocAttr, el22, dx, en66]
 repeat refine ⟨by first | omega | (simp; done) | (unfold maxLen; omega) | (simp [maxLen]; omega) | assumption, ?_⟩
 refine hk _ ?_; clear hk k
 refine awp_block ?_
 refine awp_loop (σ := Nat) (fun i => i ≤ l.length) (fun (i : Nat) => ⟨[(0, (.p (words c l))), (9, (.own 0)), (11, (.p (iV (Pl.scS l.length b p)))), (12, (.p (iV (Pl.scE l.length b p)))), (24, (.p (iV l.length))), (25, (.p (iV (i : Int))))], [(0, (.row 1 (lift ((Pl.tabL l.length (Pl.hiT l i)).map fun x => [u32V x]))))], 1⟩) (fun i => l.length - i) 0 ?_ ?_ fun i hi => ?_
 ·exact Nat.zero_le _
 ·exact le_of [(0, _)] (by rfl) (by rfl) ⟨⟨_, rfl, .p (.of_eq (by first | rfl | (simp only [PV.lit.injEq, Value.int.injEq, true_and]; omega) | (simp; done) | (simp; omega)))⟩, ⟨_, rfl, .own rfl⟩, ⟨_, rfl, .p (.of_eq (by first | rfl | (simp only [PV.lit.injEq, Value.int.injEq, true_and]; omega) | (simp; done) | (simp; omega)))⟩, ⟨_, rfl, .p (.of_eq (by first | rfl | (simp only [PV.lit.injEq, Value.int.injEq, true_and]; omega) | (simp; done) | (simp; omega)))⟩, ⟨_, rfl, .p (.of_eq (by first | rfl | rw [hal] | trace_state))⟩, ⟨_, rfl, .p (.of_eq (by first | rfl | (simp only [PV.lit.injEq, Value.int.injEq, true_and]; omega) | (simp; done) | (simp; omega)))⟩, trivial⟩ ⟨⟨_, rfl, _, rfl, .liftE (by first | (rw [Pl.hiT_0]; done) | (rw [hgt, ← Pl.hiT_set (show i < l.length by omega), List.map_set]; first | done | rfl) | trace_state)⟩, trivial⟩
 refine awp_le (le_keep [0, 6, 7, 8, 9, 11, 12, 24, 25]) ?_
 simp only [kp, argSl, simprocAttr]
 refine awp_sr [] (by rw [hC]; rfl) fun k hk => ?_
 simp (maxSteps := 9^9) (disch := (try simp only [lens]); omega) only [argSl, sm, ↓amb, mark_eq, simprocAttr, dx, en66]
 repeat refine ⟨by first | omega | (simp; done) | (unfold maxLen; omega) | (simp [maxLen]; omega) | assumption, ?_⟩
 refine hk _ ?_; clear hk k
 refine awp_seq fun k3 h3 => ?_
 refine awp_cond rfl (fun hb => ?_) (fun hb => ?_)
 ·try simp only [hbx] at hb
  refine awp_skip ?_
  refine h3 _ ?_; clear h3 k3
  refine awp_seq fun k4 h4 => ?_
  refine awp_block ?_
  refine awp_le (le_keep [0, 6, 7, 8, 9, 11, 12, 24, 25]) ?_
  simp only [kp, argSl, simprocAttr]
  refine awp_sr [] (by rw [hC]; rfl) fun k hk => ?_
  simp (maxSteps := 9^9) (disch := (try simp only [lens]); omega) only [argSl, sm, ↓amb, mark_eq, simprocAttr, dx, en66]
  repeat refine ⟨by first | omega | (simp; done) | (unfold maxLen; omega) | (simp [maxLen]; omega) | assumption, ?_⟩
  refine hk _ ?_; clear hk k
  have htl := Pl.tabL_len l.length (Pl.hiT l i)
  have hgt := Pl.tabL_get (n := l.length) (g := Pl.hiT l i) (show i < l.length by omega)
  refine awp_draw [] ⟨[0, 0, 0, 0, 12, 28, 0, 0, 192, 448, 1020, 2047, 4095], [4, 5, 11], [12], [], some [0]⟩ (by rw [hC]; rfl) (by kernel_rfl) (by kernel_rfl) fun k hk => ?_
  simp (maxSteps := 9^9) (disch := (try simp only [lens]); omega) only [argSl, sm, ↓amb, mark_eq, simprocAttr, el22, sz28, dx, en66]
  repeat refine ⟨by first | omega | (simp; done) | (unfold maxLen; omega) | (simp [maxLen]; omega) | assumption, ?_⟩
  refine hk _ ?_; clear hk k
  refine h4 _ ?_; clear h4 k4
  refine awp_region [] (by rw [hC]; rfl) fun k hk => ?_
  simp (maxSteps := 9^9) (disch := (try simp only [lens]); omega) only [argSl, sm, ↓amb, mark_eq, simprocAttr, dx, en66]
  repeat refine ⟨by first | omega | (simp; done) | (unfold maxLen; omega) | (simp [maxLen]; omega) | assumption, ?_⟩
  refine hk _ ?_; clear hk k
  refine ⟨i + 1, by omega, le_of [(0, _)] (by rfl) (by rfl) ⟨⟨_, rfl, .p (.of_eq (by first | rfl | (simp only [PV.lit.injEq, Value.int.injEq, true_and]; omega) | (simp; done) | (simp; omega)))⟩, ⟨_, rfl, .own rfl⟩, ⟨_, rfl, .p (.of_eq (by first | rfl | (simp only [PV.lit.injEq, Value.int.injEq, true_and]; omega) | (simp; done) | (simp; omega)))⟩, ⟨_, rfl, .p (.of_eq (by first | rfl | (simp only [PV.lit.injEq, Value.int.injEq, true_and]; omega) | (simp; done) | (simp; omega)))⟩, ⟨_, rfl, .p (.of_eq (by first | rfl | rw [hal] | trace_state))⟩, ⟨_, rfl, .p (.of_eq (by first | rfl | (simp only [PV.lit.injEq, Value.int.injEq, true_and]; omega) | (simp; done) | (simp; omega)))⟩, trivial⟩ ⟨⟨_, rfl, _, rfl, .liftE (by first | (rw [Pl.hiT_0]; done) | (rw [hgt, ← Pl.hiT_set (show i < l.length by omega), List.map_set]; first | done | rfl) | trace_state)⟩, trivial⟩, by omega⟩
 ·try simp only [hbx] at hb
  refine awp_exit ((if_pos rfl).mpr ?_)
  refine h1 _ ?_; clear h3 k3; clear h1 k1
  refine awp_le (le_keep [9, 11, 12]) ?_
  simp only [kp, argSl, simprocAttr]
  obtain rfl : i = l.length := by omega
  rw [Pl.hiT_end]
  refine awp_sr [] (by rw [hC]; rfl) fun k hk => ?_
  simp (maxSteps := 9^9) (disch := (try simp only [lens]); omega) only [argSl, sm, ↓amb, mark_eq, simprocAttr, dx, en66]
  repeat refine ⟨by first | omega | (simp; done) | (unfold maxLen; omega) | (simp [maxLen]; omega) | assumption, ?_⟩
  refine hk _ ?_; clear hk k
  refine awp_ret ?_
  refine ret3 rfl rfl rfl rfl ?_ ?_ ?_
  ·exact .ownE rfl rfl
  ·exact .p (LeP.refl _)
  ·exact .p (LeP.refl _)
set_option maxHeartbeats 4000000 in
theorem c_Highest_e (c d : Bool) (l : List Int) (b : Int) (p : Pl.Plan) (hl : ∀ x, x ∈ l → Pl.W32 x) (hse0 : ¬ Pl.scE l.length b p = 0) : PCall Try.prog 33 [words c l, iV b, .agg (planC d p)] (.tup [words false [], iV (Pl.scS l.length b p), iV (Pl.scE l.length b p)]) := by
 refine pcall_of_awp Try.func33 rfl (by simp [Try.ntmps33]) fun C hC => ?_
 refine awp_le (le_keep [0, 1, 2]) ?_
 simp only [kp, argSl, simprocAttr]
 refine awp_sr [] (by rw [hC]; rfl) fun k hk => ?_
 simp (maxSteps := 9^9) (disch := (try simp only [lens]); omega) only [argSl, sm, ↓amb, mark_eq, simprocAttr, dx, en66]
 repeat refine ⟨by first | omega | (simp; done) | (unfold maxLen; omega) | (simp [maxLen]; omega) | assumption, ?_⟩
 refine hk _ ?_; clear hk k
 refine awp_le (le_keep [0, 1, 5]) ?_
 simp only [kp, argSl, simprocAttr]
 refine awp_sr [] (by rw [hC]; rfl) fun k hk => ?_
 simp (maxSteps := 9^9) (disch := (try simp only [lens]); omega) only [argSl, sm, ↓amb, mark_eq, simprocAttr, sz26, en63, dx, en66]
 repeat refine ⟨by first | omega | (simp; done) | (unfold maxLen; omega) | (simp [maxLen]; omega) | assumption, ?_⟩
 refine callK_h (c_scan_phases c d l b p hl 66 en66 (fun a b => max a b) Pl.rule_max (fun a b ha hb => c_scan_Highest_1 a b ha hb)) [] [] (by first | rfl | (simp only [hm]; done)) (by first | rfl | (simp [namesOk, lkp]; done)) ?_ ?_ ?_ ?_ ?_ ?_ ?_
 (iterate 6 (focus (first | trivial | (intro n hn; cases hn; done) | (simp (maxSteps := 9^9) (disch := (try simp only [lens]); omega) only [argSl, sm, ↓amb, mark_eq, simprocAttr, sz26, en63, dx, en66, hmx, List.filter_cons, Nat.reduceBNe, imp_self, implies_true]; done))))
 simp (maxSteps := 9^9) (disch := (try simp only [lens]); omega) only [argSl, sm, ↓amb, mark_eq, simprocAttr, sz26, en63, dx, en66, hm, List.filter_cons, List.filter_nil, Nat.reduceBNe, Option.map_none]
 repeat refine ⟨by first | omega | (simp; done) | (unfold maxLen; omega) | (simp [maxLen]; omega) | assumption, ?_⟩
 refine hk _ ?_; clear hk k
 refine awp_seq fun k1 h1 => ?_
 refine awp_le (le_keep [0, 6, 7, 8, 9, 11, 12]) ?_
 simp only [kp, argSl, simprocAttr]
 rw [(Pl.sc_no (f := (fun a b => max a b)) hse0).1]
 refine awp_sr [] (by rw [hC]; rfl) fun k hk => ?_
 simp (maxSteps := 9^9) (disch := (try simp only [lens]); omega) only [argSl, sm, ↓amb, mark_eq, simprocAttr, el22, dx, en66]
 repeat refine ⟨by first | omega | (simp; done) | (unfold maxLen; omega) | (simp [maxLen]; omega) | assumption, ?_⟩
 refine hk _ ?_; clear hk k
 refine awp_block ?_
 refine awp_loop (σ := Nat) (fun i => i ≤ 0) (fun (i : Nat) => ⟨[(9, (.p (words false []))), (11, (.p (iV (Pl.scS l.length b p)))), (12, (.p (iV (Pl.scE l.length b p)))), (24, (.p (iV 0))), (25, (.p (iV (i : Int))))], [], 1⟩) (fun i => 0 - i) 0 ?_ ?_ fun i hi => ?_
 ·exact Nat.zero_le _
 ·exact le_of [] (by rfl) (by rfl) ⟨⟨_, rfl, .p (.of_eq (by first | rfl | (simp only [PV.lit.injEq, Value.int.injEq, true_and]; omega) | (simp; done) | (simp; omega)))⟩, ⟨_, rfl, .p (.of_eq (by first | rfl | (simp only [PV.lit.injEq, Value.int.injEq, true_and]; omega) | (simp; done) | (simp; omega)))⟩, ⟨_, rfl, .p (.of_eq (by first | rfl | (simp only [PV.lit.injEq, Value.int.injEq, true_and]; omega) | (simp; done) | (simp; omega)))⟩, ⟨_, rfl, .p (.of_eq (by first | rfl | (simp only [PV.lit.injEq, Value.int.injEq, true_and]; omega) | (simp; done) | (simp; omega)))⟩, ⟨_, rfl, .p (.of_eq (by first | rfl | (simp only [PV.lit.injEq, Value.int.injEq, true_and]; omega) | (simp; done) | (simp; omega)))⟩, trivial⟩ trivial
 refine awp_le (le_keep [0, 6, 7, 8, 9, 11, 12, 24, 25]) ?_
 simp only [kp, argSl, simprocAttr]
 refine awp_sr [] (by rw [hC]; rfl) fun k hk => ?_
 simp (maxSteps := 9^9) (disch := (try simp only [lens]); omega) only [argSl, sm, ↓amb, mark_eq, simprocAttr, dx, en66]
 repeat refine ⟨by first | omega | (simp; done) | (unfold maxLen; omega) | (simp [maxLen]; omega) | assumption, ?_⟩
 refine hk _ ?_; clear hk k
 refine awp_seq fun k3 h3 => ?_
 refine awp_cond rfl (fun hb => ?_) (fun hb => ?_)
 ·exact absurd hb (by simp)
 ·try simp only [hbx] at hb
  refine awp_exit ((if_pos rfl).mpr ?_)
  refine h1 _ ?_; clear h3 k3; clear h1 k1
  refine awp_le (le_keep [9, 11, 12]) ?_
  simp only [kp, argSl, simprocAttr]
  refine awp_sr [] (by rw [hC]; rfl) fun k hk => ?_
  simp (maxSteps := 9^9) (disch := (try simp only [lens]); omega) only [argSl, sm, ↓amb, mark_eq, simprocAttr, dx, en66]
  repeat refine ⟨by first | omega | (simp; done) | (unfold maxLen; omega) | (simp [maxLen]; omega) | assumption, ?_⟩
  refine hk _ ?_; clear hk k
  refine awp_ret ?_
  refine ret3 rfl rfl rfl rfl ?_ ?_ ?_
  ·exact .p (LeP.refl _)
  ·exact .p (LeP.refl _)
  ·exact .p (LeP.refl _)
end Go.Proofs.Ythelnccjcbnjfaa
end
section
set_option linter.unusedSimpArgs false
set_option linter.unusedVariables false
set_option maxRecDepth 100000
namespace Go.Proofs.Ythelnccjcbnjfaa
open Go.Am Go.Proofs
theorem c_scan_Highest (c d : Bool) (l : List Int) (b : Int) (p : Pl.Plan) (hl : ∀ x, x ∈ l → Pl.W32 x) (hn : l.length ≤ 1000000) : PCall Try.prog 33 [words c l, iV b, .agg (planC d p)] (.tup [words false (Pl.hiL l b p), iV (Pl.scS l.length b p), iV (Pl.scE l.length b p)]) := by
  by_cases h : Pl.scE l.length b p = 0
  · rw [show Pl.hiL l b p = Pl.highF l l.length from if_pos h]; exact c_Highest_o c d l b p hl hn h
  · rw [show Pl.hiL l b p = [] from if_neg h]; exact c_Highest_e c d l b p hl h
end Go.Proofs.Ythelnccjcbnjfaa
end
section
set_option linter.unusedSimpArgs false
set_option linter.unusedVariables false
namespace Go.Proofs.Ythelnccjcbnjfaa
open Go.RowKit Go.Shelf Go.Proofs
attribute [local go_sem] Oper.semAt_some
def KB (Bs Bn : Nat) (W W' : World) : Prop := (∀ v, Boxed W Bs 22 v → Boxed W' Bs 22 v) ∧ (∀ v, Boxed W Bn 3 v → Boxed W' Bn 3 v)
theorem KB.trans {Bs Bn : Nat} {A B C : World} (h : KB Bs Bn A B) (k : KB Bs Bn B C) : KB Bs Bn A C := ⟨fun v q => k.1 v (h.1 v q), fun v q => k.2 v (h.2 v q)⟩
theorem boxed_ne {W : World} {B : Nat} {t : TypeId} {v : Value} (h : Boxed W B t v) {l : Nat} {o : Obj} (hl : W.heap[l]? = some o) (ho : o.isCells = false) : B ≠ l := by
  rintro rfl
  rw [show W.heap[B]? = _ from h] at hl; cases hl; cases ho
theorem KB.put {Bs Bn : Nat} (W : World) (l : Nat) (o o' : Obj) (hl : W.heap[l]? = some o) (ho : o.isCells = false) : KB Bs Bn W (W.putObj l o') :=
  ⟨fun v h => h.kept (grownBy_putObj' W l o') (fun e => boxed_ne h hl ho (by simpa using e)), fun v h => h.kept (grownBy_putObj' W l o') (fun e => boxed_ne h hl ho (by simpa using e))⟩
def chunkV (b off len B k : Nat) : Value := .slice (some ⟨b, off + k * B, none⟩) (min B (len - k * B)) (min B (len - k * B))
set_option maxRecDepth 100000 in
set_option maxHeartbeats 4000000 in
theorem chunk1_in (F : Fence) (n : Nat) (h83 : F.fn 83) (hro : F.round = none) (hn : 1 ≤ n) (l wz Bs Bn b off len cap B nb : Nat) (hB : 1 ≤ B ∧ B ≤ 100) (hlen : len ≤ 1000) (hcap : len ≤ cap) (hnb : ∀ k, k < nb ↔ k * B < len)
    (J Jx : List Nat → World → Prop) (hJ : AbidesFrom wz J)
    (hY : ∀ pre x W, J pre W → pre.length < nb → YieldAt F (n - 1) Try.prog l #[chunkV b off len B x] W fun e W' =>
      (e = .returned (.bool true) ∧ J (pre ++ [x]) W' ∧ KB Bs Bn W W') ∨ (e = .returned (.bool false) ∧ Jx (pre ++ [x]) W'))
    (W : World) (hBs' : Boxed W Bs 22 (.slice (some ⟨b, off, none⟩) len cap)) (hBn' : Boxed W Bn 3 (.int .i64 B)) (h0 : J [] W) :
    CallsIn F n Try.prog 83 #[.func (.yield l) #[] #[], .pointer (some ⟨Bs, 0, none⟩), .pointer (some ⟨Bn, 0, none⟩)] W fun e W' => (∃ v, e = .returned v) ∧
      ((∃ ys, ys = List.range nb ∧ J ys W') ∨ (∃ pre, pre <+: List.range nb ∧ Jx pre W')) := by
  refine callsIn_of_wp Try.func83 rfl h83 ?_ hro
  simp only [Try.ntmps83, List.size_toArray, List.length_cons, List.length_nil, Nat.reduceAdd, Nat.reduceSub, Array.replicate_succ, Array.replicate_zero, List.push_toArray, List.append_toArray, List.nil_append, List.cons_append]
  have hBs := hBs'.cell
  have hBn := hBn'.cell
  gi_wp2
  gi_loopw [4] (fun i wr => ∃ k : Nat, k ≤ nb ∧ i = .int .i64 ((k * B : Nat) : Int) ∧ J (List.range k) wr ∧ Boxed wr Bs 22 (.slice (some ⟨b, off, none⟩) len cap) ∧ Boxed wr Bn 3 (.int .i64 B))
    (fun i _ => len + B - (intOf i).toNat)
  case atStart => exact ⟨0, Nat.zero_le _, by simp, h0, hBs', hBn'⟩
  case round =>
    obtain ⟨k, hk, rfl, hJs, hq1, hq2⟩ := hrel
    have hs1 : wr.cell? ⟨Bs, 0, none⟩ = some (.slice (some ⟨b, off, none⟩) len cap) := hq1.cell
    have hn1 : wr.cell? ⟨Bn, 0, none⟩ = some (.int .i64 B) := hq2.cell
    have hJd : J (List.range k) wr.drew := hJ _ wr wr.drew none hJs ⟨rfl, rfl, rfl, Nat.le_refl _, fun _ _ _ => rfl⟩ (fun r e => by cases e)
    by_cases hlt : k * B < len
    · have hk1 : k + 1 ≤ nb := (hnb k).2 hlt
      have hkk : (k + 1) * B = k * B + B := by rw [Nat.add_mul, Nat.one_mul]
      obtain ⟨fn, tmps, assign, body, hy, hR⟩ := hY _ k wr.drew hJd (by rw [List.length_range]; exact hk1)
      have fin : ∀ (m : Nat), m = min B (len - k * B) → (Instr.yield l #[.slice (some ⟨b, off + k * B, none⟩) m m]).run Try.prog wr.drew = .ok (.round l fn tmps assign body) wr.drew := by
        intro m hm
        rw [← hy]; unfold chunkV
        rw [hm]
      by_cases hm : len - k * B < B
      · have hy2 := fin (len - k * B) (by omega)
        gi_wp2
        gi_region
        all_goals (try simp only [if_pos hm])
        all_goals gi_wp2
        all_goals (refine hR.mono ?_; rintro e W3 (⟨rfl, hJ3, hk3⟩ | ⟨rfl, hJx3⟩))
        all_goals first
          | (have hn3 : W3.cell? ⟨Bn, 0, none⟩ = some (.int .i64 B) := (hk3.2 _ hq2).cell
             gi_wp2
             go_roundw
             case rel => exact ⟨k + 1, hk1, by rw [hkk]; simp, by rw [List.range_succ]; exact hJ3, hk3.1 _ hq1, hk3.2 _ hq2⟩
             case measure => simp [intOf]; omega)
          | (gi_wp2
             exact bodyPost_ret (results_none rfl _ _ _) rfl ⟨⟨_, rfl⟩, .inr ⟨List.range k ++ [k], by rw [← List.range_succ, show List.range (k + 1) = (List.range nb).take (k + 1) from by rw [List.take_range, Nat.min_eq_left hk1]]; exact List.take_prefix _ _, hJx3⟩⟩)
          | trace_state
      · have hy2 := fin B (by omega)
        gi_wp2
        gi_region
        all_goals (try simp only [if_neg hm])
        all_goals gi_wp2
        all_goals (refine hR.mono ?_; rintro e W3 (⟨rfl, hJ3, hk3⟩ | ⟨rfl, hJx3⟩))
        all_goals first
          | (have hn3 : W3.cell? ⟨Bn, 0, none⟩ = some (.int .i64 B) := (hk3.2 _ hq2).cell
             gi_wp2
             go_roundw
             case rel => exact ⟨k + 1, hk1, by rw [hkk]; simp, by rw [List.range_succ]; exact hJ3, hk3.1 _ hq1, hk3.2 _ hq2⟩
             case measure => simp [intOf]; omega)
          | (gi_wp2
             exact bodyPost_ret (results_none rfl _ _ _) rfl ⟨⟨_, rfl⟩, .inr ⟨List.range k ++ [k], by rw [← List.range_succ, show List.range (k + 1) = (List.range nb).take (k + 1) from by rw [List.take_range, Nat.min_eq_left hk1]]; exact List.take_prefix _ _, hJx3⟩⟩)
          | trace_state
    · obtain rfl : k = nb := by
        have h9 : ¬ k < nb := fun h => hlt ((hnb k).1 h)
        omega
      gi_wp2
      go_end0
      exact ⟨⟨_, rfl⟩, .inl ⟨_, rfl, hJs⟩⟩
end Go.Proofs.Ythelnccjcbnjfaa
end
section
set_option linter.unusedSimpArgs false
set_option linter.unusedVariables false
namespace Go.Proofs.Ythelnccjcbnjfaa
open Go.RowKit Go.Shelf Go.Proofs
attribute [local go_sem] Oper.semAt_some
set_option maxRecDepth 100000 in
set_option maxHeartbeats 1000000 in
theorem chunk_in (F : Fence) (n : Nat) (h67 : F.fn 67) (hro : F.round = none) (a : Option Addr) (len cap B : Nat) (hB : 1 ≤ B ∧ B ≤ 100) (w : World) :
    CallsIn F n Try.prog 67 #[.slice a len cap, .int .i64 B] w fun e w' => e = .returned (.func (.func 83) #[] #[.pointer (some ⟨w.heap.size, 0, none⟩), .pointer (some ⟨w.heap.size + 1, 0, none⟩)]) ∧ w' = (w.alloc (.cells #[.slice a len cap] 22)).alloc (.cells #[.int .i64 B] 3) := by
  refine callsIn_of_wp Try.func67 rfl h67 ?_ hro
  simp only [Try.ntmps67, List.size_toArray, List.length_cons, List.length_nil, Nat.reduceAdd, Nat.reduceSub, Array.replicate_succ, Array.replicate_zero, List.push_toArray, List.append_toArray, List.nil_append, List.cons_append]
  have hnB : ¬ ((B : Int) < 1) := by omega
  gi_wp2
  go_ret
  exact ⟨rfl, rfl⟩
theorem chunk_stops (F : Fence) (n : Nat) (h83 : F.fn 83) (hro : F.round = none) (hn : 1 ≤ n) (Bs Bn b off len cap B nb : Nat) (hB : 1 ≤ B ∧ B ≤ 100) (hlen : len ≤ 1000) (hcap : len ≤ cap) (hnb : ∀ k, k < nb ↔ k * B < len) (w : World)
    (hBs : Boxed w Bs 22 (.slice (some ⟨b, off, none⟩) len cap)) (hBn : Boxed w Bn 3 (.int .i64 B)) :
    SeqStopsK F n Try.prog 83 #[.pointer (some ⟨Bs, 0, none⟩), .pointer (some ⟨Bn, 0, none⟩)] (fun x : Nat => #[chunkV b off len B x]) (KB Bs Bn) (fun ys => ys = List.range nb) (fun pre => pre <+: List.range nb) nb w := fun l J Jx W hW hJ _ hY h0 =>
  chunk1_in F n h83 hro hn l W.heap.size Bs Bn b off len cap B nb hB hlen hcap hnb J Jx hJ hY W ((hW.block Bs hBs.lt).trans hBs) ((hW.block Bn hBn.lt).trans hBn) h0
end Go.Proofs.Ythelnccjcbnjfaa
end
section
set_option linter.unusedSimpArgs false
set_option linter.unusedVariables false
namespace Go.Proofs.Ythelnccjcbnjfaa
open Go.RowKit Go.Shelf Go.Proofs Go.Am
attribute [local go_sem] Oper.semAt_some
theorem blocks_in (n : Nat) (w : World) (x y : Int) : CallsIn Fence.wide n Try.prog 39 #[.int .i64 x, .int .i64 y] w fun e w' => e = .returned (.int .i64 (Pl.blk x y)) ∧ Below w.heap.size w w' := by
  refine callsIn_wide.2 ((c_scan_Blocks x y (fun _ => False) w #[.int .i64 x, .int .i64 y] (fun b h => h.elim) rfl ?_).mono ?_)
  · intro i z hz
    match i, hz with
    | 0, hz => cases hz; exact .lit _
    | 1, hz => cases hz; exact .lit _
  · rintro e w' ⟨v, rfl, hv, hb⟩
    cases hv
    exact ⟨rfl, hb⟩
theorem sum_in (n : Nat) (w : World) (v : Value) (c : Bool) (xs : List Int) (hl : ∀ x, x ∈ xs → Pl.W32 x) (hn : xs.length ≤ 1000000) (h : RepP (fun _ => False) w (words c xs) v) : CallsIn Fence.wide n Try.prog 68 #[v] w fun e w' => e = .returned (.int .u32 (Pl.allF Pl.add32 xs)) ∧ Below w.heap.size w w' := by
  refine callsIn_wide.2 ((c_scan_sum c xs hl hn (fun _ => False) w #[v] (fun b h => h.elim) rfl ?_).mono ?_)
  · intro i z hz
    match i, hz with
    | 0, hz => cases hz; exact h
  · rintro e w' ⟨v, rfl, hv, hb⟩
    cases hv
    exact ⟨rfl, hb⟩
theorem und22 : Try.prog.underlying 22 = some (.slice 28) := by kernel_rfl
theorem inf28 : (Try.prog.info? 28).map (fun i => (i.zero, i.size, i.bytes)) = some (some (.int .u32 0), 1, 4) := by kernel_rfl
theorem words_open {O : Nat → Prop} {w : World} {c : Bool} {l : List Int} {v : Value} (h : RepP O w (words c l) v) :
    ∃ a cap, v = .slice a l.length cap ∧ (0 < l.length → ∃ b off, a = some ⟨b, off, none⟩ ∧ l.length ≤ cap ∧ ∀ j, j < l.length → w.cell? ⟨b, off + j, none⟩ = some (.int .u32 (l.getD j 0))) := by
  obtain ⟨es, he⟩ : ∃ es, es = l.map fun x => [u32V x] := ⟨_, rfl⟩
  unfold words at h
  rw [← he] at h
  have hlen : es.length = l.length := by rw [he]; simp
  have hfl : es.flatten = l.map u32V := by
    rw [he]; clear he hlen h
    induction l with
    | nil => rfl
    | cons x l ih => simp only [List.map_cons, List.flatten_cons, ih]; rfl
  cases h with
  | nilseq _ a cap hc =>
    rw [← hlen]
    exact ⟨a, cap, rfl, fun h => absurd h (by simp)⟩
  | seq _ _ sz b off cap f h1 h2 h3 h4 h5 =>
    rw [← hlen]
    refine ⟨_, cap, rfl, fun _ => ⟨b, off, rfl, h2, fun j hj => ?_⟩⟩
    have hj' : j < l.length := by omega
    rw [(h4 j (by rw [hfl]; simpa using hj')).2.1]
    have hx := h5 j (u32V (l.getD j 0)) (by rw [hfl]; simp [List.getD_eq_getElem?_getD, hj'])
    obtain ⟨q, hq⟩ : ∃ q, q = f j := ⟨_, rfl⟩
    rw [← hq] at hx ⊢
    cases hx; rfl
theorem words_shut {O : Nat → Prop} {w : World} {l : List Int} {b off cap : Nat} (hO : 0 < l.length → ¬ O b) (hcap : l.length ≤ cap) (hc : ∀ j, j < l.length → w.cell? ⟨b, off + j, none⟩ = some (.int .u32 (l.getD j 0))) : RepP O w (words false l) (.slice (some ⟨b, off, none⟩) l.length cap) := by
  have hfl : (l.map fun x => [u32V x]).flatten = l.map u32V := by
    clear hO hcap hc
    induction l with
    | nil => rfl
    | cons x l ih => simp only [List.map_cons, List.flatten_cons, ih]; rfl
  have hq := RepP.seq (O := O) (w := w) false (l.map fun x => [u32V x]) 1 b off cap (fun j => .int .u32 (l.getD j 0)) (fun e he => by obtain ⟨x, _, rfl⟩ := List.mem_map.1 he; rfl) (by simpa using hcap) (fun h => by cases h)
    (fun j hj => by rw [hfl] at hj; simp only [List.length_map] at hj; exact ⟨hO (by omega), hc j hj, rfl⟩)
    (fun j x hx => by
      rw [hfl] at hx
      rw [List.getElem?_map] at hx
      cases hlj : l[j]? with
      | none => rw [hlj] at hx; cases hx
      | some y => rw [hlj] at hx; cases hx; rw [show l.getD j 0 = y from by rw [List.getD_eq_getElem?_getD, hlj]; rfl]; exact .lit _)
  rw [List.length_map] at hq
  exact hq
theorem row_below {W W' : World} {base e size k : Nat} {v : Value} {xs : List Value} (h : W.ownsRow base e size v k xs) (hb : Below W.heap.size W W') : W'.ownsRow base e size v k xs := by
  refine ⟨h.1, ?_⟩
  rcases h.2 with q | ⟨g, cap, cur, h1, h2, h3, h4⟩
  · exact .inl q
  · exact .inr ⟨g, cap, cur, h1, h2, (hb.block g (Array.getElem?_eq_some_iff.1 h3).1).trans h3, h4⟩
theorem blkN_iff {n b : Nat} (hb : 1 ≤ b) (k : Nat) : k < Pl.blkN n b ↔ k * b < n := by
  unfold Pl.blkN
  rw [Nat.lt_div_iff_mul_lt (by omega)]; omega
theorem row_rep {O : Nat → Prop} {W : World} {base k : Nat} {v : Value} {xs : List Int} (h : W.ownsRow base 28 1 v k (xs.map (Value.int .u32))) (hO : ∀ b, O b → b < base) : RepP O W (words false xs) v := by
  obtain ⟨h1, h2⟩ := h
  rw [List.length_map, Nat.mul_one] at h1
  subst h1
  rcases h2 with ⟨rfl, h0⟩ | ⟨g, cap, cur, rfl, hg, hgb, hcap, _, hsz, ht⟩
  · rw [List.eq_nil_of_length_eq_zero h0]
    exact .nilseq _ _ _ (fun h => by cases h)
  · refine words_shut (fun _ h => by have := hO g h; omega) hcap fun j hj => ?_
    have e1 := congrArg (fun z => z[j]?) ht
    simp only [List.getElem?_map] at e1
    rw [List.getElem?_take_of_lt (by omega), Array.getElem?_toList] at e1
    simp [World.cell?, hgb]
    rw [e1]
    simp [hj]
theorem boxed_below {W W' : World} {B : Nat} {t : TypeId} {v : Value} (h : Boxed W B t v) (hb : Below W.heap.size W W') : Boxed W' B t v := (hb.block B h.lt).trans h
theorem oper_append_own {F : Fence} {n : Nat} {P : Program} (w : World) {o : Oper} {a : Act} {K : Act → World → Prop} {Q : Exit → Act → World → Prop} {y : Nat → Option Bool} {X : Prop}
    (hw : Region.wanted o y = true) (s x : Operand) (t : TypeId) (hop : o.op = Op.call { callee := Callee.builtin Builtin.append, args := #[s, x], argTypes := #[t, t] })
    (base : Nat) (e : TypeId) (i : TypeInfo) (z : Value) (size bytes : Nat) (h1 : P.underlying t = some (.slice e)) (h2 : P.info? e = some i) (h3 : i.zero = some z) (h4 : i.size = size) (h5 : i.bytes = bytes) (h6 : z.cells.size = size) (h7 : 0 < size)
    (v : Value) (k : Nat) (xs : List Value) (hs : a.eval s = v) (hown : w.ownsRow base e size v k xs) (ad : Addr) (m c : Nat) (news : List Value) (hx : a.eval x = .slice (some ad) m c) (hn : news.length = m * size)
    (hc : ∀ j u, news[j]? = some u → w.cell? (ad.add j) = some u) (h1c : ∀ u ∈ news, u.oneCell' = true) (b1 : k + m ≤ maxLen) (b2 : (k + m) * bytes ≤ 140737488355328) (b3 : base ≤ w.heap.size)
    (hK : ∀ v' w', w'.ownsRow base e size v' (k + m) (xs ++ news) → w.grownBy w' v.ownBlock → K (a.put o.dst v') w') :
    if Region.wanted o y = true then o.wpIn F n P a w K Q else X := by
  rw [if_pos hw]
  obtain ⟨v', w', hrun, r1, r2, r3⟩ := run_append_own (P := P) w base t o.type e i z size bytes h1 h2 h3 h4 h5 h6 h7 v k xs hown ad m c news hn hc h1c b1 b2 b3
  unfold Oper.wpIn
  refine ⟨?_, ?_⟩
  · simp [Oper.about, hop, resolve, Target.leads, Sem.run_pure]
  · rw [Oper.semAt_plain F _ _ (by rw [hop]; intro c hc'; cases hc')]
    simp [execOp, hop, resolve, invoke, builtin, hs, hx, hrun, Result.andThen]
    exact hK v' w' r1 r2
theorem KB.of_below {Bs Bn : Nat} {W W' : World} (hb : Below W.heap.size W W') : KB Bs Bn W W' := ⟨fun v h => boxed_below h hb, fun v h => boxed_below h hb⟩
theorem KB.appended {Bs Bn Bt n₀ k : Nat} {W w1 : World} {v v' : Value} {xs : List Value} {tmp : Obj} (hrow : W.ownsRow n₀ 28 1 v k xs) (hgrow : (W.alloc tmp).grownBy w1 v.ownBlock) (h1 : Bs ≠ Bt) (h2 : Bn ≠ Bt) : KB Bs Bn W (w1.setCell ⟨Bt, 0, none⟩ v') :=
  ⟨fun u h => ((h.alloc tmp).kept hgrow (h.not_row (by decide) hrow)).kept (grownBy_setCell' w1 Bt v') (by simpa using h1),
   fun u h => ((h.alloc tmp).kept hgrow (h.not_row (by decide) hrow)).kept (grownBy_setCell' w1 Bt v') (by simpa using h2)⟩
set_option maxRecDepth 100000 in
set_option maxHeartbeats 4000000 in
theorem totals_in (O : Nat → Prop) (w : World) (hO : ∀ b, O b → b < w.heap.size) (a : Option Addr) (len cap : Nat) (b : Int) (l : List Int) (hl : ∀ x, x ∈ l → Pl.W32 x) (hlen : l.length = len)
    (hrep : 0 < len → ∃ b off, a = some ⟨b, off, none⟩ ∧ len ≤ cap ∧ ∀ j, j < len → w.cell? ⟨b, off + j, none⟩ = some (.int .u32 (l.getD j 0))) :
    CallsIn Fence.wide 9 Try.prog 35 #[.slice a len cap, .int .i64 b] w fun e w' => ∃ v, e = .returned v ∧ RepP O w' (words false (Pl.totR l b)) v ∧ Below w.heap.size w w' := by
  refine callsIn_of_wp_marks Try.func35 rfl trivial ?_ rfl
  simp only [Try.ntmps35, List.size_toArray, List.length_cons, List.length_nil, Nat.reduceAdd, Nat.reduceSub, Array.replicate_succ, Array.replicate_zero, List.push_toArray, List.append_toArray, List.nil_append, List.cons_append]
  have hbn := Pl.blk_nn len b
  gi_wp2_with (refine ⟨trivial, ?_⟩; gi_at_call 39; refine (blocks_in _ _ _ _).mono ?_; rintro e w1 ⟨rfl, hbw⟩)
  · have hz : Pl.blk len b = 0 := by rename_i h; simpa using h
    have hn0 : Pl.totR l b = [] := by rw [← Pl.totR_eq (l := l) (b := b) (u := 0) (by rw [hlen, hz]; exact Int.lt_irrefl 0) (by rw [hlen]; exact hbn.1)]; rfl
    rw [hn0]
    exact ⟨_, results_tmp rfl _ _ _, _, rfl, .nilseq _ _ _ (fun h => by cases h), (((Below.refl _ w).alloc (Nat.le_refl _) _).trans (hbw.mono (by simp)))⟩
  · have hz : ¬ Pl.blk len b = 0 := by
      have q : (Pl.blk len b == 0) = false := by assumption
      simpa using q
    obtain ⟨B, rfl, hB, hn, hlt, -, -⟩ := Pl.blk_in (n := len) (u := 0) (b := b) (by omega)
    obtain ⟨b0, off, rfl, hcap, hcell⟩ := hrep (by omega)
    refine ⟨trivial, ?_⟩
    gi_at_call 67
    refine (chunk_in Fence.wide _ trivial rfl _ len cap B hB w1).mono ?_
    rintro e w2 ⟨rfl, rfl⟩
    gi_wp2
    have bT : Boxed w1 w.heap.size 22 (.slice none 0 0) := (hbw.block _ (by simp)).trans (Boxed.new w 22 (.slice none 0 0))
    have bS : Boxed ((w1.alloc (.cells #[.slice (some ⟨b0, off, none⟩) len cap] 22)).alloc (.cells #[.int .i64 B] 3)) w1.heap.size 22 (.slice (some ⟨b0, off, none⟩) len cap) := (Boxed.new w1 22 _).alloc _
    have bN : Boxed ((w1.alloc (.cells #[.slice (some ⟨b0, off, none⟩) len cap] 22)).alloc (.cells #[.int .i64 B] 3)) (w1.heap.size + 1) 3 (.int .i64 B) := by have := Boxed.new (w1.alloc (.cells #[.slice (some ⟨b0, off, none⟩) len cap] 22)) 3 (.int .i64 B); rwa [World.size_alloc] at this
    have hw1 : w.heap.size < w1.heap.size := by have := hbw.size; simp at this; omega
    have hbe : Below w.heap.size w w1 := ((Below.refl _ w).alloc (Nat.le_refl _) _).trans (hbw.mono (by simp))
    have hB0 : Below w.heap.size w ((w1.alloc (.cells #[.slice (some ⟨b0, off, none⟩) len cap] 22)).alloc (.cells #[.int .i64 B] 3)) := (hbe.alloc (by omega) _).alloc (by simp; omega) _
    have hN : Pl.blkN len B ≤ 1000 := Pl.blkN_up hB hn
    obtain ⟨i0, hi, hz0, hz1, hz2⟩ := info_parts inf28
    have hmL : (1001 : Nat) ≤ maxLen := by unfold maxLen; omega
    have hpr : ∀ (x : Nat) (W' : World), Below w.heap.size w W' → RepP (fun _ => False) W' (words false (Pl.part l B x)) (chunkV b0 off len B x) := by
      intro x W' hW
      have hpl := Pl.part_len l B x
      have e1 : (x + 1) * B = x * B + B := by rw [Nat.add_mul, Nat.one_mul]
      have e2 : min B (len - x * B) = (Pl.part l B x).length := by rw [hpl, e1, hlen]; omega
      unfold chunkV
      rw [e2]
      refine words_shut (fun _ h => h) (Nat.le_refl _) fun j hj => ?_
      have hj2 : x * B + j < len := by rw [← e2] at hj; omega
      rw [Pl.part_get hj, Nat.add_assoc]
      have hc := hcell (x * B + j) hj2
      exact (World.cell?_of_block (w := w) (a := ⟨b0, off + (x * B + j), none⟩) (hW.block b0 (World.block_lt_of_cell? w ⟨b0, off + (x * B + j), none⟩ hc))).trans hc
    refine wpIn_rangeFunc_ownG rfl (by omega) (gf := 83) (lb := #[.pointer (some ⟨w1.heap.size, 0, none⟩), .pointer (some ⟨w1.heap.size + 1, 0, none⟩)]) rfl trivial (enters_of Try.func83 (by kernel_rfl) rfl)
      (chunk_stops Fence.wide _ trivial rfl (by omega) w1.heap.size (w1.heap.size + 1) b0 off len cap B (Pl.blkN len B) hB hn hcap (blkN_iff hB.1) _ bS bN) (fun h k => h.trans k) (fun W l o o' _ h1 h2 _ => KB.put W l o o' h1 h2) (Below.refl _ _) (fun _ => rfl)
      (fun pre W => (∃ v, Boxed W w.heap.size 22 v ∧ W.ownsRow w.heap.size 28 1 v pre.length ((pre.map fun k => Pl.allF Pl.add32 (Pl.part l B k)).map (Value.int .u32)) ∧ True) ∧ Below w.heap.size w W)
      (fun _ _ _ => False)
      (OwnFrom.and (Own.from (holdsRow_own w.heap.size w.heap.size 22 28 1 (fun pre : List Nat => pre.length) (fun pre => (pre.map fun k => Pl.allF Pl.add32 (Pl.part l B k)).map (Value.int .u32)) (fun _ _ => True)) _) (ownFrom_below (Nat.le_refl _) (by simp; omega)))
      (fun _ _ _ _ _ hs _ _ => hs)
      ⟨⟨_, (bT.alloc _).alloc _, World.ownsRow_nil _ _ _ _, trivial⟩, hB0⟩
      (fun x => { tmps := #[.slice (some ⟨b0, off, none⟩) len cap, .int .i64 B, undef, undef, .slice none 0 0, .pointer (some ⟨w.heap.size, 0, none⟩), chunkV b0 off len B x, .slice (some ⟨b0, off, none⟩) len cap, .int .i64 len, .int .i64 B, .int .i64 (Pl.blk len B), .bool false, .slice (some ⟨b0, off, none⟩) len cap, .int .i64 B, .func (.func 83) #[] #[.pointer (some ⟨w1.heap.size, 0, none⟩), .pointer (some ⟨w1.heap.size + 1, 0, none⟩)], chunkV b0 off len B x, undef, undef, undef, undef, undef, undef], defers := [] }) ?assign ?body ?done ?stop
    case assign =>
      intro l x W K hK
      unfold chunkV at *
      gi_wp2
      exact hK
    case body =>
      rintro lp pre x W ⟨⟨v, hv, hrow, -⟩, hb⟩ hlt
      have hc := hv.cell
      have hmx : Try.prog.follows .mixedOrders = true := by kernel_rfl
      have hpw : ∀ z, z ∈ Pl.part l B x → Pl.W32 z := Pl.part_w hl
      have hpn : (Pl.part l B x).length ≤ 1000000 := by rw [Pl.part_len, hlen]; omega
      gi_wp2
      refine wpIn_region_any (by assumption) ?_
      try (change wpAnyIn _ _ _ _ _ _ _ _ _ (World.drew _))
      iterate 6
        all_goals first
          | refine wpAnyIn_ready (rs := [0, 1]) (by decide +kernel) (by decide) (AllReadyIn.cons rfl (fun K hK => ?_) (AllReadyIn.cons rfl (fun K hK => ?_) AllReadyIn.nil))
          | refine wpAnyIn_ready (rs := [0, 2]) (by decide +kernel) (by decide) (AllReadyIn.cons rfl (fun K hK => ?_) (AllReadyIn.cons rfl (fun K hK => ?_) AllReadyIn.nil))
          | refine wpAnyIn_ready (rs := [0, 3]) (by decide +kernel) (by decide) (AllReadyIn.cons rfl (fun K hK => ?_) (AllReadyIn.cons rfl (fun K hK => ?_) AllReadyIn.nil))
          | refine wpAnyIn_ready (rs := [0]) (by decide +kernel) (by decide) (AllReadyIn.cons rfl (fun K hK => ?_) AllReadyIn.nil)
          | refine wpAnyIn_ready (rs := [1]) (by decide +kernel) (by decide) (AllReadyIn.cons rfl (fun K hK => ?_) AllReadyIn.nil)
          | refine wpAnyIn_ready (rs := [2]) (by decide +kernel) (by decide) (AllReadyIn.cons rfl (fun K hK => ?_) AllReadyIn.nil)
          | refine wpAnyIn_ready (rs := [3]) (by decide +kernel) (by decide) (AllReadyIn.cons rfl (fun K hK => ?_) AllReadyIn.nil)
          | refine wpAnyIn_ready (rs := [4]) (by decide +kernel) (by decide) (AllReadyIn.cons rfl (fun K hK => ?_) AllReadyIn.nil)
          | refine wpAnyIn_ready (rs := [5]) (by decide +kernel) (by decide) (AllReadyIn.cons rfl (fun K hK => ?_) AllReadyIn.nil)
        all_goals first
          | (refine oper_append_own _ rfl _ _ 22 rfl w.heap.size 28 i0 (.int .u32 0) 1 4 und22 hi hz0 hz1 hz2 rfl (by decide) _ _ _ rfl (hrow3.alloc _) ⟨w3.heap.size, 0, none⟩ 1 1 [.int .u32 (Pl.allF Pl.add32 (Pl.part l B x))] rfl rfl (cell_one_new _ _ _) (by simp [Value.oneCell']) (by omega) (by omega) (by have := hb4.size; simp; omega) ?_; intro v' w5 hown' hgrow; obtain ⟨g', cap', rfl⟩ := ownsRow_succ hown'; obtain ⟨hv1, hv2, hr2, hk2, hb2⟩ := hv3.appended (by decide) hrow3 hb4.size (Nat.le_refl _) hown' hgrow; have hc1 := hv1.cell; have hf1 := hv1.frozen; have hkb := KB.appended (Bs := w1.heap.size) (Bn := w1.heap.size + 1) (Bt := w.heap.size) (v' := .slice (some ⟨g', 0, none⟩) (pre.length + 1) cap') hrow3 hgrow (by omega) (by omega))
          | (go_simp; (refine ⟨trivial, ?_⟩; gi_at_call 68; refine (CallsIn.inRound lp (sum_in _ _ _ false (Pl.part l B x) hpw hpn (hpr x _ (by first | exact hb | exact hb.drew)))).mono ?_; rintro e w3 ⟨rfl, hb3⟩; have hv3 : Boxed w3 w.heap.size 22 v := boxed_below (W := W.drew) hv hb3; have hrow3 := row_below (W := W.drew) hrow hb3; have hc3 := hv3.cell; have hc4 := (hv3.alloc (.cells #[.int .u32 (Pl.allF Pl.add32 (Pl.part l B x))] 28)).cell; have hb4 : Below w.heap.size w w3 := hb.drew.trans (hb3.mono hb.size); dsimp only))
          | go_simp
        all_goals (refine hK _ _ ?_; clear hK K)
      all_goals refine wpAnyIn_done (by decide +kernel) ?_ _
      all_goals gi_wp2
      all_goals exact ⟨(show KeepsFrom _ W w3 from ⟨hb3.size, fun i o _ ho _ => (hb3.block i (Array.getElem?_eq_some_iff.1 ho).1).trans ho⟩).trans (hk2.from _), (show KB _ _ W w3 from KB.of_below (W := W.drew) hb3).trans hkb, ⟨_, hv2, by simpa using hr2, trivial⟩, hb4.trans hb2⟩
    case done =>
      rintro D ys W hD rfl ⟨⟨v, hv, hrow, -⟩, hb⟩ hK
      have hc := hv.cell
      gi_wp2
      refine ⟨by simp, .inl ⟨_, _, rfl, run_takeDeferred hK, ?_⟩⟩
      have htot : Pl.totR l (B : Int) = (List.range (Pl.blkN len B)).map fun k => Pl.allF Pl.add32 (Pl.part l B k) := by
        unfold Pl.totR
        rw [if_pos ⟨by omega, by omega, by omega, by omega⟩, Int.toNat_natCast, hlen]; rfl
      rw [htot]
      exact ⟨_, results_tmp rfl _ _ _, v, rfl, row_rep (ownsRow_putObj hrow _ hK rfl) hO, hb.trans (belowK_b (w := w) (Nat.le_refl _) W D _ _ (by simp at hD; omega) hK rfl rfl)⟩
    case stop =>
      rintro D c pre W _ _ h _
      exact h.elim
theorem c_scan_Totals (c : Bool) (l : List Int) (b : Int) (hl : ∀ x, x ∈ l → Pl.W32 x) : PCall Try.prog 35 [words c l, iV b] (words false (Pl.totR l b)) := by
  intro O w vs hO hsz hr
  have r0 := hr 0 _ rfl
  have r1 := hr 1 _ rfl
  obtain ⟨v0, v1, rfl⟩ : ∃ v0 v1, vs = #[v0, v1] := by
    rcases vs with ⟨_ | ⟨a, _ | ⟨b, _ | _⟩⟩⟩ <;> simp at hsz
    exact ⟨a, b, rfl⟩
  obtain ⟨a, cap, h1, h2⟩ := words_open (show RepP O w (words c l) v0 from r0)
  have h3 : v1 = .int .i64 b := by
    obtain ⟨q, hq⟩ : ∃ q, q = v1 := ⟨_, rfl⟩
    have r1' : RepP O w (iV b) v1 := r1
    rw [← hq] at r1' ⊢
    cases r1'; rfl
  subst h1 h3
  exact (callsIn_wide (n := 9)).1 (totals_in O w hO a l.length cap b l hl rfl h2)
end Go.Proofs.Ythelnccjcbnjfaa
end
section
set_option linter.unusedSimpArgs false
set_option linter.unusedVariables false
set_option maxRecDepth 100000
namespace Go.Proofs.Ythelnccjcbnjfaa
open Go.Am Go.Proofs
set_option maxHeartbeats 4000000 in
theorem c_ref07_Words (c d : Bool) (a b : List Int) (ha : a.length ≤ 1000000) : PCall Try.prog 22 [words c a, words d b] (bV (decide (a = b))) := by
 refine pcall_of_awp Try.func22 rfl (by simp [Try.ntmps22]) fun C hC => ?_
 refine awp_le (le_keep [0, 1]) ?_
 simp only [kp, argSl, simprocAttr]
 refine awp_sr [] (by rw [hC]; rfl) fun k hk => ?_
 simp (maxSteps := 9^9) (disch := (try simp only [lens]); omega) only [argSl, sm, ↓amb, mark_eq, simprocAttr, dx]
 repeat refine ⟨by first | omega | (simp; done) | (unfold maxLen; omega) | (simp [maxLen]; omega) | assumption, ?_⟩
 refine hk _ ?_; clear hk k
 refine awp_seq fun k1 h1 => ?_
 refine awp_le (le_keep [0, 1, 4]) ?_
 simp only [kp, argSl, simprocAttr]
 refine awp_sr [] (by rw [hC]; rfl) fun k hk => ?_
 simp (maxSteps := 9^9) (disch := (try simp only [lens]); omega) only [argSl, sm, ↓amb, mark_eq, simprocAttr, el22, dx]
 repeat refine ⟨by first | omega | (simp; done) | (unfold maxLen; omega) | (simp [maxLen]; omega) | assumption, ?_⟩
 refine hk _ ?_; clear hk k
 refine awp_cond rfl (fun hb => ?_) (fun hb => ?_)
 ·try simp only [hbx] at hb
  refine awp_le (le_keep []) ?_
  simp only [kp, argSl, simprocAttr]
  refine awp_sr [] (by rw [hC]; rfl) fun k hk => ?_
  simp (maxSteps := 9^9) (disch := (try simp only [lens]); omega) only [argSl, sm, ↓amb, mark_eq, simprocAttr, dx]
  repeat refine ⟨by first | omega | (simp; done) | (unfold maxLen; omega) | (simp [maxLen]; omega) | assumption, ?_⟩
  refine hk _ ?_; clear hk k
  refine awp_ret ?_
  refine ret1 rfl rfl ?_
  exact .p (LeP.of_eq (by rw [decide_eq_false (fun e => hb (by rw [e]))]))
 ·try simp only [hbx] at hb
  refine awp_skip ?_
  refine h1 _ ?_; clear h1 k1
  refine awp_seq fun k2 h2 => ?_
  refine awp_le (le_keep [0, 1, 4]) ?_
  simp only [kp, argSl, simprocAttr]
  have hab : a.length = b.length := by omega
  refine awp_sr [] (by rw [hC]; rfl) fun k hk => ?_
  simp (maxSteps := 9^9) (disch := (try simp only [lens]); omega) only [argSl, sm, ↓amb, mark_eq, simprocAttr, dx]
  repeat refine ⟨by first | omega | (simp; done) | (unfold maxLen; omega) | (simp [maxLen]; omega) | assumption, ?_⟩
  refine hk _ ?_; clear hk k
  refine awp_block ?_
  refine awp_loop (σ := Nat) (fun i => i ≤ a.length ∧ ∀ j, j < i → a.getD j 0 = b.getD j 0) (fun (i : Nat) => ⟨[(0, (.p (words c a))), (1, (.p (words d b))), (5, (.p (iV i)))], [], 1⟩) (fun i => a.length - i) 0 ?_ ?_ fun i hi => ?_
  ·exact ⟨Nat.zero_le _, fun j hj => by omega⟩
  ·exact le_of [] (by rfl) (by rfl) ⟨⟨_, rfl, .p (.of_eq (by first | rfl | (simp only [PV.lit.injEq, Value.int.injEq, true_and]; omega) | (simp; done) | (simp; omega)))⟩, ⟨_, rfl, .p (.of_eq (by first | rfl | (simp only [PV.lit.injEq, Value.int.injEq, true_and]; omega) | (simp; done) | (simp; omega)))⟩, ⟨_, rfl, .p (.of_eq (by first | rfl | (simp only [PV.lit.injEq, Value.int.injEq, true_and]; omega) | (simp; done) | (simp; omega)))⟩, trivial⟩ trivial
  obtain ⟨hi1, hi2⟩ := hi
  refine awp_seq fun k4 h4 => ?_
  refine awp_le (le_keep [0, 1, 4, 5]) ?_
  simp only [kp, argSl, simprocAttr]
  refine awp_sr [] (by rw [hC]; rfl) fun k hk => ?_
  simp (maxSteps := 9^9) (disch := (try simp only [lens]); omega) only [argSl, sm, ↓amb, mark_eq, simprocAttr, el22, dx]
  repeat refine ⟨by first | omega | (simp; done) | (unfold maxLen; omega) | (simp [maxLen]; omega) | assumption, ?_⟩
  refine hk _ ?_; clear hk k
  refine awp_cond rfl (fun hb => ?_) (fun hb => ?_)
  ·try simp only [hbx] at hb
   refine awp_skip ?_
   refine h4 _ ?_; clear h4 k4
   refine awp_seq fun k5 h5 => ?_
   refine awp_block ?_
   refine awp_le (le_keep [0, 1, 4, 5]) ?_
   simp only [kp, argSl, simprocAttr]
   refine awp_sd [] ⟨[0, 0, 3, 7, 0, 0, 48, 112, 255], [3, 7], [], [], some []⟩ (by rw [hC]; rfl) (by kernel_rfl) (by kernel_rfl) fun k hk => ?_
   simp (maxSteps := 9^9) (disch := (try simp only [lens]); omega) only [argSl, sm, ↓amb, mark_eq, simprocAttr, el22, sz28, dx]
   repeat refine ⟨by first | omega | (simp; done) | (unfold maxLen; omega) | (simp [maxLen]; omega) | assumption, ?_⟩
   refine hk _ ?_; clear hk k
   refine awp_cond rfl (fun hb => ?_) (fun hb => ?_)
   ·try simp only [hbx] at hb
    refine awp_le (le_keep []) ?_
    simp only [kp, argSl, simprocAttr]
    refine awp_sr [] (by rw [hC]; rfl) fun k hk => ?_
    simp (maxSteps := 9^9) (disch := (try simp only [lens]); omega) only [argSl, sm, ↓amb, mark_eq, simprocAttr, dx]
    repeat refine ⟨by first | omega | (simp; done) | (unfold maxLen; omega) | (simp [maxLen]; omega) | assumption, ?_⟩
    refine hk _ ?_; clear hk k
    refine awp_ret ?_
    refine ret1 rfl rfl ?_
    exact .p (LeP.of_eq (by rw [decide_eq_false (fun e => hb (by rw [e]))]))
   ·try simp only [hbx] at hb
    refine awp_skip ?_
    refine h5 _ ?_; clear h5 k5
    refine awp_region [] (by rw [hC]; rfl) fun k hk => ?_
    simp (maxSteps := 9^9) (disch := (try simp only [lens]); omega) only [argSl, sm, ↓amb, mark_eq, simprocAttr, dx]
    repeat refine ⟨by first | omega | (simp; done) | (unfold maxLen; omega) | (simp [maxLen]; omega) | assumption, ?_⟩
    refine hk _ ?_; clear hk k
    refine ⟨i + 1, ⟨by omega, fun j hj => by by_cases e : j = i; subst e; exact hb; exact hi2 j (by omega)⟩, le_of [] (by rfl) (by rfl) ⟨⟨_, rfl, .p (.of_eq (by first | rfl | (simp only [PV.lit.injEq, Value.int.injEq, true_and]; omega) | (simp; done) | (simp; omega)))⟩, ⟨_, rfl, .p (.of_eq (by first | rfl | (simp only [PV.lit.injEq, Value.int.injEq, true_and]; omega) | (simp; done) | (simp; omega)))⟩, ⟨_, rfl, .p (.of_eq (by first | rfl | (simp only [PV.lit.injEq, Value.int.injEq, true_and]; omega) | (simp; done) | (simp; omega)))⟩, trivial⟩ trivial, by omega⟩
  ·try simp only [hbx] at hb
   refine awp_exit ((if_pos rfl).mpr ?_)
   refine h2 _ ?_; clear h4 k4; clear h2 k2
   refine awp_le (le_keep []) ?_
   simp only [kp, argSl, simprocAttr]
   refine awp_sr [] (by rw [hC]; rfl) fun k hk => ?_
   simp (maxSteps := 9^9) (disch := (try simp only [lens]); omega) only [argSl, sm, ↓amb, mark_eq, simprocAttr, dx]
   repeat refine ⟨by first | omega | (simp; done) | (unfold maxLen; omega) | (simp [maxLen]; omega) | assumption, ?_⟩
   refine hk _ ?_; clear hk k
   refine awp_ret ?_
   refine ret1 rfl rfl ?_
   exact .p (LeP.of_eq (by rw [decide_eq_true (Pl.list_of hab (by omega) hi2)]))
end Go.Proofs.Ythelnccjcbnjfaa
end
