/-
  BoundScans, part 5 of 7: what the proof that the law holds at whatever arguments stands on; the last part holds the theorem. No condition.
-/
import Derived.Test.YtjkkjiaeeobnkaaBoundScansZ4
import Derived.Test.YtjkkjiaeeobnkaaRows
section
set_option linter.unusedSimpArgs false
set_option linter.unusedVariables false
set_option maxRecDepth 100000
namespace Go.Proofs.Ytjkkjiaeeobnkaa
open Go.Am Go.Proofs
theorem ar93 : tArr Try.prog 93 = some (2, 1, false) := by kernel_rfl
theorem bt117 : tBuilt Try.prog 117 = true := by kernel_rfl
theorem bt135 : tBuilt Try.prog 135 = true := by kernel_rfl
theorem by117 : tBytes Try.prog 117 = some 16 := by kernel_rfl
theorem el114 : tEl Try.prog 114 = some 117 := by kernel_rfl
theorem el49 : tEl Try.prog 49 = some 93 := by kernel_rfl
theorem el93 : tEl Try.prog 93 = none := by kernel_rfl
theorem en87 : enters Try.prog 87 = true := by kernel_rfl
theorem en96 : enters Try.prog 96 = true := by kernel_rfl
theorem pl117_0 : tPlace Try.prog 117 0 = some (0, 1) := by kernel_rfl
theorem pl117_1 : tPlace Try.prog 117 1 = some (1, 1) := by kernel_rfl
theorem pl135_0 : tPlace Try.prog 135 0 = some (0, 7) := by kernel_rfl
theorem sz93 : tSz Try.prog 93 = some (true, 2) := by kernel_rfl
theorem vr117 : tVar Try.prog 117 = some (true, [.lit (.int .i64 0), .lit (.int .i64 0)]) := by kernel_rfl
theorem vr135 : tVar Try.prog 135 = some (true, [.seq true [], .lit (.int .i64 0), .seq true [], .seq true [], .lit (.bool false), .lit (.int .i64 0), .lit (.int .i64 0), .seq true []]) := by kernel_rfl
theorem vr93 : tVar Try.prog 93 = some (true, [.lit (.int .i64 0), .lit (.int .i64 0)]) := by kernel_rfl
set_option maxHeartbeats 4000000 in
theorem c_drain_Whole (cp : Bool) (n g w : Int) (P : List (Int × Int)) (hok : Pl.bdOk n g w) (hP : P.length ≤ 70000) : PCall Try.prog 75 [iV n, iV g, iV w, picksV cp P] (.tup [.agg (crewC (Pl.whole n g w P).1), .seq false ((Pl.whole n g w P).2.1.map evC), iV 0]) := by
 obtain ⟨hcn, hww⟩ := hok
 obtain ⟨b0, b1, b2, b3, b4, b5, b6⟩ := Pl.picked_ok (P := P) hcn hww hP
 have hcn' := hcn
 unfold Pl.cnt at hcn'
 refine yV Try.func75 rfl (by simp [Try.ntmps75]) fun C hC => ?_
 refine zW (zV [0, 1, 2, 3]) ?_
 simp only [kp, zJ, simprocAttr]
 refine zK [] (by rw [hC]; rfl) fun k hk => ?_
 simp (maxSteps := 9^9) (disch := (try simp only [lens]); omega) only [zJ, sm, ↓amb, zQ, simprocAttr, vr110, dx]
 repeat refine ⟨by first | omega | (simp; done) | (unfold maxLen; omega) | (simp [maxLen]; omega) | assumption, ?_⟩
 refine hk _ ?_; clear hk k
 refine zW (zV [0, 1, 2, 3, 8]) ?_
 simp only [kp, zJ, simprocAttr]
 refine zK [] (by rw [hC]; rfl) fun k hk => ?_
 simp (maxSteps := 9^9) (disch := (try simp only [lens]); omega) only [zJ, sm, ↓amb, zQ, simprocAttr, en87, vr110, sz110, dx]
 repeat refine ⟨by first | omega | (simp; done) | (unfold maxLen; omega) | (simp [maxLen]; omega) | assumption, ?_⟩
 refine yW (c42 _ _ _ (by omega)) rfl ?_
 simp (maxSteps := 9^9) (disch := (try simp only [lens]); omega) only [zJ, sm, ↓amb, zQ, simprocAttr, en87, vr110, sz110, dx]
 repeat refine ⟨by first | omega | (simp; done) | (unfold maxLen; omega) | (simp [maxLen]; omega) | assumption, ?_⟩
 refine hk _ ?_; clear hk k
 refine zY fun k1 h1 => ?_
 refine zW (zV [3, 8, 9, 10, 11, 12]) ?_
 simp only [kp, zJ, simprocAttr]
 rw [b0]
 refine zK [] (by rw [hC]; rfl) fun k hk => ?_
 simp (maxSteps := 9^9) (disch := (try simp only [lens]); omega) only [zJ, sm, ↓amb, zQ, simprocAttr, dx]
 repeat refine ⟨by first | omega | (simp; done) | (unfold maxLen; omega) | (simp [maxLen]; omega) | assumption, ?_⟩
 refine hk _ ?_; clear hk k
 refine zX rfl (fun hb => ?_) (fun hb => ?_)
 ·exact absurd hb (by simp)
 ·try simp only [hbx] at hb
  refine yJ ?_
  refine h1 _ ?_; clear h1 k1
  refine zW (zV [3, 8, 11]) ?_
  simp only [kp, zJ, simprocAttr]
  refine zK [] (by rw [hC]; rfl) fun k hk => ?_
  simp (maxSteps := 9^9) (disch := (try simp only [lens]); omega) only [zJ, sm, ↓amb, zQ, simprocAttr, sz110, vr135, bt135, pl135_0, dx]
  repeat refine ⟨by first | omega | (simp; done) | (unfold maxLen; omega) | (simp [maxLen]; omega) | assumption, ?_⟩
  refine hk _ ?_; clear hk k
  refine zY fun k2 h2 => ?_
  refine zW (zV [3, 8, 9, 10, 13]) ?_
  simp only [kp, zJ, simprocAttr]
  refine awp_ownCs 13 4 7 rfl rfl rfl ?_
  simp only [am, List.set_cons_succ, List.set_cons_zero, Nat.reduceEqDiff, ↓reduceIte, reduceCtorEq, Nat.reduceAdd, Nat.reduceMul]
  refine zK [] (by rw [hC]; rfl) fun k hk => ?_
  simp (maxSteps := 9^9) (disch := (try simp only [lens]); omega) only [zJ, sm, ↓amb, zQ, simprocAttr, el49, dx]
  repeat refine ⟨by first | omega | (simp; done) | (unfold maxLen; omega) | (simp [maxLen]; omega) | assumption, ?_⟩
  refine hk _ ?_; clear hk k
  refine yK ?_
  refine yY (σ := Nat × Pl.Crew × List Pl.Event) (fun x => x.1 ≤ P.length ∧ Pl.Run n g x.2.1 x.2.2 ∧ Pl.picked (P.drop x.1) x.2.1 x.2.2 = (Pl.picked P (Pl.crewBegin n g w).1 []) ∧ x.2.2.length ≤ x.1) (fun x => ⟨[(8, (.ptr 0 7 0 0)), (13, (.ptr 1 8 0 0)), (31, (.p (picksV cp P))), (32, (.p (iV P.length))), (33, (.p (iV (x.1 : Int))))], [(0, (.row 7 [[.p (.seq true []), .p (iV 0), .p (.seq true []), .p (.seq true []), .p (bV false), .p (iV 0), .p (iV 0)]])), (1, (.row 8 [[.p (.seq false (x.2.1.work.ts.map taskC)), .p (iV x.2.1.work.grain), .p (.seq false (x.2.1.work.done.map fun b => [bV b])), .p (.seq false (x.2.1.dq.map lV)), .p (bV x.2.1.over), .p (iV x.2.1.steps), .p (iV x.2.1.idle), .own 2]])), (2, (.row 4 (lift (x.2.2.map evC))))], 1⟩) (fun x => P.length - x.1) (0, (Pl.crewBegin n g w).1, []) ?_ ?_ fun x hx => ?_
  ·exact ⟨Nat.zero_le _, b1, rfl, Nat.le_refl _⟩
  ·exact le_of [(0, _), (1, _), (2, _)] (by rfl) (by rfl) ⟨⟨_, rfl, .ptr rfl⟩, ⟨_, rfl, .ptr rfl⟩, ⟨_, rfl, .p (.of_eq (by first | rfl | (simp only [PV.lit.injEq, Value.int.injEq, true_and]; omega) | (simp; done) | (simp; omega)))⟩, ⟨_, rfl, .p (.of_eq (by first | rfl | (simp only [PV.lit.injEq, Value.int.injEq, true_and]; omega) | (simp; done) | (simp; omega)))⟩, ⟨_, rfl, .p (.of_eq (by first | rfl | (simp only [PV.lit.injEq, Value.int.injEq, true_and]; omega) | (simp; done) | (simp; omega)))⟩, trivial⟩ ⟨⟨_, rfl, _, rfl, .one (.cons (.p (.refl _)) (.cons (.p (.refl _)) (.cons (.p (.refl _)) (.cons (.p (.refl _)) (.cons (.p (.refl _)) (.cons (.p (.refl _)) (.cons (.p (.refl _)) (.nil))))))))⟩, ⟨_, rfl, _, rfl, .one (.cons (.p (.refl _)) (.cons (.p (.refl _)) (.cons (.p (.refl _)) (.cons (.p (.refl _)) (.cons (.p (.refl _)) (.cons (.p (.refl _)) (.cons (.p (.refl _)) (.cons (.own rfl) (.nil)))))))))⟩, ⟨_, rfl, _, rfl, .liftE (by first | rfl | simp)⟩, trivial⟩
  obtain ⟨i, c, ev⟩ := x
  obtain ⟨hi, hR, hK, hel⟩ := hx
  dsimp only at hi hR hK hel
  refine zW (zV [0, 1, 2, 8, 9, 10, 13, 31, 32, 33]) ?_
  simp only [kp, zJ, simprocAttr]
  refine zK [] (by rw [hC]; rfl) fun k hk => ?_
  simp (maxSteps := 9^9) (disch := (try simp only [lens]); omega) only [zJ, sm, ↓amb, zQ, simprocAttr, dx]
  repeat refine ⟨by first | omega | (simp; done) | (unfold maxLen; omega) | (simp [maxLen]; omega) | assumption, ?_⟩
  refine hk _ ?_; clear hk k
  refine zY fun k4 h4 => ?_
  refine zX rfl (fun hb => ?_) (fun hb => ?_)
  ·try simp only [hbx] at hb
   refine yJ ?_
   refine h4 _ ?_; clear h4 k4
   refine zY fun k5 h5 => ?_
   refine yK ?_
   refine zW (zV [0, 1, 2, 8, 9, 10, 13, 31, 32, 33]) ?_
   simp only [kp, zJ, simprocAttr]
   refine zK [] (by rw [hC]; rfl) fun k hk => ?_
   simp (maxSteps := 9^9) (disch := (try simp only [lens]); omega) only [zJ, sm, ↓amb, zQ, simprocAttr, el49, sz93, vr93, dx]
   repeat refine ⟨by first | omega | (simp; done) | (unfold maxLen; omega) | (simp [maxLen]; omega) | assumption, ?_⟩
   refine hk _ ?_; clear hk k
   refine zY fun k6 h6 => ?_
   refine zW (zV [0, 1, 2, 8, 9, 10, 13, 15, 31, 32, 33]) ?_
   simp only [kp, zJ, simprocAttr]
   refine zK [] (by rw [hC]; rfl) fun k hk => ?_
   simp (maxSteps := 9^9) (disch := (try simp only [lens]); omega) only [zJ, sm, ↓amb, zQ, simprocAttr, fl135_0, fl110_2, sz4, dx]
   repeat refine ⟨by first | omega | (simp; done) | (unfold maxLen; omega) | (simp [maxLen]; omega) | assumption, ?_⟩
   refine hk _ ?_; clear hk k
   refine zX rfl (fun hb => ?_) (fun hb => ?_)
   ·try simp only [hbx] at hb
    refine yX ((if_neg (by decide)).mpr ((if_pos rfl).mpr ?_))
    refine h2 _ ?_; clear h6 k6; clear h5 k5; clear h2 k2
    refine zW (zV [8, 13]) ?_
    simp only [kp, zJ, simprocAttr]
    have he0 : (Pl.picked P (Pl.crewBegin n g w).1 []) = (c, ev, 0) := by first | (rw [← hK]; exact Pl.picked_nil (by omega)) | (rw [← hK]; exact Pl.picked_over _ (by first | exact hb | simp [hb]))
    have hM : Pl.most n g 0 c ev ≤ 16010 := by rw [he0] at b5; exact b5
    have hW : (Pl.whole n g w P) = Pl.rounds 20000 0 c ev := by rw [b6, he0]
    rw [hW]
    refine zK [] (by rw [hC]; rfl) fun k hk => ?_
    simp (maxSteps := 9^9) (disch := (try simp only [lens]); omega) only [zJ, sm, ↓amb, zQ, simprocAttr, en96, dx]
    repeat refine ⟨by first | omega | (simp; done) | (unfold maxLen; omega) | (simp [maxLen]; omega) | assumption, ?_⟩
    refine callK_h (c_drain_go1_rounds n g c ev hR hM (by omega)) [1, 2] [] (by first | rfl | (simp only [hm]; done)) (by first | rfl | (simp [namesOk, lkp]; done)) ?_ ?_ ?_ ?_ ?_ ?_ ?_
    (iterate 6 (focus (first | trivial | (intro n hn; cases hn; done) | (simp (maxSteps := 9^9) (disch := (try simp only [lens]); omega) only [zJ, sm, ↓amb, zQ, simprocAttr, en96, dx, hmx, List.filter_cons, Nat.reduceBNe, imp_self, implies_true]; done))))
    simp (maxSteps := 9^9) (disch := (try simp only [lens]); omega) only [zJ, sm, ↓amb, zQ, simprocAttr, en96, dx, hm, List.filter_cons, List.filter_nil, Nat.reduceBNe, Option.map_none]
    repeat refine ⟨by first | omega | (simp; done) | (unfold maxLen; omega) | (simp [maxLen]; omega) | assumption, ?_⟩
    refine hk _ ?_; clear hk k
    refine zW (zV [8, 12, 13]) ?_
    simp only [kp, zJ, simprocAttr]
    refine awp_sd [] ⟨[0, 1, 3, 7, 0, 16, 48, 112, 0, 15, 767, 2047], [], [9], [], some [0]⟩ (by rw [hC]; rfl) (by kernel_rfl) (by kernel_rfl) fun k hk => ?_
    simp (maxSteps := 9^9) (disch := (try simp only [lens]); omega) only [zJ, sm, ↓amb, zQ, simprocAttr, fl135_0, sz110, fl135_1, sz111, dx]
    repeat refine ⟨by first | omega | (simp; done) | (unfold maxLen; omega) | (simp [maxLen]; omega) | assumption, ?_⟩
    refine hk _ ?_; clear hk k
    refine yQ ?_
    refine retl rfl rfl ⟨retc rfl sz110 ?_, rett rfl ?_, rett rfl ?_, trivial⟩
    simp (maxSteps := 9^9) (disch := (try simp only [lens]); omega) only [zJ, sm, ↓amb, zQ, simprocAttr, sz110, dx]
    ·exact .p (LeP.refl _)
    ·exact .p (LeP.refl _)
    ·exact .p (LeP.refl _)
   ·try simp only [hbx] at hb
    refine yJ ?_
    refine h6 _ ?_; clear h6 k6
    refine zW (zV [0, 1, 2, 8, 9, 10, 13, 15, 31, 32, 33]) ?_
    simp only [kp, zJ, simprocAttr]
    have ho : ¬ c.over = true := by simp [hb]
    obtain ⟨hs1, hs2⟩ := hR.step (by omega) (P.getD i default).1 (P.getD i default).2
    have hs3 := Pl.picked_on (l := ev) (P := P) (i := i) (by omega) ho hs1
    refine zK [] (by rw [hC]; rfl) fun k hk => ?_
    simp (maxSteps := 9^9) (disch := (try simp only [lens]); omega) only [zJ, sm, ↓amb, zQ, simprocAttr, el93, ar93, sz3, en95, dx]
    repeat refine ⟨by first | omega | (simp; done) | (unfold maxLen; omega) | (simp [maxLen]; omega) | assumption, ?_⟩
    refine callK_h (c_drain_go1_step c ev _ _ (Pl.good_hl hR.gd) hs1 (by omega)) [1, 2] [] (by first | rfl | (simp only [hm]; done)) (by first | rfl | (simp [namesOk, lkp]; done)) ?_ ?_ ?_ ?_ ?_ ?_ ?_
    (iterate 6 (focus (first | trivial | (intro n hn; cases hn; done) | (simp (maxSteps := 9^9) (disch := (try simp only [lens]); omega) only [zJ, sm, ↓amb, zQ, simprocAttr, el93, ar93, sz3, en95, dx, hmx, List.filter_cons, Nat.reduceBNe, imp_self, implies_true]; done))))
    simp (maxSteps := 9^9) (disch := (try simp only [lens]); omega) only [zJ, sm, ↓amb, zQ, simprocAttr, el93, ar93, sz3, en95, dx, hm, List.filter_cons, List.filter_nil, Nat.reduceBNe, Option.map_none]
    repeat refine ⟨by first | omega | (simp; done) | (unfold maxLen; omega) | (simp [maxLen]; omega) | assumption, ?_⟩
    refine hk _ ?_; clear hk k
    refine zW (zV [0, 1, 2, 8, 9, 10, 13, 16, 31, 32, 33]) ?_
    simp only [kp, zJ, simprocAttr]
    refine zK [] (by rw [hC]; rfl) fun k hk => ?_
    simp (maxSteps := 9^9) (disch := (try simp only [lens]); omega) only [zJ, sm, ↓amb, zQ, simprocAttr, dx]
    repeat refine ⟨by first | omega | (simp; done) | (unfold maxLen; omega) | (simp [maxLen]; omega) | assumption, ?_⟩
    refine hk _ ?_; clear hk k
    refine zX rfl (fun hb => ?_) (fun hb => ?_)
    ·exact absurd hb (by simp)
    ·try simp only [hbx] at hb
     refine yJ ?_
     refine h5 _ ?_; clear h5 k5
     refine yZ [] (by rw [hC]; rfl) fun k hk => ?_
     simp (maxSteps := 9^9) (disch := (try simp only [lens]); omega) only [zJ, sm, ↓amb, zQ, simprocAttr, dx]
     repeat refine ⟨by first | omega | (simp; done) | (unfold maxLen; omega) | (simp [maxLen]; omega) | assumption, ?_⟩
     refine hk _ ?_; clear hk k
     refine ⟨(i + 1, (Pl.step c (P.getD i default).1 (P.getD i default).2).1, ev ++ [(Pl.step c (P.getD i default).1 (P.getD i default).2).2.1]), ⟨by dsimp only; omega, hs2, by rw [← hK, hs3], by simp; omega⟩, le_of [(0, _), (1, _), (2, _)] (by rfl) (by rfl) ⟨⟨_, rfl, .ptr rfl⟩, ⟨_, rfl, .ptr rfl⟩, ⟨_, rfl, .p (.of_eq (by first | rfl | (simp only [PV.lit.injEq, Value.int.injEq, true_and]; omega) | (simp; done) | (simp; omega)))⟩, ⟨_, rfl, .p (.of_eq (by first | rfl | (simp only [PV.lit.injEq, Value.int.injEq, true_and]; omega) | (simp; done) | (simp; omega)))⟩, ⟨_, rfl, .p (.of_eq (by first | rfl | (simp only [PV.lit.injEq, Value.int.injEq, true_and]; omega) | (simp; done) | (simp; omega)))⟩, trivial⟩ ⟨⟨_, rfl, _, rfl, .one (.cons (.p (.refl _)) (.cons (.p (.refl _)) (.cons (.p (.refl _)) (.cons (.p (.refl _)) (.cons (.p (.refl _)) (.cons (.p (.refl _)) (.cons (.p (.refl _)) (.nil))))))))⟩, ⟨_, rfl, _, rfl, .one (.cons (.p (.refl _)) (.cons (.p (.refl _)) (.cons (.p (.refl _)) (.cons (.p (.refl _)) (.cons (.p (.refl _)) (.cons (.p (.refl _)) (.cons (.p (.refl _)) (.cons (.own rfl) (.nil)))))))))⟩, ⟨_, rfl, _, rfl, .liftE (by first | rfl | simp)⟩, trivial⟩, by dsimp only; omega⟩
  ·try simp only [hbx] at hb
   refine yX ((if_pos rfl).mpr ?_)
   refine h2 _ ?_; clear h4 k4; clear h2 k2
   refine zW (zV [8, 13]) ?_
   simp only [kp, zJ, simprocAttr]
   have he0 : (Pl.picked P (Pl.crewBegin n g w).1 []) = (c, ev, 0) := by first | (rw [← hK]; exact Pl.picked_nil (by omega)) | (rw [← hK]; exact Pl.picked_over _ (by first | exact hb | simp [hb]))
   have hM : Pl.most n g 0 c ev ≤ 16010 := by rw [he0] at b5; exact b5
   have hW : (Pl.whole n g w P) = Pl.rounds 20000 0 c ev := by rw [b6, he0]
   rw [hW]
   refine zK [] (by rw [hC]; rfl) fun k hk => ?_
   simp (maxSteps := 9^9) (disch := (try simp only [lens]); omega) only [zJ, sm, ↓amb, zQ, simprocAttr, en96, dx]
   repeat refine ⟨by first | omega | (simp; done) | (unfold maxLen; omega) | (simp [maxLen]; omega) | assumption, ?_⟩
   refine callK_h (c_drain_go1_rounds n g c ev hR hM (by omega)) [1, 2] [] (by first | rfl | (simp only [hm]; done)) (by first | rfl | (simp [namesOk, lkp]; done)) ?_ ?_ ?_ ?_ ?_ ?_ ?_
   (iterate 6 (focus (first | trivial | (intro n hn; cases hn; done) | (simp (maxSteps := 9^9) (disch := (try simp only [lens]); omega) only [zJ, sm, ↓amb, zQ, simprocAttr, en96, dx, hmx, List.filter_cons, Nat.reduceBNe, imp_self, implies_true]; done))))
   simp (maxSteps := 9^9) (disch := (try simp only [lens]); omega) only [zJ, sm, ↓amb, zQ, simprocAttr, en96, dx, hm, List.filter_cons, List.filter_nil, Nat.reduceBNe, Option.map_none]
   repeat refine ⟨by first | omega | (simp; done) | (unfold maxLen; omega) | (simp [maxLen]; omega) | assumption, ?_⟩
   refine hk _ ?_; clear hk k
   refine zW (zV [8, 12, 13]) ?_
   simp only [kp, zJ, simprocAttr]
   refine awp_sd [] ⟨[0, 1, 3, 7, 0, 16, 48, 112, 0, 15, 767, 2047], [], [9], [], some [0]⟩ (by rw [hC]; rfl) (by kernel_rfl) (by kernel_rfl) fun k hk => ?_
   simp (maxSteps := 9^9) (disch := (try simp only [lens]); omega) only [zJ, sm, ↓amb, zQ, simprocAttr, fl135_0, sz110, fl135_1, sz111, dx]
   repeat refine ⟨by first | omega | (simp; done) | (unfold maxLen; omega) | (simp [maxLen]; omega) | assumption, ?_⟩
   refine hk _ ?_; clear hk k
   refine yQ ?_
   refine retl rfl rfl ⟨retc rfl sz110 ?_, rett rfl ?_, rett rfl ?_, trivial⟩
   simp (maxSteps := 9^9) (disch := (try simp only [lens]); omega) only [zJ, sm, ↓amb, zQ, simprocAttr, sz110, dx]
   ·exact .p (LeP.refl _)
   ·exact .p (LeP.refl _)
   ·exact .p (LeP.refl _)
set_option maxHeartbeats 4000000 in
theorem c_drain_Leaves (ce : Bool) (c : Pl.Crew) (ev : List Pl.Event) (he : ev.length ≤ 1000000) : PCall Try.prog 76 [.agg (crewC c), .seq ce (ev.map evC)] (.seq false ((Pl.leaves' c.work.ts ev).map (fun s => [iV s.1, iV s.2]))) := by
 refine yV Try.func76 rfl (by simp [Try.ntmps76]) fun C hC => ?_
 refine zW (zV [0, 1]) ?_
 simp only [kp, zJ, simprocAttr]
 refine zK [45] (by rw [hC]; rfl) fun k hk => ?_
 simp (maxSteps := 9^9) (disch := (try simp only [lens]); omega) only [zJ, sm, ↓amb, zQ, simprocAttr, dx]
 repeat refine ⟨by first | omega | (simp; done) | (unfold maxLen; omega) | (simp [maxLen]; omega) | assumption, ?_⟩
 refine hk _ ?_; clear hk k
 refine zW (zV [1, 2]) ?_
 simp only [kp, zJ, simprocAttr]
 refine zK [45] (by rw [hC]; rfl) fun k hk => ?_
 simp (maxSteps := 9^9) (disch := (try simp only [lens]); omega) only [zJ, sm, ↓amb, zQ, simprocAttr, dx]
 repeat refine ⟨by first | omega | (simp; done) | (unfold maxLen; omega) | (simp [maxLen]; omega) | assumption, ?_⟩
 refine hk _ ?_; clear hk k
 refine zY fun k1 h1 => ?_
 refine zW (zV [1, 2, 4, 5]) ?_
 simp only [kp, zJ, simprocAttr]
 refine awp_own' 5 2 rfl ?_
 refine zK [45] (by rw [hC]; rfl) fun k hk => ?_
 simp (maxSteps := 9^9) (disch := (try simp only [lens]); omega) only [zJ, sm, ↓amb, zQ, simprocAttr, el111, dx]
 repeat refine ⟨by first | omega | (simp; done) | (unfold maxLen; omega) | (simp [maxLen]; omega) | assumption, ?_⟩
 refine hk _ ?_; clear hk k
 refine yK ?_
 refine yY (σ := Nat) (fun i => i ≤ ev.length) (fun (i : Nat) => ⟨[(2, (.ptr 0 7 0 0)), (5, (.own 1)), (9, (.p (.seq ce (ev.map evC)))), (10, (.p (iV ev.length))), (11, (.p (iV i)))], [(0, (.row 7 [[.p (.seq false (c.work.ts.map taskC)), .p (iV c.work.grain), .p (.seq false (c.work.done.map fun b => [bV b])), .p (.seq false (c.dq.map lV)), .p (bV c.over), .p (iV c.steps), .p (iV c.idle)]])), (1, (.row 2 (lift ((Pl.leaves' c.work.ts (ev.take i)).map (fun s => [iV s.1, iV s.2])))))], 1⟩) (fun i => ev.length - i) 0 ?_ ?_ fun i hi => ?_
 ·exact Nat.zero_le _
 ·exact le_of [(0, _), (1, _)] (by rfl) (by rfl) ⟨⟨_, rfl, .ptr rfl⟩, ⟨_, rfl, .own rfl⟩, ⟨_, rfl, .p (.of_eq (by first | rfl | (simp only [PV.lit.injEq, Value.int.injEq, true_and]; omega) | (simp; done) | (simp; omega)))⟩, ⟨_, rfl, .p (.of_eq (by first | rfl | (simp only [PV.lit.injEq, Value.int.injEq, true_and]; omega) | (simp; done) | (simp; omega)))⟩, ⟨_, rfl, .p (.of_eq (by first | rfl | (simp only [PV.lit.injEq, Value.int.injEq, true_and]; omega) | (simp; done) | (simp; omega)))⟩, trivial⟩ ⟨⟨_, rfl, _, rfl, .one (.cons (.p (.refl _)) (.cons (.p (.refl _)) (.cons (.p (.refl _)) (.cons (.p (.refl _)) (.cons (.p (.refl _)) (.cons (.p (.refl _)) (.cons (.p (.refl _)) (.nil))))))))⟩, ⟨_, rfl, _, rfl, .liftE (by first | (rw [List.take_zero]; rfl) | (rw [Pl.leaves_take _ _ i (by omega), if_neg (by rw [hnl]; decide), List.append_nil]; done) | (rw [Pl.leaves_take _ _ i (by omega), if_pos hlf, List.map_append]; rfl))⟩, trivial⟩
 refine zW (zV [0, 1, 2, 4, 5, 9, 10, 11]) ?_
 simp only [kp, zJ, simprocAttr]
 refine zK [45] (by rw [hC]; rfl) fun k hk => ?_
 simp (maxSteps := 9^9) (disch := (try simp only [lens]); omega) only [zJ, sm, ↓amb, zQ, simprocAttr, dx]
 repeat refine ⟨by first | omega | (simp; done) | (unfold maxLen; omega) | (simp [maxLen]; omega) | assumption, ?_⟩
 refine hk _ ?_; clear hk k
 refine zY fun k3 h3 => ?_
 refine zX rfl (fun hb => ?_) (fun hb => ?_)
 ·try simp only [hbx] at hb
  refine yJ ?_
  refine h3 _ ?_; clear h3 k3
  refine zY fun k4 h4 => ?_
  refine yK ?_
  refine zW (zV [0, 1, 2, 4, 5, 9, 10, 11]) ?_
  simp only [kp, zJ, simprocAttr]
  refine zK [45] (by rw [hC]; rfl) fun k hk => ?_
  simp (maxSteps := 9^9) (disch := (try simp only [lens]); omega) only [zJ, sm, ↓amb, zQ, simprocAttr, el111, sz139, vr139, dx]
  repeat refine ⟨by first | omega | (simp; done) | (unfold maxLen; omega) | (simp [maxLen]; omega) | assumption, ?_⟩
  refine hk _ ?_; clear hk k
  refine zY fun k5 h5 => ?_
  refine xQ [45] 30 (decide ((ev.getD i default).parted = true ∨ (ev.getD i default).task < 0 ∨ (c.work.ts.length : Int) ≤ (ev.getD i default).task)) [0, 1, 2, 4, 5, 7, 9, 10, 11] (by rw [hC]; rfl) (fun gd hgd k hk => ?_) ?_
  ·have g2 : gd 2 = some 17 := by rw [hgd]; rfl
   have g7 : gd 7 = some 22 := by rw [hgd]; rfl
   clear hgd
   simp (maxSteps := 9^9) (disch := (try simp only [lens]); omega) only [zJ, sm, ↓amb, zQ, simprocAttr, fl139_3, sz4, fl139_2, sz3, fl110_0, fl107_0, sz104, el104, zZ, g2, g7, dx]
   repeat' first | refine hk _ _ rfl rfl rfl rfl ?_ | (refine gsplit (fun hg => ?_) (fun hg => ?_) <;> (try simp only [hbx] at hg) <;> simp (maxSteps := 9^9) (disch := (try simp only [lens]); omega) only [zJ, sm, ↓amb, zQ, simprocAttr, fl139_3, sz4, fl139_2, sz3, fl110_0, fl107_0, sz104, el104, zZ, g2, g7, dx]) | apply And.intro | fail
   all_goals first | rfl | omega | exact (decide_eq_true (by omega)).symm | exact (decide_eq_false (by omega)).symm | exact decide_eq_decide.mpr (by omega) | (refine Bool.eq_iff_iff.mpr ?_; simp only [beq_iff_eq, bne_iff_ne, ne_eq, decide_eq_true_eq]; omega) | (refine Bool.eq_iff_iff.mpr ?_; simp only [Bool.not_eq_true', Bool.not_eq_false', decide_eq_false_iff_not, decide_eq_true_eq, beq_iff_eq, bne_iff_ne, ne_eq]; omega) | assumption | (simp; done) | (simp [maxLen]; omega) | skip
   all_goals first | (refine (decide_eq_true ?_).symm; first | (left; assumption) | (right; left; assumption) | (right; right; assumption)) | exact decide_eq_decide.mpr ⟨fun h => .inr (.inr h), fun h => h.elim (fun q => absurd (q.symm.trans (show _ = false by assumption)) (by decide)) (fun q => q.elim (fun q => by omega) id)⟩
  simp only [kp, zJ, simprocAttr, List.length_cons, List.length_nil]
  refine zX rfl (fun hb => ?_) (fun hb => ?_)
  ·try simp only [hbx] at hb
   refine yX ((if_pos rfl).mpr ?_)
   refine h4 _ ?_; clear h5 k5; clear h4 k4
   have hnl := Pl.isLeaf_no (ts := c.work.ts) hb
   refine yZ [45] (by rw [hC]; rfl) fun k hk => ?_
   simp (maxSteps := 9^9) (disch := (try simp only [lens]); omega) only [zJ, sm, ↓amb, zQ, simprocAttr, dx]
   repeat refine ⟨by first | omega | (simp; done) | (unfold maxLen; omega) | (simp [maxLen]; omega) | assumption, ?_⟩
   refine hk _ ?_; clear hk k
   refine ⟨i + 1, by omega, le_of [(0, _), (1, _)] (by rfl) (by rfl) ⟨⟨_, rfl, .ptr rfl⟩, ⟨_, rfl, .own rfl⟩, ⟨_, rfl, .p (.of_eq (by first | rfl | (simp only [PV.lit.injEq, Value.int.injEq, true_and]; omega) | (simp; done) | (simp; omega)))⟩, ⟨_, rfl, .p (.of_eq (by first | rfl | (simp only [PV.lit.injEq, Value.int.injEq, true_and]; omega) | (simp; done) | (simp; omega)))⟩, ⟨_, rfl, .p (.of_eq (by first | rfl | (simp only [PV.lit.injEq, Value.int.injEq, true_and]; omega) | (simp; done) | (simp; omega)))⟩, trivial⟩ ⟨⟨_, rfl, _, rfl, .one (.cons (.p (.refl _)) (.cons (.p (.refl _)) (.cons (.p (.refl _)) (.cons (.p (.refl _)) (.cons (.p (.refl _)) (.cons (.p (.refl _)) (.cons (.p (.refl _)) (.nil))))))))⟩, ⟨_, rfl, _, rfl, .liftE (by first | (rw [List.take_zero]; rfl) | (rw [Pl.leaves_take _ _ i (by omega), if_neg (by rw [hnl]; decide), List.append_nil]; done) | (rw [Pl.leaves_take _ _ i (by omega), if_pos hlf, List.map_append]; rfl))⟩, trivial⟩, by omega⟩
  ·try simp only [hbx] at hb
   refine yJ ?_
   refine h5 _ ?_; clear h5 k5
   refine zW (zV [0, 1, 2, 4, 5, 7, 9, 10, 11]) ?_
   simp only [kp, zJ, simprocAttr]
   obtain ⟨hlf, hlf2, hlf3⟩ := Pl.isLeaf_yes (ts := c.work.ts) (e := (ev.getD i default)) (by first | exact hb | simpa using hb)
   have hll := Pl.leaves_len c.work.ts (ev.take i)
   rw [List.length_take] at hll
   refine zK [45] (by rw [hC]; rfl) fun k hk => ?_
   simp (maxSteps := 9^9) (disch := (try simp only [lens]); omega) only [zJ, sm, ↓amb, zQ, simprocAttr, fl110_0, fl107_0, sz104, fl139_2, sz3, el104, sz128, vr128, dx]
   repeat refine ⟨by first | omega | (simp; done) | (unfold maxLen; omega) | (simp [maxLen]; omega) | assumption, ?_⟩
   refine hk _ ?_; clear hk k
   refine yZ [45] (by rw [hC]; rfl) fun k hk => ?_
   simp (maxSteps := 9^9) (disch := (try simp only [lens]); omega) only [zJ, sm, ↓amb, zQ, simprocAttr, fl128_0, sz3, fl128_1, vr117, bt117, pl117_0, pl117_1, el114, by117, dx]
   repeat refine ⟨by first | omega | (simp; done) | (unfold maxLen; omega) | (simp [maxLen]; omega) | assumption, ?_⟩
   refine hk _ ?_; clear hk k
   refine h4 _ ?_; clear h4 k4
   refine yZ [45] (by rw [hC]; rfl) fun k hk => ?_
   simp (maxSteps := 9^9) (disch := (try simp only [lens]); omega) only [zJ, sm, ↓amb, zQ, simprocAttr, dx]
   repeat refine ⟨by first | omega | (simp; done) | (unfold maxLen; omega) | (simp [maxLen]; omega) | assumption, ?_⟩
   refine hk _ ?_; clear hk k
   refine ⟨i + 1, by omega, le_of [(0, _), (1, _)] (by rfl) (by rfl) ⟨⟨_, rfl, .ptr rfl⟩, ⟨_, rfl, .own rfl⟩, ⟨_, rfl, .p (.of_eq (by first | rfl | (simp only [PV.lit.injEq, Value.int.injEq, true_and]; omega) | (simp; done) | (simp; omega)))⟩, ⟨_, rfl, .p (.of_eq (by first | rfl | (simp only [PV.lit.injEq, Value.int.injEq, true_and]; omega) | (simp; done) | (simp; omega)))⟩, ⟨_, rfl, .p (.of_eq (by first | rfl | (simp only [PV.lit.injEq, Value.int.injEq, true_and]; omega) | (simp; done) | (simp; omega)))⟩, trivial⟩ ⟨⟨_, rfl, _, rfl, .one (.cons (.p (.refl _)) (.cons (.p (.refl _)) (.cons (.p (.refl _)) (.cons (.p (.refl _)) (.cons (.p (.refl _)) (.cons (.p (.refl _)) (.cons (.p (.refl _)) (.nil))))))))⟩, ⟨_, rfl, _, rfl, .liftE (by first | (rw [List.take_zero]; rfl) | (rw [Pl.leaves_take _ _ i (by omega), if_neg (by rw [hnl]; decide), List.append_nil]; done) | (rw [Pl.leaves_take _ _ i (by omega), if_pos hlf, List.map_append]; rfl))⟩, trivial⟩, by omega⟩
 ·try simp only [hbx] at hb
  refine yX ((if_pos rfl).mpr ?_)
  refine h1 _ ?_; clear h3 k3; clear h1 k1
  refine zW (zV [5]) ?_
  simp only [kp, zJ, simprocAttr]
  have htk : ev.take i = ev := List.take_of_length_le (by omega)
  rw [htk]
  refine zK [45] (by rw [hC]; rfl) fun k hk => ?_
  simp (maxSteps := 9^9) (disch := (try simp only [lens]); omega) only [zJ, sm, ↓amb, zQ, simprocAttr, dx]
  repeat refine ⟨by first | omega | (simp; done) | (unfold maxLen; omega) | (simp [maxLen]; omega) | assumption, ?_⟩
  refine hk _ ?_; clear hk k
  refine yQ ?_
  refine ret1 rfl rfl ?_
  exact .ownE rfl rfl
end Go.Proofs.Ytjkkjiaeeobnkaa
end
section
set_option linter.unusedSimpArgs false
set_option linter.unusedVariables false
set_option maxRecDepth 100000
namespace Go.Proofs.Ytjkkjiaeeobnkaa
open Go.Am Go.Proofs
theorem bt99 : tBuilt Try.prog 99 = true := by kernel_rfl
theorem en28 : enters Try.prog 28 = true := by kernel_rfl
theorem en30 : enters Try.prog 30 = true := by kernel_rfl
theorem en45 : enters Try.prog 45 = true := by kernel_rfl
theorem en63 : enters Try.prog 63 = true := by kernel_rfl
theorem en64 : enters Try.prog 64 = true := by kernel_rfl
theorem en65 : enters Try.prog 65 = true := by kernel_rfl
theorem en67 : enters Try.prog 67 = true := by kernel_rfl
theorem en68 : enters Try.prog 68 = true := by kernel_rfl
theorem en69 : enters Try.prog 69 = true := by kernel_rfl
theorem en71 : enters Try.prog 71 = true := by kernel_rfl
theorem en74 : enters Try.prog 74 = true := by kernel_rfl
theorem en88 : enters Try.prog 88 = true := by kernel_rfl
theorem en89 : enters Try.prog 89 = true := by kernel_rfl
theorem en90 : enters Try.prog 90 = true := by kernel_rfl
theorem fl51_0 : tFld Try.prog 51 0 = some (0, 1, false) := by kernel_rfl
theorem fl51_1 : tFld Try.prog 51 1 = some (1, 1, false) := by kernel_rfl
theorem fl51_2 : tFld Try.prog 51 2 = some (2, 1, false) := by kernel_rfl
theorem fl53_0 : tFld Try.prog 53 0 = some (0, 1, false) := by kernel_rfl
theorem fl53_1 : tFld Try.prog 53 1 = some (1, 1, false) := by kernel_rfl
theorem fl53_2 : tFld Try.prog 53 2 = some (2, 3, true) := by kernel_rfl
theorem fl99_0 : tFld Try.prog 99 0 = some (0, 5, true) := by kernel_rfl
theorem fl99_1 : tFld Try.prog 99 1 = some (5, 1, false) := by kernel_rfl
theorem pl99_0 : tPlace Try.prog 99 0 = some (0, 5) := by kernel_rfl
theorem pl99_1 : tPlace Try.prog 99 1 = some (5, 1) := by kernel_rfl
theorem sz49 : tSz Try.prog 49 = some (false, 1) := by kernel_rfl
theorem sz51 : tSz Try.prog 51 = some (true, 3) := by kernel_rfl
theorem sz53 : tSz Try.prog 53 = some (true, 5) := by kernel_rfl
theorem vr99 : tVar Try.prog 99 = some (true, [.lit (.int .i64 0), .lit (.int .i64 0), .lit (.int .i64 0), .lit (.int .i64 0), .seq true [], .lit (.int .i64 0)]) := by kernel_rfl
set_option maxHeartbeats 4000000 in
theorem c_fill_Right (c : Bool) (p : Pl.Plan) : PCall Try.prog 74 [.agg (planC c p)] (bV (decide (Pl.planRight p))) := by
 refine yV Try.func74 rfl (by simp [Try.ntmps74]) fun C hC => ?_
 refine zK [] (by rw [hC]; rfl) fun k hk => ?_
 simp (maxSteps := 9^9) (disch := (try simp only [lens]); omega) only [zJ, sm, ↓amb, zQ, simprocAttr, dx]
 repeat refine ⟨by first | omega | (simp; done) | (unfold maxLen; omega) | (simp [maxLen]; omega) | assumption, ?_⟩
 refine hk _ ?_; clear hk k
 refine xQ [] 2 (decide (Pl.planRight p)) [] (by rw [hC]; rfl) (fun gd hgd k hk => ?_) ?_
 ·have g3 : gd 3 = some 6 := by rw [hgd]; rfl
  have g8 : gd 8 = some 11 := by rw [hgd]; rfl
  have g13 : gd 13 = some 16 := by rw [hgd]; rfl
  have g18 : gd 18 = some 21 := by rw [hgd]; rfl
  clear hgd
  simp (maxSteps := 9^9) (disch := (try simp only [lens]); omega) only [zJ, sm, ↓amb, zQ, simprocAttr, fl51_0, sz3, fl51_1, fl51_2, sz49, el49, zZ, g3, g8, g13, g18, dx]
  repeat' first | refine hk _ _ rfl rfl rfl rfl ?_ | (refine gsplit (fun hg => ?_) (fun hg => ?_) <;> (try simp only [hbx] at hg) <;> simp (maxSteps := 9^9) (disch := (try simp only [lens]); omega) only [zJ, sm, ↓amb, zQ, simprocAttr, fl51_0, sz3, fl51_1, fl51_2, sz49, el49, zZ, g3, g8, g13, g18, dx]) | apply And.intro | fail
  all_goals first | rfl | omega | exact (decide_eq_true (by (try simp only [Pl.planRight] at *); omega)).symm | exact (decide_eq_false (by (try simp only [Pl.planRight] at *); omega)).symm | exact decide_eq_decide.mpr (by (try simp only [Pl.planRight] at *); omega) | (refine Bool.eq_iff_iff.mpr ?_; (try simp only [Pl.planRight] at *); simp only [beq_iff_eq, bne_iff_ne, ne_eq, decide_eq_true_eq]; omega) | (refine Bool.eq_iff_iff.mpr ?_; simp only [Bool.not_eq_true', Bool.not_eq_false', decide_eq_false_iff_not, decide_eq_true_eq, beq_iff_eq, bne_iff_ne, ne_eq]; (try simp only [Pl.planRight] at *); omega) | assumption | (simp; done) | (simp [maxLen]; omega) | skip
 simp only [kp, zJ, simprocAttr, List.length_cons, List.length_nil]
 refine yQ ?_
 refine ret1 rfl rfl ?_
 exact .p (LeP.refl _)
set_option maxHeartbeats 4000000 in
theorem c_ref07_Right (c : Bool) (p : Pl.Plan) : PCall Try.prog 65 [.agg (planC c p)] (bV (decide (Pl.planRight p))) := by
 refine yV Try.func65 rfl (by simp [Try.ntmps65]) fun C hC => ?_
 refine zK [] (by rw [hC]; rfl) fun k hk => ?_
 simp (maxSteps := 9^9) (disch := (try simp only [lens]); omega) only [zJ, sm, ↓amb, zQ, simprocAttr, dx]
 repeat refine ⟨by first | omega | (simp; done) | (unfold maxLen; omega) | (simp [maxLen]; omega) | assumption, ?_⟩
 refine hk _ ?_; clear hk k
 refine xQ [] 2 (decide (Pl.planRight p)) [] (by rw [hC]; rfl) (fun gd hgd k hk => ?_) ?_
 ·have g3 : gd 3 = some 6 := by rw [hgd]; rfl
  have g8 : gd 8 = some 11 := by rw [hgd]; rfl
  have g13 : gd 13 = some 16 := by rw [hgd]; rfl
  have g18 : gd 18 = some 21 := by rw [hgd]; rfl
  clear hgd
  simp (maxSteps := 9^9) (disch := (try simp only [lens]); omega) only [zJ, sm, ↓amb, zQ, simprocAttr, fl51_0, sz3, fl51_1, fl51_2, sz49, el49, zZ, g3, g8, g13, g18, dx]
  repeat' first | refine hk _ _ rfl rfl rfl rfl ?_ | (refine gsplit (fun hg => ?_) (fun hg => ?_) <;> (try simp only [hbx] at hg) <;> simp (maxSteps := 9^9) (disch := (try simp only [lens]); omega) only [zJ, sm, ↓amb, zQ, simprocAttr, fl51_0, sz3, fl51_1, fl51_2, sz49, el49, zZ, g3, g8, g13, g18, dx]) | apply And.intro | fail
  all_goals first | rfl | omega | exact (decide_eq_true (by (try simp only [Pl.planRight] at *); omega)).symm | exact (decide_eq_false (by (try simp only [Pl.planRight] at *); omega)).symm | exact decide_eq_decide.mpr (by (try simp only [Pl.planRight] at *); omega) | (refine Bool.eq_iff_iff.mpr ?_; (try simp only [Pl.planRight] at *); simp only [beq_iff_eq, bne_iff_ne, ne_eq, decide_eq_true_eq]; omega) | (refine Bool.eq_iff_iff.mpr ?_; simp only [Bool.not_eq_true', Bool.not_eq_false', decide_eq_false_iff_not, decide_eq_true_eq, beq_iff_eq, bne_iff_ne, ne_eq]; (try simp only [Pl.planRight] at *); omega) | assumption | (simp; done) | (simp [maxLen]; omega) | skip
 simp only [kp, zJ, simprocAttr, List.length_cons, List.length_nil]
 refine yQ ?_
 refine ret1 rfl rfl ?_
 exact .p (LeP.refl _)
set_option maxHeartbeats 4000000 in
theorem c_bound_may (c : Bool) (n : Int) (p : Pl.Plan) : PCall Try.prog 63 [iV n, .agg (planC c p)] (bV (decide (Pl.phOk n p))) := by
 refine yV Try.func63 rfl (by simp [Try.ntmps63]) fun C hC => ?_
 refine zK [] (by rw [hC]; rfl) fun k hk => ?_
 simp (maxSteps := 9^9) (disch := (try simp only [lens]); omega) only [zJ, sm, ↓amb, zQ, simprocAttr, dx]
 repeat refine ⟨by first | omega | (simp; done) | (unfold maxLen; omega) | (simp [maxLen]; omega) | assumption, ?_⟩
 refine hk _ ?_; clear hk k
 refine xQ [] 4 (decide (Pl.phOk n p)) [] (by rw [hC]; rfl) (fun gd hgd k hk => ?_) ?_
 ·have g2 : gd 2 = some 7 := by rw [hgd]; rfl
  have g6 : gd 6 = some 11 := by rw [hgd]; rfl
  clear hgd
  simp (maxSteps := 9^9) (disch := (try simp only [lens]); omega) only [zJ, sm, ↓amb, zQ, simprocAttr, sz51, en74, zZ, g2, g6, dx]
  repeat' first | refine hk _ _ rfl rfl rfl rfl ?_ | (refine gsplit (fun hg => ?_) (fun hg => ?_) <;> (try simp only [hbx] at hg) <;> simp (maxSteps := 9^9) (disch := (try simp only [lens]); omega) only [zJ, sm, ↓amb, zQ, simprocAttr, sz51, en74, zZ, g2, g6, dx]) | apply And.intro | (refine yW (c_fill_Right _ _) rfl ?_; (try simp (maxSteps := 9^9) (disch := (try simp only [lens]); omega) only [zJ, sm, ↓amb, zQ, simprocAttr, sz51, en74, zZ, g2, g6, dx])) | fail
  all_goals first | rfl | omega | exact (decide_eq_true (by (try simp only [Pl.phOk, Pl.planRight] at *); omega)).symm | exact (decide_eq_false (by (try simp only [Pl.phOk, Pl.planRight] at *); omega)).symm | exact decide_eq_decide.mpr (by (try simp only [Pl.phOk, Pl.planRight] at *); omega) | (refine Bool.eq_iff_iff.mpr ?_; (try simp only [Pl.phOk, Pl.planRight] at *); simp only [beq_iff_eq, bne_iff_ne, ne_eq, decide_eq_true_eq]; omega) | (refine Bool.eq_iff_iff.mpr ?_; simp only [Bool.not_eq_true', Bool.not_eq_false', decide_eq_false_iff_not, decide_eq_true_eq, beq_iff_eq, bne_iff_ne, ne_eq]; (try simp only [Pl.phOk, Pl.planRight] at *); omega) | assumption | (simp; done) | (simp [maxLen]; omega) | skip
 simp only [kp, zJ, simprocAttr, List.length_cons, List.length_nil]
 refine yQ ?_
 refine ret1 rfl rfl ?_
 exact .p (LeP.refl _)
set_option maxHeartbeats 4000000 in
theorem c_drain_tasks (t : Pl.Task) (g : Int) (h : -4000000000 ≤ t.low ∧ t.low ≤ 4000000000 ∧ -4000000000 ≤ t.high ∧ t.high ≤ 4000000000) : PCall Try.prog 88 [.agg (taskC t), iV g] (iV (Pl.cntT (t.high - t.low) g)) := by
 refine yV Try.func88 rfl (by simp [Try.ntmps88]) fun C hC => ?_
 refine zK [] (by rw [hC]; rfl) fun k hk => ?_
 simp (maxSteps := 9^9) (disch := (try simp only [lens]); omega) only [zJ, sm, ↓amb, zQ, simprocAttr, dx]
 repeat refine ⟨by first | omega | (simp; done) | (unfold maxLen; omega) | (simp [maxLen]; omega) | assumption, ?_⟩
 refine hk _ ?_; clear hk k
 refine zK [] (by rw [hC]; rfl) fun k hk => ?_
 simp (maxSteps := 9^9) (disch := (try simp only [lens]); omega) only [zJ, sm, ↓amb, zQ, simprocAttr, fl128_1, sz3, fl128_0, en71, dx]
 repeat refine ⟨by first | omega | (simp; done) | (unfold maxLen; omega) | (simp [maxLen]; omega) | assumption, ?_⟩
 refine yW (c34 _ _) rfl ?_
 simp (maxSteps := 9^9) (disch := (try simp only [lens]); omega) only [zJ, sm, ↓amb, zQ, simprocAttr, fl128_1, sz3, fl128_0, en71, dx]
 repeat refine ⟨by first | omega | (simp; done) | (unfold maxLen; omega) | (simp [maxLen]; omega) | assumption, ?_⟩
 refine hk _ ?_; clear hk k
 refine zK [] (by rw [hC]; rfl) fun k hk => ?_
 simp (maxSteps := 9^9) (disch := (try simp only [lens]); omega) only [zJ, sm, ↓amb, zQ, simprocAttr, dx]
 repeat refine ⟨by first | omega | (simp; done) | (unfold maxLen; omega) | (simp [maxLen]; omega) | assumption, ?_⟩
 refine hk _ ?_; clear hk k
 refine yQ ?_
 refine ret1 rfl rfl ?_
 exact .p (LeP.refl _)
set_option maxHeartbeats 4000000 in
theorem c_drain_Bound (n g w : Int) (hn : -4000000000 ≤ n ∧ n ≤ 4000000000) : PCall Try.prog 64 [iV n, iV g, iV w] (iV (Pl.bd n g w)) := by
 refine yV Try.func64 rfl (by simp [Try.ntmps64]) fun C hC => ?_
 refine zW (zV [0, 1, 2]) ?_
 simp only [kp, zJ, simprocAttr]
 refine zK [] (by rw [hC]; rfl) fun k hk => ?_
 simp (maxSteps := 9^9) (disch := (try simp only [lens]); omega) only [zJ, sm, ↓amb, zQ, simprocAttr, Int.sub_zero, dx]
 repeat refine ⟨by first | omega | (simp; done) | (unfold maxLen; omega) | (simp [maxLen]; omega) | assumption, ?_⟩
 refine hk _ ?_; clear hk k
 refine zY fun k1 h1 => ?_
 refine zW (zV [0, 1, 2, 6]) ?_
 simp only [kp, zJ, simprocAttr]
 refine zK [] (by rw [hC]; rfl) fun k hk => ?_
 simp (maxSteps := 9^9) (disch := (try simp only [lens]); omega) only [zJ, sm, ↓amb, zQ, simprocAttr, en87, vr110, sz110, Int.sub_zero, dx]
 repeat refine ⟨by first | omega | (simp; done) | (unfold maxLen; omega) | (simp [maxLen]; omega) | assumption, ?_⟩
 refine yW (c42 _ _ _ (by omega)) rfl ?_
 simp (maxSteps := 9^9) (disch := (try simp only [lens]); omega) only [zJ, sm, ↓amb, zQ, simprocAttr, en87, vr110, sz110, Int.sub_zero, dx]
 repeat refine ⟨by first | omega | (simp; done) | (unfold maxLen; omega) | (simp [maxLen]; omega) | assumption, ?_⟩
 refine hk _ ?_; clear hk k
 refine zW (zV [0, 1, 2, 6, 8]) ?_
 simp only [kp, zJ, simprocAttr]
 refine zK [] (by rw [hC]; rfl) fun k hk => ?_
 simp (maxSteps := 9^9) (disch := (try simp only [lens]); omega) only [zJ, sm, ↓amb, zQ, simprocAttr, Int.sub_zero, dx]
 repeat refine ⟨by first | omega | (simp; done) | (unfold maxLen; omega) | (simp [maxLen]; omega) | assumption, ?_⟩
 refine hk _ ?_; clear hk k
 refine zX rfl (fun hb => ?_) (fun hb => ?_)
 ·try simp only [hbx] at hb
  refine zW (zV []) ?_
  simp only [kp, zJ, simprocAttr]
  refine zK [] (by rw [hC]; rfl) fun k hk => ?_
  simp (maxSteps := 9^9) (disch := (try simp only [lens]); omega) only [zJ, sm, ↓amb, zQ, simprocAttr, Int.sub_zero, dx]
  repeat refine ⟨by first | omega | (simp; done) | (unfold maxLen; omega) | (simp [maxLen]; omega) | assumption, ?_⟩
  refine hk _ ?_; clear hk k
  refine yQ ?_
  rw [show Pl.bd n g w = 0 from if_neg (fun q => hb ((Pl.bd_begin n g w).2 q))]
  refine ret1 rfl rfl ?_
  exact .p (LeP.refl _)
 ·try simp only [hbx] at hb
  refine yJ ?_
  refine h1 _ ?_; clear h1 k1
  refine zW (zV [0, 1, 2]) ?_
  simp only [kp, zJ, simprocAttr]
  have hbd := (Pl.bd_begin n g w).1 hb
  have hbn := Pl.bd_nn hbd
  refine zK [] (by rw [hC]; rfl) fun k hk => ?_
  simp (maxSteps := 9^9) (disch := (try simp only [lens]); omega) only [zJ, sm, ↓amb, zQ, simprocAttr, vr128, bt128, pl128_1, en88, Int.sub_zero, dx]
  repeat refine ⟨by first | omega | (simp; done) | (unfold maxLen; omega) | (simp [maxLen]; omega) | assumption, ?_⟩
  refine yW (c_drain_tasks ⟨0, n, 0, 0⟩ g (by dsimp only; omega)) rfl ?_
  simp (maxSteps := 9^9) (disch := (try simp only [lens]); omega) only [zJ, sm, ↓amb, zQ, simprocAttr, vr128, bt128, pl128_1, en88, Int.sub_zero, dx]
  repeat refine ⟨by first | omega | (simp; done) | (unfold maxLen; omega) | (simp [maxLen]; omega) | assumption, ?_⟩
  refine hk _ ?_; clear hk k
  refine yQ ?_
  rw [show Pl.bd n g w = w * (Pl.cntT n g + 1) from if_pos hbd]
  refine ret1 rfl rfl ?_
  exact .p (LeP.of_eq (by first | rfl | (rw [Int.sub_zero])))
set_option maxHeartbeats 4000000 in
theorem c_scan_sized (b : Int) : PCall Try.prog 90 [iV b] (bV (decide (1 ≤ b ∧ b ≤ 100))) := by
 refine yV Try.func90 rfl (by simp [Try.ntmps90]) fun C hC => ?_
 refine zK [] (by rw [hC]; rfl) fun k hk => ?_
 simp (maxSteps := 9^9) (disch := (try simp only [lens]); omega) only [zJ, sm, ↓amb, zQ, simprocAttr, dx]
 repeat refine ⟨by first | omega | (simp; done) | (unfold maxLen; omega) | (simp [maxLen]; omega) | assumption, ?_⟩
 refine hk _ ?_; clear hk k
 refine xQ [] 2 (decide (1 ≤ b ∧ b ≤ 100)) [] (by rw [hC]; rfl) (fun gd hgd k hk => ?_) ?_
 ·have g2 : gd 2 = some 5 := by rw [hgd]; rfl
  clear hgd
  simp (maxSteps := 9^9) (disch := (try simp only [lens]); omega) only [zJ, sm, ↓amb, zQ, simprocAttr, zZ, g2, dx]
  repeat' first | refine hk _ _ rfl rfl rfl rfl ?_ | (refine gsplit (fun hg => ?_) (fun hg => ?_) <;> (try simp only [hbx] at hg) <;> simp (maxSteps := 9^9) (disch := (try simp only [lens]); omega) only [zJ, sm, ↓amb, zQ, simprocAttr, zZ, g2, dx]) | apply And.intro | fail
  all_goals first | rfl | omega | exact (decide_eq_true (by omega)).symm | exact (decide_eq_false (by omega)).symm | exact decide_eq_decide.mpr (by omega) | (refine Bool.eq_iff_iff.mpr ?_; simp only [beq_iff_eq, bne_iff_ne, ne_eq, decide_eq_true_eq]; omega) | (refine Bool.eq_iff_iff.mpr ?_; simp only [Bool.not_eq_true', Bool.not_eq_false', decide_eq_false_iff_not, decide_eq_true_eq, beq_iff_eq, bne_iff_ne, ne_eq]; omega) | assumption | (simp; done) | (simp [maxLen]; omega) | skip
 simp only [kp, zJ, simprocAttr, List.length_cons, List.length_nil]
 refine yQ ?_
 refine ret1 rfl rfl ?_
 exact .p (LeP.refl _)
set_option maxHeartbeats 4000000 in
theorem c_scan_Blocks (n b : Int) : PCall Try.prog 67 [iV n, iV b] (iV (Pl.blk n b)) := by
 refine yV Try.func67 rfl (by simp [Try.ntmps67]) fun C hC => ?_
 refine zK [] (by rw [hC]; rfl) fun k hk => ?_
 simp (maxSteps := 9^9) (disch := (try simp only [lens]); omega) only [zJ, sm, ↓amb, zQ, simprocAttr, dx]
 repeat refine ⟨by first | omega | (simp; done) | (unfold maxLen; omega) | (simp [maxLen]; omega) | assumption, ?_⟩
 refine hk _ ?_; clear hk k
 refine zY fun k1 h1 => ?_
 refine xQ [] 15 (decide (¬ Pl.blkOk' n b)) [0, 1, 4] (by rw [hC]; rfl) (fun gd hgd k hk => ?_) ?_
 ·have g2 : gd 2 = some 7 := by rw [hgd]; rfl
  have g6 : gd 6 = some 11 := by rw [hgd]; rfl
  clear hgd
  simp (maxSteps := 9^9) (disch := (try simp only [lens]); omega) only [zJ, sm, ↓amb, zQ, simprocAttr, en90, zZ, g2, g6, dx]
  repeat' first | refine hk _ _ rfl rfl rfl rfl ?_ | (refine gsplit (fun hg => ?_) (fun hg => ?_) <;> (try simp only [hbx] at hg) <;> simp (maxSteps := 9^9) (disch := (try simp only [lens]); omega) only [zJ, sm, ↓amb, zQ, simprocAttr, en90, zZ, g2, g6, dx]) | apply And.intro | (refine yW (c_scan_sized _) rfl ?_; (try simp (maxSteps := 9^9) (disch := (try simp only [lens]); omega) only [zJ, sm, ↓amb, zQ, simprocAttr, en90, zZ, g2, g6, dx])) | fail
  all_goals first | rfl | omega | exact (decide_eq_true (by (try simp only [Pl.blkOk'] at *); omega)).symm | exact (decide_eq_false (by (try simp only [Pl.blkOk'] at *); omega)).symm | exact decide_eq_decide.mpr (by (try simp only [Pl.blkOk'] at *); omega) | (refine Bool.eq_iff_iff.mpr ?_; (try simp only [Pl.blkOk'] at *); simp only [beq_iff_eq, bne_iff_ne, ne_eq, decide_eq_true_eq]; omega) | (refine Bool.eq_iff_iff.mpr ?_; simp only [Bool.not_eq_true', Bool.not_eq_false', decide_eq_false_iff_not, decide_eq_true_eq, beq_iff_eq, bne_iff_ne, ne_eq]; (try simp only [Pl.blkOk'] at *); omega) | assumption | (simp; done) | (simp [maxLen]; omega) | skip
 simp only [kp, zJ, simprocAttr, List.length_cons, List.length_nil]
 refine zX rfl (fun hb => ?_) (fun hb => ?_)
 ·try simp only [hbx] at hb
  refine zK [] (by rw [hC]; rfl) fun k hk => ?_
  simp (maxSteps := 9^9) (disch := (try simp only [lens]); omega) only [zJ, sm, ↓amb, zQ, simprocAttr, dx]
  repeat refine ⟨by first | omega | (simp; done) | (unfold maxLen; omega) | (simp [maxLen]; omega) | assumption, ?_⟩
  refine hk _ ?_; clear hk k
  refine yQ ?_
  rw [show Pl.blk n b = 0 from if_neg (by first | exact hb | simpa using hb)]
  refine ret1 rfl rfl ?_
  exact .p (LeP.refl _)
 ·try simp only [hbx] at hb
  refine yJ ?_
  refine h1 _ ?_; clear h1 k1
  have hbk : Pl.blkOk' n b := by first | exact hb | simpa using hb
  have hbo := hbk
  unfold Pl.blkOk' at hbo
  have hq : 0 ≤ (n + b - 1) / b ∧ (n + b - 1) / b ≤ 1000 := by
   have h := Pl.blk_up (b := b) hbo.1 (Int.le_refl n) hbo.2.1
   rw [show Pl.blk n b = (n + b - 1) / b from if_pos hbk] at h; exact ⟨h.1, h.2.2⟩
  refine zK [] (by rw [hC]; rfl) fun k hk => ?_
  simp (maxSteps := 9^9) (disch := (try simp only [lens]); omega) only [zJ, sm, ↓amb, zQ, simprocAttr, dx]
  repeat refine ⟨by first | omega | (simp; done) | (unfold maxLen; omega) | (simp [maxLen]; omega) | assumption, ?_⟩
  refine hk _ ?_; clear hk k
  refine yQ ?_
  rw [show Pl.blk n b = (n + b - 1) / b from if_pos hbk]
  refine ret1 rfl rfl ?_
  exact .p (LeP.refl _)
set_option maxHeartbeats 4000000 in
theorem c_ref08_Blocks (n b : Int) : PCall Try.prog 45 [iV n, iV b] (iV (Pl.blk n b)) := by
 refine yV Try.func45 rfl (by simp [Try.ntmps45]) fun C hC => ?_
 refine zK [] (by rw [hC]; rfl) fun k hk => ?_
 simp (maxSteps := 9^9) (disch := (try simp only [lens]); omega) only [zJ, sm, ↓amb, zQ, simprocAttr, dx]
 repeat refine ⟨by first | omega | (simp; done) | (unfold maxLen; omega) | (simp [maxLen]; omega) | assumption, ?_⟩
 refine hk _ ?_; clear hk k
 refine zY fun k1 h1 => ?_
 refine xQ [] 18 (decide (¬ Pl.blkOk' n b)) [0, 1, 4] (by rw [hC]; rfl) (fun gd hgd k hk => ?_) ?_
 ·have g2 : gd 2 = some 7 := by rw [hgd]; rfl
  have g6 : gd 6 = some 11 := by rw [hgd]; rfl
  have g10 : gd 10 = some 15 := by rw [hgd]; rfl
  clear hgd
  simp (maxSteps := 9^9) (disch := (try simp only [lens]); omega) only [zJ, sm, ↓amb, zQ, simprocAttr, zZ, g2, g6, g10, dx]
  repeat' first | refine hk _ _ rfl rfl rfl rfl ?_ | (refine gsplit (fun hg => ?_) (fun hg => ?_) <;> (try simp only [hbx] at hg) <;> simp (maxSteps := 9^9) (disch := (try simp only [lens]); omega) only [zJ, sm, ↓amb, zQ, simprocAttr, zZ, g2, g6, g10, dx]) | apply And.intro | fail
  all_goals first | rfl | omega | exact (decide_eq_true (by (try simp only [Pl.blkOk'] at *); omega)).symm | exact (decide_eq_false (by (try simp only [Pl.blkOk'] at *); omega)).symm | exact decide_eq_decide.mpr (by (try simp only [Pl.blkOk'] at *); omega) | (refine Bool.eq_iff_iff.mpr ?_; (try simp only [Pl.blkOk'] at *); simp only [beq_iff_eq, bne_iff_ne, ne_eq, decide_eq_true_eq]; omega) | (refine Bool.eq_iff_iff.mpr ?_; simp only [Bool.not_eq_true', Bool.not_eq_false', decide_eq_false_iff_not, decide_eq_true_eq, beq_iff_eq, bne_iff_ne, ne_eq]; (try simp only [Pl.blkOk'] at *); omega) | assumption | (simp; done) | (simp [maxLen]; omega) | skip
 simp only [kp, zJ, simprocAttr, List.length_cons, List.length_nil]
 refine zX rfl (fun hb => ?_) (fun hb => ?_)
 ·try simp only [hbx] at hb
  refine zK [] (by rw [hC]; rfl) fun k hk => ?_
  simp (maxSteps := 9^9) (disch := (try simp only [lens]); omega) only [zJ, sm, ↓amb, zQ, simprocAttr, dx]
  repeat refine ⟨by first | omega | (simp; done) | (unfold maxLen; omega) | (simp [maxLen]; omega) | assumption, ?_⟩
  refine hk _ ?_; clear hk k
  refine yQ ?_
  rw [show Pl.blk n b = 0 from if_neg (by first | exact hb | simpa using hb)]
  refine ret1 rfl rfl ?_
  exact .p (LeP.refl _)
 ·try simp only [hbx] at hb
  refine yJ ?_
  refine h1 _ ?_; clear h1 k1
  have hbk : Pl.blkOk' n b := by first | exact hb | simpa using hb
  have hbo := hbk
  unfold Pl.blkOk' at hbo
  have hq : 0 ≤ (n + b - 1) / b ∧ (n + b - 1) / b ≤ 1000 := by
   have h := Pl.blk_up (b := b) hbo.1 (Int.le_refl n) hbo.2.1
   rw [show Pl.blk n b = (n + b - 1) / b from if_pos hbk] at h; exact ⟨h.1, h.2.2⟩
  refine zK [] (by rw [hC]; rfl) fun k hk => ?_
  simp (maxSteps := 9^9) (disch := (try simp only [lens]); omega) only [zJ, sm, ↓amb, zQ, simprocAttr, dx]
  repeat refine ⟨by first | omega | (simp; done) | (unfold maxLen; omega) | (simp [maxLen]; omega) | assumption, ?_⟩
  refine hk _ ?_; clear hk k
  refine yQ ?_
  rw [show Pl.blk n b = (n + b - 1) / b from if_pos hbk]
  refine ret1 rfl rfl ?_
  exact .p (LeP.refl _)
set_option maxHeartbeats 4000000 in
theorem c_radix_Passes (b : Int) : PCall Try.prog 68 [iV b] (iV (Pl.pas b)) := by
 refine yV Try.func68 rfl (by simp [Try.ntmps68]) fun C hC => ?_
 refine zK [] (by rw [hC]; rfl) fun k hk => ?_
 simp (maxSteps := 9^9) (disch := (try simp only [lens]); omega) only [zJ, sm, ↓amb, zQ, simprocAttr, dx]
 repeat refine ⟨by first | omega | (simp; done) | (unfold maxLen; omega) | (simp [maxLen]; omega) | assumption, ?_⟩
 refine hk _ ?_; clear hk k
 refine zY fun k1 h1 => ?_
 refine xQ [] 8 (decide (¬ (1 ≤ b ∧ b ≤ 16))) [0, 2] (by rw [hC]; rfl) (fun gd hgd k hk => ?_) ?_
 ·have g2 : gd 2 = some 5 := by rw [hgd]; rfl
  clear hgd
  simp (maxSteps := 9^9) (disch := (try simp only [lens]); omega) only [zJ, sm, ↓amb, zQ, simprocAttr, zZ, g2, dx]
  repeat' first | refine hk _ _ rfl rfl rfl rfl ?_ | (refine gsplit (fun hg => ?_) (fun hg => ?_) <;> (try simp only [hbx] at hg) <;> simp (maxSteps := 9^9) (disch := (try simp only [lens]); omega) only [zJ, sm, ↓amb, zQ, simprocAttr, zZ, g2, dx]) | apply And.intro | fail
  all_goals first | rfl | omega | exact (decide_eq_true (by omega)).symm | exact (decide_eq_false (by omega)).symm | exact decide_eq_decide.mpr (by omega) | (refine Bool.eq_iff_iff.mpr ?_; simp only [beq_iff_eq, bne_iff_ne, ne_eq, decide_eq_true_eq]; omega) | (refine Bool.eq_iff_iff.mpr ?_; simp only [Bool.not_eq_true', Bool.not_eq_false', decide_eq_false_iff_not, decide_eq_true_eq, beq_iff_eq, bne_iff_ne, ne_eq]; omega) | assumption | (simp; done) | (simp [maxLen]; omega) | skip
 simp only [kp, zJ, simprocAttr, List.length_cons, List.length_nil]
 refine zX rfl (fun hb => ?_) (fun hb => ?_)
 ·try simp only [hbx] at hb
  refine zK [] (by rw [hC]; rfl) fun k hk => ?_
  simp (maxSteps := 9^9) (disch := (try simp only [lens]); omega) only [zJ, sm, ↓amb, zQ, simprocAttr, dx]
  repeat refine ⟨by first | omega | (simp; done) | (unfold maxLen; omega) | (simp [maxLen]; omega) | assumption, ?_⟩
  refine hk _ ?_; clear hk k
  refine yQ ?_
  rw [show Pl.pas b = 0 from if_neg (by omega)]
  refine ret1 rfl rfl ?_
  exact .p (LeP.refl _)
 ·try simp only [hbx] at hb
  refine yJ ?_
  refine h1 _ ?_; clear h1 k1
  have hbo : 1 ≤ b ∧ b ≤ 16 := by omega
  have hq := Pl.pas_nn b
  rw [show Pl.pas b = (32 + b - 1) / b from if_pos hbo] at hq
  refine zK [] (by rw [hC]; rfl) fun k hk => ?_
  simp (maxSteps := 9^9) (disch := (try simp only [lens]); omega) only [zJ, sm, ↓amb, zQ, simprocAttr, dx]
  repeat refine ⟨by first | omega | (simp; done) | (unfold maxLen; omega) | (simp [maxLen]; omega) | assumption, ?_⟩
  refine hk _ ?_; clear hk k
  refine yQ ?_
  rw [show Pl.pas b = (32 + b - 1) / b from if_pos hbo]
  refine ret1 rfl rfl ?_
  exact .p (LeP.refl _)
set_option maxHeartbeats 4000000 in
theorem c_bound_Phase (c : Bool) (n : Int) (p : Pl.Plan) : PCall Try.prog 28 [iV n, .agg (planC c p)] (iV (Pl.phB n p)) := by
 refine yV Try.func28 rfl (by simp [Try.ntmps28]) fun C hC => ?_
 refine zW (zV [0, 1]) ?_
 simp only [kp, zJ, simprocAttr]
 refine zK [] (by rw [hC]; rfl) fun k hk => ?_
 simp (maxSteps := 9^9) (disch := (try simp only [lens]); omega) only [zJ, sm, ↓amb, zQ, simprocAttr, dx]
 repeat refine ⟨by first | omega | (simp; done) | (unfold maxLen; omega) | (simp [maxLen]; omega) | assumption, ?_⟩
 refine hk _ ?_; clear hk k
 refine zY fun k1 h1 => ?_
 refine zW (zV [0, 3, 4]) ?_
 simp only [kp, zJ, simprocAttr]
 refine zK [] (by rw [hC]; rfl) fun k hk => ?_
 simp (maxSteps := 9^9) (disch := (try simp only [lens]); omega) only [zJ, sm, ↓amb, zQ, simprocAttr, sz51, en63, dx]
 repeat refine ⟨by first | omega | (simp; done) | (unfold maxLen; omega) | (simp [maxLen]; omega) | assumption, ?_⟩
 refine yW (c_bound_may _ _ _) rfl ?_
 simp (maxSteps := 9^9) (disch := (try simp only [lens]); omega) only [zJ, sm, ↓amb, zQ, simprocAttr, sz51, en63, dx]
 repeat refine ⟨by first | omega | (simp; done) | (unfold maxLen; omega) | (simp [maxLen]; omega) | assumption, ?_⟩
 refine hk _ ?_; clear hk k
 refine zX rfl (fun hb => ?_) (fun hb => ?_)
 ·try simp only [hbx] at hb
  refine zW (zV []) ?_
  simp only [kp, zJ, simprocAttr]
  refine zK [] (by rw [hC]; rfl) fun k hk => ?_
  simp (maxSteps := 9^9) (disch := (try simp only [lens]); omega) only [zJ, sm, ↓amb, zQ, simprocAttr, dx]
  repeat refine ⟨by first | omega | (simp; done) | (unfold maxLen; omega) | (simp [maxLen]; omega) | assumption, ?_⟩
  refine hk _ ?_; clear hk k
  refine yQ ?_
  rw [show Pl.phB n p = 0 from if_neg (by first | exact hb | simpa using hb)]
  refine ret1 rfl rfl ?_
  exact .p (LeP.refl _)
 ·try simp only [hbx] at hb
  refine yJ ?_
  refine h1 _ ?_; clear h1 k1
  refine zW (zV [0, 3]) ?_
  simp only [kp, zJ, simprocAttr]
  have hph : Pl.phOk n p := by first | exact hb | (simpa using hb)
  obtain ⟨e1, e2, e3⟩ := Pl.phB_bd hph
  have hpl := hph.2.2
  have hpk : p.picks.length ≤ 4000 := by unfold Pl.planRight at hpl; omega
  have hpn := hph.1
  have hpm := hph.2.1
  refine awp_sd [] ⟨[0, 1, 3, 0, 0, 16, 0, 64, 248, 511, 1023], [1, 2, 5, 7], [], [], some []⟩ (by rw [hC]; rfl) (by kernel_rfl) (by kernel_rfl) fun k hk => ?_
  simp (maxSteps := 9^9) (disch := (try simp only [lens]); omega) only [zJ, sm, ↓amb, zQ, simprocAttr, fl51_2, sz49, el49, fl51_0, sz3, fl51_1, en64, dx]
  repeat refine ⟨by first | omega | (simp; done) | (unfold maxLen; omega) | (simp [maxLen]; omega) | assumption, ?_⟩
  refine yW (c_drain_Bound _ _ _ (by omega)) rfl ?_
  simp (maxSteps := 9^9) (disch := (try simp only [lens]); omega) only [zJ, sm, ↓amb, zQ, simprocAttr, fl51_2, sz49, el49, fl51_0, sz3, fl51_1, en64, dx]
  repeat refine ⟨by first | omega | (simp; done) | (unfold maxLen; omega) | (simp [maxLen]; omega) | assumption, ?_⟩
  refine hk _ ?_; clear hk k
  refine yQ ?_
  rw [e1]
  refine ret1 rfl rfl ?_
  exact .p (LeP.refl _)
set_option maxHeartbeats 4000000 in
theorem c_bound_Least (c : Bool) (n : Int) (p : Pl.Plan) : PCall Try.prog 34 [iV n, .agg (planC c p)] (iV (Pl.leB n p)) := by
 refine yV Try.func34 rfl (by simp [Try.ntmps34]) fun C hC => ?_
 refine zW (zV [0, 1]) ?_
 simp only [kp, zJ, simprocAttr]
 refine zK [] (by rw [hC]; rfl) fun k hk => ?_
 simp (maxSteps := 9^9) (disch := (try simp only [lens]); omega) only [zJ, sm, ↓amb, zQ, simprocAttr, dx]
 repeat refine ⟨by first | omega | (simp; done) | (unfold maxLen; omega) | (simp [maxLen]; omega) | assumption, ?_⟩
 refine hk _ ?_; clear hk k
 refine zY fun k1 h1 => ?_
 refine zW (zV [0, 3, 4]) ?_
 simp only [kp, zJ, simprocAttr]
 refine zK [] (by rw [hC]; rfl) fun k hk => ?_
 simp (maxSteps := 9^9) (disch := (try simp only [lens]); omega) only [zJ, sm, ↓amb, zQ, simprocAttr, sz51, en63, dx]
 repeat refine ⟨by first | omega | (simp; done) | (unfold maxLen; omega) | (simp [maxLen]; omega) | assumption, ?_⟩
 refine yW (c_bound_may _ _ _) rfl ?_
 simp (maxSteps := 9^9) (disch := (try simp only [lens]); omega) only [zJ, sm, ↓amb, zQ, simprocAttr, sz51, en63, dx]
 repeat refine ⟨by first | omega | (simp; done) | (unfold maxLen; omega) | (simp [maxLen]; omega) | assumption, ?_⟩
 refine hk _ ?_; clear hk k
 refine zX rfl (fun hb => ?_) (fun hb => ?_)
 ·try simp only [hbx] at hb
  refine zW (zV []) ?_
  simp only [kp, zJ, simprocAttr]
  refine zK [] (by rw [hC]; rfl) fun k hk => ?_
  simp (maxSteps := 9^9) (disch := (try simp only [lens]); omega) only [zJ, sm, ↓amb, zQ, simprocAttr, dx]
  repeat refine ⟨by first | omega | (simp; done) | (unfold maxLen; omega) | (simp [maxLen]; omega) | assumption, ?_⟩
  refine hk _ ?_; clear hk k
  refine yQ ?_
  rw [show Pl.leB n p = 0 from if_neg (by first | exact hb | simpa using hb)]
  refine ret1 rfl rfl ?_
  exact .p (LeP.refl _)
 ·try simp only [hbx] at hb
  refine yJ ?_
  refine h1 _ ?_; clear h1 k1
  refine zW (zV [0, 3]) ?_
  simp only [kp, zJ, simprocAttr]
  have hph : Pl.phOk n p := by first | exact hb | (simpa using hb)
  refine zK [] (by rw [hC]; rfl) fun k hk => ?_
  simp (maxSteps := 9^9) (disch := (try simp only [lens]); omega) only [zJ, sm, ↓amb, zQ, simprocAttr, fl51_0, sz3, en71, dx]
  repeat refine ⟨by first | omega | (simp; done) | (unfold maxLen; omega) | (simp [maxLen]; omega) | assumption, ?_⟩
  refine yW (c34 _ _) rfl ?_
  simp (maxSteps := 9^9) (disch := (try simp only [lens]); omega) only [zJ, sm, ↓amb, zQ, simprocAttr, fl51_0, sz3, en71, dx]
  repeat refine ⟨by first | omega | (simp; done) | (unfold maxLen; omega) | (simp [maxLen]; omega) | assumption, ?_⟩
  refine hk _ ?_; clear hk k
  refine zW (zV [5]) ?_
  simp only [kp, zJ, simprocAttr]
  refine zK [] (by rw [hC]; rfl) fun k hk => ?_
  simp (maxSteps := 9^9) (disch := (try simp only [lens]); omega) only [zJ, sm, ↓amb, zQ, simprocAttr, dx]
  repeat refine ⟨by first | omega | (simp; done) | (unfold maxLen; omega) | (simp [maxLen]; omega) | assumption, ?_⟩
  refine hk _ ?_; clear hk k
  refine yQ ?_
  rw [show Pl.leB n p = Pl.cntT n p.grain from if_pos hph]
  refine ret1 rfl rfl ?_
  exact .p (LeP.refl _)
set_option maxHeartbeats 4000000 in
theorem c_bound_Scan (c : Bool) (n b : Int) (p : Pl.Plan) : PCall Try.prog 30 [iV n, iV b, .agg (planC c p)] (iV (Pl.scB n b p)) := by
 refine yV Try.func30 rfl (by simp [Try.ntmps30]) fun C hC => ?_
 refine zW (zV [0, 1, 2]) ?_
 simp only [kp, zJ, simprocAttr]
 refine zK [] (by rw [hC]; rfl) fun k hk => ?_
 simp (maxSteps := 9^9) (disch := (try simp only [lens]); omega) only [zJ, sm, ↓amb, zQ, simprocAttr, dx]
 repeat refine ⟨by first | omega | (simp; done) | (unfold maxLen; omega) | (simp [maxLen]; omega) | assumption, ?_⟩
 refine hk _ ?_; clear hk k
 refine zW (zV [0, 1, 5]) ?_
 simp only [kp, zJ, simprocAttr]
 have hph := Pl.phB_nn (Pl.blk n b) p
 refine awp_sd [] ⟨[0, 0, 3, 0, 15, 31, 63], [3], [], [], some []⟩ (by rw [hC]; rfl) (by kernel_rfl) (by kernel_rfl) fun k hk => ?_
 simp (maxSteps := 9^9) (disch := (try simp only [lens]); omega) only [zJ, sm, ↓amb, zQ, simprocAttr, en67, sz51, en28, dx]
 repeat refine ⟨by first | omega | (simp; done) | (unfold maxLen; omega) | (simp [maxLen]; omega) | assumption, ?_⟩
 refine yW (c_scan_Blocks _ _) rfl ?_
 simp (maxSteps := 9^9) (disch := (try simp only [lens]); omega) only [zJ, sm, ↓amb, zQ, simprocAttr, en67, sz51, en28, dx]
 repeat refine ⟨by first | omega | (simp; done) | (unfold maxLen; omega) | (simp [maxLen]; omega) | assumption, ?_⟩
 refine yW (c_bound_Phase _ _ _) rfl ?_
 simp (maxSteps := 9^9) (disch := (try simp only [lens]); omega) only [zJ, sm, ↓amb, zQ, simprocAttr, en67, sz51, en28, dx]
 repeat refine ⟨by first | omega | (simp; done) | (unfold maxLen; omega) | (simp [maxLen]; omega) | assumption, ?_⟩
 refine hk _ ?_; clear hk k
 refine yQ ?_
 refine ret1 rfl rfl ?_
 exact .p (LeP.refl _)
set_option maxHeartbeats 4000000 in
theorem c_bound_sorter_of (c : Bool) (w : Pl.Way) (n : Int) : PCall Try.prog 69 [.agg (wayC c w ++ [iV (Pl.pas w.bits)]), iV n] (iV (Pl.soB n w)) := by
 refine yV Try.func69 rfl (by simp [Try.ntmps69]) fun C hC => ?_
 refine zW (zV [0, 1]) ?_
 simp only [kp, zJ, simprocAttr]
 refine zK [] (by rw [hC]; rfl) fun k hk => ?_
 simp (maxSteps := 9^9) (disch := (try simp only [lens]); omega) only [zJ, sm, ↓amb, zQ, simprocAttr, List.cons_append, List.nil_append, dx]
 repeat refine ⟨by first | omega | (simp; done) | (unfold maxLen; omega) | (simp [maxLen]; omega) | assumption, ?_⟩
 refine hk _ ?_; clear hk k
 refine zY fun k1 h1 => ?_
 refine xQ [] 15 (decide (Pl.pas w.bits = 0 ∨ Pl.blk n w.block = 0)) [1, 2, 4] (by rw [hC]; rfl) (fun gd hgd k hk => ?_) ?_
 ·have g3 : gd 3 = some 8 := by rw [hgd]; rfl
  clear hgd
  simp (maxSteps := 9^9) (disch := (try simp only [lens]); omega) only [zJ, sm, ↓amb, zQ, simprocAttr, fl99_1, sz3, fl99_0, fl53_1, en67, zZ, g3, List.cons_append, List.nil_append, dx]
  repeat' first | refine hk _ _ rfl rfl rfl rfl ?_ | (refine gsplit (fun hg => ?_) (fun hg => ?_) <;> (try simp only [hbx] at hg) <;> simp (maxSteps := 9^9) (disch := (try simp only [lens]); omega) only [zJ, sm, ↓amb, zQ, simprocAttr, fl99_1, sz3, fl99_0, fl53_1, en67, zZ, g3, List.cons_append, List.nil_append, dx]) | apply And.intro | (refine yW (c_scan_Blocks _ _) rfl ?_; (try simp (maxSteps := 9^9) (disch := (try simp only [lens]); omega) only [zJ, sm, ↓amb, zQ, simprocAttr, fl99_1, sz3, fl99_0, fl53_1, en67, zZ, g3, List.cons_append, List.nil_append, dx])) | fail
  all_goals first | rfl | omega | exact (decide_eq_true (by omega)).symm | exact (decide_eq_false (by omega)).symm | exact decide_eq_decide.mpr (by omega) | (refine Bool.eq_iff_iff.mpr ?_; simp only [beq_iff_eq, bne_iff_ne, ne_eq, decide_eq_true_eq]; omega) | (refine Bool.eq_iff_iff.mpr ?_; simp only [Bool.not_eq_true', Bool.not_eq_false', decide_eq_false_iff_not, decide_eq_true_eq, beq_iff_eq, bne_iff_ne, ne_eq]; omega) | assumption | (simp; done) | (simp [maxLen]; omega) | skip
 simp only [kp, zJ, simprocAttr, List.length_cons, List.length_nil]
 refine zX rfl (fun hb => ?_) (fun hb => ?_)
 ·try simp only [hbx] at hb
  refine zW (zV []) ?_
  simp only [kp, zJ, simprocAttr]
  refine zK [] (by rw [hC]; rfl) fun k hk => ?_
  simp (maxSteps := 9^9) (disch := (try simp only [lens]); omega) only [zJ, sm, ↓amb, zQ, simprocAttr, List.cons_append, List.nil_append, dx]
  repeat refine ⟨by first | omega | (simp; done) | (unfold maxLen; omega) | (simp [maxLen]; omega) | assumption, ?_⟩
  refine hk _ ?_; clear hk k
  refine yQ ?_
  rw [show Pl.soB n w = 0 from if_pos hb]
  refine ret1 rfl rfl ?_
  exact .p (LeP.refl _)
 ·try simp only [hbx] at hb
  refine yJ ?_
  refine h1 _ ?_; clear h1 k1
  refine zW (zV [1, 2]) ?_
  simp only [kp, zJ, simprocAttr]
  have m1 := Pl.pas_nn w.bits
  have m2 := Pl.scB_nn n w.block w.plan
  have m3 := Pl.phB_nn n w.plan
  have m4 : 0 ≤ (Pl.pas w.bits + 1) * Pl.scB n w.block w.plan := Int.mul_nonneg (by omega) m2.1
  have m5 : (Pl.pas w.bits + 1) * Pl.scB n w.block w.plan ≤ 33 * 40000 := Pl.mul_up (by omega) m2.2 m2.1 (by omega)
  have m6 : 0 ≤ Pl.pas w.bits * Pl.scB n w.block w.plan := Int.mul_nonneg (by omega) m2.1
  have m7 : Pl.pas w.bits * Pl.scB n w.block w.plan ≤ 33 * 40000 := Pl.mul_up (by omega) m2.2 m2.1 (by omega)
  refine awp_sd [] ⟨[0, 1, 3, 0, 0, 16, 48, 0, 128, 384, 1016, 2047, 0, 0, 8192, 24576, 63480, 131071, 262143], [1, 6, 9, 15], [], [], some []⟩ (by rw [hC]; rfl) (by kernel_rfl) (by kernel_rfl) fun k hk => ?_
  simp (maxSteps := 9^9) (disch := (try simp only [lens]); omega) only [zJ, sm, ↓amb, zQ, simprocAttr, fl99_1, sz3, fl99_0, fl53_1, fl53_2, sz51, en30, en28, List.cons_append, List.nil_append, dx]
  repeat refine ⟨by first | omega | (simp; done) | (unfold maxLen; omega) | (simp [maxLen]; omega) | assumption, ?_⟩
  refine yW (c_bound_Scan _ _ _ w.plan) rfl ?_
  simp (maxSteps := 9^9) (disch := (try simp only [lens]); omega) only [zJ, sm, ↓amb, zQ, simprocAttr, fl99_1, sz3, fl99_0, fl53_1, fl53_2, sz51, en30, en28, List.cons_append, List.nil_append, dx]
  repeat refine ⟨by first | omega | (simp; done) | (unfold maxLen; omega) | (simp [maxLen]; omega) | assumption, ?_⟩
  refine yW (c_bound_Phase _ _ w.plan) rfl ?_
  simp (maxSteps := 9^9) (disch := (try simp only [lens]); omega) only [zJ, sm, ↓amb, zQ, simprocAttr, fl99_1, sz3, fl99_0, fl53_1, fl53_2, sz51, en30, en28, List.cons_append, List.nil_append, dx]
  repeat refine ⟨by first | omega | (simp; done) | (unfold maxLen; omega) | (simp [maxLen]; omega) | assumption, ?_⟩
  refine hk _ ?_; clear hk k
  refine yQ ?_
  rw [show Pl.soB n w = _ from if_neg (by first | exact hb | omega)]
  refine ret1 rfl rfl ?_
  exact .p (LeP.refl _)
set_option maxHeartbeats 4000000 in
theorem c_bound_Sort (c : Bool) (n : Int) (w : Pl.Way) : PCall Try.prog 32 [iV n, .agg (wayC c w)] (iV (Pl.soB n w)) := by
 refine yV Try.func32 rfl (by simp [Try.ntmps32]) fun C hC => ?_
 refine zW (zV [0, 1]) ?_
 simp only [kp, zJ, simprocAttr]
 refine zK [] (by rw [hC]; rfl) fun k hk => ?_
 simp (maxSteps := 9^9) (disch := (try simp only [lens]); omega) only [zJ, sm, ↓amb, zQ, simprocAttr, dx]
 repeat refine ⟨by first | omega | (simp; done) | (unfold maxLen; omega) | (simp [maxLen]; omega) | assumption, ?_⟩
 refine hk _ ?_; clear hk k
 refine zW (zV [0, 3]) ?_
 simp only [kp, zJ, simprocAttr]
 refine awp_sd [] ⟨[0, 0, 2, 6, 15, 0, 63, 127], [0, 2], [], [], some []⟩ (by rw [hC]; rfl) (by kernel_rfl) (by kernel_rfl) fun k hk => ?_
 simp (maxSteps := 9^9) (disch := (try simp only [lens]); omega) only [zJ, sm, ↓amb, zQ, simprocAttr, sz53, fl53_0, sz3, en68, vr99, bt99, pl99_0, pl99_1, en69, dx]
 repeat refine ⟨by first | omega | (simp; done) | (unfold maxLen; omega) | (simp [maxLen]; omega) | assumption, ?_⟩
 refine yW (c_radix_Passes _) rfl ?_
 simp (maxSteps := 9^9) (disch := (try simp only [lens]); omega) only [zJ, sm, ↓amb, zQ, simprocAttr, sz53, fl53_0, sz3, en68, vr99, bt99, pl99_0, pl99_1, en69, dx]
 repeat refine ⟨by first | omega | (simp; done) | (unfold maxLen; omega) | (simp [maxLen]; omega) | assumption, ?_⟩
 refine yW (c_bound_sorter_of _ w _) rfl ?_
 simp (maxSteps := 9^9) (disch := (try simp only [lens]); omega) only [zJ, sm, ↓amb, zQ, simprocAttr, sz53, fl53_0, sz3, en68, vr99, bt99, pl99_0, pl99_1, en69, dx]
 repeat refine ⟨by first | omega | (simp; done) | (unfold maxLen; omega) | (simp [maxLen]; omega) | assumption, ?_⟩
 refine hk _ ?_; clear hk k
 refine yQ ?_
 refine ret1 rfl rfl ?_
 exact .p (LeP.refl _)
end Go.Proofs.Ytjkkjiaeeobnkaa
end
section
set_option linter.unusedSimpArgs false
set_option linter.unusedVariables false
set_option maxRecDepth 100000
namespace Go.Proofs.Ytjkkjiaeeobnkaa
open Go.Am Go.Proofs
theorem en75 : enters Try.prog 75 = true := by kernel_rfl
theorem en76 : enters Try.prog 76 = true := by kernel_rfl
theorem fl117_0 : tFld Try.prog 117 0 = some (0, 1, false) := by kernel_rfl
theorem fl117_1 : tFld Try.prog 117 1 = some (1, 1, false) := by kernel_rfl
theorem sz117 : tSz Try.prog 117 = some (true, 2) := by kernel_rfl
set_option maxHeartbeats 4000000 in
theorem c_fill_Order (c : Bool) (n : Int) (p : Pl.Plan) : PCall Try.prog 41 [iV n, .agg (planC c p)] (.tup [ints false (Pl.ordU n p), iV (Pl.ordS n p), iV (Pl.ordE n p)]) := by
 refine yV Try.func41 rfl (by simp [Try.ntmps41]) fun C hC => ?_
 refine zW (zV [0, 1]) ?_
 simp only [kp, zJ, simprocAttr]
 refine zK [64] (by rw [hC]; rfl) fun k hk => ?_
 simp (maxSteps := 9^9) (disch := (try simp only [lens]); omega) only [zJ, sm, ↓amb, zQ, simprocAttr, dx]
 repeat refine ⟨by first | omega | (simp; done) | (unfold maxLen; omega) | (simp [maxLen]; omega) | assumption, ?_⟩
 refine hk _ ?_; clear hk k
 refine zY fun k1 h1 => ?_
 refine xQ [64] 24 (decide (¬ Pl.ordOk n p)) [0, 3, 4, 5, 6] (by rw [hC]; rfl) (fun gd hgd k hk => ?_) ?_
 ·have g2 : gd 2 = some 16 := by rw [hgd]; rfl
  have g6 : gd 6 = some 20 := by rw [hgd]; rfl
  clear hgd
  simp (maxSteps := 9^9) (disch := (try simp only [lens]); omega) only [zJ, sm, ↓amb, zQ, simprocAttr, sz51, en74, zZ, g2, g6, dx]
  repeat' first | refine hk _ _ rfl rfl rfl rfl ?_ | (refine gsplit (fun hg => ?_) (fun hg => ?_) <;> (try simp only [hbx] at hg) <;> simp (maxSteps := 9^9) (disch := (try simp only [lens]); omega) only [zJ, sm, ↓amb, zQ, simprocAttr, sz51, en74, zZ, g2, g6, dx]) | apply And.intro | (refine yW (c_fill_Right _ _) rfl ?_; (try simp (maxSteps := 9^9) (disch := (try simp only [lens]); omega) only [zJ, sm, ↓amb, zQ, simprocAttr, sz51, en74, zZ, g2, g6, dx])) | fail
  all_goals first | rfl | omega | exact (decide_eq_true (by omega)).symm | exact (decide_eq_false (by omega)).symm | exact decide_eq_decide.mpr (by omega) | (refine Bool.eq_iff_iff.mpr ?_; simp only [beq_iff_eq, bne_iff_ne, ne_eq, decide_eq_true_eq]; omega) | (refine Bool.eq_iff_iff.mpr ?_; simp only [Bool.not_eq_true', Bool.not_eq_false', decide_eq_false_iff_not, decide_eq_true_eq, beq_iff_eq, bne_iff_ne, ne_eq]; omega) | assumption | (simp; done) | (simp [maxLen]; omega) | skip
  all_goals first | (refine (decide_eq_true ?_).symm; intro q; exact absurd q.1 (by omega)) | (refine (decide_eq_true ?_).symm; intro q; exact absurd q.2.1 (by omega)) | (refine Bool.eq_iff_iff.mpr ?_; simp only [Bool.not_eq_true', decide_eq_false_iff_not, decide_eq_true_eq]; exact ⟨fun h q => h q.2.2, fun h q => h ⟨by omega, by omega, q⟩⟩)
 simp only [kp, zJ, simprocAttr, List.length_cons, List.length_nil]
 refine zX rfl (fun hb => ?_) (fun hb => ?_)
 ·try simp only [hbx] at hb
  refine zW (zV []) ?_
  simp only [kp, zJ, simprocAttr]
  refine zK [64] (by rw [hC]; rfl) fun k hk => ?_
  simp (maxSteps := 9^9) (disch := (try simp only [lens]); omega) only [zJ, sm, ↓amb, zQ, simprocAttr, dx]
  repeat refine ⟨by first | omega | (simp; done) | (unfold maxLen; omega) | (simp [maxLen]; omega) | assumption, ?_⟩
  refine hk _ ?_; clear hk k
  refine yQ ?_
  obtain ⟨e1, e2, e3⟩ := Pl.ord_no (n := n) (p := p) (by first | exact hb | simpa using hb)
  rw [e1, e2, e3]
  refine ret3 rfl rfl rfl rfl ?_ ?_ ?_
  ·exact .p (LeP.seq _ _)
  ·exact .p (LeP.refl _)
  ·exact .p (LeP.refl _)
 ·try simp only [hbx] at hb
  refine yJ ?_
  refine h1 _ ?_; clear h1 k1
  refine zY fun k2 h2 => ?_
  refine zW (zV [0, 3, 4, 5, 6]) ?_
  simp only [kp, zJ, simprocAttr]
  have hok : Pl.ordOk n p := by first | exact hb | (simpa using hb)
  refine zK [64] (by rw [hC]; rfl) fun k hk => ?_
  simp (maxSteps := 9^9) (disch := (try simp only [lens]); omega) only [zJ, sm, ↓amb, zQ, simprocAttr, dx]
  repeat refine ⟨by first | omega | (simp; done) | (unfold maxLen; omega) | (simp [maxLen]; omega) | assumption, ?_⟩
  refine hk _ ?_; clear hk k
  refine zX rfl (fun hb => ?_) (fun hb => ?_)
  ·try simp only [hbx] at hb
   refine zW (zV []) ?_
   simp only [kp, zJ, simprocAttr]
   refine zK [64] (by rw [hC]; rfl) fun k hk => ?_
   simp (maxSteps := 9^9) (disch := (try simp only [lens]); omega) only [zJ, sm, ↓amb, zQ, simprocAttr, dx]
   repeat refine ⟨by first | omega | (simp; done) | (unfold maxLen; omega) | (simp [maxLen]; omega) | assumption, ?_⟩
   refine hk _ ?_; clear hk k
   refine yQ ?_
   subst hb
   obtain ⟨e1, e2⟩ := Pl.ord_zero p
   rw [e1, e2, Pl.ordE0 hok]
   refine ret3 rfl rfl rfl rfl ?_ ?_ ?_
   ·exact .p (LeP.seq _ _)
   ·exact .p (LeP.refl _)
   ·exact .p (LeP.refl _)
  ·try simp only [hbx] at hb
   refine yJ ?_
   refine h2 _ ?_; clear h2 k2
   refine zW (zV [0, 3]) ?_
   simp only [kp, zJ, simprocAttr]
   have hn0 := hb
   have hbd := Pl.ord_bd hok hn0
   obtain ⟨u1, u2, u3, u4, u5, u6, u7⟩ := Pl.ordL_ok hok hn0
   have hn1 := hok.2.1
   refine zK [64] (by rw [hC]; rfl) fun k hk => ?_
   simp (maxSteps := 9^9) (disch := (try simp only [lens]); omega) only [zJ, sm, ↓amb, zQ, simprocAttr, fl51_0, sz3, fl51_1, fl51_2, sz49, en75, vr110, sz110, dx]
   repeat refine ⟨by first | omega | (simp; done) | (unfold maxLen; omega) | (simp [maxLen]; omega) | assumption, ?_⟩
   refine yW (c_drain_Whole _ n p.grain p.workers p.picks hbd.1 (by omega)) rfl ?_
   simp (maxSteps := 9^9) (disch := (try simp only [lens]); omega) only [zJ, sm, ↓amb, zQ, simprocAttr, fl51_0, sz3, fl51_1, fl51_2, sz49, en75, vr110, sz110, dx]
   repeat refine ⟨by first | omega | (simp; done) | (unfold maxLen; omega) | (simp [maxLen]; omega) | assumption, ?_⟩
   refine hk _ ?_; clear hk k
   refine zY fun k3 h3 => ?_
   refine zW (zV [4, 5, 6, 7, 8, 9]) ?_
   simp only [kp, zJ, simprocAttr]
   refine zK [64] (by rw [hC]; rfl) fun k hk => ?_
   simp (maxSteps := 9^9) (disch := (try simp only [lens]); omega) only [zJ, sm, ↓amb, zQ, simprocAttr, dx]
   repeat refine ⟨by first | omega | (simp; done) | (unfold maxLen; omega) | (simp [maxLen]; omega) | assumption, ?_⟩
   refine hk _ ?_; clear hk k
   refine zX rfl (fun hb => ?_) (fun hb => ?_)
   ·exact absurd hb (by simp)
   ·try simp only [hbx] at hb
    refine yJ ?_
    refine h3 _ ?_; clear h3 k3
    refine zW (zV [7, 8]) ?_
    simp only [kp, zJ, simprocAttr]
    refine zK [64] (by rw [hC]; rfl) fun k hk => ?_
    simp (maxSteps := 9^9) (disch := (try simp only [lens]); omega) only [zJ, sm, ↓amb, zQ, simprocAttr, dx]
    repeat refine ⟨by first | omega | (simp; done) | (unfold maxLen; omega) | (simp [maxLen]; omega) | assumption, ?_⟩
    refine hk _ ?_; clear hk k
    refine zY fun k4 h4 => ?_
    refine zW (zV [4, 5, 6, 7, 8, 10]) ?_
    simp only [kp, zJ, simprocAttr]
    have hws : (Pl.whole n p.grain p.workers p.picks).2.1.length ≤ 1000000 := by have := u6; unfold Pl.ordW at this; omega
    refine awp_own' 10 1 rfl ?_
    refine zK [64] (by rw [hC]; rfl) fun k hk => ?_
    simp (maxSteps := 9^9) (disch := (try simp only [lens]); omega) only [zJ, sm, ↓amb, zQ, simprocAttr, sz110, en76, el114, dx]
    repeat refine ⟨by first | omega | (simp; done) | (unfold maxLen; omega) | (simp [maxLen]; omega) | assumption, ?_⟩
    refine yW (c_drain_Leaves _ _ _ hws) rfl ?_
    simp (maxSteps := 9^9) (disch := (try simp only [lens]); omega) only [zJ, sm, ↓amb, zQ, simprocAttr, sz110, en76, el114, dx]
    repeat refine ⟨by first | omega | (simp; done) | (unfold maxLen; omega) | (simp [maxLen]; omega) | assumption, ?_⟩
    refine hk _ ?_; clear hk k
    refine yK ?_
    refine yY (σ := Nat) (fun i => i ≤ (Pl.ordL n p).length) (fun (i : Nat) => ⟨[(8, (.p (.seq false ((Pl.whole n p.grain p.workers p.picks).2.1.map evC)))), (10, (.own 0)), (44, (.p (.seq false ((Pl.ordL n p).map (fun s => [iV s.1, iV s.2]))))), (45, (.p (iV (Pl.ordL n p).length))), (46, (.p (iV i)))], [(0, (.row 1 (lift ((Pl.unitsOf ((Pl.ordL n p).take i)).map fun x => [iV x]))))], 1⟩) (fun i => (Pl.ordL n p).length - i) 0 ?_ ?_ fun i hi => ?_
    ·exact Nat.zero_le _
    ·exact le_of [(0, _)] (by rfl) (by rfl) ⟨⟨_, rfl, .p (.of_eq (by first | rfl | (simp only [PV.lit.injEq, Value.int.injEq, true_and]; omega) | (simp; done) | (simp; omega)))⟩, ⟨_, rfl, .own rfl⟩, ⟨_, rfl, .p (.of_eq (by first | rfl | (simp only [PV.lit.injEq, Value.int.injEq, true_and]; omega) | (simp; done) | (simp; omega)))⟩, ⟨_, rfl, .p (.of_eq (by first | rfl | (simp only [PV.lit.injEq, Value.int.injEq, true_and]; omega) | (simp; done) | (simp; omega)))⟩, ⟨_, rfl, .p (.of_eq (by first | rfl | (simp only [PV.lit.injEq, Value.int.injEq, true_and]; omega) | (simp; done) | (simp; omega)))⟩, trivial⟩ ⟨⟨_, rfl, _, rfl, .liftE (by first | (rw [List.take_zero]; rfl) | (rw [Pl.unitsOf_take _ i (by omega), show ((Pl.ordL n p).getD i default).1 + (k : Int) = ((Pl.ordL n p).getD i default).2 by omega]))⟩, trivial⟩
    refine zW (zV [0, 4, 5, 6, 8, 10, 44, 45, 46]) ?_
    simp only [kp, zJ, simprocAttr]
    refine zK [64] (by rw [hC]; rfl) fun k hk => ?_
    simp (maxSteps := 9^9) (disch := (try simp only [lens]); omega) only [zJ, sm, ↓amb, zQ, simprocAttr, dx]
    repeat refine ⟨by first | omega | (simp; done) | (unfold maxLen; omega) | (simp [maxLen]; omega) | assumption, ?_⟩
    refine hk _ ?_; clear hk k
    refine zY fun k6 h6 => ?_
    refine zX rfl (fun hb => ?_) (fun hb => ?_)
    ·try simp only [hbx] at hb
     refine yJ ?_
     refine h6 _ ?_; clear h6 k6
     refine zY fun k7 h7 => ?_
     refine yK ?_
     refine zW (zV [0, 4, 5, 6, 8, 10, 44, 45, 46]) ?_
     simp only [kp, zJ, simprocAttr]
     refine zK [64] (by rw [hC]; rfl) fun k hk => ?_
     simp (maxSteps := 9^9) (disch := (try simp only [lens]); omega) only [zJ, sm, ↓amb, zQ, simprocAttr, el114, sz117, vr117, dx]
     repeat refine ⟨by first | omega | (simp; done) | (unfold maxLen; omega) | (simp [maxLen]; omega) | assumption, ?_⟩
     refine hk _ ?_; clear hk k
     refine zW (zV [0, 4, 5, 6, 8, 10, 12, 44, 45, 46]) ?_
     simp only [kp, zJ, simprocAttr]
     obtain ⟨s1, s2, s3⟩ := u3 ((Pl.ordL n p).getD i default) (Pl.getD_mem _ i default (by omega))
     refine zK [64] (by rw [hC]; rfl) fun k hk => ?_
     simp (maxSteps := 9^9) (disch := (try simp only [lens]); omega) only [zJ, sm, ↓amb, zQ, simprocAttr, fl117_1, sz3, fl117_0, dx]
     repeat refine ⟨by first | omega | (simp; done) | (unfold maxLen; omega) | (simp [maxLen]; omega) | assumption, ?_⟩
     refine hk _ ?_; clear hk k
     refine yK ?_
     refine yY (σ := Nat) (fun k => (k : Int) ≤ ((Pl.ordL n p).getD i default).2 - ((Pl.ordL n p).getD i default).1) (fun (k : Nat) => ⟨[(8, (.p (.seq false ((Pl.whole n p.grain p.workers p.picks).2.1.map evC)))), (10, (.own 0)), (44, (.p (.seq false ((Pl.ordL n p).map (fun s => [iV s.1, iV s.2]))))), (45, (.p (iV (Pl.ordL n p).length))), (46, (.p (iV i))), (12, (.ptr 1 2 0 0)), (54, (.p (iV (((Pl.ordL n p).getD i default).2 - ((Pl.ordL n p).getD i default).1)))), (55, (.p (iV (k : Int))))], [(0, (.row 1 (lift ((Pl.unitsOf ((Pl.ordL n p).take i) ++ Pl.upto ((Pl.ordL n p).getD i default).1 (((Pl.ordL n p).getD i default).1 + (k : Int))).map fun x => [iV x])))), (1, (.row 2 [[.p (iV ((Pl.ordL n p).getD i default).1), .p (iV ((Pl.ordL n p).getD i default).2)]]))], 1⟩) (fun k => (((Pl.ordL n p).getD i default).2 - ((Pl.ordL n p).getD i default).1).toNat - k) 0 ?_ ?_ fun k hk => ?_
     ·show ((0 : Nat) : Int) ≤ _; omega
     ·exact le_of [(0, _), (1, _)] (by rfl) (by rfl) ⟨⟨_, rfl, .p (.of_eq (by first | rfl | (simp only [PV.lit.injEq, Value.int.injEq, true_and]; omega) | (simp; done) | (simp; omega)))⟩, ⟨_, rfl, .own rfl⟩, ⟨_, rfl, .p (.of_eq (by first | rfl | (simp only [PV.lit.injEq, Value.int.injEq, true_and]; omega) | (simp; done) | (simp; omega)))⟩, ⟨_, rfl, .p (.of_eq (by first | rfl | (simp only [PV.lit.injEq, Value.int.injEq, true_and]; omega) | (simp; done) | (simp; omega)))⟩, ⟨_, rfl, .p (.of_eq (by first | rfl | (simp only [PV.lit.injEq, Value.int.injEq, true_and]; omega) | (simp; done) | (simp; omega)))⟩, ⟨_, rfl, .ptr rfl⟩, ⟨_, rfl, .p (.of_eq (by first | rfl | (simp only [PV.lit.injEq, Value.int.injEq, true_and]; omega) | (simp; done) | (simp; omega)))⟩, ⟨_, rfl, .p (.of_eq (by first | rfl | (simp only [PV.lit.injEq, Value.int.injEq, true_and]; omega) | (simp; done) | (simp; omega)))⟩, trivial⟩ ⟨⟨_, rfl, _, rfl, .liftE (by first | (rw [Pl.upto_nil (by simp), List.append_nil]; done) | (rw [← Pl.upto_snoc, ← List.append_assoc]; simp only [List.map_append, List.map_cons, List.map_nil]))⟩, ⟨_, rfl, _, rfl, .one (.cons (.p (.refl _)) (.cons (.p (.refl _)) (.nil)))⟩, trivial⟩
     refine zW (zV [0, 1, 4, 5, 6, 8, 10, 12, 44, 45, 46, 54, 55]) ?_
     simp only [kp, zJ, simprocAttr]
     refine zK [64] (by rw [hC]; rfl) fun k hk => ?_
     simp (maxSteps := 9^9) (disch := (try simp only [lens]); omega) only [zJ, sm, ↓amb, zQ, simprocAttr, dx]
     repeat refine ⟨by first | omega | (simp; done) | (unfold maxLen; omega) | (simp [maxLen]; omega) | assumption, ?_⟩
     refine hk _ ?_; clear hk k
     refine zY fun k9 h9 => ?_
     refine zX rfl (fun hb => ?_) (fun hb => ?_)
     ·try simp only [hbx] at hb
      refine yJ ?_
      refine h9 _ ?_; clear h9 k9
      refine zY fun k10 h10 => ?_
      refine yK ?_
      refine zW (zV [0, 1, 4, 5, 6, 8, 10, 12, 44, 45, 46, 54, 55]) ?_
      simp only [kp, zJ, simprocAttr]
      refine zK [64] (by rw [hC]; rfl) fun k hk => ?_
      simp (maxSteps := 9^9) (disch := (try simp only [lens]); omega) only [zJ, sm, ↓amb, zQ, simprocAttr, dx]
      repeat refine ⟨by first | omega | (simp; done) | (unfold maxLen; omega) | (simp [maxLen]; omega) | assumption, ?_⟩
      refine hk _ ?_; clear hk k
      have hul := Pl.upto_take_len (Pl.ordL n p) i k (by omega) (by omega)
      rw [List.length_append] at hul
      refine yZ [64] (by rw [hC]; rfl) fun k hk => ?_
      simp (maxSteps := 9^9) (disch := (try simp only [lens]); omega) only [zJ, sm, ↓amb, zQ, simprocAttr, fl117_0, sz3, el67, vr3, by3, dx]
      repeat refine ⟨by first | omega | (simp; done) | (unfold maxLen; omega) | (simp [maxLen]; omega) | assumption, ?_⟩
      refine hk _ ?_; clear hk k
      refine h10 _ ?_; clear h10 k10
      refine yZ [64] (by rw [hC]; rfl) fun k hk => ?_
      simp (maxSteps := 9^9) (disch := (try simp only [lens]); omega) only [zJ, sm, ↓amb, zQ, simprocAttr, dx]
      repeat refine ⟨by first | omega | (simp; done) | (unfold maxLen; omega) | (simp [maxLen]; omega) | assumption, ?_⟩
      refine hk _ ?_; clear hk k
      refine ⟨k + 1, by omega, le_of [(0, _), (1, _)] (by rfl) (by rfl) ⟨⟨_, rfl, .p (.of_eq (by first | rfl | (simp only [PV.lit.injEq, Value.int.injEq, true_and]; omega) | (simp; done) | (simp; omega)))⟩, ⟨_, rfl, .own rfl⟩, ⟨_, rfl, .p (.of_eq (by first | rfl | (simp only [PV.lit.injEq, Value.int.injEq, true_and]; omega) | (simp; done) | (simp; omega)))⟩, ⟨_, rfl, .p (.of_eq (by first | rfl | (simp only [PV.lit.injEq, Value.int.injEq, true_and]; omega) | (simp; done) | (simp; omega)))⟩, ⟨_, rfl, .p (.of_eq (by first | rfl | (simp only [PV.lit.injEq, Value.int.injEq, true_and]; omega) | (simp; done) | (simp; omega)))⟩, ⟨_, rfl, .ptr rfl⟩, ⟨_, rfl, .p (.of_eq (by first | rfl | (simp only [PV.lit.injEq, Value.int.injEq, true_and]; omega) | (simp; done) | (simp; omega)))⟩, ⟨_, rfl, .p (.of_eq (by first | rfl | (simp only [PV.lit.injEq, Value.int.injEq, true_and]; omega) | (simp; done) | (simp; omega)))⟩, trivial⟩ ⟨⟨_, rfl, _, rfl, .liftE (by first | (rw [Pl.upto_nil (by simp), List.append_nil]; done) | (rw [← Pl.upto_snoc, ← List.append_assoc]; simp only [List.map_append, List.map_cons, List.map_nil]))⟩, ⟨_, rfl, _, rfl, .one (.cons (.p (.refl _)) (.cons (.p (.refl _)) (.nil)))⟩, trivial⟩, by omega⟩
     ·try simp only [hbx] at hb
      refine yX ((if_pos rfl).mpr ?_)
      refine h7 _ ?_; clear h9 k9; clear h7 k7
      refine yZ [64] (by rw [hC]; rfl) fun k hk => ?_
      simp (maxSteps := 9^9) (disch := (try simp only [lens]); omega) only [zJ, sm, ↓amb, zQ, simprocAttr, dx]
      repeat refine ⟨by first | omega | (simp; done) | (unfold maxLen; omega) | (simp [maxLen]; omega) | assumption, ?_⟩
      refine hk _ ?_; clear hk k
      refine ⟨i + 1, by omega, le_of [(0, _)] (by rfl) (by rfl) ⟨⟨_, rfl, .p (.of_eq (by first | rfl | (simp only [PV.lit.injEq, Value.int.injEq, true_and]; omega) | (simp; done) | (simp; omega)))⟩, ⟨_, rfl, .own rfl⟩, ⟨_, rfl, .p (.of_eq (by first | rfl | (simp only [PV.lit.injEq, Value.int.injEq, true_and]; omega) | (simp; done) | (simp; omega)))⟩, ⟨_, rfl, .p (.of_eq (by first | rfl | (simp only [PV.lit.injEq, Value.int.injEq, true_and]; omega) | (simp; done) | (simp; omega)))⟩, ⟨_, rfl, .p (.of_eq (by first | rfl | (simp only [PV.lit.injEq, Value.int.injEq, true_and]; omega) | (simp; done) | (simp; omega)))⟩, trivial⟩ ⟨⟨_, rfl, _, rfl, .liftE (by first | (rw [List.take_zero]; rfl) | (rw [Pl.unitsOf_take _ i (by omega), show ((Pl.ordL n p).getD i default).1 + (k : Int) = ((Pl.ordL n p).getD i default).2 by omega]))⟩, trivial⟩, by omega⟩
    ·try simp only [hbx] at hb
     refine yX ((if_pos rfl).mpr ?_)
     refine h4 _ ?_; clear h6 k6; clear h4 k4
     refine zW (zV [8, 10]) ?_
     simp only [kp, zJ, simprocAttr]
     have htk : (Pl.ordL n p).take i = (Pl.ordL n p) := List.take_of_length_le (by omega)
     rw [htk]
     refine zK [64] (by rw [hC]; rfl) fun k hk => ?_
     simp (maxSteps := 9^9) (disch := (try simp only [lens]); omega) only [zJ, sm, ↓amb, zQ, simprocAttr, el111, dx]
     repeat refine ⟨by first | omega | (simp; done) | (unfold maxLen; omega) | (simp [maxLen]; omega) | assumption, ?_⟩
     refine hk _ ?_; clear hk k
     refine yQ ?_
     rw [u1, u2, Pl.ordE0 hok]
     refine ret3 rfl rfl rfl rfl ?_ ?_ ?_
     ·exact .ownE rfl rfl
     ·exact .p (LeP.refl _)
     ·exact .p (LeP.refl _)
end Go.Proofs.Ytjkkjiaeeobnkaa
end
section
set_option linter.unusedSimpArgs false
set_option linter.unusedVariables false
namespace Go.Pl
def fillL (n : Nat) (S : List Int) (v : Nat → Int) : List Int := (List.range n).map fun (j : Nat) => if (j : Int) ∈ S then v j else 0
theorem fillL_len (n : Nat) (S : List Int) (v : Nat → Int) : (fillL n S v).length = n := by simp [fillL]
theorem fillL_nil (n : Nat) (v : Nat → Int) : fillL n [] v = List.replicate n 0 := by
  unfold fillL
  simp only [List.not_mem_nil, if_false]
  rw [List.map_const', List.length_range]
theorem fillL_set {n : Nat} {S : List Int} {v : Nat → Int} {i x : Int} (h0 : 0 ≤ i) (hx : x = v i.toNat) : (fillL n S v).set i.toNat x = fillL n (S ++ [i]) v := by
  subst hx
  apply List.ext_getElem?
  intro j
  rw [List.getElem?_set]
  simp only [fillL, List.getElem?_map, List.length_map, List.length_range, List.mem_append, List.mem_singleton]
  by_cases e : i.toNat = j
  · subst e
    rw [if_pos rfl]
    split
    · rename_i h
      rw [List.getElem?_range h]
      simp only [Option.map_some]
      rw [if_pos (.inr (by omega))]
    · rename_i h
      rw [List.getElem?_eq_none (by simpa using h)]; rfl
  · rw [if_neg e]
    by_cases h : j < n
    · have : ((j : Int) = i) ↔ False := ⟨fun q => e (by omega), False.elim⟩
      rw [List.getElem?_range h]
      simp only [Option.map_some, this, or_false]
    · rw [List.getElem?_eq_none (by simpa using h)]; rfl
theorem fillL_all {n : Nat} {S : List Int} {v : Nat → Int} (h : ∀ j : Nat, j < n → (j : Int) ∈ S) : fillL n S v = (List.range n).map v := by
  unfold fillL
  refine List.map_congr_left fun j hj => ?_
  rw [if_pos (h j (List.mem_range.1 hj))]
theorem mapR_get {n : Nat} {v : Nat → Int} {j : Nat} (h : j < n) (d : Int) : ((List.range n).map v).getD j d = v j := by
  simp [List.getD_eq_getElem?_getD, h]
@[reducible] def W32 (x : Int) : Prop := 0 ≤ x ∧ x ≤ 4294967295
structure Rule (f : Int → Int → Int) : Prop where
  cl : ∀ a b, W32 a → W32 b → W32 (f a b)
  asc : ∀ a b c, W32 a → W32 b → W32 c → f (f a b) c = f a (f b c)
  z1 : ∀ a, W32 a → f 0 a = a
  z2 : ∀ a, W32 a → f a 0 = a
@[reducible] def add32 (a b : Int) : Int := (a + b) % 4294967296
theorem rule_add : Rule add32 := by
  refine ⟨fun a b ha hb => ?_, fun a b c ha hb hc => ?_, fun a ha => ?_, fun a ha => ?_⟩ <;> unfold add32 <;> omega
def allF (f : Int → Int → Int) (l : List Int) : Int := l.foldl f 0
def aheadF (f : Int → Int → Int) (l : List Int) : List Int := (List.range l.length).map fun i => allF f (l.take i)
theorem aheadF_len (f : Int → Int → Int) (l : List Int) : (aheadF f l).length = l.length := by simp [aheadF]
theorem aheadF_get (f : Int → Int → Int) (l : List Int) {i : Nat} (h : i < l.length) : (aheadF f l).getD i 0 = allF f (l.take i) := mapR_get h 0
theorem take_snoc' (l : List Int) (i : Nat) (h : i < l.length) : l.take (i + 1) = l.take i ++ [l.getD i 0] := by
  rw [List.take_add_one, List.getD_eq_getElem?_getD, List.getElem?_eq_getElem h]; rfl
theorem allF_snoc (f : Int → Int → Int) (l : List Int) (x : Int) : allF f (l ++ [x]) = f (allF f l) x := by simp [allF]
theorem allF_take (f : Int → Int → Int) (l : List Int) (i : Nat) (h : i < l.length) : allF f (l.take (i + 1)) = f (allF f (l.take i)) (l.getD i 0) := by
  rw [take_snoc' l i h, allF_snoc]
theorem foldl_w {f : Int → Int → Int} (hf : Rule f) : ∀ (l : List Int) (a : Int), W32 a → (∀ x, x ∈ l → W32 x) → W32 (l.foldl f a)
  | [], a, ha, _ => ha
  | x :: l, a, ha, h => foldl_w hf l (f a x) (hf.cl a x ha (h x (by simp))) (fun y hy => h y (by simp [hy]))
theorem allF_w {f : Int → Int → Int} (hf : Rule f) {l : List Int} (h : ∀ x, x ∈ l → W32 x) : W32 (allF f l) := foldl_w hf l 0 (by omega) h
theorem foldl_pull {f : Int → Int → Int} (hf : Rule f) : ∀ (l : List Int) (a b : Int), W32 a → W32 b → (∀ x, x ∈ l → W32 x) → l.foldl f (f a b) = f a (l.foldl f b)
  | [], a, b, _, _, _ => rfl
  | x :: l, a, b, ha, hb, h => by
    have hx := h x (by simp)
    simp only [List.foldl_cons]
    rw [hf.asc a b x ha hb hx, foldl_pull hf l a (f b x) ha (hf.cl b x hb hx) (fun y hy => h y (by simp [hy]))]
theorem allF_app {f : Int → Int → Int} (hf : Rule f) {a b : List Int} (ha : ∀ x, x ∈ a → W32 x) (hb : ∀ x, x ∈ b → W32 x) : allF f (a ++ b) = f (allF f a) (allF f b) := by
  have h1 := allF_w hf ha
  unfold allF at *
  rw [List.foldl_append]
  conv => lhs; rw [show a.foldl f 0 = f (a.foldl f 0) 0 from (hf.z2 _ h1).symm]
  exact foldl_pull hf b _ 0 h1 (by omega) hb
def part (l : List Int) (b i : Nat) : List Int := (l.take (min l.length ((i + 1) * b))).drop (i * b)
theorem part_len (l : List Int) (b i : Nat) : (part l b i).length = min l.length ((i + 1) * b) - i * b := by
  unfold part; rw [List.length_drop, List.length_take]; congr 1; omega
theorem take_part (l : List Int) (b i : Nat) : l.take (min l.length (i * b)) ++ part l b i = l.take (min l.length ((i + 1) * b)) := by
  unfold part
  have h1 : i * b ≤ (i + 1) * b := Nat.mul_le_mul_right b (by omega)
  have e : l.take (min l.length (i * b)) = (l.take (min l.length ((i + 1) * b))).take (i * b) := by
    rw [List.take_take]
    by_cases c : i * b ≤ l.length
    · congr 1; omega
    · rw [List.take_of_length_le (by omega), List.take_of_length_le (by omega)]
  rw [e, List.take_append_drop]
theorem part_w {l : List Int} {b i : Nat} (h : ∀ x, x ∈ l → W32 x) : ∀ x, x ∈ part l b i → W32 x := fun x hx => h x (List.mem_of_mem_take (List.mem_of_mem_drop hx))
theorem take_w {l : List Int} {i : Nat} (h : ∀ x, x ∈ l → W32 x) : ∀ x, x ∈ l.take i → W32 x := fun x hx => h x (List.mem_of_mem_take hx)
def totF (f : Int → Int → Int) (l : List Int) (b n : Nat) : List Int := (List.range n).map fun i => allF f (part l b i)
theorem allF_tot {f : Int → Int → Int} (hf : Rule f) {l : List Int} (h : ∀ x, x ∈ l → W32 x) (b n : Nat) : ∀ i, i ≤ n → allF f ((totF f l b n).take i) = allF f (l.take (min l.length (i * b)))
  | 0, _ => by simp [allF]
  | i + 1, hi => by
    have hlen : (totF f l b n).length = n := by simp [totF]
    rw [allF_take f _ i (by omega), allF_tot hf h b n i (by omega), ← take_part, allF_app hf (take_w h) (part_w h)]
    congr 1
    exact mapR_get (by omega) 0
theorem ahead_at {f : Int → Int → Int} (hf : Rule f) {l : List Int} (h : ∀ x, x ∈ l → W32 x) {b n i k : Nat} (hi : i < n) (hb : i * b + k < l.length) (hk : k < b) :
    f (allF f ((totF f l b n).take i)) (allF f ((part l b i).take k)) = allF f (l.take (i * b + k)) := by
  have h1 : (i + 1) * b = i * b + b := by rw [Nat.add_mul, Nat.one_mul]
  rw [allF_tot hf h b n i (by omega), ← allF_app hf (take_w h) (take_w (part_w h))]
  congr 1
  have e : (part l b i).take k = (l.take (i * b + k)).drop (i * b) := by
    unfold part
    rw [List.take_drop, List.take_take]
    congr 2; omega
  rw [e, show min l.length (i * b) = i * b by omega]
  have : l.take (i * b) = (l.take (i * b + k)).take (i * b) := by rw [List.take_take]; congr 1; omega
  rw [this, List.take_append_drop]
def blockPl (len b : Nat) (i : Int) : List Int := upto (i * b) (min len ((i + 1) * b))
theorem blocks_all {len b n : Nat} (hb : 1 ≤ b) (hn : n = (len + b - 1) / b) {U : List Int} (hU : ∀ u, u ∈ U ↔ (0 ≤ u ∧ u < n)) : ∀ j : Nat, j < len → (j : Int) ∈ U.flatMap (blockPl len b) := by
  intro j hj
  refine List.mem_flatMap.2 ⟨((j / b : Nat) : Int), (hU _).2 ⟨Int.natCast_nonneg _, ?_⟩, ?_⟩
  · have : j / b < n := by
      rw [hn, Nat.div_lt_iff_lt_mul hb]
      have h1 := Nat.div_add_mod (len + b - 1) b
      have h2 := Nat.mod_lt (len + b - 1) hb
      have h3 : (len + b - 1) / b * b = b * ((len + b - 1) / b) := Nat.mul_comm _ _
      omega
    exact Int.ofNat_lt.2 this
  · unfold blockPl
    rw [mem_upto]
    have h1 := Nat.div_add_mod j b
    have h2 := Nat.mod_lt j hb
    have h3 : j / b * b = b * (j / b) := Nat.mul_comm _ _
    have h4 : (j / b + 1) * b = j / b * b + b := by rw [Nat.add_mul, Nat.one_mul]
    have e1 : (((j / b : Nat) : Int)) * (b : Int) = ((j / b * b : Nat) : Int) := by rw [Int.natCast_mul]
    have e2 : (((j / b : Nat) : Int) + 1) * (b : Int) = (((j / b + 1) * b : Nat) : Int) := by rw [Int.natCast_mul]; rfl
    rw [e1, e2]; omega
end Go.Pl
end
section
set_option linter.unusedSimpArgs false
set_option linter.unusedVariables false
namespace Go.Pl
def xr (x y : Int) : Int := ((BitVec.ofInt 32 x ^^^ BitVec.ofInt 32 y).toNat : Int) % 4294967296
def an (x y : Int) : Int := ((BitVec.ofInt 32 x &&& BitVec.ofInt 32 y).toNat : Int) % 4294967296
def one (x op y : Int) : Int :=
  if op = 1 then (x + y) % 4294967296 else if op = 2 then xr x y else if op = 3 then (x * 2 ^ min (y % 32).toNat 32) % 4294967296 else
  if op = 4 then x / 2 ^ min (y % 32).toNat 32 else if op = 5 then an x y else if op = 6 then (if y < x then 1 else 0) else 0
def opOk (op : Int) : Prop := 1 ≤ op ∧ op ≤ 6
instance (op : Int) : Decidable (opOk op) := by unfold opOk; infer_instance
theorem ordE_01 (n : Int) (p : Plan) : ordE n p = 0 ∨ ordE n p = 1 := by unfold ordE; split <;> simp
theorem ordE_iff {n : Int} {p : Plan} : ordE n p = 0 ↔ ordOk n p := by
  unfold ordE; split
  · rename_i h; exact ⟨fun _ => h, fun _ => rfl⟩
  · rename_i h; exact ⟨fun q => absurd q (by decide), fun q => absurd q h⟩
theorem fill_ord {n : Nat} {p : Plan} (h : ordOk n p) (v : Nat → Int) : fillL n (ordU n p) v = (List.range n).map v :=
  fillL_all fun j hj => ((ordU_ok h).2.1 j).2 ⟨by omega, by omega⟩
def onceP (l : List Int) (n : Nat) : Prop := l.length = n ∧ (∀ x, x ∈ l → 0 ≤ x ∧ x < n) ∧ ∀ k, k < n → (k : Int) ∈ l
instance (l : List Int) (n : Nat) : Decidable (onceP l n) := by unfold onceP; infer_instance
end Go.Pl
namespace Go.Pl
theorem an_mask {x : Int} (k : Nat) (hk : k ≤ 32) (hx : W32 x) : an x (2 ^ k - 1) = x % 2 ^ k := by
  have h1 : (2 : Nat) ^ k ≤ 2 ^ 32 := Nat.pow_le_pow_right (by omega) hk
  have h2 := Nat.pow_pos (n := k) (show 0 < 2 by omega)
  have e2 : ((2 : Int) ^ k - 1) = (((2 ^ k - 1 : Nat)) : Int) := by
    rw [Int.natCast_sub (by omega)]; simp
  have e1 : (BitVec.ofInt 32 x &&& BitVec.ofInt 32 (2 ^ k - 1)).toNat = x.toNat % 2 ^ k := by
    rw [BitVec.toNat_and, e2, BitVec.ofInt_natCast, BitVec.toNat_ofNat, Nat.mod_eq_of_lt (by omega), BitVec.toNat_ofInt, Nat.and_two_pow_sub_one_eq_mod]
    congr 1; omega
  unfold an
  rw [e1]
  have h3 : x.toNat % 2 ^ k ≤ x.toNat := Nat.mod_le _ _
  have h4 : ((x.toNat % 2 ^ k : Nat) : Int) = x % 2 ^ k := by
    rw [Int.natCast_emod, Int.toNat_of_nonneg hx.1]; simp
  rw [h4]
  have h5 : x % 2 ^ k ≤ 4294967295 ∧ 0 ≤ x % 2 ^ k := by rw [← h4]; omega
  omega
theorem range_getD (l : List Int) : (List.range l.length).map (fun j => l.getD j 0) = l := by
  apply List.ext_getElem?
  intro j
  rw [List.getElem?_map]
  by_cases h : j < l.length
  · rw [List.getElem?_range h, Option.map_some, List.getD_eq_getElem?_getD, List.getElem?_eq_getElem h]; rfl
  · rw [List.getElem?_eq_none (by simpa using h), List.getElem?_eq_none (by omega)]; rfl
theorem getD_w {l : List Int} (h : ∀ x, x ∈ l → W32 x) (j : Nat) : W32 (l.getD j 0) := by
  by_cases c : j < l.length
  · exact h _ (getD_mem l j 0 c)
  · rw [List.getD_eq_getElem?_getD, List.getElem?_eq_none (by omega)]; exact ⟨by decide, by decide⟩
theorem upto_snoc' (k : Nat) : upto 0 (k : Int) ++ [(k : Int)] = upto 0 ((k + 1 : Nat) : Int) := by
  have := upto_snoc (a := 0) k
  rwa [Int.zero_add, Int.zero_add] at this
theorem all_take {p : Int → Prop} {l : List Int} {i : Nat} (hi : i < l.length) (h : ∀ x, x ∈ l.take i → p x) (hx : p (l.getD i 0)) : ∀ x, x ∈ l.take (i + 1) → p x := fun x q => by
  rw [List.take_add_one, List.mem_append] at q
  rcases q with q | q
  · exact h x q
  · rw [List.getElem?_eq_getElem hi] at q
    rw [List.getD_eq_getElem?_getD, List.getElem?_eq_getElem hi] at hx
    simp at q; subst q; exact hx
end Go.Pl
end
section
set_option linter.unusedSimpArgs false
set_option linter.unusedVariables false
namespace Go.Pl
def scE (n : Nat) (b : Int) (p : Plan) : Int := if (1 ≤ b ∧ b ≤ 100) ∧ n ≤ 1000 then ordE (blk n b) p else 1
def scL (f : Int → Int → Int) (l : List Int) (b : Int) (p : Plan) : List Int := if scE l.length b p = 0 then aheadF f l else []
def scT (f : Int → Int → Int) (l : List Int) (b : Int) (p : Plan) : Int := if scE l.length b p = 0 then allF f l else 0
def scS (n : Nat) (b : Int) (p : Plan) : Int := if scE n b p = 0 then 2 * ordS (blk n b) p else 0
theorem sc_no {f : Int → Int → Int} {l : List Int} {b : Int} {p : Plan} (h : ¬ scE l.length b p = 0) : scL f l b p = [] ∧ scT f l b p = 0 ∧ scS l.length b p = 0 :=
  ⟨if_neg h, if_neg h, if_neg h⟩
theorem sc_yes {f : Int → Int → Int} {l : List Int} {b : Int} {p : Plan} (h : scE l.length b p = 0) : scL f l b p = aheadF f l ∧ scT f l b p = allF f l ∧ scS l.length b p = 2 * ordS (blk l.length b) p :=
  ⟨if_pos h, if_pos h, if_pos h⟩
theorem scE_01 (n : Nat) (b : Int) (p : Plan) : scE n b p = 0 ∨ scE n b p = 1 := by
  unfold scE; split
  · exact ordE_01 _ p
  · exact .inr rfl
theorem sc_iff {n : Nat} {b : Int} {p : Plan} : scE n b p = 0 ↔ (1 ≤ b ∧ b ≤ 100) ∧ n ≤ 1000 ∧ ordOk (blk n b) p := by
  unfold scE; split
  · rename_i h; rw [ordE_iff]; exact ⟨fun q => ⟨h.1, h.2, q⟩, fun q => q.2.2⟩
  · rename_i h; exact ⟨fun q => absurd q (by decide), fun q => absurd ⟨q.1, q.2.1⟩ h⟩
def blkN (n b : Nat) : Nat := (n + b - 1) / b
theorem blk_nat {n b : Nat} (hb : 1 ≤ b ∧ b ≤ 100) (hn : n ≤ 1000) : blk n b = (blkN n b : Int) := by
  unfold blk blkN
  rw [if_pos ⟨by omega, by omega, by omega, by omega⟩, Int.natCast_ediv]
  congr 1; omega
theorem blk_at {n b u : Nat} (hb : 1 ≤ b ∧ b ≤ 100) (hn : n ≤ 1000) (h : u < blkN n b) : u * b < n ∧ (u + 1) * b = u * b + b ∧ u < 1000 := by
  unfold blkN at h
  rw [Nat.lt_div_iff_mul_lt (by omega)] at h
  have h1 : (u + 1) * b = u * b + b := by rw [Nat.add_mul, Nat.one_mul]
  have h2 : u ≤ u * b := Nat.le_mul_of_pos_right u (by omega)
  omega
theorem blkN_up {n b : Nat} (hb : 1 ≤ b ∧ b ≤ 100) (hn : n ≤ 1000) : blkN n b ≤ 1000 := by
  have := (blk_up (b := (b : Int)) (show (0 : Int) ≤ n by omega) (Int.le_refl _) (by omega)).2.2
  rw [blk_nat hb hn] at this; omega
theorem block_snoc {l : List Int} {b : Nat} {L : List Int} {z u : Nat} (hz : z < L.length) (hu : L.getD z 0 = u) (h : u * b < l.length) : (L.take (z + 1)).flatMap (blockPl l.length b) = (L.take z).flatMap (blockPl l.length b) ++ upto ((u : Int) * b) ((u : Int) * b + ((part l b u).length : Nat)) := by
  rw [take_snoc' L z hz, List.flatMap_append, hu]
  congr 1
  rw [List.flatMap_singleton]
  unfold blockPl
  congr 1
  rw [part_len]
  have h1 : (u + 1) * b = u * b + b := by rw [Nat.add_mul, Nat.one_mul]
  have e1 : (u : Int) * b = ((u * b : Nat) : Int) := by rw [Int.natCast_mul]
  have e2 : ((u : Int) + 1) * b = (((u + 1) * b : Nat) : Int) := by rw [Int.natCast_mul]; rfl
  rw [e1, e2]
  omega
theorem ahead_cell {f : Int → Int → Int} (hf : Rule f) {l : List Int} (h : ∀ x, x ∈ l → W32 x) {b n u y : Nat} (hu : u < n) (hb : u * b < l.length) (hy : y < (part l b u).length) :
    f ((aheadF f (totF f l b n)).getD u 0) ((aheadF f (part l b u)).getD y 0) = allF f (l.take (u * b + y)) ∧ u * b + y < l.length := by
  have h1 : (u + 1) * b = u * b + b := by rw [Nat.add_mul, Nat.one_mul]
  have h2 := hy
  rw [part_len] at h2
  rw [aheadF_get f _ (by simp [totF]; omega), aheadF_get f _ hy]
  exact ⟨ahead_at hf h hu (by omega) (by omega), by omega⟩
theorem totF_len (f : Int → Int → Int) (l : List Int) (b n : Nat) : (totF f l b n).length = n := by simp [totF]
theorem totF_w {f : Int → Int → Int} (hf : Rule f) {l : List Int} (h : ∀ x, x ∈ l → W32 x) (b n : Nat) : ∀ x, x ∈ totF f l b n → W32 x := fun x hx => by
  unfold totF at hx
  obtain ⟨j, _, rfl⟩ := List.mem_map.1 hx
  exact allF_w hf (part_w h)
theorem aheadF_w {f : Int → Int → Int} (hf : Rule f) {l : List Int} (h : ∀ x, x ∈ l → W32 x) : ∀ x, x ∈ aheadF f l → W32 x := fun x hx => by
  unfold aheadF at hx
  obtain ⟨j, _, rfl⟩ := List.mem_map.1 hx
  exact allF_w hf (take_w h)
theorem allF_tots {f : Int → Int → Int} (hf : Rule f) {l : List Int} (h : ∀ x, x ∈ l → W32 x) {b : Nat} (hb : 1 ≤ b) : allF f (totF f l b (blkN l.length b)) = allF f l := by
  have := allF_tot hf h b (blkN l.length b) _ (Nat.le_refl _)
  rw [List.take_of_length_le (by rw [totF_len]; exact Nat.le_refl _)] at this
  rw [this]
  congr 1
  apply List.take_of_length_le
  have : l.length ≤ blkN l.length b * b := by
    unfold blkN
    have h1 := Nat.div_add_mod (l.length + b - 1) b
    have h2 := Nat.mod_lt (l.length + b - 1) (show b > 0 by omega)
    have h3 : (l.length + b - 1) / b * b = b * ((l.length + b - 1) / b) := Nat.mul_comm _ _
    omega
  omega
theorem fill_upto {n : Nat} (v : Nat → Int) {i : Nat} (h : n ≤ i) : fillL n (upto 0 (i : Int)) v = (List.range n).map v :=
  fillL_all fun j hj => mem_upto.2 ⟨by omega, by omega⟩
theorem fill_blocks {n b : Nat} (hb : 1 ≤ b ∧ b ≤ 100) (hn : n ≤ 1000) {p : Plan} (h : ordOk (blkN n b : Nat) p) (v : Nat → Int) : fillL n ((ordU (blkN n b : Nat) p).flatMap (blockPl n b)) v = (List.range n).map v :=
  fillL_all (blocks_all (n := blkN n b) (by omega) rfl (fun u => (ordU_ok h).2.1 u))
end Go.Pl
end
section
set_option linter.unusedSimpArgs false
set_option linter.unusedVariables false
namespace Go.Pl
def bucket (B : Nat) (d : Int → Int) (l : List Int) : List Int := (List.range B).flatMap fun (v : Nat) => l.filter fun x => decide (d x = v)
def lowB (d : Int → Int) (l : List Int) (v : Nat) : List Int := (List.range v).flatMap fun (u : Nat) => l.filter fun x => decide (d x = u)
theorem bucket_low (B : Nat) (d : Int → Int) (l : List Int) : bucket B d l = lowB d l B := rfl
theorem nodup_inj {l : List Int} (h : l.Nodup) {i j : Nat} (hi : i < l.length) (hj : j < l.length) (e : l[i] = l[j]) : i = j := by
  have hp := List.pairwise_iff_getElem.1 h
  rcases Nat.lt_trichotomy i j with c | c | c
  · exact absurd e (hp i j hi hj c)
  · exact c
  · exact absurd e.symm (hp j i hj hi c)
theorem lowB_succ (d : Int → Int) (l : List Int) (v : Nat) : lowB d l (v + 1) = lowB d l v ++ l.filter fun x => decide (d x = v) := by
  unfold lowB; rw [List.range_succ, List.flatMap_append]; simp
theorem lowB_mem {d : Int → Int} {l : List Int} {v : Nat} {x : Int} : x ∈ lowB d l v ↔ x ∈ l ∧ 0 ≤ d x ∧ d x < v := by
  unfold lowB
  simp only [List.mem_flatMap, List.mem_range, List.mem_filter, decide_eq_true_eq]
  constructor
  · rintro ⟨u, h1, h2, h3⟩; exact ⟨h2, by omega, by omega⟩
  · rintro ⟨h1, h2, h3⟩; exact ⟨(d x).toNat, by omega, h1, by omega⟩
theorem lowB_split (B : Nat) (d : Int → Int) (l : List Int) {v : Nat} (h : v ≤ B) : ∃ r, bucket B d l = lowB d l v ++ r ∧ ∀ x, x ∈ r → (v : Int) ≤ d x := by
  obtain ⟨k, rfl⟩ : ∃ k, B = v + k := ⟨B - v, by omega⟩
  refine ⟨(List.range' v k).flatMap fun (u : Nat) => l.filter fun x => decide (d x = u), ?_, fun x hx => ?_⟩
  · unfold bucket lowB
    rw [List.range_eq_range', List.range_eq_range', ← List.flatMap_append]
    congr 1
    have := List.range'_append_1 (s := 0) (m := v) (n := k)
    rw [Nat.zero_add] at this
    exact this.symm
  · simp only [List.mem_flatMap, List.mem_range'_1, List.mem_filter, decide_eq_true_eq] at hx
    obtain ⟨u, h1, h2, h3⟩ := hx
    omega
def less (d : Int → Int) (l : List Int) (v : Nat) : Nat := (lowB d l v).length
def same (d : Int → Int) (l : List Int) (v : Int) : Nat := (l.filter fun x => decide (d x = v)).length
theorem less_zero (d : Int → Int) (l : List Int) : less d l 0 = 0 := rfl
theorem less_succ (d : Int → Int) (l : List Int) (v : Nat) : less d l (v + 1) = less d l v + same d l v := by
  unfold less same; rw [lowB_succ, List.length_append]
theorem same_le (d : Int → Int) (l : List Int) (v : Int) : same d l v ≤ l.length := List.length_filter_le _ _
theorem same_snoc (d : Int → Int) (l : List Int) (x v : Int) : same d (l ++ [x]) v = same d l v + if d x = v then 1 else 0 := by
  unfold same
  rw [List.filter_append, List.length_append]
  congr 1
  by_cases h : d x = v
  · rw [if_pos h, List.filter_cons_of_pos (by simpa using h)]; rfl
  · rw [if_neg h, List.filter_cons_of_neg (by simpa using h)]; rfl
theorem same_take (d : Int → Int) (l : List Int) (m : Nat) (h : m < l.length) (v : Int) : same d (l.take (m + 1)) v = same d (l.take m) v + if d (l.getD m 0) = v then 1 else 0 := by
  rw [take_snoc' l m h, same_snoc]
theorem filter_at (p : Int → Bool) (l : List Int) (m : Nat) (h : m < l.length) (hp : p (l.getD m 0) = true) : (l.filter p)[((l.take m).filter p).length]? = some (l.getD m 0) := by
  have e : l = l.take m ++ l.getD m 0 :: l.drop (m + 1) := by
    rw [List.getD_eq_getElem?_getD, List.getElem?_eq_getElem h, Option.getD_some, ← List.drop_eq_getElem_cons h, List.take_append_drop]
  conv => lhs; rw [e]
  rw [List.filter_append, List.filter_cons_of_pos hp]
  have e2 : (l.take m ++ l.getD m 0 :: l.drop (m + 1)).take m = l.take m := by
    rw [← e]
  rw [List.getElem?_append_right (by rw [e2]; exact Nat.le_refl _), e2]; simp
def posB (d : Int → Int) (l : List Int) (m : Nat) : Nat := less d l (d (l.getD m 0)).toNat + same d (l.take m) (d (l.getD m 0))
theorem posB_at {B : Nat} {d : Int → Int} {l : List Int} {m : Nat} (h : m < l.length) (hd : 0 ≤ d (l.getD m 0) ∧ d (l.getD m 0) < B) : (bucket B d l)[posB d l m]? = some (l.getD m 0) := by
  have e0 : ((d (l.getD m 0)).toNat : Int) = d (l.getD m 0) := by omega
  obtain ⟨r, hr, _⟩ := lowB_split B d l (v := (d (l.getD m 0)).toNat + 1) (by omega)
  have hf := filter_at (fun x => decide (d x = d (l.getD m 0))) l m h (by simp)
  have hlt := (List.getElem?_eq_some_iff.1 hf).1
  rw [hr, lowB_succ, e0, List.append_assoc, posB]
  unfold less same
  rw [List.getElem?_append_right (by omega), Nat.add_sub_cancel_left, List.getElem?_append_left hlt]
  exact hf
theorem bucket_perm {B : Nat} {d : Int → Int} {l : List Int} (hd : ∀ x, x ∈ l → 0 ≤ d x ∧ d x < B) (hn : l.Nodup) : (bucket B d l).Nodup ∧ ∀ x, x ∈ bucket B d l ↔ x ∈ l := by
  refine ⟨?_, fun x => ?_⟩
  · unfold bucket
    refine List.pairwise_flatMap.2 ⟨fun v _ => hn.filter _, ?_⟩
    refine List.Pairwise.imp (R := fun a b => a ≠ b) (fun {a b} hab => ?_) List.nodup_range
    intro x hx y hy
    simp only [List.mem_filter, decide_eq_true_eq] at hx hy
    intro e; subst e
    omega
  · rw [bucket_low, lowB_mem]
    exact ⟨fun h => h.1, fun h => ⟨h, (hd x h).1, (hd x h).2⟩⟩
def posL (d : Int → Int) (l : List Int) (m : Nat) : List Int := (List.range m).map fun (j : Nat) => (posB d l j : Int)
theorem posL_succ (d : Int → Int) (l : List Int) (m : Nat) : posL d l (m + 1) = posL d l m ++ [(posB d l m : Int)] := by
  unfold posL; rw [List.range_succ, List.map_append]; rfl
theorem filled {B : Nat} {d : Int → Int} {l : List Int} (hd : ∀ x, x ∈ l → 0 ≤ d x ∧ d x < B) (hn : l.Nodup) :
    fillL l.length (posL d l l.length) (fun j => (bucket B d l).getD j 0) = bucket B d l := by
  obtain ⟨b1, b2⟩ := bucket_perm hd hn
  have hlen : (bucket B d l).length = l.length := ((List.perm_ext_iff_of_nodup b1 hn).2 b2).length_eq
  rw [fillL_all]
  · apply List.ext_getElem?
    intro j
    rw [List.getElem?_map]
    by_cases h : j < l.length
    · rw [List.getElem?_range h, Option.map_some, List.getD_eq_getElem?_getD, List.getElem?_eq_getElem (by omega)]; rfl
    · rw [List.getElem?_eq_none (by simp; omega), List.getElem?_eq_none (by omega)]; rfl
  · intro j hj
    have hx : (bucket B d l)[j]'(by omega) ∈ l := (b2 _).1 (List.getElem_mem _)
    obtain ⟨m, hm, e⟩ := List.getElem_of_mem hx
    have hg : l.getD m 0 = (bucket B d l)[j]'(by omega) := by rw [List.getD_eq_getElem?_getD, List.getElem?_eq_getElem hm]; exact e
    have hp := posB_at (B := B) (d := d) hm (hd _ (getD_mem l m 0 hm))
    obtain ⟨hlt, hq⟩ := List.getElem?_eq_some_iff.1 hp
    have : posB d l m = j := by
      exact nodup_inj b1 hlt (by omega) (by rw [hq, hg])
    unfold posL
    refine List.mem_map.2 ⟨m, List.mem_range.2 hm, by rw [this]⟩
end Go.Pl
end
section
set_option linter.unusedSimpArgs false
set_option linter.unusedVariables false
namespace Go.Pl
theorem perm_of : ∀ {m l : List Int}, m.Nodup → (∀ x, x ∈ m → x ∈ l) → l.length ≤ m.length → l.Perm m
  | [], l, _, _, h => by
    have : l = [] := List.eq_nil_of_length_eq_zero (by simpa using h)
    subst this; exact List.Perm.refl _
  | x :: m, l, hn, hs, h => by
    have hx : x ∈ l := hs x (by simp)
    have hn' := List.nodup_cons.1 hn
    have hp := perm_of (m := m) (l := l.erase x) hn'.2 (fun y hy => (List.mem_erase_of_ne (fun e => hn'.1 (by rw [← e]; exact hy))).2 (hs y (by simp [hy]))) (by
      rw [List.length_erase_of_mem hx]; simp only [List.length_cons] at h; omega)
    exact (List.perm_cons_erase hx).trans (hp.cons x)
theorem onceP_nodup {l : List Int} {n : Nat} (h : onceP l n) : l.Nodup := by
  have hp := perm_of (m := upto 0 n) (l := l) (nodup_upto _ _) (fun x hx => by
    have := mem_upto.1 hx
    have h2 := h.2.2 x.toNat (by omega)
    rwa [show ((x.toNat : Nat) : Int) = x by omega] at h2) (by rw [upto_len, h.1]; omega)
  exact hp.nodup_iff.2 (nodup_upto _ _)
theorem once_of {l : List Int} {n : Nat} (h1 : l.length = n) (h2 : ∀ x, x ∈ l → 0 ≤ x ∧ x < n) (h3 : l.Nodup) : onceP l n := by
  have hp := perm_of (m := l) (l := upto 0 n) h3 (fun x hx => mem_upto.2 ⟨(h2 x hx).1, (h2 x hx).2⟩) (by rw [upto_len, h1]; omega)
  exact ⟨h1, h2, fun k hk => hp.mem_iff.1 (mem_upto.2 ⟨by omega, by omega⟩)⟩
theorem once_iff {l : List Int} {n : Nat} (h2 : ∀ x, x ∈ l → 0 ≤ x ∧ x < n) (h3 : l.Nodup) : onceP l n ↔ l.length = n :=
  ⟨fun h => h.1, fun h => once_of h h2 h3⟩
theorem once_upto (n : Nat) : onceP (upto 0 n) n := once_of (by rw [upto_len]; omega) (fun x hx => mem_upto.1 hx) (nodup_upto _ _)
theorem nodup_snoc {l : List Int} {x : Int} (h : l.Nodup) (hc : (l ++ [x]).count x ≤ 1) : (l ++ [x]).Nodup := by
  rw [count_pos_end] at hc
  rw [List.nodup_append]
  refine ⟨h, by simp, fun a ha b hb => ?_⟩
  simp at hb; subst hb
  intro e; subst e
  exact List.count_eq_zero.1 (by omega) ha
theorem take_count {l : List Int} {i : Nat} (hi : i < l.length) (h : l.Nodup) : (l.take i ++ [l.getD i 0]).count (l.getD i 0) ≤ 1 := by
  rw [← take_snoc' l i hi]
  exact List.nodup_iff_count.1 (h.sublist (List.take_sublist _ _)) _
def digW (x t b : Int) : Int := if 0 ≤ t ∧ t < pas b then x / 2 ^ (t * b).toNat % 2 ^ b.toNat else 0
theorem digW_b {x t b : Int} (hx : 0 ≤ x) : 0 ≤ digW x t b ∧ digW x t b < 2 ^ b.toNat := by
  have hp : (0 : Int) < 2 ^ b.toNat := Int.pow_pos (by decide)
  unfold digW
  split
  · exact ⟨Int.emod_nonneg _ (by omega), Int.emod_lt_of_pos _ hp⟩
  · omega
theorem pas_b {t b : Int} (h : 0 ≤ t ∧ t < pas b) : (1 ≤ b ∧ b ≤ 16) ∧ 0 ≤ t * b ∧ t * b ≤ 31 := by
  unfold pas at h
  split at h
  · rename_i hb
    refine ⟨hb, Int.mul_nonneg h.1 (by omega), ?_⟩
    have h1 : (t + 1) * b ≤ (32 + b - 1) / b * b := Int.mul_le_mul_of_nonneg_right (by omega) (by omega)
    have h2 := Int.ediv_mul_le (32 + b - 1) (show b ≠ 0 by omega)
    rw [Int.add_mul, Int.one_mul] at h1
    omega
  · omega
def digA (l : List Int) (t b : Int) (i : Int) : Int := digW (l.getD i.toNat 0) t b
def byP (l o : List Int) (t b : Int) : List Int := bucket (2 ^ b.toNat) (digA l t b) o
theorem digA_b {l : List Int} (hl : ∀ x, x ∈ l → W32 x) (t b i : Int) : 0 ≤ digA l t b i ∧ digA l t b i < ((2 ^ b.toNat : Nat) : Int) := by
  have := digW_b (t := t) (b := b) (getD_w hl i.toNat).1
  unfold digA
  rw [Int.natCast_pow]; exact this
def tabL (n : Nat) (g : Nat → Int) : List Int := (List.range n).map g
theorem tabL_len (n : Nat) (g : Nat → Int) : (tabL n g).length = n := by simp [tabL]
theorem tabL_get {n : Nat} {g : Nat → Int} {i : Nat} (h : i < n) : (tabL n g).getD i 0 = g i := mapR_get h 0
theorem tabL_set {n : Nat} {g g' : Nat → Int} {i : Nat} {x : Int} (h1 : x = g' i) (h2 : ∀ j, j < n → j ≠ i → g j = g' j) : (tabL n g).set i x = tabL n g' := by
  subst h1
  unfold tabL
  apply List.ext_getElem?
  intro j
  rw [List.getElem?_set]
  by_cases hj : j < n
  · rw [List.getElem?_map, List.getElem?_map, List.getElem?_range hj]
    by_cases e : i = j
    · subst e; simp [hj]
    · rw [if_neg e]; simp [h2 j hj (fun q => e q.symm)]
  · have e1 : ((List.range n).map g)[j]? = none := List.getElem?_eq_none (by simp; omega)
    have e2 : ((List.range n).map g')[j]? = none := List.getElem?_eq_none (by simp; omega)
    rw [e1, e2]
    split
    · rw [if_neg (by simp; omega)]
    · rfl
theorem tabL_congr {n : Nat} {g g' : Nat → Int} (h : ∀ j, j < n → g j = g' j) : tabL n g = tabL n g' := List.map_congr_left fun j hj => h j (List.mem_range.1 hj)
theorem tabL_0 (n : Nat) : tabL n (fun _ => 0) = List.replicate n 0 := by
  unfold tabL; rw [List.map_const']; simp
def cntT1 (d : Int → Int) (o : List Int) (k : Nat) (v : Nat) : Int := if v = 0 then 0 else same d (o.take k) ((v : Int) - 1)
def cntT2 (d : Int → Int) (o : List Int) (k : Nat) (v : Nat) : Int := if v ≤ k then less d o v else same d o ((v : Int) - 1)
def cntT3 (B : Nat) (d : Int → Int) (o : List Int) (k : Nat) (v : Nat) : Int := less d o v + (if v < B then (same d (o.take k) v : Int) else 0)
theorem cnt1_0 (d : Int → Int) (o : List Int) (n : Nat) : tabL n (cntT1 d o 0) = List.replicate n 0 := by
  rw [← tabL_0]; exact tabL_congr fun j _ => by unfold cntT1; split <;> simp [same]
theorem cnt1_set {B : Nat} {d : Int → Int} {o : List Int} {k : Nat} (hk : k < o.length) (hd : 0 ≤ d (o.getD k 0) ∧ d (o.getD k 0) < B) :
    (tabL (B + 1) (cntT1 d o k)).set (d (o.getD k 0) + 1).toNat ((tabL (B + 1) (cntT1 d o k)).getD (d (o.getD k 0) + 1).toNat 0 + 1) = tabL (B + 1) (cntT1 d o (k + 1)) := by
  rw [tabL_get (by omega)]
  refine tabL_set ?_ fun j hj hne => ?_
  · unfold cntT1
    rw [if_neg (by omega), if_neg (by omega), same_take d o k hk, if_pos (by omega)]; omega
  · unfold cntT1
    split
    · rfl
    · rw [same_take d o k hk, if_neg (by omega)]; omega
theorem cnt1_2 (d : Int → Int) (o : List Int) (n : Nat) : tabL n (cntT1 d o o.length) = tabL n (cntT2 d o 0) :=
  tabL_congr fun j _ => by
    unfold cntT1 cntT2
    rw [List.take_of_length_le (Nat.le_refl _)]
    by_cases h : j = 0
    · subst h; rw [if_pos rfl, if_pos (by omega), less_zero]; rfl
    · rw [if_neg h, if_neg (by omega)]
theorem cnt2_set {B : Nat} {d : Int → Int} {o : List Int} {k : Nat} (hk : k < B) :
    (tabL (B + 1) (cntT2 d o k)).set (k + 1) ((tabL (B + 1) (cntT2 d o k)).getD (k + 1) 0 + (tabL (B + 1) (cntT2 d o k)).getD k 0) = tabL (B + 1) (cntT2 d o (k + 1)) := by
  rw [tabL_get (by omega), tabL_get (by omega)]
  refine tabL_set ?_ fun j hj hne => ?_
  · unfold cntT2
    rw [if_neg (by omega), if_pos (by omega), if_pos (by omega), less_succ]
    rw [show ((k + 1 : Nat) : Int) - 1 = k by omega]; omega
  · unfold cntT2
    by_cases c : j ≤ k
    · rw [if_pos c, if_pos (by omega)]
    · rw [if_neg c, if_neg (by omega)]
theorem cnt2_3 (B : Nat) (d : Int → Int) (o : List Int) : tabL (B + 1) (cntT2 d o B) = tabL (B + 1) (cntT3 B d o 0) :=
  tabL_congr fun j hj => by
    unfold cntT2 cntT3
    rw [if_pos (by omega)]
    split <;> simp [same]
theorem cnt3_get {B : Nat} {d : Int → Int} {o : List Int} {k : Nat} (hk : k < o.length) (hd : 0 ≤ d (o.getD k 0) ∧ d (o.getD k 0) < B) :
    (tabL (B + 1) (cntT3 B d o k)).getD (d (o.getD k 0)).toNat 0 = posB d o k := by
  rw [tabL_get (by omega)]
  unfold cntT3 posB
  rw [if_pos (by omega), show ((d (o.getD k 0)).toNat : Int) = d (o.getD k 0) by omega]
  omega
theorem cnt3_set {B : Nat} {d : Int → Int} {o : List Int} {k : Nat} (hk : k < o.length) (hd : 0 ≤ d (o.getD k 0) ∧ d (o.getD k 0) < B) :
    (tabL (B + 1) (cntT3 B d o k)).set (d (o.getD k 0)).toNat ((posB d o k : Int) + 1) = tabL (B + 1) (cntT3 B d o (k + 1)) := by
  refine tabL_set ?_ fun j hj hne => ?_
  · unfold cntT3 posB
    rw [if_pos (by omega), show ((d (o.getD k 0)).toNat : Int) = d (o.getD k 0) by omega, same_take d o k hk, if_pos rfl]; omega
  · unfold cntT3
    split
    · rw [same_take d o k hk, if_neg (by omega)]; omega
    · rfl
theorem same_up (d : Int → Int) (o : List Int) (k : Nat) (v : Int) : (same d (o.take k) v : Int) ≤ o.length := by
  have := same_le d (o.take k) v
  rw [List.length_take] at this; omega
theorem less_up {d : Int → Int} {o : List Int} (B : Nat) (hd : ∀ x, x ∈ o → 0 ≤ d x ∧ d x < B) (hn : o.Nodup) {v : Nat} (hv : v ≤ B) : less d o v ≤ o.length := by
  obtain ⟨r, hr, _⟩ := lowB_split B d o hv
  obtain ⟨b1, b2⟩ := bucket_perm hd hn
  have hlen : (bucket B d o).length = o.length := ((List.perm_ext_iff_of_nodup b1 hn).2 b2).length_eq
  rw [hr, List.length_append] at hlen
  unfold less; omega
theorem posB_lt {B : Nat} {d : Int → Int} {o : List Int} {k : Nat} (hk : k < o.length) (hd : ∀ x, x ∈ o → 0 ≤ d x ∧ d x < B) (hn : o.Nodup) : posB d o k < o.length ∧ (bucket B d o).getD (posB d o k) 0 = o.getD k 0 := by
  have h := posB_at (B := B) hk (hd _ (getD_mem o k 0 hk))
  obtain ⟨b1, b2⟩ := bucket_perm hd hn
  have hlen : (bucket B d o).length = o.length := ((List.perm_ext_iff_of_nodup b1 hn).2 b2).length_eq
  obtain ⟨hlt, _⟩ := List.getElem?_eq_some_iff.1 h
  exact ⟨by omega, by rw [List.getD_eq_getElem?_getD, h]; rfl⟩
theorem byP_once {l o : List Int} (hl : ∀ x, x ∈ l → W32 x) (ho : onceP o l.length) (t b : Int) : onceP (byP l o t b) l.length := by
  have hn := onceP_nodup ho
  obtain ⟨b1, b2⟩ := bucket_perm (B := 2 ^ b.toNat) (d := digA l t b) (l := o) (fun x _ => digA_b hl t b x) hn
  have hlen : (byP l o t b).length = o.length := ((List.perm_ext_iff_of_nodup b1 hn).2 b2).length_eq
  exact once_of (by rw [hlen, ho.1]) (fun x hx => ho.2.1 x ((b2 x).1 hx)) b1
def passes (l : List Int) (b : Int) : Nat → List Int
  | 0 => upto 0 l.length
  | k + 1 => byP l (passes l b k) k b
theorem passes_once {l : List Int} (hl : ∀ x, x ∈ l → W32 x) (b : Int) : ∀ k, onceP (passes l b k) l.length
  | 0 => once_upto _
  | k + 1 => byP_once hl (passes_once hl b k) _ _
def raE (n : Nat) (b bl : Int) (p : Plan) : Int := if pas b = 0 then 1 else scE n bl p
def raL (l : List Int) (b bl : Int) (p : Plan) : List Int := if raE l.length b bl p = 0 then passes l b (pas b).toNat else []
def raS (n : Nat) (b bl : Int) (p : Plan) : Int := if raE n b bl p = 0 then scS n bl p * pas b else 0
def sortedL (l o : List Int) : List Int := o.map fun i => l.getD i.toNat 0
theorem pow16 {k : Nat} (h : k ≤ 16) : (1 : Int) ≤ 2 ^ k ∧ (2 : Int) ^ k ≤ 65536 := by
  have : ∀ k : Nat, k < 17 → (1 : Int) ≤ 2 ^ k ∧ (2 : Int) ^ k ≤ 65536 := by decide
  exact this k (by omega)
theorem dig_eq {x t b : Int} (hx : W32 x) (ht : 0 ≤ t ∧ t < pas b) : ((BitVec.ofInt 32 (x / 2 ^ min (t * b % 18446744073709551616).toNat 32) &&& BitVec.ofInt 32 ((1 * 2 ^ min (b % 18446744073709551616).toNat 32 % 4294967296 - 1) % 4294967296)).toNat : Int) % 4294967296 = digW x t b := by
  obtain ⟨p1, p2, p3⟩ := pas_b ht
  have q := pow16 (k := b.toNat) (by omega)
  rw [show (t * b % 18446744073709551616).toNat = (t * b).toNat by congr 1; omega, show (b % 18446744073709551616).toNat = b.toNat by congr 1; omega, Nat.min_eq_left (show (t * b).toNat ≤ 32 by omega), Nat.min_eq_left (show b.toNat ≤ 32 by omega), Int.one_mul]
  rw [show ((2 : Int) ^ b.toNat % 4294967296 - 1) % 4294967296 = 2 ^ b.toNat - 1 by omega]
  have hp : (0 : Int) < 2 ^ (t * b).toNat := Int.pow_pos (by decide)
  have hd : W32 (x / 2 ^ (t * b).toNat) := ⟨Int.ediv_nonneg hx.1 (by omega), Int.le_trans (Int.ediv_le_self _ hx.1) hx.2⟩
  exact (an_mask b.toNat (by omega) hd).trans (by unfold digW; rw [if_pos ht])
theorem pow16n {k : Nat} (h : k ≤ 16) : 1 ≤ 2 ^ k ∧ 2 ^ k ≤ 65536 := by
  have : ∀ k : Nat, k < 17 → 1 ≤ 2 ^ k ∧ 2 ^ k ≤ 65536 := by decide
  exact this k (by omega)
theorem cnt1_up (d : Int → Int) (o : List Int) (k v B : Nat) (h : v < B + 1) : 0 ≤ (tabL (B + 1) (cntT1 d o k)).getD v 0 ∧ (tabL (B + 1) (cntT1 d o k)).getD v 0 ≤ o.length := by
  rw [tabL_get h]
  unfold cntT1
  have := same_up d o k ((v : Int) - 1)
  split <;> omega
theorem cnt2_up {B : Nat} {d : Int → Int} {o : List Int} (hd : ∀ x, x ∈ o → 0 ≤ d x ∧ d x < B) (hn : o.Nodup) (k v : Nat) (h : v < B + 1) : 0 ≤ (tabL (B + 1) (cntT2 d o k)).getD v 0 ∧ (tabL (B + 1) (cntT2 d o k)).getD v 0 ≤ o.length := by
  rw [tabL_get h]
  unfold cntT2
  have h1 := less_up B hd hn (show v ≤ B by omega)
  have h2 := same_le d o ((v : Int) - 1)
  split <;> omega
theorem scS_nn (n : Nat) (b : Int) (p : Plan) : 0 ≤ scS n b p ∧ scS n b p ≤ 40000 := by
  unfold scS
  split
  · rename_i h
    have := ord_steps (sc_iff.1 h).2.2
    have h0 := (sc_iff.1 h).2.2.1
    omega
  · omega
theorem sortedL_len (l o : List Int) : (sortedL l o).length = o.length := by simp [sortedL]
theorem sortedL_snoc (l o : List Int) (x : Int) : sortedL l (o ++ [x]) = sortedL l o ++ [l.getD x.toNat 0] := by simp [sortedL]
end Go.Pl
end
section
set_option linter.unusedSimpArgs false
set_option linter.unusedVariables false
set_option maxRecDepth 100000
namespace Go.Proofs.Ytjkkjiaeeobnkaa
open Go.Am Go.Proofs
theorem en140 : enters Try.prog 140 = true := by kernel_rfl
theorem it83 : tInt Try.prog 83 = some .u64 := by kernel_rfl
theorem un3 : (Try.prog.underlying 3).isSome = true := by kernel_rfl
set_option maxHeartbeats 4000000 in
theorem c_radix_there (t b : Int) : PCall Try.prog 140 [iV t, iV b] (bV (decide (0 ≤ t ∧ t < Pl.pas b))) := by
 refine yV Try.func140 rfl (by simp [Try.ntmps140]) fun C hC => ?_
 refine zK [] (by rw [hC]; rfl) fun k hk => ?_
 simp (maxSteps := 9^9) (disch := (try simp only [lens]); omega) only [zJ, sm, ↓amb, zQ, simprocAttr, dx]
 repeat refine ⟨by first | omega | (simp; done) | (unfold maxLen; omega) | (simp [maxLen]; omega) | assumption, ?_⟩
 refine hk _ ?_; clear hk k
 refine xQ [] 4 (decide (0 ≤ t ∧ t < Pl.pas b)) [] (by rw [hC]; rfl) (fun gd hgd k hk => ?_) ?_
 ·have g2 : gd 2 = some 7 := by rw [hgd]; rfl
  clear hgd
  simp (maxSteps := 9^9) (disch := (try simp only [lens]); omega) only [zJ, sm, ↓amb, zQ, simprocAttr, en68, zZ, g2, dx]
  repeat' first | refine hk _ _ rfl rfl rfl rfl ?_ | (refine gsplit (fun hg => ?_) (fun hg => ?_) <;> (try simp only [hbx] at hg) <;> simp (maxSteps := 9^9) (disch := (try simp only [lens]); omega) only [zJ, sm, ↓amb, zQ, simprocAttr, en68, zZ, g2, dx]) | apply And.intro | (refine yW (c_radix_Passes _) rfl ?_; (try simp (maxSteps := 9^9) (disch := (try simp only [lens]); omega) only [zJ, sm, ↓amb, zQ, simprocAttr, en68, zZ, g2, dx])) | fail
  all_goals first | rfl | omega | exact (decide_eq_true (by omega)).symm | exact (decide_eq_false (by omega)).symm | exact decide_eq_decide.mpr (by omega) | (refine Bool.eq_iff_iff.mpr ?_; simp only [beq_iff_eq, bne_iff_ne, ne_eq, decide_eq_true_eq]; omega) | (refine Bool.eq_iff_iff.mpr ?_; simp only [Bool.not_eq_true', Bool.not_eq_false', decide_eq_false_iff_not, decide_eq_true_eq, beq_iff_eq, bne_iff_ne, ne_eq]; omega) | assumption | (simp; done) | (simp [maxLen]; omega) | skip
 simp only [kp, zJ, simprocAttr, List.length_cons, List.length_nil]
 refine yQ ?_
 refine ret1 rfl rfl ?_
 exact .p (LeP.refl _)
set_option maxHeartbeats 4000000 in
theorem c_radix_Digit (x t b : Int) (hx : Pl.W32 x) : PCall Try.prog 129 [u32V x, iV t, iV b] (u32V (Pl.digW x t b)) := by
 refine yV Try.func129 rfl (by simp [Try.ntmps129]) fun C hC => ?_
 refine zW (zV [0, 1, 2]) ?_
 simp only [kp, zJ, simprocAttr]
 refine zK [] (by rw [hC]; rfl) fun k hk => ?_
 simp (maxSteps := 9^9) (disch := (try simp only [lens]); omega) only [zJ, sm, ↓amb, zQ, simprocAttr, wr_u32, wr_u64, dx]
 repeat refine ⟨by first | omega | (simp; done) | (unfold maxLen; omega) | (simp [maxLen]; omega) | assumption, ?_⟩
 refine hk _ ?_; clear hk k
 refine zY fun k1 h1 => ?_
 refine zW (zV [0, 1, 2, 6]) ?_
 simp only [kp, zJ, simprocAttr]
 refine zK [] (by rw [hC]; rfl) fun k hk => ?_
 simp (maxSteps := 9^9) (disch := (try simp only [lens]); omega) only [zJ, sm, ↓amb, zQ, simprocAttr, en140, wr_u32, wr_u64, dx]
 repeat refine ⟨by first | omega | (simp; done) | (unfold maxLen; omega) | (simp [maxLen]; omega) | assumption, ?_⟩
 refine yW (c_radix_there _ _) rfl ?_
 simp (maxSteps := 9^9) (disch := (try simp only [lens]); omega) only [zJ, sm, ↓amb, zQ, simprocAttr, en140, wr_u32, wr_u64, dx]
 repeat refine ⟨by first | omega | (simp; done) | (unfold maxLen; omega) | (simp [maxLen]; omega) | assumption, ?_⟩
 refine hk _ ?_; clear hk k
 refine zX rfl (fun hb => ?_) (fun hb => ?_)
 ·try simp only [hbx] at hb
  refine zW (zV []) ?_
  simp only [kp, zJ, simprocAttr]
  refine zK [] (by rw [hC]; rfl) fun k hk => ?_
  simp (maxSteps := 9^9) (disch := (try simp only [lens]); omega) only [zJ, sm, ↓amb, zQ, simprocAttr, wr_u32, wr_u64, dx]
  repeat refine ⟨by first | omega | (simp; done) | (unfold maxLen; omega) | (simp [maxLen]; omega) | assumption, ?_⟩
  refine hk _ ?_; clear hk k
  refine yQ ?_
  rw [show Pl.digW x t b = 0 from if_neg (by simpa using hb)]
  refine ret1 rfl rfl ?_
  exact .p (LeP.refl _)
 ·try simp only [hbx] at hb
  refine yJ ?_
  refine h1 _ ?_; clear h1 k1
  refine zW (zV [0, 1, 2]) ?_
  simp only [kp, zJ, simprocAttr]
  have ht : 0 ≤ t ∧ t < Pl.pas b := by first | exact hb | simpa using hb
  obtain ⟨p1, p2, p3⟩ := Pl.pas_b ht
  refine zK [] (by rw [hC]; rfl) fun k hk => ?_
  simp (maxSteps := 9^9) (disch := (try simp only [lens]); omega) only [zJ, sm, ↓amb, zQ, simprocAttr, it83, un3, wr_u32, wr_u64, dx]
  repeat refine ⟨by first | omega | (simp; done) | (unfold maxLen; omega) | (simp [maxLen]; omega) | assumption, ?_⟩
  refine hk _ ?_; clear hk k
  refine yQ ?_
  rw [← Pl.dig_eq hx ht]
  refine ret1 rfl rfl ?_
  exact .p (LeP.of_eq rfl)
set_option maxHeartbeats 4000000 in
theorem c_radix_once (c : Bool) (l : List Int) (n : Nat) (hl : ∀ x, x ∈ l → -9223372036854775808 ≤ x ∧ x ≤ 9223372036854775807) (hn : l.length ≤ 1000000) : PCall Try.prog 111 [ints c l, iV n] (bV (decide (Pl.onceP l n))) := by
 refine yV Try.func111 rfl (by simp [Try.ntmps111]) fun C hC => ?_
 refine zW (zV [0, 1]) ?_
 simp only [kp, zJ, simprocAttr]
 refine zK [] (by rw [hC]; rfl) fun k hk => ?_
 simp (maxSteps := 9^9) (disch := (try simp only [lens]); omega) only [zJ, sm, ↓amb, zQ, simprocAttr, Pl.metM_get, Pl.metM_set, dx]
 repeat refine ⟨by first | omega | (simp; done) | (unfold maxLen; omega) | (simp [maxLen]; omega) | assumption, ?_⟩
 refine hk _ ?_; clear hk k
 refine zW (zV [0, 1]) ?_
 simp only [kp, zJ, simprocAttr]
 refine zK [] (by rw [hC]; rfl) fun k hk => ?_
 simp (maxSteps := 9^9) (disch := (try simp only [lens]); omega) only [zJ, sm, ↓amb, zQ, simprocAttr, mt130, Pl.metM_get, Pl.metM_set, dx]
 repeat refine ⟨by first | omega | (simp; done) | (unfold maxLen; omega) | (simp [maxLen]; omega) | assumption, ?_⟩
 refine hk _ ?_; clear hk k
 refine zY fun k1 h1 => ?_
 refine zW (zV [0, 1, 4, 5]) ?_
 simp only [kp, zJ, simprocAttr]
 refine zK [] (by rw [hC]; rfl) fun k hk => ?_
 simp (maxSteps := 9^9) (disch := (try simp only [lens]); omega) only [zJ, sm, ↓amb, zQ, simprocAttr, el67, Pl.metM_get, Pl.metM_set, dx]
 repeat refine ⟨by first | omega | (simp; done) | (unfold maxLen; omega) | (simp [maxLen]; omega) | assumption, ?_⟩
 refine hk _ ?_; clear hk k
 refine yK ?_
 refine yY (σ := Nat) (fun i => i ≤ l.length ∧ (∀ x, x ∈ l.take i → 0 ≤ x ∧ x < n) ∧ (l.take i).Nodup) (fun (i : Nat) => ⟨[(0, (.p (ints c l))), (1, (.p (iV n))), (5, (.mp 0)), (9, (.p (ints c l))), (10, (.p (iV l.length))), (11, (.p (iV (i : Int))))], [(0, (.map 1 (Pl.metM (l.take i))))], 1⟩) (fun i => l.length - i) 0 ?_ ?_ fun i hi => ?_
 ·exact ⟨Nat.zero_le _, fun x hx => absurd hx (by simp), by simp⟩
 ·exact le_of [(0, _)] (by rfl) (by rfl) ⟨⟨_, rfl, .p (.of_eq (by first | rfl | (simp only [PV.lit.injEq, Value.int.injEq, true_and]; omega) | (simp; done) | (simp; omega)))⟩, ⟨_, rfl, .p (.of_eq (by first | rfl | (simp only [PV.lit.injEq, Value.int.injEq, true_and]; omega) | (simp; done) | (simp; omega)))⟩, ⟨_, rfl, .mp rfl⟩, ⟨_, rfl, .p (.of_eq (by first | rfl | (simp only [PV.lit.injEq, Value.int.injEq, true_and]; omega) | (simp; done) | (simp; omega)))⟩, ⟨_, rfl, .p (.of_eq (by first | rfl | (simp only [PV.lit.injEq, Value.int.injEq, true_and]; omega) | (simp; done) | (simp; omega)))⟩, ⟨_, rfl, .p (.of_eq (by first | rfl | (simp only [PV.lit.injEq, Value.int.injEq, true_and]; omega) | (simp; done) | (simp; omega)))⟩, trivial⟩ ⟨⟨_, rfl, _, rfl, ⟨rfl, by first | exact Pl.metM_nil | (rw [Pl.take_snoc' l i (by omega)]; done)⟩⟩, trivial⟩
 obtain ⟨hi1, hi2, hi3⟩ := hi
 refine zW (zV [0, 1, 4, 5, 9, 10, 11]) ?_
 simp only [kp, zJ, simprocAttr]
 refine zK [] (by rw [hC]; rfl) fun k hk => ?_
 simp (maxSteps := 9^9) (disch := (try simp only [lens]); omega) only [zJ, sm, ↓amb, zQ, simprocAttr, Pl.metM_get, Pl.metM_set, dx]
 repeat refine ⟨by first | omega | (simp; done) | (unfold maxLen; omega) | (simp [maxLen]; omega) | assumption, ?_⟩
 refine hk _ ?_; clear hk k
 refine zY fun k3 h3 => ?_
 refine zX rfl (fun hb => ?_) (fun hb => ?_)
 ·try simp only [hbx] at hb
  refine yJ ?_
  refine h3 _ ?_; clear h3 k3
  refine zY fun k4 h4 => ?_
  refine yK ?_
  refine zW (zV [0, 1, 4, 5, 9, 10, 11]) ?_
  simp only [kp, zJ, simprocAttr]
  refine zK [] (by rw [hC]; rfl) fun k hk => ?_
  simp (maxSteps := 9^9) (disch := (try simp only [lens]); omega) only [zJ, sm, ↓amb, zQ, simprocAttr, el67, sz3, Pl.metM_get, Pl.metM_set, dx]
  repeat refine ⟨by first | omega | (simp; done) | (unfold maxLen; omega) | (simp [maxLen]; omega) | assumption, ?_⟩
  refine hk _ ?_; clear hk k
  refine zW (zV [0, 1, 4, 5, 7, 9, 10, 11]) ?_
  simp only [kp, zJ, simprocAttr]
  have hki := hl (l.getD i 0) (Pl.getD_mem l i 0 (by omega))
  have hcl : (l.take i).count (l.getD i 0) ≤ 1 := List.nodup_iff_count.1 hi3 _
  refine zK [] (by rw [hC]; rfl) fun k hk => ?_
  simp (maxSteps := 9^9) (disch := (try simp only [lens]); omega) only [zJ, sm, ↓amb, zQ, simprocAttr, mt130, tz3, Pl.metM_get, Pl.metM_set, dx]
  repeat refine ⟨by first | omega | (simp; done) | (unfold maxLen; omega) | (simp [maxLen]; omega) | assumption, ?_⟩
  refine hk _ ?_; clear hk k
  refine xQ [] 31 (decide (¬ ((0 ≤ l.getD i 0 ∧ l.getD i 0 < n) ∧ (l.take i ++ [l.getD i 0]).count (l.getD i 0) ≤ 1))) [0, 1, 4, 5, 9, 10, 11] (by rw [hC]; rfl) (fun gd hgd k hk => ?_) ?_
  ·have g2 : gd 2 = some 21 := by rw [hgd]; rfl
   have g7 : gd 7 = some 26 := by rw [hgd]; rfl
   clear hgd
   simp (maxSteps := 9^9) (disch := (try simp only [lens]); omega) only [zJ, sm, ↓amb, zQ, simprocAttr, mt130, tz3, zZ, g2, g7, Pl.metM_get, Pl.metM_set, dx]
   repeat' first | refine hk _ _ rfl rfl rfl rfl ?_ | (refine gsplit (fun hg => ?_) (fun hg => ?_) <;> (try simp only [hbx] at hg) <;> simp (maxSteps := 9^9) (disch := (try simp only [lens]); omega) only [zJ, sm, ↓amb, zQ, simprocAttr, mt130, tz3, zZ, g2, g7, Pl.metM_get, Pl.metM_set, dx]) | apply And.intro | fail
   all_goals first | rfl | omega | exact (decide_eq_true (by omega)).symm | exact (decide_eq_false (by omega)).symm | exact decide_eq_decide.mpr (by omega) | (refine Bool.eq_iff_iff.mpr ?_; simp only [beq_iff_eq, bne_iff_ne, ne_eq, decide_eq_true_eq]; omega) | (refine Bool.eq_iff_iff.mpr ?_; simp only [Bool.not_eq_true', Bool.not_eq_false', decide_eq_false_iff_not, decide_eq_true_eq, beq_iff_eq, bne_iff_ne, ne_eq]; omega) | assumption | (simp; done) | (simp [maxLen]; omega) | skip
  simp only [kp, zJ, simprocAttr, List.length_cons, List.length_nil]
  refine zX rfl (fun hb => ?_) (fun hb => ?_)
  ·try simp only [hbx] at hb
   refine zW (zV []) ?_
   simp only [kp, zJ, simprocAttr]
   refine zK [] (by rw [hC]; rfl) fun k hk => ?_
   simp (maxSteps := 9^9) (disch := (try simp only [lens]); omega) only [zJ, sm, ↓amb, zQ, simprocAttr, Pl.metM_get, Pl.metM_set, dx]
   repeat refine ⟨by first | omega | (simp; done) | (unfold maxLen; omega) | (simp [maxLen]; omega) | assumption, ?_⟩
   refine hk _ ?_; clear hk k
   refine yQ ?_
   have hno : ¬ Pl.onceP l n := fun q => hb ⟨q.2.1 _ (Pl.getD_mem l i 0 (by omega)), Pl.take_count (by omega) (Pl.onceP_nodup q)⟩
   refine ret1 rfl rfl ?_
   exact .p (LeP.of_eq (by rw [decide_eq_false hno]))
  ·try simp only [hbx] at hb
   refine yJ ?_
   refine h4 _ ?_; clear h4 k4
   refine yZ [] (by rw [hC]; rfl) fun k hk => ?_
   simp (maxSteps := 9^9) (disch := (try simp only [lens]); omega) only [zJ, sm, ↓amb, zQ, simprocAttr, Pl.metM_get, Pl.metM_set, dx]
   repeat refine ⟨by first | omega | (simp; done) | (unfold maxLen; omega) | (simp [maxLen]; omega) | assumption, ?_⟩
   refine hk _ ?_; clear hk k
   have hcc : (0 ≤ l.getD i 0 ∧ l.getD i 0 < n) ∧ (l.take i ++ [l.getD i 0]).count (l.getD i 0) ≤ 1 := by first | exact hb | exact Decidable.not_not.1 hb
   refine ⟨i + 1, ⟨by omega, Pl.all_take (by omega) hi2 hcc.1, by rw [Pl.take_snoc' l i (by omega)]; exact Pl.nodup_snoc hi3 hcc.2⟩, le_of [(0, _)] (by rfl) (by rfl) ⟨⟨_, rfl, .p (.of_eq (by first | rfl | (simp only [PV.lit.injEq, Value.int.injEq, true_and]; omega) | (simp; done) | (simp; omega)))⟩, ⟨_, rfl, .p (.of_eq (by first | rfl | (simp only [PV.lit.injEq, Value.int.injEq, true_and]; omega) | (simp; done) | (simp; omega)))⟩, ⟨_, rfl, .mp rfl⟩, ⟨_, rfl, .p (.of_eq (by first | rfl | (simp only [PV.lit.injEq, Value.int.injEq, true_and]; omega) | (simp; done) | (simp; omega)))⟩, ⟨_, rfl, .p (.of_eq (by first | rfl | (simp only [PV.lit.injEq, Value.int.injEq, true_and]; omega) | (simp; done) | (simp; omega)))⟩, ⟨_, rfl, .p (.of_eq (by first | rfl | (simp only [PV.lit.injEq, Value.int.injEq, true_and]; omega) | (simp; done) | (simp; omega)))⟩, trivial⟩ ⟨⟨_, rfl, _, rfl, ⟨rfl, by first | exact Pl.metM_nil | (rw [Pl.take_snoc' l i (by omega)]; done)⟩⟩, trivial⟩, by omega⟩
 ·try simp only [hbx] at hb
  refine yX ((if_pos rfl).mpr ?_)
  refine h1 _ ?_; clear h3 k3; clear h1 k1
  refine zW (zV [0, 1]) ?_
  simp only [kp, zJ, simprocAttr]
  have htk : l.take i = l := List.take_of_length_le (by omega)
  rw [htk] at hi2 hi3
  have hoi := Pl.once_iff hi2 hi3
  refine zK [] (by rw [hC]; rfl) fun k hk => ?_
  simp (maxSteps := 9^9) (disch := (try simp only [lens]); omega) only [zJ, sm, ↓amb, zQ, simprocAttr, el67, Pl.metM_get, Pl.metM_set, dx]
  repeat refine ⟨by first | omega | (simp; done) | (unfold maxLen; omega) | (simp [maxLen]; omega) | assumption, ?_⟩
  refine hk _ ?_; clear hk k
  refine yQ ?_
  refine ret1 rfl rfl ?_
  exact .p (LeP.of_eq (by rw [show decide (Pl.onceP l n) = decide (l.length = n) from decide_eq_decide.mpr hoi]; show PV.lit (Value.bool _) = PV.lit (Value.bool _); congr 2; rw [Bool.eq_iff_iff]; simp only [beq_iff_eq, decide_eq_true_eq]; omega))
end Go.Proofs.Ytjkkjiaeeobnkaa
end
section
set_option linter.unusedSimpArgs false
set_option linter.unusedVariables false
set_option maxRecDepth 100000
namespace Go.Proofs.Ytjkkjiaeeobnkaa
open Go.Am Go.Proofs
theorem el63 : tEl Try.prog 63 = some 71 := by kernel_rfl
theorem en129 : enters Try.prog 129 = true := by kernel_rfl
theorem sz71 : tSz Try.prog 71 = some (false, 1) := by kernel_rfl
set_option maxHeartbeats 4000000 in
theorem c_radix_by (c d : Bool) (l o : List Int) (t b : Int) (hl : ∀ x, x ∈ l → Pl.W32 x) (ho : Pl.onceP o l.length) (ht : 0 ≤ t ∧ t < Pl.pas b) (hn : l.length ≤ 1000000) : PCall Try.prog 110 [words c l, ints d o, iV t, iV b] (ints false (Pl.byP l o t b)) := by
 have hol := ho.1
 obtain ⟨p1, p2, p3⟩ := Pl.pas_b ht
 obtain ⟨B, hB⟩ : ∃ B : Nat, B = 2 ^ b.toNat := ⟨_, rfl⟩
 have hBN : 1 ≤ B ∧ B ≤ 65536 := by rw [hB]; exact Pl.pow16n (by omega)
 have hoN := Pl.onceP_nodup ho
 have hdA : ∀ x : Int, 0 ≤ Pl.digA l t b x ∧ Pl.digA l t b x < B := fun x => by rw [hB]; exact Pl.digA_b hl t b x
 have hdB := fun (x : Int) (_ : x ∈ o) => hdA x
 have hby : Pl.byP l o t b = Pl.bucket B (Pl.digA l t b) o := by rw [hB]; rfl
 have hwb : IntKind.i64.wrap (IntKind.i64.wrap (1 * 2 ^ min (b % 18446744073709551616).toNat IntKind.i64.bits) + 1) = ((B + 1 : Nat) : Int) := by
  rw [show (b % 18446744073709551616).toNat = b.toNat by congr 1; omega, Nat.min_eq_left (show b.toNat ≤ IntKind.i64.bits by show b.toNat ≤ 64; omega), Int.one_mul, show (2 : Int) ^ b.toNat = (B : Int) from by rw [hB, Int.natCast_pow]; rfl]
  rw [wrap64_of (x := (B : Int)) (by omega) (by omega), wrap64_of (x := (B : Int) + 1) (by omega) (by omega)]; rfl
 have hmL : B + 1 ≤ maxLen ∧ o.length ≤ maxLen := by unfold maxLen; omega
 rw [hby]
 clear hB hby
 refine yV Try.func110 rfl (by simp [Try.ntmps110]) fun C hC => ?_
 refine zW (zV [0, 1, 2, 3]) ?_
 simp only [kp, zJ, simprocAttr]
 refine zK [] (by rw [hC]; rfl) fun k hk => ?_
 simp (maxSteps := 9^9) (disch := (try simp only [lens]); omega) only [zJ, sm, ↓amb, zQ, simprocAttr, wr_u64, wr_u32, hwb, Int.toNat_natCast, dx]
 repeat refine ⟨by first | omega | (simp; done) | (unfold maxLen; omega) | (simp [maxLen]; omega) | assumption, ?_⟩
 refine hk _ ?_; clear hk k
 refine zW (zV [0, 1, 2, 3]) ?_
 simp only [kp, zJ, simprocAttr]
 refine zK [] (by rw [hC]; rfl) fun k hk => ?_
 simp (maxSteps := 9^9) (disch := (try simp only [lens]); omega) only [zJ, sm, ↓amb, zQ, simprocAttr, it83, un3, el67, by3, vr3, wr_u64, wr_u32, hwb, Int.toNat_natCast, dx]
 repeat refine ⟨by first | omega | (simp; done) | (unfold maxLen; omega) | (simp [maxLen]; omega) | assumption, ?_⟩
 refine hk _ ?_; clear hk k
 refine zY fun k1 h1 => ?_
 refine zW (zV [0, 1, 2, 3, 8, 9]) ?_
 simp only [kp, zJ, simprocAttr]
 refine zK [] (by rw [hC]; rfl) fun k hk => ?_
 simp (maxSteps := 9^9) (disch := (try simp only [lens]); omega) only [zJ, sm, ↓amb, zQ, simprocAttr, el67, wr_u64, wr_u32, hwb, Int.toNat_natCast, dx]
 repeat refine ⟨by first | omega | (simp; done) | (unfold maxLen; omega) | (simp [maxLen]; omega) | assumption, ?_⟩
 refine hk _ ?_; clear hk k
 refine yK ?_
 refine yY (σ := Nat) (fun i => i ≤ o.length) (fun (i : Nat) => ⟨[(0, (.p (words c l))), (1, (.p (ints d o))), (2, (.p (iV t))), (3, (.p (iV b))), (9, (.own 0)), (22, (.p (ints d o))), (23, (.p (iV o.length))), (24, (.p (iV (i : Int))))], [(0, (.row 1 (lift ((Pl.tabL (B + 1) (Pl.cntT1 (Pl.digA l t b) o i)).map fun x => [iV x]))))], 1⟩) (fun i => o.length - i) 0 ?_ ?_ fun i hi => ?_
 ·exact Nat.zero_le _
 ·exact le_of [(0, _)] (by rfl) (by rfl) ⟨⟨_, rfl, .p (.of_eq (by first | rfl | (simp only [PV.lit.injEq, Value.int.injEq, true_and]; omega) | (simp; done) | (simp; omega)))⟩, ⟨_, rfl, .p (.of_eq (by first | rfl | (simp only [PV.lit.injEq, Value.int.injEq, true_and]; omega) | (simp; done) | (simp; omega)))⟩, ⟨_, rfl, .p (.of_eq (by first | rfl | (simp only [PV.lit.injEq, Value.int.injEq, true_and]; omega) | (simp; done) | (simp; omega)))⟩, ⟨_, rfl, .p (.of_eq (by first | rfl | (simp only [PV.lit.injEq, Value.int.injEq, true_and]; omega) | (simp; done) | (simp; omega)))⟩, ⟨_, rfl, .own rfl⟩, ⟨_, rfl, .p (.of_eq (by first | rfl | (simp only [PV.lit.injEq, Value.int.injEq, true_and]; omega) | (simp; done) | (simp; omega)))⟩, ⟨_, rfl, .p (.of_eq (by first | rfl | (simp only [PV.lit.injEq, Value.int.injEq, true_and]; omega) | (simp; done) | (simp; omega)))⟩, ⟨_, rfl, .p (.of_eq (by first | rfl | (simp only [PV.lit.injEq, Value.int.injEq, true_and]; omega) | (simp; done) | (simp; omega)))⟩, trivial⟩ ⟨⟨_, rfl, _, rfl, .liftE (by first | (rw [Pl.cnt1_0, List.map_replicate]; done) | (rw [hdw, ← Pl.cnt1_set (show i < o.length by omega) hdi, List.map_set]; first | done | rfl) | trace_state)⟩, trivial⟩
 refine zW (zV [0, 1, 2, 3, 8, 9, 22, 23, 24]) ?_
 simp only [kp, zJ, simprocAttr]
 refine zK [] (by rw [hC]; rfl) fun k hk => ?_
 simp (maxSteps := 9^9) (disch := (try simp only [lens]); omega) only [zJ, sm, ↓amb, zQ, simprocAttr, wr_u64, wr_u32, hwb, Int.toNat_natCast, dx]
 repeat refine ⟨by first | omega | (simp; done) | (unfold maxLen; omega) | (simp [maxLen]; omega) | assumption, ?_⟩
 refine hk _ ?_; clear hk k
 refine zY fun k3 h3 => ?_
 refine zX rfl (fun hb => ?_) (fun hb => ?_)
 ·try simp only [hbx] at hb
  refine yJ ?_
  refine h3 _ ?_; clear h3 k3
  refine zY fun k4 h4 => ?_
  refine yK ?_
  refine zW (zV [0, 1, 2, 3, 8, 9, 22, 23, 24]) ?_
  simp only [kp, zJ, simprocAttr]
  refine zK [] (by rw [hC]; rfl) fun k hk => ?_
  simp (maxSteps := 9^9) (disch := (try simp only [lens]); omega) only [zJ, sm, ↓amb, zQ, simprocAttr, el67, sz3, wr_u64, wr_u32, hwb, Int.toNat_natCast, dx]
  repeat refine ⟨by first | omega | (simp; done) | (unfold maxLen; omega) | (simp [maxLen]; omega) | assumption, ?_⟩
  refine hk _ ?_; clear hk k
  have hdi := hdA (o.getD i 0)
  have hdj : 0 ≤ (Pl.digW (l.getD (o.getD i 0).toNat 0) t b) ∧ (Pl.digW (l.getD (o.getD i 0).toNat 0) t b) < B := hdi
  have hdw : (((Pl.digW (l.getD (o.getD i 0).toNat 0) t b) + 1) % 4294967296).toNat = ((Pl.digA l t b) (o.getD i 0) + 1).toNat := by show (((Pl.digA l t b) (o.getD i 0) + 1) % 4294967296).toNat = _; omega
  have hoi := ho.2.1 _ (Pl.getD_mem o i 0 (by omega))
  have hwi := Pl.getD_w hl (o.getD i 0).toNat
  have htl := Pl.tabL_len (B + 1) (Pl.cntT1 (Pl.digA l t b) o i)
  have hgt := Pl.cnt1_up (Pl.digA l t b) o i (((Pl.digW (l.getD (o.getD i 0).toNat 0) t b) + 1) % 4294967296).toNat B (by omega)
  refine yZ [] (by rw [hC]; rfl) fun k hk => ?_
  simp (maxSteps := 9^9) (disch := (try simp only [lens]); omega) only [zJ, sm, ↓amb, zQ, simprocAttr, el63, sz71, en129, el67, sz3, wr_u64, wr_u32, hwb, Int.toNat_natCast, dx]
  repeat refine ⟨by first | omega | (simp; done) | (unfold maxLen; omega) | (simp [maxLen]; omega) | assumption, ?_⟩
  refine yW (c_radix_Digit _ _ _ hwi) rfl ?_
  simp (maxSteps := 9^9) (disch := (try simp only [lens]); omega) only [zJ, sm, ↓amb, zQ, simprocAttr, el63, sz71, en129, el67, sz3, wr_u64, wr_u32, hwb, Int.toNat_natCast, dx]
  repeat refine ⟨by first | omega | (simp; done) | (unfold maxLen; omega) | (simp [maxLen]; omega) | assumption, ?_⟩
  refine hk _ ?_; clear hk k
  refine h4 _ ?_; clear h4 k4
  refine yZ [] (by rw [hC]; rfl) fun k hk => ?_
  simp (maxSteps := 9^9) (disch := (try simp only [lens]); omega) only [zJ, sm, ↓amb, zQ, simprocAttr, wr_u64, wr_u32, hwb, Int.toNat_natCast, dx]
  repeat refine ⟨by first | omega | (simp; done) | (unfold maxLen; omega) | (simp [maxLen]; omega) | assumption, ?_⟩
  refine hk _ ?_; clear hk k
  refine ⟨i + 1, by omega, le_of [(0, _)] (by rfl) (by rfl) ⟨⟨_, rfl, .p (.of_eq (by first | rfl | (simp only [PV.lit.injEq, Value.int.injEq, true_and]; omega) | (simp; done) | (simp; omega)))⟩, ⟨_, rfl, .p (.of_eq (by first | rfl | (simp only [PV.lit.injEq, Value.int.injEq, true_and]; omega) | (simp; done) | (simp; omega)))⟩, ⟨_, rfl, .p (.of_eq (by first | rfl | (simp only [PV.lit.injEq, Value.int.injEq, true_and]; omega) | (simp; done) | (simp; omega)))⟩, ⟨_, rfl, .p (.of_eq (by first | rfl | (simp only [PV.lit.injEq, Value.int.injEq, true_and]; omega) | (simp; done) | (simp; omega)))⟩, ⟨_, rfl, .own rfl⟩, ⟨_, rfl, .p (.of_eq (by first | rfl | (simp only [PV.lit.injEq, Value.int.injEq, true_and]; omega) | (simp; done) | (simp; omega)))⟩, ⟨_, rfl, .p (.of_eq (by first | rfl | (simp only [PV.lit.injEq, Value.int.injEq, true_and]; omega) | (simp; done) | (simp; omega)))⟩, ⟨_, rfl, .p (.of_eq (by first | rfl | (simp only [PV.lit.injEq, Value.int.injEq, true_and]; omega) | (simp; done) | (simp; omega)))⟩, trivial⟩ ⟨⟨_, rfl, _, rfl, .liftE (by first | (rw [Pl.cnt1_0, List.map_replicate]; done) | (rw [hdw, ← Pl.cnt1_set (show i < o.length by omega) hdi, List.map_set]; first | done | rfl) | trace_state)⟩, trivial⟩, by omega⟩
 ·try simp only [hbx] at hb
  refine yX ((if_pos rfl).mpr ?_)
  refine h1 _ ?_; clear h3 k3; clear h1 k1
  refine zY fun k5 h5 => ?_
  refine zW (zV [0, 1, 2, 3, 8, 9]) ?_
  simp only [kp, zJ, simprocAttr]
  obtain rfl : i = o.length := by omega
  rw [Pl.cnt1_2]
  have htl := Pl.tabL_len (B + 1) (Pl.cntT2 (Pl.digA l t b) o 0)
  refine zK [] (by rw [hC]; rfl) fun k hk => ?_
  simp (maxSteps := 9^9) (disch := (try simp only [lens]); omega) only [zJ, sm, ↓amb, zQ, simprocAttr, el67, wr_u64, wr_u32, hwb, Int.toNat_natCast, dx]
  repeat refine ⟨by first | omega | (simp; done) | (unfold maxLen; omega) | (simp [maxLen]; omega) | assumption, ?_⟩
  refine hk _ ?_; clear hk k
  refine yK ?_
  refine yY (σ := Nat) (fun v => v ≤ B) (fun (v : Nat) => ⟨[(0, (.p (words c l))), (1, (.p (ints d o))), (2, (.p (iV t))), (3, (.p (iV b))), (9, (.own 0)), (44, (.p (iV ((B : Nat) : Int)))), (45, (.p (iV (v : Int))))], [(0, (.row 1 (lift ((Pl.tabL (B + 1) (Pl.cntT2 (Pl.digA l t b) o v)).map fun x => [iV x]))))], 1⟩) (fun v => B - v) 0 ?_ ?_ fun v hv => ?_
  ·exact Nat.zero_le _
  ·exact le_of [(0, _)] (by rfl) (by rfl) ⟨⟨_, rfl, .p (.of_eq (by first | rfl | (simp only [PV.lit.injEq, Value.int.injEq, true_and]; omega) | (simp; done) | (simp; omega)))⟩, ⟨_, rfl, .p (.of_eq (by first | rfl | (simp only [PV.lit.injEq, Value.int.injEq, true_and]; omega) | (simp; done) | (simp; omega)))⟩, ⟨_, rfl, .p (.of_eq (by first | rfl | (simp only [PV.lit.injEq, Value.int.injEq, true_and]; omega) | (simp; done) | (simp; omega)))⟩, ⟨_, rfl, .p (.of_eq (by first | rfl | (simp only [PV.lit.injEq, Value.int.injEq, true_and]; omega) | (simp; done) | (simp; omega)))⟩, ⟨_, rfl, .own rfl⟩, ⟨_, rfl, .p (.of_eq (by first | rfl | (simp only [PV.lit.injEq, Value.int.injEq, true_and]; omega) | (simp; done) | (simp; omega)))⟩, ⟨_, rfl, .p (.of_eq (by first | rfl | (simp only [PV.lit.injEq, Value.int.injEq, true_and]; omega) | (simp; done) | (simp; omega)))⟩, trivial⟩ ⟨⟨_, rfl, _, rfl, .liftE (by first | rfl | (rw [← Pl.cnt2_set (by omega), List.map_set]; first | done | rfl) | trace_state)⟩, trivial⟩
  refine zW (zV [0, 1, 2, 3, 8, 9, 44, 45]) ?_
  simp only [kp, zJ, simprocAttr]
  refine zK [] (by rw [hC]; rfl) fun k hk => ?_
  simp (maxSteps := 9^9) (disch := (try simp only [lens]); omega) only [zJ, sm, ↓amb, zQ, simprocAttr, wr_u64, wr_u32, hwb, Int.toNat_natCast, dx]
  repeat refine ⟨by first | omega | (simp; done) | (unfold maxLen; omega) | (simp [maxLen]; omega) | assumption, ?_⟩
  refine hk _ ?_; clear hk k
  refine zY fun k7 h7 => ?_
  refine zX rfl (fun hb => ?_) (fun hb => ?_)
  ·try simp only [hbx] at hb
   refine yJ ?_
   refine h7 _ ?_; clear h7 k7
   refine zY fun k8 h8 => ?_
   refine yK ?_
   refine zW (zV [0, 1, 2, 3, 8, 9, 44, 45]) ?_
   simp only [kp, zJ, simprocAttr]
   refine zK [] (by rw [hC]; rfl) fun k hk => ?_
   simp (maxSteps := 9^9) (disch := (try simp only [lens]); omega) only [zJ, sm, ↓amb, zQ, simprocAttr, wr_u64, wr_u32, hwb, Int.toNat_natCast, dx]
   repeat refine ⟨by first | omega | (simp; done) | (unfold maxLen; omega) | (simp [maxLen]; omega) | assumption, ?_⟩
   refine hk _ ?_; clear hk k
   have htl := Pl.tabL_len (B + 1) (Pl.cntT2 (Pl.digA l t b) o v)
   have hg1 := Pl.cnt2_up hdB hoN v v (by omega)
   have hg2 := Pl.cnt2_up hdB hoN v (v + 1) (by omega)
   refine awp_draw [] ⟨[0, 0, 2, 7, 15, 0, 0, 96, 224, 511, 1023, 2047], [3, 4, 7, 8, 10], [11], [], some [0]⟩ (by rw [hC]; rfl) (by kernel_rfl) (by kernel_rfl) fun k hk => ?_
   simp (maxSteps := 9^9) (disch := (try simp only [lens]); omega) only [zJ, sm, ↓amb, zQ, simprocAttr, el67, sz3, wr_u64, wr_u32, hwb, Int.toNat_natCast, dx]
   repeat refine ⟨by first | omega | (simp; done) | (unfold maxLen; omega) | (simp [maxLen]; omega) | assumption, ?_⟩
   refine hk _ ?_; clear hk k
   refine h8 _ ?_; clear h8 k8
   refine yZ [] (by rw [hC]; rfl) fun k hk => ?_
   simp (maxSteps := 9^9) (disch := (try simp only [lens]); omega) only [zJ, sm, ↓amb, zQ, simprocAttr, wr_u64, wr_u32, hwb, Int.toNat_natCast, dx]
   repeat refine ⟨by first | omega | (simp; done) | (unfold maxLen; omega) | (simp [maxLen]; omega) | assumption, ?_⟩
   refine hk _ ?_; clear hk k
   refine ⟨v + 1, by omega, le_of [(0, _)] (by rfl) (by rfl) ⟨⟨_, rfl, .p (.of_eq (by first | rfl | (simp only [PV.lit.injEq, Value.int.injEq, true_and]; omega) | (simp; done) | (simp; omega)))⟩, ⟨_, rfl, .p (.of_eq (by first | rfl | (simp only [PV.lit.injEq, Value.int.injEq, true_and]; omega) | (simp; done) | (simp; omega)))⟩, ⟨_, rfl, .p (.of_eq (by first | rfl | (simp only [PV.lit.injEq, Value.int.injEq, true_and]; omega) | (simp; done) | (simp; omega)))⟩, ⟨_, rfl, .p (.of_eq (by first | rfl | (simp only [PV.lit.injEq, Value.int.injEq, true_and]; omega) | (simp; done) | (simp; omega)))⟩, ⟨_, rfl, .own rfl⟩, ⟨_, rfl, .p (.of_eq (by first | rfl | (simp only [PV.lit.injEq, Value.int.injEq, true_and]; omega) | (simp; done) | (simp; omega)))⟩, ⟨_, rfl, .p (.of_eq (by first | rfl | (simp only [PV.lit.injEq, Value.int.injEq, true_and]; omega) | (simp; done) | (simp; omega)))⟩, trivial⟩ ⟨⟨_, rfl, _, rfl, .liftE (by first | rfl | (rw [← Pl.cnt2_set (by omega), List.map_set]; first | done | rfl) | trace_state)⟩, trivial⟩, by omega⟩
  ·try simp only [hbx] at hb
   refine yX ((if_pos rfl).mpr ?_)
   refine h5 _ ?_; clear h7 k7; clear h5 k5
   refine zW (zV [0, 1, 2, 3, 9]) ?_
   simp only [kp, zJ, simprocAttr]
   obtain rfl : B = v := by omega
   rw [Pl.cnt2_3]
   refine zK [] (by rw [hC]; rfl) fun k hk => ?_
   simp (maxSteps := 9^9) (disch := (try simp only [lens]); omega) only [zJ, sm, ↓amb, zQ, simprocAttr, el67, by3, vr3, wr_u64, wr_u32, hwb, Int.toNat_natCast, dx]
   repeat refine ⟨by first | omega | (simp; done) | (unfold maxLen; omega) | (simp [maxLen]; omega) | assumption, ?_⟩
   refine hk _ ?_; clear hk k
   refine zY fun k9 h9 => ?_
   refine zW (zV [0, 1, 2, 3, 8, 9, 13]) ?_
   simp only [kp, zJ, simprocAttr]
   refine zK [] (by rw [hC]; rfl) fun k hk => ?_
   simp (maxSteps := 9^9) (disch := (try simp only [lens]); omega) only [zJ, sm, ↓amb, zQ, simprocAttr, el67, wr_u64, wr_u32, hwb, Int.toNat_natCast, dx]
   repeat refine ⟨by first | omega | (simp; done) | (unfold maxLen; omega) | (simp [maxLen]; omega) | assumption, ?_⟩
   refine hk _ ?_; clear hk k
   refine yK ?_
   refine yY (σ := Nat) (fun i => i ≤ o.length) (fun (i : Nat) => ⟨[(0, (.p (words c l))), (1, (.p (ints d o))), (2, (.p (iV t))), (3, (.p (iV b))), (9, (.own 0)), (13, (.own 1)), (63, (.p (ints d o))), (64, (.p (iV o.length))), (65, (.p (iV (i : Int))))], [(0, (.row 1 (lift ((Pl.tabL (B + 1) (Pl.cntT3 B (Pl.digA l t b) o i)).map fun x => [iV x])))), (1, (.row 1 (lift ((Pl.fillL o.length (Pl.posL (Pl.digA l t b) o i) (fun j => (Pl.bucket B (Pl.digA l t b) o).getD j 0)).map fun x => [iV x]))))], 1⟩) (fun i => o.length - i) 0 ?_ ?_ fun i hi => ?_
   ·exact Nat.zero_le _
   ·exact le_of [(0, _), (1, _)] (by rfl) (by rfl) ⟨⟨_, rfl, .p (.of_eq (by first | rfl | (simp only [PV.lit.injEq, Value.int.injEq, true_and]; omega) | (simp; done) | (simp; omega)))⟩, ⟨_, rfl, .p (.of_eq (by first | rfl | (simp only [PV.lit.injEq, Value.int.injEq, true_and]; omega) | (simp; done) | (simp; omega)))⟩, ⟨_, rfl, .p (.of_eq (by first | rfl | (simp only [PV.lit.injEq, Value.int.injEq, true_and]; omega) | (simp; done) | (simp; omega)))⟩, ⟨_, rfl, .p (.of_eq (by first | rfl | (simp only [PV.lit.injEq, Value.int.injEq, true_and]; omega) | (simp; done) | (simp; omega)))⟩, ⟨_, rfl, .own rfl⟩, ⟨_, rfl, .own rfl⟩, ⟨_, rfl, .p (.of_eq (by first | rfl | (simp only [PV.lit.injEq, Value.int.injEq, true_and]; omega) | (simp; done) | (simp; omega)))⟩, ⟨_, rfl, .p (.of_eq (by first | rfl | (simp only [PV.lit.injEq, Value.int.injEq, true_and]; omega) | (simp; done) | (simp; omega)))⟩, ⟨_, rfl, .p (.of_eq (by first | rfl | (simp only [PV.lit.injEq, Value.int.injEq, true_and]; omega) | (simp; done) | (simp; omega)))⟩, trivial⟩ ⟨⟨_, rfl, _, rfl, .liftE (by first | rfl | (rw [hcg, ← Pl.cnt3_set (show i < o.length by omega) hdi, List.map_set]; first | done | rfl) | trace_state)⟩, ⟨_, rfl, _, rfl, .liftE (by first | (rw [show Pl.posL (Pl.digA l t b) o 0 = [] from rfl, Pl.fillL_nil, List.map_replicate]; done) | (rw [hcg, Pl.posL_succ, ← Pl.fillL_set (Int.natCast_nonneg _) (x := o.getD i 0) hpl.2.symm, List.map_set]; first | done | rfl) | trace_state)⟩, trivial⟩
   refine zW (zV [0, 1, 2, 3, 8, 9, 13, 63, 64, 65]) ?_
   simp only [kp, zJ, simprocAttr]
   refine zK [] (by rw [hC]; rfl) fun k hk => ?_
   simp (maxSteps := 9^9) (disch := (try simp only [lens]); omega) only [zJ, sm, ↓amb, zQ, simprocAttr, wr_u64, wr_u32, hwb, Int.toNat_natCast, dx]
   repeat refine ⟨by first | omega | (simp; done) | (unfold maxLen; omega) | (simp [maxLen]; omega) | assumption, ?_⟩
   refine hk _ ?_; clear hk k
   refine zY fun k11 h11 => ?_
   refine zX rfl (fun hb => ?_) (fun hb => ?_)
   ·try simp only [hbx] at hb
    refine yJ ?_
    refine h11 _ ?_; clear h11 k11
    refine zY fun k12 h12 => ?_
    refine yK ?_
    refine zW (zV [0, 1, 2, 3, 8, 9, 13, 63, 64, 65]) ?_
    simp only [kp, zJ, simprocAttr]
    refine zK [] (by rw [hC]; rfl) fun k hk => ?_
    simp (maxSteps := 9^9) (disch := (try simp only [lens]); omega) only [zJ, sm, ↓amb, zQ, simprocAttr, el67, sz3, wr_u64, wr_u32, hwb, Int.toNat_natCast, dx]
    repeat refine ⟨by first | omega | (simp; done) | (unfold maxLen; omega) | (simp [maxLen]; omega) | assumption, ?_⟩
    refine hk _ ?_; clear hk k
    refine zW (zV [0, 1, 2, 3, 8, 9, 13, 15, 63, 64, 65]) ?_
    simp only [kp, zJ, simprocAttr]
    have hdi := hdA (o.getD i 0)
    have hdj : 0 ≤ (Pl.digW (l.getD (o.getD i 0).toNat 0) t b) ∧ (Pl.digW (l.getD (o.getD i 0).toNat 0) t b) < B := hdi
    have hdw : (((Pl.digW (l.getD (o.getD i 0).toNat 0) t b) + 1) % 4294967296).toNat = ((Pl.digA l t b) (o.getD i 0) + 1).toNat := by show (((Pl.digA l t b) (o.getD i 0) + 1) % 4294967296).toNat = _; omega
    have hoi := ho.2.1 _ (Pl.getD_mem o i 0 (by omega))
    have hwi := Pl.getD_w hl (o.getD i 0).toNat
    refine zK [] (by rw [hC]; rfl) fun k hk => ?_
    simp (maxSteps := 9^9) (disch := (try simp only [lens]); omega) only [zJ, sm, ↓amb, zQ, simprocAttr, el63, sz71, en129, wr_u64, wr_u32, hwb, Int.toNat_natCast, dx]
    repeat refine ⟨by first | omega | (simp; done) | (unfold maxLen; omega) | (simp [maxLen]; omega) | assumption, ?_⟩
    refine yW (c_radix_Digit _ _ _ hwi) rfl ?_
    simp (maxSteps := 9^9) (disch := (try simp only [lens]); omega) only [zJ, sm, ↓amb, zQ, simprocAttr, el63, sz71, en129, wr_u64, wr_u32, hwb, Int.toNat_natCast, dx]
    repeat refine ⟨by first | omega | (simp; done) | (unfold maxLen; omega) | (simp [maxLen]; omega) | assumption, ?_⟩
    refine hk _ ?_; clear hk k
    refine zW (zV [0, 1, 2, 3, 8, 9, 13, 15, 16, 63, 64, 65]) ?_
    simp only [kp, zJ, simprocAttr]
    have htl := Pl.tabL_len (B + 1) (Pl.cntT3 B (Pl.digA l t b) o i)
    have hfl := Pl.fillL_len o.length (Pl.posL (Pl.digA l t b) o i) (fun j => (Pl.bucket B (Pl.digA l t b) o).getD j 0)
    have hcg : (Pl.tabL (B + 1) (Pl.cntT3 B (Pl.digA l t b) o i)).getD (Pl.digW (l.getD (o.getD i 0).toNat 0) t b).toNat 0 = (Pl.posB (Pl.digA l t b) o i : Int) := Pl.cnt3_get (B := B) (show i < o.length by omega) hdi
    have hpl := Pl.posB_lt (show i < o.length by omega) hdB hoN
    refine zK [] (by rw [hC]; rfl) fun k hk => ?_
    simp (maxSteps := 9^9) (disch := (try simp only [lens]); omega) only [zJ, sm, ↓amb, zQ, simprocAttr, el67, sz3, wr_u64, wr_u32, hwb, Int.toNat_natCast, dx]
    repeat refine ⟨by first | omega | (simp; done) | (unfold maxLen; omega) | (simp [maxLen]; omega) | assumption, ?_⟩
    refine hk _ ?_; clear hk k
    refine yZ [] (by rw [hC]; rfl) fun k hk => ?_
    simp (maxSteps := 9^9) (disch := (try simp only [lens]); omega) only [zJ, sm, ↓amb, zQ, simprocAttr, el67, sz3, wr_u64, wr_u32, hwb, Int.toNat_natCast, dx]
    repeat refine ⟨by first | omega | (simp; done) | (unfold maxLen; omega) | (simp [maxLen]; omega) | assumption, ?_⟩
    refine hk _ ?_; clear hk k
    refine h12 _ ?_; clear h12 k12
    refine yZ [] (by rw [hC]; rfl) fun k hk => ?_
    simp (maxSteps := 9^9) (disch := (try simp only [lens]); omega) only [zJ, sm, ↓amb, zQ, simprocAttr, wr_u64, wr_u32, hwb, Int.toNat_natCast, dx]
    repeat refine ⟨by first | omega | (simp; done) | (unfold maxLen; omega) | (simp [maxLen]; omega) | assumption, ?_⟩
    refine hk _ ?_; clear hk k
    refine ⟨i + 1, by omega, le_of [(0, _), (1, _)] (by rfl) (by rfl) ⟨⟨_, rfl, .p (.of_eq (by first | rfl | (simp only [PV.lit.injEq, Value.int.injEq, true_and]; omega) | (simp; done) | (simp; omega)))⟩, ⟨_, rfl, .p (.of_eq (by first | rfl | (simp only [PV.lit.injEq, Value.int.injEq, true_and]; omega) | (simp; done) | (simp; omega)))⟩, ⟨_, rfl, .p (.of_eq (by first | rfl | (simp only [PV.lit.injEq, Value.int.injEq, true_and]; omega) | (simp; done) | (simp; omega)))⟩, ⟨_, rfl, .p (.of_eq (by first | rfl | (simp only [PV.lit.injEq, Value.int.injEq, true_and]; omega) | (simp; done) | (simp; omega)))⟩, ⟨_, rfl, .own rfl⟩, ⟨_, rfl, .own rfl⟩, ⟨_, rfl, .p (.of_eq (by first | rfl | (simp only [PV.lit.injEq, Value.int.injEq, true_and]; omega) | (simp; done) | (simp; omega)))⟩, ⟨_, rfl, .p (.of_eq (by first | rfl | (simp only [PV.lit.injEq, Value.int.injEq, true_and]; omega) | (simp; done) | (simp; omega)))⟩, ⟨_, rfl, .p (.of_eq (by first | rfl | (simp only [PV.lit.injEq, Value.int.injEq, true_and]; omega) | (simp; done) | (simp; omega)))⟩, trivial⟩ ⟨⟨_, rfl, _, rfl, .liftE (by first | rfl | (rw [hcg, ← Pl.cnt3_set (show i < o.length by omega) hdi, List.map_set]; first | done | rfl) | trace_state)⟩, ⟨_, rfl, _, rfl, .liftE (by first | (rw [show Pl.posL (Pl.digA l t b) o 0 = [] from rfl, Pl.fillL_nil, List.map_replicate]; done) | (rw [hcg, Pl.posL_succ, ← Pl.fillL_set (Int.natCast_nonneg _) (x := o.getD i 0) hpl.2.symm, List.map_set]; first | done | rfl) | trace_state)⟩, trivial⟩, by omega⟩
   ·try simp only [hbx] at hb
    refine yX ((if_pos rfl).mpr ?_)
    refine h9 _ ?_; clear h11 k11; clear h9 k9
    refine zW (zV [13]) ?_
    simp only [kp, zJ, simprocAttr]
    obtain rfl : i = o.length := by omega
    rw [show Pl.fillL o.length (Pl.posL (Pl.digA l t b) o o.length) (fun j => (Pl.bucket B (Pl.digA l t b) o).getD j 0) = (Pl.bucket B (Pl.digA l t b) o) from Pl.filled hdB hoN]
    refine zK [] (by rw [hC]; rfl) fun k hk => ?_
    simp (maxSteps := 9^9) (disch := (try simp only [lens]); omega) only [zJ, sm, ↓amb, zQ, simprocAttr, wr_u64, wr_u32, hwb, Int.toNat_natCast, dx]
    repeat refine ⟨by first | omega | (simp; done) | (unfold maxLen; omega) | (simp [maxLen]; omega) | assumption, ?_⟩
    refine hk _ ?_; clear hk k
    refine yQ ?_
    refine ret1 rfl rfl ?_
    exact .ownE rfl rfl
end Go.Proofs.Ytjkkjiaeeobnkaa
end
section
set_option linter.unusedSimpArgs false
set_option linter.unusedVariables false
set_option maxRecDepth 100000
namespace Go.Proofs.Ytjkkjiaeeobnkaa
open Go.Am Go.Proofs
theorem by71 : tBytes Try.prog 71 = some 4 := by kernel_rfl
theorem vr71 : tVar Try.prog 71 = some (false, [.lit (.int .u32 0)]) := by kernel_rfl
set_option maxHeartbeats 4000000 in
theorem c_scan_Sums_1 (a b : Int) (ha : Pl.W32 a) (hb' : Pl.W32 b) : PCall Try.prog 78 [u32V a, u32V b] (u32V (Pl.add32 a b)) := by
 refine yV Try.func78 rfl (by simp [Try.ntmps78]) fun C hC => ?_
 refine zK [] (by rw [hC]; rfl) fun k hk => ?_
 simp (maxSteps := 9^9) (disch := (try simp only [lens]); omega) only [zJ, sm, ↓amb, zQ, simprocAttr, wr_u32, dx]
 repeat refine ⟨by first | omega | (simp; done) | (unfold maxLen; omega) | (simp [maxLen]; omega) | assumption, ?_⟩
 refine hk _ ?_; clear hk k
 refine zK [] (by rw [hC]; rfl) fun k hk => ?_
 simp (maxSteps := 9^9) (disch := (try simp only [lens]); omega) only [zJ, sm, ↓amb, zQ, simprocAttr, wr_u32, dx]
 repeat refine ⟨by first | omega | (simp; done) | (unfold maxLen; omega) | (simp [maxLen]; omega) | assumption, ?_⟩
 refine hk _ ?_; clear hk k
 refine yQ ?_
 refine ret1 rfl rfl ?_
 exact .p (LeP.of_eq (by rfl))
set_option maxHeartbeats 4000000 in
theorem c_scan_part (c : Bool) (l : List Int) (u b : Nat) (h : u * b ≤ l.length) (hu : u ≤ 1000) (hb' : b ≤ 100) (hn : l.length ≤ 1000) : PCall Try.prog 98 [words c l, iV u, iV b] (words false (Pl.part l b u)) := by
 refine yV Try.func98 rfl (by simp [Try.ntmps98]) fun C hC => ?_
 refine zW (zV [0, 1, 2]) ?_
 simp only [kp, zJ, simprocAttr]
 refine zK [] (by rw [hC]; rfl) fun k hk => ?_
 simp (maxSteps := 9^9) (disch := (try simp only [lens]); omega) only [zJ, sm, ↓amb, zQ, simprocAttr, dx]
 repeat refine ⟨by first | omega | (simp; done) | (unfold maxLen; omega) | (simp [maxLen]; omega) | assumption, ?_⟩
 refine hk _ ?_; clear hk k
 refine zW (zV [0, 1, 2]) ?_
 simp only [kp, zJ, simprocAttr]
 have h1 : (u + 1) * b = u * b + b := by rw [Nat.add_mul, Nat.one_mul]
 have e1 : (u : Int) * (b : Int) = ((u * b : Nat) : Int) := by rw [Int.natCast_mul]
 have e2 : ((u : Int) + 1) * (b : Int) = ((u * b + b : Nat) : Int) := by rw [← h1, Int.natCast_mul]; rfl
 refine zK [] (by rw [hC]; rfl) fun k hk => ?_
 simp (maxSteps := 9^9) (disch := (try simp only [lens]); omega) only [zJ, sm, ↓amb, zQ, simprocAttr, el63, sz71, dx]
 repeat refine ⟨by first | omega | (simp; done) | (unfold maxLen; omega) | (simp [maxLen]; omega) | assumption, ?_⟩
 refine hk _ ?_; clear hk k
 refine yQ ?_
 have e3 : (List.take (min (l.length : Int) ((u * b + b : Nat) : Int)).toNat l).drop ((u * b : Nat) : Int).toNat = Pl.part l b u := by unfold Pl.part; rw [h1, Int.toNat_natCast]; congr 2; omega
 refine ret1 rfl rfl ?_
 rw [e1, e2, e3]
 exact .p (LeP.seq _ _)
set_option maxHeartbeats 4000000 in
theorem c_scan_ahead (c : Bool) (l : List Int) (hl : ∀ x, x ∈ l → Pl.W32 x) (hn : l.length ≤ 1000000) (F : FuncId) (hen : enters Try.prog F = true) (f : Int → Int → Int) (hf : Pl.Rule f) (hF : ∀ a b : Int, Pl.W32 a → Pl.W32 b → PCall Try.prog F [u32V a, u32V b] (u32V (f a b))) : HCall Try.prog 97 [.p (words c l), .fn F []] [] (.tup [.p (words false (Pl.aheadF f l)), .p (u32V (Pl.allF f l))]) [] := by
 refine xJ Try.func97 rfl (by simp [Try.ntmps97]) fun C hC => ?_
 refine zW (zV [0, 1]) ?_
 simp only [kp, zJ, simprocAttr]
 refine zK [] (by rw [hC]; rfl) fun k hk => ?_
 simp (maxSteps := 9^9) (disch := (try simp only [lens]); omega) only [zJ, sm, ↓amb, zQ, simprocAttr, hen, dx]
 repeat refine ⟨by first | omega | (simp; done) | (unfold maxLen; omega) | (simp [maxLen]; omega) | assumption, ?_⟩
 refine hk _ ?_; clear hk k
 refine zW (zV [0, 1]) ?_
 simp only [kp, zJ, simprocAttr]
 refine zK [] (by rw [hC]; rfl) fun k hk => ?_
 simp (maxSteps := 9^9) (disch := (try simp only [lens]); omega) only [zJ, sm, ↓amb, zQ, simprocAttr, el63, by71, vr71, hen, dx]
 repeat refine ⟨by first | omega | (simp; done) | (unfold maxLen; omega) | (simp [maxLen]; omega) | assumption, ?_⟩
 refine hk _ ?_; clear hk k
 refine zW (zV [0, 1, 6]) ?_
 simp only [kp, zJ, simprocAttr]
 refine zK [] (by rw [hC]; rfl) fun k hk => ?_
 simp (maxSteps := 9^9) (disch := (try simp only [lens]); omega) only [zJ, sm, ↓amb, zQ, simprocAttr, hen, dx]
 repeat refine ⟨by first | omega | (simp; done) | (unfold maxLen; omega) | (simp [maxLen]; omega) | assumption, ?_⟩
 refine hk _ ?_; clear hk k
 refine zY fun k1 h1 => ?_
 refine zW (zV [0, 1, 4, 5, 6, 7]) ?_
 simp only [kp, zJ, simprocAttr]
 refine zK [] (by rw [hC]; rfl) fun k hk => ?_
 simp (maxSteps := 9^9) (disch := (try simp only [lens]); omega) only [zJ, sm, ↓amb, zQ, simprocAttr, el63, hen, dx]
 repeat refine ⟨by first | omega | (simp; done) | (unfold maxLen; omega) | (simp [maxLen]; omega) | assumption, ?_⟩
 refine hk _ ?_; clear hk k
 refine yK ?_
 refine yY (σ := Nat) (fun i => i ≤ l.length) (fun (i : Nat) => ⟨[(1, (.fn F [])), (6, (.own 0)), (7, (.p (u32V (Pl.allF f (l.take i))))), (13, (.p (words c l))), (14, (.p (iV l.length))), (15, (.p (iV (i : Int))))], [(0, (.row 1 (lift ((Pl.fillL l.length (Pl.upto 0 ((i : Nat) : Int)) (fun j => Pl.allF f (l.take j))).map fun x => [u32V x]))))], 1⟩) (fun i => l.length - i) 0 ?_ ?_ fun i hi => ?_
 ·exact Nat.zero_le _
 ·exact le_of [(0, _)] (by rfl) (by rfl) ⟨⟨_, rfl, .fn rfl LeRow.nil.2⟩, ⟨_, rfl, .own rfl⟩, ⟨_, rfl, .p (.of_eq (by first | rfl | (rw [Pl.allF_take f l i (by omega)]; done) | trace_state))⟩, ⟨_, rfl, .p (.of_eq (by first | rfl | (simp only [PV.lit.injEq, Value.int.injEq, true_and]; omega) | (simp; done) | (simp; omega)))⟩, ⟨_, rfl, .p (.of_eq (by first | rfl | (simp only [PV.lit.injEq, Value.int.injEq, true_and]; omega) | (simp; done) | (simp; omega)))⟩, ⟨_, rfl, .p (.of_eq (by first | rfl | (simp only [PV.lit.injEq, Value.int.injEq, true_and]; omega) | (simp; done) | (simp; omega)))⟩, trivial⟩ ⟨⟨_, rfl, _, rfl, .liftE (by first | (rw [Pl.upto_nil (by simp), Pl.fillL_nil, List.map_replicate]; done) | (rw [← Pl.upto_snoc' i, ← Pl.fillL_set (by omega) (x := Pl.allF f (l.take i)) rfl, List.map_set]; rfl) | trace_state)⟩, trivial⟩
 refine zW (zV [0, 1, 4, 5, 6, 7, 13, 14, 15]) ?_
 simp only [kp, zJ, simprocAttr]
 refine zK [] (by rw [hC]; rfl) fun k hk => ?_
 simp (maxSteps := 9^9) (disch := (try simp only [lens]); omega) only [zJ, sm, ↓amb, zQ, simprocAttr, hen, dx]
 repeat refine ⟨by first | omega | (simp; done) | (unfold maxLen; omega) | (simp [maxLen]; omega) | assumption, ?_⟩
 refine hk _ ?_; clear hk k
 refine zY fun k3 h3 => ?_
 refine zX rfl (fun hb => ?_) (fun hb => ?_)
 ·try simp only [hbx] at hb
  refine yJ ?_
  refine h3 _ ?_; clear h3 k3
  refine zY fun k4 h4 => ?_
  refine yK ?_
  refine zW (zV [0, 1, 4, 5, 6, 7, 13, 14, 15]) ?_
  simp only [kp, zJ, simprocAttr]
  refine zK [] (by rw [hC]; rfl) fun k hk => ?_
  simp (maxSteps := 9^9) (disch := (try simp only [lens]); omega) only [zJ, sm, ↓amb, zQ, simprocAttr, el63, sz71, hen, dx]
  repeat refine ⟨by first | omega | (simp; done) | (unfold maxLen; omega) | (simp [maxLen]; omega) | assumption, ?_⟩
  refine hk _ ?_; clear hk k
  refine zW (zV [0, 1, 4, 5, 6, 7, 8, 9, 13, 14, 15]) ?_
  simp only [kp, zJ, simprocAttr]
  have hfl := Pl.fillL_len l.length (Pl.upto 0 ((i : Nat) : Int)) (fun j => Pl.allF f (l.take j))
  refine zK [] (by rw [hC]; rfl) fun k hk => ?_
  simp (maxSteps := 9^9) (disch := (try simp only [lens]); omega) only [zJ, sm, ↓amb, zQ, simprocAttr, el63, sz71, hen, dx]
  repeat refine ⟨by first | omega | (simp; done) | (unfold maxLen; omega) | (simp [maxLen]; omega) | assumption, ?_⟩
  refine hk _ ?_; clear hk k
  have hw1 := hl _ (Pl.getD_mem l i 0 (by omega))
  have hw2 : Pl.W32 (Pl.allF f (l.take i)) := Pl.allF_w hf (Pl.take_w hl)
  refine yZ [] (by rw [hC]; rfl) fun k hk => ?_
  simp (maxSteps := 9^9) (disch := (try simp only [lens]); omega) only [zJ, sm, ↓amb, zQ, simprocAttr, hen, dx]
  repeat refine ⟨by first | omega | (simp; done) | (unfold maxLen; omega) | (simp [maxLen]; omega) | assumption, ?_⟩
  refine yW (hF _ _ hw2 hw1) rfl ?_
  simp (maxSteps := 9^9) (disch := (try simp only [lens]); omega) only [zJ, sm, ↓amb, zQ, simprocAttr, hen, dx]
  repeat refine ⟨by first | omega | (simp; done) | (unfold maxLen; omega) | (simp [maxLen]; omega) | assumption, ?_⟩
  refine hk _ ?_; clear hk k
  refine h4 _ ?_; clear h4 k4
  refine yZ [] (by rw [hC]; rfl) fun k hk => ?_
  simp (maxSteps := 9^9) (disch := (try simp only [lens]); omega) only [zJ, sm, ↓amb, zQ, simprocAttr, hen, dx]
  repeat refine ⟨by first | omega | (simp; done) | (unfold maxLen; omega) | (simp [maxLen]; omega) | assumption, ?_⟩
  refine hk _ ?_; clear hk k
  refine ⟨i + 1, by omega, le_of [(0, _)] (by rfl) (by rfl) ⟨⟨_, rfl, .fn rfl LeRow.nil.2⟩, ⟨_, rfl, .own rfl⟩, ⟨_, rfl, .p (.of_eq (by first | rfl | (rw [Pl.allF_take f l i (by omega)]; done) | trace_state))⟩, ⟨_, rfl, .p (.of_eq (by first | rfl | (simp only [PV.lit.injEq, Value.int.injEq, true_and]; omega) | (simp; done) | (simp; omega)))⟩, ⟨_, rfl, .p (.of_eq (by first | rfl | (simp only [PV.lit.injEq, Value.int.injEq, true_and]; omega) | (simp; done) | (simp; omega)))⟩, ⟨_, rfl, .p (.of_eq (by first | rfl | (simp only [PV.lit.injEq, Value.int.injEq, true_and]; omega) | (simp; done) | (simp; omega)))⟩, trivial⟩ ⟨⟨_, rfl, _, rfl, .liftE (by first | (rw [Pl.upto_nil (by simp), Pl.fillL_nil, List.map_replicate]; done) | (rw [← Pl.upto_snoc' i, ← Pl.fillL_set (by omega) (x := Pl.allF f (l.take i)) rfl, List.map_set]; rfl) | trace_state)⟩, trivial⟩, by omega⟩
 ·try simp only [hbx] at hb
  refine yX ((if_pos rfl).mpr ?_)
  refine h1 _ ?_; clear h3 k3; clear h1 k1
  refine zW (zV [6, 7]) ?_
  simp only [kp, zJ, simprocAttr]
  have htk : l.take i = l := List.take_of_length_le (by omega)
  rw [htk, Pl.fill_upto (fun j => Pl.allF f (l.take j)) (show l.length ≤ i by omega)]
  refine zK [] (by rw [hC]; rfl) fun k hk => ?_
  simp (maxSteps := 9^9) (disch := (try simp only [lens]); omega) only [zJ, sm, ↓amb, zQ, simprocAttr, hen, dx]
  repeat refine ⟨by first | omega | (simp; done) | (unfold maxLen; omega) | (simp [maxLen]; omega) | assumption, ?_⟩
  refine hk _ ?_; clear hk k
  refine yQ ?_
  refine reth2 rfl rfl rfl ?_
  exact le_of [] (by rfl) (by rfl) ⟨⟨_, rfl, leTup (LeRow.cons (.frz rfl (by rfl)) (LeRow.cons (.p (.refl _)) .nil))⟩, trivial⟩ trivial
end Go.Proofs.Ytjkkjiaeeobnkaa
end
section
namespace Go.Am
theorem ret4 {P : Program} {s : LS} {fn : Func} {t u v w : Nat} {x y z a : AV} {r q p o : PV} (hf : fn.results = #[.tmp t, .tmp u, .tmp v, .tmp w]) (h : lkp s.sl t = some x) (h2 : lkp s.sl u = some y) (h3 : lkp s.sl v = some z) (h4 : lkp s.sl w = some a)
    (hr : ResA s.hp x r) (hr2 : ResA s.hp y q) (hr3 : ResA s.hp z p) (hr4 : ResA s.hp a o) : retK P fn (.tup [r, q, p, o]) .ret s := by
  show resR P s fn.results.toList _
  rw [hf]; exact ⟨_, rfl, ⟨x, h, hr⟩, ⟨y, h2, hr2⟩, ⟨z, h3, hr3⟩, ⟨a, h4, hr4⟩, trivial⟩
theorem reth4 {P : Program} {s : LS} {fn : Func} {hp' : List (Nat × Blk)} {t u x w : Nat} {r0 q0 z0 w0 r : AV} (hf : fn.results = #[.tmp t, .tmp u, .tmp x, .tmp w]) (h : lkp s.sl t = some r0) (h2 : lkp s.sl u = some q0) (h3 : lkp s.sl x = some z0) (h4 : lkp s.sl w = some w0) (hle : LE ⟨[(0, .tup [r0, q0, z0, w0])], s.hp, s.nx⟩ ⟨[(0, r)], hp', 1⟩) : retH P fn r hp' .ret s := by
  refine ⟨_, ?_, hle⟩
  rw [hf]; exact ⟨_, rfl, h, h2, h3, h4, trivial⟩
end Go.Am
end
section
set_option linter.unusedSimpArgs false
set_option linter.unusedVariables false
set_option maxRecDepth 100000
namespace Go.Proofs.Ytjkkjiaeeobnkaa
open Go.Am Go.Proofs
theorem en41 : enters Try.prog 41 = true := by kernel_rfl
theorem en77 : enters Try.prog 77 = true := by kernel_rfl
theorem en78 : enters Try.prog 78 = true := by kernel_rfl
theorem en97 : enters Try.prog 97 = true := by kernel_rfl
theorem en98 : enters Try.prog 98 = true := by kernel_rfl
set_option maxHeartbeats 4000000 in
theorem c_scan_phases (c d : Bool) (l : List Int) (b : Int) (p : Pl.Plan) (hl : ∀ x, x ∈ l → Pl.W32 x) (F : FuncId) (hen : enters Try.prog F = true) (f : Int → Int → Int) (hf : Pl.Rule f) (hF : ∀ a b : Int, Pl.W32 a → Pl.W32 b → PCall Try.prog F [u32V a, u32V b] (u32V (f a b))) : HCall Try.prog 77 [.p (words c l), .p (iV b), .p (.agg (planC d p)), .fn F []] [] (.tup [.p (words false (Pl.scL f l b p)), .p (u32V (Pl.scT f l b p)), .p (iV (Pl.scS l.length b p)), .p (iV (Pl.scE l.length b p))]) [] := by
 refine xJ Try.func77 rfl (by simp [Try.ntmps77]) fun C hC => ?_
 refine zW (zV [0, 1, 2, 3]) ?_
 simp only [kp, zJ, simprocAttr]
 refine zK [] (by rw [hC]; rfl) fun k hk => ?_
 simp (maxSteps := 9^9) (disch := (try simp only [lens]); omega) only [zJ, sm, ↓amb, zQ, simprocAttr, hen, dx]
 repeat refine ⟨by first | omega | (simp; done) | (unfold maxLen; omega) | (simp [maxLen]; omega) | assumption, ?_⟩
 refine hk _ ?_; clear hk k
 refine zY fun k1 h1 => ?_
 refine xQ [] 31 (decide (¬ ((1 ≤ b ∧ b ≤ 100) ∧ l.length ≤ 1000))) [0, 1, 3, 6, 8, 9, 10, 11] (by rw [hC]; rfl) (fun gd hgd k hk => ?_) ?_
 ·have g3 : gd 3 = some 27 := by rw [hgd]; rfl
  clear hgd
  simp (maxSteps := 9^9) (disch := (try simp only [lens]); omega) only [zJ, sm, ↓amb, zQ, simprocAttr, en90, el63, zZ, g3, hen, dx]
  repeat' first | refine hk _ _ rfl rfl rfl rfl ?_ | (refine gsplit (fun hg => ?_) (fun hg => ?_) <;> (try simp only [hbx] at hg) <;> simp (maxSteps := 9^9) (disch := (try simp only [lens]); omega) only [zJ, sm, ↓amb, zQ, simprocAttr, en90, el63, zZ, g3, hen, dx]) | apply And.intro | (refine yW (c_scan_sized _) rfl ?_; (try simp (maxSteps := 9^9) (disch := (try simp only [lens]); omega) only [zJ, sm, ↓amb, zQ, simprocAttr, en90, el63, zZ, g3, hen, dx])) | fail
  all_goals first | rfl | omega | exact (decide_eq_true (by omega)).symm | exact (decide_eq_false (by omega)).symm | exact decide_eq_decide.mpr (by omega) | (refine Bool.eq_iff_iff.mpr ?_; simp only [beq_iff_eq, bne_iff_ne, ne_eq, decide_eq_true_eq]; omega) | (refine Bool.eq_iff_iff.mpr ?_; simp only [Bool.not_eq_true', Bool.not_eq_false', decide_eq_false_iff_not, decide_eq_true_eq, beq_iff_eq, bne_iff_ne, ne_eq]; omega) | assumption | (simp; done) | (simp [maxLen]; omega) | skip
 simp only [kp, zJ, simprocAttr, List.length_cons, List.length_nil]
 refine zX rfl (fun hb => ?_) (fun hb => ?_)
 ·try simp only [hbx] at hb
  refine zW (zV []) ?_
  simp only [kp, zJ, simprocAttr]
  refine zK [] (by rw [hC]; rfl) fun k hk => ?_
  simp (maxSteps := 9^9) (disch := (try simp only [lens]); omega) only [zJ, sm, ↓amb, zQ, simprocAttr, hen, dx]
  repeat refine ⟨by first | omega | (simp; done) | (unfold maxLen; omega) | (simp [maxLen]; omega) | assumption, ?_⟩
  refine hk _ ?_; clear hk k
  refine yQ ?_
  have hse : ¬ Pl.scE l.length b p = 0 := by unfold Pl.scE; rw [if_neg (by first | exact hb | simpa using hb)]; decide
  have hs1 : Pl.scE l.length b p = 1 := (Pl.scE_01 _ _ _).resolve_left hse
  rw [(Pl.sc_no hse).1, (Pl.sc_no (f := f) hse).2.1, (Pl.sc_no (f := f) hse).2.2, hs1]
  refine reth4 rfl rfl rfl rfl rfl ?_
  exact le_of [] (by rfl) (by rfl) ⟨⟨_, rfl, leTup (LeRow.cons (.p (LeP.seq _ _)) (LeRow.cons (.p (.refl _)) (LeRow.cons (.p (.refl _)) (LeRow.cons (.p (.refl _)) .nil))))⟩, trivial⟩ trivial
 ·try simp only [hbx] at hb
  refine yJ ?_
  refine h1 _ ?_; clear h1 k1
  refine zW (zV [0, 1, 3, 6]) ?_
  simp only [kp, zJ, simprocAttr]
  have hq : (1 ≤ b ∧ b ≤ 100) ∧ l.length ≤ 1000 := by first | exact hb | exact Decidable.not_not.1 hb
  obtain ⟨B, rfl⟩ := Int.eq_ofNat_of_zero_le (show 0 ≤ b by omega)
  have hB : 1 ≤ B ∧ B ≤ 100 := by omega
  have hn := hq.2
  refine zK [] (by rw [hC]; rfl) fun k hk => ?_
  simp (maxSteps := 9^9) (disch := (try simp only [lens]); omega) only [zJ, sm, ↓amb, zQ, simprocAttr, el63, en67, hen, dx]
  repeat refine ⟨by first | omega | (simp; done) | (unfold maxLen; omega) | (simp [maxLen]; omega) | assumption, ?_⟩
  refine yW (c_scan_Blocks _ _) rfl ?_
  simp (maxSteps := 9^9) (disch := (try simp only [lens]); omega) only [zJ, sm, ↓amb, zQ, simprocAttr, el63, en67, hen, dx]
  repeat refine ⟨by first | omega | (simp; done) | (unfold maxLen; omega) | (simp [maxLen]; omega) | assumption, ?_⟩
  refine hk _ ?_; clear hk k
  refine zW (zV [0, 1, 3, 6, 12]) ?_
  simp only [kp, zJ, simprocAttr]
  rw [Pl.blk_nat hB hn]
  have hNu := Pl.blkN_up hB hn
  refine zK [] (by rw [hC]; rfl) fun k hk => ?_
  simp (maxSteps := 9^9) (disch := (try simp only [lens]); omega) only [zJ, sm, ↓amb, zQ, simprocAttr, sz51, en41, hen, dx]
  repeat refine ⟨by first | omega | (simp; done) | (unfold maxLen; omega) | (simp [maxLen]; omega) | assumption, ?_⟩
  refine yW (c_fill_Order _ _ p) rfl ?_
  simp (maxSteps := 9^9) (disch := (try simp only [lens]); omega) only [zJ, sm, ↓amb, zQ, simprocAttr, sz51, en41, hen, dx]
  repeat refine ⟨by first | omega | (simp; done) | (unfold maxLen; omega) | (simp [maxLen]; omega) | assumption, ?_⟩
  refine hk _ ?_; clear hk k
  refine zY fun k2 h2 => ?_
  refine zW (zV [0, 1, 3, 8, 9, 10, 11, 12, 13]) ?_
  simp only [kp, zJ, simprocAttr]
  refine zK [] (by rw [hC]; rfl) fun k hk => ?_
  simp (maxSteps := 9^9) (disch := (try simp only [lens]); omega) only [zJ, sm, ↓amb, zQ, simprocAttr, hen, dx]
  repeat refine ⟨by first | omega | (simp; done) | (unfold maxLen; omega) | (simp [maxLen]; omega) | assumption, ?_⟩
  refine hk _ ?_; clear hk k
  refine zX rfl (fun hb => ?_) (fun hb => ?_)
  ·try simp only [hbx] at hb
   refine zW (zV [11]) ?_
   simp only [kp, zJ, simprocAttr]
   have hse : ¬ Pl.scE l.length B p = 0 := by unfold Pl.scE; rw [if_pos hq, Pl.blk_nat hB hn]; exact hb
   refine zK [] (by rw [hC]; rfl) fun k hk => ?_
   simp (maxSteps := 9^9) (disch := (try simp only [lens]); omega) only [zJ, sm, ↓amb, zQ, simprocAttr, hen, dx]
   repeat refine ⟨by first | omega | (simp; done) | (unfold maxLen; omega) | (simp [maxLen]; omega) | assumption, ?_⟩
   refine hk _ ?_; clear hk k
   refine yQ ?_
   have hs1 : Pl.scE l.length B p = Pl.ordE (Pl.blkN l.length B : Nat) p := by unfold Pl.scE; rw [if_pos hq, Pl.blk_nat hB hn]
   rw [(Pl.sc_no hse).1, (Pl.sc_no (f := f) hse).2.1, (Pl.sc_no (f := f) hse).2.2, hs1]
   refine reth4 rfl rfl rfl rfl rfl ?_
   exact le_of [] (by rfl) (by rfl) ⟨⟨_, rfl, leTup (LeRow.cons (.p (LeP.seq _ _)) (LeRow.cons (.p (.refl _)) (LeRow.cons (.p (.refl _)) (LeRow.cons (.p (.refl _)) .nil))))⟩, trivial⟩ trivial
  ·try simp only [hbx] at hb
   refine yJ ?_
   refine h2 _ ?_; clear h2 k2
   refine zW (zV [0, 1, 3, 10, 12, 13]) ?_
   simp only [kp, zJ, simprocAttr]
   have hse : Pl.scE l.length B p = 0 := by unfold Pl.scE; rw [if_pos hq, Pl.blk_nat hB hn]; exact hb
   have hoo := Pl.ordE_iff.1 hb
   have hU : ∀ u, u ∈ (Pl.ordU (Pl.blkN l.length B : Nat) p) → 0 ≤ u ∧ u < ((Pl.blkN l.length B) : Nat) := fun u h => ((Pl.ordU_ok hoo).2.1 u).1 h
   have hUl := (Pl.ordU_ok hoo).2.2
   have hos := (Pl.ord_steps hoo).2.2.2.2.2
   have hos2 : 0 ≤ Pl.ordS (Pl.blkN l.length B : Nat) p := by have := Pl.ord_steps hoo; omega
   refine zK [] (by rw [hC]; rfl) fun k hk => ?_
   simp (maxSteps := 9^9) (disch := (try simp only [lens]); omega) only [zJ, sm, ↓amb, zQ, simprocAttr, el63, by71, vr71, hen, dx]
   repeat refine ⟨by first | omega | (simp; done) | (unfold maxLen; omega) | (simp [maxLen]; omega) | assumption, ?_⟩
   refine hk _ ?_; clear hk k
   refine zY fun k3 h3 => ?_
   refine zW (zV [0, 1, 3, 8, 9, 10, 11, 13, 14]) ?_
   simp only [kp, zJ, simprocAttr]
   refine zK [] (by rw [hC]; rfl) fun k hk => ?_
   simp (maxSteps := 9^9) (disch := (try simp only [lens]); omega) only [zJ, sm, ↓amb, zQ, simprocAttr, el67, hen, dx]
   repeat refine ⟨by first | omega | (simp; done) | (unfold maxLen; omega) | (simp [maxLen]; omega) | assumption, ?_⟩
   refine hk _ ?_; clear hk k
   refine yK ?_
   refine yY (σ := Nat) (fun z => z ≤ (Pl.ordU (Pl.blkN l.length B : Nat) p).length) (fun (z : Nat) => ⟨[(0, (.p (words c l))), (1, (.p (iV B))), (3, (.fn F [])), (10, (.p (iV (Pl.ordS (Pl.blkN l.length B) p)))), (13, (.p (ints false (Pl.ordU (Pl.blkN l.length B : Nat) p)))), (14, (.own 0)), (48, (.p (ints false (Pl.ordU (Pl.blkN l.length B : Nat) p)))), (49, (.p (iV (Pl.ordU (Pl.blkN l.length B : Nat) p).length))), (50, (.p (iV (z : Int))))], [(0, (.row 1 (lift ((Pl.fillL (Pl.blkN l.length B) ((Pl.ordU (Pl.blkN l.length B : Nat) p).take z) (fun j => Pl.allF f (Pl.part l B j))).map fun x => [u32V x]))))], 1⟩) (fun z => (Pl.ordU (Pl.blkN l.length B : Nat) p).length - z) 0 ?_ ?_ fun z hz => ?_
   ·exact Nat.zero_le _
   ·exact le_of [(0, _)] (by rfl) (by rfl) ⟨⟨_, rfl, .p (.of_eq (by first | rfl | (simp only [PV.lit.injEq, Value.int.injEq, true_and]; omega) | (simp; done) | (simp; omega)))⟩, ⟨_, rfl, .p (.of_eq (by first | rfl | (simp only [PV.lit.injEq, Value.int.injEq, true_and]; omega) | (simp; done) | (simp; omega)))⟩, ⟨_, rfl, .fn rfl LeRow.nil.2⟩, ⟨_, rfl, .p (.of_eq (by first | rfl | (simp only [PV.lit.injEq, Value.int.injEq, true_and]; omega) | (simp; done) | (simp; omega)))⟩, ⟨_, rfl, .p (.of_eq (by first | rfl | (simp only [PV.lit.injEq, Value.int.injEq, true_and]; omega) | (simp; done) | (simp; omega)))⟩, ⟨_, rfl, .own rfl⟩, ⟨_, rfl, .p (.of_eq (by first | rfl | (simp only [PV.lit.injEq, Value.int.injEq, true_and]; omega) | (simp; done) | (simp; omega)))⟩, ⟨_, rfl, .p (.of_eq (by first | rfl | (simp only [PV.lit.injEq, Value.int.injEq, true_and]; omega) | (simp; done) | (simp; omega)))⟩, ⟨_, rfl, .p (.of_eq (by first | rfl | (simp only [PV.lit.injEq, Value.int.injEq, true_and]; omega) | (simp; done) | (simp; omega)))⟩, trivial⟩ ⟨⟨_, rfl, _, rfl, .liftE (by first | (rw [List.take_zero, Pl.fillL_nil, List.map_replicate]; done) | (rw [Pl.take_snoc' (Pl.ordU (Pl.blkN l.length B : Nat) p) z (by omega), hu, ← Pl.fillL_set (i := (u : Int)) (Int.natCast_nonneg u) (x := Pl.allF f (Pl.part l B u)) rfl, Int.toNat_natCast, List.map_set]; first | done | rfl) | trace_state)⟩, trivial⟩
   refine zW (zV [0, 1, 3, 8, 9, 10, 11, 13, 14, 48, 49, 50]) ?_
   simp only [kp, zJ, simprocAttr]
   refine zK [] (by rw [hC]; rfl) fun k hk => ?_
   simp (maxSteps := 9^9) (disch := (try simp only [lens]); omega) only [zJ, sm, ↓amb, zQ, simprocAttr, hen, dx]
   repeat refine ⟨by first | omega | (simp; done) | (unfold maxLen; omega) | (simp [maxLen]; omega) | assumption, ?_⟩
   refine hk _ ?_; clear hk k
   refine zY fun k5 h5 => ?_
   refine zX rfl (fun hb => ?_) (fun hb => ?_)
   ·try simp only [hbx] at hb
    refine yJ ?_
    refine h5 _ ?_; clear h5 k5
    refine zY fun k6 h6 => ?_
    refine yK ?_
    refine zW (zV [0, 1, 3, 8, 9, 10, 11, 13, 14, 48, 49, 50]) ?_
    simp only [kp, zJ, simprocAttr]
    refine zK [] (by rw [hC]; rfl) fun k hk => ?_
    simp (maxSteps := 9^9) (disch := (try simp only [lens]); omega) only [zJ, sm, ↓amb, zQ, simprocAttr, el67, sz3, hen, dx]
    repeat refine ⟨by first | omega | (simp; done) | (unfold maxLen; omega) | (simp [maxLen]; omega) | assumption, ?_⟩
    refine hk _ ?_; clear hk k
    obtain ⟨u, hu⟩ := Int.eq_ofNat_of_zero_le (hU ((Pl.ordU (Pl.blkN l.length B : Nat) p).getD z 0) (Pl.getD_mem (Pl.ordU (Pl.blkN l.length B : Nat) p) z 0 (by omega))).1
    have hu2 := hU ((Pl.ordU (Pl.blkN l.length B : Nat) p).getD z 0) (Pl.getD_mem (Pl.ordU (Pl.blkN l.length B : Nat) p) z 0 (by omega))
    rw [hu] at hu2
    obtain ⟨u1, u2, u3⟩ := Pl.blk_at hB hn (show u < (Pl.blkN l.length B) by omega)
    rw [hu]
    have hfl := Pl.fillL_len (Pl.blkN l.length B) ((Pl.ordU (Pl.blkN l.length B : Nat) p).take z) (fun j => Pl.allF f (Pl.part l B j))
    refine yZ [] (by rw [hC]; rfl) fun k hk => ?_
    simp (maxSteps := 9^9) (disch := (try simp only [lens]); omega) only [zJ, sm, ↓amb, zQ, simprocAttr, en98, en97, el63, sz71, hen, dx]
    repeat refine ⟨by first | omega | (simp; done) | (unfold maxLen; omega) | (simp [maxLen]; omega) | assumption, ?_⟩
    refine yW (c_scan_part c l u B (by omega) (by omega) (by omega) hn) rfl ?_
    simp (maxSteps := 9^9) (disch := (try simp only [lens]); omega) only [zJ, sm, ↓amb, zQ, simprocAttr, en98, en97, el63, sz71, hen, dx]
    repeat refine ⟨by first | omega | (simp; done) | (unfold maxLen; omega) | (simp [maxLen]; omega) | assumption, ?_⟩
    refine callK_h (c_scan_ahead false (Pl.part l B u) (Pl.part_w hl) (by rw [Pl.part_len]; omega) F hen f hf hF) [] [] (by first | rfl | (simp only [hm]; done)) (by first | rfl | (simp [namesOk, lkp]; done)) ?_ ?_ ?_ ?_ ?_ ?_ ?_
    (iterate 6 (focus (first | trivial | (intro n hn; cases hn; done) | (simp (maxSteps := 9^9) (disch := (try simp only [lens]); omega) only [zJ, sm, ↓amb, zQ, simprocAttr, en98, en97, el63, sz71, hen, dx, hmx, List.filter_cons, Nat.reduceBNe, imp_self, implies_true]; done))))
    simp (maxSteps := 9^9) (disch := (try simp only [lens]); omega) only [zJ, sm, ↓amb, zQ, simprocAttr, en98, en97, el63, sz71, hen, dx, hm, List.filter_cons, List.filter_nil, Nat.reduceBNe, Option.map_none]
    repeat refine ⟨by first | omega | (simp; done) | (unfold maxLen; omega) | (simp [maxLen]; omega) | assumption, ?_⟩
    refine hk _ ?_; clear hk k
    refine h6 _ ?_; clear h6 k6
    refine yZ [] (by rw [hC]; rfl) fun k hk => ?_
    simp (maxSteps := 9^9) (disch := (try simp only [lens]); omega) only [zJ, sm, ↓amb, zQ, simprocAttr, hen, dx]
    repeat refine ⟨by first | omega | (simp; done) | (unfold maxLen; omega) | (simp [maxLen]; omega) | assumption, ?_⟩
    refine hk _ ?_; clear hk k
    refine ⟨z + 1, by omega, le_of [(0, _)] (by rfl) (by rfl) ⟨⟨_, rfl, .p (.of_eq (by first | rfl | (simp only [PV.lit.injEq, Value.int.injEq, true_and]; omega) | (simp; done) | (simp; omega)))⟩, ⟨_, rfl, .p (.of_eq (by first | rfl | (simp only [PV.lit.injEq, Value.int.injEq, true_and]; omega) | (simp; done) | (simp; omega)))⟩, ⟨_, rfl, .fn rfl LeRow.nil.2⟩, ⟨_, rfl, .p (.of_eq (by first | rfl | (simp only [PV.lit.injEq, Value.int.injEq, true_and]; omega) | (simp; done) | (simp; omega)))⟩, ⟨_, rfl, .p (.of_eq (by first | rfl | (simp only [PV.lit.injEq, Value.int.injEq, true_and]; omega) | (simp; done) | (simp; omega)))⟩, ⟨_, rfl, .own rfl⟩, ⟨_, rfl, .p (.of_eq (by first | rfl | (simp only [PV.lit.injEq, Value.int.injEq, true_and]; omega) | (simp; done) | (simp; omega)))⟩, ⟨_, rfl, .p (.of_eq (by first | rfl | (simp only [PV.lit.injEq, Value.int.injEq, true_and]; omega) | (simp; done) | (simp; omega)))⟩, ⟨_, rfl, .p (.of_eq (by first | rfl | (simp only [PV.lit.injEq, Value.int.injEq, true_and]; omega) | (simp; done) | (simp; omega)))⟩, trivial⟩ ⟨⟨_, rfl, _, rfl, .liftE (by first | (rw [List.take_zero, Pl.fillL_nil, List.map_replicate]; done) | (rw [Pl.take_snoc' (Pl.ordU (Pl.blkN l.length B : Nat) p) z (by omega), hu, ← Pl.fillL_set (i := (u : Int)) (Int.natCast_nonneg u) (x := Pl.allF f (Pl.part l B u)) rfl, Int.toNat_natCast, List.map_set]; first | done | rfl) | trace_state)⟩, trivial⟩, by omega⟩
   ·try simp only [hbx] at hb
    refine yX ((if_pos rfl).mpr ?_)
    refine h3 _ ?_; clear h5 k5; clear h3 k3
    refine zW (zV [0, 1, 3, 10, 13, 14]) ?_
    simp only [kp, zJ, simprocAttr]
    have htk : (Pl.ordU (Pl.blkN l.length B : Nat) p).take z = (Pl.ordU (Pl.blkN l.length B : Nat) p) := List.take_of_length_le (by omega)
    refine zW (show LE _ (⟨[(0, (.p (words c l))), (1, (.p (iV B))), (3, (.fn F [])), (10, (.p (iV (Pl.ordS (Pl.blkN l.length B) p)))), (13, (.p (ints false (Pl.ordU (Pl.blkN l.length B : Nat) p)))), (14, (.p (words false (Pl.totF f l B (Pl.blkN l.length B)))))], [], 1⟩ : LS) from le_of [] (by rfl) (by rfl) ⟨⟨_, rfl, .p (.of_eq (by first | rfl | (simp only [PV.lit.injEq, Value.int.injEq, true_and]; omega) | (simp; done) | (simp; omega)))⟩, ⟨_, rfl, .p (.of_eq (by first | rfl | (simp only [PV.lit.injEq, Value.int.injEq, true_and]; omega) | (simp; done) | (simp; omega)))⟩, ⟨_, rfl, .fn rfl LeRow.nil.2⟩, ⟨_, rfl, .p (.of_eq (by first | rfl | (simp only [PV.lit.injEq, Value.int.injEq, true_and]; omega) | (simp; done) | (simp; omega)))⟩, ⟨_, rfl, .p (.of_eq (by first | rfl | (simp only [PV.lit.injEq, Value.int.injEq, true_and]; omega) | (simp; done) | (simp; omega)))⟩, ⟨_, rfl, .frz (es := (Pl.totF f l B (Pl.blkN l.length B)).map fun x => [u32V x]) (by rw [htk, Pl.fill_ord hoo]; rfl) (by rfl)⟩, trivial⟩ trivial) ?_
    refine zK [] (by rw [hC]; rfl) fun k hk => ?_
    simp (maxSteps := 9^9) (disch := (try simp only [lens]); omega) only [zJ, sm, ↓amb, zQ, simprocAttr, en97, hen, dx]
    repeat refine ⟨by first | omega | (simp; done) | (unfold maxLen; omega) | (simp [maxLen]; omega) | assumption, ?_⟩
    refine callK_h (c_scan_ahead false (Pl.totF f l B (Pl.blkN l.length B)) (Pl.totF_w hf hl B (Pl.blkN l.length B)) (by rw [Pl.totF_len]; omega) F hen f hf hF) [] [] (by first | rfl | (simp only [hm]; done)) (by first | rfl | (simp [namesOk, lkp]; done)) ?_ ?_ ?_ ?_ ?_ ?_ ?_
    (iterate 6 (focus (first | trivial | (intro n hn; cases hn; done) | (simp (maxSteps := 9^9) (disch := (try simp only [lens]); omega) only [zJ, sm, ↓amb, zQ, simprocAttr, en97, hen, dx, hmx, List.filter_cons, Nat.reduceBNe, imp_self, implies_true]; done))))
    simp (maxSteps := 9^9) (disch := (try simp only [lens]); omega) only [zJ, sm, ↓amb, zQ, simprocAttr, en97, hen, dx, hm, List.filter_cons, List.filter_nil, Nat.reduceBNe, Option.map_none]
    repeat refine ⟨by first | omega | (simp; done) | (unfold maxLen; omega) | (simp [maxLen]; omega) | assumption, ?_⟩
    refine hk _ ?_; clear hk k
    refine zW (zV [0, 1, 3, 9, 10, 13, 17]) ?_
    simp only [kp, zJ, simprocAttr]
    refine zK [] (by rw [hC]; rfl) fun k hk => ?_
    simp (maxSteps := 9^9) (disch := (try simp only [lens]); omega) only [zJ, sm, ↓amb, zQ, simprocAttr, el63, by71, vr71, hen, dx]
    repeat refine ⟨by first | omega | (simp; done) | (unfold maxLen; omega) | (simp [maxLen]; omega) | assumption, ?_⟩
    refine hk _ ?_; clear hk k
    refine zY fun k7 h7 => ?_
    refine zW (zV [0, 1, 3, 8, 9, 10, 11, 13, 17]) ?_
    simp only [kp, zJ, simprocAttr]
    refine zK [] (by rw [hC]; rfl) fun k hk => ?_
    simp (maxSteps := 9^9) (disch := (try simp only [lens]); omega) only [zJ, sm, ↓amb, zQ, simprocAttr, el67, hen, dx]
    repeat refine ⟨by first | omega | (simp; done) | (unfold maxLen; omega) | (simp [maxLen]; omega) | assumption, ?_⟩
    refine hk _ ?_; clear hk k
    refine yK ?_
    refine yY (σ := Nat) (fun z => z ≤ (Pl.ordU (Pl.blkN l.length B : Nat) p).length) (fun (z : Nat) => ⟨[(0, (.p (words c l))), (1, (.p (iV B))), (3, (.fn F [])), (8, (.own 0)), (9, (.p (u32V (Pl.allF f l)))), (10, (.p (iV (Pl.ordS (Pl.blkN l.length B) p)))), (17, (.p (words false (Pl.aheadF f (Pl.totF f l B (Pl.blkN l.length B)))))), (76, (.p (ints false (Pl.ordU (Pl.blkN l.length B : Nat) p)))), (77, (.p (iV (Pl.ordU (Pl.blkN l.length B : Nat) p).length))), (78, (.p (iV (z : Int))))], [(0, (.row 1 (lift ((Pl.fillL l.length (((Pl.ordU (Pl.blkN l.length B : Nat) p).take z).flatMap (Pl.blockPl l.length B)) (fun j => Pl.allF f (l.take j))).map fun x => [u32V x]))))], 1⟩) (fun z => (Pl.ordU (Pl.blkN l.length B : Nat) p).length - z) 0 ?_ ?_ fun z hz => ?_
    ·exact Nat.zero_le _
    ·exact le_of [(0, _)] (by rfl) (by rfl) ⟨⟨_, rfl, .p (.of_eq (by first | rfl | (simp only [PV.lit.injEq, Value.int.injEq, true_and]; omega) | (simp; done) | (simp; omega)))⟩, ⟨_, rfl, .p (.of_eq (by first | rfl | (simp only [PV.lit.injEq, Value.int.injEq, true_and]; omega) | (simp; done) | (simp; omega)))⟩, ⟨_, rfl, .fn rfl LeRow.nil.2⟩, ⟨_, rfl, .own rfl⟩, ⟨_, rfl, .p (.of_eq (by first | rfl | rw [Pl.allF_tots hf hl hB.1]))⟩, ⟨_, rfl, .p (.of_eq (by first | rfl | (simp only [PV.lit.injEq, Value.int.injEq, true_and]; omega) | (simp; done) | (simp; omega)))⟩, ⟨_, rfl, .p (.of_eq (by first | rfl | (simp only [PV.lit.injEq, Value.int.injEq, true_and]; omega) | (simp; done) | (simp; omega)))⟩, ⟨_, rfl, .p (.of_eq (by first | rfl | (simp only [PV.lit.injEq, Value.int.injEq, true_and]; omega) | (simp; done) | (simp; omega)))⟩, ⟨_, rfl, .p (.of_eq (by first | rfl | (simp only [PV.lit.injEq, Value.int.injEq, true_and]; omega) | (simp; done) | (simp; omega)))⟩, ⟨_, rfl, .p (.of_eq (by first | rfl | (simp only [PV.lit.injEq, Value.int.injEq, true_and]; omega) | (simp; done) | (simp; omega)))⟩, trivial⟩ ⟨⟨_, rfl, _, rfl, .liftE (by first | (rw [List.take_zero, List.flatMap_nil, Pl.fillL_nil, List.map_replicate]; done) | (rw [Pl.block_snoc (L := (Pl.ordU (Pl.blkN l.length B : Nat) p)) (z := z) (by omega) hu u1, show y = (Pl.part l B u).length by omega]; done) | trace_state)⟩, trivial⟩
    refine zW (zV [0, 1, 3, 8, 9, 10, 11, 17, 76, 77, 78]) ?_
    simp only [kp, zJ, simprocAttr]
    refine zK [] (by rw [hC]; rfl) fun k hk => ?_
    simp (maxSteps := 9^9) (disch := (try simp only [lens]); omega) only [zJ, sm, ↓amb, zQ, simprocAttr, hen, dx]
    repeat refine ⟨by first | omega | (simp; done) | (unfold maxLen; omega) | (simp [maxLen]; omega) | assumption, ?_⟩
    refine hk _ ?_; clear hk k
    refine zY fun k9 h9 => ?_
    refine zX rfl (fun hb => ?_) (fun hb => ?_)
    ·try simp only [hbx] at hb
     refine yJ ?_
     refine h9 _ ?_; clear h9 k9
     refine zY fun k10 h10 => ?_
     refine yK ?_
     refine zW (zV [0, 1, 3, 8, 9, 10, 11, 17, 76, 77, 78]) ?_
     simp only [kp, zJ, simprocAttr]
     refine zK [] (by rw [hC]; rfl) fun k hk => ?_
     simp (maxSteps := 9^9) (disch := (try simp only [lens]); omega) only [zJ, sm, ↓amb, zQ, simprocAttr, el67, sz3, hen, dx]
     repeat refine ⟨by first | omega | (simp; done) | (unfold maxLen; omega) | (simp [maxLen]; omega) | assumption, ?_⟩
     refine hk _ ?_; clear hk k
     refine zW (zV [0, 1, 3, 8, 9, 10, 11, 17, 19, 76, 77, 78]) ?_
     simp only [kp, zJ, simprocAttr]
     obtain ⟨u, hu⟩ := Int.eq_ofNat_of_zero_le (hU ((Pl.ordU (Pl.blkN l.length B : Nat) p).getD z 0) (Pl.getD_mem (Pl.ordU (Pl.blkN l.length B : Nat) p) z 0 (by omega))).1
     have hu2 := hU ((Pl.ordU (Pl.blkN l.length B : Nat) p).getD z 0) (Pl.getD_mem (Pl.ordU (Pl.blkN l.length B : Nat) p) z 0 (by omega))
     rw [hu] at hu2
     obtain ⟨u1, u2, u3⟩ := Pl.blk_at hB hn (show u < (Pl.blkN l.length B) by omega)
     rw [hu]
     refine zK [] (by rw [hC]; rfl) fun k hk => ?_
     simp (maxSteps := 9^9) (disch := (try simp only [lens]); omega) only [zJ, sm, ↓amb, zQ, simprocAttr, en98, en97, hen, dx]
     repeat refine ⟨by first | omega | (simp; done) | (unfold maxLen; omega) | (simp [maxLen]; omega) | assumption, ?_⟩
     refine yW (c_scan_part c l u B (by omega) (by omega) (by omega) hn) rfl ?_
     simp (maxSteps := 9^9) (disch := (try simp only [lens]); omega) only [zJ, sm, ↓amb, zQ, simprocAttr, en98, en97, hen, dx]
     repeat refine ⟨by first | omega | (simp; done) | (unfold maxLen; omega) | (simp [maxLen]; omega) | assumption, ?_⟩
     refine callK_h (c_scan_ahead false (Pl.part l B u) (Pl.part_w hl) (by rw [Pl.part_len]; omega) F hen f hf hF) [] [] (by first | rfl | (simp only [hm]; done)) (by first | rfl | (simp [namesOk, lkp]; done)) ?_ ?_ ?_ ?_ ?_ ?_ ?_
     (iterate 6 (focus (first | trivial | (intro n hn; cases hn; done) | (simp (maxSteps := 9^9) (disch := (try simp only [lens]); omega) only [zJ, sm, ↓amb, zQ, simprocAttr, en98, en97, hen, dx, hmx, List.filter_cons, Nat.reduceBNe, imp_self, implies_true]; done))))
     simp (maxSteps := 9^9) (disch := (try simp only [lens]); omega) only [zJ, sm, ↓amb, zQ, simprocAttr, en98, en97, hen, dx, hm, List.filter_cons, List.filter_nil, Nat.reduceBNe, Option.map_none]
     repeat refine ⟨by first | omega | (simp; done) | (unfold maxLen; omega) | (simp [maxLen]; omega) | assumption, ?_⟩
     refine hk _ ?_; clear hk k
     refine zW (zV [0, 1, 3, 8, 9, 10, 11, 17, 19, 20, 76, 77, 78]) ?_
     simp only [kp, zJ, simprocAttr]
     refine zK [] (by rw [hC]; rfl) fun k hk => ?_
     simp (maxSteps := 9^9) (disch := (try simp only [lens]); omega) only [zJ, sm, ↓amb, zQ, simprocAttr, el63, hen, dx]
     repeat refine ⟨by first | omega | (simp; done) | (unfold maxLen; omega) | (simp [maxLen]; omega) | assumption, ?_⟩
     refine hk _ ?_; clear hk k
     refine yK ?_
     refine yY (σ := Nat) (fun y => y ≤ (Pl.part l B u).length) (fun (y : Nat) => ⟨[(0, (.p (words c l))), (1, (.p (iV B))), (3, (.fn F [])), (8, (.own 0)), (9, (.p (u32V (Pl.allF f l)))), (10, (.p (iV (Pl.ordS (Pl.blkN l.length B) p)))), (17, (.p (words false (Pl.aheadF f (Pl.totF f l B (Pl.blkN l.length B)))))), (19, (.p (iV ((u : Nat) : Int)))), (76, (.p (ints false (Pl.ordU (Pl.blkN l.length B : Nat) p)))), (77, (.p (iV (Pl.ordU (Pl.blkN l.length B : Nat) p).length))), (78, (.p (iV (z : Int)))), (91, (.p (words false (Pl.aheadF f (Pl.part l B u))))), (92, (.p (iV (Pl.part l B u).length))), (93, (.p (iV (y : Int))))], [(0, (.row 1 (lift ((Pl.fillL l.length ((((Pl.ordU (Pl.blkN l.length B : Nat) p).take z).flatMap (Pl.blockPl l.length B)) ++ Pl.upto (((u : Nat) : Int) * B) (((u : Nat) : Int) * B + ((y : Nat) : Int))) (fun j => Pl.allF f (l.take j))).map fun x => [u32V x]))))], 1⟩) (fun y => (Pl.part l B u).length - y) 0 ?_ ?_ fun y hy => ?_
     ·exact Nat.zero_le _
     ·exact le_of [(0, _)] (by rfl) (by rfl) ⟨⟨_, rfl, .p (.of_eq (by first | rfl | (simp only [PV.lit.injEq, Value.int.injEq, true_and]; omega) | (simp; done) | (simp; omega)))⟩, ⟨_, rfl, .p (.of_eq (by first | rfl | (simp only [PV.lit.injEq, Value.int.injEq, true_and]; omega) | (simp; done) | (simp; omega)))⟩, ⟨_, rfl, .fn rfl LeRow.nil.2⟩, ⟨_, rfl, .own rfl⟩, ⟨_, rfl, .p (.of_eq (by first | rfl | (simp only [PV.lit.injEq, Value.int.injEq, true_and]; omega) | (simp; done) | (simp; omega)))⟩, ⟨_, rfl, .p (.of_eq (by first | rfl | (simp only [PV.lit.injEq, Value.int.injEq, true_and]; omega) | (simp; done) | (simp; omega)))⟩, ⟨_, rfl, .p (.of_eq (by first | rfl | (simp only [PV.lit.injEq, Value.int.injEq, true_and]; omega) | (simp; done) | (simp; omega)))⟩, ⟨_, rfl, .p (.of_eq (by first | rfl | (simp only [PV.lit.injEq, Value.int.injEq, true_and]; omega) | (simp; done) | (simp; omega)))⟩, ⟨_, rfl, .p (.of_eq (by first | rfl | (simp only [PV.lit.injEq, Value.int.injEq, true_and]; omega) | (simp; done) | (simp; omega)))⟩, ⟨_, rfl, .p (.of_eq (by first | rfl | (simp only [PV.lit.injEq, Value.int.injEq, true_and]; omega) | (simp; done) | (simp; omega)))⟩, ⟨_, rfl, .p (.of_eq (by first | rfl | (simp only [PV.lit.injEq, Value.int.injEq, true_and]; omega) | (simp; done) | (simp; omega)))⟩, ⟨_, rfl, .p (.of_eq (by first | rfl | (simp only [PV.lit.injEq, Value.int.injEq, true_and]; omega) | (simp; done) | (simp; omega)))⟩, ⟨_, rfl, .p (.of_eq (by first | rfl | rw [Pl.aheadF_len]))⟩, ⟨_, rfl, .p (.of_eq (by first | rfl | (simp only [PV.lit.injEq, Value.int.injEq, true_and]; omega) | (simp; done) | (simp; omega)))⟩, trivial⟩ ⟨⟨_, rfl, _, rfl, .liftE (by first | (rw [Pl.upto_nil (by simp), List.append_nil]; done) | (rw [← Pl.upto_snoc, ← List.append_assoc, ← Pl.fillL_set hnn hpl', List.map_set]; first | done | rfl) | trace_state)⟩, trivial⟩
     refine zW (zV [0, 1, 3, 8, 9, 10, 11, 17, 19, 76, 77, 78, 91, 92, 93]) ?_
     simp only [kp, zJ, simprocAttr]
     refine zK [] (by rw [hC]; rfl) fun k hk => ?_
     simp (maxSteps := 9^9) (disch := (try simp only [lens]); omega) only [zJ, sm, ↓amb, zQ, simprocAttr, hen, dx]
     repeat refine ⟨by first | omega | (simp; done) | (unfold maxLen; omega) | (simp [maxLen]; omega) | assumption, ?_⟩
     refine hk _ ?_; clear hk k
     refine zY fun k12 h12 => ?_
     refine zX rfl (fun hb => ?_) (fun hb => ?_)
     ·try simp only [hbx] at hb
      refine yJ ?_
      refine h12 _ ?_; clear h12 k12
      refine zY fun k13 h13 => ?_
      refine yK ?_
      refine zW (zV [0, 1, 3, 8, 9, 10, 11, 17, 19, 76, 77, 78, 91, 92, 93]) ?_
      simp only [kp, zJ, simprocAttr]
      have hal := Pl.aheadF_len f (Pl.part l B u)
      refine zK [] (by rw [hC]; rfl) fun k hk => ?_
      simp (maxSteps := 9^9) (disch := (try simp only [lens]); omega) only [zJ, sm, ↓amb, zQ, simprocAttr, el63, sz71, hen, dx]
      repeat refine ⟨by first | omega | (simp; done) | (unfold maxLen; omega) | (simp [maxLen]; omega) | assumption, ?_⟩
      refine hk _ ?_; clear hk k
      have hal2 := Pl.aheadF_len f (Pl.totF f l B (Pl.blkN l.length B))
      have hal3 := Pl.totF_len f l B (Pl.blkN l.length B)
      have hfl := Pl.fillL_len l.length ((((Pl.ordU (Pl.blkN l.length B : Nat) p).take z).flatMap (Pl.blockPl l.length B)) ++ Pl.upto (((u : Nat) : Int) * B) (((u : Nat) : Int) * B + ((y : Nat) : Int))) (fun j => Pl.allF f (l.take j))
      obtain ⟨hpl, hpl2⟩ := Pl.ahead_cell hf hl (show u < (Pl.blkN l.length B) by omega) u1 (show y < (Pl.part l B u).length by omega)
      have hw1 := Pl.getD_w (Pl.aheadF_w hf (Pl.part_w (b := B) (i := u) hl)) y
      have hw2 := Pl.getD_w (Pl.aheadF_w hf (Pl.totF_w hf hl B (Pl.blkN l.length B))) u
      have e1 : (u : Int) * (B : Int) = ((u * B : Nat) : Int) := by rw [Int.natCast_mul]
      have hnn : 0 ≤ (u : Int) * (B : Int) + (y : Int) := by rw [e1]; omega
      have hpl' : f ((Pl.aheadF f (Pl.totF f l B (Pl.blkN l.length B))).getD u 0) ((Pl.aheadF f (Pl.part l B u)).getD y 0) = (fun j => Pl.allF f (l.take j)) ((u : Int) * (B : Int) + (y : Int)).toNat := by rw [hpl, e1]; show Pl.allF f (l.take _) = Pl.allF f (l.take _); congr 2
      refine yZ [] (by rw [hC]; rfl) fun k hk => ?_
      simp (maxSteps := 9^9) (disch := (try simp only [lens]); omega) only [zJ, sm, ↓amb, zQ, simprocAttr, el63, sz71, hen, dx]
      repeat refine ⟨by first | omega | (simp; done) | (unfold maxLen; omega) | (simp [maxLen]; omega) | assumption, ?_⟩
      refine yW (hF _ _ hw2 hw1) rfl ?_
      simp (maxSteps := 9^9) (disch := (try simp only [lens]); omega) only [zJ, sm, ↓amb, zQ, simprocAttr, el63, sz71, hen, dx]
      repeat refine ⟨by first | omega | (simp; done) | (unfold maxLen; omega) | (simp [maxLen]; omega) | assumption, ?_⟩
      refine hk _ ?_; clear hk k
      refine h13 _ ?_; clear h13 k13
      refine yZ [] (by rw [hC]; rfl) fun k hk => ?_
      simp (maxSteps := 9^9) (disch := (try simp only [lens]); omega) only [zJ, sm, ↓amb, zQ, simprocAttr, hen, dx]
      repeat refine ⟨by first | omega | (simp; done) | (unfold maxLen; omega) | (simp [maxLen]; omega) | assumption, ?_⟩
      refine hk _ ?_; clear hk k
      refine ⟨y + 1, by omega, le_of [(0, _)] (by rfl) (by rfl) ⟨⟨_, rfl, .p (.of_eq (by first | rfl | (simp only [PV.lit.injEq, Value.int.injEq, true_and]; omega) | (simp; done) | (simp; omega)))⟩, ⟨_, rfl, .p (.of_eq (by first | rfl | (simp only [PV.lit.injEq, Value.int.injEq, true_and]; omega) | (simp; done) | (simp; omega)))⟩, ⟨_, rfl, .fn rfl LeRow.nil.2⟩, ⟨_, rfl, .own rfl⟩, ⟨_, rfl, .p (.of_eq (by first | rfl | (simp only [PV.lit.injEq, Value.int.injEq, true_and]; omega) | (simp; done) | (simp; omega)))⟩, ⟨_, rfl, .p (.of_eq (by first | rfl | (simp only [PV.lit.injEq, Value.int.injEq, true_and]; omega) | (simp; done) | (simp; omega)))⟩, ⟨_, rfl, .p (.of_eq (by first | rfl | (simp only [PV.lit.injEq, Value.int.injEq, true_and]; omega) | (simp; done) | (simp; omega)))⟩, ⟨_, rfl, .p (.of_eq (by first | rfl | (simp only [PV.lit.injEq, Value.int.injEq, true_and]; omega) | (simp; done) | (simp; omega)))⟩, ⟨_, rfl, .p (.of_eq (by first | rfl | (simp only [PV.lit.injEq, Value.int.injEq, true_and]; omega) | (simp; done) | (simp; omega)))⟩, ⟨_, rfl, .p (.of_eq (by first | rfl | (simp only [PV.lit.injEq, Value.int.injEq, true_and]; omega) | (simp; done) | (simp; omega)))⟩, ⟨_, rfl, .p (.of_eq (by first | rfl | (simp only [PV.lit.injEq, Value.int.injEq, true_and]; omega) | (simp; done) | (simp; omega)))⟩, ⟨_, rfl, .p (.of_eq (by first | rfl | (simp only [PV.lit.injEq, Value.int.injEq, true_and]; omega) | (simp; done) | (simp; omega)))⟩, ⟨_, rfl, .p (.of_eq (by first | rfl | rw [Pl.aheadF_len]))⟩, ⟨_, rfl, .p (.of_eq (by first | rfl | (simp only [PV.lit.injEq, Value.int.injEq, true_and]; omega) | (simp; done) | (simp; omega)))⟩, trivial⟩ ⟨⟨_, rfl, _, rfl, .liftE (by first | (rw [Pl.upto_nil (by simp), List.append_nil]; done) | (rw [← Pl.upto_snoc, ← List.append_assoc, ← Pl.fillL_set hnn hpl', List.map_set]; first | done | rfl) | trace_state)⟩, trivial⟩, by omega⟩
     ·try simp only [hbx] at hb
      refine yX ((if_pos rfl).mpr ?_)
      refine h10 _ ?_; clear h12 k12; clear h10 k10
      refine yZ [] (by rw [hC]; rfl) fun k hk => ?_
      simp (maxSteps := 9^9) (disch := (try simp only [lens]); omega) only [zJ, sm, ↓amb, zQ, simprocAttr, hen, dx]
      repeat refine ⟨by first | omega | (simp; done) | (unfold maxLen; omega) | (simp [maxLen]; omega) | assumption, ?_⟩
      refine hk _ ?_; clear hk k
      refine ⟨z + 1, by omega, le_of [(0, _)] (by rfl) (by rfl) ⟨⟨_, rfl, .p (.of_eq (by first | rfl | (simp only [PV.lit.injEq, Value.int.injEq, true_and]; omega) | (simp; done) | (simp; omega)))⟩, ⟨_, rfl, .p (.of_eq (by first | rfl | (simp only [PV.lit.injEq, Value.int.injEq, true_and]; omega) | (simp; done) | (simp; omega)))⟩, ⟨_, rfl, .fn rfl LeRow.nil.2⟩, ⟨_, rfl, .own rfl⟩, ⟨_, rfl, .p (.of_eq (by first | rfl | rw [Pl.allF_tots hf hl hB.1]))⟩, ⟨_, rfl, .p (.of_eq (by first | rfl | (simp only [PV.lit.injEq, Value.int.injEq, true_and]; omega) | (simp; done) | (simp; omega)))⟩, ⟨_, rfl, .p (.of_eq (by first | rfl | (simp only [PV.lit.injEq, Value.int.injEq, true_and]; omega) | (simp; done) | (simp; omega)))⟩, ⟨_, rfl, .p (.of_eq (by first | rfl | (simp only [PV.lit.injEq, Value.int.injEq, true_and]; omega) | (simp; done) | (simp; omega)))⟩, ⟨_, rfl, .p (.of_eq (by first | rfl | (simp only [PV.lit.injEq, Value.int.injEq, true_and]; omega) | (simp; done) | (simp; omega)))⟩, ⟨_, rfl, .p (.of_eq (by first | rfl | (simp only [PV.lit.injEq, Value.int.injEq, true_and]; omega) | (simp; done) | (simp; omega)))⟩, trivial⟩ ⟨⟨_, rfl, _, rfl, .liftE (by first | (rw [List.take_zero, List.flatMap_nil, Pl.fillL_nil, List.map_replicate]; done) | (rw [Pl.block_snoc (L := (Pl.ordU (Pl.blkN l.length B : Nat) p)) (z := z) (by omega) hu u1, show y = (Pl.part l B u).length by omega]; done) | trace_state)⟩, trivial⟩, by omega⟩
    ·try simp only [hbx] at hb
     refine yX ((if_pos rfl).mpr ?_)
     refine h7 _ ?_; clear h9 k9; clear h7 k7
     refine zW (zV [8, 9, 10]) ?_
     simp only [kp, zJ, simprocAttr]
     have htk : (Pl.ordU (Pl.blkN l.length B : Nat) p).take z = (Pl.ordU (Pl.blkN l.length B : Nat) p) := List.take_of_length_le (by omega)
     rw [htk, Pl.fill_blocks hB hn hoo (fun j => Pl.allF f (l.take j))]
     refine zK [] (by rw [hC]; rfl) fun k hk => ?_
     simp (maxSteps := 9^9) (disch := (try simp only [lens]); omega) only [zJ, sm, ↓amb, zQ, simprocAttr, hen, dx]
     repeat refine ⟨by first | omega | (simp; done) | (unfold maxLen; omega) | (simp [maxLen]; omega) | assumption, ?_⟩
     refine hk _ ?_; clear hk k
     refine yQ ?_
     rw [(Pl.sc_yes hse).1, (Pl.sc_yes (f := f) hse).2.1, (Pl.sc_yes (f := f) hse).2.2, hse, Pl.blk_nat hB hn]
     refine reth4 rfl rfl rfl rfl rfl ?_
     exact le_of [] (by rfl) (by rfl) ⟨⟨_, rfl, leTup (LeRow.cons (.frz rfl (by rfl)) (LeRow.cons (.p (.refl _)) (LeRow.cons (.p (.refl _)) (LeRow.cons (.p (.refl _)) .nil))))⟩, trivial⟩ trivial
set_option maxHeartbeats 4000000 in
theorem c_scan_Sums (c d : Bool) (l : List Int) (b : Int) (p : Pl.Plan) (hl : ∀ x, x ∈ l → Pl.W32 x) : PCall Try.prog 42 [words c l, iV b, .agg (planC d p)] (.tup [words false (Pl.scL Pl.add32 l b p), u32V (Pl.scT Pl.add32 l b p), iV (Pl.scS l.length b p), iV (Pl.scE l.length b p)]) := by
 refine yV Try.func42 rfl (by simp [Try.ntmps42]) fun C hC => ?_
 refine zW (zV [0, 1, 2]) ?_
 simp only [kp, zJ, simprocAttr]
 refine zK [] (by rw [hC]; rfl) fun k hk => ?_
 simp (maxSteps := 9^9) (disch := (try simp only [lens]); omega) only [zJ, sm, ↓amb, zQ, simprocAttr, dx, en78]
 repeat refine ⟨by first | omega | (simp; done) | (unfold maxLen; omega) | (simp [maxLen]; omega) | assumption, ?_⟩
 refine hk _ ?_; clear hk k
 refine zW (zV [0, 1, 5]) ?_
 simp only [kp, zJ, simprocAttr]
 refine zK [] (by rw [hC]; rfl) fun k hk => ?_
 simp (maxSteps := 9^9) (disch := (try simp only [lens]); omega) only [zJ, sm, ↓amb, zQ, simprocAttr, sz51, en77, dx, en78]
 repeat refine ⟨by first | omega | (simp; done) | (unfold maxLen; omega) | (simp [maxLen]; omega) | assumption, ?_⟩
 refine callK_h (c_scan_phases c d l b p hl 78 en78 Pl.add32 Pl.rule_add (fun a b ha hb => c_scan_Sums_1 a b ha hb)) [] [] (by first | rfl | (simp only [hm]; done)) (by first | rfl | (simp [namesOk, lkp]; done)) ?_ ?_ ?_ ?_ ?_ ?_ ?_
 (iterate 6 (focus (first | trivial | (intro n hn; cases hn; done) | (simp (maxSteps := 9^9) (disch := (try simp only [lens]); omega) only [zJ, sm, ↓amb, zQ, simprocAttr, sz51, en77, dx, en78, hmx, List.filter_cons, Nat.reduceBNe, imp_self, implies_true]; done))))
 simp (maxSteps := 9^9) (disch := (try simp only [lens]); omega) only [zJ, sm, ↓amb, zQ, simprocAttr, sz51, en77, dx, en78, hm, List.filter_cons, List.filter_nil, Nat.reduceBNe, Option.map_none]
 repeat refine ⟨by first | omega | (simp; done) | (unfold maxLen; omega) | (simp [maxLen]; omega) | assumption, ?_⟩
 refine hk _ ?_; clear hk k
 refine yQ ?_
 refine ret4 rfl rfl rfl rfl rfl ?_ ?_ ?_ ?_
 ·exact .p (LeP.refl _)
 ·exact .p (LeP.refl _)
 ·exact .p (LeP.refl _)
 ·exact .p (LeP.refl _)
end Go.Proofs.Ytjkkjiaeeobnkaa
end
