/-
  A step, by the document.
-/
import Derived.Test.YthelnccjcbnjfaaR4
set_option linter.unusedSimpArgs false
set_option linter.unusedVariables false
set_option maxRecDepth 100000
namespace Go.Proofs.Ythelnccjcbnjfaa
open Go.Am Go.Proofs
theorem en91 : enters Try.prog 91 = true := by kernel_rfl
set_option maxHeartbeats 4000000 in
theorem c_Step_s (c : Pl.Crew) (p v : Int) (hl : ∀ l, l ∈ c.dq → l.length ≤ 1000000 ∧ ∀ t, t ∈ l → -9223372036854775808 ≤ t ∧ t ≤ 9223372036854775807) (h0 : (Pl.step c p v).2.2 = 0) (hp : ¬ 0 < (c.dq.getD (Pl.num c.dq p).toNat default).length) (hv : 0 < (c.dq.getD (Pl.num c.dq v).toNat default).length) : PCall Try.prog 78 [.agg (crewC c), iV p, iV v] (.tup [.agg (crewC (Pl.step c p v).1), .agg (evC (Pl.step c p v).2.1), iV 0]) := by
 obtain ⟨P, V, hcp, hcv, hP, hV, hN, hPl, hVl, hcr, hst⟩ := Pl.step_at h0
 obtain ⟨hr1, hr2, hr3, hr4, hr5, hr6, hr7⟩ := id hcr
 have hRr : c.work.ts.length ≤ 2000 ∧ c.work.done.length ≤ 1000 := ⟨hr1.2.2.1, by have := hr1.1; unfold Pl.cnt at this; omega⟩
 have hlP := hl _ (Pl.getD_mem c.dq P default hPl)
 have hlV := hl _ (Pl.getD_mem c.dq V default hVl)
 rw [hP] at hp
 rw [hV] at hv
 have hso := Pl.step_steal h0 hP hN hV hp hv (t := ((c.dq.getD V default).getD 0 0)) rfl
 have hle : (c.dq.getD P default) = [] := List.eq_nil_of_length_eq_zero (by omega)
 have hpop : PCall Try.prog 90 [ints false (c.dq.getD P default)] (.tup [ints false [], iV 0, iV 4]) := by rw [hle]; exact c18 false [] (by decide)
 have hne : V ≠ P := fun e => hp (e ▸ hv)
 have hgP : ((c.dq.map lE).set V [PV.seq false (((c.dq.getD V default).drop 1).map fun n => [iV n])]).getD P [] = [PV.seq true []] := lE_get hPl hne hle _
 have hsl : PCall Try.prog 91 [ints false (c.dq.getD V default)] (.tup [ints false ((c.dq.getD V default).drop 1), iV ((c.dq.getD V default).getD 0 0), iV 0]) := by have q := c20 false (c.dq.getD V default) hlV.1; unfold stealS at q; rw [if_neg (by intro e; rw [e] at hv; exact absurd hv (by decide))] at q; exact q
 refine pcall_of_awp Try.func78 rfl (by simp [Try.ntmps78]) fun C hC => ?_
 refine awp_le (le_keep [0, 1, 2]) ?_
 simp only [kp, argSl, simprocAttr]
 refine awp_sr [] (by rw [hC]; rfl) fun k hk => ?_
 simp (maxSteps := 9^9) (disch := (try simp only [lens]); omega) only [argSl, sm, ↓amb, mark_eq, simprocAttr, vr81, vr112, lE, mx, hgP, dx]
 repeat refine ⟨by first | omega | (simp; done) | (unfold maxLen; omega) | (simp [maxLen]; omega) | assumption, ?_⟩
 refine hk _ ?_; clear hk k
 refine awp_seq fun k1 h1 => ?_
 refine awp_block ?_
 refine awp_le (le_keep [1, 2, 3, 6, 7, 8]) ?_
 simp only [kp, argSl, simprocAttr]
 refine awp_sr [] (by rw [hC]; rfl) fun k hk => ?_
 simp (maxSteps := 9^9) (disch := (try simp only [lens]); omega) only [argSl, sm, ↓amb, mark_eq, simprocAttr, sz81, en87, lE, mx, hgP, dx]
 repeat refine ⟨by first | omega | (simp; done) | (unfold maxLen; omega) | (simp [maxLen]; omega) | assumption, ?_⟩
 refine callK_p (c_ref05_Right _ hl) rfl ?_
 simp (maxSteps := 9^9) (disch := (try simp only [lens]); omega) only [argSl, sm, ↓amb, mark_eq, simprocAttr, sz81, en87, lE, mx, hgP, dx]
 repeat refine ⟨by first | omega | (simp; done) | (unfold maxLen; omega) | (simp [maxLen]; omega) | assumption, ?_⟩
 refine hk _ ?_; clear hk k
 refine awp_cond rfl (fun hb => ?_) (fun hb => ?_)
 ·exact absurd hcr (by simpa using hb)
 ·try simp only [hbx] at hb
  refine awp_le (le_keep [1, 2, 3, 6, 7, 8]) ?_
  simp only [kp, argSl, simprocAttr]
  refine awp_sr [] (by rw [hC]; rfl) fun k hk => ?_
  simp (maxSteps := 9^9) (disch := (try simp only [lens]); omega) only [argSl, sm, ↓amb, mark_eq, simprocAttr, fl81_3, sz3, lE, mx, hgP, dx]
  repeat refine ⟨by first | omega | (simp; done) | (unfold maxLen; omega) | (simp [maxLen]; omega) | assumption, ?_⟩
  refine hk _ ?_; clear hk k
  refine awp_cond rfl (fun hb => ?_) (fun hb => ?_)
  ·exact absurd (beq_iff_eq.mp hb) hst
  ·try simp only [hbx] at hb
   refine awp_skip ?_
   refine h1 _ ?_; clear h1 k1
   refine awp_le (le_keep [1, 2, 3, 6, 7]) ?_
   simp only [kp, argSl, simprocAttr]
   refine awp_sr [] (by rw [hC]; rfl) fun k hk => ?_
   simp (maxSteps := 9^9) (disch := (try simp only [lens]); omega) only [argSl, sm, ↓amb, mark_eq, simprocAttr, fl81_1, sz79, el79, lE, mx, hgP, dx]
   repeat refine ⟨by first | omega | (simp; done) | (unfold maxLen; omega) | (simp [maxLen]; omega) | assumption, ?_⟩
   refine hk _ ?_; clear hk k
   refine awp_le (le_keep [1, 2, 3, 6, 7, 9]) ?_
   simp only [kp, argSl, simprocAttr]
   refine awp_sr [] (by rw [hC]; rfl) fun k hk => ?_
   simp (maxSteps := 9^9) (disch := (try simp only [lens]); omega) only [argSl, sm, ↓amb, mark_eq, simprocAttr, en88, lE, mx, hgP, dx]
   repeat refine ⟨by first | omega | (simp; done) | (unfold maxLen; omega) | (simp [maxLen]; omega) | assumption, ?_⟩
   refine callK_p (c_ref05_cut _ _ (by omega)) rfl ?_
   simp (maxSteps := 9^9) (disch := (try simp only [lens]); omega) only [argSl, sm, ↓amb, mark_eq, simprocAttr, en88, lE, mx, hgP, dx]
   repeat refine ⟨by first | omega | (simp; done) | (unfold maxLen; omega) | (simp [maxLen]; omega) | assumption, ?_⟩
   refine callK_p (c_ref05_cut _ _ (by omega)) rfl ?_
   simp (maxSteps := 9^9) (disch := (try simp only [lens]); omega) only [argSl, sm, ↓amb, mark_eq, simprocAttr, en88, lE, mx, hgP, dx]
   repeat refine ⟨by first | omega | (simp; done) | (unfold maxLen; omega) | (simp [maxLen]; omega) | assumption, ?_⟩
   refine hk _ ?_; clear hk k
   refine awp_le (le_keep [1, 2, 3, 6, 7]) ?_
   simp only [kp, argSl, simprocAttr]
   rw [hcp, hcv]
   refine awp_sr [] (by rw [hC]; rfl) fun k hk => ?_
   simp (maxSteps := 9^9) (disch := (try simp only [lens]); omega) only [argSl, sm, ↓amb, mark_eq, simprocAttr, sz81, en89, vr81, lE, mx, hgP, dx]
   repeat refine ⟨by first | omega | (simp; done) | (unfold maxLen; omega) | (simp [maxLen]; omega) | assumption, ?_⟩
   refine callK_h (c_Copy_h c (by omega) (by omega) (by omega) (fun l h => (hl l h).1)) [] [] (by first | rfl | (simp only [hm]; done)) (by first | rfl | (simp [namesOk, lkp]; done)) ?_ ?_ ?_ ?_ ?_ ?_ ?_
   (iterate 6 (focus (first | trivial | (intro n hn; cases hn; done) | (simp (maxSteps := 9^9) (disch := (try simp only [lens]); omega) only [argSl, sm, ↓amb, mark_eq, simprocAttr, sz81, en89, vr81, lE, mx, hgP, dx, hmx, List.filter_cons, Nat.reduceBNe, imp_self, implies_true]; done))))
   simp (maxSteps := 9^9) (disch := (try simp only [lens]); omega) only [argSl, sm, ↓amb, mark_eq, simprocAttr, sz81, en89, vr81, lE, mx, hgP, dx, hm, List.filter_cons, List.filter_nil, Nat.reduceBNe, Option.map_none]
   repeat refine ⟨by first | omega | (simp; done) | (unfold maxLen; omega) | (simp [maxLen]; omega) | assumption, ?_⟩
   refine hk _ ?_; clear hk k
   refine awp_le (le_keep [1, 2, 3, 6, 7, 10]) ?_
   simp only [kp, argSl, simprocAttr]
   refine awp_sr [] (by rw [hC]; rfl) fun k hk => ?_
   simp (maxSteps := 9^9) (disch := (try simp only [lens]); omega) only [argSl, sm, ↓amb, mark_eq, simprocAttr, fl81_3, sz3, lE, mx, hgP, dx]
   repeat refine ⟨by first | omega | (simp; done) | (unfold maxLen; omega) | (simp [maxLen]; omega) | assumption, ?_⟩
   refine hk _ ?_; clear hk k
   refine awp_le (le_keep [1, 2, 3, 6, 7, 10]) ?_
   simp only [kp, argSl, simprocAttr]
   refine awp_sr [] (by rw [hC]; rfl) fun k hk => ?_
   simp (maxSteps := 9^9) (disch := (try simp only [lens]); omega) only [argSl, sm, ↓amb, mark_eq, simprocAttr, vr112, bt112, pl112_0, pl112_1, pl112_2, sz112, lE, mx, hgP, dx]
   repeat refine ⟨by first | omega | (simp; done) | (unfold maxLen; omega) | (simp [maxLen]; omega) | assumption, ?_⟩
   refine hk _ ?_; clear hk k
   refine awp_seq fun k2 h2 => ?_
   refine awp_le (le_keep [1, 2, 3, 6, 7, 8, 10, 11]) ?_
   simp only [kp, argSl, simprocAttr]
   refine awp_sr [] (by rw [hC]; rfl) fun k hk => ?_
   simp (maxSteps := 9^9) (disch := (try simp only [lens]); omega) only [argSl, sm, ↓amb, mark_eq, simprocAttr, fl81_1, sz79, el79, sz32, en90, lE, mx, hgP, dx]
   repeat refine ⟨by first | omega | (simp; done) | (unfold maxLen; omega) | (simp [maxLen]; omega) | assumption, ?_⟩
   refine callK_p (hpop) rfl ?_
   simp (maxSteps := 9^9) (disch := (try simp only [lens]); omega) only [argSl, sm, ↓amb, mark_eq, simprocAttr, fl81_1, sz79, el79, sz32, en90, lE, mx, hgP, dx]
   repeat refine ⟨by first | omega | (simp; done) | (unfold maxLen; omega) | (simp [maxLen]; omega) | assumption, ?_⟩
   refine hk _ ?_; clear hk k
   refine awp_le (le_keep [1, 2, 3, 6, 7, 8, 10, 11, 12, 13, 14]) ?_
   simp only [kp, argSl, simprocAttr]
   refine awp_sr [] (by rw [hC]; rfl) fun k hk => ?_
   simp (maxSteps := 9^9) (disch := (try simp only [lens]); omega) only [argSl, sm, ↓amb, mark_eq, simprocAttr, lE, mx, hgP, dx]
   repeat refine ⟨by first | omega | (simp; done) | (unfold maxLen; omega) | (simp [maxLen]; omega) | assumption, ?_⟩
   refine hk _ ?_; clear hk k
   refine awp_cond rfl (fun hb => ?_) (fun hb => ?_)
   ·exact absurd hb (by simp)
   ·try simp only [hbx] at hb
    refine awp_le (le_keep [1, 2, 3, 6, 7, 8, 10, 11]) ?_
    simp only [kp, argSl, simprocAttr]
    refine awp_sr [] (by rw [hC]; rfl) fun k hk => ?_
    simp (maxSteps := 9^9) (disch := (try simp only [lens]); omega) only [argSl, sm, ↓amb, mark_eq, simprocAttr, fl81_1, sz79, el79, sz32, en91, lE, mx, hgP, dx]
    repeat refine ⟨by first | omega | (simp; done) | (unfold maxLen; omega) | (simp [maxLen]; omega) | assumption, ?_⟩
    refine callK_p (hsl) rfl ?_
    simp (maxSteps := 9^9) (disch := (try simp only [lens]); omega) only [argSl, sm, ↓amb, mark_eq, simprocAttr, fl81_1, sz79, el79, sz32, en91, lE, mx, hgP, dx]
    repeat refine ⟨by first | omega | (simp; done) | (unfold maxLen; omega) | (simp [maxLen]; omega) | assumption, ?_⟩
    refine hk _ ?_; clear hk k
    refine awp_le (le_keep [1, 2, 3, 6, 7, 8, 10, 11, 15, 16, 17]) ?_
    simp only [kp, argSl, simprocAttr]
    refine awp_sr [] (by rw [hC]; rfl) fun k hk => ?_
    simp (maxSteps := 9^9) (disch := (try simp only [lens]); omega) only [argSl, sm, ↓amb, mark_eq, simprocAttr, lE, mx, hgP, dx]
    repeat refine ⟨by first | omega | (simp; done) | (unfold maxLen; omega) | (simp [maxLen]; omega) | assumption, ?_⟩
    refine hk _ ?_; clear hk k
    refine awp_cond rfl (fun hb => ?_) (fun hb => ?_)
    ·try simp only [hbx] at hb
     refine awp_region [] (by rw [hC]; rfl) fun k hk => ?_
     simp (maxSteps := 9^9) (disch := (try simp only [lens]); omega) only [argSl, sm, ↓amb, mark_eq, simprocAttr, fl81_1, sz79, el79, sz32, fl112_1, sz3, fl112_2, lE, mx, hgP, dx]
     repeat refine ⟨by first | omega | (simp; done) | (unfold maxLen; omega) | (simp [maxLen]; omega) | assumption, ?_⟩
     refine hk _ ?_; clear hk k
     refine h2 _ ?_; clear h2 k2
     refine awp_seq fun k3 h3 => ?_
     refine awp_le (le_keep [1, 3, 6, 7, 8, 10, 11]) ?_
     simp only [kp, argSl, simprocAttr]
     refine awp_le (show LE _ (⟨[(1, (.p (iV (P : Int)))), (3, (.ptr 0 7 0 0)), (6, (.ptr 1 7 0 0)), (7, (.ptr 2 4 0 0)), (10, (.ptr 3 7 0 0)), (11, (.ptr 4 4 0 0))], [(0, (.row 7 [[.p (.seq false (c.work.ts.map taskC)), .p (iV c.work.grain), .p (.seq false (c.work.done.map fun b => [bV b])), .p (.seq false (c.dq.map lV)), .p (bV c.over), .p (iV c.steps), .p (iV c.idle)]])), (1, (.row 7 [[.p (.seq true []), .p (iV 0), .p (.seq true []), .p (.seq true []), .p (bV false), .p (iV 0), .p (iV 0)]])), (2, (.row 4 [[.p (iV 0), .p (iV 0), .p (iV 0), .p (bV false)]])), (3, (.row 7 [[.p (.seq false (c.work.ts.map taskC)), .p (iV c.work.grain), .p (.seq false (c.work.done.map fun b => [bV b])), .own 5, .p (bV c.over), .p (iV (c.steps + 1)), .p (iV c.idle)]])), (4, (.row 4 [[.p (iV (P : Int)), .p (iV (V : Int)), .p (iV ((c.dq.getD V default).getD 0 0)), .p (bV false)]])), (5, (.row 1 (lift ((c.dq.map lE).set V [PV.seq false (((c.dq.getD V default).drop 1).map fun n => [iV n])]))))], 1⟩ : LS) from le_of [(0, _), (1, _), (2, _), (3, _), (4, _), (5, _)] (by rfl) (by rfl) ⟨⟨_, rfl, .p (.of_eq (by first | rfl | (simp only [PV.lit.injEq, Value.int.injEq, true_and]; omega) | (simp; done) | (simp; omega)))⟩, ⟨_, rfl, .ptr rfl⟩, ⟨_, rfl, .ptr rfl⟩, ⟨_, rfl, .ptr rfl⟩, ⟨_, rfl, .ptr rfl⟩, ⟨_, rfl, .ptr rfl⟩, trivial⟩ ⟨⟨_, rfl, _, rfl, .one (.cons (.p (.refl _)) (.cons (.p (.refl _)) (.cons (.p (.refl _)) (.cons (.p (.refl _)) (.cons (.p (.refl _)) (.cons (.p (.refl _)) (.cons (.p (.refl _)) (.nil))))))))⟩, ⟨_, rfl, _, rfl, .one (.cons (.p (.refl _)) (.cons (.p (.refl _)) (.cons (.p (.refl _)) (.cons (.p (.refl _)) (.cons (.p (.refl _)) (.cons (.p (.refl _)) (.cons (.p (.refl _)) (.nil))))))))⟩, ⟨_, rfl, _, rfl, .one (.cons (.p (.refl _)) (.cons (.p (.refl _)) (.cons (.p (.refl _)) (.cons (.p (.refl _)) (.nil)))))⟩, ⟨_, rfl, _, rfl, .one (.cons (.p (.refl _)) (.cons (.p (.refl _)) (.cons (.p (.refl _)) (.cons (.own rfl) (.cons (.p (.refl _)) (.cons (.p (.refl _)) (.cons (.p (.refl _)) (.nil))))))))⟩, ⟨_, rfl, _, rfl, .one (.cons (.p (.refl _)) (.cons (.p (.refl _)) (.cons (.p (.refl _)) (.cons (.p (.refl _)) (.nil)))))⟩, ⟨_, rfl, _, rfl, .liftE rfl⟩, trivial⟩) ?_
     refine awp_sr [] (by rw [hC]; rfl) fun k hk => ?_
     simp (maxSteps := 9^9) (disch := (try simp only [lens]); omega) only [argSl, sm, ↓amb, mark_eq, simprocAttr, fl81_0, sz78, fl112_2, sz3, en92, lE, mx, hgP, dx]
     repeat refine ⟨by first | omega | (simp; done) | (unfold maxLen; omega) | (simp [maxLen]; omega) | assumption, ?_⟩
     refine callK_p (c40 _ _ _ _) rfl ?_
     simp (maxSteps := 9^9) (disch := (try simp only [lens]); omega) only [argSl, sm, ↓amb, mark_eq, simprocAttr, fl81_0, sz78, fl112_2, sz3, en92, lE, mx, hgP, dx]
     repeat refine ⟨by first | omega | (simp; done) | (unfold maxLen; omega) | (simp [maxLen]; omega) | assumption, ?_⟩
     refine hk _ ?_; clear hk k
     refine awp_cond rfl (fun hb => ?_) (fun hb => ?_)
     ·try simp only [hbx] at hb
      refine awp_le (le_keep [1, 3, 6, 7, 10, 11]) ?_
      simp only [kp, argSl, simprocAttr]
      have hgp := hso.1 hb
      refine awp_sr [] (by rw [hC]; rfl) fun k hk => ?_
      simp (maxSteps := 9^9) (disch := (try simp only [lens]); omega) only [argSl, sm, ↓amb, mark_eq, simprocAttr, fl81_0, sz78, fl112_2, sz3, en93, vr78, lE, mx, hgP, dx]
      repeat refine ⟨by first | omega | (simp; done) | (unfold maxLen; omega) | (simp [maxLen]; omega) | assumption, ?_⟩
      refine callK_p (c29 _ _ _ _) rfl ?_
      simp (maxSteps := 9^9) (disch := (try simp only [lens]); omega) only [argSl, sm, ↓amb, mark_eq, simprocAttr, fl81_0, sz78, fl112_2, sz3, en93, vr78, lE, mx, hgP, dx]
      repeat refine ⟨by first | omega | (simp; done) | (unfold maxLen; omega) | (simp [maxLen]; omega) | assumption, ?_⟩
      refine hk _ ?_; clear hk k
      refine awp_seq fun k4 h4 => ?_
      refine awp_le (le_keep [1, 3, 6, 7, 8, 10, 11, 18, 19, 20, 21]) ?_
      simp only [kp, argSl, simprocAttr]
      refine awp_sr [] (by rw [hC]; rfl) fun k hk => ?_
      simp (maxSteps := 9^9) (disch := (try simp only [lens]); omega) only [argSl, sm, ↓amb, mark_eq, simprocAttr, lE, mx, hgP, dx]
      repeat refine ⟨by first | omega | (simp; done) | (unfold maxLen; omega) | (simp [maxLen]; omega) | assumption, ?_⟩
      refine hk _ ?_; clear hk k
      refine awp_cond rfl (fun hb => ?_) (fun hb => ?_)
      ·rw [hgp.1] at hb; exact absurd hb (by simp)
      ·try simp only [hbx] at hb
       refine awp_skip ?_
       refine h4 _ ?_; clear h4 k4
       refine awp_le (le_keep [1, 6, 7, 10, 11, 18, 19, 20]) ?_
       simp only [kp, argSl, simprocAttr]
       refine awp_sr [] (by rw [hC]; rfl) fun k hk => ?_
       simp (maxSteps := 9^9) (disch := (try simp only [lens]); omega) only [argSl, sm, ↓amb, mark_eq, simprocAttr, sz78, fl81_0, fl112_3, sz4, lE, mx, hgP, dx]
       repeat refine ⟨by first | omega | (simp; done) | (unfold maxLen; omega) | (simp [maxLen]; omega) | assumption, ?_⟩
       refine hk _ ?_; clear hk k
       refine awp_le (le_keep [1, 6, 7, 10, 11, 19, 20]) ?_
       simp only [kp, argSl, simprocAttr]
       refine awp_sd [] ⟨[0, 1, 0, 0, 8, 0, 56, 120, 0, 0, 768, 2040, 4095, 8191], [6, 7, 12], [13], [], some [5]⟩ (by rw [hC]; rfl) (by kernel_rfl) (by kernel_rfl) fun k hk => ?_
       simp (maxSteps := 9^9) (disch := (try simp only [lens]); omega) only [argSl, sm, ↓amb, mark_eq, simprocAttr, fl81_1, sz79, el79, sz32, el32, vr3, by3, lE, mx, hgP, dx]
       repeat refine ⟨by first | omega | (simp; done) | (unfold maxLen; omega) | (simp [maxLen]; omega) | assumption, ?_⟩
       refine hk _ ?_; clear hk k
       refine awp_le (le_keep [6, 7, 10, 11]) ?_
       simp only [kp, argSl, simprocAttr]
       refine awp_le (show LE _ (⟨[(6, (.ptr 1 7 0 0)), (7, (.ptr 2 4 0 0)), (10, (.ptr 3 7 0 0)), (11, (.ptr 4 4 0 0))], [(1, (.row 7 [[.p (.seq true []), .p (iV 0), .p (.seq true []), .p (.seq true []), .p (bV false), .p (iV 0), .p (iV 0)]])), (2, (.row 4 [[.p (iV 0), .p (iV 0), .p (iV 0), .p (bV false)]])), (3, (.row 7 [[.p (.seq false ((Pl.partW c.work ((c.dq.getD V default).getD 0 0)).ts.map taskC)), .p (iV (Pl.partW c.work ((c.dq.getD V default).getD 0 0)).grain), .p (.seq false ((Pl.partW c.work ((c.dq.getD V default).getD 0 0)).done.map fun b => [bV b])), .own 5, .p (bV c.over), .p (iV (c.steps + 1)), .p (iV c.idle)]])), (4, (.row 4 [[.p (iV (P : Int)), .p (iV (V : Int)), .p (iV ((c.dq.getD V default).getD 0 0)), .p (bV true)]])), (5, (.row 1 (lift (((c.dq.set V ((c.dq.getD V default).drop 1)).set P [Pl.partB c.work ((c.dq.getD V default).getD 0 0), Pl.partA c.work ((c.dq.getD V default).getD 0 0)]).map lV))))], 1⟩ : LS) from le_of [(1, _), (2, _), (3, _), (4, _), (5, 5)] (by rfl) (by rfl) ⟨⟨_, rfl, .ptr rfl⟩, ⟨_, rfl, .ptr rfl⟩, ⟨_, rfl, .ptr rfl⟩, ⟨_, rfl, .ptr rfl⟩, trivial⟩ ⟨⟨_, rfl, _, rfl, .one (.cons (.p (.refl _)) (.cons (.p (.refl _)) (.cons (.p (.refl _)) (.cons (.p (.refl _)) (.cons (.p (.refl _)) (.cons (.p (.refl _)) (.cons (.p (.refl _)) (.nil))))))))⟩, ⟨_, rfl, _, rfl, .one (.cons (.p (.refl _)) (.cons (.p (.refl _)) (.cons (.p (.refl _)) (.cons (.p (.refl _)) (.nil)))))⟩, ⟨_, rfl, _, rfl, .one (.cons (.p (.refl _)) (.cons (.p (.refl _)) (.cons (.p (.refl _)) (.cons (.own rfl) (.cons (.p (.refl _)) (.cons (.p (.refl _)) (.cons (.p (.refl _)) (.nil))))))))⟩, ⟨_, rfl, _, rfl, .one (.cons (.p (.refl _)) (.cons (.p (.refl _)) (.cons (.p (.refl _)) (.cons (.p (.refl _)) (.nil)))))⟩, ⟨_, rfl, _, rfl, leB_outV (lE_set (lE_set (lE_all _) V false ((c.dq.getD V default).drop 1)) P false [Pl.partB c.work ((c.dq.getD V default).getD 0 0), Pl.partA c.work ((c.dq.getD V default).getD 0 0)])⟩, trivial⟩) ?_
       refine awp_sd [] ⟨[0, 0, 1, 7, 15], [], [2, 3], [], some [1, 2]⟩ (by rw [hC]; rfl) (by kernel_rfl) (by kernel_rfl) fun k hk => ?_
       simp (maxSteps := 9^9) (disch := (try simp only [lens]); omega) only [argSl, sm, ↓amb, mark_eq, simprocAttr, sz81, sz112, lE, mx, hgP, dx]
       repeat refine ⟨by first | omega | (simp; done) | (unfold maxLen; omega) | (simp [maxLen]; omega) | assumption, ?_⟩
       refine hk _ ?_; clear hk k
       refine awp_ret ?_
       rw [hgp.2]
       refine retl rfl rfl ⟨retc rfl sz81 ?_, retc rfl sz112 ?_, rett rfl ?_, trivial⟩
       all_goals first | (simp (maxSteps := 9^9) (disch := (try simp only [lens]); omega) only [argSl, sm, ↓amb, mark_eq, simprocAttr, sz112, sz81, lE, mx, hgP, dx]) | skip
       ·exact .agg_cons (.p (LeP.refl _)) (.agg_cons (.p (LeP.refl _)) (.agg_cons (.p (LeP.refl _)) (.agg_cons (.ownE rfl rfl) (.agg_cons (.p (LeP.refl _)) (.agg_cons (.p (LeP.refl _)) (.agg_cons (.p (LeP.refl _)) (.agg_nil)))))))
       ·exact .p (LeP.refl _)
       ·exact .p (LeP.refl _)
     ·try simp only [hbx] at hb
      refine awp_skip ?_
      refine h3 _ ?_; clear h3 k3
      refine awp_le (le_keep [3, 6, 7, 10, 11]) ?_
      simp only [kp, argSl, simprocAttr]
      have hgp := hso.2 hb
      refine awp_sr [] (by rw [hC]; rfl) fun k hk => ?_
      simp (maxSteps := 9^9) (disch := (try simp only [lens]); omega) only [argSl, sm, ↓amb, mark_eq, simprocAttr, fl81_0, sz78, fl112_2, sz3, en94, vr78, lE, mx, hgP, dx]
      repeat refine ⟨by first | omega | (simp; done) | (unfold maxLen; omega) | (simp [maxLen]; omega) | assumption, ?_⟩
      refine callK_p (c31 _ _ _ _) rfl ?_
      simp (maxSteps := 9^9) (disch := (try simp only [lens]); omega) only [argSl, sm, ↓amb, mark_eq, simprocAttr, fl81_0, sz78, fl112_2, sz3, en94, vr78, lE, mx, hgP, dx]
      repeat refine ⟨by first | omega | (simp; done) | (unfold maxLen; omega) | (simp [maxLen]; omega) | assumption, ?_⟩
      refine hk _ ?_; clear hk k
      refine awp_seq fun k5 h5 => ?_
      refine awp_le (le_keep [3, 6, 7, 8, 10, 11, 22, 23, 24]) ?_
      simp only [kp, argSl, simprocAttr]
      refine awp_sr [] (by rw [hC]; rfl) fun k hk => ?_
      simp (maxSteps := 9^9) (disch := (try simp only [lens]); omega) only [argSl, sm, ↓amb, mark_eq, simprocAttr, lE, mx, hgP, dx]
      repeat refine ⟨by first | omega | (simp; done) | (unfold maxLen; omega) | (simp [maxLen]; omega) | assumption, ?_⟩
      refine hk _ ?_; clear hk k
      refine awp_cond rfl (fun hb => ?_) (fun hb => ?_)
      ·rw [hgp.1] at hb; exact absurd hb (by simp)
      ·try simp only [hbx] at hb
       refine awp_skip ?_
       refine h5 _ ?_; clear h5 k5
       refine awp_le (le_keep [6, 7, 10, 11, 22, 23]) ?_
       simp only [kp, argSl, simprocAttr]
       refine awp_sr [] (by rw [hC]; rfl) fun k hk => ?_
       simp (maxSteps := 9^9) (disch := (try simp only [lens]); omega) only [argSl, sm, ↓amb, mark_eq, simprocAttr, sz78, fl81_0, lE, mx, hgP, dx]
       repeat refine ⟨by first | omega | (simp; done) | (unfold maxLen; omega) | (simp [maxLen]; omega) | assumption, ?_⟩
       refine hk _ ?_; clear hk k
       refine awp_le (le_keep [6, 7, 10, 11, 23]) ?_
       simp only [kp, argSl, simprocAttr]
       obtain ⟨ov, hov⟩ : ∃ o, o = c.over := ⟨_, rfl⟩
       rw [← hov]
       refine awp_srg [] (by rw [hC]; rfl) fun gd hgd k hk => ?_
       have g2 : gd 2 = some 163 := by rw [hgd]; rfl
       clear hgd
       simp (maxSteps := 9^9) (disch := (try simp only [lens]); omega) only [argSl, sm, ↓amb, mark_eq, simprocAttr, fl81_2, sz4, g2, a07, lE, mx, hgP, dx]
       repeat refine ⟨by first | omega | (simp; done) | (unfold maxLen; omega) | (simp [maxLen]; omega) | assumption, ?_⟩
       refine ⟨fun hg => ?_, fun hg => ?_⟩
       ·try simp only [hbx] at hg
        repeat refine ⟨by first | omega | (simp; done) | (unfold maxLen; omega) | (simp [maxLen]; omega) | assumption, ?_⟩
        refine hk _ ?_; clear hk k
        refine awp_le (le_keep [6, 7, 10, 11]) ?_
        simp only [kp, argSl, simprocAttr]
        refine awp_le (show LE _ (⟨[(6, (.ptr 1 7 0 0)), (7, (.ptr 2 4 0 0)), (10, (.ptr 3 7 0 0)), (11, (.ptr 4 4 0 0))], [(1, (.row 7 [[.p (.seq true []), .p (iV 0), .p (.seq true []), .p (.seq true []), .p (bV false), .p (iV 0), .p (iV 0)]])), (2, (.row 4 [[.p (iV 0), .p (iV 0), .p (iV 0), .p (bV false)]])), (3, (.row 7 [[.p (.seq false ((Pl.doW c.work ((c.dq.getD V default).getD 0 0)).ts.map taskC)), .p (iV (Pl.doW c.work ((c.dq.getD V default).getD 0 0)).grain), .p (.seq false ((Pl.doW c.work ((c.dq.getD V default).getD 0 0)).done.map fun b => [bV b])), .own 5, .p (bV (false || Pl.doO c.work ((c.dq.getD V default).getD 0 0))), .p (iV (c.steps + 1)), .p (iV c.idle)]])), (4, (.row 4 [[.p (iV (P : Int)), .p (iV (V : Int)), .p (iV ((c.dq.getD V default).getD 0 0)), .p (bV false)]])), (5, (.row 1 (lift ((c.dq.set V ((c.dq.getD V default).drop 1)).map lV))))], 1⟩ : LS) from le_of [(1, _), (2, _), (3, _), (4, _), (5, 5)] (by rfl) (by rfl) ⟨⟨_, rfl, .ptr rfl⟩, ⟨_, rfl, .ptr rfl⟩, ⟨_, rfl, .ptr rfl⟩, ⟨_, rfl, .ptr rfl⟩, trivial⟩ ⟨⟨_, rfl, _, rfl, .one (.cons (.p (.refl _)) (.cons (.p (.refl _)) (.cons (.p (.refl _)) (.cons (.p (.refl _)) (.cons (.p (.refl _)) (.cons (.p (.refl _)) (.cons (.p (.refl _)) (.nil))))))))⟩, ⟨_, rfl, _, rfl, .one (.cons (.p (.refl _)) (.cons (.p (.refl _)) (.cons (.p (.refl _)) (.cons (.p (.refl _)) (.nil)))))⟩, ⟨_, rfl, _, rfl, .one (.cons (.p (.refl _)) (.cons (.p (.refl _)) (.cons (.p (.refl _)) (.cons (.own rfl) (.cons (.p (.refl _)) (.cons (.p (.refl _)) (.cons (.p (.refl _)) (.nil))))))))⟩, ⟨_, rfl, _, rfl, .one (.cons (.p (.refl _)) (.cons (.p (.refl _)) (.cons (.p (.refl _)) (.cons (.p (.refl _)) (.nil)))))⟩, ⟨_, rfl, _, rfl, leB_outV (lE_set (lE_all _) V false ((c.dq.getD V default).drop 1))⟩, trivial⟩) ?_
        refine awp_sd [] ⟨[0, 0, 1, 7, 15], [], [2, 3], [], some [1, 2]⟩ (by rw [hC]; rfl) (by kernel_rfl) (by kernel_rfl) fun k hk => ?_
        simp (maxSteps := 9^9) (disch := (try simp only [lens]); omega) only [argSl, sm, ↓amb, mark_eq, simprocAttr, sz81, sz112, lE, mx, hgP, dx]
        repeat refine ⟨by first | omega | (simp; done) | (unfold maxLen; omega) | (simp [maxLen]; omega) | assumption, ?_⟩
        refine hk _ ?_; clear hk k
        refine awp_ret ?_
        subst hg
        rw [hgp.2, ← hov]
        refine retl rfl rfl ⟨retc rfl sz81 ?_, retc rfl sz112 ?_, rett rfl ?_, trivial⟩
        all_goals first | (simp (maxSteps := 9^9) (disch := (try simp only [lens]); omega) only [argSl, sm, ↓amb, mark_eq, simprocAttr, sz112, sz81, lE, mx, hgP, dx]) | skip
        ·exact .agg_cons (.p (LeP.refl _)) (.agg_cons (.p (LeP.refl _)) (.agg_cons (.p (LeP.refl _)) (.agg_cons (.ownE rfl rfl) (.agg_cons (.p (LeP.refl _)) (.agg_cons (.p (LeP.refl _)) (.agg_cons (.p (LeP.refl _)) (.agg_nil)))))))
        ·exact .p (LeP.refl _)
        ·exact .p (LeP.refl _)
       ·try simp only [hbx] at hg
        repeat refine ⟨by first | omega | (simp; done) | (unfold maxLen; omega) | (simp [maxLen]; omega) | assumption, ?_⟩
        refine hk _ ?_; clear hk k
        refine awp_le (le_keep [6, 7, 10, 11]) ?_
        simp only [kp, argSl, simprocAttr]
        refine awp_le (show LE _ (⟨[(6, (.ptr 1 7 0 0)), (7, (.ptr 2 4 0 0)), (10, (.ptr 3 7 0 0)), (11, (.ptr 4 4 0 0))], [(1, (.row 7 [[.p (.seq true []), .p (iV 0), .p (.seq true []), .p (.seq true []), .p (bV false), .p (iV 0), .p (iV 0)]])), (2, (.row 4 [[.p (iV 0), .p (iV 0), .p (iV 0), .p (bV false)]])), (3, (.row 7 [[.p (.seq false ((Pl.doW c.work ((c.dq.getD V default).getD 0 0)).ts.map taskC)), .p (iV (Pl.doW c.work ((c.dq.getD V default).getD 0 0)).grain), .p (.seq false ((Pl.doW c.work ((c.dq.getD V default).getD 0 0)).done.map fun b => [bV b])), .own 5, .p (bV (true || Pl.doO c.work ((c.dq.getD V default).getD 0 0))), .p (iV (c.steps + 1)), .p (iV c.idle)]])), (4, (.row 4 [[.p (iV (P : Int)), .p (iV (V : Int)), .p (iV ((c.dq.getD V default).getD 0 0)), .p (bV false)]])), (5, (.row 1 (lift ((c.dq.set V ((c.dq.getD V default).drop 1)).map lV))))], 1⟩ : LS) from le_of [(1, _), (2, _), (3, _), (4, _), (5, 5)] (by rfl) (by rfl) ⟨⟨_, rfl, .ptr rfl⟩, ⟨_, rfl, .ptr rfl⟩, ⟨_, rfl, .ptr rfl⟩, ⟨_, rfl, .ptr rfl⟩, trivial⟩ ⟨⟨_, rfl, _, rfl, .one (.cons (.p (.refl _)) (.cons (.p (.refl _)) (.cons (.p (.refl _)) (.cons (.p (.refl _)) (.cons (.p (.refl _)) (.cons (.p (.refl _)) (.cons (.p (.refl _)) (.nil))))))))⟩, ⟨_, rfl, _, rfl, .one (.cons (.p (.refl _)) (.cons (.p (.refl _)) (.cons (.p (.refl _)) (.cons (.p (.refl _)) (.nil)))))⟩, ⟨_, rfl, _, rfl, .one (.cons (.p (.refl _)) (.cons (.p (.refl _)) (.cons (.p (.refl _)) (.cons (.own rfl) (.cons (.p (.refl _)) (.cons (.p (.refl _)) (.cons (.p (.refl _)) (.nil))))))))⟩, ⟨_, rfl, _, rfl, .one (.cons (.p (.refl _)) (.cons (.p (.refl _)) (.cons (.p (.refl _)) (.cons (.p (.refl _)) (.nil)))))⟩, ⟨_, rfl, _, rfl, leB_outV (lE_set (lE_all _) V false ((c.dq.getD V default).drop 1))⟩, trivial⟩) ?_
        refine awp_sd [] ⟨[0, 0, 1, 7, 15], [], [2, 3], [], some [1, 2]⟩ (by rw [hC]; rfl) (by kernel_rfl) (by kernel_rfl) fun k hk => ?_
        simp (maxSteps := 9^9) (disch := (try simp only [lens]); omega) only [argSl, sm, ↓amb, mark_eq, simprocAttr, sz81, sz112, lE, mx, hgP, dx]
        repeat refine ⟨by first | omega | (simp; done) | (unfold maxLen; omega) | (simp [maxLen]; omega) | assumption, ?_⟩
        refine hk _ ?_; clear hk k
        refine awp_ret ?_
        subst hg
        rw [hgp.2, ← hov]
        refine retl rfl rfl ⟨retc rfl sz81 ?_, retc rfl sz112 ?_, rett rfl ?_, trivial⟩
        all_goals first | (simp (maxSteps := 9^9) (disch := (try simp only [lens]); omega) only [argSl, sm, ↓amb, mark_eq, simprocAttr, sz112, sz81, lE, mx, hgP, dx]) | skip
        ·exact .agg_cons (.p (LeP.refl _)) (.agg_cons (.p (LeP.refl _)) (.agg_cons (.p (LeP.refl _)) (.agg_cons (.ownE rfl rfl) (.agg_cons (.p (LeP.refl _)) (.agg_cons (.p (LeP.refl _)) (.agg_cons (.p (LeP.refl _)) (.agg_nil)))))))
        ·exact .p (LeP.refl _)
        ·exact .p (LeP.refl _)
    ·exact absurd hb (by simp)
set_option maxHeartbeats 4000000 in
theorem c_Step_i (c : Pl.Crew) (p v : Int) (hl : ∀ l, l ∈ c.dq → l.length ≤ 1000000 ∧ ∀ t, t ∈ l → -9223372036854775808 ≤ t ∧ t ≤ 9223372036854775807) (h0 : (Pl.step c p v).2.2 = 0) (hp : ¬ 0 < (c.dq.getD (Pl.num c.dq p).toNat default).length) (hv : ¬ 0 < (c.dq.getD (Pl.num c.dq v).toNat default).length) : PCall Try.prog 78 [.agg (crewC c), iV p, iV v] (.tup [.agg (crewC (Pl.step c p v).1), .agg (evC (Pl.step c p v).2.1), iV 0]) := by
 obtain ⟨P, V, hcp, hcv, hP, hV, hN, hPl, hVl, hcr, hst⟩ := Pl.step_at h0
 obtain ⟨hr1, hr2, hr3, hr4, hr5, hr6, hr7⟩ := id hcr
 have hRr : c.work.ts.length ≤ 2000 ∧ c.work.done.length ≤ 1000 := ⟨hr1.2.2.1, by have := hr1.1; unfold Pl.cnt at this; omega⟩
 have hlP := hl _ (Pl.getD_mem c.dq P default hPl)
 have hlV := hl _ (Pl.getD_mem c.dq V default hVl)
 rw [hP] at hp
 rw [hV] at hv
 have hso := Pl.step_idle' h0 hP hN hV hp hv
 have hle : (c.dq.getD P default) = [] := List.eq_nil_of_length_eq_zero (by omega)
 have hpop : PCall Try.prog 90 [ints false (c.dq.getD P default)] (.tup [ints false [], iV 0, iV 4]) := by rw [hle]; exact c18 false [] (by decide)
 have hlv : (c.dq.getD V default) = [] := List.eq_nil_of_length_eq_zero (by omega)
 have hsl : PCall Try.prog 91 [ints false (c.dq.getD V default)] (.tup [ints false [], iV 0, iV 4]) := by rw [hlv]; exact c20 false [] (by decide)
 refine pcall_of_awp Try.func78 rfl (by simp [Try.ntmps78]) fun C hC => ?_
 refine awp_le (le_keep [0, 1, 2]) ?_
 simp only [kp, argSl, simprocAttr]
 refine awp_sr [] (by rw [hC]; rfl) fun k hk => ?_
 simp (maxSteps := 9^9) (disch := (try simp only [lens]); omega) only [argSl, sm, ↓amb, mark_eq, simprocAttr, vr81, vr112, lE, mx, dx]
 repeat refine ⟨by first | omega | (simp; done) | (unfold maxLen; omega) | (simp [maxLen]; omega) | assumption, ?_⟩
 refine hk _ ?_; clear hk k
 refine awp_seq fun k1 h1 => ?_
 refine awp_block ?_
 refine awp_le (le_keep [1, 2, 3, 6, 7, 8]) ?_
 simp only [kp, argSl, simprocAttr]
 refine awp_sr [] (by rw [hC]; rfl) fun k hk => ?_
 simp (maxSteps := 9^9) (disch := (try simp only [lens]); omega) only [argSl, sm, ↓amb, mark_eq, simprocAttr, sz81, en87, lE, mx, dx]
 repeat refine ⟨by first | omega | (simp; done) | (unfold maxLen; omega) | (simp [maxLen]; omega) | assumption, ?_⟩
 refine callK_p (c_ref05_Right _ hl) rfl ?_
 simp (maxSteps := 9^9) (disch := (try simp only [lens]); omega) only [argSl, sm, ↓amb, mark_eq, simprocAttr, sz81, en87, lE, mx, dx]
 repeat refine ⟨by first | omega | (simp; done) | (unfold maxLen; omega) | (simp [maxLen]; omega) | assumption, ?_⟩
 refine hk _ ?_; clear hk k
 refine awp_cond rfl (fun hb => ?_) (fun hb => ?_)
 ·exact absurd hcr (by simpa using hb)
 ·try simp only [hbx] at hb
  refine awp_le (le_keep [1, 2, 3, 6, 7, 8]) ?_
  simp only [kp, argSl, simprocAttr]
  refine awp_sr [] (by rw [hC]; rfl) fun k hk => ?_
  simp (maxSteps := 9^9) (disch := (try simp only [lens]); omega) only [argSl, sm, ↓amb, mark_eq, simprocAttr, fl81_3, sz3, lE, mx, dx]
  repeat refine ⟨by first | omega | (simp; done) | (unfold maxLen; omega) | (simp [maxLen]; omega) | assumption, ?_⟩
  refine hk _ ?_; clear hk k
  refine awp_cond rfl (fun hb => ?_) (fun hb => ?_)
  ·exact absurd (beq_iff_eq.mp hb) hst
  ·try simp only [hbx] at hb
   refine awp_skip ?_
   refine h1 _ ?_; clear h1 k1
   refine awp_le (le_keep [1, 2, 3, 6, 7]) ?_
   simp only [kp, argSl, simprocAttr]
   refine awp_sr [] (by rw [hC]; rfl) fun k hk => ?_
   simp (maxSteps := 9^9) (disch := (try simp only [lens]); omega) only [argSl, sm, ↓amb, mark_eq, simprocAttr, fl81_1, sz79, el79, lE, mx, dx]
   repeat refine ⟨by first | omega | (simp; done) | (unfold maxLen; omega) | (simp [maxLen]; omega) | assumption, ?_⟩
   refine hk _ ?_; clear hk k
   refine awp_le (le_keep [1, 2, 3, 6, 7, 9]) ?_
   simp only [kp, argSl, simprocAttr]
   refine awp_sr [] (by rw [hC]; rfl) fun k hk => ?_
   simp (maxSteps := 9^9) (disch := (try simp only [lens]); omega) only [argSl, sm, ↓amb, mark_eq, simprocAttr, en88, lE, mx, dx]
   repeat refine ⟨by first | omega | (simp; done) | (unfold maxLen; omega) | (simp [maxLen]; omega) | assumption, ?_⟩
   refine callK_p (c_ref05_cut _ _ (by omega)) rfl ?_
   simp (maxSteps := 9^9) (disch := (try simp only [lens]); omega) only [argSl, sm, ↓amb, mark_eq, simprocAttr, en88, lE, mx, dx]
   repeat refine ⟨by first | omega | (simp; done) | (unfold maxLen; omega) | (simp [maxLen]; omega) | assumption, ?_⟩
   refine callK_p (c_ref05_cut _ _ (by omega)) rfl ?_
   simp (maxSteps := 9^9) (disch := (try simp only [lens]); omega) only [argSl, sm, ↓amb, mark_eq, simprocAttr, en88, lE, mx, dx]
   repeat refine ⟨by first | omega | (simp; done) | (unfold maxLen; omega) | (simp [maxLen]; omega) | assumption, ?_⟩
   refine hk _ ?_; clear hk k
   refine awp_le (le_keep [1, 2, 3, 6, 7]) ?_
   simp only [kp, argSl, simprocAttr]
   rw [hcp, hcv]
   refine awp_sr [] (by rw [hC]; rfl) fun k hk => ?_
   simp (maxSteps := 9^9) (disch := (try simp only [lens]); omega) only [argSl, sm, ↓amb, mark_eq, simprocAttr, sz81, en89, vr81, lE, mx, dx]
   repeat refine ⟨by first | omega | (simp; done) | (unfold maxLen; omega) | (simp [maxLen]; omega) | assumption, ?_⟩
   refine callK_h (c_Copy_h c (by omega) (by omega) (by omega) (fun l h => (hl l h).1)) [] [] (by first | rfl | (simp only [hm]; done)) (by first | rfl | (simp [namesOk, lkp]; done)) ?_ ?_ ?_ ?_ ?_ ?_ ?_
   (iterate 6 (focus (first | trivial | (intro n hn; cases hn; done) | (simp (maxSteps := 9^9) (disch := (try simp only [lens]); omega) only [argSl, sm, ↓amb, mark_eq, simprocAttr, sz81, en89, vr81, lE, mx, dx, hmx, List.filter_cons, Nat.reduceBNe, imp_self, implies_true]; done))))
   simp (maxSteps := 9^9) (disch := (try simp only [lens]); omega) only [argSl, sm, ↓amb, mark_eq, simprocAttr, sz81, en89, vr81, lE, mx, dx, hm, List.filter_cons, List.filter_nil, Nat.reduceBNe, Option.map_none]
   repeat refine ⟨by first | omega | (simp; done) | (unfold maxLen; omega) | (simp [maxLen]; omega) | assumption, ?_⟩
   refine hk _ ?_; clear hk k
   refine awp_le (le_keep [1, 2, 3, 6, 7, 10]) ?_
   simp only [kp, argSl, simprocAttr]
   refine awp_sr [] (by rw [hC]; rfl) fun k hk => ?_
   simp (maxSteps := 9^9) (disch := (try simp only [lens]); omega) only [argSl, sm, ↓amb, mark_eq, simprocAttr, fl81_3, sz3, lE, mx, dx]
   repeat refine ⟨by first | omega | (simp; done) | (unfold maxLen; omega) | (simp [maxLen]; omega) | assumption, ?_⟩
   refine hk _ ?_; clear hk k
   refine awp_le (le_keep [1, 2, 3, 6, 7, 10]) ?_
   simp only [kp, argSl, simprocAttr]
   refine awp_sr [] (by rw [hC]; rfl) fun k hk => ?_
   simp (maxSteps := 9^9) (disch := (try simp only [lens]); omega) only [argSl, sm, ↓amb, mark_eq, simprocAttr, vr112, bt112, pl112_0, pl112_1, pl112_2, sz112, lE, mx, dx]
   repeat refine ⟨by first | omega | (simp; done) | (unfold maxLen; omega) | (simp [maxLen]; omega) | assumption, ?_⟩
   refine hk _ ?_; clear hk k
   refine awp_seq fun k2 h2 => ?_
   refine awp_le (le_keep [1, 2, 3, 6, 7, 8, 10, 11]) ?_
   simp only [kp, argSl, simprocAttr]
   refine awp_sr [] (by rw [hC]; rfl) fun k hk => ?_
   simp (maxSteps := 9^9) (disch := (try simp only [lens]); omega) only [argSl, sm, ↓amb, mark_eq, simprocAttr, fl81_1, sz79, el79, sz32, en90, lE, mx, dx]
   repeat refine ⟨by first | omega | (simp; done) | (unfold maxLen; omega) | (simp [maxLen]; omega) | assumption, ?_⟩
   refine callK_p (hpop) rfl ?_
   simp (maxSteps := 9^9) (disch := (try simp only [lens]); omega) only [argSl, sm, ↓amb, mark_eq, simprocAttr, fl81_1, sz79, el79, sz32, en90, lE, mx, dx]
   repeat refine ⟨by first | omega | (simp; done) | (unfold maxLen; omega) | (simp [maxLen]; omega) | assumption, ?_⟩
   refine hk _ ?_; clear hk k
   refine awp_le (le_keep [1, 2, 3, 6, 7, 8, 10, 11, 12, 13, 14]) ?_
   simp only [kp, argSl, simprocAttr]
   refine awp_sr [] (by rw [hC]; rfl) fun k hk => ?_
   simp (maxSteps := 9^9) (disch := (try simp only [lens]); omega) only [argSl, sm, ↓amb, mark_eq, simprocAttr, lE, mx, dx]
   repeat refine ⟨by first | omega | (simp; done) | (unfold maxLen; omega) | (simp [maxLen]; omega) | assumption, ?_⟩
   refine hk _ ?_; clear hk k
   refine awp_cond rfl (fun hb => ?_) (fun hb => ?_)
   ·exact absurd hb (by simp)
   ·try simp only [hbx] at hb
    refine awp_le (le_keep [1, 2, 3, 6, 7, 8, 10, 11]) ?_
    simp only [kp, argSl, simprocAttr]
    refine awp_sr [] (by rw [hC]; rfl) fun k hk => ?_
    simp (maxSteps := 9^9) (disch := (try simp only [lens]); omega) only [argSl, sm, ↓amb, mark_eq, simprocAttr, fl81_1, sz79, el79, sz32, en91, lE, mx, dx]
    repeat refine ⟨by first | omega | (simp; done) | (unfold maxLen; omega) | (simp [maxLen]; omega) | assumption, ?_⟩
    refine callK_p (hsl) rfl ?_
    simp (maxSteps := 9^9) (disch := (try simp only [lens]); omega) only [argSl, sm, ↓amb, mark_eq, simprocAttr, fl81_1, sz79, el79, sz32, en91, lE, mx, dx]
    repeat refine ⟨by first | omega | (simp; done) | (unfold maxLen; omega) | (simp [maxLen]; omega) | assumption, ?_⟩
    refine hk _ ?_; clear hk k
    refine awp_le (le_keep [1, 2, 3, 6, 7, 8, 10, 11, 15, 16, 17]) ?_
    simp only [kp, argSl, simprocAttr]
    refine awp_sr [] (by rw [hC]; rfl) fun k hk => ?_
    simp (maxSteps := 9^9) (disch := (try simp only [lens]); omega) only [argSl, sm, ↓amb, mark_eq, simprocAttr, lE, mx, dx]
    repeat refine ⟨by first | omega | (simp; done) | (unfold maxLen; omega) | (simp [maxLen]; omega) | assumption, ?_⟩
    refine hk _ ?_; clear hk k
    refine awp_cond rfl (fun hb => ?_) (fun hb => ?_)
    ·exact absurd hb (by simp)
    ·try simp only [hbx] at hb
     refine awp_seq fun k3 h3 => ?_
     refine awp_le (le_keep [1, 3, 6, 7, 8, 10, 11]) ?_
     simp only [kp, argSl, simprocAttr]
     refine awp_sr [] (by rw [hC]; rfl) fun k hk => ?_
     simp (maxSteps := 9^9) (disch := (try simp only [lens]); omega) only [argSl, sm, ↓amb, mark_eq, simprocAttr, fl81_4, sz3, lE, mx, dx]
     repeat refine ⟨by first | omega | (simp; done) | (unfold maxLen; omega) | (simp [maxLen]; omega) | assumption, ?_⟩
     refine hk _ ?_; clear hk k
     refine awp_cond rfl (fun hb => ?_) (fun hb => ?_)
     ·exact absurd (beq_iff_eq.mp hb) hso.1
     ·try simp only [hbx] at hb
      refine awp_skip ?_
      refine h3 _ ?_; clear h3 k3
      refine awp_le (le_keep [6, 7, 10, 11]) ?_
      simp only [kp, argSl, simprocAttr]
      refine awp_sr [] (by rw [hC]; rfl) fun k hk => ?_
      simp (maxSteps := 9^9) (disch := (try simp only [lens]); omega) only [argSl, sm, ↓amb, mark_eq, simprocAttr, fl81_4, sz3, lE, mx, dx]
      repeat refine ⟨by first | omega | (simp; done) | (unfold maxLen; omega) | (simp [maxLen]; omega) | assumption, ?_⟩
      refine hk _ ?_; clear hk k
      refine awp_le (le_keep [6, 7, 10, 11]) ?_
      simp only [kp, argSl, simprocAttr]
      refine awp_le (show LE _ (⟨[(6, (.ptr 1 7 0 0)), (7, (.ptr 2 4 0 0)), (10, (.ptr 3 7 0 0)), (11, (.ptr 4 4 0 0))], [(1, (.row 7 [[.p (.seq true []), .p (iV 0), .p (.seq true []), .p (.seq true []), .p (bV false), .p (iV 0), .p (iV 0)]])), (2, (.row 4 [[.p (iV 0), .p (iV 0), .p (iV 0), .p (bV false)]])), (3, (.row 7 [[.p (.seq false (c.work.ts.map taskC)), .p (iV c.work.grain), .p (.seq false (c.work.done.map fun b => [bV b])), .own 5, .p (bV c.over), .p (iV (c.steps + 1)), .p (iV (c.idle + 1))]])), (4, (.row 4 [[.p (iV (P : Int)), .p (iV (-1)), .p (iV (-1)), .p (bV false)]])), (5, (.row 1 (lift (c.dq.map lV))))], 1⟩ : LS) from le_of [(1, _), (2, _), (3, _), (4, _), (5, _)] (by rfl) (by rfl) ⟨⟨_, rfl, .ptr rfl⟩, ⟨_, rfl, .ptr rfl⟩, ⟨_, rfl, .ptr rfl⟩, ⟨_, rfl, .ptr rfl⟩, trivial⟩ ⟨⟨_, rfl, _, rfl, .one (.cons (.p (.refl _)) (.cons (.p (.refl _)) (.cons (.p (.refl _)) (.cons (.p (.refl _)) (.cons (.p (.refl _)) (.cons (.p (.refl _)) (.cons (.p (.refl _)) (.nil))))))))⟩, ⟨_, rfl, _, rfl, .one (.cons (.p (.refl _)) (.cons (.p (.refl _)) (.cons (.p (.refl _)) (.cons (.p (.refl _)) (.nil)))))⟩, ⟨_, rfl, _, rfl, .one (.cons (.p (.refl _)) (.cons (.p (.refl _)) (.cons (.p (.refl _)) (.cons (.own rfl) (.cons (.p (.refl _)) (.cons (.p (.refl _)) (.cons (.p (.refl _)) (.nil))))))))⟩, ⟨_, rfl, _, rfl, .one (.cons (.p (.refl _)) (.cons (.p (.refl _)) (.cons (.p (.refl _)) (.cons (.p (.refl _)) (.nil)))))⟩, ⟨_, rfl, _, rfl, leB_outV (lE_all _)⟩, trivial⟩) ?_
      refine awp_sd [] ⟨[0, 0, 1, 7, 15], [], [2, 3], [], some [1, 2]⟩ (by rw [hC]; rfl) (by kernel_rfl) (by kernel_rfl) fun k hk => ?_
      simp (maxSteps := 9^9) (disch := (try simp only [lens]); omega) only [argSl, sm, ↓amb, mark_eq, simprocAttr, sz81, sz112, lE, mx, dx]
      repeat refine ⟨by first | omega | (simp; done) | (unfold maxLen; omega) | (simp [maxLen]; omega) | assumption, ?_⟩
      refine hk _ ?_; clear hk k
      refine awp_ret ?_
      rw [hso.2]
      refine retl rfl rfl ⟨retc rfl sz81 ?_, retc rfl sz112 ?_, rett rfl ?_, trivial⟩
      all_goals first | (simp (maxSteps := 9^9) (disch := (try simp only [lens]); omega) only [argSl, sm, ↓amb, mark_eq, simprocAttr, sz112, sz81, lE, mx, dx]) | skip
      ·exact .agg_cons (.p (LeP.refl _)) (.agg_cons (.p (LeP.refl _)) (.agg_cons (.p (LeP.refl _)) (.agg_cons (.ownE rfl rfl) (.agg_cons (.p (LeP.refl _)) (.agg_cons (.p (LeP.refl _)) (.agg_cons (.p (LeP.refl _)) (.agg_nil)))))))
      ·exact .p (LeP.refl _)
      ·exact .p (LeP.refl _)
end Go.Proofs.Ythelnccjcbnjfaa
