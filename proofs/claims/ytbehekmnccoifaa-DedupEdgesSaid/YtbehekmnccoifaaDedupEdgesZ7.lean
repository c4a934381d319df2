/-
  DedupEdges, part 7 of 7: what the proof that the law holds at whatever arguments stands on; the last part holds the theorem. No condition.
-/
import Derived.Test.YtbehekmnccoifaaDedupEdgesZ6
import Derived.Test.YtbehekmnccoifaaRows
section
set_option linter.unusedSimpArgs false
set_option linter.unusedVariables false
set_option maxRecDepth 100000
namespace Go.Proofs.Ytbehekmnccoifaa
open Go.Am Go.Proofs
theorem en87 : enters Try.prog 87 = true := by kernel_rfl
set_option maxHeartbeats 4000000 in
theorem c_Step_s (c : Pl.Crew) (p v : Int) (hl : ∀ l, l ∈ c.dq → l.length ≤ 1000000 ∧ ∀ t, t ∈ l → -9223372036854775808 ≤ t ∧ t ≤ 9223372036854775807) (h0 : (Pl.step c p v).2.2 = 0) (hp : ¬ 0 < (c.dq.getD (Pl.num c.dq p).toNat default).length) (hv : 0 < (c.dq.getD (Pl.num c.dq v).toNat default).length) : PCall Try.prog 72 [.agg (crewC c), iV p, iV v] (.tup [.agg (crewC (Pl.step c p v).1), .agg (evC (Pl.step c p v).2.1), iV 0]) := by
 obtain ⟨P, V, hcp, hcv, hP, hV, hN, hPl, hVl, hcr, hst⟩ := Pl.step_at h0
 obtain ⟨hr1, hr2, hr3, hr4, hr5, hr6, hr7⟩ := id hcr
 have hRr : c.work.ts.length ≤ 2000 ∧ c.work.done.length ≤ 1000 := ⟨hr1.2.2.1, by have := hr1.1; unfold Pl.cnt at this; omega⟩
 have hlP := hl _ (Pl.getD_mem c.dq P default hPl)
 have hlV := hl _ (Pl.getD_mem c.dq V default hVl)
 rw [hP] at hp
 rw [hV] at hv
 have hso := Pl.step_steal h0 hP hN hV hp hv (t := ((c.dq.getD V default).getD 0 0)) rfl
 have hle : (c.dq.getD P default) = [] := List.eq_nil_of_length_eq_zero (by omega)
 have hpop : PCall Try.prog 86 [ints false (c.dq.getD P default)] (.tup [ints false [], iV 0, iV 4]) := by rw [hle]; exact c18 false [] (by decide)
 have hne : V ≠ P := fun e => hp (e ▸ hv)
 have hgP : ((c.dq.map lE).set V [PV.seq false (((c.dq.getD V default).drop 1).map fun n => [iV n])]).getD P [] = [PV.seq true []] := lE_get hPl hne hle _
 have hsl : PCall Try.prog 87 [ints false (c.dq.getD V default)] (.tup [ints false ((c.dq.getD V default).drop 1), iV ((c.dq.getD V default).getD 0 0), iV 0]) := by have q := c20 false (c.dq.getD V default) hlV.1; unfold stealS at q; rw [if_neg (by intro e; rw [e] at hv; exact absurd hv (by decide))] at q; exact q
 refine yV Try.func72 rfl (by simp [Try.ntmps72]) fun C hC => ?_
 refine zW (zV [0, 1, 2]) ?_
 simp only [kp, zJ, simprocAttr]
 refine zK [] (by rw [hC]; rfl) fun k hk => ?_
 simp (maxSteps := 9^9) (disch := (try simp only [lens]); omega) only [zJ, sm, ↓amb, zQ, simprocAttr, vr91, vr112, lE, mx, hgP, dx]
 repeat refine an ?_
 refine hk _ ?_; clear hk k
 refine zY fun k1 h1 => ?_
 refine yK ?_
 refine zW (zV [1, 2, 3, 6, 7, 8]) ?_
 simp only [kp, zJ, simprocAttr]
 refine zK [] (by rw [hC]; rfl) fun k hk => ?_
 simp (maxSteps := 9^9) (disch := (try simp only [lens]); omega) only [zJ, sm, ↓amb, zQ, simprocAttr, sz91, en83, lE, mx, hgP, dx]
 repeat refine an ?_
 refine yW (c_ref05_Right _ hl) rfl ?_
 simp (maxSteps := 9^9) (disch := (try simp only [lens]); omega) only [zJ, sm, ↓amb, zQ, simprocAttr, sz91, en83, lE, mx, hgP, dx]
 repeat refine an ?_
 refine hk _ ?_; clear hk k
 refine zX rfl (fun hb => ?_) (fun hb => ?_)
 ·exact absurd hcr (by simpa using hb)
 ·try simp only [hbx] at hb
  refine zW (zV [1, 2, 3, 6, 7, 8]) ?_
  simp only [kp, zJ, simprocAttr]
  refine zK [] (by rw [hC]; rfl) fun k hk => ?_
  simp (maxSteps := 9^9) (disch := (try simp only [lens]); omega) only [zJ, sm, ↓amb, zQ, simprocAttr, fl91_3, sz3, lE, mx, hgP, dx]
  repeat refine an ?_
  refine hk _ ?_; clear hk k
  refine zX rfl (fun hb => ?_) (fun hb => ?_)
  ·exact absurd (beq_iff_eq.mp hb) hst
  ·try simp only [hbx] at hb
   refine yJ ?_
   refine h1 _ ?_; clear h1 k1
   refine zW (zV [1, 2, 3, 6, 7]) ?_
   simp only [kp, zJ, simprocAttr]
   refine zK [] (by rw [hC]; rfl) fun k hk => ?_
   simp (maxSteps := 9^9) (disch := (try simp only [lens]); omega) only [zJ, sm, ↓amb, zQ, simprocAttr, fl91_1, sz89, el89, lE, mx, hgP, dx]
   repeat refine an ?_
   refine hk _ ?_; clear hk k
   refine zW (zV [1, 2, 3, 6, 7, 9]) ?_
   simp only [kp, zJ, simprocAttr]
   refine zK [] (by rw [hC]; rfl) fun k hk => ?_
   simp (maxSteps := 9^9) (disch := (try simp only [lens]); omega) only [zJ, sm, ↓amb, zQ, simprocAttr, en84, lE, mx, hgP, dx]
   repeat refine an ?_
   refine yW (c_ref05_cut _ _ (by omega)) rfl ?_
   simp (maxSteps := 9^9) (disch := (try simp only [lens]); omega) only [zJ, sm, ↓amb, zQ, simprocAttr, en84, lE, mx, hgP, dx]
   repeat refine an ?_
   refine yW (c_ref05_cut _ _ (by omega)) rfl ?_
   simp (maxSteps := 9^9) (disch := (try simp only [lens]); omega) only [zJ, sm, ↓amb, zQ, simprocAttr, en84, lE, mx, hgP, dx]
   repeat refine an ?_
   refine hk _ ?_; clear hk k
   refine zW (zV [1, 2, 3, 6, 7]) ?_
   simp only [kp, zJ, simprocAttr]
   rw [hcp, hcv]
   refine zK [] (by rw [hC]; rfl) fun k hk => ?_
   simp (maxSteps := 9^9) (disch := (try simp only [lens]); omega) only [zJ, sm, ↓amb, zQ, simprocAttr, sz91, en85, vr91, lE, mx, hgP, dx]
   repeat refine an ?_
   refine callK_h (c_Copy_h c (by omega) (by omega) (by omega) (fun l h => (hl l h).1)) [] [] (by first | rfl | (simp only [hm]; done)) (by first | rfl | (simp [namesOk, lkp]; done)) ?_ ?_ ?_ ?_ ?_ ?_ ?_
   (iterate 6 (focus (first | trivial | (intro n hn; cases hn; done) | (simp (maxSteps := 9^9) (disch := (try simp only [lens]); omega) only [zJ, sm, ↓amb, zQ, simprocAttr, sz91, en85, vr91, lE, mx, hgP, dx, hmx, List.filter_cons, Nat.reduceBNe, imp_self, implies_true]; done))))
   simp (maxSteps := 9^9) (disch := (try simp only [lens]); omega) only [zJ, sm, ↓amb, zQ, simprocAttr, sz91, en85, vr91, lE, mx, hgP, dx, hm, List.filter_cons, List.filter_nil, Nat.reduceBNe, Option.map_none]
   repeat refine an ?_
   refine hk _ ?_; clear hk k
   refine zW (zV [1, 2, 3, 6, 7, 10]) ?_
   simp only [kp, zJ, simprocAttr]
   refine zK [] (by rw [hC]; rfl) fun k hk => ?_
   simp (maxSteps := 9^9) (disch := (try simp only [lens]); omega) only [zJ, sm, ↓amb, zQ, simprocAttr, fl91_3, sz3, lE, mx, hgP, dx]
   repeat refine an ?_
   refine hk _ ?_; clear hk k
   refine zW (zV [1, 2, 3, 6, 7, 10]) ?_
   simp only [kp, zJ, simprocAttr]
   refine zK [] (by rw [hC]; rfl) fun k hk => ?_
   simp (maxSteps := 9^9) (disch := (try simp only [lens]); omega) only [zJ, sm, ↓amb, zQ, simprocAttr, vr112, bt112, pl112_0, pl112_1, pl112_2, sz112, lE, mx, hgP, dx]
   repeat refine an ?_
   refine hk _ ?_; clear hk k
   refine zY fun k2 h2 => ?_
   refine zW (zV [1, 2, 3, 6, 7, 8, 10, 11]) ?_
   simp only [kp, zJ, simprocAttr]
   refine zK [] (by rw [hC]; rfl) fun k hk => ?_
   simp (maxSteps := 9^9) (disch := (try simp only [lens]); omega) only [zJ, sm, ↓amb, zQ, simprocAttr, fl91_1, sz89, el89, sz33, en86, lE, mx, hgP, dx]
   repeat refine an ?_
   refine yW (hpop) rfl ?_
   simp (maxSteps := 9^9) (disch := (try simp only [lens]); omega) only [zJ, sm, ↓amb, zQ, simprocAttr, fl91_1, sz89, el89, sz33, en86, lE, mx, hgP, dx]
   repeat refine an ?_
   refine hk _ ?_; clear hk k
   refine zW (zV [1, 2, 3, 6, 7, 8, 10, 11, 12, 13, 14]) ?_
   simp only [kp, zJ, simprocAttr]
   refine zK [] (by rw [hC]; rfl) fun k hk => ?_
   simp (maxSteps := 9^9) (disch := (try simp only [lens]); omega) only [zJ, sm, ↓amb, zQ, simprocAttr, lE, mx, hgP, dx]
   repeat refine an ?_
   refine hk _ ?_; clear hk k
   refine zX rfl (fun hb => ?_) (fun hb => ?_)
   ·exact absurd hb (by simp)
   ·try simp only [hbx] at hb
    refine zW (zV [1, 2, 3, 6, 7, 8, 10, 11]) ?_
    simp only [kp, zJ, simprocAttr]
    refine zK [] (by rw [hC]; rfl) fun k hk => ?_
    simp (maxSteps := 9^9) (disch := (try simp only [lens]); omega) only [zJ, sm, ↓amb, zQ, simprocAttr, fl91_1, sz89, el89, sz33, en87, lE, mx, hgP, dx]
    repeat refine an ?_
    refine yW (hsl) rfl ?_
    simp (maxSteps := 9^9) (disch := (try simp only [lens]); omega) only [zJ, sm, ↓amb, zQ, simprocAttr, fl91_1, sz89, el89, sz33, en87, lE, mx, hgP, dx]
    repeat refine an ?_
    refine hk _ ?_; clear hk k
    refine zW (zV [1, 2, 3, 6, 7, 8, 10, 11, 15, 16, 17]) ?_
    simp only [kp, zJ, simprocAttr]
    refine zK [] (by rw [hC]; rfl) fun k hk => ?_
    simp (maxSteps := 9^9) (disch := (try simp only [lens]); omega) only [zJ, sm, ↓amb, zQ, simprocAttr, lE, mx, hgP, dx]
    repeat refine an ?_
    refine hk _ ?_; clear hk k
    refine zX rfl (fun hb => ?_) (fun hb => ?_)
    ·try simp only [hbx] at hb
     refine yZ [] (by rw [hC]; rfl) fun k hk => ?_
     simp (maxSteps := 9^9) (disch := (try simp only [lens]); omega) only [zJ, sm, ↓amb, zQ, simprocAttr, fl91_1, sz89, el89, sz33, fl112_1, sz3, fl112_2, lE, mx, hgP, dx]
     repeat refine an ?_
     refine hk _ ?_; clear hk k
     refine h2 _ ?_; clear h2 k2
     refine zY fun k3 h3 => ?_
     refine zW (zV [1, 3, 6, 7, 8, 10, 11]) ?_
     simp only [kp, zJ, simprocAttr]
     refine zW (show LE _ (⟨[(1, (.p (iV (P : Int)))), (3, (.ptr 0 7 0 0)), (6, (.ptr 1 7 0 0)), (7, (.ptr 2 4 0 0)), (10, (.ptr 3 7 0 0)), (11, (.ptr 4 4 0 0))], [(0, (.row 7 [[.p (.seq false (c.work.ts.map taskC)), .p (iV c.work.grain), .p (.seq false (c.work.done.map fun b => [bV b])), .p (.seq false (c.dq.map lV)), .p (bV c.over), .p (iV c.steps), .p (iV c.idle)]])), (1, (.row 7 [[.p (.seq true []), .p (iV 0), .p (.seq true []), .p (.seq true []), .p (bV false), .p (iV 0), .p (iV 0)]])), (2, (.row 4 [[.p (iV 0), .p (iV 0), .p (iV 0), .p (bV false)]])), (3, (.row 7 [[.p (.seq false (c.work.ts.map taskC)), .p (iV c.work.grain), .p (.seq false (c.work.done.map fun b => [bV b])), .own 5, .p (bV c.over), .p (iV (c.steps + 1)), .p (iV c.idle)]])), (4, (.row 4 [[.p (iV (P : Int)), .p (iV (V : Int)), .p (iV ((c.dq.getD V default).getD 0 0)), .p (bV false)]])), (5, (.row 1 (lift ((c.dq.map lE).set V [PV.seq false (((c.dq.getD V default).drop 1).map fun n => [iV n])]))))], 1⟩ : LS) from le_of [(0, _), (1, _), (2, _), (3, _), (4, _), (5, _)] (by rfl) (by rfl) ⟨⟨_, rfl, .oe⟩, ⟨_, rfl, .ptr rfl⟩, ⟨_, rfl, .ptr rfl⟩, ⟨_, rfl, .ptr rfl⟩, ⟨_, rfl, .ptr rfl⟩, ⟨_, rfl, .ptr rfl⟩, trivial⟩ ⟨⟨_, rfl, _, rfl, .one (.cons (.p (.refl _)) (.cons (.p (.refl _)) (.cons (.p (.refl _)) (.cons (.p (.refl _)) (.cons (.p (.refl _)) (.cons (.p (.refl _)) (.cons (.p (.refl _)) (.nil))))))))⟩, ⟨_, rfl, _, rfl, .one (.cons (.p (.refl _)) (.cons (.p (.refl _)) (.cons (.p (.refl _)) (.cons (.p (.refl _)) (.cons (.p (.refl _)) (.cons (.p (.refl _)) (.cons (.p (.refl _)) (.nil))))))))⟩, ⟨_, rfl, _, rfl, .one (.cons (.p (.refl _)) (.cons (.p (.refl _)) (.cons (.p (.refl _)) (.cons (.p (.refl _)) (.nil)))))⟩, ⟨_, rfl, _, rfl, .one (.cons (.p (.refl _)) (.cons (.p (.refl _)) (.cons (.p (.refl _)) (.cons (.own rfl) (.cons (.p (.refl _)) (.cons (.p (.refl _)) (.cons (.p (.refl _)) (.nil))))))))⟩, ⟨_, rfl, _, rfl, .one (.cons (.p (.refl _)) (.cons (.p (.refl _)) (.cons (.p (.refl _)) (.cons (.p (.refl _)) (.nil)))))⟩, ⟨_, rfl, _, rfl, .liftE rfl⟩, trivial⟩) ?_
     refine zK [] (by rw [hC]; rfl) fun k hk => ?_
     simp (maxSteps := 9^9) (disch := (try simp only [lens]); omega) only [zJ, sm, ↓amb, zQ, simprocAttr, fl91_0, sz88, fl112_2, sz3, en88, lE, mx, hgP, dx]
     repeat refine an ?_
     refine yW (c40 _ _ _ _) rfl ?_
     simp (maxSteps := 9^9) (disch := (try simp only [lens]); omega) only [zJ, sm, ↓amb, zQ, simprocAttr, fl91_0, sz88, fl112_2, sz3, en88, lE, mx, hgP, dx]
     repeat refine an ?_
     refine hk _ ?_; clear hk k
     refine zX rfl (fun hb => ?_) (fun hb => ?_)
     ·try simp only [hbx] at hb
      refine zW (zV [1, 3, 6, 7, 10, 11]) ?_
      simp only [kp, zJ, simprocAttr]
      have hgp := hso.1 hb
      refine zK [] (by rw [hC]; rfl) fun k hk => ?_
      simp (maxSteps := 9^9) (disch := (try simp only [lens]); omega) only [zJ, sm, ↓amb, zQ, simprocAttr, fl91_0, sz88, fl112_2, sz3, en89, vr88, lE, mx, hgP, dx]
      repeat refine an ?_
      refine yW (c29 _ _ _ _) rfl ?_
      simp (maxSteps := 9^9) (disch := (try simp only [lens]); omega) only [zJ, sm, ↓amb, zQ, simprocAttr, fl91_0, sz88, fl112_2, sz3, en89, vr88, lE, mx, hgP, dx]
      repeat refine an ?_
      refine hk _ ?_; clear hk k
      refine zY fun k4 h4 => ?_
      refine zW (zV [1, 3, 6, 7, 8, 10, 11, 18, 19, 20, 21]) ?_
      simp only [kp, zJ, simprocAttr]
      refine zK [] (by rw [hC]; rfl) fun k hk => ?_
      simp (maxSteps := 9^9) (disch := (try simp only [lens]); omega) only [zJ, sm, ↓amb, zQ, simprocAttr, lE, mx, hgP, dx]
      repeat refine an ?_
      refine hk _ ?_; clear hk k
      refine zX rfl (fun hb => ?_) (fun hb => ?_)
      ·rw [hgp.1] at hb; exact absurd hb (by simp)
      ·try simp only [hbx] at hb
       refine yJ ?_
       refine h4 _ ?_; clear h4 k4
       refine zW (zV [1, 6, 7, 10, 11, 18, 19, 20]) ?_
       simp only [kp, zJ, simprocAttr]
       refine zK [] (by rw [hC]; rfl) fun k hk => ?_
       simp (maxSteps := 9^9) (disch := (try simp only [lens]); omega) only [zJ, sm, ↓amb, zQ, simprocAttr, sz88, fl91_0, fl112_3, sz4, lE, mx, hgP, dx]
       repeat refine an ?_
       refine hk _ ?_; clear hk k
       refine zW (zV [1, 6, 7, 10, 11, 19, 20]) ?_
       simp only [kp, zJ, simprocAttr]
       refine awp_sd [] ⟨[0, 1, 0, 0, 8, 0, 56, 120, 0, 0, 768, 2040, 4095, 8191], [6, 7, 12], [13], [], some [5]⟩ (by rw [hC]; rfl) (by kernel_rfl) (by kernel_rfl) fun k hk => ?_
       simp (maxSteps := 9^9) (disch := (try simp only [lens]); omega) only [zJ, sm, ↓amb, zQ, simprocAttr, fl91_1, sz89, el89, sz33, el33, vr3, by3, lE, mx, hgP, dx]
       repeat refine an ?_
       refine hk _ ?_; clear hk k
       refine zW (zV [6, 7, 10, 11]) ?_
       simp only [kp, zJ, simprocAttr]
       refine zW (show LE _ (⟨[(6, (.ptr 1 7 0 0)), (7, (.ptr 2 4 0 0)), (10, (.ptr 3 7 0 0)), (11, (.ptr 4 4 0 0))], [(1, (.row 7 [[.p (.seq true []), .p (iV 0), .p (.seq true []), .p (.seq true []), .p (bV false), .p (iV 0), .p (iV 0)]])), (2, (.row 4 [[.p (iV 0), .p (iV 0), .p (iV 0), .p (bV false)]])), (3, (.row 7 [[.p (.seq false ((Pl.partW c.work ((c.dq.getD V default).getD 0 0)).ts.map taskC)), .p (iV (Pl.partW c.work ((c.dq.getD V default).getD 0 0)).grain), .p (.seq false ((Pl.partW c.work ((c.dq.getD V default).getD 0 0)).done.map fun b => [bV b])), .own 5, .p (bV c.over), .p (iV (c.steps + 1)), .p (iV c.idle)]])), (4, (.row 4 [[.p (iV (P : Int)), .p (iV (V : Int)), .p (iV ((c.dq.getD V default).getD 0 0)), .p (bV true)]])), (5, (.row 1 (lift (((c.dq.set V ((c.dq.getD V default).drop 1)).set P [Pl.partB c.work ((c.dq.getD V default).getD 0 0), Pl.partA c.work ((c.dq.getD V default).getD 0 0)]).map lV))))], 1⟩ : LS) from le_of [(1, _), (2, _), (3, _), (4, _), (5, 5)] (by rfl) (by rfl) ⟨⟨_, rfl, .ptr rfl⟩, ⟨_, rfl, .ptr rfl⟩, ⟨_, rfl, .ptr rfl⟩, ⟨_, rfl, .ptr rfl⟩, trivial⟩ ⟨⟨_, rfl, _, rfl, .one (.cons (.p (.refl _)) (.cons (.p (.refl _)) (.cons (.p (.refl _)) (.cons (.p (.refl _)) (.cons (.p (.refl _)) (.cons (.p (.refl _)) (.cons (.p (.refl _)) (.nil))))))))⟩, ⟨_, rfl, _, rfl, .one (.cons (.p (.refl _)) (.cons (.p (.refl _)) (.cons (.p (.refl _)) (.cons (.p (.refl _)) (.nil)))))⟩, ⟨_, rfl, _, rfl, .one (.cons (.p (.refl _)) (.cons (.p (.refl _)) (.cons (.p (.refl _)) (.cons (.own rfl) (.cons (.p (.refl _)) (.cons (.p (.refl _)) (.cons (.p (.refl _)) (.nil))))))))⟩, ⟨_, rfl, _, rfl, .one (.cons (.p (.refl _)) (.cons (.p (.refl _)) (.cons (.p (.refl _)) (.cons (.p (.refl _)) (.nil)))))⟩, ⟨_, rfl, _, rfl, leB_outV (lE_set (lE_set (lE_all _) V false ((c.dq.getD V default).drop 1)) P false [Pl.partB c.work ((c.dq.getD V default).getD 0 0), Pl.partA c.work ((c.dq.getD V default).getD 0 0)])⟩, trivial⟩) ?_
       refine awp_sd [] ⟨[0, 0, 1, 7, 15], [], [2, 3], [], some [1, 2]⟩ (by rw [hC]; rfl) (by kernel_rfl) (by kernel_rfl) fun k hk => ?_
       simp (maxSteps := 9^9) (disch := (try simp only [lens]); omega) only [zJ, sm, ↓amb, zQ, simprocAttr, sz91, sz112, lE, mx, hgP, dx]
       repeat refine an ?_
       refine hk _ ?_; clear hk k
       refine yQ ?_
       rw [hgp.2]
       refine retl rfl rfl ⟨retc rfl sz91 ?_, retc rfl sz112 ?_, rett rfl ?_, trivial⟩
       all_goals first | (simp (maxSteps := 9^9) (disch := (try simp only [lens]); omega) only [zJ, sm, ↓amb, zQ, simprocAttr, sz112, sz91, lE, mx, hgP, dx]) | skip
       ·exact .agg_cons (.p (LeP.refl _)) (.agg_cons (.p (LeP.refl _)) (.agg_cons (.p (LeP.refl _)) (.agg_cons (.ownE rfl rfl) (.agg_cons (.p (LeP.refl _)) (.agg_cons (.p (LeP.refl _)) (.agg_cons (.p (LeP.refl _)) (.agg_nil)))))))
       ·exact .p (LeP.refl _)
       ·exact .p (LeP.refl _)
     ·try simp only [hbx] at hb
      refine yJ ?_
      refine h3 _ ?_; clear h3 k3
      refine zW (zV [3, 6, 7, 10, 11]) ?_
      simp only [kp, zJ, simprocAttr]
      have hgp := hso.2 hb
      refine zK [] (by rw [hC]; rfl) fun k hk => ?_
      simp (maxSteps := 9^9) (disch := (try simp only [lens]); omega) only [zJ, sm, ↓amb, zQ, simprocAttr, fl91_0, sz88, fl112_2, sz3, en90, vr88, lE, mx, hgP, dx]
      repeat refine an ?_
      refine yW (c31 _ _ _ _) rfl ?_
      simp (maxSteps := 9^9) (disch := (try simp only [lens]); omega) only [zJ, sm, ↓amb, zQ, simprocAttr, fl91_0, sz88, fl112_2, sz3, en90, vr88, lE, mx, hgP, dx]
      repeat refine an ?_
      refine hk _ ?_; clear hk k
      refine zY fun k5 h5 => ?_
      refine zW (zV [3, 6, 7, 8, 10, 11, 22, 23, 24]) ?_
      simp only [kp, zJ, simprocAttr]
      refine zK [] (by rw [hC]; rfl) fun k hk => ?_
      simp (maxSteps := 9^9) (disch := (try simp only [lens]); omega) only [zJ, sm, ↓amb, zQ, simprocAttr, lE, mx, hgP, dx]
      repeat refine an ?_
      refine hk _ ?_; clear hk k
      refine zX rfl (fun hb => ?_) (fun hb => ?_)
      ·rw [hgp.1] at hb; exact absurd hb (by simp)
      ·try simp only [hbx] at hb
       refine yJ ?_
       refine h5 _ ?_; clear h5 k5
       refine zW (zV [6, 7, 10, 11, 22, 23]) ?_
       simp only [kp, zJ, simprocAttr]
       refine zK [] (by rw [hC]; rfl) fun k hk => ?_
       simp (maxSteps := 9^9) (disch := (try simp only [lens]); omega) only [zJ, sm, ↓amb, zQ, simprocAttr, sz88, fl91_0, lE, mx, hgP, dx]
       repeat refine an ?_
       refine hk _ ?_; clear hk k
       refine zW (zV [6, 7, 10, 11, 23]) ?_
       simp only [kp, zJ, simprocAttr]
       obtain ⟨ov, hov⟩ : ∃ o, o = c.over := ⟨_, rfl⟩
       rw [← hov]
       refine awp_srg [] (by rw [hC]; rfl) fun gd hgd k hk => ?_
       have g2 : gd 2 = some 163 := by rw [hgd]; rfl
       clear hgd
       simp (maxSteps := 9^9) (disch := (try simp only [lens]); omega) only [zJ, sm, ↓amb, zQ, simprocAttr, fl91_2, sz4, g2, a07, lE, mx, hgP, dx]
       repeat refine an ?_
       refine ⟨fun hg => ?_, fun hg => ?_⟩
       ·try simp only [hbx] at hg
        repeat refine an ?_
        refine hk _ ?_; clear hk k
        refine zW (zV [6, 7, 10, 11]) ?_
        simp only [kp, zJ, simprocAttr]
        refine zW (show LE _ (⟨[(6, (.ptr 1 7 0 0)), (7, (.ptr 2 4 0 0)), (10, (.ptr 3 7 0 0)), (11, (.ptr 4 4 0 0))], [(1, (.row 7 [[.p (.seq true []), .p (iV 0), .p (.seq true []), .p (.seq true []), .p (bV false), .p (iV 0), .p (iV 0)]])), (2, (.row 4 [[.p (iV 0), .p (iV 0), .p (iV 0), .p (bV false)]])), (3, (.row 7 [[.p (.seq false ((Pl.doW c.work ((c.dq.getD V default).getD 0 0)).ts.map taskC)), .p (iV (Pl.doW c.work ((c.dq.getD V default).getD 0 0)).grain), .p (.seq false ((Pl.doW c.work ((c.dq.getD V default).getD 0 0)).done.map fun b => [bV b])), .own 5, .p (bV (false || Pl.doO c.work ((c.dq.getD V default).getD 0 0))), .p (iV (c.steps + 1)), .p (iV c.idle)]])), (4, (.row 4 [[.p (iV (P : Int)), .p (iV (V : Int)), .p (iV ((c.dq.getD V default).getD 0 0)), .p (bV false)]])), (5, (.row 1 (lift ((c.dq.set V ((c.dq.getD V default).drop 1)).map lV))))], 1⟩ : LS) from le_of [(1, _), (2, _), (3, _), (4, _), (5, 5)] (by rfl) (by rfl) ⟨⟨_, rfl, .ptr rfl⟩, ⟨_, rfl, .ptr rfl⟩, ⟨_, rfl, .ptr rfl⟩, ⟨_, rfl, .ptr rfl⟩, trivial⟩ ⟨⟨_, rfl, _, rfl, .one (.cons (.p (.refl _)) (.cons (.p (.refl _)) (.cons (.p (.refl _)) (.cons (.p (.refl _)) (.cons (.p (.refl _)) (.cons (.p (.refl _)) (.cons (.p (.refl _)) (.nil))))))))⟩, ⟨_, rfl, _, rfl, .one (.cons (.p (.refl _)) (.cons (.p (.refl _)) (.cons (.p (.refl _)) (.cons (.p (.refl _)) (.nil)))))⟩, ⟨_, rfl, _, rfl, .one (.cons (.p (.refl _)) (.cons (.p (.refl _)) (.cons (.p (.refl _)) (.cons (.own rfl) (.cons (.p (.refl _)) (.cons (.p (.refl _)) (.cons (.p (.refl _)) (.nil))))))))⟩, ⟨_, rfl, _, rfl, .one (.cons (.p (.refl _)) (.cons (.p (.refl _)) (.cons (.p (.refl _)) (.cons (.p (.refl _)) (.nil)))))⟩, ⟨_, rfl, _, rfl, leB_outV (lE_set (lE_all _) V false ((c.dq.getD V default).drop 1))⟩, trivial⟩) ?_
        refine awp_sd [] ⟨[0, 0, 1, 7, 15], [], [2, 3], [], some [1, 2]⟩ (by rw [hC]; rfl) (by kernel_rfl) (by kernel_rfl) fun k hk => ?_
        simp (maxSteps := 9^9) (disch := (try simp only [lens]); omega) only [zJ, sm, ↓amb, zQ, simprocAttr, sz91, sz112, lE, mx, hgP, dx]
        repeat refine an ?_
        refine hk _ ?_; clear hk k
        refine yQ ?_
        subst hg
        rw [hgp.2, ← hov]
        refine retl rfl rfl ⟨retc rfl sz91 ?_, retc rfl sz112 ?_, rett rfl ?_, trivial⟩
        all_goals first | (simp (maxSteps := 9^9) (disch := (try simp only [lens]); omega) only [zJ, sm, ↓amb, zQ, simprocAttr, sz112, sz91, lE, mx, hgP, dx]) | skip
        ·exact .agg_cons (.p (LeP.refl _)) (.agg_cons (.p (LeP.refl _)) (.agg_cons (.p (LeP.refl _)) (.agg_cons (.ownE rfl rfl) (.agg_cons (.p (LeP.refl _)) (.agg_cons (.p (LeP.refl _)) (.agg_cons (.p (LeP.refl _)) (.agg_nil)))))))
        ·exact .p (LeP.refl _)
        ·exact .p (LeP.refl _)
       ·try simp only [hbx] at hg
        repeat refine an ?_
        refine hk _ ?_; clear hk k
        refine zW (zV [6, 7, 10, 11]) ?_
        simp only [kp, zJ, simprocAttr]
        refine zW (show LE _ (⟨[(6, (.ptr 1 7 0 0)), (7, (.ptr 2 4 0 0)), (10, (.ptr 3 7 0 0)), (11, (.ptr 4 4 0 0))], [(1, (.row 7 [[.p (.seq true []), .p (iV 0), .p (.seq true []), .p (.seq true []), .p (bV false), .p (iV 0), .p (iV 0)]])), (2, (.row 4 [[.p (iV 0), .p (iV 0), .p (iV 0), .p (bV false)]])), (3, (.row 7 [[.p (.seq false ((Pl.doW c.work ((c.dq.getD V default).getD 0 0)).ts.map taskC)), .p (iV (Pl.doW c.work ((c.dq.getD V default).getD 0 0)).grain), .p (.seq false ((Pl.doW c.work ((c.dq.getD V default).getD 0 0)).done.map fun b => [bV b])), .own 5, .p (bV (true || Pl.doO c.work ((c.dq.getD V default).getD 0 0))), .p (iV (c.steps + 1)), .p (iV c.idle)]])), (4, (.row 4 [[.p (iV (P : Int)), .p (iV (V : Int)), .p (iV ((c.dq.getD V default).getD 0 0)), .p (bV false)]])), (5, (.row 1 (lift ((c.dq.set V ((c.dq.getD V default).drop 1)).map lV))))], 1⟩ : LS) from le_of [(1, _), (2, _), (3, _), (4, _), (5, 5)] (by rfl) (by rfl) ⟨⟨_, rfl, .ptr rfl⟩, ⟨_, rfl, .ptr rfl⟩, ⟨_, rfl, .ptr rfl⟩, ⟨_, rfl, .ptr rfl⟩, trivial⟩ ⟨⟨_, rfl, _, rfl, .one (.cons (.p (.refl _)) (.cons (.p (.refl _)) (.cons (.p (.refl _)) (.cons (.p (.refl _)) (.cons (.p (.refl _)) (.cons (.p (.refl _)) (.cons (.p (.refl _)) (.nil))))))))⟩, ⟨_, rfl, _, rfl, .one (.cons (.p (.refl _)) (.cons (.p (.refl _)) (.cons (.p (.refl _)) (.cons (.p (.refl _)) (.nil)))))⟩, ⟨_, rfl, _, rfl, .one (.cons (.p (.refl _)) (.cons (.p (.refl _)) (.cons (.p (.refl _)) (.cons (.own rfl) (.cons (.p (.refl _)) (.cons (.p (.refl _)) (.cons (.p (.refl _)) (.nil))))))))⟩, ⟨_, rfl, _, rfl, .one (.cons (.p (.refl _)) (.cons (.p (.refl _)) (.cons (.p (.refl _)) (.cons (.p (.refl _)) (.nil)))))⟩, ⟨_, rfl, _, rfl, leB_outV (lE_set (lE_all _) V false ((c.dq.getD V default).drop 1))⟩, trivial⟩) ?_
        refine awp_sd [] ⟨[0, 0, 1, 7, 15], [], [2, 3], [], some [1, 2]⟩ (by rw [hC]; rfl) (by kernel_rfl) (by kernel_rfl) fun k hk => ?_
        simp (maxSteps := 9^9) (disch := (try simp only [lens]); omega) only [zJ, sm, ↓amb, zQ, simprocAttr, sz91, sz112, lE, mx, hgP, dx]
        repeat refine an ?_
        refine hk _ ?_; clear hk k
        refine yQ ?_
        subst hg
        rw [hgp.2, ← hov]
        refine retl rfl rfl ⟨retc rfl sz91 ?_, retc rfl sz112 ?_, rett rfl ?_, trivial⟩
        all_goals first | (simp (maxSteps := 9^9) (disch := (try simp only [lens]); omega) only [zJ, sm, ↓amb, zQ, simprocAttr, sz112, sz91, lE, mx, hgP, dx]) | skip
        ·exact .agg_cons (.p (LeP.refl _)) (.agg_cons (.p (LeP.refl _)) (.agg_cons (.p (LeP.refl _)) (.agg_cons (.ownE rfl rfl) (.agg_cons (.p (LeP.refl _)) (.agg_cons (.p (LeP.refl _)) (.agg_cons (.p (LeP.refl _)) (.agg_nil)))))))
        ·exact .p (LeP.refl _)
        ·exact .p (LeP.refl _)
    ·exact absurd hb (by simp)
set_option maxHeartbeats 4000000 in
theorem c_Step_i (c : Pl.Crew) (p v : Int) (hl : ∀ l, l ∈ c.dq → l.length ≤ 1000000 ∧ ∀ t, t ∈ l → -9223372036854775808 ≤ t ∧ t ≤ 9223372036854775807) (h0 : (Pl.step c p v).2.2 = 0) (hp : ¬ 0 < (c.dq.getD (Pl.num c.dq p).toNat default).length) (hv : ¬ 0 < (c.dq.getD (Pl.num c.dq v).toNat default).length) : PCall Try.prog 72 [.agg (crewC c), iV p, iV v] (.tup [.agg (crewC (Pl.step c p v).1), .agg (evC (Pl.step c p v).2.1), iV 0]) := by
 obtain ⟨P, V, hcp, hcv, hP, hV, hN, hPl, hVl, hcr, hst⟩ := Pl.step_at h0
 obtain ⟨hr1, hr2, hr3, hr4, hr5, hr6, hr7⟩ := id hcr
 have hRr : c.work.ts.length ≤ 2000 ∧ c.work.done.length ≤ 1000 := ⟨hr1.2.2.1, by have := hr1.1; unfold Pl.cnt at this; omega⟩
 have hlP := hl _ (Pl.getD_mem c.dq P default hPl)
 have hlV := hl _ (Pl.getD_mem c.dq V default hVl)
 rw [hP] at hp
 rw [hV] at hv
 have hso := Pl.step_idle' h0 hP hN hV hp hv
 have hle : (c.dq.getD P default) = [] := List.eq_nil_of_length_eq_zero (by omega)
 have hpop : PCall Try.prog 86 [ints false (c.dq.getD P default)] (.tup [ints false [], iV 0, iV 4]) := by rw [hle]; exact c18 false [] (by decide)
 have hlv : (c.dq.getD V default) = [] := List.eq_nil_of_length_eq_zero (by omega)
 have hsl : PCall Try.prog 87 [ints false (c.dq.getD V default)] (.tup [ints false [], iV 0, iV 4]) := by rw [hlv]; exact c20 false [] (by decide)
 refine yV Try.func72 rfl (by simp [Try.ntmps72]) fun C hC => ?_
 refine zW (zV [0, 1, 2]) ?_
 simp only [kp, zJ, simprocAttr]
 refine zK [] (by rw [hC]; rfl) fun k hk => ?_
 simp (maxSteps := 9^9) (disch := (try simp only [lens]); omega) only [zJ, sm, ↓amb, zQ, simprocAttr, vr91, vr112, lE, mx, dx]
 repeat refine an ?_
 refine hk _ ?_; clear hk k
 refine zY fun k1 h1 => ?_
 refine yK ?_
 refine zW (zV [1, 2, 3, 6, 7, 8]) ?_
 simp only [kp, zJ, simprocAttr]
 refine zK [] (by rw [hC]; rfl) fun k hk => ?_
 simp (maxSteps := 9^9) (disch := (try simp only [lens]); omega) only [zJ, sm, ↓amb, zQ, simprocAttr, sz91, en83, lE, mx, dx]
 repeat refine an ?_
 refine yW (c_ref05_Right _ hl) rfl ?_
 simp (maxSteps := 9^9) (disch := (try simp only [lens]); omega) only [zJ, sm, ↓amb, zQ, simprocAttr, sz91, en83, lE, mx, dx]
 repeat refine an ?_
 refine hk _ ?_; clear hk k
 refine zX rfl (fun hb => ?_) (fun hb => ?_)
 ·exact absurd hcr (by simpa using hb)
 ·try simp only [hbx] at hb
  refine zW (zV [1, 2, 3, 6, 7, 8]) ?_
  simp only [kp, zJ, simprocAttr]
  refine zK [] (by rw [hC]; rfl) fun k hk => ?_
  simp (maxSteps := 9^9) (disch := (try simp only [lens]); omega) only [zJ, sm, ↓amb, zQ, simprocAttr, fl91_3, sz3, lE, mx, dx]
  repeat refine an ?_
  refine hk _ ?_; clear hk k
  refine zX rfl (fun hb => ?_) (fun hb => ?_)
  ·exact absurd (beq_iff_eq.mp hb) hst
  ·try simp only [hbx] at hb
   refine yJ ?_
   refine h1 _ ?_; clear h1 k1
   refine zW (zV [1, 2, 3, 6, 7]) ?_
   simp only [kp, zJ, simprocAttr]
   refine zK [] (by rw [hC]; rfl) fun k hk => ?_
   simp (maxSteps := 9^9) (disch := (try simp only [lens]); omega) only [zJ, sm, ↓amb, zQ, simprocAttr, fl91_1, sz89, el89, lE, mx, dx]
   repeat refine an ?_
   refine hk _ ?_; clear hk k
   refine zW (zV [1, 2, 3, 6, 7, 9]) ?_
   simp only [kp, zJ, simprocAttr]
   refine zK [] (by rw [hC]; rfl) fun k hk => ?_
   simp (maxSteps := 9^9) (disch := (try simp only [lens]); omega) only [zJ, sm, ↓amb, zQ, simprocAttr, en84, lE, mx, dx]
   repeat refine an ?_
   refine yW (c_ref05_cut _ _ (by omega)) rfl ?_
   simp (maxSteps := 9^9) (disch := (try simp only [lens]); omega) only [zJ, sm, ↓amb, zQ, simprocAttr, en84, lE, mx, dx]
   repeat refine an ?_
   refine yW (c_ref05_cut _ _ (by omega)) rfl ?_
   simp (maxSteps := 9^9) (disch := (try simp only [lens]); omega) only [zJ, sm, ↓amb, zQ, simprocAttr, en84, lE, mx, dx]
   repeat refine an ?_
   refine hk _ ?_; clear hk k
   refine zW (zV [1, 2, 3, 6, 7]) ?_
   simp only [kp, zJ, simprocAttr]
   rw [hcp, hcv]
   refine zK [] (by rw [hC]; rfl) fun k hk => ?_
   simp (maxSteps := 9^9) (disch := (try simp only [lens]); omega) only [zJ, sm, ↓amb, zQ, simprocAttr, sz91, en85, vr91, lE, mx, dx]
   repeat refine an ?_
   refine callK_h (c_Copy_h c (by omega) (by omega) (by omega) (fun l h => (hl l h).1)) [] [] (by first | rfl | (simp only [hm]; done)) (by first | rfl | (simp [namesOk, lkp]; done)) ?_ ?_ ?_ ?_ ?_ ?_ ?_
   (iterate 6 (focus (first | trivial | (intro n hn; cases hn; done) | (simp (maxSteps := 9^9) (disch := (try simp only [lens]); omega) only [zJ, sm, ↓amb, zQ, simprocAttr, sz91, en85, vr91, lE, mx, dx, hmx, List.filter_cons, Nat.reduceBNe, imp_self, implies_true]; done))))
   simp (maxSteps := 9^9) (disch := (try simp only [lens]); omega) only [zJ, sm, ↓amb, zQ, simprocAttr, sz91, en85, vr91, lE, mx, dx, hm, List.filter_cons, List.filter_nil, Nat.reduceBNe, Option.map_none]
   repeat refine an ?_
   refine hk _ ?_; clear hk k
   refine zW (zV [1, 2, 3, 6, 7, 10]) ?_
   simp only [kp, zJ, simprocAttr]
   refine zK [] (by rw [hC]; rfl) fun k hk => ?_
   simp (maxSteps := 9^9) (disch := (try simp only [lens]); omega) only [zJ, sm, ↓amb, zQ, simprocAttr, fl91_3, sz3, lE, mx, dx]
   repeat refine an ?_
   refine hk _ ?_; clear hk k
   refine zW (zV [1, 2, 3, 6, 7, 10]) ?_
   simp only [kp, zJ, simprocAttr]
   refine zK [] (by rw [hC]; rfl) fun k hk => ?_
   simp (maxSteps := 9^9) (disch := (try simp only [lens]); omega) only [zJ, sm, ↓amb, zQ, simprocAttr, vr112, bt112, pl112_0, pl112_1, pl112_2, sz112, lE, mx, dx]
   repeat refine an ?_
   refine hk _ ?_; clear hk k
   refine zY fun k2 h2 => ?_
   refine zW (zV [1, 2, 3, 6, 7, 8, 10, 11]) ?_
   simp only [kp, zJ, simprocAttr]
   refine zK [] (by rw [hC]; rfl) fun k hk => ?_
   simp (maxSteps := 9^9) (disch := (try simp only [lens]); omega) only [zJ, sm, ↓amb, zQ, simprocAttr, fl91_1, sz89, el89, sz33, en86, lE, mx, dx]
   repeat refine an ?_
   refine yW (hpop) rfl ?_
   simp (maxSteps := 9^9) (disch := (try simp only [lens]); omega) only [zJ, sm, ↓amb, zQ, simprocAttr, fl91_1, sz89, el89, sz33, en86, lE, mx, dx]
   repeat refine an ?_
   refine hk _ ?_; clear hk k
   refine zW (zV [1, 2, 3, 6, 7, 8, 10, 11, 12, 13, 14]) ?_
   simp only [kp, zJ, simprocAttr]
   refine zK [] (by rw [hC]; rfl) fun k hk => ?_
   simp (maxSteps := 9^9) (disch := (try simp only [lens]); omega) only [zJ, sm, ↓amb, zQ, simprocAttr, lE, mx, dx]
   repeat refine an ?_
   refine hk _ ?_; clear hk k
   refine zX rfl (fun hb => ?_) (fun hb => ?_)
   ·exact absurd hb (by simp)
   ·try simp only [hbx] at hb
    refine zW (zV [1, 2, 3, 6, 7, 8, 10, 11]) ?_
    simp only [kp, zJ, simprocAttr]
    refine zK [] (by rw [hC]; rfl) fun k hk => ?_
    simp (maxSteps := 9^9) (disch := (try simp only [lens]); omega) only [zJ, sm, ↓amb, zQ, simprocAttr, fl91_1, sz89, el89, sz33, en87, lE, mx, dx]
    repeat refine an ?_
    refine yW (hsl) rfl ?_
    simp (maxSteps := 9^9) (disch := (try simp only [lens]); omega) only [zJ, sm, ↓amb, zQ, simprocAttr, fl91_1, sz89, el89, sz33, en87, lE, mx, dx]
    repeat refine an ?_
    refine hk _ ?_; clear hk k
    refine zW (zV [1, 2, 3, 6, 7, 8, 10, 11, 15, 16, 17]) ?_
    simp only [kp, zJ, simprocAttr]
    refine zK [] (by rw [hC]; rfl) fun k hk => ?_
    simp (maxSteps := 9^9) (disch := (try simp only [lens]); omega) only [zJ, sm, ↓amb, zQ, simprocAttr, lE, mx, dx]
    repeat refine an ?_
    refine hk _ ?_; clear hk k
    refine zX rfl (fun hb => ?_) (fun hb => ?_)
    ·exact absurd hb (by simp)
    ·try simp only [hbx] at hb
     refine zY fun k3 h3 => ?_
     refine zW (zV [1, 3, 6, 7, 8, 10, 11]) ?_
     simp only [kp, zJ, simprocAttr]
     refine zK [] (by rw [hC]; rfl) fun k hk => ?_
     simp (maxSteps := 9^9) (disch := (try simp only [lens]); omega) only [zJ, sm, ↓amb, zQ, simprocAttr, fl91_4, sz3, lE, mx, dx]
     repeat refine an ?_
     refine hk _ ?_; clear hk k
     refine zX rfl (fun hb => ?_) (fun hb => ?_)
     ·exact absurd (beq_iff_eq.mp hb) hso.1
     ·try simp only [hbx] at hb
      refine yJ ?_
      refine h3 _ ?_; clear h3 k3
      refine zW (zV [6, 7, 10, 11]) ?_
      simp only [kp, zJ, simprocAttr]
      refine zK [] (by rw [hC]; rfl) fun k hk => ?_
      simp (maxSteps := 9^9) (disch := (try simp only [lens]); omega) only [zJ, sm, ↓amb, zQ, simprocAttr, fl91_4, sz3, lE, mx, dx]
      repeat refine an ?_
      refine hk _ ?_; clear hk k
      refine zW (zV [6, 7, 10, 11]) ?_
      simp only [kp, zJ, simprocAttr]
      refine zW (show LE _ (⟨[(6, (.ptr 1 7 0 0)), (7, (.ptr 2 4 0 0)), (10, (.ptr 3 7 0 0)), (11, (.ptr 4 4 0 0))], [(1, (.row 7 [[.p (.seq true []), .p (iV 0), .p (.seq true []), .p (.seq true []), .p (bV false), .p (iV 0), .p (iV 0)]])), (2, (.row 4 [[.p (iV 0), .p (iV 0), .p (iV 0), .p (bV false)]])), (3, (.row 7 [[.p (.seq false (c.work.ts.map taskC)), .p (iV c.work.grain), .p (.seq false (c.work.done.map fun b => [bV b])), .own 5, .p (bV c.over), .p (iV (c.steps + 1)), .p (iV (c.idle + 1))]])), (4, (.row 4 [[.p (iV (P : Int)), .p (iV (-1)), .p (iV (-1)), .p (bV false)]])), (5, (.row 1 (lift (c.dq.map lV))))], 1⟩ : LS) from le_of [(1, _), (2, _), (3, _), (4, _), (5, _)] (by rfl) (by rfl) ⟨⟨_, rfl, .ptr rfl⟩, ⟨_, rfl, .ptr rfl⟩, ⟨_, rfl, .ptr rfl⟩, ⟨_, rfl, .ptr rfl⟩, trivial⟩ ⟨⟨_, rfl, _, rfl, .one (.cons (.p (.refl _)) (.cons (.p (.refl _)) (.cons (.p (.refl _)) (.cons (.p (.refl _)) (.cons (.p (.refl _)) (.cons (.p (.refl _)) (.cons (.p (.refl _)) (.nil))))))))⟩, ⟨_, rfl, _, rfl, .one (.cons (.p (.refl _)) (.cons (.p (.refl _)) (.cons (.p (.refl _)) (.cons (.p (.refl _)) (.nil)))))⟩, ⟨_, rfl, _, rfl, .one (.cons (.p (.refl _)) (.cons (.p (.refl _)) (.cons (.p (.refl _)) (.cons (.own rfl) (.cons (.p (.refl _)) (.cons (.p (.refl _)) (.cons (.p (.refl _)) (.nil))))))))⟩, ⟨_, rfl, _, rfl, .one (.cons (.p (.refl _)) (.cons (.p (.refl _)) (.cons (.p (.refl _)) (.cons (.p (.refl _)) (.nil)))))⟩, ⟨_, rfl, _, rfl, leB_outV (lE_all _)⟩, trivial⟩) ?_
      refine awp_sd [] ⟨[0, 0, 1, 7, 15], [], [2, 3], [], some [1, 2]⟩ (by rw [hC]; rfl) (by kernel_rfl) (by kernel_rfl) fun k hk => ?_
      simp (maxSteps := 9^9) (disch := (try simp only [lens]); omega) only [zJ, sm, ↓amb, zQ, simprocAttr, sz91, sz112, lE, mx, dx]
      repeat refine an ?_
      refine hk _ ?_; clear hk k
      refine yQ ?_
      rw [hso.2]
      refine retl rfl rfl ⟨retc rfl sz91 ?_, retc rfl sz112 ?_, rett rfl ?_, trivial⟩
      all_goals first | (simp (maxSteps := 9^9) (disch := (try simp only [lens]); omega) only [zJ, sm, ↓amb, zQ, simprocAttr, sz112, sz91, lE, mx, dx]) | skip
      ·exact .agg_cons (.p (LeP.refl _)) (.agg_cons (.p (LeP.refl _)) (.agg_cons (.p (LeP.refl _)) (.agg_cons (.ownE rfl rfl) (.agg_cons (.p (LeP.refl _)) (.agg_cons (.p (LeP.refl _)) (.agg_cons (.p (LeP.refl _)) (.agg_nil)))))))
      ·exact .p (LeP.refl _)
      ·exact .p (LeP.refl _)
end Go.Proofs.Ytbehekmnccoifaa
end
section
set_option linter.unusedSimpArgs false
set_option linter.unusedVariables false
set_option maxRecDepth 100000
namespace Go.Proofs.Ytbehekmnccoifaa
open Go.Am Go.Proofs
theorem c_ref05_Step (c : Pl.Crew) (p v : Int) (hl : ∀ l, l ∈ c.dq → l.length ≤ 1000000 ∧ ∀ t, t ∈ l → -9223372036854775808 ≤ t ∧ t ≤ 9223372036854775807) (h0 : (Pl.step c p v).2.2 = 0) :
    PCall Try.prog 72 [.agg (crewC c), iV p, iV v] (.tup [.agg (crewC (Pl.step c p v).1), .agg (evC (Pl.step c p v).2.1), iV 0]) := by
  by_cases hp : 0 < (c.dq.getD (Pl.num c.dq p).toNat default).length
  · exact c_Step_p c p v hl h0 hp
  · by_cases hv : 0 < (c.dq.getD (Pl.num c.dq v).toNat default).length
    · exact c_Step_s c p v hl h0 hp hv
    · exact c_Step_i c p v hl h0 hp hv
end Go.Proofs.Ytbehekmnccoifaa
end
section
set_option linter.unusedSimpArgs false
set_option linter.unusedVariables false
set_option maxRecDepth 100000
namespace Go.Proofs.Ytbehekmnccoifaa
open Go.Am Go.Proofs
theorem en72 : enters Try.prog 72 = true := by kernel_rfl
theorem en91 : enters Try.prog 91 = true := by kernel_rfl
set_option maxHeartbeats 4000000 in
theorem c_ref06_Drain (n g : Int) (c : Pl.Crew) (ev : List Pl.Event) (hR : Pl.Run n g c ev) (hM : Pl.most n g 0 c ev ≤ 16010) (he : ev.length ≤ 70000) : PCall Try.prog 73 [.agg (crewC c)] (.tup [.agg (crewC (Pl.rounds 20000 0 c ev).1), .seq false (((Pl.rounds 20000 0 c ev).2.1.drop ev.length).map evC), iV 0]) := by
 have hcr := hR.right (by omega)
 refine yV Try.func73 rfl (by simp [Try.ntmps73]) fun C hC => ?_
 refine zW (zV [0]) ?_
 simp only [kp, zJ, simprocAttr]
 refine zK [63] (by rw [hC]; rfl) fun k hk => ?_
 simp (maxSteps := 9^9) (disch := (try simp only [lens]); omega) only [zJ, sm, ↓amb, zQ, simprocAttr, vr91, dx]
 repeat refine an ?_
 refine hk _ ?_; clear hk k
 refine zY fun k1 h1 => ?_
 refine xQ [63] 23 (decide (False)) [1, 2, 3, 4] (by rw [hC]; rfl) (fun gd hgd k hk => ?_) ?_
 ·have g3 : gd 3 = some 14 := by rw [hgd]; rfl
  have g7 : gd 7 = some 18 := by rw [hgd]; rfl
  clear hgd
  simp (maxSteps := 9^9) (disch := (try simp only [lens]); omega) only [zJ, sm, ↓amb, zQ, simprocAttr, sz91, en83, fl91_2, sz4, en91, zZ, g3, g7, dx]
  repeat' first | refine hk _ _ rfl rfl rfl rfl ?_ | (refine gsplit (fun hg => ?_) (fun hg => ?_) <;> (try simp only [hbx] at hg) <;> simp (maxSteps := 9^9) (disch := (try simp only [lens]); omega) only [zJ, sm, ↓amb, zQ, simprocAttr, sz91, en83, fl91_2, sz4, en91, zZ, g3, g7, dx]) | apply And.intro | (refine yW (c_ref05_Right _ (Pl.good_hl hR.gd)) rfl ?_; (try simp (maxSteps := 9^9) (disch := (try simp only [lens]); omega) only [zJ, sm, ↓amb, zQ, simprocAttr, sz91, en83, fl91_2, sz4, en91, zZ, g3, g7, dx])) | (refine yW (c_ref05_Held _ hR.held.2 (by have := hR.dqlen; omega)) rfl ?_; (try simp (maxSteps := 9^9) (disch := (try simp only [lens]); omega) only [zJ, sm, ↓amb, zQ, simprocAttr, sz91, en83, fl91_2, sz4, en91, zZ, g3, g7, dx])) | fail
  all_goals first | rfl | omega | exact (decide_eq_true (by omega)).symm | exact (decide_eq_false (by omega)).symm | exact decide_eq_decide.mpr (by omega) | (refine Bool.eq_iff_iff.mpr ?_; simp only [beq_iff_eq, bne_iff_ne, ne_eq, decide_eq_true_eq]; omega) | (refine Bool.eq_iff_iff.mpr ?_; simp only [Bool.not_eq_true', Bool.not_eq_false', decide_eq_false_iff_not, decide_eq_true_eq, beq_iff_eq, bne_iff_ne, ne_eq]; omega) | assumption | (simp; done) | (simp [maxLen]; omega) | skip
  all_goals first | exact absurd hcr (by assumption) | (have hov : ¬ c.over = true := (by rw [show c.over = false from by assumption]; decide); have hne : ¬ Pl.held c.dq = 0 := (fun q => hov (hR.held.1.2 q)); rw [beq_eq_false_iff_ne.mpr (by omega)]; rfl) | rfl | trace_state
 simp only [kp, zJ, simprocAttr, List.length_cons, List.length_nil]
 refine zX rfl (fun hb => ?_) (fun hb => ?_)
 ·exact absurd hb (by simp)
 ·try simp only [hbx] at hb
  refine yJ ?_
  refine h1 _ ?_; clear h1 k1
  refine zW (zV [1, 2]) ?_
  simp only [kp, zJ, simprocAttr]
  refine zK [63] (by rw [hC]; rfl) fun k hk => ?_
  simp (maxSteps := 9^9) (disch := (try simp only [lens]); omega) only [zJ, sm, ↓amb, zQ, simprocAttr, dx]
  repeat refine an ?_
  refine hk _ ?_; clear hk k
  refine zW (zV [1, 2, 5]) ?_
  simp only [kp, zJ, simprocAttr]
  refine awp_own' 5 4 rfl ?_
  refine zK [63] (by rw [hC]; rfl) fun k hk => ?_
  simp (maxSteps := 9^9) (disch := (try simp only [lens]); omega) only [zJ, sm, ↓amb, zQ, simprocAttr, dx]
  repeat refine an ?_
  refine hk _ ?_; clear hk k
  refine yK ?_
  refine yY (σ := Nat × Pl.Crew × List Pl.Event) (fun x => Pl.Run n g x.2.1 (ev ++ x.2.2) ∧ x.2.1.dq.length = c.dq.length ∧ Pl.rounds (20000 - (x.1 * c.dq.length)) (x.1 * c.dq.length) x.2.1 (ev ++ x.2.2) = (Pl.rounds 20000 0 c ev) ∧ Pl.most n g (x.1 * c.dq.length) x.2.1 (ev ++ x.2.2) + (((x.1 * c.dq.length) : Nat) : Int) ≤ 16010 ∧ (ev ++ x.2.2).length = ev.length + (x.1 * c.dq.length)) (fun x => ⟨[(1, (.ptr 0 7 0 0)), (2, (.ptr 1 7 0 0)), (5, (.own 2)), (6, (.p (iV (x.1 : Int))))], [(0, (.row 7 [[.p (.seq false (x.2.1.work.ts.map taskC)), .p (iV x.2.1.work.grain), .p (.seq false (x.2.1.work.done.map fun b => [bV b])), .p (.seq false (x.2.1.dq.map lV)), .p (bV x.2.1.over), .p (iV x.2.1.steps), .p (iV x.2.1.idle)]])), (1, (.row 7 [[.p (.seq true []), .p (iV 0), .p (.seq true []), .p (.seq true []), .p (bV false), .p (iV 0), .p (iV 0)]])), (2, (.row 4 (lift (x.2.2.map evC))))], 1⟩) (fun x => 16011 - x.1 * c.dq.length) (0, c, []) ?_ ?_ fun x hx => ?_
  ·dsimp only; rw [Nat.zero_mul, List.append_nil]; exact ⟨hR, rfl, rfl, by omega, by omega⟩
  ·exact le_of [(0, _), (1, _), (2, _)] (by rfl) (by rfl) ⟨⟨_, rfl, .ptr rfl⟩, ⟨_, rfl, .ptr rfl⟩, ⟨_, rfl, .own rfl⟩, ⟨_, rfl, .oe⟩, trivial⟩ ⟨⟨_, rfl, _, rfl, .one (.cons (.p (.refl _)) (.cons (.p (.refl _)) (.cons (.p (.refl _)) (.cons (.p (.refl _)) (.cons (.p (.refl _)) (.cons (.p (.refl _)) (.cons (.p (.refl _)) (.nil))))))))⟩, ⟨_, rfl, _, rfl, .one (.cons (.p (.refl _)) (.cons (.p (.refl _)) (.cons (.p (.refl _)) (.cons (.p (.refl _)) (.cons (.p (.refl _)) (.cons (.p (.refl _)) (.cons (.p (.refl _)) (.nil))))))))⟩, ⟨_, rfl, _, rfl, .liftE (by first | rfl | (rw [List.map_append]; rfl))⟩, trivial⟩
  obtain ⟨r, c1, m1⟩ := x
  obtain ⟨hR1, hRw, hRr, hRm, hRe⟩ := hx
  dsimp only at hR1 hRw hRr hRm hRe
  refine zY fun k3 h3 => ?_
  refine yK ?_
  refine zW (zV [0, 1, 2, 3, 4, 5, 6]) ?_
  simp only [kp, zJ, simprocAttr]
  refine zK [63] (by rw [hC]; rfl) fun k hk => ?_
  simp (maxSteps := 9^9) (disch := (try simp only [lens]); omega) only [zJ, sm, ↓amb, zQ, simprocAttr, dx]
  repeat refine an ?_
  refine hk _ ?_; clear hk k
  refine yK ?_
  refine yY (σ := Nat × Pl.Crew × List Pl.Event) (fun x => x.1 ≤ c.dq.length ∧ Pl.Run n g x.2.1 (ev ++ x.2.2) ∧ x.2.1.dq.length = c.dq.length ∧ Pl.rounds (20000 - (r * c.dq.length + x.1)) (r * c.dq.length + x.1) x.2.1 (ev ++ x.2.2) = (Pl.rounds 20000 0 c ev) ∧ Pl.most n g (r * c.dq.length + x.1) x.2.1 (ev ++ x.2.2) + (((r * c.dq.length + x.1) : Nat) : Int) ≤ 16010 ∧ (ev ++ x.2.2).length = ev.length + (r * c.dq.length + x.1)) (fun x => ⟨[(1, (.ptr 0 7 0 0)), (2, (.ptr 1 7 0 0)), (5, (.own 2)), (6, (.p (iV (r : Int)))), (7, (.p (iV (x.1 : Int))))], [(0, (.row 7 [[.p (.seq false (x.2.1.work.ts.map taskC)), .p (iV x.2.1.work.grain), .p (.seq false (x.2.1.work.done.map fun b => [bV b])), .p (.seq false (x.2.1.dq.map lV)), .p (bV x.2.1.over), .p (iV x.2.1.steps), .p (iV x.2.1.idle)]])), (1, (.row 7 [[.p (.seq true []), .p (iV 0), .p (.seq true []), .p (.seq true []), .p (bV false), .p (iV 0), .p (iV 0)]])), (2, (.row 4 (lift (x.2.2.map evC))))], 1⟩) (fun x => c.dq.length - x.1) (0, c1, m1) ?_ ?_ fun x hx => ?_
  ·dsimp only; rw [Nat.add_zero]; exact ⟨Nat.zero_le _, hR1, hRw, hRr, hRm, hRe⟩
  ·exact le_of [(0, _), (1, _), (2, _)] (by rfl) (by rfl) ⟨⟨_, rfl, .ptr rfl⟩, ⟨_, rfl, .ptr rfl⟩, ⟨_, rfl, .own rfl⟩, ⟨_, rfl, .oe⟩, ⟨_, rfl, .oe⟩, trivial⟩ ⟨⟨_, rfl, _, rfl, .one (.cons (.p (.refl _)) (.cons (.p (.refl _)) (.cons (.p (.refl _)) (.cons (.p (.refl _)) (.cons (.p (.refl _)) (.cons (.p (.refl _)) (.cons (.p (.refl _)) (.nil))))))))⟩, ⟨_, rfl, _, rfl, .one (.cons (.p (.refl _)) (.cons (.p (.refl _)) (.cons (.p (.refl _)) (.cons (.p (.refl _)) (.cons (.p (.refl _)) (.cons (.p (.refl _)) (.cons (.p (.refl _)) (.nil))))))))⟩, ⟨_, rfl, _, rfl, .liftE (by first | rfl | (rw [List.map_append]; rfl))⟩, trivial⟩
  obtain ⟨p, c2, m2⟩ := x
  obtain ⟨hp1, hR2, hR3, hR4, hR5, hR6⟩ := hx
  dsimp only at hp1 hR2 hR3 hR4 hR5 hR6
  have hdl := hR1.dqlen
  have hm0 := hR1.most_0 (k := r * c.dq.length) (r := r) (by rw [hRw])
  have hrr : r ≤ r * c.dq.length := Nat.le_mul_of_pos_right r (by omega)
  have hml : m2.length = r * c.dq.length + p := by rw [List.length_append] at hR6; omega
  refine zY fun k5 h5 => ?_
  refine zW (zV [0, 1, 2, 3, 4, 5, 6, 7]) ?_
  simp only [kp, zJ, simprocAttr]
  refine zK [63] (by rw [hC]; rfl) fun k hk => ?_
  simp (maxSteps := 9^9) (disch := (try simp only [lens]); omega) only [zJ, sm, ↓amb, zQ, simprocAttr, fl91_1, sz89, el89, dx]
  repeat refine an ?_
  refine hk _ ?_; clear hk k
  refine zX rfl (fun hb => ?_) (fun hb => ?_)
  ·try simp only [hbx] at hb
   refine yJ ?_
   refine h5 _ ?_; clear h5 k5
   refine zY fun k6 h6 => ?_
   refine yK ?_
   refine zY fun k7 h7 => ?_
   refine zW (zV [0, 1, 2, 3, 4, 5, 6, 7]) ?_
   simp only [kp, zJ, simprocAttr]
   refine zK [63] (by rw [hC]; rfl) fun k hk => ?_
   simp (maxSteps := 9^9) (disch := (try simp only [lens]); omega) only [zJ, sm, ↓amb, zQ, simprocAttr, fl91_2, sz4, dx]
   repeat refine an ?_
   refine hk _ ?_; clear hk k
   refine zX rfl (fun hb => ?_) (fun hb => ?_)
   ·try simp only [hbx] at hb
    refine zW (zV [1, 2, 5]) ?_
    simp only [kp, zJ, simprocAttr]
    have ho := hb
    refine zK [63] (by rw [hC]; rfl) fun k hk => ?_
    simp (maxSteps := 9^9) (disch := (try simp only [lens]); omega) only [zJ, sm, ↓amb, zQ, simprocAttr, sz91, dx]
    repeat refine an ?_
    refine hk _ ?_; clear hk k
    refine yQ ?_
    rw [Pl.rounds_over ho] at hR4
    rw [← hR4, List.drop_left]
    refine retl rfl rfl ⟨retc rfl sz91 ?_, rett rfl ?_, rett rfl ?_, trivial⟩
    simp (maxSteps := 9^9) (disch := (try simp only [lens]); omega) only [zJ, sm, ↓amb, zQ, simprocAttr, sz91, dx]
    ·exact .p (LeP.refl _)
    ·exact .ownE rfl rfl
    ·exact .p (LeP.refl _)
   ·try simp only [hbx] at hb
    refine yJ ?_
    refine h7 _ ?_; clear h7 k7
    refine zY fun k8 h8 => ?_
    refine zW (zV [0, 1, 2, 3, 4, 5, 6, 7]) ?_
    simp only [kp, zJ, simprocAttr]
    have ho : ¬ c2.over = true := by simp [hb]
    refine zK [63] (by rw [hC]; rfl) fun k hk => ?_
    simp (maxSteps := 9^9) (disch := (try simp only [lens]); omega) only [zJ, sm, ↓amb, zQ, simprocAttr, sz91, en91, dx]
    repeat refine an ?_
    refine yW (c_ref05_Held _ hR2.held.2 (by have := hR2.dqlen; omega)) rfl ?_
    simp (maxSteps := 9^9) (disch := (try simp only [lens]); omega) only [zJ, sm, ↓amb, zQ, simprocAttr, sz91, en91, dx]
    repeat refine an ?_
    refine hk _ ?_; clear hk k
    refine zX rfl (fun hb => ?_) (fun hb => ?_)
    ·exact absurd (hR2.held.1.2 (by have := beq_iff_eq.mp hb; omega)) ho
    ·try simp only [hbx] at hb
     refine yJ ?_
     refine h8 _ ?_; clear h8 k8
     refine zW (zV [0, 1, 2, 3, 4, 5, 6, 7]) ?_
     simp only [kp, zJ, simprocAttr]
     have hh : ¬ Pl.held c2.dq = 0 := by omega
     have hk1 := (hR2.most_pos (r * c.dq.length + p) ho).1
     obtain ⟨hs1, hs2⟩ := hR2.step (by omega) p (p + 1 + r)
     have hs3 := Pl.rounds_on (f := 20000) (k := r * c.dq.length + p) (W := c.dq.length) (r := r) (p := p) (ev := ev ++ m2) hR3 (by omega) rfl ho hh hs1 (by omega)
     have hs4 := hR2.most_on (by omega) (W := c.dq.length) (r := r) (p := p) hR3 (by omega) rfl ho
     refine zK [63] (by rw [hC]; rfl) fun k hk => ?_
     simp (maxSteps := 9^9) (disch := (try simp only [lens]); omega) only [zJ, sm, ↓amb, zQ, simprocAttr, sz91, en72, vr91, vr112, sz112, dx]
     repeat refine an ?_
     refine yW (c_ref05_Step c2 p (p + 1 + r) (Pl.good_hl hR2.gd) hs1) rfl ?_
     simp (maxSteps := 9^9) (disch := (try simp only [lens]); omega) only [zJ, sm, ↓amb, zQ, simprocAttr, sz91, en72, vr91, vr112, sz112, dx]
     repeat refine an ?_
     refine hk _ ?_; clear hk k
     refine zY fun k9 h9 => ?_
     refine zW (zV [0, 1, 2, 3, 4, 5, 6, 7, 8, 9, 10]) ?_
     simp only [kp, zJ, simprocAttr]
     refine zK [63] (by rw [hC]; rfl) fun k hk => ?_
     simp (maxSteps := 9^9) (disch := (try simp only [lens]); omega) only [zJ, sm, ↓amb, zQ, simprocAttr, dx]
     repeat refine an ?_
     refine hk _ ?_; clear hk k
     refine zX rfl (fun hb => ?_) (fun hb => ?_)
     ·exact absurd hb (by simp)
     ·try simp only [hbx] at hb
      refine yJ ?_
      refine h9 _ ?_; clear h9 k9
      refine awp_draw [63] ⟨[0, 0, 0, 4, 14, 31, 63], [], [4, 5], [(4, 5)], some [0, 2]⟩ (by rw [hC]; rfl) (by kernel_rfl) (by kernel_rfl) fun k hk => ?_
      simp (maxSteps := 9^9) (disch := (try simp only [lens]); omega) only [zJ, sm, ↓amb, zQ, simprocAttr, sz91, sz112, el92, vr112, by112, dx]
      repeat refine an ?_
      refine hk _ ?_; clear hk k
      refine h6 _ ?_; clear h6 k6
      refine yZ [63] (by rw [hC]; rfl) fun k hk => ?_
      simp (maxSteps := 9^9) (disch := (try simp only [lens]); omega) only [zJ, sm, ↓amb, zQ, simprocAttr, dx]
      repeat refine an ?_
      refine hk _ ?_; clear hk k
      refine ⟨(p + 1, (Pl.step c2 p (p + 1 + r)).1, m2 ++ [(Pl.step c2 p (p + 1 + r)).2.1]), (by dsimp only; rw [← Nat.add_assoc, ← List.append_assoc]; exact ⟨by omega, hs2, by rw [Pl.step_dqlen]; exact hR3, by rw [← hs3]; exact hR4, by omega, by rw [List.length_append, List.length_singleton]; omega⟩), le_of [(0, _), (1, _), (2, _)] (by rfl) (by rfl) ⟨⟨_, rfl, .ptr rfl⟩, ⟨_, rfl, .ptr rfl⟩, ⟨_, rfl, .own rfl⟩, ⟨_, rfl, .oe⟩, ⟨_, rfl, .oe⟩, trivial⟩ ⟨⟨_, rfl, _, rfl, .one (.cons (.p (.refl _)) (.cons (.p (.refl _)) (.cons (.p (.refl _)) (.cons (.p (.refl _)) (.cons (.p (.refl _)) (.cons (.p (.refl _)) (.cons (.p (.refl _)) (.nil))))))))⟩, ⟨_, rfl, _, rfl, .one (.cons (.p (.refl _)) (.cons (.p (.refl _)) (.cons (.p (.refl _)) (.cons (.p (.refl _)) (.cons (.p (.refl _)) (.cons (.p (.refl _)) (.cons (.p (.refl _)) (.nil))))))))⟩, ⟨_, rfl, _, rfl, .liftE (by first | rfl | (rw [List.map_append]; rfl))⟩, trivial⟩, (by dsimp only; omega)⟩
  ·try simp only [hbx] at hb
   refine yX ((if_pos rfl).mpr ?_)
   refine h3 _ ?_; clear h5 k5; clear h3 k3
   have hp2 : r * c.dq.length + p = r * c.dq.length + c.dq.length := by omega
   refine yZ [63] (by rw [hC]; rfl) fun k hk => ?_
   simp (maxSteps := 9^9) (disch := (try simp only [lens]); omega) only [zJ, sm, ↓amb, zQ, simprocAttr, dx]
   repeat refine an ?_
   refine hk _ ?_; clear hk k
   refine ⟨(r + 1, c2, m2), (by dsimp only; rw [Nat.add_mul, Nat.one_mul]; rw [hp2] at hR4 hR5 hR6; exact ⟨hR2, hR3, hR4, hR5, hR6⟩), le_of [(0, _), (1, _), (2, _)] (by rfl) (by rfl) ⟨⟨_, rfl, .ptr rfl⟩, ⟨_, rfl, .ptr rfl⟩, ⟨_, rfl, .own rfl⟩, ⟨_, rfl, .oe⟩, trivial⟩ ⟨⟨_, rfl, _, rfl, .one (.cons (.p (.refl _)) (.cons (.p (.refl _)) (.cons (.p (.refl _)) (.cons (.p (.refl _)) (.cons (.p (.refl _)) (.cons (.p (.refl _)) (.cons (.p (.refl _)) (.nil))))))))⟩, ⟨_, rfl, _, rfl, .one (.cons (.p (.refl _)) (.cons (.p (.refl _)) (.cons (.p (.refl _)) (.cons (.p (.refl _)) (.cons (.p (.refl _)) (.cons (.p (.refl _)) (.cons (.p (.refl _)) (.nil))))))))⟩, ⟨_, rfl, _, rfl, .liftE (by first | rfl | (rw [List.map_append]; rfl))⟩, trivial⟩, (by dsimp only; rw [Nat.add_mul, Nat.one_mul]; have := hR1.most_0 (k := r * c.dq.length) (r := r) (by rw [hRw]); have := hR1.dqlen; omega)⟩
end Go.Proofs.Ytbehekmnccoifaa
end
section
set_option linter.unusedSimpArgs false
set_option linter.unusedVariables false
set_option maxRecDepth 100000
namespace Go.Proofs.Ytbehekmnccoifaa
open Go.Am Go.Proofs
theorem en71 : enters Try.prog 71 = true := by kernel_rfl
theorem en73 : enters Try.prog 73 = true := by kernel_rfl
set_option maxHeartbeats 4000000 in
theorem c_ref06_Whole (cp : Bool) (n g w : Int) (P : List (Int × Int)) (hok : Pl.bdOk n g w) (hP : P.length ≤ 70000) : PCall Try.prog 56 [iV n, iV g, iV w, picksV cp P] (.tup [.agg (crewC (Pl.whole n g w P).1), .seq false ((Pl.whole n g w P).2.1.map evC), iV 0]) := by
 obtain ⟨hcn, hww⟩ := hok
 obtain ⟨b0, b1, b2, b3, b4, b5, b6⟩ := Pl.picked_ok (P := P) hcn hww hP
 have hcn' := hcn
 unfold Pl.cnt at hcn'
 refine yV Try.func56 rfl (by simp [Try.ntmps56]) fun C hC => ?_
 refine zW (zV [0, 1, 2, 3]) ?_
 simp only [kp, zJ, simprocAttr]
 refine zK [66, 76] (by rw [hC]; rfl) fun k hk => ?_
 simp (maxSteps := 9^9) (disch := (try simp only [lens]); omega) only [zJ, sm, ↓amb, zQ, simprocAttr, vr91, dx]
 repeat refine an ?_
 refine hk _ ?_; clear hk k
 refine zW (zV [0, 1, 2, 3, 8]) ?_
 simp only [kp, zJ, simprocAttr]
 refine zK [66, 76] (by rw [hC]; rfl) fun k hk => ?_
 simp (maxSteps := 9^9) (disch := (try simp only [lens]); omega) only [zJ, sm, ↓amb, zQ, simprocAttr, en71, vr91, sz91, dx]
 repeat refine an ?_
 refine yW (c_ref05_Begin _ _ _ (by omega)) rfl ?_
 simp (maxSteps := 9^9) (disch := (try simp only [lens]); omega) only [zJ, sm, ↓amb, zQ, simprocAttr, en71, vr91, sz91, dx]
 repeat refine an ?_
 refine hk _ ?_; clear hk k
 refine zY fun k1 h1 => ?_
 refine zW (zV [3, 8, 9, 10, 11, 12]) ?_
 simp only [kp, zJ, simprocAttr]
 rw [b0]
 refine zK [66, 76] (by rw [hC]; rfl) fun k hk => ?_
 simp (maxSteps := 9^9) (disch := (try simp only [lens]); omega) only [zJ, sm, ↓amb, zQ, simprocAttr, dx]
 repeat refine an ?_
 refine hk _ ?_; clear hk k
 refine zX rfl (fun hb => ?_) (fun hb => ?_)
 ·exact absurd hb (by simp)
 ·try simp only [hbx] at hb
  refine yJ ?_
  refine h1 _ ?_; clear h1 k1
  refine zW (zV [3, 8, 11]) ?_
  simp only [kp, zJ, simprocAttr]
  refine zK [66, 76] (by rw [hC]; rfl) fun k hk => ?_
  simp (maxSteps := 9^9) (disch := (try simp only [lens]); omega) only [zJ, sm, ↓amb, zQ, simprocAttr, dx]
  repeat refine an ?_
  refine hk _ ?_; clear hk k
  refine zY fun k2 h2 => ?_
  refine zW (zV [3, 8, 9, 10, 11, 13]) ?_
  simp only [kp, zJ, simprocAttr]
  refine awp_own' 13 4 rfl ?_
  refine zK [66, 76] (by rw [hC]; rfl) fun k hk => ?_
  simp (maxSteps := 9^9) (disch := (try simp only [lens]); omega) only [zJ, sm, ↓amb, zQ, simprocAttr, dx]
  repeat refine an ?_
  refine hk _ ?_; clear hk k
  refine yK ?_
  refine yY (σ := Nat × Pl.Crew × List Pl.Event) (fun x => x.1 ≤ P.length ∧ Pl.Run n g x.2.1 x.2.2 ∧ Pl.picked (P.drop x.1) x.2.1 x.2.2 = (Pl.picked P (Pl.crewBegin n g w).1 []) ∧ x.2.2.length ≤ x.1) (fun x => ⟨[(3, (.p (picksV cp P))), (8, (.ptr 0 7 0 0)), (11, (.ptr 1 7 0 0)), (13, (.own 2)), (14, (.p (iV (x.1 : Int))))], [(0, (.row 7 [[.p (.seq true []), .p (iV 0), .p (.seq true []), .p (.seq true []), .p (bV false), .p (iV 0), .p (iV 0)]])), (1, (.row 7 [[.p (.seq false (x.2.1.work.ts.map taskC)), .p (iV x.2.1.work.grain), .p (.seq false (x.2.1.work.done.map fun b => [bV b])), .p (.seq false (x.2.1.dq.map lV)), .p (bV x.2.1.over), .p (iV x.2.1.steps), .p (iV x.2.1.idle)]])), (2, (.row 4 (lift (x.2.2.map evC))))], 1⟩) (fun x => P.length - x.1) (0, (Pl.crewBegin n g w).1, []) ?_ ?_ fun x hx => ?_
  ·exact ⟨Nat.zero_le _, b1, rfl, Nat.le_refl _⟩
  ·exact le_of [(0, _), (1, _), (2, _)] (by rfl) (by rfl) ⟨⟨_, rfl, .oe⟩, ⟨_, rfl, .ptr rfl⟩, ⟨_, rfl, .ptr rfl⟩, ⟨_, rfl, .own rfl⟩, ⟨_, rfl, .oe⟩, trivial⟩ ⟨⟨_, rfl, _, rfl, .one (.cons (.p (.refl _)) (.cons (.p (.refl _)) (.cons (.p (.refl _)) (.cons (.p (.refl _)) (.cons (.p (.refl _)) (.cons (.p (.refl _)) (.cons (.p (.refl _)) (.nil))))))))⟩, ⟨_, rfl, _, rfl, .one (.cons (.p (.refl _)) (.cons (.p (.refl _)) (.cons (.p (.refl _)) (.cons (.p (.refl _)) (.cons (.p (.refl _)) (.cons (.p (.refl _)) (.cons (.p (.refl _)) (.nil))))))))⟩, ⟨_, rfl, _, rfl, .liftE (by first | rfl | (rw [List.map_append]; rfl))⟩, trivial⟩
  obtain ⟨i, c, ev⟩ := x
  obtain ⟨hi, hR, hK, hel⟩ := hx
  dsimp only at hi hR hK hel
  refine zY fun k4 h4 => ?_
  refine xQ [66, 76] 38 (decide ((i : Int) < P.length ∧ ¬ c.over = true)) [0, 1, 2, 3, 8, 9, 10, 11, 13, 14] (by rw [hC]; rfl) (fun gd hgd k hk => ?_) ?_
  ·have g4 : gd 4 = some 34 := by rw [hgd]; rfl
   clear hgd
   simp (maxSteps := 9^9) (disch := (try simp only [lens]); omega) only [zJ, sm, ↓amb, zQ, simprocAttr, el24, fl91_2, sz4, zZ, g4, dx]
   repeat' first | refine hk _ _ rfl rfl rfl rfl ?_ | (refine gsplit (fun hg => ?_) (fun hg => ?_) <;> (try simp only [hbx] at hg) <;> simp (maxSteps := 9^9) (disch := (try simp only [lens]); omega) only [zJ, sm, ↓amb, zQ, simprocAttr, el24, fl91_2, sz4, zZ, g4, dx]) | apply And.intro | fail
   all_goals first | rfl | omega | exact (decide_eq_true (by omega)).symm | exact (decide_eq_false (by omega)).symm | exact decide_eq_decide.mpr (by omega) | (refine Bool.eq_iff_iff.mpr ?_; simp only [beq_iff_eq, bne_iff_ne, ne_eq, decide_eq_true_eq]; omega) | (refine Bool.eq_iff_iff.mpr ?_; simp only [Bool.not_eq_true', Bool.not_eq_false', decide_eq_false_iff_not, decide_eq_true_eq, beq_iff_eq, bne_iff_ne, ne_eq]; omega) | assumption | (simp; done) | (simp [maxLen]; omega) | skip
   all_goals first | (refine Bool.eq_iff_iff.mpr ?_; simp_all; done) | (refine (decide_eq_false ?_).symm; omega) | (refine (decide_eq_false ?_); omega) | trace_state
  simp only [kp, zJ, simprocAttr, List.length_cons, List.length_nil]
  refine zX rfl (fun hb => ?_) (fun hb => ?_)
  ·try simp only [hbx] at hb
   refine yJ ?_
   refine h4 _ ?_; clear h4 k4
   refine zY fun k5 h5 => ?_
   refine yK ?_
   refine zW (zV [0, 1, 2, 3, 8, 9, 10, 11, 13, 14]) ?_
   simp only [kp, zJ, simprocAttr]
   have ho : ¬ c.over = true := by simp [hb.2]
   obtain ⟨hs1, hs2⟩ := hR.step (by omega) (P.getD i default).1 (P.getD i default).2
   have hs3 := Pl.picked_on (l := ev) (P := P) (i := i) (by omega) ho hs1
   refine awp_sd [66, 76] ⟨[0, 0, 0, 6, 14, 30, 0, 0, 192, 448, 960, 2047, 4095, 8191, 8191, 8191, 0, 0, 212991, 491519, 1048575], [0, 5, 10], [18, 19], [(11, 18), (16, 18), (17, 18), (11, 19), (16, 19), (17, 19)], none⟩ (by rw [hC]; rfl) (by kernel_rfl) (by kernel_rfl) fun k hk => ?_
   simp (maxSteps := 9^9) (disch := (try simp only [lens]); omega) only [zJ, sm, ↓amb, zQ, simprocAttr, sz91, el24, sz115, el115, ar115, sz3, en72, vr91, vr112, sz112, dx]
   repeat refine an ?_
   refine yW (c_ref05_Step c (P.getD i default).1 (P.getD i default).2 (Pl.good_hl hR.gd) hs1) rfl ?_
   simp (maxSteps := 9^9) (disch := (try simp only [lens]); omega) only [zJ, sm, ↓amb, zQ, simprocAttr, sz91, el24, sz115, el115, ar115, sz3, en72, vr91, vr112, sz112, dx]
   repeat refine an ?_
   refine hk _ ?_; clear hk k
   refine zY fun k6 h6 => ?_
   refine zW (zV [0, 1, 2, 3, 8, 9, 10, 11, 13, 14, 15, 16, 17]) ?_
   simp only [kp, zJ, simprocAttr]
   refine zK [66, 76] (by rw [hC]; rfl) fun k hk => ?_
   simp (maxSteps := 9^9) (disch := (try simp only [lens]); omega) only [zJ, sm, ↓amb, zQ, simprocAttr, dx]
   repeat refine an ?_
   refine hk _ ?_; clear hk k
   refine zX rfl (fun hb => ?_) (fun hb => ?_)
   ·exact absurd hb (by simp)
   ·try simp only [hbx] at hb
    refine yJ ?_
    refine h6 _ ?_; clear h6 k6
    refine awp_draw [66, 76] ⟨[0, 0, 0, 4, 14, 31, 63], [], [4, 5], [(4, 5)], some [1, 2]⟩ (by rw [hC]; rfl) (by kernel_rfl) (by kernel_rfl) fun k hk => ?_
    simp (maxSteps := 9^9) (disch := (try simp only [lens]); omega) only [zJ, sm, ↓amb, zQ, simprocAttr, sz91, sz112, el92, vr112, by112, dx]
    repeat refine an ?_
    refine hk _ ?_; clear hk k
    refine h5 _ ?_; clear h5 k5
    refine yZ [66, 76] (by rw [hC]; rfl) fun k hk => ?_
    simp (maxSteps := 9^9) (disch := (try simp only [lens]); omega) only [zJ, sm, ↓amb, zQ, simprocAttr, dx]
    repeat refine an ?_
    refine hk _ ?_; clear hk k
    refine ⟨(i + 1, (Pl.step c (P.getD i default).1 (P.getD i default).2).1, ev ++ [(Pl.step c (P.getD i default).1 (P.getD i default).2).2.1]), ⟨by dsimp only; omega, hs2, by rw [← hK, hs3], by simp; omega⟩, le_of [(0, _), (1, _), (2, _)] (by rfl) (by rfl) ⟨⟨_, rfl, .oe⟩, ⟨_, rfl, .ptr rfl⟩, ⟨_, rfl, .ptr rfl⟩, ⟨_, rfl, .own rfl⟩, ⟨_, rfl, .oe⟩, trivial⟩ ⟨⟨_, rfl, _, rfl, .one (.cons (.p (.refl _)) (.cons (.p (.refl _)) (.cons (.p (.refl _)) (.cons (.p (.refl _)) (.cons (.p (.refl _)) (.cons (.p (.refl _)) (.cons (.p (.refl _)) (.nil))))))))⟩, ⟨_, rfl, _, rfl, .one (.cons (.p (.refl _)) (.cons (.p (.refl _)) (.cons (.p (.refl _)) (.cons (.p (.refl _)) (.cons (.p (.refl _)) (.cons (.p (.refl _)) (.cons (.p (.refl _)) (.nil))))))))⟩, ⟨_, rfl, _, rfl, .liftE (by first | rfl | (rw [List.map_append]; rfl))⟩, trivial⟩, by dsimp only; omega⟩
  ·try simp only [hbx] at hb
   refine yX ((if_pos rfl).mpr ?_)
   refine h2 _ ?_; clear h4 k4; clear h2 k2
   refine zW (zV [8, 11, 13]) ?_
   simp only [kp, zJ, simprocAttr]
   have he0 : (Pl.picked P (Pl.crewBegin n g w).1 []) = (c, ev, 0) := by
    rw [← hK]
    by_cases hov : c.over = true
    ·exact Pl.picked_over _ hov
    ·exact Pl.picked_nil (Nat.le_of_not_lt fun q => hb ⟨by omega, by simpa using hov⟩)
   have hM : Pl.most n g 0 c ev ≤ 16010 := by rw [he0] at b5; exact b5
   have hW : (Pl.whole n g w P) = Pl.rounds 20000 0 c ev := by rw [b6, he0]
   rw [hW]
   have hrl : (Pl.rounds 20000 0 c ev).2.1.length - ev.length ≤ 1000000 := by
    have h1 := (Pl.whole_ok (P := P) hcn hww hP).2.2.2.2.2.1
    have h2 := Pl.bd_nn ⟨hcn, hww⟩
    rw [hW] at h1; rw [Int.mul_add, Int.mul_comm w] at h2; omega
   have hall : ∀ y, y ∈ List.map evC ((Pl.rounds 20000 0 c ev).2.1.drop ev.length) → y.length = 4 := fun y hy => by
    obtain ⟨e, _, rfl⟩ := List.mem_map.1 hy; rfl
   refine zK [66, 76] (by rw [hC]; rfl) fun k hk => ?_
   simp (maxSteps := 9^9) (disch := (try simp only [lens]); omega) only [zJ, sm, ↓amb, zQ, simprocAttr, sz91, en73, dx]
   repeat refine an ?_
   refine yW (c_ref06_Drain n g c ev hR hM (by omega)) rfl ?_
   simp (maxSteps := 9^9) (disch := (try simp only [lens]); omega) only [zJ, sm, ↓amb, zQ, simprocAttr, sz91, en73, dx]
   repeat refine an ?_
   refine hk _ ?_; clear hk k
   refine zW (zV [8, 11, 12, 13, 18]) ?_
   simp only [kp, zJ, simprocAttr]
   refine awp_sd [66, 76] ⟨[0, 0, 0, 6, 0, 15, 47, 127], [], [3, 5], [(3, 5)], some [0, 2]⟩ (by rw [hC]; rfl) (by kernel_rfl) (by kernel_rfl) fun k hk => ?_
   simp (maxSteps := 9^9) (disch := (try simp only [lens]); omega) only [zJ, sm, ↓amb, zQ, simprocAttr, sz91, el92, vr112, by112, dx]
   repeat refine an ?_
   refine hk _ ?_; clear hk k
   refine yQ ?_
   refine retl rfl rfl ⟨retc rfl sz91 ?_, rett rfl ?_, rett rfl ?_, trivial⟩
   simp (maxSteps := 9^9) (disch := (try simp only [lens]); omega) only [zJ, sm, ↓amb, zQ, simprocAttr, sz91, dx]
   ·exact .p (LeP.refl _)
   ·exact .ownE rfl (by rw [Pl.rounds_rest])
   ·exact .p (LeP.refl _)
end Go.Proofs.Ytbehekmnccoifaa
end
section
set_option linter.unusedSimpArgs false
set_option linter.unusedVariables false
set_option maxRecDepth 100000
namespace Go.Proofs.Ytbehekmnccoifaa
open Go.Am Go.Proofs
theorem en55 : enters Try.prog 55 = true := by kernel_rfl
theorem en56 : enters Try.prog 56 = true := by kernel_rfl
theorem en57 : enters Try.prog 57 = true := by kernel_rfl
set_option maxHeartbeats 4000000 in
theorem c_ref06_Leaves (ce : Bool) (c : Pl.Crew) (ev : List Pl.Event) (he : ev.length ≤ 1000000) : PCall Try.prog 57 [.agg (crewC c), .seq ce (ev.map evC)] (.seq false ((Pl.leaves' c.work.ts ev).map (fun s => [iV s.1, iV s.2]))) := by
 refine yV Try.func57 rfl (by simp [Try.ntmps57]) fun C hC => ?_
 refine zW (zV [0, 1]) ?_
 simp only [kp, zJ, simprocAttr]
 refine zK [57] (by rw [hC]; rfl) fun k hk => ?_
 simp (maxSteps := 9^9) (disch := (try simp only [lens]); omega) only [zJ, sm, ↓amb, zQ, simprocAttr, dx]
 repeat refine an ?_
 refine hk _ ?_; clear hk k
 refine zW (zV [1, 2]) ?_
 simp only [kp, zJ, simprocAttr]
 refine zK [57] (by rw [hC]; rfl) fun k hk => ?_
 simp (maxSteps := 9^9) (disch := (try simp only [lens]); omega) only [zJ, sm, ↓amb, zQ, simprocAttr, dx]
 repeat refine an ?_
 refine hk _ ?_; clear hk k
 refine zY fun k1 h1 => ?_
 refine zW (zV [1, 2, 4, 5]) ?_
 simp only [kp, zJ, simprocAttr]
 refine awp_own' 5 2 rfl ?_
 refine zK [57] (by rw [hC]; rfl) fun k hk => ?_
 simp (maxSteps := 9^9) (disch := (try simp only [lens]); omega) only [zJ, sm, ↓amb, zQ, simprocAttr, dx]
 repeat refine an ?_
 refine hk _ ?_; clear hk k
 refine yK ?_
 refine yY (σ := Nat) (fun i => i ≤ ev.length) (fun (i : Nat) => ⟨[(1, (.p (.seq ce (ev.map evC)))), (2, (.ptr 0 7 0 0)), (5, (.own 1)), (6, (.p (iV (i : Int))))], [(0, (.row 7 [[.p (.seq false (c.work.ts.map taskC)), .p (iV c.work.grain), .p (.seq false (c.work.done.map fun b => [bV b])), .p (.seq false (c.dq.map lV)), .p (bV c.over), .p (iV c.steps), .p (iV c.idle)]])), (1, (.row 2 (lift ((Pl.leaves' c.work.ts (ev.take i)).map (fun s => [iV s.1, iV s.2])))))], 1⟩) (fun i => ev.length - i) 0 ?_ ?_ fun i hi => ?_
 ·exact Nat.zero_le _
 ·exact le_of [(0, _), (1, _)] (by rfl) (by rfl) ⟨⟨_, rfl, .oe⟩, ⟨_, rfl, .ptr rfl⟩, ⟨_, rfl, .own rfl⟩, ⟨_, rfl, .oe⟩, trivial⟩ ⟨⟨_, rfl, _, rfl, .one (.cons (.p (.refl _)) (.cons (.p (.refl _)) (.cons (.p (.refl _)) (.cons (.p (.refl _)) (.cons (.p (.refl _)) (.cons (.p (.refl _)) (.cons (.p (.refl _)) (.nil))))))))⟩, ⟨_, rfl, _, rfl, .liftE (by first | (rw [List.take_zero]; rfl) | (rw [Pl.leaves_take _ _ i (by omega), if_neg (by rw [hnl]; decide), List.append_nil]; done) | (rw [Pl.leaves_take _ _ i (by omega), if_pos hlf, List.map_append]; rfl) | trace_state)⟩, trivial⟩
 refine zY fun k3 h3 => ?_
 refine zW (zV [0, 1, 2, 4, 5, 6]) ?_
 simp only [kp, zJ, simprocAttr]
 refine zK [57] (by rw [hC]; rfl) fun k hk => ?_
 simp (maxSteps := 9^9) (disch := (try simp only [lens]); omega) only [zJ, sm, ↓amb, zQ, simprocAttr, el92, dx]
 repeat refine an ?_
 refine hk _ ?_; clear hk k
 refine zX rfl (fun hb => ?_) (fun hb => ?_)
 ·try simp only [hbx] at hb
  refine yJ ?_
  refine h3 _ ?_; clear h3 k3
  refine zY fun k4 h4 => ?_
  refine yK ?_
  refine awp_testD [57] ⟨[0, 0, 3, 7, 15, 31, 63, 127, 127, 511, 1023, 2047, 127, 4223, 12415, 28799, 65535, 131071, 262143, 524287, 524287, 2097151, 4194303, 8388607, 16777215, 33554431], [4, 11, 14, 15, 23], [], [], some []⟩ 39 (decide (0 ≤ (ev.getD i default).task ∧ (ev.getD i default).task < c.work.ts.length ∧ (ev.getD i default).parted = false)) [0, 1, 2, 4, 5, 6] (by rw [hC]; rfl) (by kernel_rfl) (by kernel_rfl) (fun gd hgd k hk => ?_) ?_
  ·have g6 : gd 6 = some 20 := by rw [hgd]; rfl
   have g18 : gd 18 = some 32 := by rw [hgd]; rfl
   clear hgd
   simp (maxSteps := 9^9) (disch := (try simp only [lens]); omega) only [zJ, sm, ↓amb, zQ, simprocAttr, el92, sz112, fl112_2, sz3, fl91_0, fl88_0, sz86, el86, fl112_3, sz4, zZ, g6, g18, dx]
   repeat' first | refine hk _ _ rfl rfl rfl rfl ?_ | (refine gsplit (fun hg => ?_) (fun hg => ?_) <;> (try simp only [hbx] at hg) <;> simp (maxSteps := 9^9) (disch := (try simp only [lens]); omega) only [zJ, sm, ↓amb, zQ, simprocAttr, el92, sz112, fl112_2, sz3, fl91_0, fl88_0, sz86, el86, fl112_3, sz4, zZ, g6, g18, dx]) | apply And.intro | fail
   all_goals first | rfl | omega | exact (decide_eq_true (by omega)).symm | exact (decide_eq_false (by omega)).symm | exact decide_eq_decide.mpr (by omega) | (refine Bool.eq_iff_iff.mpr ?_; simp only [beq_iff_eq, bne_iff_ne, ne_eq, decide_eq_true_eq]; omega) | (refine Bool.eq_iff_iff.mpr ?_; simp only [Bool.not_eq_true', Bool.not_eq_false', decide_eq_false_iff_not, decide_eq_true_eq, beq_iff_eq, bne_iff_ne, ne_eq]; omega) | assumption | (simp; done) | (simp [maxLen]; omega) | skip
   all_goals first | (refine (decide_eq_false ?_).symm; intro q; omega) | (refine Bool.eq_iff_iff.mpr ?_; simp only [Bool.not_eq_true', decide_eq_true_eq]; exact ⟨fun h => ⟨by omega, by omega, h⟩, fun h => h.2.2⟩) | trace_state
  simp only [kp, zJ, simprocAttr, List.length_cons, List.length_nil]
  refine zX rfl (fun hb => ?_) (fun hb => ?_)
  ·try simp only [hbx] at hb
   refine zW (zV [0, 1, 2, 4, 5, 6]) ?_
   simp only [kp, zJ, simprocAttr]
   obtain ⟨hlf, hlf2, hlf3⟩ := Pl.isLeaf_yes (ts := c.work.ts) (e := (ev.getD i default)) (by rintro (q | q | q); rw [hb.2.2] at q; cases q; omega; omega)
   have hll := Pl.leaves_len c.work.ts (ev.take i)
   rw [List.length_take] at hll
   refine awp_sd [57] ⟨[0, 1, 3, 0, 0, 24, 56, 120, 255, 511, 0, 2047], [2, 7, 9], [11], [(10, 11)], none⟩ (by rw [hC]; rfl) (by kernel_rfl) (by kernel_rfl) fun k hk => ?_
   simp (maxSteps := 9^9) (disch := (try simp only [lens]); omega) only [zJ, sm, ↓amb, zQ, simprocAttr, fl91_0, fl88_0, sz86, el92, sz112, fl112_2, sz3, el86, sz118, vr118, dx]
   repeat refine an ?_
   refine hk _ ?_; clear hk k
   refine yZ [57] (by rw [hC]; rfl) fun k hk => ?_
   simp (maxSteps := 9^9) (disch := (try simp only [lens]); omega) only [zJ, sm, ↓amb, zQ, simprocAttr, fl118_0, sz3, fl118_1, vr98, bt98, pl98_0, pl98_1, el95, by98, dx]
   repeat refine an ?_
   refine hk _ ?_; clear hk k
   refine h4 _ ?_; clear h4 k4
   refine yZ [57] (by rw [hC]; rfl) fun k hk => ?_
   simp (maxSteps := 9^9) (disch := (try simp only [lens]); omega) only [zJ, sm, ↓amb, zQ, simprocAttr, dx]
   repeat refine an ?_
   refine hk _ ?_; clear hk k
   refine ⟨i + 1, by omega, le_of [(0, _), (1, _)] (by rfl) (by rfl) ⟨⟨_, rfl, .oe⟩, ⟨_, rfl, .ptr rfl⟩, ⟨_, rfl, .own rfl⟩, ⟨_, rfl, .oe⟩, trivial⟩ ⟨⟨_, rfl, _, rfl, .one (.cons (.p (.refl _)) (.cons (.p (.refl _)) (.cons (.p (.refl _)) (.cons (.p (.refl _)) (.cons (.p (.refl _)) (.cons (.p (.refl _)) (.cons (.p (.refl _)) (.nil))))))))⟩, ⟨_, rfl, _, rfl, .liftE (by first | (rw [List.take_zero]; rfl) | (rw [Pl.leaves_take _ _ i (by omega), if_neg (by rw [hnl]; decide), List.append_nil]; done) | (rw [Pl.leaves_take _ _ i (by omega), if_pos hlf, List.map_append]; rfl) | trace_state)⟩, trivial⟩, by omega⟩
  ·try simp only [hbx] at hb
   refine yJ ?_
   refine h4 _ ?_; clear h4 k4
   have hnl := Pl.isLeaf_no (ts := c.work.ts) (e := (ev.getD i default)) (by by_cases q1 : (ev.getD i default).task < 0; exact .inr (.inl q1); by_cases q2 : (c.work.ts.length : Int) ≤ (ev.getD i default).task; exact .inr (.inr q2); refine .inl (by cases q3 : (ev.getD i default).parted; exact absurd ⟨by omega, by omega, q3⟩ hb; rfl))
   refine yZ [57] (by rw [hC]; rfl) fun k hk => ?_
   simp (maxSteps := 9^9) (disch := (try simp only [lens]); omega) only [zJ, sm, ↓amb, zQ, simprocAttr, dx]
   repeat refine an ?_
   refine hk _ ?_; clear hk k
   refine ⟨i + 1, by omega, le_of [(0, _), (1, _)] (by rfl) (by rfl) ⟨⟨_, rfl, .oe⟩, ⟨_, rfl, .ptr rfl⟩, ⟨_, rfl, .own rfl⟩, ⟨_, rfl, .oe⟩, trivial⟩ ⟨⟨_, rfl, _, rfl, .one (.cons (.p (.refl _)) (.cons (.p (.refl _)) (.cons (.p (.refl _)) (.cons (.p (.refl _)) (.cons (.p (.refl _)) (.cons (.p (.refl _)) (.cons (.p (.refl _)) (.nil))))))))⟩, ⟨_, rfl, _, rfl, .liftE (by first | (rw [List.take_zero]; rfl) | (rw [Pl.leaves_take _ _ i (by omega), if_neg (by rw [hnl]; decide), List.append_nil]; done) | (rw [Pl.leaves_take _ _ i (by omega), if_pos hlf, List.map_append]; rfl) | trace_state)⟩, trivial⟩, by omega⟩
 ·try simp only [hbx] at hb
  refine yX ((if_pos rfl).mpr ?_)
  refine h1 _ ?_; clear h3 k3; clear h1 k1
  refine zW (zV [5]) ?_
  simp only [kp, zJ, simprocAttr]
  have htk : ev.take i = ev := List.take_of_length_le (by omega)
  rw [htk]
  refine zK [57] (by rw [hC]; rfl) fun k hk => ?_
  simp (maxSteps := 9^9) (disch := (try simp only [lens]); omega) only [zJ, sm, ↓amb, zQ, simprocAttr, dx]
  repeat refine an ?_
  refine hk _ ?_; clear hk k
  refine yQ ?_
  refine ret1 rfl rfl ?_
  exact .ownE rfl rfl
set_option maxHeartbeats 4000000 in
theorem c_ref07_Order (c : Bool) (n : Int) (p : Pl.Plan) : PCall Try.prog 39 [iV n, .agg (planC c p)] (.tup [ints false (Pl.ordU n p), iV (Pl.ordS n p), iV (Pl.ordE n p)]) := by
 refine yV Try.func39 rfl (by simp [Try.ntmps39]) fun C hC => ?_
 refine zW (zV [0, 1]) ?_
 simp only [kp, zJ, simprocAttr]
 refine zK [68] (by rw [hC]; rfl) fun k hk => ?_
 simp (maxSteps := 9^9) (disch := (try simp only [lens]); omega) only [zJ, sm, ↓amb, zQ, simprocAttr, dx]
 repeat refine an ?_
 refine hk _ ?_; clear hk k
 refine zY fun k1 h1 => ?_
 refine xQ [68] 24 (decide (¬ Pl.ordOk n p)) [0, 3, 4, 5, 6] (by rw [hC]; rfl) (fun gd hgd k hk => ?_) ?_
 ·have g2 : gd 2 = some 16 := by rw [hgd]; rfl
  have g6 : gd 6 = some 20 := by rw [hgd]; rfl
  clear hgd
  simp (maxSteps := 9^9) (disch := (try simp only [lens]); omega) only [zJ, sm, ↓amb, zQ, simprocAttr, sz26, en55, zZ, g2, g6, dx]
  repeat' first | refine hk _ _ rfl rfl rfl rfl ?_ | (refine gsplit (fun hg => ?_) (fun hg => ?_) <;> (try simp only [hbx] at hg) <;> simp (maxSteps := 9^9) (disch := (try simp only [lens]); omega) only [zJ, sm, ↓amb, zQ, simprocAttr, sz26, en55, zZ, g2, g6, dx]) | apply And.intro | (refine yW (c_ref07_Right _ _) rfl ?_; (try simp (maxSteps := 9^9) (disch := (try simp only [lens]); omega) only [zJ, sm, ↓amb, zQ, simprocAttr, sz26, en55, zZ, g2, g6, dx])) | fail
  all_goals first | rfl | omega | exact (decide_eq_true (by omega)).symm | exact (decide_eq_false (by omega)).symm | exact decide_eq_decide.mpr (by omega) | (refine Bool.eq_iff_iff.mpr ?_; simp only [beq_iff_eq, bne_iff_ne, ne_eq, decide_eq_true_eq]; omega) | (refine Bool.eq_iff_iff.mpr ?_; simp only [Bool.not_eq_true', Bool.not_eq_false', decide_eq_false_iff_not, decide_eq_true_eq, beq_iff_eq, bne_iff_ne, ne_eq]; omega) | assumption | (simp; done) | (simp [maxLen]; omega) | skip
  all_goals first | (refine (decide_eq_true ?_).symm; intro q; exact absurd q.1 (by omega)) | (refine (decide_eq_true ?_).symm; intro q; exact absurd q.2.1 (by omega)) | (refine Bool.eq_iff_iff.mpr ?_; simp only [Bool.not_eq_true', decide_eq_false_iff_not, decide_eq_true_eq]; exact ⟨fun h q => h q.2.2, fun h q => h ⟨by omega, by omega, q⟩⟩)
 simp only [kp, zJ, simprocAttr, List.length_cons, List.length_nil]
 refine zX rfl (fun hb => ?_) (fun hb => ?_)
 ·try simp only [hbx] at hb
  refine zW (zV []) ?_
  simp only [kp, zJ, simprocAttr]
  refine zK [68] (by rw [hC]; rfl) fun k hk => ?_
  simp (maxSteps := 9^9) (disch := (try simp only [lens]); omega) only [zJ, sm, ↓amb, zQ, simprocAttr, dx]
  repeat refine an ?_
  refine hk _ ?_; clear hk k
  refine yQ ?_
  obtain ⟨e1, e2, e3⟩ := Pl.ord_no (n := n) (p := p) (by first | exact hb | simpa using hb)
  rw [e1, e2, e3]
  refine ret3 rfl rfl rfl rfl ?_ ?_ ?_
  ·exact .p (LeP.seq _ _)
  ·exact .p (LeP.refl _)
  ·exact .p (LeP.refl _)
 ·try simp only [hbx] at hb
  refine yJ ?_
  refine h1 _ ?_; clear h1 k1
  refine zY fun k2 h2 => ?_
  refine zW (zV [0, 3, 4, 5, 6]) ?_
  simp only [kp, zJ, simprocAttr]
  have hok : Pl.ordOk n p := by first | exact hb | (simpa using hb)
  refine zK [68] (by rw [hC]; rfl) fun k hk => ?_
  simp (maxSteps := 9^9) (disch := (try simp only [lens]); omega) only [zJ, sm, ↓amb, zQ, simprocAttr, dx]
  repeat refine an ?_
  refine hk _ ?_; clear hk k
  refine zX rfl (fun hb => ?_) (fun hb => ?_)
  ·try simp only [hbx] at hb
   refine zW (zV []) ?_
   simp only [kp, zJ, simprocAttr]
   refine zK [68] (by rw [hC]; rfl) fun k hk => ?_
   simp (maxSteps := 9^9) (disch := (try simp only [lens]); omega) only [zJ, sm, ↓amb, zQ, simprocAttr, dx]
   repeat refine an ?_
   refine hk _ ?_; clear hk k
   refine yQ ?_
   subst hb
   obtain ⟨e1, e2⟩ := Pl.ord_zero p
   rw [e1, e2, Pl.ordE0 hok]
   refine ret3 rfl rfl rfl rfl ?_ ?_ ?_
   ·exact .p (LeP.seq _ _)
   ·exact .p (LeP.refl _)
   ·exact .p (LeP.refl _)
  ·try simp only [hbx] at hb
   refine yJ ?_
   refine h2 _ ?_; clear h2 k2
   refine zW (zV [0, 3]) ?_
   simp only [kp, zJ, simprocAttr]
   have hn0 := hb
   have hbd := Pl.ord_bd hok hn0
   obtain ⟨u1, u2, u3, u4, u5, u6, u7⟩ := Pl.ordL_ok hok hn0
   have hn1 := hok.2.1
   refine zK [68] (by rw [hC]; rfl) fun k hk => ?_
   simp (maxSteps := 9^9) (disch := (try simp only [lens]); omega) only [zJ, sm, ↓amb, zQ, simprocAttr, fl26_0, sz3, fl26_1, fl26_2, sz24, en56, vr91, sz91, dx]
   repeat refine an ?_
   refine yW (c_ref06_Whole _ n p.grain p.workers p.picks hbd.1 (by omega)) rfl ?_
   simp (maxSteps := 9^9) (disch := (try simp only [lens]); omega) only [zJ, sm, ↓amb, zQ, simprocAttr, fl26_0, sz3, fl26_1, fl26_2, sz24, en56, vr91, sz91, dx]
   repeat refine an ?_
   refine hk _ ?_; clear hk k
   refine zY fun k3 h3 => ?_
   refine zW (zV [4, 5, 6, 7, 8, 9]) ?_
   simp only [kp, zJ, simprocAttr]
   refine zK [68] (by rw [hC]; rfl) fun k hk => ?_
   simp (maxSteps := 9^9) (disch := (try simp only [lens]); omega) only [zJ, sm, ↓amb, zQ, simprocAttr, dx]
   repeat refine an ?_
   refine hk _ ?_; clear hk k
   refine zX rfl (fun hb => ?_) (fun hb => ?_)
   ·exact absurd hb (by simp)
   ·try simp only [hbx] at hb
    refine yJ ?_
    refine h3 _ ?_; clear h3 k3
    refine zW (zV [7, 8]) ?_
    simp only [kp, zJ, simprocAttr]
    refine zK [68] (by rw [hC]; rfl) fun k hk => ?_
    simp (maxSteps := 9^9) (disch := (try simp only [lens]); omega) only [zJ, sm, ↓amb, zQ, simprocAttr, dx]
    repeat refine an ?_
    refine hk _ ?_; clear hk k
    refine zW (zV [7, 8, 10]) ?_
    simp only [kp, zJ, simprocAttr]
    have hws : (Pl.whole n p.grain p.workers p.picks).2.1.length ≤ 1000000 := by have := u6; unfold Pl.ordW at this; omega
    refine awp_own' 10 1 rfl ?_
    refine zK [68] (by rw [hC]; rfl) fun k hk => ?_
    simp (maxSteps := 9^9) (disch := (try simp only [lens]); omega) only [zJ, sm, ↓amb, zQ, simprocAttr, sz91, en57, dx]
    repeat refine an ?_
    refine yW (c_ref06_Leaves _ _ _ hws) rfl ?_
    simp (maxSteps := 9^9) (disch := (try simp only [lens]); omega) only [zJ, sm, ↓amb, zQ, simprocAttr, sz91, en57, dx]
    repeat refine an ?_
    refine hk _ ?_; clear hk k
    refine zY fun k4 h4 => ?_
    refine zW (zV [4, 5, 6, 8, 10, 11]) ?_
    simp only [kp, zJ, simprocAttr]
    refine zK [68] (by rw [hC]; rfl) fun k hk => ?_
    simp (maxSteps := 9^9) (disch := (try simp only [lens]); omega) only [zJ, sm, ↓amb, zQ, simprocAttr, dx]
    repeat refine an ?_
    refine hk _ ?_; clear hk k
    refine yK ?_
    refine yY (σ := Nat) (fun i => i ≤ (Pl.ordL n p).length) (fun (i : Nat) => ⟨[(8, (.p (.seq false ((Pl.whole n p.grain p.workers p.picks).2.1.map evC)))), (10, (.own 0)), (11, (.p (.seq false ((Pl.ordL n p).map (fun s => [iV s.1, iV s.2]))))), (12, (.p (iV (i : Int))))], [(0, (.row 1 (lift ((Pl.unitsOf ((Pl.ordL n p).take i)).map fun x => [iV x]))))], 1⟩) (fun i => (Pl.ordL n p).length - i) 0 ?_ ?_ fun i hi => ?_
    ·exact Nat.zero_le _
    ·exact le_of [(0, _)] (by rfl) (by rfl) ⟨⟨_, rfl, .oe⟩, ⟨_, rfl, .own rfl⟩, ⟨_, rfl, .oe⟩, ⟨_, rfl, .oe⟩, trivial⟩ ⟨⟨_, rfl, _, rfl, .liftE (by first | (rw [List.take_zero]; rfl) | (rw [Pl.unitsOf_take _ i (by omega), hke]))⟩, trivial⟩
    refine zY fun k6 h6 => ?_
    refine zW (zV [0, 4, 5, 6, 8, 10, 11, 12]) ?_
    simp only [kp, zJ, simprocAttr]
    refine zK [68] (by rw [hC]; rfl) fun k hk => ?_
    simp (maxSteps := 9^9) (disch := (try simp only [lens]); omega) only [zJ, sm, ↓amb, zQ, simprocAttr, el95, dx]
    repeat refine an ?_
    refine hk _ ?_; clear hk k
    refine zX rfl (fun hb => ?_) (fun hb => ?_)
    ·try simp only [hbx] at hb
     refine yJ ?_
     refine h6 _ ?_; clear h6 k6
     refine zY fun k7 h7 => ?_
     refine yK ?_
     refine zW (zV [0, 4, 5, 6, 8, 10, 11, 12]) ?_
     simp only [kp, zJ, simprocAttr]
     obtain ⟨s1, s2, s3⟩ := u3 ((Pl.ordL n p).getD i default) (Pl.getD_mem _ i default (by omega))
     refine zK [68] (by rw [hC]; rfl) fun k hk => ?_
     simp (maxSteps := 9^9) (disch := (try simp only [lens]); omega) only [zJ, sm, ↓amb, zQ, simprocAttr, el95, sz98, fl98_0, sz3, dx]
     repeat refine an ?_
     refine hk _ ?_; clear hk k
     refine yK ?_
     refine yY (σ := Nat) (fun k => (k : Int) ≤ ((Pl.ordL n p).getD i default).2 - ((Pl.ordL n p).getD i default).1) (fun (k : Nat) => ⟨[(8, (.p (.seq false ((Pl.whole n p.grain p.workers p.picks).2.1.map evC)))), (10, (.own 0)), (11, (.p (.seq false ((Pl.ordL n p).map (fun s => [iV s.1, iV s.2]))))), (12, (.p (iV (i : Int)))), (13, (.p (iV (((Pl.ordL n p).getD i default).1 + (k : Int)))))], [(0, (.row 1 (lift ((Pl.unitsOf ((Pl.ordL n p).take i) ++ Pl.upto ((Pl.ordL n p).getD i default).1 (((Pl.ordL n p).getD i default).1 + (k : Int))).map fun x => [iV x]))))], 1⟩) (fun k => (((Pl.ordL n p).getD i default).2 - ((Pl.ordL n p).getD i default).1).toNat - k) 0 ?_ ?_ fun k hk => ?_
     ·show ((0 : Nat) : Int) ≤ _; omega
     ·exact le_of [(0, _)] (by rfl) (by rfl) ⟨⟨_, rfl, .oe⟩, ⟨_, rfl, .own rfl⟩, ⟨_, rfl, .oe⟩, ⟨_, rfl, .oe⟩, ⟨_, rfl, .oe⟩, trivial⟩ ⟨⟨_, rfl, _, rfl, .liftE (by first | (rw [Pl.upto_nil (by simp), List.append_nil]; done) | (rw [← Pl.upto_snoc, ← List.append_assoc]; simp only [List.map_append, List.map_cons, List.map_nil]))⟩, trivial⟩
     refine zY fun k9 h9 => ?_
     refine zW (zV [0, 4, 5, 6, 8, 10, 11, 12, 13]) ?_
     simp only [kp, zJ, simprocAttr]
     refine zK [68] (by rw [hC]; rfl) fun k hk => ?_
     simp (maxSteps := 9^9) (disch := (try simp only [lens]); omega) only [zJ, sm, ↓amb, zQ, simprocAttr, el95, sz98, fl98_1, sz3, dx]
     repeat refine an ?_
     refine hk _ ?_; clear hk k
     refine zX rfl (fun hb => ?_) (fun hb => ?_)
     ·try simp only [hbx] at hb
      refine yJ ?_
      refine h9 _ ?_; clear h9 k9
      refine zY fun k10 h10 => ?_
      refine yK ?_
      have hul := Pl.upto_take_len (Pl.ordL n p) i k (by omega) (by omega)
      rw [List.length_append] at hul
      refine yZ [68] (by rw [hC]; rfl) fun k hk => ?_
      simp (maxSteps := 9^9) (disch := (try simp only [lens]); omega) only [zJ, sm, ↓amb, zQ, simprocAttr, el33, vr3, by3, dx]
      repeat refine an ?_
      refine hk _ ?_; clear hk k
      refine h10 _ ?_; clear h10 k10
      refine yZ [68] (by rw [hC]; rfl) fun k hk => ?_
      simp (maxSteps := 9^9) (disch := (try simp only [lens]); omega) only [zJ, sm, ↓amb, zQ, simprocAttr, dx]
      repeat refine an ?_
      refine hk _ ?_; clear hk k
      refine ⟨k + 1, by omega, le_of [(0, _)] (by rfl) (by rfl) ⟨⟨_, rfl, .oe⟩, ⟨_, rfl, .own rfl⟩, ⟨_, rfl, .oe⟩, ⟨_, rfl, .oe⟩, ⟨_, rfl, .oe⟩, trivial⟩ ⟨⟨_, rfl, _, rfl, .liftE (by first | (rw [Pl.upto_nil (by simp), List.append_nil]; done) | (rw [← Pl.upto_snoc, ← List.append_assoc]; simp only [List.map_append, List.map_cons, List.map_nil]))⟩, trivial⟩, by omega⟩
     ·try simp only [hbx] at hb
      refine yX ((if_pos rfl).mpr ?_)
      refine h7 _ ?_; clear h9 k9; clear h7 k7
      have hke : ((Pl.ordL n p).getD i default).1 + (k : Int) = ((Pl.ordL n p).getD i default).2 := by omega
      refine yZ [68] (by rw [hC]; rfl) fun k hk => ?_
      simp (maxSteps := 9^9) (disch := (try simp only [lens]); omega) only [zJ, sm, ↓amb, zQ, simprocAttr, dx]
      repeat refine an ?_
      refine hk _ ?_; clear hk k
      refine ⟨i + 1, by omega, le_of [(0, _)] (by rfl) (by rfl) ⟨⟨_, rfl, .oe⟩, ⟨_, rfl, .own rfl⟩, ⟨_, rfl, .oe⟩, ⟨_, rfl, .oe⟩, trivial⟩ ⟨⟨_, rfl, _, rfl, .liftE (by first | (rw [List.take_zero]; rfl) | (rw [Pl.unitsOf_take _ i (by omega), hke]))⟩, trivial⟩, by omega⟩
    ·try simp only [hbx] at hb
     refine yX ((if_pos rfl).mpr ?_)
     refine h4 _ ?_; clear h6 k6; clear h4 k4
     refine zW (zV [8, 10]) ?_
     simp only [kp, zJ, simprocAttr]
     have htk : (Pl.ordL n p).take i = (Pl.ordL n p) := List.take_of_length_le (by omega)
     rw [htk]
     refine zK [68] (by rw [hC]; rfl) fun k hk => ?_
     simp (maxSteps := 9^9) (disch := (try simp only [lens]); omega) only [zJ, sm, ↓amb, zQ, simprocAttr, el92, dx]
     repeat refine an ?_
     refine hk _ ?_; clear hk k
     refine yQ ?_
     rw [u1, u2, Pl.ordE0 hok]
     refine ret3 rfl rfl rfl rfl ?_ ?_ ?_
     ·exact .ownE rfl rfl
     ·exact .p (LeP.refl _)
     ·exact .p (LeP.refl _)
end Go.Proofs.Ytbehekmnccoifaa
end
section
set_option linter.unusedSimpArgs false
set_option linter.unusedVariables false
set_option maxRecDepth 100000
namespace Go.Proofs.Ytbehekmnccoifaa
open Go.Am Go.Proofs
theorem en39 : enters Try.prog 39 = true := by kernel_rfl
theorem en54 : enters Try.prog 54 = true := by kernel_rfl
theorem en70 : enters Try.prog 70 = true := by kernel_rfl
set_option maxHeartbeats 4000000 in
theorem c_ref08_Steps (c : Bool) (n : Nat) (b : Int) (p : Pl.Plan) : PCall Try.prog 54 [iV n, iV b, .agg (planC c p)] (.tup [iV (Pl.scS n b p), iV (Pl.scE n b p)]) := by
 refine yV Try.func54 rfl (by simp [Try.ntmps54]) fun C hC => ?_
 refine zW (zV [0, 1, 2]) ?_
 simp only [kp, zJ, simprocAttr]
 refine zK [] (by rw [hC]; rfl) fun k hk => ?_
 simp (maxSteps := 9^9) (disch := (try simp only [lens]); omega) only [zJ, sm, ↓amb, zQ, simprocAttr, dx]
 repeat refine an ?_
 refine hk _ ?_; clear hk k
 refine zY fun k1 h1 => ?_
 refine xQ [] 18 (decide (¬ (1 ≤ b ∧ b ≤ 100))) [0, 1, 5, 6, 7] (by rw [hC]; rfl) (fun gd hgd k hk => ?_) ?_
 ·have g2 : gd 2 = some 15 := by rw [hgd]; rfl
  clear hgd
  simp (maxSteps := 9^9) (disch := (try simp only [lens]); omega) only [zJ, sm, ↓amb, zQ, simprocAttr, zZ, g2, dx]
  repeat' first | refine hk _ _ rfl rfl rfl rfl ?_ | (refine gsplit (fun hg => ?_) (fun hg => ?_) <;> (try simp only [hbx] at hg) <;> simp (maxSteps := 9^9) (disch := (try simp only [lens]); omega) only [zJ, sm, ↓amb, zQ, simprocAttr, zZ, g2, dx]) | apply And.intro | fail
  all_goals first | rfl | omega | exact (decide_eq_true (by omega)).symm | exact (decide_eq_false (by omega)).symm | exact decide_eq_decide.mpr (by omega) | (refine Bool.eq_iff_iff.mpr ?_; simp only [beq_iff_eq, bne_iff_ne, ne_eq, decide_eq_true_eq]; omega) | (refine Bool.eq_iff_iff.mpr ?_; simp only [Bool.not_eq_true', Bool.not_eq_false', decide_eq_false_iff_not, decide_eq_true_eq, beq_iff_eq, bne_iff_ne, ne_eq]; omega) | assumption | (simp; done) | (simp [maxLen]; omega) | skip
 simp only [kp, zJ, simprocAttr, List.length_cons, List.length_nil]
 refine zX rfl (fun hb => ?_) (fun hb => ?_)
 ·try simp only [hbx] at hb
  refine zW (zV []) ?_
  simp only [kp, zJ, simprocAttr]
  refine zK [] (by rw [hC]; rfl) fun k hk => ?_
  simp (maxSteps := 9^9) (disch := (try simp only [lens]); omega) only [zJ, sm, ↓amb, zQ, simprocAttr, dx]
  repeat refine an ?_
  refine hk _ ?_; clear hk k
  refine yQ ?_
  have h1 : Pl.scE n b p = 1 := if_neg (fun q => hb q.1)
  rw [show Pl.scS n b p = 0 from if_neg (by rw [h1]; decide), h1]
  refine ret2 rfl rfl rfl ?_ ?_
  ·exact .p (LeP.refl _)
  ·exact .p (LeP.refl _)
 ·try simp only [hbx] at hb
  refine yJ ?_
  refine h1 _ ?_; clear h1 k1
  refine zW (zV [0, 1, 5]) ?_
  simp only [kp, zJ, simprocAttr]
  have hbq : 1 ≤ b ∧ b ≤ 100 := by first | exact hb | exact Decidable.not_not.1 hb
  have hse := Pl.sc_ord (n := n) (p := p) hbq
  refine zK [] (by rw [hC]; rfl) fun k hk => ?_
  simp (maxSteps := 9^9) (disch := (try simp only [lens]); omega) only [zJ, sm, ↓amb, zQ, simprocAttr, sz26, en39, dx]
  repeat refine an ?_
  refine yW (c_ref07_Order c n p) rfl ?_
  simp (maxSteps := 9^9) (disch := (try simp only [lens]); omega) only [zJ, sm, ↓amb, zQ, simprocAttr, sz26, en39, dx]
  repeat refine an ?_
  refine hk _ ?_; clear hk k
  refine zY fun k2 h2 => ?_
  refine zW (zV [0, 1, 5, 6, 7, 10]) ?_
  simp only [kp, zJ, simprocAttr]
  refine zK [] (by rw [hC]; rfl) fun k hk => ?_
  simp (maxSteps := 9^9) (disch := (try simp only [lens]); omega) only [zJ, sm, ↓amb, zQ, simprocAttr, dx]
  repeat refine an ?_
  refine hk _ ?_; clear hk k
  refine zX rfl (fun hb => ?_) (fun hb => ?_)
  ·try simp only [hbx] at hb
   refine zW (zV [10]) ?_
   simp only [kp, zJ, simprocAttr]
   refine zK [] (by rw [hC]; rfl) fun k hk => ?_
   simp (maxSteps := 9^9) (disch := (try simp only [lens]); omega) only [zJ, sm, ↓amb, zQ, simprocAttr, dx]
   repeat refine an ?_
   refine hk _ ?_; clear hk k
   refine yQ ?_
   rw [show Pl.scS n b p = 0 from if_neg (by rw [hse]; exact hb), hse]
   refine ret2 rfl rfl rfl ?_ ?_
   ·exact .p (LeP.refl _)
   ·exact .p (LeP.refl _)
  ·try simp only [hbx] at hb
   refine yJ ?_
   refine h2 _ ?_; clear h2 k2
   refine zW (zV [0, 1, 5]) ?_
   simp only [kp, zJ, simprocAttr]
   have he0 := hb
   have hou := Pl.ordS_up (Pl.blk n b) p
   obtain ⟨q1, q2, q3⟩ := Pl.sc_iff.1 (hse.trans he0)
   refine awp_sd [] ⟨[0, 0, 3, 0, 15, 31, 63, 63, 63, 127, 767, 2047], [3], [], [], some []⟩ (by rw [hC]; rfl) (by kernel_rfl) (by kernel_rfl) fun k hk => ?_
   simp (maxSteps := 9^9) (disch := (try simp only [lens]); omega) only [zJ, sm, ↓amb, zQ, simprocAttr, en70, sz26, en39, dx]
   repeat refine an ?_
   refine yW (c_ref08_Blocks _ _) rfl ?_
   simp (maxSteps := 9^9) (disch := (try simp only [lens]); omega) only [zJ, sm, ↓amb, zQ, simprocAttr, en70, sz26, en39, dx]
   repeat refine an ?_
   refine yW (c_ref07_Order c (Pl.blk n b) p) rfl ?_
   simp (maxSteps := 9^9) (disch := (try simp only [lens]); omega) only [zJ, sm, ↓amb, zQ, simprocAttr, en70, sz26, en39, dx]
   repeat refine an ?_
   refine hk _ ?_; clear hk k
   refine zW (zV [10, 12]) ?_
   simp only [kp, zJ, simprocAttr]
   refine zK [] (by rw [hC]; rfl) fun k hk => ?_
   simp (maxSteps := 9^9) (disch := (try simp only [lens]); omega) only [zJ, sm, ↓amb, zQ, simprocAttr, dx]
   repeat refine an ?_
   refine hk _ ?_; clear hk k
   refine yQ ?_
   rw [show Pl.scS n b p = 2 * Pl.ordS (Pl.blk n b) p from if_pos (hse.trans he0), show Pl.scE n b p = Pl.ordE (Pl.blk n b) p from if_pos ⟨hbq, q2⟩]
   refine ret2 rfl rfl rfl ?_ ?_
   ·exact .p (LeP.refl _)
   ·exact .p (LeP.refl _)
set_option maxHeartbeats 4000000 in
theorem c_ref08_Sums (c d : Bool) (l : List Int) (b : Int) (p : Pl.Plan) (hl : ∀ x, x ∈ l → Pl.W32 x) (hn : l.length ≤ 1000000) : PCall Try.prog 38 [words c l, iV b, .agg (planC d p)] (.tup [words false (Pl.scL Pl.add32 l b p), u32V (Pl.scT Pl.add32 l b p), iV (Pl.scS l.length b p), iV (Pl.scE l.length b p)]) := by
 refine yV Try.func38 rfl (by simp [Try.ntmps38]) fun C hC => ?_
 refine zW (zV [0, 1, 2]) ?_
 simp only [kp, zJ, simprocAttr]
 refine zK [35] (by rw [hC]; rfl) fun k hk => ?_
 simp (maxSteps := 9^9) (disch := (try simp only [lens]); omega) only [zJ, sm, ↓amb, zQ, simprocAttr, wr_u32, dx]
 repeat refine an ?_
 refine hk _ ?_; clear hk k
 refine zW (zV [0, 1, 5]) ?_
 simp only [kp, zJ, simprocAttr]
 refine zK [35] (by rw [hC]; rfl) fun k hk => ?_
 simp (maxSteps := 9^9) (disch := (try simp only [lens]); omega) only [zJ, sm, ↓amb, zQ, simprocAttr, el22, sz26, en54, wr_u32, dx]
 repeat refine an ?_
 refine yW (c_ref08_Steps d l.length b p) rfl ?_
 simp (maxSteps := 9^9) (disch := (try simp only [lens]); omega) only [zJ, sm, ↓amb, zQ, simprocAttr, el22, sz26, en54, wr_u32, dx]
 repeat refine an ?_
 refine hk _ ?_; clear hk k
 refine zY fun k1 h1 => ?_
 refine zW (zV [0, 6, 7, 8, 9, 10, 11]) ?_
 simp only [kp, zJ, simprocAttr]
 refine zK [35] (by rw [hC]; rfl) fun k hk => ?_
 simp (maxSteps := 9^9) (disch := (try simp only [lens]); omega) only [zJ, sm, ↓amb, zQ, simprocAttr, wr_u32, dx]
 repeat refine an ?_
 refine hk _ ?_; clear hk k
 refine zX rfl (fun hb => ?_) (fun hb => ?_)
 ·try simp only [hbx] at hb
  refine zW (zV [11]) ?_
  simp only [kp, zJ, simprocAttr]
  refine zK [35] (by rw [hC]; rfl) fun k hk => ?_
  simp (maxSteps := 9^9) (disch := (try simp only [lens]); omega) only [zJ, sm, ↓amb, zQ, simprocAttr, wr_u32, dx]
  repeat refine an ?_
  refine hk _ ?_; clear hk k
  refine yQ ?_
  obtain ⟨n1, n2, n3⟩ := Pl.sc_no (f := Pl.add32) (b := b) (p := p) (l := l) hb
  rw [n1, n2, n3]
  refine ret4 rfl rfl rfl rfl rfl ?_ ?_ ?_ ?_
  ·exact .p (LeP.seq _ _)
  ·exact .p (LeP.refl _)
  ·exact .p (LeP.refl _)
  ·exact .p (LeP.refl _)
 ·try simp only [hbx] at hb
  refine yJ ?_
  refine h1 _ ?_; clear h1 k1
  refine zW (zV [0, 10]) ?_
  simp only [kp, zJ, simprocAttr]
  have he0 := hb
  refine zK [35] (by rw [hC]; rfl) fun k hk => ?_
  simp (maxSteps := 9^9) (disch := (try simp only [lens]); omega) only [zJ, sm, ↓amb, zQ, simprocAttr, wr_u32, dx]
  repeat refine an ?_
  refine hk _ ?_; clear hk k
  refine zW (zV [0, 10, 12]) ?_
  simp only [kp, zJ, simprocAttr]
  refine zK [35] (by rw [hC]; rfl) fun k hk => ?_
  simp (maxSteps := 9^9) (disch := (try simp only [lens]); omega) only [zJ, sm, ↓amb, zQ, simprocAttr, wr_u32, dx]
  repeat refine an ?_
  refine hk _ ?_; clear hk k
  refine zY fun k2 h2 => ?_
  refine zW (zV [0, 6, 7, 8, 9, 10, 12, 13]) ?_
  simp only [kp, zJ, simprocAttr]
  refine awp_own' 12 1 rfl ?_
  refine zK [35] (by rw [hC]; rfl) fun k hk => ?_
  simp (maxSteps := 9^9) (disch := (try simp only [lens]); omega) only [zJ, sm, ↓amb, zQ, simprocAttr, wr_u32, dx]
  repeat refine an ?_
  refine hk _ ?_; clear hk k
  refine yK ?_
  refine yY (σ := Nat) (fun i => i ≤ l.length) (fun (i : Nat) => ⟨[(0, (.p (words c l))), (10, (.p (iV (Pl.scS l.length b p)))), (12, (.own 0)), (13, (.p (u32V (Pl.allF Pl.add32 (l.take i))))), (14, (.p (iV (i : Int))))], [(0, (.row 1 (lift (((List.range i).map (fun j => Pl.allF Pl.add32 (l.take j))).map fun x => [u32V x]))))], 1⟩) (fun i => l.length - i) 0 ?_ ?_ fun i hi => ?_
  ·exact Nat.zero_le _
  ·exact le_of [(0, _)] (by rfl) (by rfl) ⟨⟨_, rfl, .oe⟩, ⟨_, rfl, .oe⟩, ⟨_, rfl, .own rfl⟩, ⟨_, rfl, .p (.of_eq (by first | rfl | (rw [Pl.allF_take _ l i (by omega)]; first | done | rfl) | trace_state))⟩, ⟨_, rfl, .oe⟩, trivial⟩ ⟨⟨_, rfl, _, rfl, .liftE (by first | rfl | (rw [List.range_succ, List.map_append, List.map_append]; rfl) | trace_state)⟩, trivial⟩
  refine zY fun k4 h4 => ?_
  refine zW (zV [0, 6, 7, 8, 9, 10, 12, 13, 14]) ?_
  simp only [kp, zJ, simprocAttr]
  refine zK [35] (by rw [hC]; rfl) fun k hk => ?_
  simp (maxSteps := 9^9) (disch := (try simp only [lens]); omega) only [zJ, sm, ↓amb, zQ, simprocAttr, el22, wr_u32, dx]
  repeat refine an ?_
  refine hk _ ?_; clear hk k
  refine zX rfl (fun hb => ?_) (fun hb => ?_)
  ·try simp only [hbx] at hb
   refine yJ ?_
   refine h4 _ ?_; clear h4 k4
   refine zY fun k5 h5 => ?_
   refine yK ?_
   refine zW (zV [0, 6, 7, 8, 9, 10, 12, 13, 14]) ?_
   simp only [kp, zJ, simprocAttr]
   refine zK [35] (by rw [hC]; rfl) fun k hk => ?_
   simp (maxSteps := 9^9) (disch := (try simp only [lens]); omega) only [zJ, sm, ↓amb, zQ, simprocAttr, el22, vr41, by41, wr_u32, dx]
   repeat refine an ?_
   refine hk _ ?_; clear hk k
   refine yZ [35] (by rw [hC]; rfl) fun k hk => ?_
   simp (maxSteps := 9^9) (disch := (try simp only [lens]); omega) only [zJ, sm, ↓amb, zQ, simprocAttr, el22, sz41, wr_u32, dx]
   repeat refine an ?_
   refine hk _ ?_; clear hk k
   refine h5 _ ?_; clear h5 k5
   refine yZ [35] (by rw [hC]; rfl) fun k hk => ?_
   simp (maxSteps := 9^9) (disch := (try simp only [lens]); omega) only [zJ, sm, ↓amb, zQ, simprocAttr, wr_u32, dx]
   repeat refine an ?_
   refine hk _ ?_; clear hk k
   refine ⟨i + 1, by omega, le_of [(0, _)] (by rfl) (by rfl) ⟨⟨_, rfl, .oe⟩, ⟨_, rfl, .oe⟩, ⟨_, rfl, .own rfl⟩, ⟨_, rfl, .p (.of_eq (by first | rfl | (rw [Pl.allF_take _ l i (by omega)]; first | done | rfl) | trace_state))⟩, ⟨_, rfl, .oe⟩, trivial⟩ ⟨⟨_, rfl, _, rfl, .liftE (by first | rfl | (rw [List.range_succ, List.map_append, List.map_append]; rfl) | trace_state)⟩, trivial⟩, by omega⟩
  ·try simp only [hbx] at hb
   refine yX ((if_pos rfl).mpr ?_)
   refine h2 _ ?_; clear h4 k4; clear h2 k2
   refine zW (zV [10, 12, 13]) ?_
   simp only [kp, zJ, simprocAttr]
   refine zK [35] (by rw [hC]; rfl) fun k hk => ?_
   simp (maxSteps := 9^9) (disch := (try simp only [lens]); omega) only [zJ, sm, ↓amb, zQ, simprocAttr, wr_u32, dx]
   repeat refine an ?_
   refine hk _ ?_; clear hk k
   refine yQ ?_
   obtain ⟨n1, n2, _⟩ := Pl.sc_yes (f := Pl.add32) (b := b) (p := p) (l := l) he0
   rw [n1, n2, he0]
   refine ret4 rfl rfl rfl rfl rfl ?_ ?_ ?_ ?_
   ·exact .ownE rfl (by rw [show i = l.length by omega]; rfl)
   ·exact .p (LeP.of_eq (by rw [List.take_of_length_le (by omega)]))
   ·exact .p (LeP.refl _)
   ·exact .p (LeP.refl _)
set_option maxHeartbeats 4000000 in
theorem c_Sums_h (d : Bool) (l : List Int) (b : Int) (p : Pl.Plan) (hl : ∀ x, x ∈ l → Pl.W32 x) (hn : l.length ≤ 1000000) : HCall Try.prog 38 [.own 7, .p (iV b), .p (.agg (planC d p))] [(7, .row 1 (lift (l.map fun x => [u32V x])))] (.tup [.p (words false (Pl.scL Pl.add32 l b p)), .p (u32V (Pl.scT Pl.add32 l b p)), .p (iV (Pl.scS l.length b p)), .p (iV (Pl.scE l.length b p))]) [(7, .row 1 (lift (l.map fun x => [u32V x])))] := by
 refine xJ Try.func38 rfl (by simp [Try.ntmps38]) fun C hC => ?_
 refine zW (zV [0, 1, 2]) ?_
 simp only [kp, zJ, simprocAttr]
 refine zK [35] (by rw [hC]; rfl) fun k hk => ?_
 simp (maxSteps := 9^9) (disch := (try simp only [lens]); omega) only [zJ, sm, ↓amb, zQ, simprocAttr, wr_u32, dx]
 repeat refine an ?_
 refine hk _ ?_; clear hk k
 refine zW (zV [0, 1, 5]) ?_
 simp only [kp, zJ, simprocAttr]
 refine zK [35] (by rw [hC]; rfl) fun k hk => ?_
 simp (maxSteps := 9^9) (disch := (try simp only [lens]); omega) only [zJ, sm, ↓amb, zQ, simprocAttr, el22, sz26, en54, wr_u32, dx]
 repeat refine an ?_
 refine yW (c_ref08_Steps d l.length b p) rfl ?_
 simp (maxSteps := 9^9) (disch := (try simp only [lens]); omega) only [zJ, sm, ↓amb, zQ, simprocAttr, el22, sz26, en54, wr_u32, dx]
 repeat refine an ?_
 refine hk _ ?_; clear hk k
 refine zY fun k1 h1 => ?_
 refine zW (zV [0, 6, 7, 8, 9, 10, 11]) ?_
 simp only [kp, zJ, simprocAttr]
 refine zK [35] (by rw [hC]; rfl) fun k hk => ?_
 simp (maxSteps := 9^9) (disch := (try simp only [lens]); omega) only [zJ, sm, ↓amb, zQ, simprocAttr, wr_u32, dx]
 repeat refine an ?_
 refine hk _ ?_; clear hk k
 refine zX rfl (fun hb => ?_) (fun hb => ?_)
 ·try simp only [hbx] at hb
  refine zW (zV [11]) ?_
  simp only [kp, zJ, simprocAttr]
  refine zK [35] (by rw [hC]; rfl) fun k hk => ?_
  simp (maxSteps := 9^9) (disch := (try simp only [lens]); omega) only [zJ, sm, ↓amb, zQ, simprocAttr, wr_u32, dx]
  repeat refine an ?_
  refine hk _ ?_; clear hk k
  refine yQ ?_
  obtain ⟨n1, n2, n3⟩ := Pl.sc_no (f := Pl.add32) (b := b) (p := p) (l := l) hb
  rw [n1, n2, n3]
  refine reth4 rfl rfl rfl rfl rfl ?_
  exact le_of [] (by rfl) (by rfl) ⟨⟨_, rfl, leTup (LeRow.cons (.p (LeP.seq _ _)) (LeRow.cons (.p (.refl _)) (LeRow.cons (.p (.refl _)) (LeRow.cons (.p (.refl _)) .nil))))⟩, trivial⟩ ⟨⟨_, rfl, _, rfl, .liftE rfl⟩, trivial⟩
 ·try simp only [hbx] at hb
  refine yJ ?_
  refine h1 _ ?_; clear h1 k1
  refine zW (zV [0, 10]) ?_
  simp only [kp, zJ, simprocAttr]
  have he0 := hb
  refine zK [35] (by rw [hC]; rfl) fun k hk => ?_
  simp (maxSteps := 9^9) (disch := (try simp only [lens]); omega) only [zJ, sm, ↓amb, zQ, simprocAttr, wr_u32, dx]
  repeat refine an ?_
  refine hk _ ?_; clear hk k
  refine zW (zV [0, 10, 12]) ?_
  simp only [kp, zJ, simprocAttr]
  refine zK [35] (by rw [hC]; rfl) fun k hk => ?_
  simp (maxSteps := 9^9) (disch := (try simp only [lens]); omega) only [zJ, sm, ↓amb, zQ, simprocAttr, wr_u32, dx]
  repeat refine an ?_
  refine hk _ ?_; clear hk k
  refine zY fun k2 h2 => ?_
  refine zW (zV [0, 6, 7, 8, 9, 10, 12, 13]) ?_
  simp only [kp, zJ, simprocAttr]
  refine awp_own' 12 1 rfl ?_
  refine zK [35] (by rw [hC]; rfl) fun k hk => ?_
  simp (maxSteps := 9^9) (disch := (try simp only [lens]); omega) only [zJ, sm, ↓amb, zQ, simprocAttr, wr_u32, dx]
  repeat refine an ?_
  refine hk _ ?_; clear hk k
  refine yK ?_
  refine yY (σ := Nat) (fun i => i ≤ l.length) (fun (i : Nat) => ⟨[(0, (.own 7)), (10, (.p (iV (Pl.scS l.length b p)))), (12, (.own 0)), (13, (.p (u32V (Pl.allF Pl.add32 (l.take i))))), (14, (.p (iV (i : Int))))], [(0, (.row 1 (lift (((List.range i).map (fun j => Pl.allF Pl.add32 (l.take j))).map fun x => [u32V x])))), (7, (.row 1 (lift (l.map fun x => [u32V x]))))], 1⟩) (fun i => l.length - i) 0 ?_ ?_ fun i hi => ?_
  ·exact Nat.zero_le _
  ·exact le_of [(0, _)] (by rfl) (by rfl) ⟨⟨_, rfl, .own rfl⟩, ⟨_, rfl, .oe⟩, ⟨_, rfl, .own rfl⟩, ⟨_, rfl, .p (.of_eq (by first | rfl | (rw [Pl.allF_take _ l i (by omega)]; first | done | rfl) | trace_state))⟩, ⟨_, rfl, .oe⟩, trivial⟩ ⟨⟨_, rfl, _, rfl, .liftE (by first | rfl | (rw [List.range_succ, List.map_append, List.map_append]; rfl) | trace_state)⟩, ⟨_, rfl, _, rfl, .liftE rfl⟩, trivial⟩
  refine zY fun k4 h4 => ?_
  refine zW (zV [0, 6, 7, 8, 9, 10, 12, 13, 14]) ?_
  simp only [kp, zJ, simprocAttr]
  refine zK [35] (by rw [hC]; rfl) fun k hk => ?_
  simp (maxSteps := 9^9) (disch := (try simp only [lens]); omega) only [zJ, sm, ↓amb, zQ, simprocAttr, el22, wr_u32, dx]
  repeat refine an ?_
  refine hk _ ?_; clear hk k
  refine zX rfl (fun hb => ?_) (fun hb => ?_)
  ·try simp only [hbx] at hb
   refine yJ ?_
   refine h4 _ ?_; clear h4 k4
   refine zY fun k5 h5 => ?_
   refine yK ?_
   refine zW (zV [0, 6, 7, 8, 9, 10, 12, 13, 14]) ?_
   simp only [kp, zJ, simprocAttr]
   refine zK [35] (by rw [hC]; rfl) fun k hk => ?_
   simp (maxSteps := 9^9) (disch := (try simp only [lens]); omega) only [zJ, sm, ↓amb, zQ, simprocAttr, el22, vr41, by41, wr_u32, dx]
   repeat refine an ?_
   refine hk _ ?_; clear hk k
   refine yZ [35] (by rw [hC]; rfl) fun k hk => ?_
   simp (maxSteps := 9^9) (disch := (try simp only [lens]); omega) only [zJ, sm, ↓amb, zQ, simprocAttr, el22, sz41, wr_u32, dx]
   repeat refine an ?_
   refine hk _ ?_; clear hk k
   refine h5 _ ?_; clear h5 k5
   refine yZ [35] (by rw [hC]; rfl) fun k hk => ?_
   simp (maxSteps := 9^9) (disch := (try simp only [lens]); omega) only [zJ, sm, ↓amb, zQ, simprocAttr, wr_u32, dx]
   repeat refine an ?_
   refine hk _ ?_; clear hk k
   refine ⟨i + 1, by omega, le_of [(0, _)] (by rfl) (by rfl) ⟨⟨_, rfl, .own rfl⟩, ⟨_, rfl, .oe⟩, ⟨_, rfl, .own rfl⟩, ⟨_, rfl, .p (.of_eq (by first | rfl | (rw [Pl.allF_take _ l i (by omega)]; first | done | rfl) | trace_state))⟩, ⟨_, rfl, .oe⟩, trivial⟩ ⟨⟨_, rfl, _, rfl, .liftE (by first | rfl | (rw [List.range_succ, List.map_append, List.map_append]; rfl) | trace_state)⟩, ⟨_, rfl, _, rfl, .liftE rfl⟩, trivial⟩, by omega⟩
  ·try simp only [hbx] at hb
   refine yX ((if_pos rfl).mpr ?_)
   refine h2 _ ?_; clear h4 k4; clear h2 k2
   refine zW (zV [10, 12, 13]) ?_
   simp only [kp, zJ, simprocAttr]
   refine zK [35] (by rw [hC]; rfl) fun k hk => ?_
   simp (maxSteps := 9^9) (disch := (try simp only [lens]); omega) only [zJ, sm, ↓amb, zQ, simprocAttr, wr_u32, dx]
   repeat refine an ?_
   refine hk _ ?_; clear hk k
   refine yQ ?_
   obtain ⟨n1, n2, _⟩ := Pl.sc_yes (f := Pl.add32) (b := b) (p := p) (l := l) he0
   rw [n1, n2, he0]
   obtain rfl : i = l.length := by omega
   rw [List.take_of_length_le (Nat.le_refl _)]
   refine reth4 rfl rfl rfl rfl rfl ?_
   exact le_of [] (by rfl) (by rfl) ⟨⟨_, rfl, leTup (LeRow.cons (.frz (es := (Pl.aheadF Pl.add32 l).map fun x => [u32V x]) rfl (by rfl)) (LeRow.cons (.p (.refl _)) (LeRow.cons (.p (.refl _)) (LeRow.cons (.p (.refl _)) .nil))))⟩, trivial⟩ ⟨⟨_, rfl, _, rfl, .liftE rfl⟩, trivial⟩
end Go.Proofs.Ytbehekmnccoifaa
end
section
set_option linter.unusedSimpArgs false
set_option linter.unusedVariables false
set_option maxRecDepth 100000
namespace Go.Proofs.Ytbehekmnccoifaa
open Go.Am Go.Proofs
theorem en38 : enters Try.prog 38 = true := by kernel_rfl
theorem en62 : enters Try.prog 62 = true := by kernel_rfl
set_option maxHeartbeats 4000000 in
theorem c_ref10_Sort (c d : Bool) (l : List Int) (bt bl : Int) (p : Pl.Plan) (hl : ∀ x, x ∈ l → Pl.W32 x) (hn : l.length ≤ 1000000) : PCall Try.prog 44 [words c l, iV bt, iV bl, .agg (planC d p)] (.tup [ints false (Pl.raL l bt bl p), iV (Pl.raS l.length bt bl p), iV (Pl.raE l.length bt bl p)]) := by
 obtain ⟨B, hB⟩ : ∃ B : Nat, B = 4294967296 := ⟨_, rfl⟩
 refine yV Try.func44 rfl (by simp [Try.ntmps44]) fun C hC => ?_
 refine zW (zV [0, 1, 2, 3]) ?_
 simp only [kp, zJ, simprocAttr]
 refine zK [64, 67] (by rw [hC]; rfl) fun k hk => ?_
 simp (maxSteps := 9^9) (disch := (try simp only [lens]); omega) only [zJ, sm, ↓amb, zQ, simprocAttr, dx]
 repeat refine an ?_
 refine hk _ ?_; clear hk k
 refine zY fun k1 h1 => ?_
 refine zW (zV [0, 1, 2, 7, 8, 9, 10]) ?_
 simp only [kp, zJ, simprocAttr]
 refine zK [64, 67] (by rw [hC]; rfl) fun k hk => ?_
 simp (maxSteps := 9^9) (disch := (try simp only [lens]); omega) only [zJ, sm, ↓amb, zQ, simprocAttr, en62, dx]
 repeat refine an ?_
 refine yW (c_ref10_Passes _) rfl ?_
 simp (maxSteps := 9^9) (disch := (try simp only [lens]); omega) only [zJ, sm, ↓amb, zQ, simprocAttr, en62, dx]
 repeat refine an ?_
 refine hk _ ?_; clear hk k
 refine zX rfl (fun hb => ?_) (fun hb => ?_)
 ·try simp only [hbx] at hb
  refine zW (zV []) ?_
  simp only [kp, zJ, simprocAttr]
  refine zK [64, 67] (by rw [hC]; rfl) fun k hk => ?_
  simp (maxSteps := 9^9) (disch := (try simp only [lens]); omega) only [zJ, sm, ↓amb, zQ, simprocAttr, dx]
  repeat refine an ?_
  refine hk _ ?_; clear hk k
  refine yQ ?_
  have h1 : Pl.raE l.length bt bl p = 1 := if_pos hb
  rw [show Pl.raL l bt bl p = [] from if_neg (by rw [h1]; decide), show Pl.raS l.length bt bl p = 0 from if_neg (by rw [h1]; decide), h1]
  refine ret3 rfl rfl rfl rfl ?_ ?_ ?_
  ·exact .p (LeP.seq _ _)
  ·exact .p (LeP.refl _)
  ·exact .p (LeP.refl _)
 ·try simp only [hbx] at hb
  refine yJ ?_
  refine h1 _ ?_; clear h1 k1
  refine zW (zV [0, 1, 2, 7]) ?_
  simp only [kp, zJ, simprocAttr]
  have hpz := hb
  refine zK [64, 67] (by rw [hC]; rfl) fun k hk => ?_
  simp (maxSteps := 9^9) (disch := (try simp only [lens]); omega) only [zJ, sm, ↓amb, zQ, simprocAttr, sz26, en38, dx]
  repeat refine an ?_
  refine yW (c_ref08_Sums c d l bl p hl hn) rfl ?_
  simp (maxSteps := 9^9) (disch := (try simp only [lens]); omega) only [zJ, sm, ↓amb, zQ, simprocAttr, sz26, en38, dx]
  repeat refine an ?_
  refine hk _ ?_; clear hk k
  refine zY fun k2 h2 => ?_
  refine zW (zV [0, 1, 8, 9, 10, 13, 14]) ?_
  simp only [kp, zJ, simprocAttr]
  refine zK [64, 67] (by rw [hC]; rfl) fun k hk => ?_
  simp (maxSteps := 9^9) (disch := (try simp only [lens]); omega) only [zJ, sm, ↓amb, zQ, simprocAttr, dx]
  repeat refine an ?_
  refine hk _ ?_; clear hk k
  refine zX rfl (fun hb => ?_) (fun hb => ?_)
  ·try simp only [hbx] at hb
   refine zW (zV [14]) ?_
   simp only [kp, zJ, simprocAttr]
   refine zK [64, 67] (by rw [hC]; rfl) fun k hk => ?_
   simp (maxSteps := 9^9) (disch := (try simp only [lens]); omega) only [zJ, sm, ↓amb, zQ, simprocAttr, dx]
   repeat refine an ?_
   refine hk _ ?_; clear hk k
   refine yQ ?_
   have h1 : Pl.raE l.length bt bl p = Pl.scE l.length bl p := if_neg hpz
   rw [show Pl.raL l bt bl p = [] from if_neg (by rw [h1]; exact hb), show Pl.raS l.length bt bl p = 0 from if_neg (by rw [h1]; exact hb), h1]
   refine ret3 rfl rfl rfl rfl ?_ ?_ ?_
   ·exact .p (LeP.seq _ _)
   ·exact .p (LeP.refl _)
   ·exact .p (LeP.refl _)
  ·try simp only [hbx] at hb
   refine yJ ?_
   refine h2 _ ?_; clear h2 k2
   refine zW (zV [0, 1, 13]) ?_
   simp only [kp, zJ, simprocAttr]
   have he0 := hb
   have hre : Pl.raE l.length bt bl p = 0 := (if_neg hpz).trans hb
   refine zK [64, 67] (by rw [hC]; rfl) fun k hk => ?_
   simp (maxSteps := 9^9) (disch := (try simp only [lens]); omega) only [zJ, sm, ↓amb, zQ, simprocAttr, dx]
   repeat refine an ?_
   refine hk _ ?_; clear hk k
   refine zY fun k3 h3 => ?_
   refine zW (zV [0, 1, 8, 9, 10, 13, 15]) ?_
   simp only [kp, zJ, simprocAttr]
   refine zK [64, 67] (by rw [hC]; rfl) fun k hk => ?_
   simp (maxSteps := 9^9) (disch := (try simp only [lens]); omega) only [zJ, sm, ↓amb, zQ, simprocAttr, dx]
   repeat refine an ?_
   refine hk _ ?_; clear hk k
   refine yK ?_
   refine yY (σ := Nat) (fun i => i ≤ l.length) (fun (i : Nat) => ⟨[(0, (.p (words c l))), (1, (.p (iV bt))), (13, (.p (iV (Pl.scS l.length bl p)))), (15, (.p (ints false (Pl.bucket B (fun z => l.getD z.toNat 0) (Pl.upto 0 (i : Int)))))), (16, (.p (iV (i : Int))))], [], 1⟩) (fun i => l.length - i) 0 ?_ ?_ fun i hi => ?_
   ·exact Nat.zero_le _
   ·exact le_of [] (by rfl) (by rfl) ⟨⟨_, rfl, .oe⟩, ⟨_, rfl, .oe⟩, ⟨_, rfl, .oe⟩, ⟨_, rfl, (by first | (rw [Pl.upto_nil (by simp), Pl.bucket_nil]; exact LeA.p (LeP.seq _ _)) | (refine LeA.p (LeP.of_eq ?_); rw [← hins]; show PV.seq false _ = PV.seq false (List.map (fun x => [iV x]) _); rw [List.map_append, List.map_append]; rfl))⟩, ⟨_, rfl, .oe⟩, trivial⟩ trivial
   refine zY fun k5 h5 => ?_
   refine zW (zV [0, 1, 8, 9, 10, 13, 15, 16]) ?_
   simp only [kp, zJ, simprocAttr]
   refine zK [64, 67] (by rw [hC]; rfl) fun k hk => ?_
   simp (maxSteps := 9^9) (disch := (try simp only [lens]); omega) only [zJ, sm, ↓amb, zQ, simprocAttr, el22, dx]
   repeat refine an ?_
   refine hk _ ?_; clear hk k
   refine zX rfl (fun hb => ?_) (fun hb => ?_)
   ·try simp only [hbx] at hb
    refine yJ ?_
    refine h5 _ ?_; clear h5 k5
    refine zY fun k6 h6 => ?_
    refine yK ?_
    refine zW (zV [0, 1, 8, 9, 10, 13, 15, 16]) ?_
    simp only [kp, zJ, simprocAttr]
    have hbl := Pl.bucket_len (B := B) (d := (fun z => l.getD z.toNat 0)) (l := Pl.upto 0 (i : Int)) (fun x _ => Pl.keysD hB hl x) (Pl.nodup_upto _ _)
    rw [Pl.upto_len] at hbl
    refine zK [64, 67] (by rw [hC]; rfl) fun k hk => ?_
    simp (maxSteps := 9^9) (disch := (try simp only [lens]); omega) only [zJ, sm, ↓amb, zQ, simprocAttr, el33, dx]
    repeat refine an ?_
    refine hk _ ?_; clear hk k
    refine zY fun k7 h7 => ?_
    refine yK ?_
    refine yY (σ := Nat) (fun a => a ≤ (Pl.bucket B (fun z => l.getD z.toNat 0) (Pl.upto 0 (i : Int))).length ∧ ∀ j, a ≤ j → j < (Pl.bucket B (fun z => l.getD z.toNat 0) (Pl.upto 0 (i : Int))).length → (fun z => l.getD z.toNat 0) (i : Int) < (fun z => l.getD z.toNat 0) ((Pl.bucket B (fun z => l.getD z.toNat 0) (Pl.upto 0 (i : Int))).getD j 0)) (fun (a : Nat) => ⟨[(0, (.p (words c l))), (1, (.p (iV bt))), (13, (.p (iV (Pl.scS l.length bl p)))), (15, (.p (ints false (Pl.bucket B (fun z => l.getD z.toNat 0) (Pl.upto 0 (i : Int)))))), (16, (.p (iV (i : Int)))), (17, (.p (iV (a : Int))))], [], 1⟩) (fun a => a) (Pl.bucket B (fun z => l.getD z.toNat 0) (Pl.upto 0 (i : Int))).length ?_ ?_ fun a ha => ?_
    ·exact ⟨Nat.le_refl _, fun j h1 h2 => by omega⟩
    ·exact le_of [] (by rfl) (by rfl) ⟨⟨_, rfl, .oe⟩, ⟨_, rfl, .oe⟩, ⟨_, rfl, .oe⟩, ⟨_, rfl, .oe⟩, ⟨_, rfl, .oe⟩, ⟨_, rfl, .oe⟩, trivial⟩ trivial
    obtain ⟨ha1, ha2⟩ := ha
    refine zY fun k9 h9 => ?_
    have hbm : 0 < a → 0 ≤ (Pl.bucket B (fun z => l.getD z.toNat 0) (Pl.upto 0 (i : Int))).getD (a - 1) 0 ∧ (Pl.bucket B (fun z => l.getD z.toNat 0) (Pl.upto 0 (i : Int))).getD (a - 1) 0 < i := fun h => Pl.mem_upto.1 (Pl.bucket_mem (Pl.getD_mem (Pl.bucket B (fun z => l.getD z.toNat 0) (Pl.upto 0 (i : Int))) (a - 1) 0 (by omega)))
    have ha4 : ((a : Int) - 1).toNat = a - 1 := by omega
    refine awp_testD [64, 67] ⟨[0, 1, 3, 7, 7, 7, 39, 119, 247, 511, 1023, 7, 7, 6151, 14343, 32767, 65535], [8, 10, 14], [], [], some []⟩ 57 (decide (0 < a ∧ l.getD i 0 < l.getD ((Pl.bucket B (fun z => l.getD z.toNat 0) (Pl.upto 0 (i : Int))).getD (a - 1) 0).toNat 0)) [0, 1, 8, 9, 10, 13, 15, 16, 17] (by rw [hC]; rfl) (by kernel_rfl) (by kernel_rfl) (fun gd hgd k hk => ?_) ?_
    ·have g2 : gd 2 = some 43 := by rw [hgd]; rfl
     clear hgd
     simp (maxSteps := 9^9) (disch := (try simp only [lens]); omega) only [zJ, sm, ↓amb, zQ, simprocAttr, el33, sz3, el22, sz41, zZ, g2, dx]
     repeat' first | refine hk _ _ rfl rfl rfl rfl ?_ | (refine gsplit (fun hg => ?_) (fun hg => ?_) <;> (try simp only [hbx] at hg) <;> simp (maxSteps := 9^9) (disch := (try simp only [lens]); omega) only [zJ, sm, ↓amb, zQ, simprocAttr, el33, sz3, el22, sz41, zZ, g2, dx]) | apply And.intro | fail
     all_goals first | rfl | omega | exact (decide_eq_true (by omega)).symm | exact (decide_eq_false (by omega)).symm | exact decide_eq_decide.mpr (by omega) | (refine Bool.eq_iff_iff.mpr ?_; simp only [beq_iff_eq, bne_iff_ne, ne_eq, decide_eq_true_eq]; omega) | (refine Bool.eq_iff_iff.mpr ?_; simp only [Bool.not_eq_true', Bool.not_eq_false', decide_eq_false_iff_not, decide_eq_true_eq, beq_iff_eq, bne_iff_ne, ne_eq]; omega) | assumption | (simp; done) | (simp [maxLen]; omega) | skip
     all_goals first | exact decide_eq_decide.mpr ⟨fun h => ⟨by omega, h⟩, fun h => h.2⟩ | (refine (decide_eq_false ?_).symm; intro q; omega) | trace_state
    simp only [kp, zJ, simprocAttr, List.length_cons, List.length_nil]
    refine zX rfl (fun hb => ?_) (fun hb => ?_)
    ·try simp only [hbx] at hb
     refine yJ ?_
     refine h9 _ ?_; clear h9 k9
     refine yK ?_
     refine yZ [64, 67] (by rw [hC]; rfl) fun k hk => ?_
     simp (maxSteps := 9^9) (disch := (try simp only [lens]); omega) only [zJ, sm, ↓amb, zQ, simprocAttr, dx]
     repeat refine an ?_
     refine hk _ ?_; clear hk k
     refine ⟨a - 1, ⟨by omega, fun j h1 h2 => by by_cases e : j = a - 1; subst e; show l.getD (i : Int).toNat 0 < _; rw [Int.toNat_natCast]; exact hb.2; exact ha2 j (by omega) h2⟩, le_of [] (by rfl) (by rfl) ⟨⟨_, rfl, .oe⟩, ⟨_, rfl, .oe⟩, ⟨_, rfl, .oe⟩, ⟨_, rfl, .oe⟩, ⟨_, rfl, .oe⟩, ⟨_, rfl, .oe⟩, trivial⟩ trivial, by omega⟩
    ·try simp only [hbx] at hb
     refine yX ((if_pos rfl).mpr ?_)
     refine h7 _ ?_; clear h9 k9; clear h7 k7
     have hins := Pl.bucket_ins (B := B) (d := (fun z => l.getD z.toNat 0)) (l := Pl.upto 0 (i : Int)) (x := (i : Int)) (Pl.keysD hB hl _) ha1 ha2 (by rcases Nat.eq_zero_or_pos a with q | q; exact .inl q; exact .inr (by show l.getD _ 0 ≤ l.getD _ 0; rw [Int.toNat_natCast]; exact Int.not_lt.1 fun w => hb ⟨by omega, w⟩))
     rw [Pl.upto_snoc'] at hins
     refine awp_draw [64, 67] ⟨[0, 0, 0, 6, 15, 0, 32, 127, 0, 0, 768, 2047, 4095], [], [4, 7, 11], [(4, 7), (4, 11), (7, 11)], none⟩ (by rw [hC]; rfl) (by kernel_rfl) (by kernel_rfl) fun k hk => ?_
     simp (maxSteps := 9^9) (disch := (try simp only [lens]); omega) only [zJ, sm, ↓amb, zQ, simprocAttr, el33, vr3, sz3, by3, dx]
     repeat refine an ?_
     refine hk _ ?_; clear hk k
     refine h6 _ ?_; clear h6 k6
     refine yZ [64, 67] (by rw [hC]; rfl) fun k hk => ?_
     simp (maxSteps := 9^9) (disch := (try simp only [lens]); omega) only [zJ, sm, ↓amb, zQ, simprocAttr, dx]
     repeat refine an ?_
     refine hk _ ?_; clear hk k
     refine ⟨i + 1, by omega, le_of [] (by rfl) (by rfl) ⟨⟨_, rfl, .oe⟩, ⟨_, rfl, .oe⟩, ⟨_, rfl, .oe⟩, ⟨_, rfl, (by first | (rw [Pl.upto_nil (by simp), Pl.bucket_nil]; exact LeA.p (LeP.seq _ _)) | (refine LeA.p (LeP.of_eq ?_); rw [← hins]; show PV.seq false _ = PV.seq false (List.map (fun x => [iV x]) _); rw [List.map_append, List.map_append]; rfl))⟩, ⟨_, rfl, .oe⟩, trivial⟩ trivial, by omega⟩
   ·try simp only [hbx] at hb
    refine yX ((if_pos rfl).mpr ?_)
    refine h3 _ ?_; clear h5 k5; clear h3 k3
    refine zW (zV [1, 13, 15]) ?_
    simp only [kp, zJ, simprocAttr]
    have hpn := Pl.pas_nn bt
    have hsn := Pl.scS_nn l.length bl p
    have hps : 0 ≤ Pl.scS l.length bl p * Pl.pas bt := Int.mul_nonneg hsn.1 hpn.1
    have hpu : Pl.scS l.length bl p * Pl.pas bt ≤ 40000 * 32 := Pl.mul_up hsn.2 hpn.2 hpn.1 (by omega)
    obtain rfl : i = l.length := by omega
    refine zK [64, 67] (by rw [hC]; rfl) fun k hk => ?_
    simp (maxSteps := 9^9) (disch := (try simp only [lens]); omega) only [zJ, sm, ↓amb, zQ, simprocAttr, en62, dx]
    repeat refine an ?_
    refine yW (c_ref10_Passes _) rfl ?_
    simp (maxSteps := 9^9) (disch := (try simp only [lens]); omega) only [zJ, sm, ↓amb, zQ, simprocAttr, en62, dx]
    repeat refine an ?_
    refine hk _ ?_; clear hk k
    refine yQ ?_
    have hbt : 1 ≤ bt ∧ bt ≤ 16 := Decidable.byContradiction fun q => hpz (if_neg q)
    rw [show Pl.raL l bt bl p = Pl.passes l bt (Pl.pas bt).toNat from if_pos hre, Pl.passes_keys hB hl hbt, show Pl.raS l.length bt bl p = Pl.scS l.length bl p * Pl.pas bt from if_pos hre, hre]
    refine ret3 rfl rfl rfl rfl ?_ ?_ ?_
    ·exact .p (LeP.refl _)
    ·exact .p (LeP.refl _)
    ·exact .p (LeP.refl _)
end Go.Proofs.Ytbehekmnccoifaa
end
section
set_option linter.unusedSimpArgs false
set_option linter.unusedVariables false
set_option maxRecDepth 100000
namespace Go.Proofs.Ytbehekmnccoifaa
open Go.Am Go.Proofs
set_option maxHeartbeats 4000000 in
theorem c_refWhere_h (d : Bool) (fl : List Bool) (bl : Int) (p : Pl.Plan) (hn : fl.length ≤ 1000000) : HCall Try.prog 15 [.own 7, .p (iV bl), .p (.agg (planC d p))] [(7, (.row 1 (lift (fl.map fun q => [bV q]))))] (.tup [.p (ints false (Pl.whL fl false bl p)), .p (iV (Pl.whS fl.length bl p)), .p (iV (Pl.scE fl.length bl p))]) [(7, (.row 1 (lift (fl.map fun q => [bV q]))))] := by
 have hS := c_Sums_h d (List.replicate fl.length (0 : Int)) bl p (fun x hx => by rw [(List.mem_replicate.1 hx).2]; decide) (by rw [List.length_replicate]; exact hn)
 rw [List.map_replicate, List.length_replicate] at hS
 refine xJ Try.func15 rfl (by simp [Try.ntmps15]) fun C hC => ?_
 refine zW (zV [0, 1, 2]) ?_
 simp only [kp, zJ, simprocAttr]
 refine zK [55] (by rw [hC]; rfl) fun k hk => ?_
 simp (maxSteps := 9^9) (disch := (try simp only [lens]); omega) only [zJ, sm, ↓amb, zQ, simprocAttr, dx]
 repeat refine an ?_
 refine hk _ ?_; clear hk k
 refine zW (zV [0, 1, 5]) ?_
 simp only [kp, zJ, simprocAttr]
 refine awp_sd [55] ⟨[0, 1, 3, 0, 0, 31, 63, 127, 127, 127, 127, 255, 2559, 7167, 16383], [5], [], [(2, 5)], some []⟩ (by rw [hC]; rfl) (by kernel_rfl) (by kernel_rfl) fun k hk => ?_
 simp (maxSteps := 9^9) (disch := (try simp only [lens]); omega) only [zJ, sm, ↓amb, zQ, simprocAttr, el23, el22, by41, vr41, sz26, en38, dx]
 repeat refine an ?_
 refine callK_h (hS) [48] [7] (by first | rfl | (simp only [hm]; done)) (by first | rfl | (simp [namesOk, lkp]; done)) ?_ ?_ ?_ ?_ ?_ ?_ ?_
 (iterate 6 (focus (first | trivial | (intro n hn; cases hn; done) | (simp (maxSteps := 9^9) (disch := (try simp only [lens]); omega) only [zJ, sm, ↓amb, zQ, simprocAttr, el23, el22, by41, vr41, sz26, en38, dx, hmx, List.filter_cons, Nat.reduceBNe, imp_self, implies_true]; done))))
 simp (maxSteps := 9^9) (disch := (try simp only [lens]); omega) only [zJ, sm, ↓amb, zQ, simprocAttr, el23, el22, by41, vr41, sz26, en38, dx, hm, List.filter_cons, List.filter_nil, Nat.reduceBNe, Option.map_none]
 repeat refine an ?_
 refine hk _ ?_; clear hk k
 refine zY fun k1 h1 => ?_
 refine zW (zV [0, 5, 6, 7, 8, 11, 12]) ?_
 simp only [kp, zJ, simprocAttr]
 refine zK [55] (by rw [hC]; rfl) fun k hk => ?_
 simp (maxSteps := 9^9) (disch := (try simp only [lens]); omega) only [zJ, sm, ↓amb, zQ, simprocAttr, dx]
 repeat refine an ?_
 refine hk _ ?_; clear hk k
 refine zX rfl (fun hb => ?_) (fun hb => ?_)
 ·try simp only [hbx] at hb
  refine zW (zV [12]) ?_
  simp only [kp, zJ, simprocAttr]
  refine zK [55] (by rw [hC]; rfl) fun k hk => ?_
  simp (maxSteps := 9^9) (disch := (try simp only [lens]); omega) only [zJ, sm, ↓amb, zQ, simprocAttr, dx]
  repeat refine an ?_
  refine hk _ ?_; clear hk k
  refine yQ ?_
  rw [show Pl.whL fl false bl p = [] from if_neg hb, show Pl.whS fl.length bl p = 0 from if_neg hb]
  refine reth3 rfl rfl rfl rfl ?_
  exact le_of [] (by rfl) (by rfl) ⟨⟨_, rfl, leTup (LeRow.cons (.p (LeP.seq _ _)) (LeRow.cons (.p (.refl _)) (LeRow.cons (.p (.refl _)) .nil)))⟩, trivial⟩ ⟨⟨_, rfl, _, rfl, .liftE rfl⟩, trivial⟩
 ·try simp only [hbx] at hb
  refine yJ ?_
  refine h1 _ ?_; clear h1 k1
  refine zW (zV [0, 5, 11]) ?_
  simp only [kp, zJ, simprocAttr]
  have hse := hb
  obtain ⟨q1, q2, q3⟩ := Pl.sc_iff.1 hse
  have hoe : Pl.ordE fl.length p = 0 := Pl.ordE0 ⟨by omega, by omega, q3.2.2⟩
  refine zK [55] (by rw [hC]; rfl) fun k hk => ?_
  simp (maxSteps := 9^9) (disch := (try simp only [lens]); omega) only [zJ, sm, ↓amb, zQ, simprocAttr, el23, sz26, en39, dx]
  repeat refine an ?_
  refine yW (c_ref07_Order d fl.length p) rfl ?_
  simp (maxSteps := 9^9) (disch := (try simp only [lens]); omega) only [zJ, sm, ↓amb, zQ, simprocAttr, el23, sz26, en39, dx]
  repeat refine an ?_
  refine hk _ ?_; clear hk k
  refine zY fun k2 h2 => ?_
  refine zW (zV [0, 6, 7, 8, 11, 12, 14]) ?_
  simp only [kp, zJ, simprocAttr]
  refine zK [55] (by rw [hC]; rfl) fun k hk => ?_
  simp (maxSteps := 9^9) (disch := (try simp only [lens]); omega) only [zJ, sm, ↓amb, zQ, simprocAttr, dx]
  repeat refine an ?_
  refine hk _ ?_; clear hk k
  refine zX rfl (fun hb => ?_) (fun hb => ?_)
  ·rw [hoe] at hb; exact absurd hb (by simp)
  ·try simp only [hbx] at hb
   refine yJ ?_
   refine h2 _ ?_; clear h2 k2
   refine zW (zV [0, 11, 14]) ?_
   simp only [kp, zJ, simprocAttr]
   refine zK [55] (by rw [hC]; rfl) fun k hk => ?_
   simp (maxSteps := 9^9) (disch := (try simp only [lens]); omega) only [zJ, sm, ↓amb, zQ, simprocAttr, dx]
   repeat refine an ?_
   refine hk _ ?_; clear hk k
   refine zY fun k3 h3 => ?_
   refine zW (zV [0, 6, 7, 8, 11, 14, 15]) ?_
   simp only [kp, zJ, simprocAttr]
   refine awp_own' 15 1 rfl ?_
   refine zK [55] (by rw [hC]; rfl) fun k hk => ?_
   simp (maxSteps := 9^9) (disch := (try simp only [lens]); omega) only [zJ, sm, ↓amb, zQ, simprocAttr, dx]
   repeat refine an ?_
   refine hk _ ?_; clear hk k
   refine yK ?_
   refine yY (σ := Nat) (fun i => i ≤ fl.length) (fun (i : Nat) => ⟨[(0, (.own 7)), (11, (.p (iV (Pl.scS fl.length bl p)))), (14, (.p (iV (Pl.ordS fl.length p)))), (15, (.own 0)), (16, (.p (iV (i : Int))))], [(0, (.row 1 (lift ((Pl.onesT (Pl.marksL fl false) i).map fun x => [iV x])))), (7, (.row 1 (lift (fl.map fun q => [bV q]))))], 1⟩) (fun i => fl.length - i) 0 ?_ ?_ fun i hi => ?_
   ·exact Nat.zero_le _
   ·exact le_of [(0, _)] (by rfl) (by rfl) ⟨⟨_, rfl, .own rfl⟩, ⟨_, rfl, .oe⟩, ⟨_, rfl, .oe⟩, ⟨_, rfl, .own rfl⟩, ⟨_, rfl, .oe⟩, trivial⟩ ⟨⟨_, rfl, _, rfl, .liftE (by first | (rw [Pl.onesT_0]; rfl) | (rw [Pl.onesT_yes hm1, List.map_append]; rfl) | (rw [Pl.onesT_no hm1]; done) | trace_state)⟩, ⟨_, rfl, _, rfl, .liftE rfl⟩, trivial⟩
   refine zY fun k5 h5 => ?_
   refine zW (zV [0, 6, 7, 8, 11, 14, 15, 16]) ?_
   simp only [kp, zJ, simprocAttr]
   refine zK [55] (by rw [hC]; rfl) fun k hk => ?_
   simp (maxSteps := 9^9) (disch := (try simp only [lens]); omega) only [zJ, sm, ↓amb, zQ, simprocAttr, el23, dx]
   repeat refine an ?_
   refine hk _ ?_; clear hk k
   refine zX rfl (fun hb => ?_) (fun hb => ?_)
   ·try simp only [hbx] at hb
    refine yJ ?_
    refine h5 _ ?_; clear h5 k5
    refine zY fun k6 h6 => ?_
    refine yK ?_
    refine zW (zV [0, 6, 7, 8, 11, 14, 15, 16]) ?_
    simp only [kp, zJ, simprocAttr]
    refine zK [55] (by rw [hC]; rfl) fun k hk => ?_
    simp (maxSteps := 9^9) (disch := (try simp only [lens]); omega) only [zJ, sm, ↓amb, zQ, simprocAttr, el23, sz4, dx]
    repeat refine an ?_
    refine hk _ ?_; clear hk k
    refine zX rfl (fun hb => ?_) (fun hb => ?_)
    ·try simp only [hbx] at hb
     have hm1 : (Pl.marksL fl false).getD i 0 = 1 := by rw [Pl.marksL_get (by omega), if_neg (by rw [show fl.getD i false = fl.getD i default from rfl, hb]; decide)]
     have hol := Pl.onesT_len (Pl.marksL fl false) i
     refine yZ [55] (by rw [hC]; rfl) fun k hk => ?_
     simp (maxSteps := 9^9) (disch := (try simp only [lens]); omega) only [zJ, sm, ↓amb, zQ, simprocAttr, el33, vr3, by3, dx]
     repeat refine an ?_
     refine hk _ ?_; clear hk k
     refine h6 _ ?_; clear h6 k6
     refine yZ [55] (by rw [hC]; rfl) fun k hk => ?_
     simp (maxSteps := 9^9) (disch := (try simp only [lens]); omega) only [zJ, sm, ↓amb, zQ, simprocAttr, dx]
     repeat refine an ?_
     refine hk _ ?_; clear hk k
     refine ⟨i + 1, by omega, le_of [(0, _)] (by rfl) (by rfl) ⟨⟨_, rfl, .own rfl⟩, ⟨_, rfl, .oe⟩, ⟨_, rfl, .oe⟩, ⟨_, rfl, .own rfl⟩, ⟨_, rfl, .oe⟩, trivial⟩ ⟨⟨_, rfl, _, rfl, .liftE (by first | (rw [Pl.onesT_0]; rfl) | (rw [Pl.onesT_yes hm1, List.map_append]; rfl) | (rw [Pl.onesT_no hm1]; done) | trace_state)⟩, ⟨_, rfl, _, rfl, .liftE rfl⟩, trivial⟩, by omega⟩
    ·try simp only [hbx] at hb
     refine yJ ?_
     refine h6 _ ?_; clear h6 k6
     have hm1 : ¬ (Pl.marksL fl false).getD i 0 = 1 := by rw [Pl.marksL_get (by omega), if_pos (by rw [show fl.getD i false = fl.getD i default from rfl, hb])]; decide
     refine yZ [55] (by rw [hC]; rfl) fun k hk => ?_
     simp (maxSteps := 9^9) (disch := (try simp only [lens]); omega) only [zJ, sm, ↓amb, zQ, simprocAttr, dx]
     repeat refine an ?_
     refine hk _ ?_; clear hk k
     refine ⟨i + 1, by omega, le_of [(0, _)] (by rfl) (by rfl) ⟨⟨_, rfl, .own rfl⟩, ⟨_, rfl, .oe⟩, ⟨_, rfl, .oe⟩, ⟨_, rfl, .own rfl⟩, ⟨_, rfl, .oe⟩, trivial⟩ ⟨⟨_, rfl, _, rfl, .liftE (by first | (rw [Pl.onesT_0]; rfl) | (rw [Pl.onesT_yes hm1, List.map_append]; rfl) | (rw [Pl.onesT_no hm1]; done) | trace_state)⟩, ⟨_, rfl, _, rfl, .liftE rfl⟩, trivial⟩, by omega⟩
   ·try simp only [hbx] at hb
    refine yX ((if_pos rfl).mpr ?_)
    refine h3 _ ?_; clear h5 k5; clear h3 k3
    refine zW (zV [11, 14, 15]) ?_
    simp only [kp, zJ, simprocAttr]
    have h1 := Pl.scS_nn fl.length bl p
    have h2 := Pl.ordS_up fl.length p
    obtain rfl : i = fl.length := by omega
    refine zK [55] (by rw [hC]; rfl) fun k hk => ?_
    simp (maxSteps := 9^9) (disch := (try simp only [lens]); omega) only [zJ, sm, ↓amb, zQ, simprocAttr, dx]
    repeat refine an ?_
    refine hk _ ?_; clear hk k
    refine yQ ?_
    rw [show Pl.whL fl false bl p = Pl.onesT (Pl.marksL fl false) fl.length from (if_pos hse).trans (by rw [← Pl.onesT_end, Pl.marksL_len]), show Pl.whS fl.length bl p = Pl.scS fl.length bl p + Pl.ordS fl.length p from if_pos hse, hse]
    refine reth3 rfl rfl rfl rfl ?_
    exact le_of [] (by rfl) (by rfl) ⟨⟨_, rfl, leTup (LeRow.cons (.frz (es := (Pl.onesT (Pl.marksL fl false) fl.length).map fun x => [iV x]) rfl (by rfl)) (LeRow.cons (.p (.refl _)) (LeRow.cons (.p (.refl _)) .nil)))⟩, trivial⟩ ⟨⟨_, rfl, _, rfl, .liftE rfl⟩, trivial⟩
end Go.Proofs.Ytbehekmnccoifaa
end
section
set_option linter.unusedSimpArgs false
set_option linter.unusedVariables false
namespace Go.Pl
def frm (s : List Int) : List Int := marksL (firstsL s) false
theorem firstsL_get {s : List Int} {i : Nat} (h : i < s.length) : (firstsL s).getD i false = firB s i := by
  unfold firstsL tabB
  rw [List.getD_eq_getElem?_getD, List.getElem?_map, List.getElem?_range h]; rfl
theorem frm_get {s : List Int} {i : Nat} (h : i < s.length) : (frm s).getD i 0 = if firB s i = true then 1 else 0 := by
  unfold frm
  rw [marksL_get (by rw [firstsL_len]; exact h), firstsL_get h]
  cases firB s i <;> rfl
def grWi (s : List Int) (i : Nat) : List Int := onesT (frm s) i
theorem grWi_0 (s : List Int) : grWi s 0 = [] := onesT_0 _
theorem grWi_yes {s : List Int} {i : Nat} (h : i < s.length) (hf : firB s i = true) : grWi s (i + 1) = grWi s i ++ [(i : Int)] := onesT_yes (by rw [frm_get h, if_pos hf])
theorem grWi_no {s : List Int} {i : Nat} (h : i < s.length) (hf : firB s i = false) : grWi s (i + 1) = grWi s i := onesT_no (by rw [frm_get h, if_neg (by rw [hf]; decide)]; decide)
theorem grWi_mem {s : List Int} {i : Nat} : ∀ x, x ∈ grWi s i → 0 ≤ x ∧ x < i := fun x hx => mem_upto.1 (List.mem_filter.1 hx).1
theorem grWi_len (s : List Int) (i : Nat) : (grWi s i).length ≤ i := onesT_len _ _
theorem grW_end {l : List Int} {w : Way} (h : grE l.length w = 0) (hs : (grS l w).length = l.length) : grW l w = grWi (grS l w) (grS l w).length := by
  have h0 : raE l.length w.bits w.block w.plan = 0 := h
  have h1 : scE (firstsL (grS l w)).length w.block w.plan = 0 := by
    rw [firstsL_len, hs]
    unfold raE at h0; split at h0
    · exact absurd h0 (by decide)
    · exact h0
  unfold grW
  rw [show whL (firstsL (grS l w)) false w.block w.plan = onesL (marksL (firstsL (grS l w)) false) from if_pos h1, ← onesT_end, marksL_len, firstsL_len]
  rfl
def rgK (s : List Int) (i : Nat) : List Int := sortedL s (grWi s i)
def rgC (s : List Int) (i : Nat) : List Int := cntG i (grWi s i) (grWi s i).length
theorem rgK_len (s : List Int) (i : Nat) : (rgK s i).length = (grWi s i).length := sortedL_len _ _
theorem rgC_len (s : List Int) (i : Nat) : (rgC s i).length = (grWi s i).length := cntG_len _ _ _
theorem rgK_0 (s : List Int) : rgK s 0 = [] := by unfold rgK; rw [grWi_0]; rfl
theorem rgC_0 (s : List Int) : rgC s 0 = [] := by unfold rgC; rw [grWi_0]; rfl
theorem rgK_yes {s : List Int} {i : Nat} (h : i < s.length) (hf : firB s i = true) : rgK s (i + 1) = rgK s i ++ [s.getD i 0] := by
  unfold rgK; rw [grWi_yes h hf, sortedL_snoc, Int.toNat_natCast]
theorem rgK_no {s : List Int} {i : Nat} (h : i < s.length) (hf : firB s i = false) : rgK s (i + 1) = rgK s i := by
  unfold rgK; rw [grWi_no h hf]
theorem cntG_get {n : Nat} {W : List Int} {k j : Nat} (h : j < k) : (cntG n W k).getD j 0 = (if j + 1 < W.length then W.getD (j + 1) 0 else (n : Int)) - W.getD j 0 := by
  unfold cntG
  rw [List.getD_eq_getElem?_getD, List.getElem?_map, List.getElem?_range h]; rfl
theorem rgC_yes {s : List Int} {i : Nat} (h : i < s.length) (hf : firB s i = true) : rgC s (i + 1) = rgC s i ++ [1] := by
  unfold rgC
  rw [grWi_yes h hf]
  generalize grWi s i = W
  rw [List.length_append, List.length_singleton, cntG_snoc]
  congr 1
  · unfold cntG
    refine List.map_congr_left fun j hj => ?_
    have hj := List.mem_range.1 hj
    rw [List.length_append, List.length_singleton, if_pos (by omega)]
    congr 1
    · split
      · rename_i q; rw [List.getD_eq_getElem?_getD, List.getD_eq_getElem?_getD, List.getElem?_append_left q]
      · rename_i q
        rw [List.getD_eq_getElem?_getD, List.getElem?_append_right (by omega), show j + 1 - W.length = 0 by omega]; rfl
    · rw [List.getD_eq_getElem?_getD, List.getD_eq_getElem?_getD, List.getElem?_append_left hj]
  · rw [List.length_append, List.length_singleton, if_neg (by omega), List.getD_eq_getElem?_getD, List.getElem?_append_right (by omega), Nat.sub_self]
    simp only [List.getElem?_cons_zero, Option.getD_some]
    congr 1; omega
theorem rgC_no {s : List Int} {i : Nat} (h : i < s.length) (hf : firB s i = false) : rgC s (i + 1) = (rgC s i).set ((rgK s i).length - 1) ((rgC s i).getD ((rgK s i).length - 1) 0 + 1) := by
  rw [rgK_len]
  unfold rgC
  rw [grWi_no h hf]
  generalize grWi s i = W
  refine list_ext (by rw [List.length_set, cntG_len, cntG_len]) fun j hj => ?_
  rw [cntG_len] at hj
  rw [List.getD_eq_getElem?_getD (l := List.set _ _ _), List.getElem?_set]
  by_cases e : W.length - 1 = j
  · rw [if_pos e, if_pos (by rw [cntG_len]; omega), Option.getD_some, e, cntG_get hj, cntG_get hj, if_neg (by omega), if_neg (by omega)]; omega
  · rw [if_neg e, ← List.getD_eq_getElem?_getD, cntG_get hj, cntG_get hj, if_pos (by omega), if_pos (by omega)]
theorem rg_last {s : List Int} : ∀ i, 0 < i → i ≤ s.length → 0 < (rgK s i).length ∧ (rgK s i).getD ((rgK s i).length - 1) 0 = s.getD (i - 1) 0
  | 0, h, _ => absurd h (by omega)
  | i + 1, _, h => by
    cases hf : firB s i with
    | true =>
      rw [rgK_yes (by omega) hf, List.length_append, List.length_singleton, Nat.add_sub_cancel, Nat.add_sub_cancel, List.getD_eq_getElem?_getD, List.getElem?_append_right (by omega), Nat.sub_self]
      exact ⟨by omega, rfl⟩
    | false =>
      have hi : 0 < i := by
        rcases Nat.eq_zero_or_pos i with e | e
        · rw [firB_0 e] at hf; cases hf
        · exact e
      obtain ⟨q1, q2⟩ := rg_last (s := s) i hi (by omega)
      rw [rgK_no (by omega) hf, Nat.add_sub_cancel]
      refine ⟨q1, q2.trans ?_⟩
      rw [firB_1 (by omega)] at hf
      simpa using hf
theorem rg_test {s : List Int} {i : Nat} (h : i < s.length) : firB s i = false ↔ (0 < (rgK s i).length ∧ (rgK s i).getD ((rgK s i).length - 1) 0 = s.getD i 0) := by
  rcases Nat.eq_zero_or_pos i with e | e
  · subst e
    rw [firB_0 rfl, rgK_0]
    exact ⟨fun z => (by cases z), fun z => absurd z.1 (by decide)⟩
  · obtain ⟨q1, q2⟩ := rg_last (s := s) i e (by omega)
    rw [firB_1 (by omega), q2]
    exact ⟨fun z => ⟨q1, by simpa using z⟩, fun z => by simpa using z.2⟩
theorem rgC_bd {s : List Int} {i : Nat} (hi : i ≤ s.length) : ∀ j, -(s.length : Int) ≤ (rgC s i).getD j 0 ∧ (rgC s i).getD j 0 ≤ s.length := fun j => by
  by_cases hj : j < (grWi s i).length
  · unfold rgC
    rw [cntG_get hj]
    have h1 := grWi_mem _ (getD_mem (grWi s i) j 0 hj)
    split
    · rename_i q
      have h2 := grWi_mem _ (getD_mem (grWi s i) (j + 1) 0 q)
      omega
    · omega
  · rw [List.getD_eq_getElem?_getD, List.getElem?_eq_none (by rw [rgC_len]; omega)]
    simp only [Option.getD_none]; omega
theorem rgK_end {l : List Int} {w : Way} (h : grE l.length w = 0) (hs : (grS l w).length = l.length) : grK l w = rgK (grS l w) (grS l w).length ∧ grC l w = rgC (grS l w) (grS l w).length := by
  unfold grK grC rgK rgC
  rw [if_pos h, if_pos h, grW_end h hs, hs]
  exact ⟨rfl, rfl⟩
structure RgI (s : List Int) (i : Nat) : Prop where
  rises : (rgK s i).Pairwise fun x y => x < y
  cnt : ∀ j, j < (rgK s i).length → (rgC s i).getD j 0 = ((s.take i).count ((rgK s i).getD j 0) : Nat) ∧ 0 < (rgC s i).getD j 0
  mem : ∀ x, x ∈ s.take i ↔ x ∈ rgK s i
  sum : (rgC s i).sum = i
end Go.Pl
end
section
set_option linter.unusedSimpArgs false
set_option linter.unusedVariables false
set_option maxRecDepth 100000
namespace Go.Proofs.Ytbehekmnccoifaa
open Go.Am Go.Proofs
theorem en15 : enters Try.prog 15 = true := by kernel_rfl
theorem en24 : enters Try.prog 24 = true := by kernel_rfl
theorem en44 : enters Try.prog 44 = true := by kernel_rfl
set_option maxHeartbeats 4000000 in
theorem c_ref11_Groups (c d : Bool) (l : List Int) (w : Pl.Way) (hl : ∀ x, x ∈ l → Pl.W32 x) (hn : l.length ≤ 1000000) : PCall Try.prog 24 [words c l, .agg (wayC d w)] (.tup [words false (Pl.grK l w), ints false (Pl.grC l w), iV (Pl.grT l.length w), iV (Pl.grE l.length w)]) := by
 have f1 := c_ref10_Sort c d l w.bits w.block w.plan hl hn
 have hzl : (List.replicate l.length false).length = l.length := List.length_replicate
 have wn : Pl.whL (List.replicate l.length false) false w.block w.plan = Pl.whL (List.replicate l.length false) false w.block w.plan := rfl
 have f2 := c_refWhere_h d (List.replicate l.length false) w.block w.plan (by rw [hzl]; omega)
 rw [hzl, List.map_replicate] at f2
 have r1 := Pl.scS_nn l.length w.block w.plan
 have r2 := Pl.pas_nn w.bits
 have r3 : 0 ≤ Pl.raS l.length w.bits w.block w.plan ∧ Pl.raS l.length w.bits w.block w.plan ≤ 40000 * 33 := by
  unfold Pl.raS; split
  ·exact ⟨Int.mul_nonneg r1.1 r2.1, Pl.mul_up r1.2 (by omega) r2.1 (by omega)⟩
  ·omega
 have r5 := Pl.whS_nn l.length w.block w.plan
 refine yV Try.func24 rfl (by simp [Try.ntmps24]) fun C hC => ?_
 refine zW (zV [0, 1]) ?_
 simp only [kp, zJ, simprocAttr]
 refine zK [83, 86] (by rw [hC]; rfl) fun k hk => ?_
 simp (maxSteps := 9^9) (disch := (try simp only [lens]); omega) only [zJ, sm, ↓amb, zQ, simprocAttr, dx]
 repeat refine an ?_
 refine hk _ ?_; clear hk k
 refine zW (zV [0, 3]) ?_
 simp only [kp, zJ, simprocAttr]
 refine zK [83, 86] (by rw [hC]; rfl) fun k hk => ?_
 simp (maxSteps := 9^9) (disch := (try simp only [lens]); omega) only [zJ, sm, ↓amb, zQ, simprocAttr, fl47_0, sz3, fl47_1, fl47_2, sz26, en44, dx]
 repeat refine an ?_
 refine yW (f1) rfl ?_
 simp (maxSteps := 9^9) (disch := (try simp only [lens]); omega) only [zJ, sm, ↓amb, zQ, simprocAttr, fl47_0, sz3, fl47_1, fl47_2, sz26, en44, dx]
 repeat refine an ?_
 refine hk _ ?_; clear hk k
 refine zY fun k1 h1 => ?_
 refine zW (zV [0, 3, 4, 5, 6, 7, 8, 9, 10]) ?_
 simp only [kp, zJ, simprocAttr]
 refine zK [83, 86] (by rw [hC]; rfl) fun k hk => ?_
 simp (maxSteps := 9^9) (disch := (try simp only [lens]); omega) only [zJ, sm, ↓amb, zQ, simprocAttr, dx]
 repeat refine an ?_
 refine hk _ ?_; clear hk k
 refine zX rfl (fun hb => ?_) (fun hb => ?_)
 ·try simp only [hbx] at hb
  refine zW (zV [10]) ?_
  simp only [kp, zJ, simprocAttr]
  refine zK [83, 86] (by rw [hC]; rfl) fun k hk => ?_
  simp (maxSteps := 9^9) (disch := (try simp only [lens]); omega) only [zJ, sm, ↓amb, zQ, simprocAttr, dx]
  repeat refine an ?_
  refine hk _ ?_; clear hk k
  refine yQ ?_
  rw [show Pl.grK l w = [] from if_neg hb, show Pl.grC l w = [] from if_neg hb, show Pl.grT l.length w = 0 from if_neg hb]
  refine ret4 rfl rfl rfl rfl rfl ?_ ?_ ?_ ?_
  ·exact .p (LeP.seq _ _)
  ·exact .p (LeP.seq _ _)
  ·exact .p (LeP.refl _)
  ·exact .p (LeP.refl _)
 ·try simp only [hbx] at hb
  refine yJ ?_
  refine h1 _ ?_; clear h1 k1
  refine zW (zV [0, 3, 8, 9]) ?_
  simp only [kp, zJ, simprocAttr]
  have he0 : Pl.grE l.length w = 0 := hb
  have hra : Pl.raE l.length w.bits w.block w.plan = 0 := he0
  have hs0 : Pl.scE l.length w.block w.plan = 0 := by
   unfold Pl.raE at hra; split at hra
   ·exact absurd hra (by decide)
   ·exact hra
  have ho : Pl.onceP (Pl.raL l w.bits w.block w.plan) l.length := by unfold Pl.raL; rw [if_pos hra]; exact Pl.passes_once hl _ _
  have hsl : (Pl.grS l w).length = l.length := by unfold Pl.grS; rw [Pl.sortedL_len]; exact ho.1
  have hol := ho.1
  rw [hs0] at f2
  refine awp_sd [83, 86] ⟨[0, 1, 3, 0, 8, 0, 32, 127, 255, 511, 511, 511, 1023, 6143, 16383], [7], [], [(2, 7)], some []⟩ (by rw [hC]; rfl) (by kernel_rfl) (by kernel_rfl) fun k hk => ?_
  simp (maxSteps := 9^9) (disch := (try simp only [lens]); omega) only [zJ, sm, ↓amb, zQ, simprocAttr, el22, el23, by4, vr4, fl47_1, sz3, fl47_2, sz26, en15, dx]
  repeat refine an ?_
  refine callK_h (f2) [192] [7] (by first | rfl | (simp only [hm]; done)) (by first | rfl | (simp [namesOk, lkp]; done)) ?_ ?_ ?_ ?_ ?_ ?_ ?_
  (iterate 6 (focus (first | trivial | (intro n hn; cases hn; done) | (simp (maxSteps := 9^9) (disch := (try simp only [lens]); omega) only [zJ, sm, ↓amb, zQ, simprocAttr, el22, el23, by4, vr4, fl47_1, sz3, fl47_2, sz26, en15, dx, hmx, List.filter_cons, Nat.reduceBNe, imp_self, implies_true]; done))))
  simp (maxSteps := 9^9) (disch := (try simp only [lens]); omega) only [zJ, sm, ↓amb, zQ, simprocAttr, el22, el23, by4, vr4, fl47_1, sz3, fl47_2, sz26, en15, dx, hm, List.filter_cons, List.filter_nil, Nat.reduceBNe, Option.map_none]
  repeat refine an ?_
  refine hk _ ?_; clear hk k
  refine zY fun k2 h2 => ?_
  refine zW (zV [0, 4, 5, 6, 7, 8, 9, 10, 12]) ?_
  simp only [kp, zJ, simprocAttr]
  refine zK [83, 86] (by rw [hC]; rfl) fun k hk => ?_
  simp (maxSteps := 9^9) (disch := (try simp only [lens]); omega) only [zJ, sm, ↓amb, zQ, simprocAttr, dx]
  repeat refine an ?_
  refine hk _ ?_; clear hk k
  refine zX rfl (fun hb => ?_) (fun hb => ?_)
  ·exact absurd hb (by simp)
  ·try simp only [hbx] at hb
   refine yJ ?_
   refine h2 _ ?_; clear h2 k2
   refine zW (zV [0, 8, 9, 12]) ?_
   simp only [kp, zJ, simprocAttr]
   refine zK [83, 86] (by rw [hC]; rfl) fun k hk => ?_
   simp (maxSteps := 9^9) (disch := (try simp only [lens]); omega) only [zJ, sm, ↓amb, zQ, simprocAttr, dx]
   repeat refine an ?_
   refine hk _ ?_; clear hk k
   refine zW (zV [0, 8, 9, 12, 13]) ?_
   simp only [kp, zJ, simprocAttr]
   refine zK [83, 86] (by rw [hC]; rfl) fun k hk => ?_
   simp (maxSteps := 9^9) (disch := (try simp only [lens]); omega) only [zJ, sm, ↓amb, zQ, simprocAttr, dx]
   repeat refine an ?_
   refine hk _ ?_; clear hk k
   refine zY fun k3 h3 => ?_
   refine zW (zV [0, 4, 5, 6, 7, 8, 9, 12, 13, 14]) ?_
   simp only [kp, zJ, simprocAttr]
   refine awp_own' 13 1 rfl ?_
   simp only [am, List.set_cons_succ, List.set_cons_zero, Nat.reduceEqDiff, ↓reduceIte, reduceCtorEq, Nat.reduceAdd, Nat.reduceMul]
   refine awp_own' 14 1 rfl ?_
   refine zK [83, 86] (by rw [hC]; rfl) fun k hk => ?_
   simp (maxSteps := 9^9) (disch := (try simp only [lens]); omega) only [zJ, sm, ↓amb, zQ, simprocAttr, dx]
   repeat refine an ?_
   refine hk _ ?_; clear hk k
   refine yK ?_
   refine yY (σ := Nat) (fun i => i ≤ (Pl.grS l w).length) (fun (i : Nat) => ⟨[(0, (.p (words c l))), (8, (.p (ints false (Pl.raL l w.bits w.block w.plan)))), (9, (.p (iV (Pl.raS l.length w.bits w.block w.plan)))), (12, (.p (iV (Pl.whS l.length w.block w.plan)))), (13, (.own 0)), (14, (.own 1)), (15, (.p (iV (i : Int))))], [(0, (.row 1 (lift ((Pl.rgK (Pl.grS l w) i).map fun x => [u32V x])))), (1, (.row 1 (lift ((Pl.rgC (Pl.grS l w) i).map fun x => [iV x]))))], 1⟩) (fun i => (Pl.grS l w).length - i) 0 ?_ ?_ fun i hi => ?_
   ·exact Nat.zero_le _
   ·exact le_of [(0, _), (1, _)] (by rfl) (by rfl) ⟨⟨_, rfl, .oe⟩, ⟨_, rfl, .oe⟩, ⟨_, rfl, .oe⟩, ⟨_, rfl, .oe⟩, ⟨_, rfl, .own rfl⟩, ⟨_, rfl, .own rfl⟩, ⟨_, rfl, .oe⟩, trivial⟩ ⟨⟨_, rfl, _, rfl, .liftE (by first | (rw [Pl.rgK_0]; rfl) | (rw [Pl.rgK_no (by omega) hf]; done) | (rw [Pl.rgK_yes (by omega) hf, List.map_append]; rfl) | trace_state)⟩, ⟨_, rfl, _, rfl, .liftE (by first | (rw [Pl.rgC_0]; rfl) | (rw [Pl.rgC_no (by omega) hf, List.map_set]; first | done | rfl) | (rw [Pl.rgC_yes (by omega) hf, List.map_append]; rfl) | trace_state)⟩, trivial⟩
   refine zY fun k5 h5 => ?_
   refine zW (zV [0, 1, 4, 5, 6, 7, 8, 9, 12, 13, 14, 15]) ?_
   simp only [kp, zJ, simprocAttr]
   refine zK [83, 86] (by rw [hC]; rfl) fun k hk => ?_
   simp (maxSteps := 9^9) (disch := (try simp only [lens]); omega) only [zJ, sm, ↓amb, zQ, simprocAttr, el33, dx]
   repeat refine an ?_
   refine hk _ ?_; clear hk k
   refine zX rfl (fun hb => ?_) (fun hb => ?_)
   ·try simp only [hbx] at hb
    refine yJ ?_
    refine h5 _ ?_; clear h5 k5
    refine zY fun k6 h6 => ?_
    refine yK ?_
    refine zW (zV [0, 1, 4, 5, 6, 7, 8, 9, 12, 13, 14, 15]) ?_
    simp only [kp, zJ, simprocAttr]
    have hx := ho.2.1 _ (Pl.getD_mem (Pl.raL l w.bits w.block w.plan) i 0 (by omega))
    have hsg : (Pl.grS l w).getD i 0 = l.getD ((Pl.raL l w.bits w.block w.plan).getD i 0).toNat 0 := Pl.sortedL_get (by omega)
    have hkl := Pl.grWi_len (Pl.grS l w) i
    rw [← Pl.rgK_len] at hkl
    have hcl : (Pl.rgC (Pl.grS l w) i).length = (Pl.rgK (Pl.grS l w) i).length := by rw [Pl.rgC_len, Pl.rgK_len]
    refine zK [83, 86] (by rw [hC]; rfl) fun k hk => ?_
    simp (maxSteps := 9^9) (disch := (try simp only [lens]); omega) only [zJ, sm, ↓amb, zQ, simprocAttr, el33, sz3, el22, sz41, dx]
    repeat refine an ?_
    refine hk _ ?_; clear hk k
    refine zW (zV [0, 1, 4, 5, 6, 7, 8, 9, 12, 13, 14, 15, 16]) ?_
    simp only [kp, zJ, simprocAttr]
    rw [← hsg]
    refine zK [83, 86] (by rw [hC]; rfl) fun k hk => ?_
    simp (maxSteps := 9^9) (disch := (try simp only [lens]); omega) only [zJ, sm, ↓amb, zQ, simprocAttr, el22, dx]
    repeat refine an ?_
    refine hk _ ?_; clear hk k
    refine xQ [83, 86] 73 (decide (0 < (Pl.rgK (Pl.grS l w) i).length ∧ (Pl.rgK (Pl.grS l w) i).getD ((Pl.rgK (Pl.grS l w) i).length - 1) 0 = (Pl.grS l w).getD i 0)) [0, 1, 4, 5, 6, 7, 8, 9, 12, 13, 14, 15, 16, 17] (by rw [hC]; rfl) (fun gd hgd k hk => ?_) ?_
    ·have g2 : gd 2 = some 66 := by rw [hgd]; rfl
     clear hgd
     simp (maxSteps := 9^9) (disch := (try simp only [lens]); omega) only [zJ, sm, ↓amb, zQ, simprocAttr, el22, sz41, zZ, g2, dx]
     repeat' first | refine hk _ _ rfl rfl rfl rfl ?_ | (refine gsplit (fun hg => ?_) (fun hg => ?_) <;> (try simp only [hbx] at hg) <;> simp (maxSteps := 9^9) (disch := (try simp only [lens]); omega) only [zJ, sm, ↓amb, zQ, simprocAttr, el22, sz41, zZ, g2, dx]) | apply And.intro | fail
     all_goals first | rfl | omega | exact (decide_eq_true (by omega)).symm | exact (decide_eq_false (by omega)).symm | exact decide_eq_decide.mpr (by omega) | (refine Bool.eq_iff_iff.mpr ?_; simp only [beq_iff_eq, bne_iff_ne, ne_eq, decide_eq_true_eq]; omega) | (refine Bool.eq_iff_iff.mpr ?_; simp only [Bool.not_eq_true', Bool.not_eq_false', decide_eq_false_iff_not, decide_eq_true_eq, beq_iff_eq, bne_iff_ne, ne_eq]; omega) | assumption | (simp; done) | (simp [maxLen]; omega) | skip
    simp only [kp, zJ, simprocAttr, List.length_cons, List.length_nil]
    refine zX rfl (fun hb => ?_) (fun hb => ?_)
    ·try simp only [hbx] at hb
     have hf := (Pl.rg_test (s := (Pl.grS l w)) (i := i) (by omega)).2 hb
     have hcb := Pl.rgC_bd (s := (Pl.grS l w)) (i := i) (by omega) ((Pl.rgK (Pl.grS l w) i).length - 1)
     refine yZ [83, 86] (by rw [hC]; rfl) fun k hk => ?_
     simp (maxSteps := 9^9) (disch := (try simp only [lens]); omega) only [zJ, sm, ↓amb, zQ, simprocAttr, el33, sz3, dx]
     repeat refine an ?_
     refine hk _ ?_; clear hk k
     refine h6 _ ?_; clear h6 k6
     refine yZ [83, 86] (by rw [hC]; rfl) fun k hk => ?_
     simp (maxSteps := 9^9) (disch := (try simp only [lens]); omega) only [zJ, sm, ↓amb, zQ, simprocAttr, dx]
     repeat refine an ?_
     refine hk _ ?_; clear hk k
     refine ⟨i + 1, by omega, le_of [(0, _), (1, _)] (by rfl) (by rfl) ⟨⟨_, rfl, .oe⟩, ⟨_, rfl, .oe⟩, ⟨_, rfl, .oe⟩, ⟨_, rfl, .oe⟩, ⟨_, rfl, .own rfl⟩, ⟨_, rfl, .own rfl⟩, ⟨_, rfl, .oe⟩, trivial⟩ ⟨⟨_, rfl, _, rfl, .liftE (by first | (rw [Pl.rgK_0]; rfl) | (rw [Pl.rgK_no (by omega) hf]; done) | (rw [Pl.rgK_yes (by omega) hf, List.map_append]; rfl) | trace_state)⟩, ⟨_, rfl, _, rfl, .liftE (by first | (rw [Pl.rgC_0]; rfl) | (rw [Pl.rgC_no (by omega) hf, List.map_set]; first | done | rfl) | (rw [Pl.rgC_yes (by omega) hf, List.map_append]; rfl) | trace_state)⟩, trivial⟩, by omega⟩
    ·try simp only [hbx] at hb
     have hf : Pl.firB (Pl.grS l w) i = true := by
      cases h : Pl.firB (Pl.grS l w) i
      ·exact absurd ((Pl.rg_test (s := (Pl.grS l w)) (i := i) (by omega)).1 h) hb
      ·rfl
     refine yZ [83, 86] (by rw [hC]; rfl) fun k hk => ?_
     simp (maxSteps := 9^9) (disch := (try simp only [lens]); omega) only [zJ, sm, ↓amb, zQ, simprocAttr, el22, vr41, by41, el33, vr3, by3, dx]
     repeat refine an ?_
     refine hk _ ?_; clear hk k
     refine h6 _ ?_; clear h6 k6
     refine yZ [83, 86] (by rw [hC]; rfl) fun k hk => ?_
     simp (maxSteps := 9^9) (disch := (try simp only [lens]); omega) only [zJ, sm, ↓amb, zQ, simprocAttr, dx]
     repeat refine an ?_
     refine hk _ ?_; clear hk k
     refine ⟨i + 1, by omega, le_of [(0, _), (1, _)] (by rfl) (by rfl) ⟨⟨_, rfl, .oe⟩, ⟨_, rfl, .oe⟩, ⟨_, rfl, .oe⟩, ⟨_, rfl, .oe⟩, ⟨_, rfl, .own rfl⟩, ⟨_, rfl, .own rfl⟩, ⟨_, rfl, .oe⟩, trivial⟩ ⟨⟨_, rfl, _, rfl, .liftE (by first | (rw [Pl.rgK_0]; rfl) | (rw [Pl.rgK_no (by omega) hf]; done) | (rw [Pl.rgK_yes (by omega) hf, List.map_append]; rfl) | trace_state)⟩, ⟨_, rfl, _, rfl, .liftE (by first | (rw [Pl.rgC_0]; rfl) | (rw [Pl.rgC_no (by omega) hf, List.map_set]; first | done | rfl) | (rw [Pl.rgC_yes (by omega) hf, List.map_append]; rfl) | trace_state)⟩, trivial⟩, by omega⟩
   ·try simp only [hbx] at hb
    refine yX ((if_pos rfl).mpr ?_)
    refine h3 _ ?_; clear h5 k5; clear h3 k3
    refine zW (zV [9, 12, 13, 14]) ?_
    simp only [kp, zJ, simprocAttr]
    obtain rfl : i = (Pl.grS l w).length := by omega
    obtain ⟨hk1, hk2⟩ := Pl.rgK_end he0 hsl
    refine zK [83, 86] (by rw [hC]; rfl) fun k hk => ?_
    simp (maxSteps := 9^9) (disch := (try simp only [lens]); omega) only [zJ, sm, ↓amb, zQ, simprocAttr, dx]
    repeat refine an ?_
    refine hk _ ?_; clear hk k
    refine yQ ?_
    rw [hk1, hk2, show Pl.grT l.length w = Pl.raS l.length w.bits w.block w.plan + Pl.whS l.length w.block w.plan from if_pos he0, he0]
    refine ret4 rfl rfl rfl rfl rfl ?_ ?_ ?_ ?_
    ·exact .ownE rfl rfl
    ·exact .ownE rfl rfl
    ·exact .p (LeP.refl _)
    ·exact .p (LeP.refl _)
set_option maxHeartbeats 4000000 in
theorem c_ref11_Once (c d : Bool) (l : List Int) (w : Pl.Way) (hl : ∀ x, x ∈ l → Pl.W32 x) (hn : l.length ≤ 1000000) : PCall Try.prog 50 [words c l, .agg (wayC d w)] (.tup [words false (Pl.grK l w), iV (Pl.grT l.length w), iV (Pl.grE l.length w)]) := by
 refine yV Try.func50 rfl (by simp [Try.ntmps50]) fun C hC => ?_
 refine zW (zV [0, 1]) ?_
 simp only [kp, zJ, simprocAttr]
 refine zK [] (by rw [hC]; rfl) fun k hk => ?_
 simp (maxSteps := 9^9) (disch := (try simp only [lens]); omega) only [zJ, sm, ↓amb, zQ, simprocAttr, dx]
 repeat refine an ?_
 refine hk _ ?_; clear hk k
 refine zW (zV [0, 3]) ?_
 simp only [kp, zJ, simprocAttr]
 refine zK [] (by rw [hC]; rfl) fun k hk => ?_
 simp (maxSteps := 9^9) (disch := (try simp only [lens]); omega) only [zJ, sm, ↓amb, zQ, simprocAttr, sz47, en24, dx]
 repeat refine an ?_
 refine yW (c_ref11_Groups c d l w hl hn) rfl ?_
 simp (maxSteps := 9^9) (disch := (try simp only [lens]); omega) only [zJ, sm, ↓amb, zQ, simprocAttr, sz47, en24, dx]
 repeat refine an ?_
 refine hk _ ?_; clear hk k
 refine zW (zV [7, 9, 10]) ?_
 simp only [kp, zJ, simprocAttr]
 refine zK [] (by rw [hC]; rfl) fun k hk => ?_
 simp (maxSteps := 9^9) (disch := (try simp only [lens]); omega) only [zJ, sm, ↓amb, zQ, simprocAttr, dx]
 repeat refine an ?_
 refine hk _ ?_; clear hk k
 refine yQ ?_
 refine ret3 rfl rfl rfl rfl ?_ ?_ ?_
 ·exact .p (LeP.refl _)
 ·exact .p (LeP.refl _)
 ·exact .p (LeP.refl _)
end Go.Proofs.Ytbehekmnccoifaa
end
section
set_option linter.unusedSimpArgs false
set_option linter.unusedVariables false
set_option maxRecDepth 100000
namespace Go.Proofs.Ytbehekmnccoifaa
open Go.Am Go.Proofs
theorem bt26 : tBuilt Try.prog 26 = true := by kernel_rfl
theorem bt47 : tBuilt Try.prog 47 = true := by kernel_rfl
theorem en18 : enters Try.prog 18 = true := by kernel_rfl
theorem en19 : enters Try.prog 19 = true := by kernel_rfl
theorem en26 : enters Try.prog 26 = true := by kernel_rfl
theorem en28 : enters Try.prog 28 = true := by kernel_rfl
theorem en34 : enters Try.prog 34 = true := by kernel_rfl
theorem pl26_0 : tPlace Try.prog 26 0 = some (0, 1) := by kernel_rfl
theorem pl26_1 : tPlace Try.prog 26 1 = some (1, 1) := by kernel_rfl
theorem pl47_0 : tPlace Try.prog 47 0 = some (0, 1) := by kernel_rfl
theorem pl47_1 : tPlace Try.prog 47 1 = some (1, 1) := by kernel_rfl
theorem pl47_2 : tPlace Try.prog 47 2 = some (2, 3) := by kernel_rfl
theorem vr26 : tVar Try.prog 26 = some (true, [.lit (.int .i64 0), .lit (.int .i64 0), .seq true []]) := by kernel_rfl
theorem vr47 : tVar Try.prog 47 = some (true, [.lit (.int .i64 0), .lit (.int .i64 0), .lit (.int .i64 0), .lit (.int .i64 0), .seq true []]) := by kernel_rfl
set_option maxHeartbeats 4000000 in
theorem c_law11_alive : PCall Try.prog 22 [] (bV true) := by
 refine yV Try.func22 rfl (by simp [Try.ntmps22]) fun C hC => ?_
 refine zW (zV []) ?_
 simp only [kp, zJ, simprocAttr]
 have a1 := c_dedup_Edges true true ([⟨2, 1⟩, ⟨1, 2⟩, ⟨3, 3⟩, ⟨0, 7⟩] : List Pl.Edge) (⟨8, 2, ⟨1, 1, []⟩⟩ : Pl.Way) (by decide)
 rw [if_pos (show (∀ e, e ∈ ([⟨2, 1⟩, ⟨1, 2⟩, ⟨3, 3⟩, ⟨0, 7⟩] : List Pl.Edge) → Pl.fitE e) by decide), if_pos (show (∀ e, e ∈ ([⟨2, 1⟩, ⟨1, 2⟩, ⟨3, 3⟩, ⟨0, 7⟩] : List Pl.Edge) → Pl.fitE e) by decide), if_pos (show (∀ e, e ∈ ([⟨2, 1⟩, ⟨1, 2⟩, ⟨3, 3⟩, ⟨0, 7⟩] : List Pl.Edge) → Pl.fitE e) by decide), show (Pl.grK (Pl.ksE ([⟨2, 1⟩, ⟨1, 2⟩, ⟨3, 3⟩, ⟨0, 7⟩] : List Pl.Edge)) (⟨8, 2, ⟨1, 1, []⟩⟩ : Pl.Way)).map Pl.unkey = ([⟨0, 7⟩, ⟨1, 2⟩] : List Pl.Edge) from by decide +kernel, show Pl.grT (Pl.ksE ([⟨2, 1⟩, ⟨1, 2⟩, ⟨3, 3⟩, ⟨0, 7⟩] : List Pl.Edge)).length (⟨8, 2, ⟨1, 1, []⟩⟩ : Pl.Way) = 35 from by decide +kernel, show Pl.grE (Pl.ksE ([⟨2, 1⟩, ⟨1, 2⟩, ⟨3, 3⟩, ⟨0, 7⟩] : List Pl.Edge)).length (⟨8, 2, ⟨1, 1, []⟩⟩ : Pl.Way) = 0 from by decide +kernel] at a1
 have a2 := c_dedup_Groups true true ([9, 2, 9] : List Int) (⟨8, 2, ⟨1, 1, []⟩⟩ : Pl.Way) (by decide) (by decide)
 rw [show Pl.grK ([9, 2, 9] : List Int) (⟨8, 2, ⟨1, 1, []⟩⟩ : Pl.Way) = ([2, 9] : List Int) from by decide +kernel] at a2
 rw [show Pl.grC ([9, 2, 9] : List Int) (⟨8, 2, ⟨1, 1, []⟩⟩ : Pl.Way) = ([1, 2] : List Int) from by decide +kernel] at a2
 rw [show Pl.grT ([9, 2, 9] : List Int).length (⟨8, 2, ⟨1, 1, []⟩⟩ : Pl.Way) = 35 from by decide +kernel] at a2
 rw [show Pl.grE ([9, 2, 9] : List Int).length (⟨8, 2, ⟨1, 1, []⟩⟩ : Pl.Way) = 0 from by decide +kernel] at a2
 have a3 := c_dedup_Once true true ([9, 2, 9] : List Int) (⟨8, 2, ⟨1, 1, []⟩⟩ : Pl.Way) (by decide) (by decide)
 rw [show Pl.grK ([9, 2, 9] : List Int) (⟨8, 2, ⟨1, 1, []⟩⟩ : Pl.Way) = ([2, 9] : List Int) from by decide +kernel] at a3
 rw [show Pl.grT ([9, 2, 9] : List Int).length (⟨8, 2, ⟨1, 1, []⟩⟩ : Pl.Way) = 35 from by decide +kernel] at a3
 rw [show Pl.grE ([9, 2, 9] : List Int).length (⟨8, 2, ⟨1, 1, []⟩⟩ : Pl.Way) = 0 from by decide +kernel] at a3
 have a4 := c_dedup_Edges true true ([⟨-1, 0⟩] : List Pl.Edge) (⟨8, 2, ⟨1, 1, []⟩⟩ : Pl.Way) (by decide)
 rw [if_neg (show ¬ (∀ e, e ∈ ([⟨-1, 0⟩] : List Pl.Edge) → Pl.fitE e) by decide), if_neg (show ¬ (∀ e, e ∈ ([⟨-1, 0⟩] : List Pl.Edge) → Pl.fitE e) by decide), if_neg (show ¬ (∀ e, e ∈ ([⟨-1, 0⟩] : List Pl.Edge) → Pl.fitE e) by decide)] at a4
 have a5 := c_dedup_Key ⟨5, 3⟩
 rw [show Pl.keyE ⟨5, 3⟩ = 196613 from by decide, decide_eq_true (by decide)] at a5
 have b1 := c_ref11_Same false true ([⟨0, 7⟩, ⟨1, 2⟩] : List Pl.Edge) ([⟨0, 7⟩, ⟨1, 2⟩] : List Pl.Edge) (by decide)
 have b2 := c_ref07_Words false true ([2, 9] : List Int) ([2, 9] : List Int) (by decide)
 have b3 := c23 false true ([1, 2] : List Int) ([1, 2] : List Int) (by decide)
 have b4 := c_ref07_Words false false ([2, 9] : List Int) ([2, 9] : List Int) (by decide)
 have a6 := c_dedup_Edge 196613 (by decide)
 rw [show Pl.unkey 196613 = ⟨3, 5⟩ from by decide] at a6
 have b5 := c_dedup_Without true true ([1, 2, 3] : List Int) ([2] : List Int) (by decide) (by decide)
 rw [show Pl.woL ([1, 2, 3] : List Int) ([2] : List Int) = ([1, 3] : List Int) from by decide] at b5
 have b6 := c_ref07_Words false true ([1, 3] : List Int) ([1, 3] : List Int) (by decide)
 refine zK [] (by rw [hC]; rfl) fun k hk => ?_
 simp (maxSteps := 9^9) (disch := (try simp only [lens]); omega) only [zJ, sm, ↓amb, zQ, simprocAttr, dx]
 repeat refine an ?_
 refine hk _ ?_; clear hk k
 refine zW (zV []) ?_
 simp only [kp, zJ, simprocAttr]
 refine zK [] (by rw [hC]; rfl) fun k hk => ?_
 simp (maxSteps := 9^9) (disch := (try simp only [lens]); omega) only [zJ, sm, ↓amb, zQ, simprocAttr, vr26, bt26, pl26_0, pl26_1, vr47, bt47, pl47_0, pl47_1, pl47_2, sz47, dx]
 repeat refine an ?_
 refine hk _ ?_; clear hk k
 refine zW (zV [1]) ?_
 simp only [kp, zJ, simprocAttr]
 refine zK [] (by rw [hC]; rfl) fun k hk => ?_
 simp (maxSteps := 9^9) (disch := (try simp only [lens]); omega) only [zJ, sm, ↓amb, zQ, simprocAttr, vr59, bt59, pl59_0, pl59_1, el53, sz47, en28, dx]
 repeat refine an ?_
 refine yW (a1) rfl ?_
 simp (maxSteps := 9^9) (disch := (try simp only [lens]); omega) only [zJ, sm, ↓amb, zQ, simprocAttr, vr59, bt59, pl59_0, pl59_1, el53, sz47, en28, dx]
 repeat refine an ?_
 refine hk _ ?_; clear hk k
 refine zW (zV [1, 2, 3, 4]) ?_
 simp only [kp, zJ, simprocAttr]
 refine zK [] (by rw [hC]; rfl) fun k hk => ?_
 simp (maxSteps := 9^9) (disch := (try simp only [lens]); omega) only [zJ, sm, ↓amb, zQ, simprocAttr, el22, vr41, sz47, en23, dx]
 repeat refine an ?_
 refine yW (a2) rfl ?_
 simp (maxSteps := 9^9) (disch := (try simp only [lens]); omega) only [zJ, sm, ↓amb, zQ, simprocAttr, el22, vr41, sz47, en23, dx]
 repeat refine an ?_
 refine hk _ ?_; clear hk k
 refine zW (zV [1, 2, 3, 4, 5, 6, 7, 8]) ?_
 simp only [kp, zJ, simprocAttr]
 refine zK [] (by rw [hC]; rfl) fun k hk => ?_
 simp (maxSteps := 9^9) (disch := (try simp only [lens]); omega) only [zJ, sm, ↓amb, zQ, simprocAttr, el22, vr41, sz47, en25, dx]
 repeat refine an ?_
 refine yW (a3) rfl ?_
 simp (maxSteps := 9^9) (disch := (try simp only [lens]); omega) only [zJ, sm, ↓amb, zQ, simprocAttr, el22, vr41, sz47, en25, dx]
 repeat refine an ?_
 refine hk _ ?_; clear hk k
 refine zW (zV [1, 2, 3, 4, 5, 6, 7, 8, 9, 10, 11]) ?_
 simp only [kp, zJ, simprocAttr]
 refine zK [] (by rw [hC]; rfl) fun k hk => ?_
 simp (maxSteps := 9^9) (disch := (try simp only [lens]); omega) only [zJ, sm, ↓amb, zQ, simprocAttr, vr59, bt59, pl59_0, el53, sz47, en28, dx]
 repeat refine an ?_
 refine yW (a4) rfl ?_
 simp (maxSteps := 9^9) (disch := (try simp only [lens]); omega) only [zJ, sm, ↓amb, zQ, simprocAttr, vr59, bt59, pl59_0, el53, sz47, en28, dx]
 repeat refine an ?_
 refine hk _ ?_; clear hk k
 refine zW (zV [2, 3, 4, 5, 6, 7, 8, 9, 10, 11, 14]) ?_
 simp only [kp, zJ, simprocAttr]
 refine zK [] (by rw [hC]; rfl) fun k hk => ?_
 simp (maxSteps := 9^9) (disch := (try simp only [lens]); omega) only [zJ, sm, ↓amb, zQ, simprocAttr, vr59, bt59, pl59_0, pl59_1, en30, dx]
 repeat refine an ?_
 refine yW (a5) rfl ?_
 simp (maxSteps := 9^9) (disch := (try simp only [lens]); omega) only [zJ, sm, ↓amb, zQ, simprocAttr, vr59, bt59, pl59_0, pl59_1, en30, dx]
 repeat refine an ?_
 refine hk _ ?_; clear hk k
 refine xQ [] 0 (decide (True)) [] (by rw [hC]; rfl) (fun gd hgd k hk => ?_) ?_
 ·have g2 : gd 2 = some 60 := by rw [hgd]; rfl
  have g6 : gd 6 = some 64 := by rw [hgd]; rfl
  have g10 : gd 10 = some 68 := by rw [hgd]; rfl
  have g14 : gd 14 = some 72 := by rw [hgd]; rfl
  have g21 : gd 21 = some 79 := by rw [hgd]; rfl
  have g25 : gd 25 = some 83 := by rw [hgd]; rfl
  have g30 : gd 30 = some 88 := by rw [hgd]; rfl
  have g35 : gd 35 = some 93 := by rw [hgd]; rfl
  have g40 : gd 40 = some 98 := by rw [hgd]; rfl
  have g45 : gd 45 = some 103 := by rw [hgd]; rfl
  have g50 : gd 50 = some 108 := by rw [hgd]; rfl
  have g54 : gd 54 = some 112 := by rw [hgd]; rfl
  have g57 : gd 57 = some 115 := by rw [hgd]; rfl
  have g63 : gd 63 = some 121 := by rw [hgd]; rfl
  clear hgd
  simp (maxSteps := 9^9) (disch := (try simp only [lens]); omega) only [zJ, sm, ↓amb, zQ, simprocAttr, vr59, bt59, pl59_1, pl59_0, el53, en34, el22, vr41, en18, el33, vr3, en19, en32, ff59, en26, zZ, g2, g6, g10, g14, g21, g25, g30, g35, g40, g45, g50, g54, g57, g63, dx]
  repeat' first | refine hk _ _ rfl rfl rfl rfl ?_ | (refine gsplit (fun hg => ?_) (fun hg => ?_) <;> (try simp only [hbx] at hg) <;> simp (maxSteps := 9^9) (disch := (try simp only [lens]); omega) only [zJ, sm, ↓amb, zQ, simprocAttr, vr59, bt59, pl59_1, pl59_0, el53, en34, el22, vr41, en18, el33, vr3, en19, en32, ff59, en26, zZ, g2, g6, g10, g14, g21, g25, g30, g35, g40, g45, g50, g54, g57, g63, dx]) | apply And.intro | (refine yW (b1) rfl ?_; (try simp (maxSteps := 9^9) (disch := (try simp only [lens]); omega) only [zJ, sm, ↓amb, zQ, simprocAttr, vr59, bt59, pl59_1, pl59_0, el53, en34, el22, vr41, en18, el33, vr3, en19, en32, ff59, en26, zZ, g2, g6, g10, g14, g21, g25, g30, g35, g40, g45, g50, g54, g57, g63, dx])) | (refine yW (b2) rfl ?_; (try simp (maxSteps := 9^9) (disch := (try simp only [lens]); omega) only [zJ, sm, ↓amb, zQ, simprocAttr, vr59, bt59, pl59_1, pl59_0, el53, en34, el22, vr41, en18, el33, vr3, en19, en32, ff59, en26, zZ, g2, g6, g10, g14, g21, g25, g30, g35, g40, g45, g50, g54, g57, g63, dx])) | (refine yW (b3) rfl ?_; (try simp (maxSteps := 9^9) (disch := (try simp only [lens]); omega) only [zJ, sm, ↓amb, zQ, simprocAttr, vr59, bt59, pl59_1, pl59_0, el53, en34, el22, vr41, en18, el33, vr3, en19, en32, ff59, en26, zZ, g2, g6, g10, g14, g21, g25, g30, g35, g40, g45, g50, g54, g57, g63, dx])) | (refine yW (b4) rfl ?_; (try simp (maxSteps := 9^9) (disch := (try simp only [lens]); omega) only [zJ, sm, ↓amb, zQ, simprocAttr, vr59, bt59, pl59_1, pl59_0, el53, en34, el22, vr41, en18, el33, vr3, en19, en32, ff59, en26, zZ, g2, g6, g10, g14, g21, g25, g30, g35, g40, g45, g50, g54, g57, g63, dx])) | (refine yW (a6) rfl ?_; (try simp (maxSteps := 9^9) (disch := (try simp only [lens]); omega) only [zJ, sm, ↓amb, zQ, simprocAttr, vr59, bt59, pl59_1, pl59_0, el53, en34, el22, vr41, en18, el33, vr3, en19, en32, ff59, en26, zZ, g2, g6, g10, g14, g21, g25, g30, g35, g40, g45, g50, g54, g57, g63, dx])) | (refine yW (b5) rfl ?_; (try simp (maxSteps := 9^9) (disch := (try simp only [lens]); omega) only [zJ, sm, ↓amb, zQ, simprocAttr, vr59, bt59, pl59_1, pl59_0, el53, en34, el22, vr41, en18, el33, vr3, en19, en32, ff59, en26, zZ, g2, g6, g10, g14, g21, g25, g30, g35, g40, g45, g50, g54, g57, g63, dx])) | (refine yW (b6) rfl ?_; (try simp (maxSteps := 9^9) (disch := (try simp only [lens]); omega) only [zJ, sm, ↓amb, zQ, simprocAttr, vr59, bt59, pl59_1, pl59_0, el53, en34, el22, vr41, en18, el33, vr3, en19, en32, ff59, en26, zZ, g2, g6, g10, g14, g21, g25, g30, g35, g40, g45, g50, g54, g57, g63, dx])) | fail
  all_goals first | rfl | omega | exact (decide_eq_true (by omega)).symm | exact (decide_eq_false (by omega)).symm | exact decide_eq_decide.mpr (by omega) | (refine Bool.eq_iff_iff.mpr ?_; simp only [beq_iff_eq, bne_iff_ne, ne_eq, decide_eq_true_eq]; omega) | (refine Bool.eq_iff_iff.mpr ?_; simp only [Bool.not_eq_true', Bool.not_eq_false', decide_eq_false_iff_not, decide_eq_true_eq, beq_iff_eq, bne_iff_ne, ne_eq]; omega) | assumption | (simp; done) | (simp [maxLen]; omega) | skip
 simp only [kp, zJ, simprocAttr, List.length_cons, List.length_nil]
 refine yQ ?_
 refine ret1 rfl rfl ?_
 exact .p (LeP.refl _)
end Go.Proofs.Ytbehekmnccoifaa
end
section
set_option linter.unusedSimpArgs false
set_option linter.unusedVariables false
set_option maxRecDepth 100000
namespace Go.Proofs.Ytbehekmnccoifaa
open Go.Am Go.Proofs
theorem en31 : enters Try.prog 31 = true := by kernel_rfl
theorem en33 : enters Try.prog 33 = true := by kernel_rfl
theorem en50 : enters Try.prog 50 = true := by kernel_rfl
set_option maxHeartbeats 4000000 in
theorem c_ref11_Edges (c d : Bool) (l : List Pl.Edge) (w : Pl.Way) (hn : l.length ≤ 1000000) : PCall Try.prog 29 [.seq c (l.map edgeC), .agg (wayC d w)] (.tup [if (∀ e, e ∈ l → Pl.fitE e) then (.seq false (((Pl.grK (Pl.ksE l) w).map Pl.unkey).map edgeC)) else .seq false [], iV (if (∀ e, e ∈ l → Pl.fitE e) then Pl.grT (Pl.ksE l).length w else 0), iV (if (∀ e, e ∈ l → Pl.fitE e) then Pl.grE (Pl.ksE l).length w else 10)]) := by
 refine yV Try.func29 rfl (by simp [Try.ntmps29]) fun C hC => ?_
 refine zW (zV [0, 1]) ?_
 simp only [kp, zJ, simprocAttr]
 refine zK [46, 70] (by rw [hC]; rfl) fun k hk => ?_
 simp (maxSteps := 9^9) (disch := (try simp only [lens]); omega) only [zJ, sm, ↓amb, zQ, simprocAttr, dx]
 repeat refine an ?_
 refine hk _ ?_; clear hk k
 refine zW (zV [0, 3]) ?_
 simp only [kp, zJ, simprocAttr]
 refine zK [46, 70] (by rw [hC]; rfl) fun k hk => ?_
 simp (maxSteps := 9^9) (disch := (try simp only [lens]); omega) only [zJ, sm, ↓amb, zQ, simprocAttr, dx]
 repeat refine an ?_
 refine hk _ ?_; clear hk k
 refine zY fun k1 h1 => ?_
 refine zW (zV [0, 3, 4, 5, 6, 7]) ?_
 simp only [kp, zJ, simprocAttr]
 refine awp_own' 7 1 rfl ?_
 refine zK [46, 70] (by rw [hC]; rfl) fun k hk => ?_
 simp (maxSteps := 9^9) (disch := (try simp only [lens]); omega) only [zJ, sm, ↓amb, zQ, simprocAttr, dx]
 repeat refine an ?_
 refine hk _ ?_; clear hk k
 refine yK ?_
 refine yY (σ := Nat) (fun i => i ≤ l.length ∧ ∀ j, j < i → Pl.fitE (l.getD j default)) (fun (i : Nat) => ⟨[(0, (.p (.seq c (l.map edgeC)))), (3, (.ptr 0 5 0 0)), (7, (.own 1)), (8, (.p (iV (i : Int))))], [(0, (.row 5 [[.p (iV w.bits), .p (iV w.block), .p (iV w.plan.grain), .p (iV w.plan.workers), .p (picksV d w.plan.picks)]])), (1, (.row 1 (lift ((Pl.ksE (l.take i)).map fun x => [u32V x]))))], 1⟩) (fun i => l.length - i) 0 ?_ ?_ fun i hi => ?_
 ·exact ⟨Nat.zero_le _, fun j hj => by omega⟩
 ·exact le_of [(0, _), (1, _)] (by rfl) (by rfl) ⟨⟨_, rfl, .oe⟩, ⟨_, rfl, .ptr rfl⟩, ⟨_, rfl, .own rfl⟩, ⟨_, rfl, .oe⟩, trivial⟩ ⟨⟨_, rfl, _, rfl, .one (.cons (.p (.refl _)) (.cons (.p (.refl _)) (.cons (.p (.refl _)) (.cons (.p (.refl _)) (.cons (.p (.refl _)) (.nil))))))⟩, ⟨_, rfl, _, rfl, .liftE (by first | rfl | (rw [Pl.ksE_yes (by omega) (by assumption), List.map_append]; rfl) | (rw [Pl.ksE_no (by omega) (by first | assumption | omega)]) | trace_state)⟩, trivial⟩
 obtain ⟨hi1, hi2⟩ := hi
 refine zY fun k3 h3 => ?_
 refine zW (zV [0, 1, 3, 4, 5, 6, 7, 8]) ?_
 simp only [kp, zJ, simprocAttr]
 refine zK [46, 70] (by rw [hC]; rfl) fun k hk => ?_
 simp (maxSteps := 9^9) (disch := (try simp only [lens]); omega) only [zJ, sm, ↓amb, zQ, simprocAttr, el53, dx]
 repeat refine an ?_
 refine hk _ ?_; clear hk k
 refine zX rfl (fun hb => ?_) (fun hb => ?_)
 ·try simp only [hbx] at hb
  refine yJ ?_
  refine h3 _ ?_; clear h3 k3
  refine zY fun k4 h4 => ?_
  refine yK ?_
  refine zW (zV [0, 1, 3, 4, 5, 6, 7, 8]) ?_
  simp only [kp, zJ, simprocAttr]
  refine zK [46, 70] (by rw [hC]; rfl) fun k hk => ?_
  simp (maxSteps := 9^9) (disch := (try simp only [lens]); omega) only [zJ, sm, ↓amb, zQ, simprocAttr, el53, sz59, en31, dx]
  repeat refine an ?_
  refine yW (c_ref11_Key _) rfl ?_
  simp (maxSteps := 9^9) (disch := (try simp only [lens]); omega) only [zJ, sm, ↓amb, zQ, simprocAttr, el53, sz59, en31, dx]
  repeat refine an ?_
  refine hk _ ?_; clear hk k
  refine zY fun k5 h5 => ?_
  refine zW (zV [0, 1, 3, 4, 5, 6, 7, 8, 9, 10]) ?_
  simp only [kp, zJ, simprocAttr]
  refine zK [46, 70] (by rw [hC]; rfl) fun k hk => ?_
  simp (maxSteps := 9^9) (disch := (try simp only [lens]); omega) only [zJ, sm, ↓amb, zQ, simprocAttr, dx]
  repeat refine an ?_
  refine hk _ ?_; clear hk k
  refine zX rfl (fun hb => ?_) (fun hb => ?_)
  ·try simp only [hbx] at hb
   refine zW (zV []) ?_
   simp only [kp, zJ, simprocAttr]
   refine zK [46, 70] (by rw [hC]; rfl) fun k hk => ?_
   simp (maxSteps := 9^9) (disch := (try simp only [lens]); omega) only [zJ, sm, ↓amb, zQ, simprocAttr, dx]
   repeat refine an ?_
   refine hk _ ?_; clear hk k
   refine yQ ?_
   have ho : ¬ (∀ e, e ∈ l → Pl.fitE e) := fun z => hb (by have := z _ (Pl.getD_mem l i default (by omega)); unfold Pl.fitE at this; omega)
   rw [if_neg ho, if_neg ho, if_neg ho]
   refine ret3 rfl rfl rfl rfl ?_ ?_ ?_
   ·exact .p (LeP.seq _ _)
   ·exact .p (LeP.refl _)
   ·exact .p (LeP.refl _)
  ·try simp only [hbx] at hb
   refine yJ ?_
   refine h5 _ ?_; clear h5 k5
   refine zW (zV [0, 1, 3, 4, 5, 6, 7, 8, 9]) ?_
   simp only [kp, zJ, simprocAttr]
   refine awp_sd [46, 70] ⟨[0, 0, 3, 7, 15, 0, 0, 96, 224, 480, 1023], [4, 9], [], [], some []⟩ (by rw [hC]; rfl) (by kernel_rfl) (by kernel_rfl) fun k hk => ?_
   simp (maxSteps := 9^9) (disch := (try simp only [lens]); omega) only [zJ, sm, ↓amb, zQ, simprocAttr, el53, sz59, fl59_0, sz3, fl59_1, dx]
   repeat refine an ?_
   refine hk _ ?_; clear hk k
   refine zX rfl (fun hb => ?_) (fun hb => ?_)
   ·try simp only [hbx] at hb
    have hkl1 := Pl.ksE_len (l.take i)
    rw [List.length_take] at hkl1
    refine yZ [46, 70] (by rw [hC]; rfl) fun k hk => ?_
    simp (maxSteps := 9^9) (disch := (try simp only [lens]); omega) only [zJ, sm, ↓amb, zQ, simprocAttr, el22, vr41, by41, dx]
    repeat refine an ?_
    refine hk _ ?_; clear hk k
    refine h4 _ ?_; clear h4 k4
    refine yZ [46, 70] (by rw [hC]; rfl) fun k hk => ?_
    simp (maxSteps := 9^9) (disch := (try simp only [lens]); omega) only [zJ, sm, ↓amb, zQ, simprocAttr, dx]
    repeat refine an ?_
    refine hk _ ?_; clear hk k
    refine ⟨i + 1, ⟨by omega, fun j hj => by by_cases e : j = i; (subst e; unfold Pl.fitE; omega); exact hi2 j (by omega)⟩, le_of [(0, _), (1, _)] (by rfl) (by rfl) ⟨⟨_, rfl, .oe⟩, ⟨_, rfl, .ptr rfl⟩, ⟨_, rfl, .own rfl⟩, ⟨_, rfl, .oe⟩, trivial⟩ ⟨⟨_, rfl, _, rfl, .one (.cons (.p (.refl _)) (.cons (.p (.refl _)) (.cons (.p (.refl _)) (.cons (.p (.refl _)) (.cons (.p (.refl _)) (.nil))))))⟩, ⟨_, rfl, _, rfl, .liftE (by first | rfl | (rw [Pl.ksE_yes (by omega) (by assumption), List.map_append]; rfl) | (rw [Pl.ksE_no (by omega) (by first | assumption | omega)]) | trace_state)⟩, trivial⟩, by omega⟩
   ·try simp only [hbx] at hb
    refine yJ ?_
    refine h4 _ ?_; clear h4 k4
    refine yZ [46, 70] (by rw [hC]; rfl) fun k hk => ?_
    simp (maxSteps := 9^9) (disch := (try simp only [lens]); omega) only [zJ, sm, ↓amb, zQ, simprocAttr, dx]
    repeat refine an ?_
    refine hk _ ?_; clear hk k
    refine ⟨i + 1, ⟨by omega, fun j hj => by by_cases e : j = i; (subst e; unfold Pl.fitE; omega); exact hi2 j (by omega)⟩, le_of [(0, _), (1, _)] (by rfl) (by rfl) ⟨⟨_, rfl, .oe⟩, ⟨_, rfl, .ptr rfl⟩, ⟨_, rfl, .own rfl⟩, ⟨_, rfl, .oe⟩, trivial⟩ ⟨⟨_, rfl, _, rfl, .one (.cons (.p (.refl _)) (.cons (.p (.refl _)) (.cons (.p (.refl _)) (.cons (.p (.refl _)) (.cons (.p (.refl _)) (.nil))))))⟩, ⟨_, rfl, _, rfl, .liftE (by first | rfl | (rw [Pl.ksE_yes (by omega) (by assumption), List.map_append]; rfl) | (rw [Pl.ksE_no (by omega) (by first | assumption | omega)]) | trace_state)⟩, trivial⟩, by omega⟩
 ·try simp only [hbx] at hb
  refine yX ((if_pos rfl).mpr ?_)
  refine h1 _ ?_; clear h3 k3; clear h1 k1
  refine zW (zV [3, 7]) ?_
  simp only [kp, zJ, simprocAttr]
  obtain rfl : i = l.length := by omega
  rw [List.take_of_length_le (Nat.le_refl _)]
  have hkl : (Pl.ksE l).length ≤ 1000000 := by have := Pl.ksE_len l; omega
  refine zW (show LE _ (⟨[(3, (.ptr 0 5 0 0)), (7, (.p (words false (Pl.ksE l))))], [(0, (.row 5 [[.p (iV w.bits), .p (iV w.block), .p (iV w.plan.grain), .p (iV w.plan.workers), .p (picksV d w.plan.picks)]]))], 2⟩ : LS) from le_of [(0, _)] (by rfl) (by rfl) ⟨⟨_, rfl, .ptr rfl⟩, ⟨_, rfl, .frz (es := (Pl.ksE l).map fun x => [u32V x]) rfl (by rfl)⟩, trivial⟩ ⟨⟨_, rfl, _, rfl, .one (.cons (.p (.refl _)) (.cons (.p (.refl _)) (.cons (.p (.refl _)) (.cons (.p (.refl _)) (.cons (.p (.refl _)) (.nil))))))⟩, trivial⟩) ?_
  refine zK [46, 70] (by rw [hC]; rfl) fun k hk => ?_
  simp (maxSteps := 9^9) (disch := (try simp only [lens]); omega) only [zJ, sm, ↓amb, zQ, simprocAttr, sz47, en50, dx]
  repeat refine an ?_
  refine yW (c_ref11_Once false d (Pl.ksE l) w (Pl.ksE_w l) hkl) rfl ?_
  simp (maxSteps := 9^9) (disch := (try simp only [lens]); omega) only [zJ, sm, ↓amb, zQ, simprocAttr, sz47, en50, dx]
  repeat refine an ?_
  refine hk _ ?_; clear hk k
  refine zY fun k6 h6 => ?_
  refine zW (zV [4, 5, 6, 11, 12, 13]) ?_
  simp only [kp, zJ, simprocAttr]
  refine zK [46, 70] (by rw [hC]; rfl) fun k hk => ?_
  simp (maxSteps := 9^9) (disch := (try simp only [lens]); omega) only [zJ, sm, ↓amb, zQ, simprocAttr, dx]
  repeat refine an ?_
  refine hk _ ?_; clear hk k
  refine zX rfl (fun hb => ?_) (fun hb => ?_)
  ·try simp only [hbx] at hb
   refine zW (zV [13]) ?_
   simp only [kp, zJ, simprocAttr]
   refine zK [46, 70] (by rw [hC]; rfl) fun k hk => ?_
   simp (maxSteps := 9^9) (disch := (try simp only [lens]); omega) only [zJ, sm, ↓amb, zQ, simprocAttr, dx]
   repeat refine an ?_
   refine hk _ ?_; clear hk k
   refine yQ ?_
   have ho : (∀ e, e ∈ l → Pl.fitE e) := fun e he => by
    obtain ⟨j, hj, rfl⟩ := List.getElem_of_mem he
    have := hi2 j hj
    rwa [List.getD_eq_getElem?_getD, List.getElem?_eq_getElem hj] at this
   rw [if_pos ho, if_pos ho, if_pos ho, show Pl.grK (Pl.ksE l) w = [] from if_neg hb, show Pl.grT (Pl.ksE l).length w = 0 from if_neg hb]
   refine ret3 rfl rfl rfl rfl ?_ ?_ ?_
   ·exact .p (LeP.seq _ _)
   ·exact .p (LeP.refl _)
   ·exact .p (LeP.refl _)
  ·try simp only [hbx] at hb
   refine yJ ?_
   refine h6 _ ?_; clear h6 k6
   refine zW (zV [11, 12]) ?_
   simp only [kp, zJ, simprocAttr]
   have hq := hb
   refine zK [46, 70] (by rw [hC]; rfl) fun k hk => ?_
   simp (maxSteps := 9^9) (disch := (try simp only [lens]); omega) only [zJ, sm, ↓amb, zQ, simprocAttr, dx]
   repeat refine an ?_
   refine hk _ ?_; clear hk k
   refine zY fun k7 h7 => ?_
   refine zW (zV [4, 5, 6, 11, 12, 14]) ?_
   simp only [kp, zJ, simprocAttr]
   refine awp_own' 14 2 rfl ?_
   have hgl := Pl.grK_len (Pl.ksE_w l) w
   refine zK [46, 70] (by rw [hC]; rfl) fun k hk => ?_
   simp (maxSteps := 9^9) (disch := (try simp only [lens]); omega) only [zJ, sm, ↓amb, zQ, simprocAttr, dx]
   repeat refine an ?_
   refine hk _ ?_; clear hk k
   refine yK ?_
   refine yY (σ := Nat) (fun i => i ≤ (Pl.grK (Pl.ksE l) w).length) (fun (i : Nat) => ⟨[(11, (.p (words false (Pl.grK (Pl.ksE l) w)))), (12, (.p (iV (Pl.grT (Pl.ksE l).length w)))), (14, (.own 0)), (15, (.p (iV (i : Int))))], [(0, (.row 2 (lift ((((Pl.grK (Pl.ksE l) w).take i).map Pl.unkey).map edgeC))))], 1⟩) (fun i => (Pl.grK (Pl.ksE l) w).length - i) 0 ?_ ?_ fun i hi => ?_
   ·exact Nat.zero_le _
   ·exact le_of [(0, _)] (by rfl) (by rfl) ⟨⟨_, rfl, .oe⟩, ⟨_, rfl, .oe⟩, ⟨_, rfl, .own rfl⟩, ⟨_, rfl, .oe⟩, trivial⟩ ⟨⟨_, rfl, _, rfl, .liftE (by first | rfl | (rw [Pl.take_snoc' (Pl.grK (Pl.ksE l) w) i (by omega), List.map_append, List.map_append]; rfl) | trace_state)⟩, trivial⟩
   refine zY fun k9 h9 => ?_
   refine zW (zV [0, 4, 5, 6, 11, 12, 14, 15]) ?_
   simp only [kp, zJ, simprocAttr]
   refine zK [46, 70] (by rw [hC]; rfl) fun k hk => ?_
   simp (maxSteps := 9^9) (disch := (try simp only [lens]); omega) only [zJ, sm, ↓amb, zQ, simprocAttr, el22, dx]
   repeat refine an ?_
   refine hk _ ?_; clear hk k
   refine zX rfl (fun hb => ?_) (fun hb => ?_)
   ·try simp only [hbx] at hb
    refine yJ ?_
    refine h9 _ ?_; clear h9 k9
    refine zY fun k10 h10 => ?_
    refine yK ?_
    have hw1 := Pl.grK_w (Pl.ksE_w l) w _ (Pl.getD_mem (Pl.grK (Pl.ksE l) w) i 0 (by omega))
    refine yZ [46, 70] (by rw [hC]; rfl) fun k hk => ?_
    simp (maxSteps := 9^9) (disch := (try simp only [lens]); omega) only [zJ, sm, ↓amb, zQ, simprocAttr, el22, sz41, en33, el53, vr59, by59, dx]
    repeat refine an ?_
    refine yW (c_ref11_Edge _ hw1) rfl ?_
    simp (maxSteps := 9^9) (disch := (try simp only [lens]); omega) only [zJ, sm, ↓amb, zQ, simprocAttr, el22, sz41, en33, el53, vr59, by59, dx]
    repeat refine an ?_
    refine hk _ ?_; clear hk k
    refine h10 _ ?_; clear h10 k10
    refine yZ [46, 70] (by rw [hC]; rfl) fun k hk => ?_
    simp (maxSteps := 9^9) (disch := (try simp only [lens]); omega) only [zJ, sm, ↓amb, zQ, simprocAttr, dx]
    repeat refine an ?_
    refine hk _ ?_; clear hk k
    refine ⟨i + 1, by omega, le_of [(0, _)] (by rfl) (by rfl) ⟨⟨_, rfl, .oe⟩, ⟨_, rfl, .oe⟩, ⟨_, rfl, .own rfl⟩, ⟨_, rfl, .oe⟩, trivial⟩ ⟨⟨_, rfl, _, rfl, .liftE (by first | rfl | (rw [Pl.take_snoc' (Pl.grK (Pl.ksE l) w) i (by omega), List.map_append, List.map_append]; rfl) | trace_state)⟩, trivial⟩, by omega⟩
   ·try simp only [hbx] at hb
    refine yX ((if_pos rfl).mpr ?_)
    refine h7 _ ?_; clear h9 k9; clear h7 k7
    refine zW (zV [12, 14]) ?_
    simp only [kp, zJ, simprocAttr]
    obtain rfl : i = (Pl.grK (Pl.ksE l) w).length := by omega
    rw [List.take_of_length_le (Nat.le_refl _)]
    have he0 := hq
    refine zK [46, 70] (by rw [hC]; rfl) fun k hk => ?_
    simp (maxSteps := 9^9) (disch := (try simp only [lens]); omega) only [zJ, sm, ↓amb, zQ, simprocAttr, dx]
    repeat refine an ?_
    refine hk _ ?_; clear hk k
    refine yQ ?_
    have ho : (∀ e, e ∈ l → Pl.fitE e) := fun e he => by
     obtain ⟨j, hj, rfl⟩ := List.getElem_of_mem he
     have := hi2 j hj
     rwa [List.getD_eq_getElem?_getD, List.getElem?_eq_getElem hj] at this
    rw [if_pos ho, if_pos ho, if_pos ho, he0]
    refine ret3 rfl rfl rfl rfl ?_ ?_ ?_
    ·exact .ownE rfl rfl
    ·exact .p (LeP.refl _)
    ·exact .p (LeP.refl _)
end Go.Proofs.Ytbehekmnccoifaa
end
section
set_option linter.unusedSimpArgs false
set_option linter.unusedVariables false
set_option maxRecDepth 100000
namespace Go.Proofs.Ytbehekmnccoifaa
open Go.Am Go.Proofs
theorem en22 : enters Try.prog 22 = true := by kernel_rfl
theorem en29 : enters Try.prog 29 = true := by kernel_rfl
set_option maxHeartbeats 4000000 in
theorem c_law11_DedupEdges (l : List Pl.Edge) (w : Pl.Way) : PCall Try.prog 8 [.seq false (l.map edgeC), .agg (wayC false w)] (bV true) := by
 refine yV Try.func8 rfl (by simp [Try.ntmps8]) fun C hC => ?_
 refine zW (zV [0, 1]) ?_
 simp only [kp, zJ, simprocAttr]
 refine zK [] (by rw [hC]; rfl) fun k hk => ?_
 simp (maxSteps := 9^9) (disch := (try simp only [lens]); omega) only [zJ, sm, ↓amb, zQ, simprocAttr, dx]
 repeat refine an ?_
 refine hk _ ?_; clear hk k
 refine zY fun k1 h1 => ?_
 refine zW (zV [0, 3, 4]) ?_
 simp only [kp, zJ, simprocAttr]
 refine zK [] (by rw [hC]; rfl) fun k hk => ?_
 simp (maxSteps := 9^9) (disch := (try simp only [lens]); omega) only [zJ, sm, ↓amb, zQ, simprocAttr, en22, dx]
 repeat refine an ?_
 refine yW (c_law11_alive) rfl ?_
 simp (maxSteps := 9^9) (disch := (try simp only [lens]); omega) only [zJ, sm, ↓amb, zQ, simprocAttr, en22, dx]
 repeat refine an ?_
 refine hk _ ?_; clear hk k
 refine zX rfl (fun hb => ?_) (fun hb => ?_)
 ·try simp only [hbx] at hb
  refine zW (zV []) ?_
  simp only [kp, zJ, simprocAttr]
  refine zK [] (by rw [hC]; rfl) fun k hk => ?_
  simp (maxSteps := 9^9) (disch := (try simp only [lens]); omega) only [zJ, sm, ↓amb, zQ, simprocAttr, dx]
  repeat refine an ?_
  refine hk _ ?_; clear hk k
  refine yQ ?_
  exact absurd hb (by simp)
 ·try simp only [hbx] at hb
  refine yJ ?_
  refine h1 _ ?_; clear h1 k1
  refine zY fun k2 h2 => ?_
  refine xQ [] 27 (decide (40 < l.length ∨ 100 < w.plan.picks.length)) [0, 3, 4] (by rw [hC]; rfl) (fun gd hgd k hk => ?_) ?_
  ·have g3 : gd 3 = some 21 := by rw [hgd]; rfl
   clear hgd
   simp (maxSteps := 9^9) (disch := (try simp only [lens]); omega) only [zJ, sm, ↓amb, zQ, simprocAttr, el53, fl47_2, fl26_2, sz24, el24, zZ, g3, dx]
   repeat' first | refine hk _ _ rfl rfl rfl rfl ?_ | (refine gsplit (fun hg => ?_) (fun hg => ?_) <;> (try simp only [hbx] at hg) <;> simp (maxSteps := 9^9) (disch := (try simp only [lens]); omega) only [zJ, sm, ↓amb, zQ, simprocAttr, el53, fl47_2, fl26_2, sz24, el24, zZ, g3, dx]) | apply And.intro | fail
   all_goals first | rfl | omega | exact (decide_eq_true (by omega)).symm | exact (decide_eq_false (by omega)).symm | exact decide_eq_decide.mpr (by omega) | (refine Bool.eq_iff_iff.mpr ?_; simp only [beq_iff_eq, bne_iff_ne, ne_eq, decide_eq_true_eq]; omega) | (refine Bool.eq_iff_iff.mpr ?_; simp only [Bool.not_eq_true', Bool.not_eq_false', decide_eq_false_iff_not, decide_eq_true_eq, beq_iff_eq, bne_iff_ne, ne_eq]; omega) | assumption | (simp; done) | (simp [maxLen]; omega) | skip
  simp only [kp, zJ, simprocAttr, List.length_cons, List.length_nil]
  refine zX rfl (fun hb => ?_) (fun hb => ?_)
  ·try simp only [hbx] at hb
   refine zW (zV []) ?_
   simp only [kp, zJ, simprocAttr]
   refine zK [] (by rw [hC]; rfl) fun k hk => ?_
   simp (maxSteps := 9^9) (disch := (try simp only [lens]); omega) only [zJ, sm, ↓amb, zQ, simprocAttr, dx]
   repeat refine an ?_
   refine hk _ ?_; clear hk k
   refine yQ ?_
   refine ret1 rfl rfl ?_
   exact .p (LeP.refl _)
  ·try simp only [hbx] at hb
   refine yJ ?_
   refine h2 _ ?_; clear h2 k2
   refine zW (zV [0, 3]) ?_
   simp only [kp, zJ, simprocAttr]
   have hq : (if (∀ e, e ∈ l → Pl.fitE e) then ((.seq false (((Pl.grK (Pl.ksE l) w).map Pl.unkey).map edgeC)) : PV) else .seq false []) = (.seq false ((if (∀ e, e ∈ l → Pl.fitE e) then (Pl.grK (Pl.ksE l) w).map Pl.unkey else []).map edgeC) : PV) := by split <;> rfl
   have f1 := c_dedup_Edges false false l w (by omega)
   rw [hq] at f1
   have f2 := c_ref11_Edges false false l w (by omega)
   rw [hq] at f2
   have h1 := Pl.grK_len (Pl.ksE_w l) w
   have h2 := Pl.ksE_len l
   have hO : (if (∀ e, e ∈ l → Pl.fitE e) then (Pl.grK (Pl.ksE l) w).map Pl.unkey else []).length ≤ 1000000 := by
    split
    ·rw [List.length_map]; omega
    ·exact Nat.zero_le _
   refine zK [] (by rw [hC]; rfl) fun k hk => ?_
   simp (maxSteps := 9^9) (disch := (try simp only [lens]); omega) only [zJ, sm, ↓amb, zQ, simprocAttr, sz47, en28, dx]
   repeat refine an ?_
   refine yW (f1) rfl ?_
   simp (maxSteps := 9^9) (disch := (try simp only [lens]); omega) only [zJ, sm, ↓amb, zQ, simprocAttr, sz47, en28, dx]
   repeat refine an ?_
   refine hk _ ?_; clear hk k
   refine zW (zV [0, 3, 5, 6, 7]) ?_
   simp only [kp, zJ, simprocAttr]
   refine zK [] (by rw [hC]; rfl) fun k hk => ?_
   simp (maxSteps := 9^9) (disch := (try simp only [lens]); omega) only [zJ, sm, ↓amb, zQ, simprocAttr, sz47, en29, dx]
   repeat refine an ?_
   refine yW (f2) rfl ?_
   simp (maxSteps := 9^9) (disch := (try simp only [lens]); omega) only [zJ, sm, ↓amb, zQ, simprocAttr, sz47, en29, dx]
   repeat refine an ?_
   refine hk _ ?_; clear hk k
   refine zY fun k3 h3 => ?_
   refine zW (zV [0, 4, 5, 6, 7, 8, 9, 10]) ?_
   simp only [kp, zJ, simprocAttr]
   refine zK [] (by rw [hC]; rfl) fun k hk => ?_
   simp (maxSteps := 9^9) (disch := (try simp only [lens]); omega) only [zJ, sm, ↓amb, zQ, simprocAttr, dx]
   repeat refine an ?_
   refine hk _ ?_; clear hk k
   refine yK ?_
   refine yY (σ := Nat) (fun i => i ≤ l.length) (fun (i : Nat) => ⟨[(0, (.p (.seq false (l.map edgeC)))), (5, (.p (.seq false ((if (∀ e, e ∈ l → Pl.fitE e) then (Pl.grK (Pl.ksE l) w).map Pl.unkey else []).map edgeC)))), (6, (.p (iV (if (∀ e, e ∈ l → Pl.fitE e) then Pl.grT (Pl.ksE l).length w else 0)))), (7, (.p (iV (if (∀ e, e ∈ l → Pl.fitE e) then Pl.grE (Pl.ksE l).length w else 10)))), (8, (.p (.seq false ((if (∀ e, e ∈ l → Pl.fitE e) then (Pl.grK (Pl.ksE l) w).map Pl.unkey else []).map edgeC)))), (9, (.p (iV (if (∀ e, e ∈ l → Pl.fitE e) then Pl.grT (Pl.ksE l).length w else 0)))), (10, (.p (iV (if (∀ e, e ∈ l → Pl.fitE e) then Pl.grE (Pl.ksE l).length w else 10)))), (11, (.p (iV (i : Int))))], [], 1⟩) (fun i => l.length - i) 0 ?_ ?_ fun i hi => ?_
   ·exact Nat.zero_le _
   ·exact le_of [] (by rfl) (by rfl) ⟨⟨_, rfl, .oe⟩, ⟨_, rfl, .oe⟩, ⟨_, rfl, .oe⟩, ⟨_, rfl, .oe⟩, ⟨_, rfl, .oe⟩, ⟨_, rfl, .oe⟩, ⟨_, rfl, .oe⟩, ⟨_, rfl, .oe⟩, trivial⟩ trivial
   refine zY fun k5 h5 => ?_
   refine zW (zV [0, 4, 5, 6, 7, 8, 9, 10, 11]) ?_
   simp only [kp, zJ, simprocAttr]
   refine zK [] (by rw [hC]; rfl) fun k hk => ?_
   simp (maxSteps := 9^9) (disch := (try simp only [lens]); omega) only [zJ, sm, ↓amb, zQ, simprocAttr, el53, dx]
   repeat refine an ?_
   refine hk _ ?_; clear hk k
   refine zX rfl (fun hb => ?_) (fun hb => ?_)
   ·try simp only [hbx] at hb
    refine yJ ?_
    refine h5 _ ?_; clear h5 k5
    refine zY fun k6 h6 => ?_
    refine yK ?_
    refine zW (zV [0, 4, 5, 6, 7, 8, 9, 10, 11]) ?_
    simp only [kp, zJ, simprocAttr]
    refine zK [] (by rw [hC]; rfl) fun k hk => ?_
    simp (maxSteps := 9^9) (disch := (try simp only [lens]); omega) only [zJ, sm, ↓amb, zQ, simprocAttr, el53, sz59, en30, dx]
    repeat refine an ?_
    refine yW (c_dedup_Key _) rfl ?_
    simp (maxSteps := 9^9) (disch := (try simp only [lens]); omega) only [zJ, sm, ↓amb, zQ, simprocAttr, el53, sz59, en30, dx]
    repeat refine an ?_
    refine hk _ ?_; clear hk k
    refine zW (zV [0, 4, 5, 6, 7, 8, 9, 10, 11, 12, 13]) ?_
    simp only [kp, zJ, simprocAttr]
    refine zK [] (by rw [hC]; rfl) fun k hk => ?_
    simp (maxSteps := 9^9) (disch := (try simp only [lens]); omega) only [zJ, sm, ↓amb, zQ, simprocAttr, el53, sz59, en31, dx]
    repeat refine an ?_
    refine yW (c_ref11_Key _) rfl ?_
    simp (maxSteps := 9^9) (disch := (try simp only [lens]); omega) only [zJ, sm, ↓amb, zQ, simprocAttr, el53, sz59, en31, dx]
    repeat refine an ?_
    refine hk _ ?_; clear hk k
    refine xQ [] 78 (decide (False)) [0, 4, 5, 6, 7, 8, 9, 10, 11] (by rw [hC]; rfl) (fun gd hgd k hk => ?_) ?_
    ·have g3 : gd 3 = some 67 := by rw [hgd]; rfl
     have g8 : gd 8 = some 72 := by rw [hgd]; rfl
     clear hgd
     simp (maxSteps := 9^9) (disch := (try simp only [lens]); omega) only [zJ, sm, ↓amb, zQ, simprocAttr, en32, en33, ff59, zZ, g3, g8, dx]
     repeat' first | refine hk _ _ rfl rfl rfl rfl ?_ | (refine gsplit (fun hg => ?_) (fun hg => ?_) <;> (try simp only [hbx] at hg) <;> simp (maxSteps := 9^9) (disch := (try simp only [lens]); omega) only [zJ, sm, ↓amb, zQ, simprocAttr, en32, en33, ff59, zZ, g3, g8, dx]) | apply And.intro | (refine yW (c_dedup_Edge _ (Pl.keyE_w _)) rfl ?_; (try simp (maxSteps := 9^9) (disch := (try simp only [lens]); omega) only [zJ, sm, ↓amb, zQ, simprocAttr, en32, en33, ff59, zZ, g3, g8, dx])) | (refine yW (c_ref11_Edge _ (Pl.keyE_w _)) rfl ?_; (try simp (maxSteps := 9^9) (disch := (try simp only [lens]); omega) only [zJ, sm, ↓amb, zQ, simprocAttr, en32, en33, ff59, zZ, g3, g8, dx])) | fail
     all_goals first | rfl | omega | exact (decide_eq_true (by omega)).symm | exact (decide_eq_false (by omega)).symm | exact decide_eq_decide.mpr (by omega) | (refine Bool.eq_iff_iff.mpr ?_; simp only [beq_iff_eq, bne_iff_ne, ne_eq, decide_eq_true_eq]; omega) | (refine Bool.eq_iff_iff.mpr ?_; simp only [Bool.not_eq_true', Bool.not_eq_false', decide_eq_false_iff_not, decide_eq_true_eq, beq_iff_eq, bne_iff_ne, ne_eq]; omega) | assumption | (simp; done) | (simp [maxLen]; omega) | skip
     all_goals first | (exfalso; omega) | rfl | (exfalso; exact absurd rfl (by assumption)) | (simp; done) | (simp_all; done) | trace_state
    simp only [kp, zJ, simprocAttr, List.length_cons, List.length_nil]
    refine zX rfl (fun hb => ?_) (fun hb => ?_)
    ·exact absurd hb (by simp)
    ·try simp only [hbx] at hb
     refine yJ ?_
     refine h6 _ ?_; clear h6 k6
     refine yZ [] (by rw [hC]; rfl) fun k hk => ?_
     simp (maxSteps := 9^9) (disch := (try simp only [lens]); omega) only [zJ, sm, ↓amb, zQ, simprocAttr, dx]
     repeat refine an ?_
     refine hk _ ?_; clear hk k
     refine ⟨i + 1, by omega, le_of [] (by rfl) (by rfl) ⟨⟨_, rfl, .oe⟩, ⟨_, rfl, .oe⟩, ⟨_, rfl, .oe⟩, ⟨_, rfl, .oe⟩, ⟨_, rfl, .oe⟩, ⟨_, rfl, .oe⟩, ⟨_, rfl, .oe⟩, ⟨_, rfl, .oe⟩, trivial⟩ trivial, by omega⟩
   ·try simp only [hbx] at hb
    refine yX ((if_pos rfl).mpr ?_)
    refine h3 _ ?_; clear h5 k5; clear h3 k3
    refine xQ [] 4 (decide (True)) [] (by rw [hC]; rfl) (fun gd hgd k hk => ?_) ?_
    ·have g3 : gd 3 = some 82 := by rw [hgd]; rfl
     have g8 : gd 8 = some 87 := by rw [hgd]; rfl
     clear hgd
     simp (maxSteps := 9^9) (disch := (try simp only [lens]); omega) only [zJ, sm, ↓amb, zQ, simprocAttr, en34, zZ, g3, g8, dx]
     repeat' first | refine hk _ _ rfl rfl rfl rfl ?_ | (refine gsplit (fun hg => ?_) (fun hg => ?_) <;> (try simp only [hbx] at hg) <;> simp (maxSteps := 9^9) (disch := (try simp only [lens]); omega) only [zJ, sm, ↓amb, zQ, simprocAttr, en34, zZ, g3, g8, dx]) | apply And.intro | (refine yW (c_ref11_Same false false (if (∀ e, e ∈ l → Pl.fitE e) then (Pl.grK (Pl.ksE l) w).map Pl.unkey else []) (if (∀ e, e ∈ l → Pl.fitE e) then (Pl.grK (Pl.ksE l) w).map Pl.unkey else []) hO) rfl ?_; (try simp (maxSteps := 9^9) (disch := (try simp only [lens]); omega) only [zJ, sm, ↓amb, zQ, simprocAttr, en34, zZ, g3, g8, dx])) | fail
     all_goals first | rfl | omega | exact (decide_eq_true (by omega)).symm | exact (decide_eq_false (by omega)).symm | exact decide_eq_decide.mpr (by omega) | (refine Bool.eq_iff_iff.mpr ?_; simp only [beq_iff_eq, bne_iff_ne, ne_eq, decide_eq_true_eq]; omega) | (refine Bool.eq_iff_iff.mpr ?_; simp only [Bool.not_eq_true', Bool.not_eq_false', decide_eq_false_iff_not, decide_eq_true_eq, beq_iff_eq, bne_iff_ne, ne_eq]; omega) | assumption | (simp; done) | (simp [maxLen]; omega) | skip
     all_goals first | (exfalso; omega) | rfl | (exfalso; exact absurd rfl (by assumption)) | (simp; done) | (simp_all; done) | trace_state
    simp only [kp, zJ, simprocAttr, List.length_cons, List.length_nil]
    refine yQ ?_
    refine ret1 rfl rfl ?_
    exact .p (LeP.refl _)
end Go.Proofs.Ytbehekmnccoifaa
end
section
namespace Go.Proofs.Ytbehekmnccoifaa
open Go.Am Go.Proofs
theorem Try.own : ownKnob Try.prog.godebug = none := by kernel_rfl
theorem Try.laidOut : laidOutB Try.prog = true := by kernel_rfl
abbrev W64 (n : Int) : Prop := (Lit.int .i64 n).wf = true
theorem op_int : Opens Try.prog 3 Int (fun n => (Lit.int .i64 n).wf = true) (fun n => [.lit (.int .i64 n)]) := opens_int Try.underlying3
theorem op_pair : Opens Try.prog 115 (Int × Int) (fun p => W64 p.1 ∧ W64 p.2) (fun p => [iV p.1, iV p.2]) := (opens_agg (ts := [3, 3]) (by kernel_rfl) (.cons op_int (.cons op_int .nil))).map (fun p => (p.1, p.2.1)) (fun _ h => ⟨⟨h.1, h.2.1⟩, rfl⟩)
theorem op_picks : Opens Try.prog 24 (List (Int × Int)) (fun l => l.length ≤ maxLen ∧ ∀ p, p ∈ l → W64 p.1 ∧ W64 p.2) (fun l => [picksV false l]) := opens_slice Try.underlying24 (of_decide_eq_true (by kernel_rfl)) op_pair
theorem op_plan : Opens Try.prog 26 Pl.Plan (fun p => W64 p.grain ∧ W64 p.workers ∧ p.picks.length ≤ maxLen ∧ ∀ q, q ∈ p.picks → W64 q.1 ∧ W64 q.2) (planC false) := (opens_agg (ts := [3, 3, 24]) (by kernel_rfl) (.cons op_int (.cons op_int (.cons op_picks .nil)))).map (fun p => ⟨p.1, p.2.1, p.2.2.1⟩) (fun _ h => ⟨⟨h.1, h.2.1, h.2.2.1.1, h.2.2.1.2⟩, rfl⟩)
theorem op_edge : Opens Try.prog 59 Pl.Edge (fun e => W64 e.u ∧ W64 e.v) (edgeC) := (opens_agg (ts := [3, 3]) (by kernel_rfl) (.cons op_int (.cons op_int .nil))).map (fun p => ⟨p.1, p.2.1⟩) (fun _ h => ⟨⟨h.1, h.2.1⟩, rfl⟩)
theorem op_edges : Opens Try.prog 53 (List Pl.Edge) (fun l => l.length ≤ maxLen ∧ ∀ e, e ∈ l → W64 e.u ∧ W64 e.v) (fun l => [.seq false (l.map edgeC)]) := opens_slice Try.underlying53 (of_decide_eq_true (by kernel_rfl)) op_edge
theorem op_way : Opens Try.prog 47 Pl.Way (fun w => W64 w.bits ∧ W64 w.block ∧ W64 w.plan.grain ∧ W64 w.plan.workers ∧ w.plan.picks.length ≤ maxLen ∧ ∀ q, q ∈ w.plan.picks → W64 q.1 ∧ W64 q.2) (wayC false) := (opens_agg (ts := [3, 3, 26]) (by kernel_rfl) (.cons op_int (.cons op_int (.cons op_plan .nil)))).map (fun p => ⟨p.1, p.2.1, p.2.2.1⟩) (fun _ h => ⟨⟨h.1, h.2.1, h.2.2.1.1, h.2.2.1.2.1, h.2.2.1.2.2.1, h.2.2.1.2.2.2⟩, rfl⟩)
end Go.Proofs.Ytbehekmnccoifaa
end
section
namespace Go.Proofs.Ytbehekmnccoifaa
open Go.ChangeShapes Go.WideShapes Go.ChangeAt Go.RowKit Go.Am
set_option maxRecDepth 100000 in
theorem dedupEdges_lifted (os : Os) (started : os.Started) (H : Type) (enc : TypeId × Value → H) :
    ReturnsInHanded {} Try.checked os 8 .any (Rows.dedupEdgesSpec.pre6 enc Try.prog Try.f8 Rows.dedupEdgesRow.domain false) (Rows.dedupEdgesSpec.post enc Try.prog Try.f8 false true false false) := by
  refine returnsInHanded_of_change (C := Try.checked) Try.own started (by kernel_rfl) Try.func8
    (ChangeSpec.witness6 (enc := enc) (C := Try.checked) false ⟨#[], #[.slice none 0 0, .agg #[.int .i64 0, .int .i64 0, .int .i64 0, .int .i64 0, .slice none 0 0]], []⟩ 20 (by kernel_rfl) (by kernel_rfl) (by kernel_rfl) (by kernel_rfl)) ?_
  intro W base args ds gs before hval0 hW hcnd _
  have hval : ∀ (j : Nat) t v, Try.f8.params[j]? = some t → args[j]? = some v → Value.okWide Try.prog W .any base t v := hval0
  have hW' := hW
  have hlt := hW.lt
  obtain ⟨p, q, hA0, hV, rfl, hfz, hnd⟩ := hW
  have hA : DataW.TrodAll enc Try.prog W 0 (fun _ => true) true Try.f8.params.toList args.toList ds p := hA0
  rw [Try.params8] at hA hval
  obtain ⟨v0, v1, d0, d1, p0, p1, rfl, rfl, rfl, h0, h1⟩ := trodAll_two hA
  obtain ⟨rfl, rfl⟩ := trodVars_none hV
  obtain ⟨a0, k0, r0⟩ := arg_one op_edges (okWide_one_s Try.underlying53 (hval 0 53 _ rfl rfl)) h0
  obtain ⟨cs1, rfl⟩ := okWide_agg (by kernel_rfl) (hval 1 47 _ rfl rfl)
  obtain ⟨a1, k1, r1⟩ := arg_agg op_way h1
  clear hA0 hval0
  simp only [List.append_nil] at hW' hlt
  refine (law_calls (c_law11_DedupEdges a0 a1) rfl ?_).mono fun e W' ⟨he, hB⟩ => ?_
  · intro i x hx
    match i, hx with
    | 0, hx => simp only [List.getElem?_cons_zero, Option.some.injEq] at hx; subst hx; exact r0
    | 1, hx => simp only [List.getElem?_cons_succ, List.getElem?_cons_zero, Option.some.injEq] at hx; subst hx; exact r1
    | i + 2, hx => simp at hx
  subst he
  exact ⟨_, rfl, law_post (pv := []) hW' (fun _ _ _ => trodAll_mk1 (shut_bool Try.underlying4 _))
    (fun sp hs => trodAll_mk2 (WideElems.Trod_stays Try.laidOut (by kernel_rfl) (of_decide_eq_true (by kernel_rfl)) h0 (fun x hx => hB.same (hlt x (by simp [hx]))) (fun x hx => hs x (by simp [hx]))) (WideElems.Trod_stays Try.laidOut (by kernel_rfl) (of_decide_eq_true (by kernel_rfl)) h1 (fun x hx => hB.same (hlt x (by simp [hx]))) (fun x hx => hs x (by simp [hx]))))
    (fun _ _ => rfl) (by simp) hB (ok_one (by kernel_rfl) rfl (okWide_bool_mk Try.underlying4 _))⟩
theorem dedupEdges_holds : Rows.DedupEdgesSaid :=
  OpenClaim.holds_of_wide 8 Try.f8 rfl rfl rfl rfl rfl rfl rfl ⟨rfl, rfl, rfl, rfl, rfl⟩ rfl rfl rfl rfl rfl (by kernel_rfl) Try.func8 (by kernel_rfl)
    (of_decide_eq_true (by kernel_rfl)) (by unfold Func.isWrapper; first | (rw [if_pos (by decide +kernel)]; kernel_rfl) | (rw [if_neg (by decide +kernel)]; exact ⟨rfl, rfl⟩))
    (fun os started H enc _ => dedupEdges_lifted os started H enc)
#print axioms dedupEdges_holds
end Go.Proofs.Ytbehekmnccoifaa
end
