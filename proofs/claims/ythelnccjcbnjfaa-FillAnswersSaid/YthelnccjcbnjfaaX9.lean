/-
  To the end, whoever works: rounds.
-/
import Derived.Test.YthelnccjcbnjfaaX8
set_option linter.unusedSimpArgs false
set_option linter.unusedVariables false
set_option maxRecDepth 100000
namespace Go.Proofs.Ythelnccjcbnjfaa
open Go.Am Go.Proofs
theorem en76 : enters Try.prog 76 = true := by kernel_rfl
theorem en86 : enters Try.prog 86 = true := by kernel_rfl
set_option maxHeartbeats 4000000 in
theorem c_drain_go1_rounds (n g : Int) (c : Pl.Crew) (ev : List Pl.Event) (hR : Pl.Run n g c ev) (hM : Pl.most n g 0 c ev ≤ 16010) (he : ev.length ≤ 70000) : HCall Try.prog 77 [.ptr 7 8 0 0] [(7, (.row 8 [[.p (.seq false (c.work.ts.map taskC)), .p (iV c.work.grain), .p (.seq false (c.work.done.map fun b => [bV b])), .p (.seq false (c.dq.map lV)), .p (bV c.over), .p (iV c.steps), .p (iV c.idle), .own 15]])), (15, (.row 4 (lift (ev.map evC))))] (.p (iV 0)) [(7, (.row 8 [[.p (.seq false ((Pl.rounds 20000 0 c ev).1.work.ts.map taskC)), .p (iV (Pl.rounds 20000 0 c ev).1.work.grain), .p (.seq false ((Pl.rounds 20000 0 c ev).1.work.done.map fun b => [bV b])), .p (.seq false ((Pl.rounds 20000 0 c ev).1.dq.map lV)), .p (bV (Pl.rounds 20000 0 c ev).1.over), .p (iV (Pl.rounds 20000 0 c ev).1.steps), .p (iV (Pl.rounds 20000 0 c ev).1.idle), .p (.seq false ((Pl.rounds 20000 0 c ev).2.1.map evC))]]))] := by
 refine hcall_of_awp Try.func77 rfl (by simp [Try.ntmps77]) fun C hC => ?_
 refine awp_le (le_keep [0]) ?_
 simp only [kp, argSl, simprocAttr]
 refine awp_sr [] (by rw [hC]; rfl) fun k hk => ?_
 simp (maxSteps := 9^9) (disch := (try simp only [lens]); omega) only [argSl, sm, ↓amb, mark_eq, simprocAttr, dx]
 repeat refine ⟨by first | omega | (simp; done) | (unfold maxLen; omega) | (simp [maxLen]; omega) | assumption, ?_⟩
 refine hk _ ?_; clear hk k
 refine awp_le (le_keep [0]) ?_
 simp only [kp, argSl, simprocAttr]
 refine awp_sr [] (by rw [hC]; rfl) fun k hk => ?_
 simp (maxSteps := 9^9) (disch := (try simp only [lens]); omega) only [argSl, sm, ↓amb, mark_eq, simprocAttr, dx]
 repeat refine ⟨by first | omega | (simp; done) | (unfold maxLen; omega) | (simp [maxLen]; omega) | assumption, ?_⟩
 refine hk _ ?_; clear hk k
 refine awp_block ?_
 refine awp_loop (σ := Nat × Pl.Crew × List Pl.Event) (fun x => Pl.Run n g x.2.1 x.2.2 ∧ x.2.1.dq.length = c.dq.length ∧ Pl.rounds (20000 - (x.1 * c.dq.length)) (x.1 * c.dq.length) x.2.1 x.2.2 = (Pl.rounds 20000 0 c ev) ∧ Pl.most n g (x.1 * c.dq.length) x.2.1 x.2.2 + (((x.1 * c.dq.length) : Nat) : Int) ≤ 16010 ∧ x.2.2.length = ev.length + (x.1 * c.dq.length)) (fun x => ⟨[(0, (.ptr 7 8 0 0)), (3, (.p (iV (x.1 : Int))))], [(7, (.row 8 [[.p (.seq false (x.2.1.work.ts.map taskC)), .p (iV x.2.1.work.grain), .p (.seq false (x.2.1.work.done.map fun b => [bV b])), .p (.seq false (x.2.1.dq.map lV)), .p (bV x.2.1.over), .p (iV x.2.1.steps), .p (iV x.2.1.idle), .own 0]])), (0, (.row 4 (lift (x.2.2.map evC))))], 1⟩) (fun x => 16011 - x.1 * c.dq.length) (0, c, ev) ?_ ?_ fun x hx => ?_
 ·dsimp only; rw [Nat.zero_mul]; exact ⟨hR, rfl, rfl, by omega, by omega⟩
 ·exact le_of2 [(0, _)] (by rfl) (by rfl) ⟨⟨_, rfl, .ptr rfl⟩, ⟨_, rfl, .p (.of_eq (by first | rfl | (simp only [PV.lit.injEq, Value.int.injEq, true_and]; omega) | (simp; done) | (simp; omega)))⟩, trivial⟩ ⟨⟨_, rfl, _, rfl, .one (.cons (.p (.refl _)) (.cons (.p (.refl _)) (.cons (.p (.refl _)) (.cons (.p (.refl _)) (.cons (.p (.refl _)) (.cons (.p (.refl _)) (.cons (.p (.refl _)) (.cons (.own rfl) (.nil)))))))))⟩, ⟨_, rfl, _, rfl, .liftE rfl⟩, trivial⟩
 obtain ⟨r, c1, e1⟩ := x
 obtain ⟨hR1, hRw, hRr, hRm, hRe⟩ := hx
 dsimp only at hR1 hRw hRr hRm hRe
 refine awp_seq fun k2 h2 => ?_
 refine awp_block ?_
 refine awp_le (le_keep [0, 2, 3, 7]) ?_
 simp only [kp, argSl, simprocAttr]
 refine awp_sr [] (by rw [hC]; rfl) fun k hk => ?_
 simp (maxSteps := 9^9) (disch := (try simp only [lens]); omega) only [argSl, sm, ↓amb, mark_eq, simprocAttr, fl108_0, fl81_1, sz79, el79, dx]
 repeat refine ⟨by first | omega | (simp; done) | (unfold maxLen; omega) | (simp [maxLen]; omega) | assumption, ?_⟩
 refine hk _ ?_; clear hk k
 refine awp_block ?_
 refine awp_loop (σ := Nat × Pl.Crew × List Pl.Event) (fun x => x.1 ≤ c.dq.length ∧ Pl.Run n g x.2.1 x.2.2 ∧ x.2.1.dq.length = c.dq.length ∧ Pl.rounds (20000 - (r * c.dq.length + x.1)) (r * c.dq.length + x.1) x.2.1 x.2.2 = (Pl.rounds 20000 0 c ev) ∧ Pl.most n g (r * c.dq.length + x.1) x.2.1 x.2.2 + (((r * c.dq.length + x.1) : Nat) : Int) ≤ 16010 ∧ x.2.2.length = ev.length + (r * c.dq.length + x.1)) (fun x => ⟨[(0, (.ptr 7 8 0 0)), (3, (.p (iV (r : Int)))), (13, (.p (iV (c.dq.length : Int)))), (14, (.p (iV (x.1 : Int))))], [(7, (.row 8 [[.p (.seq false (x.2.1.work.ts.map taskC)), .p (iV x.2.1.work.grain), .p (.seq false (x.2.1.work.done.map fun b => [bV b])), .p (.seq false (x.2.1.dq.map lV)), .p (bV x.2.1.over), .p (iV x.2.1.steps), .p (iV x.2.1.idle), .own 0]])), (0, (.row 4 (lift (x.2.2.map evC))))], 1⟩) (fun x => c.dq.length - x.1) (0, c1, e1) ?_ ?_ fun x hx => ?_
 ·dsimp only; rw [Nat.add_zero]; exact ⟨Nat.zero_le _, hR1, hRw, hRr, hRm, hRe⟩
 ·exact le_of [(0, _)] (by rfl) (by rfl) ⟨⟨_, rfl, .ptr rfl⟩, ⟨_, rfl, .p (.of_eq (by first | rfl | (simp only [PV.lit.injEq, Value.int.injEq, true_and]; omega) | (simp; done) | (simp; omega)))⟩, ⟨_, rfl, .p (.of_eq (by first | rfl | rw [hRw]))⟩, ⟨_, rfl, .p (.of_eq (by first | rfl | (simp only [PV.lit.injEq, Value.int.injEq, true_and]; omega) | (simp; done) | (simp; omega)))⟩, trivial⟩ ⟨⟨_, rfl, _, rfl, .one (.cons (.p (.refl _)) (.cons (.p (.refl _)) (.cons (.p (.refl _)) (.cons (.p (.refl _)) (.cons (.p (.refl _)) (.cons (.p (.refl _)) (.cons (.p (.refl _)) (.cons (.own rfl) (.nil)))))))))⟩, ⟨_, rfl, _, rfl, .liftE rfl⟩, trivial⟩
 obtain ⟨p, c2, e2⟩ := x
 obtain ⟨hp1, hR2, hR3, hR4, hR5, hR6⟩ := hx
 dsimp only at hp1 hR2 hR3 hR4 hR5 hR6
 have hdl := hR1.dqlen
 have hm0 := hR1.most_0 (k := r * c.dq.length) (r := r) (by rw [hRw])
 have hrr : r ≤ r * c.dq.length := Nat.le_mul_of_pos_right r (by omega)
 refine awp_le (le_keep [0, 2, 3, 7, 13, 14]) ?_
 simp only [kp, argSl, simprocAttr]
 refine awp_sr [] (by rw [hC]; rfl) fun k hk => ?_
 simp (maxSteps := 9^9) (disch := (try simp only [lens]); omega) only [argSl, sm, ↓amb, mark_eq, simprocAttr, dx]
 repeat refine ⟨by first | omega | (simp; done) | (unfold maxLen; omega) | (simp [maxLen]; omega) | assumption, ?_⟩
 refine hk _ ?_; clear hk k
 refine awp_seq fun k4 h4 => ?_
 refine awp_cond rfl (fun hb => ?_) (fun hb => ?_)
 ·try simp only [hbx] at hb
  refine awp_skip ?_
  refine h4 _ ?_; clear h4 k4
  refine awp_seq fun k5 h5 => ?_
  refine awp_block ?_
  refine awp_le (le_keep [0, 2, 3, 7, 13, 14]) ?_
  simp only [kp, argSl, simprocAttr]
  refine awp_sr [] (by rw [hC]; rfl) fun k hk => ?_
  simp (maxSteps := 9^9) (disch := (try simp only [lens]); omega) only [argSl, sm, ↓amb, mark_eq, simprocAttr, dx]
  repeat refine ⟨by first | omega | (simp; done) | (unfold maxLen; omega) | (simp [maxLen]; omega) | assumption, ?_⟩
  refine hk _ ?_; clear hk k
  refine awp_seq fun k6 h6 => ?_
  refine awp_block ?_
  refine awp_le (le_keep [0, 2, 3, 4, 7, 13, 14]) ?_
  simp only [kp, argSl, simprocAttr]
  refine awp_sr [] (by rw [hC]; rfl) fun k hk => ?_
  simp (maxSteps := 9^9) (disch := (try simp only [lens]); omega) only [argSl, sm, ↓amb, mark_eq, simprocAttr, fl108_0, fl81_2, sz4, dx]
  repeat refine ⟨by first | omega | (simp; done) | (unfold maxLen; omega) | (simp [maxLen]; omega) | assumption, ?_⟩
  refine hk _ ?_; clear hk k
  refine awp_cond rfl (fun hb => ?_) (fun hb => ?_)
  ·try simp only [hbx] at hb
   refine awp_le (le_keep []) ?_
   simp only [kp, argSl, simprocAttr]
   have ho := hb
   refine awp_sr [] (by rw [hC]; rfl) fun k hk => ?_
   simp (maxSteps := 9^9) (disch := (try simp only [lens]); omega) only [argSl, sm, ↓amb, mark_eq, simprocAttr, dx]
   repeat refine ⟨by first | omega | (simp; done) | (unfold maxLen; omega) | (simp [maxLen]; omega) | assumption, ?_⟩
   refine hk _ ?_; clear hk k
   refine awp_ret ?_
   rw [Pl.rounds_over ho] at hR4
   rw [← hR4]
   refine reth1 rfl rfl ?_
   exact le_of [] (by rfl) (by rfl) ⟨⟨_, rfl, .p (.refl _)⟩, trivial⟩ ⟨⟨_, rfl, _, rfl, .one (.cons (.p (.refl _)) (.cons (.p (.refl _)) (.cons (.p (.refl _)) (.cons (.p (.refl _)) (.cons (.p (.refl _)) (.cons (.p (.refl _)) (.cons (.p (.refl _)) (.cons (.frz rfl (by rfl)) .nil))))))))⟩, trivial⟩
  ·try simp only [hbx] at hb
   refine awp_le (le_keep [0, 2, 3, 4, 7, 13, 14]) ?_
   simp only [kp, argSl, simprocAttr]
   have ho : ¬ c2.over = true := by simp [hb]
   refine awp_sr [] (by rw [hC]; rfl) fun k hk => ?_
   simp (maxSteps := 9^9) (disch := (try simp only [lens]); omega) only [argSl, sm, ↓amb, mark_eq, simprocAttr, fl108_0, sz81, en86, dx]
   repeat refine ⟨by first | omega | (simp; done) | (unfold maxLen; omega) | (simp [maxLen]; omega) | assumption, ?_⟩
   refine callK_p (c45 _ hR2.held.2 (by have := hR2.dqlen; omega)) rfl ?_
   simp (maxSteps := 9^9) (disch := (try simp only [lens]); omega) only [argSl, sm, ↓amb, mark_eq, simprocAttr, fl108_0, sz81, en86, dx]
   repeat refine ⟨by first | omega | (simp; done) | (unfold maxLen; omega) | (simp [maxLen]; omega) | assumption, ?_⟩
   refine hk _ ?_; clear hk k
   refine awp_cond rfl (fun hb => ?_) (fun hb => ?_)
   ·exact absurd (hR2.held.1.2 (by have := beq_iff_eq.mp hb; omega)) ho
   ·try simp only [hbx] at hb
    refine awp_skip ?_
    refine h6 _ ?_; clear h6 k6
    refine awp_le (le_keep [0, 2, 3, 4, 7, 13, 14]) ?_
    simp only [kp, argSl, simprocAttr]
    have hh : ¬ Pl.held c2.dq = 0 := by omega
    have hk1 := (hR2.most_pos (r * c.dq.length + p) ho).1
    obtain ⟨hs1, hs2⟩ := hR2.step (by omega) p (p + 1 + r)
    have hs3 := Pl.rounds_on (f := 20000) (k := r * c.dq.length + p) (W := c.dq.length) (r := r) (p := p) (ev := e2) hR3 (by omega) rfl ho hh hs1 (by omega)
    have hs4 := hR2.most_on (by omega) (W := c.dq.length) (r := r) (p := p) hR3 (by omega) rfl ho
    refine awp_sr [] (by rw [hC]; rfl) fun k hk => ?_
    simp (maxSteps := 9^9) (disch := (try simp only [lens]); omega) only [argSl, sm, ↓amb, mark_eq, simprocAttr, en76, dx]
    repeat refine ⟨by first | omega | (simp; done) | (unfold maxLen; omega) | (simp [maxLen]; omega) | assumption, ?_⟩
    refine callK_h (c_drain_go1_step c2 e2 p (p + 1 + r) (Pl.good_hl hR2.gd) hs1 (by omega)) [7, 0] [] (by first | rfl | (simp only [hm]; done)) (by first | rfl | (simp [namesOk, lkp]; done)) ?_ ?_ ?_ ?_ ?_ ?_ ?_
    (iterate 6 (focus (first | trivial | (intro n hn; cases hn; done) | (simp (maxSteps := 9^9) (disch := (try simp only [lens]); omega) only [argSl, sm, ↓amb, mark_eq, simprocAttr, en76, dx, hmx, List.filter_cons, Nat.reduceBNe, imp_self, implies_true]; done))))
    simp (maxSteps := 9^9) (disch := (try simp only [lens]); omega) only [argSl, sm, ↓amb, mark_eq, simprocAttr, en76, dx, hm, List.filter_cons, List.filter_nil, Nat.reduceBNe, Option.map_none]
    repeat refine ⟨by first | omega | (simp; done) | (unfold maxLen; omega) | (simp [maxLen]; omega) | assumption, ?_⟩
    refine hk _ ?_; clear hk k
    refine awp_le (le_keep [0, 2, 3, 5, 7, 13, 14]) ?_
    simp only [kp, argSl, simprocAttr]
    refine awp_sr [] (by rw [hC]; rfl) fun k hk => ?_
    simp (maxSteps := 9^9) (disch := (try simp only [lens]); omega) only [argSl, sm, ↓amb, mark_eq, simprocAttr, dx]
    repeat refine ⟨by first | omega | (simp; done) | (unfold maxLen; omega) | (simp [maxLen]; omega) | assumption, ?_⟩
    refine hk _ ?_; clear hk k
    refine awp_cond rfl (fun hb => ?_) (fun hb => ?_)
    ·exact absurd hb (by simp)
    ·try simp only [hbx] at hb
     refine awp_skip ?_
     refine h5 _ ?_; clear h5 k5
     refine awp_region [] (by rw [hC]; rfl) fun k hk => ?_
     simp (maxSteps := 9^9) (disch := (try simp only [lens]); omega) only [argSl, sm, ↓amb, mark_eq, simprocAttr, dx]
     repeat refine ⟨by first | omega | (simp; done) | (unfold maxLen; omega) | (simp [maxLen]; omega) | assumption, ?_⟩
     refine hk _ ?_; clear hk k
     refine ⟨(p + 1, (Pl.step c2 p (p + 1 + r)).1, e2 ++ [(Pl.step c2 p (p + 1 + r)).2.1]), (by dsimp only; rw [← Nat.add_assoc]; exact ⟨by omega, hs2, by rw [Pl.step_dqlen]; exact hR3, by rw [← hs3]; exact hR4, by omega, by rw [List.length_append, List.length_singleton]; omega⟩), le_of [(0, _)] (by rfl) (by rfl) ⟨⟨_, rfl, .ptr rfl⟩, ⟨_, rfl, .p (.of_eq (by first | rfl | (simp only [PV.lit.injEq, Value.int.injEq, true_and]; omega) | (simp; done) | (simp; omega)))⟩, ⟨_, rfl, .p (.of_eq (by first | rfl | rw [hRw]))⟩, ⟨_, rfl, .p (.of_eq (by first | rfl | (simp only [PV.lit.injEq, Value.int.injEq, true_and]; omega) | (simp; done) | (simp; omega)))⟩, trivial⟩ ⟨⟨_, rfl, _, rfl, .one (.cons (.p (.refl _)) (.cons (.p (.refl _)) (.cons (.p (.refl _)) (.cons (.p (.refl _)) (.cons (.p (.refl _)) (.cons (.p (.refl _)) (.cons (.p (.refl _)) (.cons (.own rfl) (.nil)))))))))⟩, ⟨_, rfl, _, rfl, .liftE rfl⟩, trivial⟩, (by dsimp only; omega)⟩
 ·try simp only [hbx] at hb
  refine awp_exit ((if_pos rfl).mpr ?_)
  refine h2 _ ?_; clear h4 k4; clear h2 k2
  have hp2 : r * c.dq.length + p = r * c.dq.length + c.dq.length := by omega
  refine awp_region [] (by rw [hC]; rfl) fun k hk => ?_
  simp (maxSteps := 9^9) (disch := (try simp only [lens]); omega) only [argSl, sm, ↓amb, mark_eq, simprocAttr, dx]
  repeat refine ⟨by first | omega | (simp; done) | (unfold maxLen; omega) | (simp [maxLen]; omega) | assumption, ?_⟩
  refine hk _ ?_; clear hk k
  refine ⟨(r + 1, c2, e2), (by dsimp only; rw [Nat.add_mul, Nat.one_mul]; rw [hp2] at hR4 hR5 hR6; exact ⟨hR2, hR3, hR4, hR5, hR6⟩), le_of [(0, _)] (by rfl) (by rfl) ⟨⟨_, rfl, .ptr rfl⟩, ⟨_, rfl, .p (.of_eq (by first | rfl | (simp only [PV.lit.injEq, Value.int.injEq, true_and]; omega) | (simp; done) | (simp; omega)))⟩, trivial⟩ ⟨⟨_, rfl, _, rfl, .one (.cons (.p (.refl _)) (.cons (.p (.refl _)) (.cons (.p (.refl _)) (.cons (.p (.refl _)) (.cons (.p (.refl _)) (.cons (.p (.refl _)) (.cons (.p (.refl _)) (.cons (.own rfl) (.nil)))))))))⟩, ⟨_, rfl, _, rfl, .liftE rfl⟩, trivial⟩, (by dsimp only; rw [Nat.add_mul, Nat.one_mul]; have := hR1.most_0 (k := r * c.dq.length) (r := r) (by rw [hRw]); have := hR1.dqlen; omega)⟩
end Go.Proofs.Ythelnccjcbnjfaa
