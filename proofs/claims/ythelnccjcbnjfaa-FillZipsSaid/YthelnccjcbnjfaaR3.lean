/-
  The document's crews, copied.
-/
import Derived.Test.YthelnccjcbnjfaaR1
set_option linter.unusedSimpArgs false
set_option linter.unusedVariables false
set_option maxRecDepth 100000
namespace Go.Proofs.Ythelnccjcbnjfaa
open Go.Am Go.Proofs
@[reducible] def lE (l : List Int) : List PV := [.seq l.isEmpty (l.map fun n => [iV n])]
theorem lE_next (d : List (List Int)) (x : Nat) (h : x < d.length) : (d.take x).map lE ++ [[PV.seq (List.map (fun n => [iV n]) (d.getD x default)).isEmpty ((d.getD x default).map fun n => [iV n])]] = (d.take (x + 1)).map lE := by
  rw [take_snoc d x h, List.map_append, List.isEmpty_map]; rfl
theorem pl81_2 : tPlace Try.prog 81 2 = some (4, 1) := by kernel_rfl
theorem pl81_3 : tPlace Try.prog 81 3 = some (5, 1) := by kernel_rfl
theorem pl81_4 : tPlace Try.prog 81 4 = some (6, 1) := by kernel_rfl
set_option maxHeartbeats 4000000 in
theorem c_Copy_h (c : Pl.Crew) (h1 : c.work.ts.length ≤ 1000000) (h2 : c.work.done.length ≤ 1000000) (h3 : c.dq.length ≤ 1000000) (hl : ∀ l, l ∈ c.dq → l.length ≤ 1000000) : HCall Try.prog 89 [.p (.agg (crewC c))] [] (.agg [.p (.seq false (c.work.ts.map taskC)), .p (iV c.work.grain), .p (.seq false (c.work.done.map fun b => [bV b])), .own 0, .p (bV c.over), .p (iV c.steps), .p (iV c.idle)]) [(0, .row 1 (lift (c.dq.map lE)))] := by
 refine hcall_of_awp Try.func89 rfl (by simp [Try.ntmps89]) fun C hC => ?_
 refine awp_le (le_keep [0]) ?_
 simp only [kp, argSl, simprocAttr]
 refine awp_sr [32] (by rw [hC]; rfl) fun k hk => ?_
 simp (maxSteps := 9^9) (disch := (try simp only [lens]); omega) only [argSl, sm, ↓amb, mark_eq, simprocAttr, vr81, dx]
 repeat refine ⟨by first | omega | (simp; done) | (unfold maxLen; omega) | (simp [maxLen]; omega) | assumption, ?_⟩
 refine hk _ ?_; clear hk k
 refine awp_le (le_keep [1, 2]) ?_
 simp only [kp, argSl, simprocAttr]
 refine awp_sd [32] ⟨[0, 1, 3, 0, 8, 0, 32, 0, 128, 511, 0, 2047], [1, 4, 6, 8], [11], [(2, 11), (10, 11)], none⟩ (by rw [hC]; rfl) (by kernel_rfl) (by kernel_rfl) fun k hk => ?_
 simp (maxSteps := 9^9) (disch := (try simp only [lens]); omega) only [argSl, sm, ↓amb, mark_eq, simprocAttr, fl81_0, sz78, en103, fl81_2, sz4, fl81_3, sz3, fl81_4, vr81, bt81, pl81_0, pl81_2, pl81_3, pl81_4, sz81, dx]
 repeat refine ⟨by first | omega | (simp; done) | (unfold maxLen; omega) | (simp [maxLen]; omega) | assumption, ?_⟩
 refine callK_p (c27p _ _ _ h1 h2) rfl ?_
 simp (maxSteps := 9^9) (disch := (try simp only [lens]); omega) only [argSl, sm, ↓amb, mark_eq, simprocAttr, fl81_0, sz78, en103, fl81_2, sz4, fl81_3, sz3, fl81_4, vr81, bt81, pl81_0, pl81_2, pl81_3, pl81_4, sz81, dx]
 repeat refine ⟨by first | omega | (simp; done) | (unfold maxLen; omega) | (simp [maxLen]; omega) | assumption, ?_⟩
 refine hk _ ?_; clear hk k
 refine awp_seq fun k1 h1 => ?_
 refine awp_le (le_keep [1, 2, 3]) ?_
 simp only [kp, argSl, simprocAttr]
 refine awp_ownCs 3 1 3 rfl rfl rfl ?_
 simp only [am, List.set_cons_succ, List.set_cons_zero, Nat.reduceEqDiff, ↓reduceIte, reduceCtorEq, Nat.reduceAdd, Nat.reduceMul]
 refine awp_sr [32] (by rw [hC]; rfl) fun k hk => ?_
 simp (maxSteps := 9^9) (disch := (try simp only [lens]); omega) only [argSl, sm, ↓amb, mark_eq, simprocAttr, dx]
 repeat refine ⟨by first | omega | (simp; done) | (unfold maxLen; omega) | (simp [maxLen]; omega) | assumption, ?_⟩
 refine hk _ ?_; clear hk k
 refine awp_block ?_
 refine awp_loop (σ := Nat) (fun i => i ≤ c.dq.length) (fun (i : Nat) => ⟨[(1, (.ptr 0 7 0 0)), (2, (.ptr 1 7 0 0)), (3, (.ptr 2 7 0 0)), (4, (.p (iV (i : Int))))], [(0, (.row 7 [[.p (.seq false (c.work.ts.map taskC)), .p (iV c.work.grain), .p (.seq false (c.work.done.map fun b => [bV b])), .p (.seq false (c.dq.map lV)), .p (bV c.over), .p (iV c.steps), .p (iV c.idle)]])), (1, (.row 7 [[.p (.seq true []), .p (iV 0), .p (.seq true []), .p (.seq true []), .p (bV false), .p (iV 0), .p (iV 0)]])), (2, (.row 7 [[.p (.seq false (c.work.ts.map taskC)), .p (iV c.work.grain), .p (.seq false (c.work.done.map fun b => [bV b])), .own 3, .p (bV c.over), .p (iV c.steps), .p (iV c.idle)]])), (3, (.row 1 (lift ((c.dq.take i).map lE))))], 1⟩) (fun i => c.dq.length - i) 0 ?_ ?_ fun i hi => ?_
 ·exact Nat.zero_le _
 ·exact le_of [(0, _), (1, _), (2, _), (3, _)] (by rfl) (by rfl) ⟨⟨_, rfl, .ptr rfl⟩, ⟨_, rfl, .ptr rfl⟩, ⟨_, rfl, .ptr rfl⟩, ⟨_, rfl, .p (.of_eq (by first | rfl | (simp only [PV.lit.injEq, Value.int.injEq, true_and]; omega) | (simp; done) | (simp; omega)))⟩, trivial⟩ ⟨⟨_, rfl, _, rfl, .one (.cons (.p (.refl _)) (.cons (.p (.refl _)) (.cons (.p (.refl _)) (.cons (.p (.refl _)) (.cons (.p (.refl _)) (.cons (.p (.refl _)) (.cons (.p (.refl _)) (.nil))))))))⟩, ⟨_, rfl, _, rfl, .one (.cons (.p (.refl _)) (.cons (.p (.refl _)) (.cons (.p (.refl _)) (.cons (.p (.refl _)) (.cons (.p (.refl _)) (.cons (.p (.refl _)) (.cons (.p (.refl _)) (.nil))))))))⟩, ⟨_, rfl, _, rfl, .one (.cons (.p (.refl _)) (.cons (.p (.refl _)) (.cons (.p (.refl _)) (.cons (.own rfl) (.cons (.p (.refl _)) (.cons (.p (.refl _)) (.cons (.p (.refl _)) (.nil))))))))⟩, ⟨_, rfl, _, rfl, .liftE (by first | rfl | exact lE_next _ _ (by omega) | trace_state)⟩, trivial⟩
 refine awp_seq fun k3 h3 => ?_
 refine awp_le (le_keep [0, 1, 2, 3, 4]) ?_
 simp only [kp, argSl, simprocAttr]
 refine awp_sr [32] (by rw [hC]; rfl) fun k hk => ?_
 simp (maxSteps := 9^9) (disch := (try simp only [lens]); omega) only [argSl, sm, ↓amb, mark_eq, simprocAttr, fl81_1, sz79, el79, dx]
 repeat refine ⟨by first | omega | (simp; done) | (unfold maxLen; omega) | (simp [maxLen]; omega) | assumption, ?_⟩
 refine hk _ ?_; clear hk k
 refine awp_cond rfl (fun hb => ?_) (fun hb => ?_)
 ·try simp only [hbx] at hb
  refine awp_skip ?_
  refine h3 _ ?_; clear h3 k3
  refine awp_seq fun k4 h4 => ?_
  refine awp_block ?_
  have hll := hl (c.dq.getD i default) (Pl.getD_mem _ _ _ (by omega))
  refine awp_draw [32] ⟨[0, 1, 0, 0, 8, 0, 56, 120, 252, 508, 1023, 2047, 4095], [1], [10, 12], [(10, 12)], some [2, 3]⟩ (by rw [hC]; rfl) (by kernel_rfl) (by kernel_rfl) fun k hk => ?_
  simp (maxSteps := 9^9) (disch := (try simp only [lens]); omega) only [argSl, sm, ↓amb, mark_eq, simprocAttr, fl81_1, sz79, el32, vr3, el79, sz32, by3, vr32, by32, dx]
  repeat refine ⟨by first | omega | (simp; done) | (unfold maxLen; omega) | (simp [maxLen]; omega) | assumption, ?_⟩
  refine hk _ ?_; clear hk k
  refine h4 _ ?_; clear h4 k4
  refine awp_region [32] (by rw [hC]; rfl) fun k hk => ?_
  simp (maxSteps := 9^9) (disch := (try simp only [lens]); omega) only [argSl, sm, ↓amb, mark_eq, simprocAttr, dx]
  repeat refine ⟨by first | omega | (simp; done) | (unfold maxLen; omega) | (simp [maxLen]; omega) | assumption, ?_⟩
  refine hk _ ?_; clear hk k
  refine ⟨i + 1, by omega, le_of [(0, _), (1, _), (2, _), (3, _)] (by rfl) (by rfl) ⟨⟨_, rfl, .ptr rfl⟩, ⟨_, rfl, .ptr rfl⟩, ⟨_, rfl, .ptr rfl⟩, ⟨_, rfl, .p (.of_eq (by first | rfl | (simp only [PV.lit.injEq, Value.int.injEq, true_and]; omega) | (simp; done) | (simp; omega)))⟩, trivial⟩ ⟨⟨_, rfl, _, rfl, .one (.cons (.p (.refl _)) (.cons (.p (.refl _)) (.cons (.p (.refl _)) (.cons (.p (.refl _)) (.cons (.p (.refl _)) (.cons (.p (.refl _)) (.cons (.p (.refl _)) (.nil))))))))⟩, ⟨_, rfl, _, rfl, .one (.cons (.p (.refl _)) (.cons (.p (.refl _)) (.cons (.p (.refl _)) (.cons (.p (.refl _)) (.cons (.p (.refl _)) (.cons (.p (.refl _)) (.cons (.p (.refl _)) (.nil))))))))⟩, ⟨_, rfl, _, rfl, .one (.cons (.p (.refl _)) (.cons (.p (.refl _)) (.cons (.p (.refl _)) (.cons (.own rfl) (.cons (.p (.refl _)) (.cons (.p (.refl _)) (.cons (.p (.refl _)) (.nil))))))))⟩, ⟨_, rfl, _, rfl, .liftE (by first | rfl | exact lE_next _ _ (by omega) | trace_state)⟩, trivial⟩, by omega⟩
 ·try simp only [hbx] at hb
  refine awp_exit ((if_pos rfl).mpr ?_)
  refine h1 _ ?_; clear h3 k3; clear h1 k1
  refine awp_le (le_keep [2, 3]) ?_
  simp only [kp, argSl, simprocAttr]
  have htk : c.dq.take i = c.dq := List.take_of_length_le (by omega)
  rw [htk]
  refine awp_sr [32] (by rw [hC]; rfl) fun k hk => ?_
  simp (maxSteps := 9^9) (disch := (try simp only [lens]); omega) only [argSl, sm, ↓amb, mark_eq, simprocAttr, sz81, dx]
  repeat refine ⟨by first | omega | (simp; done) | (unfold maxLen; omega) | (simp [maxLen]; omega) | assumption, ?_⟩
  refine hk _ ?_; clear hk k
  refine awp_ret ?_
  refine rethc rfl rfl sz81 ?_
  simp (maxSteps := 9^9) (disch := (try simp only [lens]); omega) only [argSl, sm, ↓amb, mark_eq, simprocAttr, sz81, dx]
  exact le_of [(0, _)] (by rfl) (by rfl) ⟨⟨_, rfl, .agg rfl (LeRow.cons (.p (.refl _)) (LeRow.cons (.p (.refl _)) (LeRow.cons (.p (.refl _)) (LeRow.cons (.own rfl) (LeRow.cons (.p (.refl _)) (LeRow.cons (.p (.refl _)) (LeRow.cons (.p (.refl _)) .nil))))))).2⟩, trivial⟩ ⟨⟨_, rfl, _, rfl, .liftE rfl⟩, trivial⟩
set_option maxHeartbeats 4000000 in
theorem c_Pop_h (c : Bool) (l : List Int) (hl : l.length ≤ 1000000) (h0 : 0 < l.length) : HCall Try.prog 90 [.p (ints c l)] [] (.tup [.own 0, .p (iV (l.getD (l.length - 1) 0)), .p (iV 0)]) [(0, .row 1 (lift ((l.take (l.length - 1)).map fun n => [iV n])))] := by
 refine hcall_of_awp Try.func90 rfl (by simp [Try.ntmps90]) fun C hC => ?_
 refine awp_le (le_keep [0]) ?_
 simp only [kp, argSl, simprocAttr]
 refine awp_sr [17] (by rw [hC]; rfl) fun k hk => ?_
 simp (maxSteps := 9^9) (disch := (try simp only [lens]); omega) only [argSl, sm, ↓amb, mark_eq, simprocAttr, dx]
 repeat refine ⟨by first | omega | (simp; done) | (unfold maxLen; omega) | (simp [maxLen]; omega) | assumption, ?_⟩
 refine hk _ ?_; clear hk k
 refine awp_seq fun k1 h1 => ?_
 refine awp_le (le_keep [0, 2, 3, 4]) ?_
 simp only [kp, argSl, simprocAttr]
 refine awp_sr [17] (by rw [hC]; rfl) fun k hk => ?_
 simp (maxSteps := 9^9) (disch := (try simp only [lens]); omega) only [argSl, sm, ↓amb, mark_eq, simprocAttr, el32, dx]
 repeat refine ⟨by first | omega | (simp; done) | (unfold maxLen; omega) | (simp [maxLen]; omega) | assumption, ?_⟩
 refine hk _ ?_; clear hk k
 refine awp_cond rfl (fun hb => ?_) (fun hb => ?_)
 ·exact absurd (beq_iff_eq.mp hb) (by omega)
 ·try simp only [hbx] at hb
  refine awp_skip ?_
  refine h1 _ ?_; clear h1 k1
  refine awp_le (le_keep [0]) ?_
  simp only [kp, argSl, simprocAttr]
  refine awp_sr [17] (by rw [hC]; rfl) fun k hk => ?_
  simp (maxSteps := 9^9) (disch := (try simp only [lens]); omega) only [argSl, sm, ↓amb, mark_eq, simprocAttr, el32, dx]
  repeat refine ⟨by first | omega | (simp; done) | (unfold maxLen; omega) | (simp [maxLen]; omega) | assumption, ?_⟩
  refine hk _ ?_; clear hk k
  refine awp_le (le_keep [0, 5]) ?_
  simp only [kp, argSl, simprocAttr]
  refine awp_sd [17] ⟨[0, 0, 0, 6, 15, 0, 0, 96, 224, 31, 1023, 2047], [4, 8], [], [], some []⟩ (by rw [hC]; rfl) (by kernel_rfl) (by kernel_rfl) fun k hk => ?_
  simp (maxSteps := 9^9) (disch := (try simp only [lens]); omega) only [argSl, sm, ↓amb, mark_eq, simprocAttr, el32, vr3, sz3, by3, dx]
  repeat refine ⟨by first | omega | (simp; done) | (unfold maxLen; omega) | (simp [maxLen]; omega) | assumption, ?_⟩
  refine hk _ ?_; clear hk k
  refine awp_ret ?_
  refine reth3 rfl rfl rfl rfl ?_
  exact le_of [(0, _)] (by rfl) (by rfl) ⟨⟨_, rfl, leTup (LeRow.cons (.own rfl) (LeRow.cons (.p (.of_eq (by first | rfl | trace_state))) (LeRow.cons (.p (.refl _)) .nil)))⟩, trivial⟩ ⟨⟨_, rfl, _, rfl, .liftE (by first | rfl | trace_state)⟩, trivial⟩
end Go.Proofs.Ythelnccjcbnjfaa
