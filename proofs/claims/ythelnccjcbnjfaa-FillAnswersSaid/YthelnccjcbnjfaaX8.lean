/-
  To the end, whoever works: a step.
-/
import Derived.Test.YthelnccjcbnjfaaX7
import Derived.Test.YthelnccjcbnjfaaF4
import Derived.Test.YthelnccjcbnjfaaPB
set_option linter.unusedSimpArgs false
set_option linter.unusedVariables false
set_option maxRecDepth 100000
namespace Go.Proofs.Ythelnccjcbnjfaa
open Go.Am Go.Proofs
theorem by112 : tBytes Try.prog 112 = some 32 := by kernel_rfl
theorem el82 : tEl Try.prog 82 = some 112 := by kernel_rfl
theorem en85 : enters Try.prog 85 = true := by kernel_rfl
theorem fl108_0 : tFld Try.prog 108 0 = some (0, 7, true) := by kernel_rfl
theorem fl108_1 : tFld Try.prog 108 1 = some (7, 1, false) := by kernel_rfl
theorem sz82 : tSz Try.prog 82 = some (false, 1) := by kernel_rfl
set_option maxHeartbeats 4000000 in
theorem c_drain_go1_step (c : Pl.Crew) (ev : List Pl.Event) (p v : Int) (hl : ∀ l, l ∈ c.dq → l.length ≤ 1000000 ∧ ∀ t, t ∈ l → -9223372036854775808 ≤ t ∧ t ≤ 9223372036854775807) (h0 : (Pl.step c p v).2.2 = 0) (he : ev.length ≤ 1000000) : HCall Try.prog 76 [.ptr 7 8 0 0, .p (iV p), .p (iV v)] [(7, (.row 8 [[.p (.seq false (c.work.ts.map taskC)), .p (iV c.work.grain), .p (.seq false (c.work.done.map fun b => [bV b])), .p (.seq false (c.dq.map lV)), .p (bV c.over), .p (iV c.steps), .p (iV c.idle), .own 15]])), (15, (.row 4 (lift (ev.map evC))))] (.p (iV 0)) [(7, (.row 8 [[.p (.seq false ((Pl.step c p v).1.work.ts.map taskC)), .p (iV (Pl.step c p v).1.work.grain), .p (.seq false ((Pl.step c p v).1.work.done.map fun b => [bV b])), .p (.seq false ((Pl.step c p v).1.dq.map lV)), .p (bV (Pl.step c p v).1.over), .p (iV (Pl.step c p v).1.steps), .p (iV (Pl.step c p v).1.idle), .own 0]])), (0, (.row 4 (lift ((ev ++ [(Pl.step c p v).2.1]).map evC))))] := by
 refine hcall_of_awp Try.func76 rfl (by simp [Try.ntmps76]) fun C hC => ?_
 refine awp_le (le_keep [0, 1, 2]) ?_
 simp only [kp, argSl, simprocAttr]
 refine awp_sr [32] (by rw [hC]; rfl) fun k hk => ?_
 simp (maxSteps := 9^9) (disch := (try simp only [lens]); omega) only [argSl, sm, ↓amb, mark_eq, simprocAttr, dx]
 repeat refine ⟨by first | omega | (simp; done) | (unfold maxLen; omega) | (simp [maxLen]; omega) | assumption, ?_⟩
 refine hk _ ?_; clear hk k
 refine awp_le (le_keep [0, 1, 2]) ?_
 simp only [kp, argSl, simprocAttr]
 refine awp_sr [32] (by rw [hC]; rfl) fun k hk => ?_
 simp (maxSteps := 9^9) (disch := (try simp only [lens]); omega) only [argSl, sm, ↓amb, mark_eq, simprocAttr, fl108_0, sz81, en85, vr81, vr112, sz112, dx]
 repeat refine ⟨by first | omega | (simp; done) | (unfold maxLen; omega) | (simp [maxLen]; omega) | assumption, ?_⟩
 refine callK_p (c43 _ _ _ hl) rfl ?_
 simp (maxSteps := 9^9) (disch := (try simp only [lens]); omega) only [argSl, sm, ↓amb, mark_eq, simprocAttr, fl108_0, sz81, en85, vr81, vr112, sz112, dx]
 repeat refine ⟨by first | omega | (simp; done) | (unfold maxLen; omega) | (simp [maxLen]; omega) | assumption, ?_⟩
 refine hk _ ?_; clear hk k
 refine awp_seq fun k1 h1 => ?_
 refine awp_le (le_keep [0, 6, 7, 8, 9]) ?_
 simp only [kp, argSl, simprocAttr]
 rw [h0]
 refine awp_sr [32] (by rw [hC]; rfl) fun k hk => ?_
 simp (maxSteps := 9^9) (disch := (try simp only [lens]); omega) only [argSl, sm, ↓amb, mark_eq, simprocAttr, dx]
 repeat refine ⟨by first | omega | (simp; done) | (unfold maxLen; omega) | (simp [maxLen]; omega) | assumption, ?_⟩
 refine hk _ ?_; clear hk k
 refine awp_cond rfl (fun hb => ?_) (fun hb => ?_)
 ·try simp only [hbx] at hb
  refine awp_draw [32] ⟨[0, 0, 0, 0, 8, 24, 56, 0, 128, 504, 1021, 2045, 4093, 8191, 16383, 32767], [6], [9, 12, 15], [(9, 12), (9, 15)], some [7, 15]⟩ (by rw [hC]; rfl) (by kernel_rfl) (by kernel_rfl) fun k hk => ?_
  simp (maxSteps := 9^9) (disch := (try simp only [lens]); omega) only [argSl, sm, ↓amb, mark_eq, simprocAttr, sz81, fl108_1, sz82, sz112, el82, vr112, by112, fl108_0, dx]
  repeat refine ⟨by first | omega | (simp; done) | (unfold maxLen; omega) | (simp [maxLen]; omega) | assumption, ?_⟩
  refine hk _ ?_; clear hk k
  refine h1 _ ?_; clear h1 k1
  refine awp_le (le_keep [9]) ?_
  simp only [kp, argSl, simprocAttr]
  refine awp_sr [32] (by rw [hC]; rfl) fun k hk => ?_
  simp (maxSteps := 9^9) (disch := (try simp only [lens]); omega) only [argSl, sm, ↓amb, mark_eq, simprocAttr, dx]
  repeat refine ⟨by first | omega | (simp; done) | (unfold maxLen; omega) | (simp [maxLen]; omega) | assumption, ?_⟩
  refine hk _ ?_; clear hk k
  refine awp_ret ?_
  refine reth1 rfl rfl ?_
  exact le_of [(0, _)] (by rfl) (by rfl) ⟨⟨_, rfl, .p (.of_eq (by first | rfl | rw [h0]))⟩, trivial⟩ ⟨⟨_, rfl, _, rfl, .one (.cons (.p (.refl _)) (.cons (.p (.refl _)) (.cons (.p (.refl _)) (.cons (.p (.refl _)) (.cons (.p (.refl _)) (.cons (.p (.refl _)) (.cons (.p (.refl _)) (.cons (.own rfl) (.nil)))))))))⟩, ⟨_, rfl, _, rfl, .liftE (by simp)⟩, trivial⟩
 ·exact absurd hb (by simp)
end Go.Proofs.Ythelnccjcbnjfaa
