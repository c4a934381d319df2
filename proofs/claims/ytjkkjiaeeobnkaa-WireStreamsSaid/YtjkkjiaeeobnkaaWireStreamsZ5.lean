/-
  WireStreams, part 5 of 5: what the proof that the law holds at whatever arguments stands on; the last part holds the theorem. No condition.
-/
import Derived.Test.YtjkkjiaeeobnkaaWireStreamsZ4
import Derived.Test.YtjkkjiaeeobnkaaRows
section
set_option linter.unusedSimpArgs false
set_option linter.unusedVariables false
set_option maxRecDepth 100000
namespace Go.Proofs.Ytjkkjiaeeobnkaa
open Go.Am Go.Proofs
theorem bt45 : tBuilt Try.prog 45 = true := by kernel_rfl
theorem bt47 : tBuilt Try.prog 47 = true := by kernel_rfl
theorem by45 : tBytes Try.prog 45 = some 24 := by kernel_rfl
theorem by47 : tBytes Try.prog 47 = some 16 := by kernel_rfl
theorem en82 : enters Try.prog 82 = true := by kernel_rfl
theorem en84 : enters Try.prog 84 = true := by kernel_rfl
theorem pl45_0 : tPlace Try.prog 45 0 = some (0, 1) := by kernel_rfl
theorem pl45_1 : tPlace Try.prog 45 1 = some (1, 1) := by kernel_rfl
theorem pl45_2 : tPlace Try.prog 45 2 = some (2, 1) := by kernel_rfl
theorem pl47_0 : tPlace Try.prog 47 0 = some (0, 1) := by kernel_rfl
theorem pl47_1 : tPlace Try.prog 47 1 = some (1, 1) := by kernel_rfl
theorem sz27 : tSz Try.prog 27 = some (true, 3) := by kernel_rfl
theorem vr27 : tVar Try.prog 27 = some (true, [.lit (.int .i64 0), .seq true [], .seq true []]) := by kernel_rfl
theorem vr47 : tVar Try.prog 47 = some (true, [.lit (.int .i64 0), .lit (.int .i64 0)]) := by kernel_rfl
set_option maxHeartbeats 4000000 in
theorem c_batch (c : Bool) (b : List Int) (at' : Nat) (hb8 : ∀ x, x ∈ b → Pl.B8 x) (hl : b.length ≤ 1000000) (ha : at' ≤ b.length) (hq : Pl.batE b at' = none) : HCall Try.prog 49 [.ptr 7 2 0 0] [(7, (.row 2 [[.p (.seq c (b.map fun x => [.lit (.int .u8 x)])), .p (iV ((at' : Nat) : Int))]]))] (.p (.agg (batchC false false (Pl.batX b at')))) [(7, (.row 2 [[.p (.seq c (b.map fun x => [.lit (.int .u8 x)])), .p (iV ((at' + Pl.batS b at' : Nat) : Int))]]))] := by
 obtain ⟨v1, v2, v3, v4⟩ := Pl.bat_ok hq
 obtain ⟨w1, w2, w3⟩ := Pl.kind_ok v1
 have w4 := Pl.num_ok v2
 have hz := pos_at hb8 at'
 unfold Pl.B8 at hz
 have hnb := Pl.num2_b hb8 (at' + 1)
 refine hcall_of_awp Try.func49 rfl (by simp [Try.ntmps49]) fun C hC => ?_
 refine awp_le (le_keep [0]) ?_
 simp only [kp, argSl, simprocAttr]
 refine awp_sr [35, 45] (by rw [hC]; rfl) fun k hk => ?_
 simp (maxSteps := 9^9) (disch := (try simp only [lens]); omega) only [argSl, sm, ↓amb, mark_eq, simprocAttr, vr27, dx, en83, en58]
 repeat refine an ?_
 refine hk _ ?_; clear hk k
 refine awp_le (le_keep [0, 2]) ?_
 simp only [kp, argSl, simprocAttr]
 refine awp_sr [35, 45] (by rw [hC]; rfl) fun k hk => ?_
 simp (maxSteps := 9^9) (disch := (try simp only [lens]); omega) only [argSl, sm, ↓amb, mark_eq, simprocAttr, en82, fl27_0, sz3, dx, en83, en58]
 repeat refine an ?_
 refine callK_h (c_kind3 c b _ hb8 hl ha v1) [7] [] (by first | rfl | (simp only [hm]; done)) (by first | rfl | (simp [namesOk, lkp]; done)) ?_ ?_ ?_ ?_ ?_ ?_ ?_
 (iterate 6 (focus (first | trivial | (intro n hn; cases hn; done) | (simp (maxSteps := 9^9) (disch := (try simp only [lens]); omega) only [argSl, sm, ↓amb, mark_eq, simprocAttr, en82, fl27_0, sz3, dx, en83, en58, hmx, List.filter_cons, Nat.reduceBNe, imp_self, implies_true]; done))))
 simp (maxSteps := 9^9) (disch := (try simp only [lens]); omega) only [argSl, sm, ↓amb, mark_eq, simprocAttr, en82, fl27_0, sz3, dx, en83, en58, hm, List.filter_cons, List.filter_nil, Nat.reduceBNe, Option.map_none]
 repeat refine an ?_
 refine hk _ ?_; clear hk k
 refine awp_le (le_keep [0, 2]) ?_
 simp only [kp, argSl, simprocAttr]
 refine awp_sr [35, 45] (by rw [hC]; rfl) fun k hk => ?_
 simp (maxSteps := 9^9) (disch := (try simp only [lens]); omega) only [argSl, sm, ↓amb, mark_eq, simprocAttr, fl81_1, sz3, dx, en83, en58]
 repeat refine an ?_
 refine hk _ ?_; clear hk k
 refine awp_le (le_keep [0, 2, 3]) ?_
 simp only [kp, argSl, simprocAttr]
 refine awp_sr [35, 45] (by rw [hC]; rfl) fun k hk => ?_
 simp (maxSteps := 9^9) (disch := (try simp only [lens]); omega) only [argSl, sm, ↓amb, mark_eq, simprocAttr, en84, dx, en83, en58]
 repeat refine an ?_
 refine callK_h (c_rnum c b _ hb8 hl (by omega) v2) [7] [] (by first | rfl | (simp only [hm]; done)) (by first | rfl | (simp [namesOk, lkp]; done)) ?_ ?_ ?_ ?_ ?_ ?_ ?_
 (iterate 6 (focus (first | trivial | (intro n hn; cases hn; done) | (simp (maxSteps := 9^9) (disch := (try simp only [lens]); omega) only [argSl, sm, ↓amb, mark_eq, simprocAttr, en84, dx, en83, en58, hmx, List.filter_cons, Nat.reduceBNe, imp_self, implies_true]; done))))
 simp (maxSteps := 9^9) (disch := (try simp only [lens]); omega) only [argSl, sm, ↓amb, mark_eq, simprocAttr, en84, dx, en83, en58, hm, List.filter_cons, List.filter_nil, Nat.reduceBNe, Option.map_none]
 repeat refine an ?_
 refine hk _ ?_; clear hk k
 refine awp_seq fun k1 h1 => ?_
 refine awp_le (le_keep [0, 2, 3, 4]) ?_
 simp only [kp, argSl, simprocAttr]
 refine awp_sr [35, 45] (by rw [hC]; rfl) fun k hk => ?_
 simp (maxSteps := 9^9) (disch := (try simp only [lens]); omega) only [argSl, sm, ↓amb, mark_eq, simprocAttr, dx, en83, en58]
 repeat refine an ?_
 refine hk _ ?_; clear hk k
 refine awp_cond rfl (fun hb => ?_) (fun hb => ?_)
 ·try simp only [hbx] at hb
  exfalso; omega
 ·try simp only [hbx] at hb
  refine awp_skip ?_
  refine h1 _ ?_; clear h1 k1
  refine awp_seq fun k2 h2 => ?_
  refine awp_le (le_keep [0, 2, 4]) ?_
  simp only [kp, argSl, simprocAttr]
  refine awp_ownCs 2 2 1 rfl rfl rfl ?_
  simp only [am, List.set_cons_succ, List.set_cons_zero, Nat.reduceEqDiff, ↓reduceIte, reduceCtorEq, Nat.reduceAdd, Nat.reduceMul]
  refine awp_ownCs 2 3 2 rfl rfl rfl ?_
  have hbn : ((Pl.batN b at' : Nat) : Int) = Pl.num2 b (at' + 1) := by unfold Pl.batN; omega
  refine awp_sr [35, 45] (by rw [hC]; rfl) fun k hk => ?_
  simp (maxSteps := 9^9) (disch := (try simp only [lens]); omega) only [argSl, sm, ↓amb, mark_eq, simprocAttr, dx, en83, en58]
  repeat refine an ?_
  refine hk _ ?_; clear hk k
  refine awp_block ?_
  refine awp_loop (σ := Nat) (fun n => n ≤ Pl.batN b at' ∧ Pl.itsE (Pl.isQ b at') b (at' + 3) n = none ∧ (at' + 3 + Pl.itS (Pl.isQ b at') * n) ≤ b.length) (fun (n : Nat) => ⟨[(0, (.ptr 7 2 0 0)), (2, (.ptr 0 3 0 0)), (19, (.p (iV (Pl.batN b at')))), (20, (.p (iV (n : Int))))], [(7, (.row 2 [[.p (.seq c (b.map fun x => [.lit (.int .u8 x)])), .p (iV (((at' + 3 + Pl.itS (Pl.isQ b at') * n) : Nat) : Int))]])), (0, (.row 3 [[.p (iV (b.getD at' 0)), .own 1, .own 2]])), (1, (.row 2 (lift ((Pl.eN b at' n).map edgeC)))), (2, (.row 3 (lift ((Pl.aN b at' n).map askC))))], 1⟩) (fun n => Pl.batN b at' - n) 0 ?_ ?_ fun n hn => ?_
  ·exact ⟨Nat.zero_le _, rfl, by rw [Nat.mul_zero]; omega⟩
  ·exact le_of [(0, _), (1, _), (2, _)] (by rfl) (by rfl) ⟨⟨_, rfl, .ptr rfl⟩, ⟨_, rfl, .ptr rfl⟩, ⟨_, rfl, .oe⟩, ⟨_, rfl, .oe⟩, trivial⟩ ⟨⟨_, rfl, _, rfl, .one (.cons (.p (.refl _)) (.cons (.p (.of_eq (by first | rfl | (congr 2; rw [hS, Nat.mul_succ]; omega) | trace_state))) .nil))⟩, ⟨_, rfl, _, rfl, .one (.cons (.p (.refl _)) (.cons (.own rfl) (.cons (.own rfl) .nil)))⟩, ⟨_, rfl, _, rfl, .liftE (by first | rfl | (rw [Pl.eN_0]; rfl) | (rw [Pl.eN_q hQ, Pl.eN_q hQ]; done) | (rw [hS, Pl.eN_s hQ, List.map_append]; rfl) | trace_state)⟩, ⟨_, rfl, _, rfl, .liftE (by first | rfl | (rw [Pl.aN_0]; rfl) | (rw [Pl.aN_e hQ, Pl.aN_e hQ]; done) | (rw [hS, Pl.aN_s hQ, List.map_append]; rfl) | trace_state)⟩, trivial⟩
  obtain ⟨hn1, hn2, hn3⟩ := hn
  have hel := Pl.eN_len b at' n
  have hal := Pl.aN_len b at' n
  refine awp_le (le_keep [0, 1, 2, 7, 19, 20]) ?_
  simp only [kp, argSl, simprocAttr]
  refine awp_sr [35, 45] (by rw [hC]; rfl) fun k hk => ?_
  simp (maxSteps := 9^9) (disch := (try simp only [lens]); omega) only [argSl, sm, ↓amb, mark_eq, simprocAttr, dx, en83, en58]
  repeat refine an ?_
  refine hk _ ?_; clear hk k
  refine awp_seq fun k4 h4 => ?_
  refine awp_cond rfl (fun hb => ?_) (fun hb => ?_)
  ·try simp only [hbx] at hb
   refine awp_skip ?_
   refine h4 _ ?_; clear h4 k4
   refine awp_seq fun k5 h5 => ?_
   refine awp_block ?_
   refine awp_le (le_keep [0, 1, 2, 7, 19, 20]) ?_
   simp only [kp, argSl, simprocAttr]
   refine awp_sr [35, 45] (by rw [hC]; rfl) fun k hk => ?_
   simp (maxSteps := 9^9) (disch := (try simp only [lens]); omega) only [argSl, sm, ↓amb, mark_eq, simprocAttr, fl27_0, sz3, dx, en83, en58]
   repeat refine an ?_
   refine hk _ ?_; clear hk k
   refine awp_cond rfl (fun hb => ?_) (fun hb => ?_)
   ·try simp only [hbx] at hb
    have hQ : Pl.isQ b at' = true := decide_eq_true hb
    have hS : Pl.itS (Pl.isQ b at') = 5 := by rw [hQ]; rfl
    have hi0 := (Pl.its_at v4 (n := n) (by omega)).1
    have hi1 := hi0
    rw [hQ] at hi1
    obtain ⟨y1, y2, y3⟩ := Pl.itE_ask hi1
    rw [← hQ] at y1 y2 y3
    obtain ⟨z1, _, _⟩ := Pl.kind_ok y1
    have z2 := Pl.num_ok y2
    have hy3 := Pl.num_ok y3
    refine awp_dL [35, 45] ⟨[0, 1, 0, 4, 0, 28, 0, 124, 252, 508, 1023, 2047, 4095], [], [3, 5, 7, 10], [(3, 5), (3, 7), (5, 7), (3, 10), (5, 10), (7, 10)], some [7, 2]⟩ 12 (by rw [hC]; rfl) (by kernel_rfl) (by kernel_rfl) (by kernel_rfl) (by kernel_rfl) rfl rfl fun k hk => ?_
    simp (maxSteps := 9^9) (disch := (try simp only [lens]); omega) only [argSl, sm, ↓amb, mark_eq, simprocAttr, fl27_2, sz25, en82, en84, vr45, bt45, pl45_0, pl45_1, pl45_2, el25, by45, ↓xmb, dx, en83, en58]
    repeat refine an ?_
    refine callK_h (c_kind4 c b _ hb8 hl hn3 y1) [7] [] (by first | rfl | (simp only [hm]; done)) (by first | rfl | (simp [namesOk, lkp]; done)) ?_ ?_ ?_ ?_ ?_ ?_ ?_
    (iterate 6 (focus (first | trivial | (intro n hn; cases hn; done) | (simp (maxSteps := 9^9) (disch := (try simp only [lens]); omega) only [argSl, sm, ↓amb, mark_eq, simprocAttr, fl27_2, sz25, en82, en84, vr45, bt45, pl45_0, pl45_1, pl45_2, el25, by45, ↓xmb, dx, en83, en58, hmx, List.filter_cons, Nat.reduceBNe, imp_self, implies_true]; done))))
    simp (maxSteps := 9^9) (disch := (try simp only [lens]); omega) only [argSl, sm, ↓amb, mark_eq, simprocAttr, fl27_2, sz25, en82, en84, vr45, bt45, pl45_0, pl45_1, pl45_2, el25, by45, ↓xmb, dx, en83, en58, hm, List.filter_cons, List.filter_nil, Nat.reduceBNe, Option.map_none]
    repeat refine an ?_
    refine callK_h (c_rnum c b _ hb8 hl (by omega) y2) [7] [] (by first | rfl | (simp only [hm]; done)) (by first | rfl | (simp [namesOk, lkp]; done)) ?_ ?_ ?_ ?_ ?_ ?_ ?_
    (iterate 6 (focus (first | trivial | (intro n hn; cases hn; done) | (simp (maxSteps := 9^9) (disch := (try simp only [lens]); omega) only [argSl, sm, ↓amb, mark_eq, simprocAttr, fl27_2, sz25, en82, en84, vr45, bt45, pl45_0, pl45_1, pl45_2, el25, by45, ↓xmb, dx, en83, en58, hmx, List.filter_cons, Nat.reduceBNe, imp_self, implies_true]; done))))
    simp (maxSteps := 9^9) (disch := (try simp only [lens]); omega) only [argSl, sm, ↓amb, mark_eq, simprocAttr, fl27_2, sz25, en82, en84, vr45, bt45, pl45_0, pl45_1, pl45_2, el25, by45, ↓xmb, dx, en83, en58, hm, List.filter_cons, List.filter_nil, Nat.reduceBNe, Option.map_none]
    repeat refine an ?_
    refine callK_h (c_rnum c b _ hb8 hl (by omega) y3) [7] [] (by first | rfl | (simp only [hm]; done)) (by first | rfl | (simp [namesOk, lkp]; done)) ?_ ?_ ?_ ?_ ?_ ?_ ?_
    (iterate 6 (focus (first | trivial | (intro n hn; cases hn; done) | (simp (maxSteps := 9^9) (disch := (try simp only [lens]); omega) only [argSl, sm, ↓amb, mark_eq, simprocAttr, fl27_2, sz25, en82, en84, vr45, bt45, pl45_0, pl45_1, pl45_2, el25, by45, ↓xmb, dx, en83, en58, hmx, List.filter_cons, Nat.reduceBNe, imp_self, implies_true]; done))))
    simp (maxSteps := 9^9) (disch := (try simp only [lens]); omega) only [argSl, sm, ↓amb, mark_eq, simprocAttr, fl27_2, sz25, en82, en84, vr45, bt45, pl45_0, pl45_1, pl45_2, el25, by45, ↓xmb, dx, en83, en58, hm, List.filter_cons, List.filter_nil, Nat.reduceBNe, Option.map_none]
    repeat refine an ?_
    refine hk _ ?_; clear hk k
    refine h5 _ ?_; clear h5 k5
    refine awp_region [35, 45] (by rw [hC]; rfl) fun k hk => ?_
    simp (maxSteps := 9^9) (disch := (try simp only [lens]); omega) only [argSl, sm, ↓amb, mark_eq, simprocAttr, dx, en83, en58]
    repeat refine an ?_
    refine hk _ ?_; clear hk k
    refine ⟨n + 1, ⟨by omega, Pl.itsE_ok hn2 hi0, by rw [hS, Nat.mul_succ]; rw [hS] at hy3; omega⟩, le_of [(0, _), (1, _), (2, _)] (by rfl) (by rfl) ⟨⟨_, rfl, .ptr rfl⟩, ⟨_, rfl, .ptr rfl⟩, ⟨_, rfl, .oe⟩, ⟨_, rfl, .oe⟩, trivial⟩ ⟨⟨_, rfl, _, rfl, .one (.cons (.p (.refl _)) (.cons (.p (.of_eq (by first | rfl | (congr 2; rw [hS, Nat.mul_succ]; omega) | trace_state))) .nil))⟩, ⟨_, rfl, _, rfl, .one (.cons (.p (.refl _)) (.cons (.own rfl) (.cons (.own rfl) .nil)))⟩, ⟨_, rfl, _, rfl, .liftE (by first | rfl | (rw [Pl.eN_0]; rfl) | (rw [Pl.eN_q hQ, Pl.eN_q hQ]; done) | (rw [hS, Pl.eN_s hQ, List.map_append]; rfl) | trace_state)⟩, ⟨_, rfl, _, rfl, .liftE (by first | rfl | (rw [Pl.aN_0]; rfl) | (rw [Pl.aN_e hQ, Pl.aN_e hQ]; done) | (rw [hS, Pl.aN_s hQ, List.map_append]; rfl) | trace_state)⟩, trivial⟩, by omega⟩
   ·try simp only [hbx] at hb
    have hQ : Pl.isQ b at' = false := decide_eq_false hb
    have hS : Pl.itS (Pl.isQ b at') = 4 := by rw [hQ]; rfl
    have hi0 := (Pl.its_at v4 (n := n) (by omega)).1
    have hi1 := hi0
    rw [hQ] at hi1
    obtain ⟨y1, y2⟩ := Pl.itE_edge hi1
    rw [← hQ] at y1 y2
    have z2 := Pl.num_ok y1
    have hy3 := Pl.num_ok y2
    refine awp_dL [35, 45] ⟨[0, 1, 0, 4, 0, 28, 60, 124, 255, 511, 1023], [], [3, 5, 8], [(3, 5), (3, 8), (5, 8)], some [7, 1]⟩ 10 (by rw [hC]; rfl) (by kernel_rfl) (by kernel_rfl) (by kernel_rfl) (by kernel_rfl) rfl rfl fun k hk => ?_
    simp (maxSteps := 9^9) (disch := (try simp only [lens]); omega) only [argSl, sm, ↓amb, mark_eq, simprocAttr, fl27_1, sz24, en84, vr47, bt47, pl47_0, pl47_1, el24, by47, ↓xmb, dx, en83, en58]
    repeat refine an ?_
    refine callK_h (c_rnum c b _ hb8 hl hn3 y1) [7] [] (by first | rfl | (simp only [hm]; done)) (by first | rfl | (simp [namesOk, lkp]; done)) ?_ ?_ ?_ ?_ ?_ ?_ ?_
    (iterate 6 (focus (first | trivial | (intro n hn; cases hn; done) | (simp (maxSteps := 9^9) (disch := (try simp only [lens]); omega) only [argSl, sm, ↓amb, mark_eq, simprocAttr, fl27_1, sz24, en84, vr47, bt47, pl47_0, pl47_1, el24, by47, ↓xmb, dx, en83, en58, hmx, List.filter_cons, Nat.reduceBNe, imp_self, implies_true]; done))))
    simp (maxSteps := 9^9) (disch := (try simp only [lens]); omega) only [argSl, sm, ↓amb, mark_eq, simprocAttr, fl27_1, sz24, en84, vr47, bt47, pl47_0, pl47_1, el24, by47, ↓xmb, dx, en83, en58, hm, List.filter_cons, List.filter_nil, Nat.reduceBNe, Option.map_none]
    repeat refine an ?_
    refine callK_h (c_rnum c b _ hb8 hl (by omega) y2) [7] [] (by first | rfl | (simp only [hm]; done)) (by first | rfl | (simp [namesOk, lkp]; done)) ?_ ?_ ?_ ?_ ?_ ?_ ?_
    (iterate 6 (focus (first | trivial | (intro n hn; cases hn; done) | (simp (maxSteps := 9^9) (disch := (try simp only [lens]); omega) only [argSl, sm, ↓amb, mark_eq, simprocAttr, fl27_1, sz24, en84, vr47, bt47, pl47_0, pl47_1, el24, by47, ↓xmb, dx, en83, en58, hmx, List.filter_cons, Nat.reduceBNe, imp_self, implies_true]; done))))
    simp (maxSteps := 9^9) (disch := (try simp only [lens]); omega) only [argSl, sm, ↓amb, mark_eq, simprocAttr, fl27_1, sz24, en84, vr47, bt47, pl47_0, pl47_1, el24, by47, ↓xmb, dx, en83, en58, hm, List.filter_cons, List.filter_nil, Nat.reduceBNe, Option.map_none]
    repeat refine an ?_
    refine hk _ ?_; clear hk k
    refine h5 _ ?_; clear h5 k5
    refine awp_region [35, 45] (by rw [hC]; rfl) fun k hk => ?_
    simp (maxSteps := 9^9) (disch := (try simp only [lens]); omega) only [argSl, sm, ↓amb, mark_eq, simprocAttr, dx, en83, en58]
    repeat refine an ?_
    refine hk _ ?_; clear hk k
    refine ⟨n + 1, ⟨by omega, Pl.itsE_ok hn2 hi0, by rw [hS, Nat.mul_succ]; rw [hS] at hy3; omega⟩, le_of [(0, _), (1, _), (2, _)] (by rfl) (by rfl) ⟨⟨_, rfl, .ptr rfl⟩, ⟨_, rfl, .ptr rfl⟩, ⟨_, rfl, .oe⟩, ⟨_, rfl, .oe⟩, trivial⟩ ⟨⟨_, rfl, _, rfl, .one (.cons (.p (.refl _)) (.cons (.p (.of_eq (by first | rfl | (congr 2; rw [hS, Nat.mul_succ]; omega) | trace_state))) .nil))⟩, ⟨_, rfl, _, rfl, .one (.cons (.p (.refl _)) (.cons (.own rfl) (.cons (.own rfl) .nil)))⟩, ⟨_, rfl, _, rfl, .liftE (by first | rfl | (rw [Pl.eN_0]; rfl) | (rw [Pl.eN_q hQ, Pl.eN_q hQ]; done) | (rw [hS, Pl.eN_s hQ, List.map_append]; rfl) | trace_state)⟩, ⟨_, rfl, _, rfl, .liftE (by first | rfl | (rw [Pl.aN_0]; rfl) | (rw [Pl.aN_e hQ, Pl.aN_e hQ]; done) | (rw [hS, Pl.aN_s hQ, List.map_append]; rfl) | trace_state)⟩, trivial⟩, by omega⟩
  ·try simp only [hbx] at hb
   refine awp_exit ((if_pos rfl).mpr ?_)
   refine h2 _ ?_; clear h4 k4; clear h2 k2
   refine awp_le (le_keep [2]) ?_
   simp only [kp, argSl, simprocAttr]
   obtain rfl : n = Pl.batN b at' := by omega
   refine awp_le (show LE _ (⟨[(2, (.ptr 0 3 0 0))], [(7, (.row 2 [[.p (.seq c (b.map fun x => [.lit (.int .u8 x)])), .p (iV (((at' + 3 + Pl.itS (Pl.isQ b at') * (Pl.batN b at')) : Nat) : Int))]])), (0, (.row 3 [[.p (iV (b.getD at' 0)), (.p (.seq false ((Pl.eN b at' (Pl.batN b at')).map edgeC))), (.p (.seq false ((Pl.aN b at' (Pl.batN b at')).map askC)))]]))], 1⟩ : LS) from le_of [(0, _)] (by rfl) (by rfl) ⟨⟨_, rfl, .ptr rfl⟩, trivial⟩ ⟨⟨_, rfl, _, rfl, .one (.cons (.p (.refl _)) (.cons (.p (.refl _)) (.nil)))⟩, ⟨_, rfl, _, rfl, .one (.cons (.p (.refl _)) (.cons (.frz rfl (by rfl)) (.cons (.frz rfl (by rfl)) .nil)))⟩, trivial⟩) ?_
   refine awp_sr [35, 45] (by rw [hC]; rfl) fun k hk => ?_
   simp (maxSteps := 9^9) (disch := (try simp only [lens]); omega) only [argSl, sm, ↓amb, mark_eq, simprocAttr, sz27, dx, en83, en58]
   repeat refine an ?_
   refine hk _ ?_; clear hk k
   refine awp_ret ?_
   refine rethc rfl rfl sz27 ?_
   simp (maxSteps := 9^9) (disch := (try simp only [lens]); omega) only [argSl, sm, ↓amb, mark_eq, simprocAttr, sz27, dx, en83, en58]
   exact le_of [] (by rfl) (by rfl) ⟨⟨_, rfl, .p (.of_eq (by rw [Pl.batX_eq]))⟩, trivial⟩ ⟨⟨_, rfl, _, rfl, .one (.cons (.p (.refl _)) (.cons (.p (.of_eq (by unfold Pl.batS; congr 2; omega))) .nil))⟩, trivial⟩
set_option maxHeartbeats 4000000 in
theorem c_batchx (c : Bool) (b : List Int) (at' : Nat) (hb8 : ∀ x, x ∈ b → Pl.B8 x) (hl : b.length ≤ 1000000) (ha : at' ≤ b.length) (e : Int × Int) (hq : Pl.batE b at' = some e) : HXCall Try.prog 49 [.ptr 7 2 0 0] [(7, (.row 2 [[.p (.seq c (b.map fun x => [.lit (.int .u8 x)])), .p (iV ((at' : Nat) : Int))]]))] (some (wrg e)) (.p (.lit undef)) [] := by
 have hz := pos_at hb8 at'
 unfold Pl.B8 at hz
 have hnb := Pl.num2_b hb8 (at' + 1)
 refine hxcall_of_awp Try.func49 rfl (by simp [Try.ntmps49]) fun C hC => ?_
 refine awp_le (le_keep [0]) ?_
 simp only [kp, argSl, simprocAttr]
 refine awp_sr [35, 45] (by rw [hC]; rfl) fun k hk => ?_
 simp (maxSteps := 9^9) (disch := (try simp only [lens]); omega) only [argSl, sm, ↓amb, mark_eq, simprocAttr, vr27, dx, en83, en58]
 repeat refine an ?_
 refine hk _ ?_; clear hk k
 refine awp_le (le_keep [0, 2]) ?_
 simp only [kp, argSl, simprocAttr]
 rcases Pl.some_or (Pl.kindE 3 b at') with ⟨e1, v1⟩ | v1
 ·refine awp_srx [35, 45] 1 (by rw [hC]; rfl) rfl rfl fun k hk => ?_
  simp (maxSteps := 9^9) (disch := (try simp only [lens]); omega) only [argSl, sm, ↓amb, mark_eq, simprocAttr, en82, fl27_0, sz3, ↓xmb, xm, dx, en83, en58]
  repeat refine an ?_
  refine callX_h (c_kind3x c b _ hb8 hl ha e1 v1) [7] [] (by first | rfl | (simp only [hm]; done)) (by first | rfl | (simp [namesOk, lkp]; done)) ?_ ?_ ?_ ?_ ?_ ?_ ?_
  (iterate 6 (focus (first | trivial | (intro n hn; cases hn; done) | (simp (maxSteps := 9^9) (disch := (try simp only [lens]); omega) only [argSl, sm, ↓amb, mark_eq, simprocAttr, en82, fl27_0, sz3, ↓xmb, xm, dx, en83, en58, hmx, List.filter_cons, Nat.reduceBNe, imp_self, implies_true]; done))))
  simp (maxSteps := 9^9) (disch := (try simp only [lens]); omega) only [argSl, sm, ↓amb, mark_eq, simprocAttr, en82, fl27_0, sz3, ↓xmb, xm, dx, en83, en58, hm, List.filter_cons, List.filter_nil, Nat.reduceBNe, Option.map_none]
  repeat refine an ?_
  refine hk _ _ ?_
  clear hk k
  obtain rfl := Pl.bat_1 hq v1
  exact retx_some (hp' := []) (le_of [] (by rfl) (by rfl) ⟨⟨_, rfl, .p (.refl _)⟩, trivial⟩ trivial)
 obtain ⟨w1, w2, w3⟩ := Pl.kind_ok v1
 refine awp_sr [35, 45] (by rw [hC]; rfl) fun k hk => ?_
 simp (maxSteps := 9^9) (disch := (try simp only [lens]); omega) only [argSl, sm, ↓amb, mark_eq, simprocAttr, en82, fl27_0, sz3, dx, en83, en58]
 repeat refine an ?_
 refine callK_h (c_kind3 c b _ hb8 hl ha v1) [7] [] (by first | rfl | (simp only [hm]; done)) (by first | rfl | (simp [namesOk, lkp]; done)) ?_ ?_ ?_ ?_ ?_ ?_ ?_
 (iterate 6 (focus (first | trivial | (intro n hn; cases hn; done) | (simp (maxSteps := 9^9) (disch := (try simp only [lens]); omega) only [argSl, sm, ↓amb, mark_eq, simprocAttr, en82, fl27_0, sz3, dx, en83, en58, hmx, List.filter_cons, Nat.reduceBNe, imp_self, implies_true]; done))))
 simp (maxSteps := 9^9) (disch := (try simp only [lens]); omega) only [argSl, sm, ↓amb, mark_eq, simprocAttr, en82, fl27_0, sz3, dx, en83, en58, hm, List.filter_cons, List.filter_nil, Nat.reduceBNe, Option.map_none]
 repeat refine an ?_
 refine hk _ ?_; clear hk k
 refine awp_le (le_keep [0, 2]) ?_
 simp only [kp, argSl, simprocAttr]
 refine awp_sr [35, 45] (by rw [hC]; rfl) fun k hk => ?_
 simp (maxSteps := 9^9) (disch := (try simp only [lens]); omega) only [argSl, sm, ↓amb, mark_eq, simprocAttr, fl81_1, sz3, dx, en83, en58]
 repeat refine an ?_
 refine hk _ ?_; clear hk k
 refine awp_le (le_keep [0, 2, 3]) ?_
 simp only [kp, argSl, simprocAttr]
 rcases Pl.some_or (Pl.numE b (at' + 1)) with ⟨e1, v2⟩ | v2
 ·refine awp_srx [35, 45] 1 (by rw [hC]; rfl) rfl rfl fun k hk => ?_
  simp (maxSteps := 9^9) (disch := (try simp only [lens]); omega) only [argSl, sm, ↓amb, mark_eq, simprocAttr, en84, ↓xmb, xm, dx, en83, en58]
  repeat refine an ?_
  refine callX_h (c_rnumx c b _ hb8 hl (by omega) e1 v2) [7] [] (by first | rfl | (simp only [hm]; done)) (by first | rfl | (simp [namesOk, lkp]; done)) ?_ ?_ ?_ ?_ ?_ ?_ ?_
  (iterate 6 (focus (first | trivial | (intro n hn; cases hn; done) | (simp (maxSteps := 9^9) (disch := (try simp only [lens]); omega) only [argSl, sm, ↓amb, mark_eq, simprocAttr, en84, ↓xmb, xm, dx, en83, en58, hmx, List.filter_cons, Nat.reduceBNe, imp_self, implies_true]; done))))
  simp (maxSteps := 9^9) (disch := (try simp only [lens]); omega) only [argSl, sm, ↓amb, mark_eq, simprocAttr, en84, ↓xmb, xm, dx, en83, en58, hm, List.filter_cons, List.filter_nil, Nat.reduceBNe, Option.map_none]
  repeat refine an ?_
  refine hk _ _ ?_
  clear hk k
  obtain rfl := Pl.bat_2 hq v1 v2
  exact retx_some (hp' := []) (le_of [] (by rfl) (by rfl) ⟨⟨_, rfl, .p (.refl _)⟩, trivial⟩ trivial)
 have w4 := Pl.num_ok v2
 refine awp_sr [35, 45] (by rw [hC]; rfl) fun k hk => ?_
 simp (maxSteps := 9^9) (disch := (try simp only [lens]); omega) only [argSl, sm, ↓amb, mark_eq, simprocAttr, en84, dx, en83, en58]
 repeat refine an ?_
 refine callK_h (c_rnum c b _ hb8 hl (by omega) v2) [7] [] (by first | rfl | (simp only [hm]; done)) (by first | rfl | (simp [namesOk, lkp]; done)) ?_ ?_ ?_ ?_ ?_ ?_ ?_
 (iterate 6 (focus (first | trivial | (intro n hn; cases hn; done) | (simp (maxSteps := 9^9) (disch := (try simp only [lens]); omega) only [argSl, sm, ↓amb, mark_eq, simprocAttr, en84, dx, en83, en58, hmx, List.filter_cons, Nat.reduceBNe, imp_self, implies_true]; done))))
 simp (maxSteps := 9^9) (disch := (try simp only [lens]); omega) only [argSl, sm, ↓amb, mark_eq, simprocAttr, en84, dx, en83, en58, hm, List.filter_cons, List.filter_nil, Nat.reduceBNe, Option.map_none]
 repeat refine an ?_
 refine hk _ ?_; clear hk k
 refine awp_seq fun k1 h1 => ?_
 refine awp_le (le_keep [0, 2, 3, 4]) ?_
 simp only [kp, argSl, simprocAttr]
 refine awp_sr [35, 45] (by rw [hC]; rfl) fun k hk => ?_
 simp (maxSteps := 9^9) (disch := (try simp only [lens]); omega) only [argSl, sm, ↓amb, mark_eq, simprocAttr, dx, en83, en58]
 repeat refine an ?_
 refine hk _ ?_; clear hk k
 refine awp_cond rfl (fun hb => ?_) (fun hb => ?_)
 ·try simp only [hbx] at hb
  refine awp_rx [35, 45] 3 (by rw [hC]; rfl) rfl rfl fun k hk => ?_
  simp (maxSteps := 9^9) (disch := (try simp only [lens]); omega) only [argSl, sm, ↓amb, mark_eq, simprocAttr, vr77, bt77, pl77_0, pl77_1, tc77, ↓xmb, xm, dx, en83, en58]
  repeat refine an ?_
  refine hk _ _ ?_
  clear hk k
  obtain rfl := Pl.bat_3 hq v1 v2 (by omega)
  exact retx_some (hp' := []) (le_of [] (by rfl) (by rfl) ⟨⟨_, rfl, .p (.refl _)⟩, trivial⟩ trivial)
 ·try simp only [hbx] at hb
  refine awp_skip ?_
  refine h1 _ ?_; clear h1 k1
  refine awp_seq fun k2 h2 => ?_
  refine awp_le (le_keep [0, 2, 4]) ?_
  simp only [kp, argSl, simprocAttr]
  refine awp_ownCs 2 2 1 rfl rfl rfl ?_
  simp only [am, List.set_cons_succ, List.set_cons_zero, Nat.reduceEqDiff, ↓reduceIte, reduceCtorEq, Nat.reduceAdd, Nat.reduceMul]
  refine awp_ownCs 2 3 2 rfl rfl rfl ?_
  have hbn : ((Pl.batN b at' : Nat) : Int) = Pl.num2 b (at' + 1) := by unfold Pl.batN; omega
  have v4 := Pl.bat_4 hq v1 v2 (by omega)
  refine awp_sr [35, 45] (by rw [hC]; rfl) fun k hk => ?_
  simp (maxSteps := 9^9) (disch := (try simp only [lens]); omega) only [argSl, sm, ↓amb, mark_eq, simprocAttr, dx, en83, en58]
  repeat refine an ?_
  refine hk _ ?_; clear hk k
  refine awp_block ?_
  refine awp_loop (σ := Nat) (fun n => n ≤ Pl.batN b at' ∧ Pl.itsE (Pl.isQ b at') b (at' + 3) n = none ∧ (at' + 3 + Pl.itS (Pl.isQ b at') * n) ≤ b.length) (fun (n : Nat) => ⟨[(0, (.ptr 7 2 0 0)), (2, (.ptr 0 3 0 0)), (19, (.p (iV (Pl.batN b at')))), (20, (.p (iV (n : Int))))], [(7, (.row 2 [[.p (.seq c (b.map fun x => [.lit (.int .u8 x)])), .p (iV (((at' + 3 + Pl.itS (Pl.isQ b at') * n) : Nat) : Int))]])), (0, (.row 3 [[.p (iV (b.getD at' 0)), .own 1, .own 2]])), (1, (.row 2 (lift ((Pl.eN b at' n).map edgeC)))), (2, (.row 3 (lift ((Pl.aN b at' n).map askC))))], 1⟩) (fun n => Pl.batN b at' - n) 0 ?_ ?_ fun n hn => ?_
  ·exact ⟨Nat.zero_le _, rfl, by rw [Nat.mul_zero]; omega⟩
  ·exact le_of [(0, _), (1, _), (2, _)] (by rfl) (by rfl) ⟨⟨_, rfl, .ptr rfl⟩, ⟨_, rfl, .ptr rfl⟩, ⟨_, rfl, .oe⟩, ⟨_, rfl, .oe⟩, trivial⟩ ⟨⟨_, rfl, _, rfl, .one (.cons (.p (.refl _)) (.cons (.p (.of_eq (by first | rfl | (congr 2; rw [hS, Nat.mul_succ]; omega) | trace_state))) .nil))⟩, ⟨_, rfl, _, rfl, .one (.cons (.p (.refl _)) (.cons (.own rfl) (.cons (.own rfl) .nil)))⟩, ⟨_, rfl, _, rfl, .liftE (by first | rfl | (rw [Pl.eN_0]; rfl) | (rw [Pl.eN_q hQ, Pl.eN_q hQ]; done) | (rw [hS, Pl.eN_s hQ, List.map_append]; rfl) | trace_state)⟩, ⟨_, rfl, _, rfl, .liftE (by first | rfl | (rw [Pl.aN_0]; rfl) | (rw [Pl.aN_e hQ, Pl.aN_e hQ]; done) | (rw [hS, Pl.aN_s hQ, List.map_append]; rfl) | trace_state)⟩, trivial⟩
  obtain ⟨hn1, hn2, hn3⟩ := hn
  have hel := Pl.eN_len b at' n
  have hal := Pl.aN_len b at' n
  refine awp_le (le_keep [0, 1, 2, 7, 19, 20]) ?_
  simp only [kp, argSl, simprocAttr]
  refine awp_sr [35, 45] (by rw [hC]; rfl) fun k hk => ?_
  simp (maxSteps := 9^9) (disch := (try simp only [lens]); omega) only [argSl, sm, ↓amb, mark_eq, simprocAttr, dx, en83, en58]
  repeat refine an ?_
  refine hk _ ?_; clear hk k
  refine awp_seq fun k4 h4 => ?_
  refine awp_cond rfl (fun hb => ?_) (fun hb => ?_)
  ·try simp only [hbx] at hb
   refine awp_skip ?_
   refine h4 _ ?_; clear h4 k4
   refine awp_seq fun k5 h5 => ?_
   refine awp_block ?_
   refine awp_le (le_keep [0, 1, 2, 7, 19, 20]) ?_
   simp only [kp, argSl, simprocAttr]
   refine awp_sr [35, 45] (by rw [hC]; rfl) fun k hk => ?_
   simp (maxSteps := 9^9) (disch := (try simp only [lens]); omega) only [argSl, sm, ↓amb, mark_eq, simprocAttr, fl27_0, sz3, dx, en83, en58]
   repeat refine an ?_
   refine hk _ ?_; clear hk k
   refine awp_cond rfl (fun hb => ?_) (fun hb => ?_)
   ·try simp only [hbx] at hb
    have hQ : Pl.isQ b at' = true := decide_eq_true hb
    have hS : Pl.itS (Pl.isQ b at') = 5 := by rw [hQ]; rfl
    rcases Pl.some_or (Pl.kindE 4 b (at' + 3 + Pl.itS (Pl.isQ b at') * n)) with ⟨e1, y1⟩ | y1
    ·refine awp_dxe [35, 45] ⟨[0, 1, 0, 4, 0, 28, 0, 124, 252, 508, 1023, 2047, 4095], [], [3, 5, 7, 10], [(3, 5), (3, 7), (5, 7), (3, 10), (5, 10), (7, 10)], some [7, 2]⟩ 3 [5, 7, 8, 9, 10, 11, 12] [2] (by rw [hC]; rfl) (by kernel_rfl) (by kernel_rfl) (by kernel_rfl) (by kernel_rfl) fun k hk => ?_
     simp (maxSteps := 9^9) (disch := (try simp only [lens]); omega) only [argSl, sm, ↓amb, mark_eq, simprocAttr, fl27_2, sz25, en82, en84, vr45, bt45, pl45_0, pl45_1, pl45_2, el25, by45, ↓xmb, xm, dx, en83, en58]
     repeat refine an ?_
     refine callX_h (c_kind4x c b _ hb8 hl hn3 e1 y1) [7] [] (by first | rfl | (simp only [hm]; done)) (by first | rfl | (simp [namesOk, lkp]; done)) ?_ ?_ ?_ ?_ ?_ ?_ ?_
     (iterate 6 (focus (first | trivial | (intro n hn; cases hn; done) | (simp (maxSteps := 9^9) (disch := (try simp only [lens]); omega) only [argSl, sm, ↓amb, mark_eq, simprocAttr, fl27_2, sz25, en82, en84, vr45, bt45, pl45_0, pl45_1, pl45_2, el25, by45, ↓xmb, xm, dx, en83, en58, hmx, List.filter_cons, Nat.reduceBNe, imp_self, implies_true]; done))))
     simp (maxSteps := 9^9) (disch := (try simp only [lens]); omega) only [argSl, sm, ↓amb, mark_eq, simprocAttr, fl27_2, sz25, en82, en84, vr45, bt45, pl45_0, pl45_1, pl45_2, el25, by45, ↓xmb, xm, dx, en83, en58, hm, List.filter_cons, List.filter_nil, Nat.reduceBNe, Option.map_none]
     repeat refine an ?_
     refine hk _ _ ?_
     clear hk k
     obtain rfl := Pl.its_is v4 hn2 (by rw [hQ] at *; exact Pl.ask_1 y1) (by omega)
     exact retx_some (hp' := []) (le_of [] (by rfl) (by rfl) ⟨⟨_, rfl, .p (.refl _)⟩, trivial⟩ trivial)
    obtain ⟨z1, _, _⟩ := Pl.kind_ok y1
    rcases Pl.some_or (Pl.numE b ((at' + 3 + Pl.itS (Pl.isQ b at') * n) + 1)) with ⟨e1, y2⟩ | y2
    ·refine awp_dxe [35, 45] ⟨[0, 1, 0, 4, 0, 28, 0, 124, 252, 508, 1023, 2047, 4095], [], [3, 5, 7, 10], [(3, 5), (3, 7), (5, 7), (3, 10), (5, 10), (7, 10)], some [7, 2]⟩ 5 [7, 8, 9, 10, 11, 12] [2, 3, 4] (by rw [hC]; rfl) (by kernel_rfl) (by kernel_rfl) (by kernel_rfl) (by kernel_rfl) fun k hk => ?_
     simp (maxSteps := 9^9) (disch := (try simp only [lens]); omega) only [argSl, sm, ↓amb, mark_eq, simprocAttr, fl27_2, sz25, en82, en84, vr45, bt45, pl45_0, pl45_1, pl45_2, el25, by45, ↓xmb, xm, dx, en83, en58]
     repeat refine an ?_
     refine callK_h (c_kind4 c b _ hb8 hl hn3 y1) [7] [] (by first | rfl | (simp only [hm]; done)) (by first | rfl | (simp [namesOk, lkp]; done)) ?_ ?_ ?_ ?_ ?_ ?_ ?_
     (iterate 6 (focus (first | trivial | (intro n hn; cases hn; done) | (simp (maxSteps := 9^9) (disch := (try simp only [lens]); omega) only [argSl, sm, ↓amb, mark_eq, simprocAttr, fl27_2, sz25, en82, en84, vr45, bt45, pl45_0, pl45_1, pl45_2, el25, by45, ↓xmb, xm, dx, en83, en58, hmx, List.filter_cons, Nat.reduceBNe, imp_self, implies_true]; done))))
     simp (maxSteps := 9^9) (disch := (try simp only [lens]); omega) only [argSl, sm, ↓amb, mark_eq, simprocAttr, fl27_2, sz25, en82, en84, vr45, bt45, pl45_0, pl45_1, pl45_2, el25, by45, ↓xmb, xm, dx, en83, en58, hm, List.filter_cons, List.filter_nil, Nat.reduceBNe, Option.map_none]
     repeat refine an ?_
     refine callX_h (c_rnumx c b _ hb8 hl (by omega) e1 y2) [7] [] (by first | rfl | (simp only [hm]; done)) (by first | rfl | (simp [namesOk, lkp]; done)) ?_ ?_ ?_ ?_ ?_ ?_ ?_
     (iterate 6 (focus (first | trivial | (intro n hn; cases hn; done) | (simp (maxSteps := 9^9) (disch := (try simp only [lens]); omega) only [argSl, sm, ↓amb, mark_eq, simprocAttr, fl27_2, sz25, en82, en84, vr45, bt45, pl45_0, pl45_1, pl45_2, el25, by45, ↓xmb, xm, dx, en83, en58, hmx, List.filter_cons, Nat.reduceBNe, imp_self, implies_true]; done))))
     simp (maxSteps := 9^9) (disch := (try simp only [lens]); omega) only [argSl, sm, ↓amb, mark_eq, simprocAttr, fl27_2, sz25, en82, en84, vr45, bt45, pl45_0, pl45_1, pl45_2, el25, by45, ↓xmb, xm, dx, en83, en58, hm, List.filter_cons, List.filter_nil, Nat.reduceBNe, Option.map_none]
     repeat refine an ?_
     refine hk _ _ ?_
     clear hk k
     obtain rfl := Pl.its_is v4 hn2 (by rw [hQ] at *; exact Pl.ask_2 y1 y2) (by omega)
     exact retx_some (hp' := []) (le_of [] (by rfl) (by rfl) ⟨⟨_, rfl, .p (.refl _)⟩, trivial⟩ trivial)
    have z2 := Pl.num_ok y2
    rcases Pl.some_or (Pl.numE b ((at' + 3 + Pl.itS (Pl.isQ b at') * n) + 3)) with ⟨e1, y3⟩ | y3
    ·refine awp_dxe [35, 45] ⟨[0, 1, 0, 4, 0, 28, 0, 124, 252, 508, 1023, 2047, 4095], [], [3, 5, 7, 10], [(3, 5), (3, 7), (5, 7), (3, 10), (5, 10), (7, 10)], some [7, 2]⟩ 7 [8, 9, 10, 11, 12] [2, 3, 4, 5, 6] (by rw [hC]; rfl) (by kernel_rfl) (by kernel_rfl) (by kernel_rfl) (by kernel_rfl) fun k hk => ?_
     simp (maxSteps := 9^9) (disch := (try simp only [lens]); omega) only [argSl, sm, ↓amb, mark_eq, simprocAttr, fl27_2, sz25, en82, en84, vr45, bt45, pl45_0, pl45_1, pl45_2, el25, by45, ↓xmb, xm, dx, en83, en58]
     repeat refine an ?_
     refine callK_h (c_kind4 c b _ hb8 hl hn3 y1) [7] [] (by first | rfl | (simp only [hm]; done)) (by first | rfl | (simp [namesOk, lkp]; done)) ?_ ?_ ?_ ?_ ?_ ?_ ?_
     (iterate 6 (focus (first | trivial | (intro n hn; cases hn; done) | (simp (maxSteps := 9^9) (disch := (try simp only [lens]); omega) only [argSl, sm, ↓amb, mark_eq, simprocAttr, fl27_2, sz25, en82, en84, vr45, bt45, pl45_0, pl45_1, pl45_2, el25, by45, ↓xmb, xm, dx, en83, en58, hmx, List.filter_cons, Nat.reduceBNe, imp_self, implies_true]; done))))
     simp (maxSteps := 9^9) (disch := (try simp only [lens]); omega) only [argSl, sm, ↓amb, mark_eq, simprocAttr, fl27_2, sz25, en82, en84, vr45, bt45, pl45_0, pl45_1, pl45_2, el25, by45, ↓xmb, xm, dx, en83, en58, hm, List.filter_cons, List.filter_nil, Nat.reduceBNe, Option.map_none]
     repeat refine an ?_
     refine callK_h (c_rnum c b _ hb8 hl (by omega) y2) [7] [] (by first | rfl | (simp only [hm]; done)) (by first | rfl | (simp [namesOk, lkp]; done)) ?_ ?_ ?_ ?_ ?_ ?_ ?_
     (iterate 6 (focus (first | trivial | (intro n hn; cases hn; done) | (simp (maxSteps := 9^9) (disch := (try simp only [lens]); omega) only [argSl, sm, ↓amb, mark_eq, simprocAttr, fl27_2, sz25, en82, en84, vr45, bt45, pl45_0, pl45_1, pl45_2, el25, by45, ↓xmb, xm, dx, en83, en58, hmx, List.filter_cons, Nat.reduceBNe, imp_self, implies_true]; done))))
     simp (maxSteps := 9^9) (disch := (try simp only [lens]); omega) only [argSl, sm, ↓amb, mark_eq, simprocAttr, fl27_2, sz25, en82, en84, vr45, bt45, pl45_0, pl45_1, pl45_2, el25, by45, ↓xmb, xm, dx, en83, en58, hm, List.filter_cons, List.filter_nil, Nat.reduceBNe, Option.map_none]
     repeat refine an ?_
     refine callX_h (c_rnumx c b _ hb8 hl (by omega) e1 y3) [7] [] (by first | rfl | (simp only [hm]; done)) (by first | rfl | (simp [namesOk, lkp]; done)) ?_ ?_ ?_ ?_ ?_ ?_ ?_
     (iterate 6 (focus (first | trivial | (intro n hn; cases hn; done) | (simp (maxSteps := 9^9) (disch := (try simp only [lens]); omega) only [argSl, sm, ↓amb, mark_eq, simprocAttr, fl27_2, sz25, en82, en84, vr45, bt45, pl45_0, pl45_1, pl45_2, el25, by45, ↓xmb, xm, dx, en83, en58, hmx, List.filter_cons, Nat.reduceBNe, imp_self, implies_true]; done))))
     simp (maxSteps := 9^9) (disch := (try simp only [lens]); omega) only [argSl, sm, ↓amb, mark_eq, simprocAttr, fl27_2, sz25, en82, en84, vr45, bt45, pl45_0, pl45_1, pl45_2, el25, by45, ↓xmb, xm, dx, en83, en58, hm, List.filter_cons, List.filter_nil, Nat.reduceBNe, Option.map_none]
     repeat refine an ?_
     refine hk _ _ ?_
     clear hk k
     obtain rfl := Pl.its_is v4 hn2 (by rw [hQ] at *; exact Pl.ask_3 y1 y2 y3) (by omega)
     exact retx_some (hp' := []) (le_of [] (by rfl) (by rfl) ⟨⟨_, rfl, .p (.refl _)⟩, trivial⟩ trivial)
    have hy3 := Pl.num_ok y3
    have hi0 : Pl.itE (Pl.isQ b at') b (at' + 3 + Pl.itS (Pl.isQ b at') * n) = none := by rw [hQ] at *; exact Pl.ask_no y1 y2 y3
    refine awp_dL [35, 45] ⟨[0, 1, 0, 4, 0, 28, 0, 124, 252, 508, 1023, 2047, 4095], [], [3, 5, 7, 10], [(3, 5), (3, 7), (5, 7), (3, 10), (5, 10), (7, 10)], some [7, 2]⟩ 12 (by rw [hC]; rfl) (by kernel_rfl) (by kernel_rfl) (by kernel_rfl) (by kernel_rfl) rfl rfl fun k hk => ?_
    simp (maxSteps := 9^9) (disch := (try simp only [lens]); omega) only [argSl, sm, ↓amb, mark_eq, simprocAttr, fl27_2, sz25, en82, en84, vr45, bt45, pl45_0, pl45_1, pl45_2, el25, by45, ↓xmb, dx, en83, en58]
    repeat refine an ?_
    refine callK_h (c_kind4 c b _ hb8 hl hn3 y1) [7] [] (by first | rfl | (simp only [hm]; done)) (by first | rfl | (simp [namesOk, lkp]; done)) ?_ ?_ ?_ ?_ ?_ ?_ ?_
    (iterate 6 (focus (first | trivial | (intro n hn; cases hn; done) | (simp (maxSteps := 9^9) (disch := (try simp only [lens]); omega) only [argSl, sm, ↓amb, mark_eq, simprocAttr, fl27_2, sz25, en82, en84, vr45, bt45, pl45_0, pl45_1, pl45_2, el25, by45, ↓xmb, dx, en83, en58, hmx, List.filter_cons, Nat.reduceBNe, imp_self, implies_true]; done))))
    simp (maxSteps := 9^9) (disch := (try simp only [lens]); omega) only [argSl, sm, ↓amb, mark_eq, simprocAttr, fl27_2, sz25, en82, en84, vr45, bt45, pl45_0, pl45_1, pl45_2, el25, by45, ↓xmb, dx, en83, en58, hm, List.filter_cons, List.filter_nil, Nat.reduceBNe, Option.map_none]
    repeat refine an ?_
    refine callK_h (c_rnum c b _ hb8 hl (by omega) y2) [7] [] (by first | rfl | (simp only [hm]; done)) (by first | rfl | (simp [namesOk, lkp]; done)) ?_ ?_ ?_ ?_ ?_ ?_ ?_
    (iterate 6 (focus (first | trivial | (intro n hn; cases hn; done) | (simp (maxSteps := 9^9) (disch := (try simp only [lens]); omega) only [argSl, sm, ↓amb, mark_eq, simprocAttr, fl27_2, sz25, en82, en84, vr45, bt45, pl45_0, pl45_1, pl45_2, el25, by45, ↓xmb, dx, en83, en58, hmx, List.filter_cons, Nat.reduceBNe, imp_self, implies_true]; done))))
    simp (maxSteps := 9^9) (disch := (try simp only [lens]); omega) only [argSl, sm, ↓amb, mark_eq, simprocAttr, fl27_2, sz25, en82, en84, vr45, bt45, pl45_0, pl45_1, pl45_2, el25, by45, ↓xmb, dx, en83, en58, hm, List.filter_cons, List.filter_nil, Nat.reduceBNe, Option.map_none]
    repeat refine an ?_
    refine callK_h (c_rnum c b _ hb8 hl (by omega) y3) [7] [] (by first | rfl | (simp only [hm]; done)) (by first | rfl | (simp [namesOk, lkp]; done)) ?_ ?_ ?_ ?_ ?_ ?_ ?_
    (iterate 6 (focus (first | trivial | (intro n hn; cases hn; done) | (simp (maxSteps := 9^9) (disch := (try simp only [lens]); omega) only [argSl, sm, ↓amb, mark_eq, simprocAttr, fl27_2, sz25, en82, en84, vr45, bt45, pl45_0, pl45_1, pl45_2, el25, by45, ↓xmb, dx, en83, en58, hmx, List.filter_cons, Nat.reduceBNe, imp_self, implies_true]; done))))
    simp (maxSteps := 9^9) (disch := (try simp only [lens]); omega) only [argSl, sm, ↓amb, mark_eq, simprocAttr, fl27_2, sz25, en82, en84, vr45, bt45, pl45_0, pl45_1, pl45_2, el25, by45, ↓xmb, dx, en83, en58, hm, List.filter_cons, List.filter_nil, Nat.reduceBNe, Option.map_none]
    repeat refine an ?_
    refine hk _ ?_; clear hk k
    refine h5 _ ?_; clear h5 k5
    refine awp_region [35, 45] (by rw [hC]; rfl) fun k hk => ?_
    simp (maxSteps := 9^9) (disch := (try simp only [lens]); omega) only [argSl, sm, ↓amb, mark_eq, simprocAttr, dx, en83, en58]
    repeat refine an ?_
    refine hk _ ?_; clear hk k
    refine ⟨n + 1, ⟨by omega, Pl.itsE_ok hn2 hi0, by rw [hS, Nat.mul_succ]; rw [hS] at hy3; omega⟩, le_of [(0, _), (1, _), (2, _)] (by rfl) (by rfl) ⟨⟨_, rfl, .ptr rfl⟩, ⟨_, rfl, .ptr rfl⟩, ⟨_, rfl, .oe⟩, ⟨_, rfl, .oe⟩, trivial⟩ ⟨⟨_, rfl, _, rfl, .one (.cons (.p (.refl _)) (.cons (.p (.of_eq (by first | rfl | (congr 2; rw [hS, Nat.mul_succ]; omega) | trace_state))) .nil))⟩, ⟨_, rfl, _, rfl, .one (.cons (.p (.refl _)) (.cons (.own rfl) (.cons (.own rfl) .nil)))⟩, ⟨_, rfl, _, rfl, .liftE (by first | rfl | (rw [Pl.eN_0]; rfl) | (rw [Pl.eN_q hQ, Pl.eN_q hQ]; done) | (rw [hS, Pl.eN_s hQ, List.map_append]; rfl) | trace_state)⟩, ⟨_, rfl, _, rfl, .liftE (by first | rfl | (rw [Pl.aN_0]; rfl) | (rw [Pl.aN_e hQ, Pl.aN_e hQ]; done) | (rw [hS, Pl.aN_s hQ, List.map_append]; rfl) | trace_state)⟩, trivial⟩, by omega⟩
   ·try simp only [hbx] at hb
    have hQ : Pl.isQ b at' = false := decide_eq_false hb
    have hS : Pl.itS (Pl.isQ b at') = 4 := by rw [hQ]; rfl
    rcases Pl.some_or (Pl.numE b (at' + 3 + Pl.itS (Pl.isQ b at') * n)) with ⟨e1, y1⟩ | y1
    ·refine awp_dxe [35, 45] ⟨[0, 1, 0, 4, 0, 28, 60, 124, 255, 511, 1023], [], [3, 5, 8], [(3, 5), (3, 8), (5, 8)], some [7, 1]⟩ 3 [5, 6, 7, 8, 9, 10] [2] (by rw [hC]; rfl) (by kernel_rfl) (by kernel_rfl) (by kernel_rfl) (by kernel_rfl) fun k hk => ?_
     simp (maxSteps := 9^9) (disch := (try simp only [lens]); omega) only [argSl, sm, ↓amb, mark_eq, simprocAttr, fl27_1, sz24, en84, vr47, bt47, pl47_0, pl47_1, el24, by47, ↓xmb, xm, dx, en83, en58]
     repeat refine an ?_
     refine callX_h (c_rnumx c b _ hb8 hl hn3 e1 y1) [7] [] (by first | rfl | (simp only [hm]; done)) (by first | rfl | (simp [namesOk, lkp]; done)) ?_ ?_ ?_ ?_ ?_ ?_ ?_
     (iterate 6 (focus (first | trivial | (intro n hn; cases hn; done) | (simp (maxSteps := 9^9) (disch := (try simp only [lens]); omega) only [argSl, sm, ↓amb, mark_eq, simprocAttr, fl27_1, sz24, en84, vr47, bt47, pl47_0, pl47_1, el24, by47, ↓xmb, xm, dx, en83, en58, hmx, List.filter_cons, Nat.reduceBNe, imp_self, implies_true]; done))))
     simp (maxSteps := 9^9) (disch := (try simp only [lens]); omega) only [argSl, sm, ↓amb, mark_eq, simprocAttr, fl27_1, sz24, en84, vr47, bt47, pl47_0, pl47_1, el24, by47, ↓xmb, xm, dx, en83, en58, hm, List.filter_cons, List.filter_nil, Nat.reduceBNe, Option.map_none]
     repeat refine an ?_
     refine hk _ _ ?_
     clear hk k
     obtain rfl := Pl.its_is v4 hn2 (by rw [hQ] at *; exact Pl.edge_1 y1) (by omega)
     exact retx_some (hp' := []) (le_of [] (by rfl) (by rfl) ⟨⟨_, rfl, .p (.refl _)⟩, trivial⟩ trivial)
    have z2 := Pl.num_ok y1
    rcases Pl.some_or (Pl.numE b ((at' + 3 + Pl.itS (Pl.isQ b at') * n) + 2)) with ⟨e1, y2⟩ | y2
    ·refine awp_dxe [35, 45] ⟨[0, 1, 0, 4, 0, 28, 60, 124, 255, 511, 1023], [], [3, 5, 8], [(3, 5), (3, 8), (5, 8)], some [7, 1]⟩ 5 [6, 7, 8, 9, 10] [2, 3, 4] (by rw [hC]; rfl) (by kernel_rfl) (by kernel_rfl) (by kernel_rfl) (by kernel_rfl) fun k hk => ?_
     simp (maxSteps := 9^9) (disch := (try simp only [lens]); omega) only [argSl, sm, ↓amb, mark_eq, simprocAttr, fl27_1, sz24, en84, vr47, bt47, pl47_0, pl47_1, el24, by47, ↓xmb, xm, dx, en83, en58]
     repeat refine an ?_
     refine callK_h (c_rnum c b _ hb8 hl hn3 y1) [7] [] (by first | rfl | (simp only [hm]; done)) (by first | rfl | (simp [namesOk, lkp]; done)) ?_ ?_ ?_ ?_ ?_ ?_ ?_
     (iterate 6 (focus (first | trivial | (intro n hn; cases hn; done) | (simp (maxSteps := 9^9) (disch := (try simp only [lens]); omega) only [argSl, sm, ↓amb, mark_eq, simprocAttr, fl27_1, sz24, en84, vr47, bt47, pl47_0, pl47_1, el24, by47, ↓xmb, xm, dx, en83, en58, hmx, List.filter_cons, Nat.reduceBNe, imp_self, implies_true]; done))))
     simp (maxSteps := 9^9) (disch := (try simp only [lens]); omega) only [argSl, sm, ↓amb, mark_eq, simprocAttr, fl27_1, sz24, en84, vr47, bt47, pl47_0, pl47_1, el24, by47, ↓xmb, xm, dx, en83, en58, hm, List.filter_cons, List.filter_nil, Nat.reduceBNe, Option.map_none]
     repeat refine an ?_
     refine callX_h (c_rnumx c b _ hb8 hl (by omega) e1 y2) [7] [] (by first | rfl | (simp only [hm]; done)) (by first | rfl | (simp [namesOk, lkp]; done)) ?_ ?_ ?_ ?_ ?_ ?_ ?_
     (iterate 6 (focus (first | trivial | (intro n hn; cases hn; done) | (simp (maxSteps := 9^9) (disch := (try simp only [lens]); omega) only [argSl, sm, ↓amb, mark_eq, simprocAttr, fl27_1, sz24, en84, vr47, bt47, pl47_0, pl47_1, el24, by47, ↓xmb, xm, dx, en83, en58, hmx, List.filter_cons, Nat.reduceBNe, imp_self, implies_true]; done))))
     simp (maxSteps := 9^9) (disch := (try simp only [lens]); omega) only [argSl, sm, ↓amb, mark_eq, simprocAttr, fl27_1, sz24, en84, vr47, bt47, pl47_0, pl47_1, el24, by47, ↓xmb, xm, dx, en83, en58, hm, List.filter_cons, List.filter_nil, Nat.reduceBNe, Option.map_none]
     repeat refine an ?_
     refine hk _ _ ?_
     clear hk k
     obtain rfl := Pl.its_is v4 hn2 (by rw [hQ] at *; exact Pl.edge_2 y1 y2) (by omega)
     exact retx_some (hp' := []) (le_of [] (by rfl) (by rfl) ⟨⟨_, rfl, .p (.refl _)⟩, trivial⟩ trivial)
    have hy3 := Pl.num_ok y2
    have hi0 : Pl.itE (Pl.isQ b at') b (at' + 3 + Pl.itS (Pl.isQ b at') * n) = none := by rw [hQ] at *; exact Pl.edge_no y1 y2
    refine awp_dL [35, 45] ⟨[0, 1, 0, 4, 0, 28, 60, 124, 255, 511, 1023], [], [3, 5, 8], [(3, 5), (3, 8), (5, 8)], some [7, 1]⟩ 10 (by rw [hC]; rfl) (by kernel_rfl) (by kernel_rfl) (by kernel_rfl) (by kernel_rfl) rfl rfl fun k hk => ?_
    simp (maxSteps := 9^9) (disch := (try simp only [lens]); omega) only [argSl, sm, ↓amb, mark_eq, simprocAttr, fl27_1, sz24, en84, vr47, bt47, pl47_0, pl47_1, el24, by47, ↓xmb, dx, en83, en58]
    repeat refine an ?_
    refine callK_h (c_rnum c b _ hb8 hl hn3 y1) [7] [] (by first | rfl | (simp only [hm]; done)) (by first | rfl | (simp [namesOk, lkp]; done)) ?_ ?_ ?_ ?_ ?_ ?_ ?_
    (iterate 6 (focus (first | trivial | (intro n hn; cases hn; done) | (simp (maxSteps := 9^9) (disch := (try simp only [lens]); omega) only [argSl, sm, ↓amb, mark_eq, simprocAttr, fl27_1, sz24, en84, vr47, bt47, pl47_0, pl47_1, el24, by47, ↓xmb, dx, en83, en58, hmx, List.filter_cons, Nat.reduceBNe, imp_self, implies_true]; done))))
    simp (maxSteps := 9^9) (disch := (try simp only [lens]); omega) only [argSl, sm, ↓amb, mark_eq, simprocAttr, fl27_1, sz24, en84, vr47, bt47, pl47_0, pl47_1, el24, by47, ↓xmb, dx, en83, en58, hm, List.filter_cons, List.filter_nil, Nat.reduceBNe, Option.map_none]
    repeat refine an ?_
    refine callK_h (c_rnum c b _ hb8 hl (by omega) y2) [7] [] (by first | rfl | (simp only [hm]; done)) (by first | rfl | (simp [namesOk, lkp]; done)) ?_ ?_ ?_ ?_ ?_ ?_ ?_
    (iterate 6 (focus (first | trivial | (intro n hn; cases hn; done) | (simp (maxSteps := 9^9) (disch := (try simp only [lens]); omega) only [argSl, sm, ↓amb, mark_eq, simprocAttr, fl27_1, sz24, en84, vr47, bt47, pl47_0, pl47_1, el24, by47, ↓xmb, dx, en83, en58, hmx, List.filter_cons, Nat.reduceBNe, imp_self, implies_true]; done))))
    simp (maxSteps := 9^9) (disch := (try simp only [lens]); omega) only [argSl, sm, ↓amb, mark_eq, simprocAttr, fl27_1, sz24, en84, vr47, bt47, pl47_0, pl47_1, el24, by47, ↓xmb, dx, en83, en58, hm, List.filter_cons, List.filter_nil, Nat.reduceBNe, Option.map_none]
    repeat refine an ?_
    refine hk _ ?_; clear hk k
    refine h5 _ ?_; clear h5 k5
    refine awp_region [35, 45] (by rw [hC]; rfl) fun k hk => ?_
    simp (maxSteps := 9^9) (disch := (try simp only [lens]); omega) only [argSl, sm, ↓amb, mark_eq, simprocAttr, dx, en83, en58]
    repeat refine an ?_
    refine hk _ ?_; clear hk k
    refine ⟨n + 1, ⟨by omega, Pl.itsE_ok hn2 hi0, by rw [hS, Nat.mul_succ]; rw [hS] at hy3; omega⟩, le_of [(0, _), (1, _), (2, _)] (by rfl) (by rfl) ⟨⟨_, rfl, .ptr rfl⟩, ⟨_, rfl, .ptr rfl⟩, ⟨_, rfl, .oe⟩, ⟨_, rfl, .oe⟩, trivial⟩ ⟨⟨_, rfl, _, rfl, .one (.cons (.p (.refl _)) (.cons (.p (.of_eq (by first | rfl | (congr 2; rw [hS, Nat.mul_succ]; omega) | trace_state))) .nil))⟩, ⟨_, rfl, _, rfl, .one (.cons (.p (.refl _)) (.cons (.own rfl) (.cons (.own rfl) .nil)))⟩, ⟨_, rfl, _, rfl, .liftE (by first | rfl | (rw [Pl.eN_0]; rfl) | (rw [Pl.eN_q hQ, Pl.eN_q hQ]; done) | (rw [hS, Pl.eN_s hQ, List.map_append]; rfl) | trace_state)⟩, ⟨_, rfl, _, rfl, .liftE (by first | rfl | (rw [Pl.aN_0]; rfl) | (rw [Pl.aN_e hQ, Pl.aN_e hQ]; done) | (rw [hS, Pl.aN_s hQ, List.map_append]; rfl) | trace_state)⟩, trivial⟩, by omega⟩
  ·((try simp only [hbx] at hb); obtain rfl : n = Pl.batN b at' := (by omega); rw [v4] at hn2; cases hn2)
end Go.Proofs.Ytjkkjiaeeobnkaa
end
section
set_option linter.unusedSimpArgs false
set_option linter.unusedVariables false
set_option maxRecDepth 100000
namespace Go.Proofs.Ytjkkjiaeeobnkaa
open Go.Am Go.Proofs
theorem constW (a b : Int) : constAV (.agg #[.int .i64 a, .int .i64 b]) = .p (.agg [iV a, iV b]) := by
  have h : ∀ c ∈ (#[Value.int .i64 a, .int .i64 b] : Array Value).toList, c.oneCell' = true := by
    intro c hc
    simp at hc
    rcases hc with rfl | rfl <;> rfl
  simp only [constAV]
  rw [if_pos h]
  rfl
theorem sz77 : tSz Try.prog 77 = some (true, 2) := by kernel_rfl
theorem ta20 : tAny Try.prog 20 = true := by kernel_rfl
set_option maxHeartbeats 4000000 in
theorem c_caughtn : PCall Try.prog 48 [.lit .nilIface] (.agg [iV 0, iV 0]) := by
 refine pcall_of_awp Try.func48 rfl (by simp [Try.ntmps48]) fun C hC => ?_
 refine awp_le (le_keep [0]) ?_
 simp only [kp, argSl, simprocAttr]
 refine awp_sr [] (by rw [hC]; rfl) fun k hk => ?_
 simp (maxSteps := 9^9) (disch := (try simp only [lens]); omega) only [argSl, sm, ↓amb, mark_eq, simprocAttr, vr77, xm, dx]
 repeat refine an ?_
 refine hk _ ?_; clear hk k
 refine awp_seq fun k1 h1 => ?_
 refine awp_le (le_keep [0, 2]) ?_
 simp only [kp, argSl, simprocAttr]
 refine awp_sr [] (by rw [hC]; rfl) fun k hk => ?_
 simp (maxSteps := 9^9) (disch := (try simp only [lens]); omega) only [argSl, sm, ↓amb, mark_eq, simprocAttr, xm, dx]
 repeat refine an ?_
 refine hk _ ?_; clear hk k
 refine awp_block ?_
 refine awp_le (le_keep [0, 2, 5]) ?_
 simp only [kp, argSl, simprocAttr]
 refine awp_sr [] (by rw [hC]; rfl) fun k hk => ?_
 simp (maxSteps := 9^9) (disch := (try simp only [lens]); omega) only [argSl, sm, ↓amb, mark_eq, simprocAttr, ta20, xm, dx]
 repeat refine an ?_
 refine hk _ ?_; clear hk k
 refine awp_cond rfl (fun hb => ?_) (fun hb => ?_)
 ·try simp only [hbx] at hb
  refine awp_le (le_keep [2, 5]) ?_
  simp only [kp, argSl, simprocAttr]
  refine awp_sr [] (by rw [hC]; rfl) fun k hk => ?_
  simp (maxSteps := 9^9) (disch := (try simp only [lens]); omega) only [argSl, sm, ↓amb, mark_eq, simprocAttr, xm, dx]
  repeat refine an ?_
  refine hk _ ?_; clear hk k
  refine awp_le (le_keep [2]) ?_
  simp only [kp, argSl, simprocAttr]
  refine awp_sr [] (by rw [hC]; rfl) fun k hk => ?_
  simp (maxSteps := 9^9) (disch := (try simp only [lens]); omega) only [argSl, sm, ↓amb, mark_eq, simprocAttr, sz77, xm, dx]
  repeat refine an ?_
  refine hk _ ?_; clear hk k
  refine awp_ret ?_
  refine retone rfl (retc rfl sz77 ?_)
  simp (maxSteps := 9^9) (disch := (try simp only [lens]); omega) only [argSl, sm, ↓amb, mark_eq, simprocAttr, sz77, xm, dx]
  exact .p (LeP.refl _)
 ·exact absurd hb (by decide)
set_option maxHeartbeats 4000000 in
theorem c_caught (q : Int × Int) : PCall Try.prog 48 [.lit (.iface 77 (.agg #[.int .i64 q.1, .int .i64 q.2]))] (.agg [iV q.1, iV q.2]) := by
 refine pcall_of_awp Try.func48 rfl (by simp [Try.ntmps48]) fun C hC => ?_
 refine awp_le (le_keep [0]) ?_
 simp only [kp, argSl, simprocAttr]
 refine awp_sr [] (by rw [hC]; rfl) fun k hk => ?_
 simp (maxSteps := 9^9) (disch := (try simp only [lens]); omega) only [argSl, sm, ↓amb, mark_eq, simprocAttr, vr77, xm, constW, dx]
 repeat refine an ?_
 refine hk _ ?_; clear hk k
 refine awp_seq fun k1 h1 => ?_
 refine awp_le (le_keep [0, 2]) ?_
 simp only [kp, argSl, simprocAttr]
 refine awp_sr [] (by rw [hC]; rfl) fun k hk => ?_
 simp (maxSteps := 9^9) (disch := (try simp only [lens]); omega) only [argSl, sm, ↓amb, mark_eq, simprocAttr, xm, constW, dx]
 repeat refine an ?_
 refine hk _ ?_; clear hk k
 refine awp_block ?_
 refine awp_le (le_keep [0, 2, 5]) ?_
 simp only [kp, argSl, simprocAttr]
 refine awp_sr [] (by rw [hC]; rfl) fun k hk => ?_
 simp (maxSteps := 9^9) (disch := (try simp only [lens]); omega) only [argSl, sm, ↓amb, mark_eq, simprocAttr, ta20, xm, constW, dx]
 repeat refine an ?_
 refine hk _ ?_; clear hk k
 refine awp_cond rfl (fun hb => ?_) (fun hb => ?_)
 ·exact absurd hb (by decide)
 ·try simp only [hbx] at hb
  refine awp_le (le_keep [0, 2, 5]) ?_
  simp only [kp, argSl, simprocAttr]
  refine awp_sr [] (by rw [hC]; rfl) fun k hk => ?_
  simp (maxSteps := 9^9) (disch := (try simp only [lens]); omega) only [argSl, sm, ↓amb, mark_eq, simprocAttr, tc77, xm, constW, dx]
  repeat refine an ?_
  refine hk _ ?_; clear hk k
  refine awp_cond rfl (fun hb => ?_) (fun hb => ?_)
  ·try simp only [hbx] at hb
   refine awp_le (le_keep [2, 10]) ?_
   simp only [kp, argSl, simprocAttr]
   refine awp_sr [] (by rw [hC]; rfl) fun k hk => ?_
   simp (maxSteps := 9^9) (disch := (try simp only [lens]); omega) only [argSl, sm, ↓amb, mark_eq, simprocAttr, vr77, sz77, xm, constW, dx]
   repeat refine an ?_
   refine hk _ ?_; clear hk k
   refine awp_le (le_keep [2, 4]) ?_
   simp only [kp, argSl, simprocAttr]
   refine awp_sr [] (by rw [hC]; rfl) fun k hk => ?_
   simp (maxSteps := 9^9) (disch := (try simp only [lens]); omega) only [argSl, sm, ↓amb, mark_eq, simprocAttr, sz77, xm, constW, dx]
   repeat refine an ?_
   refine hk _ ?_; clear hk k
   refine awp_ret ?_
   refine retone rfl (retc rfl sz77 ?_)
   simp (maxSteps := 9^9) (disch := (try simp only [lens]); omega) only [argSl, sm, ↓amb, mark_eq, simprocAttr, sz77, xm, constW, dx]
   exact .p (LeP.refl _)
  ·exact absurd hb (by decide)
end Go.Proofs.Ytjkkjiaeeobnkaa
end
section
set_option linter.unusedSimpArgs false
set_option linter.unusedVariables false
set_option maxRecDepth 100000
namespace Go.Proofs.Ytjkkjiaeeobnkaa
open Go.Am Go.Proofs
theorem bt27 : tBuilt Try.prog 27 = true := by kernel_rfl
theorem en48 : enters Try.prog 48 = true := by kernel_rfl
theorem ff77 : tFlat Try.prog 77 = some [some .i64, some .i64] := by kernel_rfl
theorem fl77_0 : tFld Try.prog 77 0 = some (0, 1, false) := by kernel_rfl
theorem fl77_1 : tFld Try.prog 77 1 = some (1, 1, false) := by kernel_rfl
theorem sz28 : tSz Try.prog 28 = some (false, 1) := by kernel_rfl
set_option maxHeartbeats 4000000 in
theorem c_Decode1n (x : Pl.Batch) (f1 f2 : Bool) (n e : Int) : Door Try.prog 47 [.ptr 7 3 0 0, .ptr 15 1 0 0, .ptr 23 1 0 0] [(7, (.row 3 [[.p (iV (x).kind), .p (.seq f1 ((x).edges.map edgeC)), .p (.seq f2 ((x).asks.map askC))]])), (15, (.row 1 [[.p (iV n)]])), (23, (.row 1 [[.p (iV e)]]))] [(7, (.row 3 [[.p (iV (x).kind), .p (.seq f1 ((x).edges.map edgeC)), .p (.seq f2 ((x).asks.map askC))]])), (15, (.row 1 [[.p (iV n)]])), (23, (.row 1 [[.p (iV e)]]))] .nilIface := by
 refine door_of Try.func47 rfl (by simp [Try.ntmps47]) rfl (by simp [Try.ntmps47]) rfl rfl fun C hC k hk => ?_
 simp (maxSteps := 9^9) (disch := (try simp only [lens]); omega) only [argSl, sm, ↓amb, mark_eq, simprocAttr, en48, vr77, sz77, xm, dx]
 repeat refine an ?_
 refine callK_p (c_caughtn) rfl ?_
 simp (maxSteps := 9^9) (disch := (try simp only [lens]); omega) only [argSl, sm, ↓amb, mark_eq, simprocAttr, en48, vr77, sz77, xm, dx]
 repeat refine an ?_
 refine hk _ ?_; clear hk k
 refine awp_sr [] (by rw [hC]; rfl) fun k hk => ?_
 simp (maxSteps := 9^9) (disch := (try simp only [lens]); omega) only [argSl, sm, ↓amb, mark_eq, simprocAttr, sz77, vr77, bt77, ff77, xm, dx]
 repeat refine an ?_
 refine hk _ ?_; clear hk k
 refine awp_cond rfl (fun hb => ?_) (fun hb => ?_)
 ·exact absurd hb (by decide)
 ·try simp only [hbx] at hb
  refine awp_skip ?_
  exact ⟨.inr rfl, le_of [] (by rfl) (by rfl) ⟨⟨_, rfl, .p (.refl _)⟩, trivial⟩ ⟨⟨_, rfl, _, rfl, .one (.cons (.p (.refl _)) (.cons (.p (.refl _)) (.cons (.p (.refl _)) (.nil))))⟩, ⟨_, rfl, _, rfl, .one (.cons (.p (.refl _)) (.nil))⟩, ⟨_, rfl, _, rfl, .one (.cons (.p (.refl _)) (.nil))⟩, trivial⟩⟩
set_option maxHeartbeats 4000000 in
theorem c_Decode1 (x : Pl.Batch) (f1 f2 : Bool) (n e : Int) (q : Int × Int) (hq : q.2 ≠ 0) : Door Try.prog 47 [.ptr 7 3 0 0, .ptr 15 1 0 0, .ptr 23 1 0 0] [(7, (.row 3 [[.p (iV (x).kind), .p (.seq f1 ((x).edges.map edgeC)), .p (.seq f2 ((x).asks.map askC))]])), (15, (.row 1 [[.p (iV n)]])), (23, (.row 1 [[.p (iV e)]]))] [(7, .row 3 [[.p (iV 0), .p (.seq true []), .p (.seq true [])]]), (15, (.row 1 [[.p (iV q.1)]])), (23, (.row 1 [[.p (iV q.2)]]))] (.iface 77 (.agg #[.int .i64 q.1, .int .i64 q.2])) := by
 refine door_of Try.func47 rfl (by simp [Try.ntmps47]) rfl (by simp [Try.ntmps47]) rfl rfl fun C hC k hk => ?_
 simp (maxSteps := 9^9) (disch := (try simp only [lens]); omega) only [argSl, sm, ↓amb, mark_eq, simprocAttr, en48, vr77, sz77, xm, dx]
 repeat refine an ?_
 refine callK_p (c_caught q) rfl ?_
 simp (maxSteps := 9^9) (disch := (try simp only [lens]); omega) only [argSl, sm, ↓amb, mark_eq, simprocAttr, en48, vr77, sz77, xm, dx]
 repeat refine an ?_
 refine hk _ ?_; clear hk k
 refine awp_sr [] (by rw [hC]; rfl) fun k hk => ?_
 simp (maxSteps := 9^9) (disch := (try simp only [lens]); omega) only [argSl, sm, ↓amb, mark_eq, simprocAttr, sz77, vr77, bt77, ff77, xm, dx]
 repeat refine an ?_
 refine hk _ ?_; clear hk k
 refine awp_cond rfl (fun hb => ?_) (fun hb => ?_)
 ·try simp only [hbx] at hb
  refine awp_draw [] ⟨[0, 0, 2, 0, 8, 1, 39, 127], [], [5, 6, 7], [], some [7, 15, 23]⟩ (by rw [hC]; rfl) (by kernel_rfl) (by kernel_rfl) fun k hk => ?_
  simp (maxSteps := 9^9) (disch := (try simp only [lens]); omega) only [argSl, sm, ↓amb, mark_eq, simprocAttr, vr27, bt27, fl77_0, sz3, fl77_1, sz28, sz27, xm, dx]
  repeat refine an ?_
  refine hk _ ?_; clear hk k
  exact ⟨.inr rfl, le_of [] (by rfl) (by rfl) ⟨⟨_, rfl, .p (.refl _)⟩, trivial⟩ ⟨⟨_, rfl, _, rfl, .one (.cons (.p (.refl _)) (.cons (.p (.refl _)) (.cons (.p (.refl _)) (.nil))))⟩, ⟨_, rfl, _, rfl, .one (.cons (.p (.refl _)) (.nil))⟩, ⟨_, rfl, _, rfl, .one (.cons (.p (.refl _)) (.nil))⟩, trivial⟩⟩
 ·exact absurd hb (by simp [hq])
set_option maxHeartbeats 4000000 in
theorem c_Stream1n (n e : Int) : Door Try.prog 50 [.ptr 7 1 0 0, .ptr 15 1 0 0] [(7, (.row 1 [[.p (iV n)]])), (15, (.row 1 [[.p (iV e)]]))] [(7, (.row 1 [[.p (iV n)]])), (15, (.row 1 [[.p (iV e)]]))] .nilIface := by
 refine door_of Try.func50 rfl (by simp [Try.ntmps50]) rfl (by simp [Try.ntmps50]) rfl rfl fun C hC k hk => ?_
 simp (maxSteps := 9^9) (disch := (try simp only [lens]); omega) only [argSl, sm, ↓amb, mark_eq, simprocAttr, en48, vr77, sz77, xm, dx]
 repeat refine an ?_
 refine callK_p (c_caughtn) rfl ?_
 simp (maxSteps := 9^9) (disch := (try simp only [lens]); omega) only [argSl, sm, ↓amb, mark_eq, simprocAttr, en48, vr77, sz77, xm, dx]
 repeat refine an ?_
 refine hk _ ?_; clear hk k
 refine awp_sr [] (by rw [hC]; rfl) fun k hk => ?_
 simp (maxSteps := 9^9) (disch := (try simp only [lens]); omega) only [argSl, sm, ↓amb, mark_eq, simprocAttr, sz77, vr77, bt77, ff77, xm, dx]
 repeat refine an ?_
 refine hk _ ?_; clear hk k
 refine awp_cond rfl (fun hb => ?_) (fun hb => ?_)
 ·exact absurd hb (by decide)
 ·try simp only [hbx] at hb
  refine awp_skip ?_
  exact ⟨.inr rfl, le_of [] (by rfl) (by rfl) ⟨⟨_, rfl, .p (.refl _)⟩, trivial⟩ ⟨⟨_, rfl, _, rfl, .one (.cons (.p (.refl _)) (.nil))⟩, ⟨_, rfl, _, rfl, .one (.cons (.p (.refl _)) (.nil))⟩, trivial⟩⟩
set_option maxHeartbeats 4000000 in
theorem c_Stream1 (n e : Int) (q : Int × Int) (hq : q.2 ≠ 0) : Door Try.prog 50 [.ptr 7 1 0 0, .ptr 15 1 0 0] [(7, (.row 1 [[.p (iV n)]])), (15, (.row 1 [[.p (iV e)]]))] [(7, (.row 1 [[.p (iV q.1)]])), (15, (.row 1 [[.p (iV q.2)]]))] (.iface 77 (.agg #[.int .i64 q.1, .int .i64 q.2])) := by
 refine door_of Try.func50 rfl (by simp [Try.ntmps50]) rfl (by simp [Try.ntmps50]) rfl rfl fun C hC k hk => ?_
 simp (maxSteps := 9^9) (disch := (try simp only [lens]); omega) only [argSl, sm, ↓amb, mark_eq, simprocAttr, en48, vr77, sz77, xm, dx]
 repeat refine an ?_
 refine callK_p (c_caught q) rfl ?_
 simp (maxSteps := 9^9) (disch := (try simp only [lens]); omega) only [argSl, sm, ↓amb, mark_eq, simprocAttr, en48, vr77, sz77, xm, dx]
 repeat refine an ?_
 refine hk _ ?_; clear hk k
 refine awp_sr [] (by rw [hC]; rfl) fun k hk => ?_
 simp (maxSteps := 9^9) (disch := (try simp only [lens]); omega) only [argSl, sm, ↓amb, mark_eq, simprocAttr, sz77, vr77, bt77, ff77, xm, dx]
 repeat refine an ?_
 refine hk _ ?_; clear hk k
 refine awp_cond rfl (fun hb => ?_) (fun hb => ?_)
 ·try simp only [hbx] at hb
  refine awp_draw [] ⟨[0, 1, 0, 4, 3, 31], [], [4, 5], [], some [7, 15]⟩ (by rw [hC]; rfl) (by kernel_rfl) (by kernel_rfl) fun k hk => ?_
  simp (maxSteps := 9^9) (disch := (try simp only [lens]); omega) only [argSl, sm, ↓amb, mark_eq, simprocAttr, fl77_0, sz3, fl77_1, sz28, xm, dx]
  repeat refine an ?_
  refine hk _ ?_; clear hk k
  exact ⟨.inr rfl, le_of [] (by rfl) (by rfl) ⟨⟨_, rfl, .p (.refl _)⟩, trivial⟩ ⟨⟨_, rfl, _, rfl, .one (.cons (.p (.refl _)) (.nil))⟩, ⟨_, rfl, _, rfl, .one (.cons (.p (.refl _)) (.nil))⟩, trivial⟩⟩
 ·exact absurd hb (by simp [hq])
end Go.Proofs.Ytjkkjiaeeobnkaa
end
section
set_option linter.unusedSimpArgs false
set_option linter.unusedVariables false
set_option maxRecDepth 100000
namespace Go.Proofs.Ytjkkjiaeeobnkaa
open Go.Am Go.Proofs
theorem bt81 : tBuilt Try.prog 81 = true := by kernel_rfl
theorem en47 : enters Try.prog 47 = true := by kernel_rfl
theorem en49 : enters Try.prog 49 = true := by kernel_rfl
theorem pl81_0 : tPlace Try.prog 81 0 = some (0, 1) := by kernel_rfl
theorem vr28 : tVar Try.prog 28 = some (false, [.lit (.int .i64 0)]) := by kernel_rfl
theorem vr3 : tVar Try.prog 3 = some (false, [.lit (.int .i64 0)]) := by kernel_rfl
theorem vr81 : tVar Try.prog 81 = some (true, [.seq true [], .lit (.int .i64 0)]) := by kernel_rfl
set_option maxHeartbeats 4000000 in
theorem c_Decode_o (c : Bool) (b : List Int) (hb8 : ∀ x, x ∈ b → Pl.B8 x) (hl : b.length ≤ 1000000) (hq : Pl.batE b 0 = none) : PCall Try.prog 14 [(.seq c (b.map fun x => [.lit (.int .u8 x)]))] (.tup [.agg (batchC false false (Pl.batX b 0)), iV (Pl.batS b 0), iV 0]) := by
 refine pcall_of_dw Try.func14 rfl (by simp [Try.ntmps14]) fun C hC hds hA => ?_
 refine dw_seq hds hA ?_
 refine awp_region [] (by rw [hC]; rfl) fun k hk => ?_
 simp (maxSteps := 9^9) (disch := (try simp only [lens]); omega) only [argSl, sm, ↓amb, mark_eq, simprocAttr, vr27, vr3, vr28, dx]
 repeat refine an ?_
 refine hk _ ?_; clear hk k
 refine dw_defer hC hds hA rfl en47 [0, 8, 16] [7, 15, 23] [] (none) (⟨[(0, .p (.seq c (b.map fun x => [.lit (.int .u8 x)]))), (2, .ptr 7 3 0 0), (3, .ptr 15 1 0 0), (4, .ptr 23 1 0 0)], [(7, (.row 3 [[.p (iV ((⟨0, [], []⟩ : Pl.Batch)).kind), .p (.seq true (((⟨0, [], []⟩ : Pl.Batch)).edges.map edgeC)), .p (.seq true (((⟨0, [], []⟩ : Pl.Batch)).asks.map askC))]])), (15, (.row 1 [[.p (iV 0)]])), (23, (.row 1 [[.p (iV 0)]]))], 3⟩ : LS) (⟨[(2, .ptr 7 3 0 0), (3, .ptr 15 1 0 0), (4, .ptr 23 1 0 0)], [(7, (.row 3 [[.p (iV ((Pl.batX b 0)).kind), .p (.seq false (((Pl.batX b 0)).edges.map edgeC)), .p (.seq false (((Pl.batX b 0)).asks.map askC))]])), (15, (.row 1 [[.p (iV (Pl.batS b 0))]])), (23, (.row 1 [[.p (iV 0)]]))], 1⟩ : LS) [(7, (.row 3 [[.p (iV ((Pl.batX b 0)).kind), .p (.seq false (((Pl.batX b 0)).edges.map edgeC)), .p (.seq false (((Pl.batX b 0)).asks.map askC))]])), (15, (.row 1 [[.p (iV (Pl.batS b 0))]])), (23, (.row 1 [[.p (iV 0)]]))] [(7, (.row 3 [[.p (iV ((Pl.batX b 0)).kind), .p (.seq false (((Pl.batX b 0)).edges.map edgeC)), .p (.seq false (((Pl.batX b 0)).asks.map askC))]])), (15, (.row 1 [[.p (iV (Pl.batS b 0))]])), (23, (.row 1 [[.p (iV 0)]]))] [.ptr 0 3 0 0, .ptr 8 1 0 0, .ptr 16 1 0 0] [.ptr 7 3 0 0, .ptr 15 1 0 0, .ptr 23 1 0 0] rfl rfl (RepinSl.cons rfl rfl rfl (RepinSl.cons rfl rfl rfl (RepinSl.cons rfl rfl rfl (RepinSl.cons rfl rfl rfl (trivial))))) (RepinHp.cons 0 rfl rfl rfl rfl rfl (RepinHp.cons 1 rfl rfl rfl rfl rfl (RepinHp.cons 2 rfl rfl rfl rfl rfl (trivial)))) rfl (by
  intro i x h
  rcases i with _ | _ | _ | i
  ·injection h with h; subst h; exact ⟨0, _, _, rfl, rfl, rfl⟩
  ·injection h with h; subst h; exact ⟨1, _, _, rfl, rfl, rfl⟩
  ·injection h with h; subst h; exact ⟨2, _, _, rfl, rfl, rfl⟩
  ·simp at h) rfl (fun C hC => ?_) (c_Decode1n (Pl.batX b 0) false false (Pl.batS b 0) 0) (by first | rfl | (simp [namesOk, lkp]; done)) (by first | trivial | (intro n hn; cases hn; done) | (simp (maxSteps := 9^9) (disch := (try simp only [lens]); omega) only [argSl, sm, ↓amb, mark_eq, simprocAttr, dx, hmx, List.filter_cons, Nat.reduceBNe, imp_self, implies_true]; done) | exact ⟨rfl, rfl, trivial⟩ | exact ⟨rfl, rfl, rfl, trivial⟩) (by first | trivial | (intro n hn; cases hn; done) | (simp (maxSteps := 9^9) (disch := (try simp only [lens]); omega) only [argSl, sm, ↓amb, mark_eq, simprocAttr, dx, hmx, List.filter_cons, Nat.reduceBNe, imp_self, implies_true]; done) | exact ⟨rfl, rfl, trivial⟩ | exact ⟨rfl, rfl, rfl, trivial⟩) (by first | trivial | (intro n hn; cases hn; done) | (simp (maxSteps := 9^9) (disch := (try simp only [lens]); omega) only [argSl, sm, ↓amb, mark_eq, simprocAttr, dx, hmx, List.filter_cons, Nat.reduceBNe, imp_self, implies_true]; done) | exact ⟨rfl, rfl, trivial⟩ | exact ⟨rfl, rfl, rfl, trivial⟩) (by first | trivial | (intro n hn; cases hn; done) | (simp (maxSteps := 9^9) (disch := (try simp only [lens]); omega) only [argSl, sm, ↓amb, mark_eq, simprocAttr, dx, hmx, List.filter_cons, Nat.reduceBNe, imp_self, implies_true]; done) | exact ⟨rfl, rfl, trivial⟩ | exact ⟨rfl, rfl, rfl, trivial⟩) (by first | rfl | (simp only [hm]; done)) (by first | trivial | (intro n hn; cases hn; done) | (simp (maxSteps := 9^9) (disch := (try simp only [lens]); omega) only [argSl, sm, ↓amb, mark_eq, simprocAttr, dx, hmx, List.filter_cons, Nat.reduceBNe, imp_self, implies_true]; done) | exact ⟨rfl, rfl, trivial⟩ | exact ⟨rfl, rfl, rfl, trivial⟩) ?_
 rotate_left
 ·show retK Try.prog Try.f14 _ .ret (⟨_, _, _⟩ : LS)
  simp (maxSteps := 9^9) (disch := (try simp only [lens]); omega) only [argSl, sm, ↓amb, mark_eq, simprocAttr, dx, hmx, List.filter_cons, Nat.reduceBNe, imp_self, implies_true]
  refine retl rfl rfl ⟨retc rfl sz27 ?_, retc rfl sz3 ?_, retc rfl sz28 ?_, trivial⟩
  all_goals first | (simp (maxSteps := 9^9) (disch := (try simp only [lens]); omega) only [argSl, sm, ↓amb, mark_eq, simprocAttr, sz27, sz28, sz3, dx]) | skip
  ·exact .p (LeP.refl _)
  ·exact .p (LeP.refl _)
  ·exact .p (LeP.refl _)
 refine awp_le (le_keep [0, 2, 3, 4]) ?_
 simp only [kp, argSl, simprocAttr]
 refine awp_sr [] (by rw [hC]; rfl) fun k hk => ?_
 simp (maxSteps := 9^9) (disch := (try simp only [lens]); omega) only [argSl, sm, ↓amb, mark_eq, simprocAttr, vr81, bt81, pl81_0, dx]
 repeat refine an ?_
 refine hk _ ?_; clear hk k
 refine awp_le (le_keep [2, 3, 4, 5]) ?_
 simp only [kp, argSl, simprocAttr]
 refine awp_sr [] (by rw [hC]; rfl) fun k hk => ?_
 simp (maxSteps := 9^9) (disch := (try simp only [lens]); omega) only [argSl, sm, ↓amb, mark_eq, simprocAttr, en49, vr27, sz27, dx]
 repeat refine an ?_
 refine callK_h (c_batch c b 0 hb8 hl (Nat.zero_le _) hq) [40] [] (by first | rfl | (simp only [hm]; done)) (by first | rfl | (simp [namesOk, lkp]; done)) ?_ ?_ ?_ ?_ ?_ ?_ ?_
 (iterate 6 (focus (first | trivial | (intro n hn; cases hn; done) | (simp (maxSteps := 9^9) (disch := (try simp only [lens]); omega) only [argSl, sm, ↓amb, mark_eq, simprocAttr, en49, vr27, sz27, dx, hmx, List.filter_cons, Nat.reduceBNe, imp_self, implies_true]; done))))
 simp (maxSteps := 9^9) (disch := (try simp only [lens]); omega) only [argSl, sm, ↓amb, mark_eq, simprocAttr, en49, vr27, sz27, dx, hm, List.filter_cons, List.filter_nil, Nat.reduceBNe, Option.map_none]
 repeat refine an ?_
 refine hk _ ?_; clear hk k
 refine awp_le (le_keep [2, 3, 4, 5, 6]) ?_
 simp only [kp, argSl, simprocAttr]
 refine awp_sd [] ⟨[0, 0, 2, 6, 14, 1, 63, 127], [], [5, 6, 7], [], some [7, 15, 23]⟩ (by rw [hC]; rfl) (by kernel_rfl) (by kernel_rfl) fun k hk => ?_
 simp (maxSteps := 9^9) (disch := (try simp only [lens]); omega) only [argSl, sm, ↓amb, mark_eq, simprocAttr, sz27, fl81_1, sz3, sz28, dx]
 repeat refine an ?_
 refine hk _ ?_; clear hk k
 refine awp_ret ?_
 exact retd_dw (le_of [] (by rfl) (by rfl) ⟨⟨_, rfl, .ptr rfl⟩, ⟨_, rfl, .ptr rfl⟩, ⟨_, rfl, .ptr rfl⟩, trivial⟩ ⟨⟨_, rfl, _, rfl, .one (.cons (.p (.refl _)) (.cons (.p (.refl _)) (.cons (.p (.refl _)) (.nil))))⟩, ⟨_, rfl, _, rfl, .one (.cons (.p (.refl _)) (.nil))⟩, ⟨_, rfl, _, rfl, .one (.cons (.p (.refl _)) (.nil))⟩, trivial⟩)
set_option maxHeartbeats 4000000 in
theorem c_Decode_x (c : Bool) (b : List Int) (hb8 : ∀ x, x ∈ b → Pl.B8 x) (hl : b.length ≤ 1000000) (e : Int × Int) (hq : Pl.batE b 0 = some e) : PCall Try.prog 14 [(.seq c (b.map fun x => [.lit (.int .u8 x)]))] (.tup [.agg (batchC false false (⟨0, [], []⟩ : Pl.Batch)), iV e.1, iV e.2]) := by
 refine pcall_of_dw Try.func14 rfl (by simp [Try.ntmps14]) fun C hC hds hA => ?_
 refine dw_seq hds hA ?_
 refine awp_region [] (by rw [hC]; rfl) fun k hk => ?_
 simp (maxSteps := 9^9) (disch := (try simp only [lens]); omega) only [argSl, sm, ↓amb, mark_eq, simprocAttr, vr27, vr3, vr28, dx]
 repeat refine an ?_
 refine hk _ ?_; clear hk k
 refine dw_defer hC hds hA rfl en47 [0, 8, 16] [7, 15, 23] [] (some (.iface 77 (.agg #[.int .i64 e.1, .int .i64 e.2]))) (⟨[(0, .p (.seq c (b.map fun x => [.lit (.int .u8 x)]))), (2, .ptr 7 3 0 0), (3, .ptr 15 1 0 0), (4, .ptr 23 1 0 0)], [(7, (.row 3 [[.p (iV ((⟨0, [], []⟩ : Pl.Batch)).kind), .p (.seq true (((⟨0, [], []⟩ : Pl.Batch)).edges.map edgeC)), .p (.seq true (((⟨0, [], []⟩ : Pl.Batch)).asks.map askC))]])), (15, (.row 1 [[.p (iV 0)]])), (23, (.row 1 [[.p (iV 0)]]))], 3⟩ : LS) (⟨[(2, .ptr 7 3 0 0), (3, .ptr 15 1 0 0), (4, .ptr 23 1 0 0)], [(7, (.row 3 [[.p (iV ((⟨0, [], []⟩ : Pl.Batch)).kind), .p (.seq true (((⟨0, [], []⟩ : Pl.Batch)).edges.map edgeC)), .p (.seq true (((⟨0, [], []⟩ : Pl.Batch)).asks.map askC))]])), (15, (.row 1 [[.p (iV 0)]])), (23, (.row 1 [[.p (iV 0)]]))], 1⟩ : LS) [(7, (.row 3 [[.p (iV ((⟨0, [], []⟩ : Pl.Batch)).kind), .p (.seq true (((⟨0, [], []⟩ : Pl.Batch)).edges.map edgeC)), .p (.seq true (((⟨0, [], []⟩ : Pl.Batch)).asks.map askC))]])), (15, (.row 1 [[.p (iV 0)]])), (23, (.row 1 [[.p (iV 0)]]))] [(7, .row 3 [[.p (iV 0), .p (.seq true []), .p (.seq true [])]]), (15, (.row 1 [[.p (iV e.1)]])), (23, (.row 1 [[.p (iV e.2)]]))] [.ptr 0 3 0 0, .ptr 8 1 0 0, .ptr 16 1 0 0] [.ptr 7 3 0 0, .ptr 15 1 0 0, .ptr 23 1 0 0] rfl rfl (RepinSl.cons rfl rfl rfl (RepinSl.cons rfl rfl rfl (RepinSl.cons rfl rfl rfl (RepinSl.cons rfl rfl rfl (trivial))))) (RepinHp.cons 0 rfl rfl rfl rfl rfl (RepinHp.cons 1 rfl rfl rfl rfl rfl (RepinHp.cons 2 rfl rfl rfl rfl rfl (trivial)))) rfl (by
  intro i x h
  rcases i with _ | _ | _ | i
  ·injection h with h; subst h; exact ⟨0, _, _, rfl, rfl, rfl⟩
  ·injection h with h; subst h; exact ⟨1, _, _, rfl, rfl, rfl⟩
  ·injection h with h; subst h; exact ⟨2, _, _, rfl, rfl, rfl⟩
  ·simp at h) rfl (fun C hC => ?_) (c_Decode1 (⟨0, [], []⟩ : Pl.Batch) true true 0 0 e (Pl.batE_nz hq)) (by first | rfl | (simp [namesOk, lkp]; done)) (by first | trivial | (intro n hn; cases hn; done) | (simp (maxSteps := 9^9) (disch := (try simp only [lens]); omega) only [argSl, sm, ↓amb, mark_eq, simprocAttr, dx, hmx, List.filter_cons, Nat.reduceBNe, imp_self, implies_true]; done) | exact ⟨rfl, rfl, trivial⟩ | exact ⟨rfl, rfl, rfl, trivial⟩) (by first | trivial | (intro n hn; cases hn; done) | (simp (maxSteps := 9^9) (disch := (try simp only [lens]); omega) only [argSl, sm, ↓amb, mark_eq, simprocAttr, dx, hmx, List.filter_cons, Nat.reduceBNe, imp_self, implies_true]; done) | exact ⟨rfl, rfl, trivial⟩ | exact ⟨rfl, rfl, rfl, trivial⟩) (by first | trivial | (intro n hn; cases hn; done) | (simp (maxSteps := 9^9) (disch := (try simp only [lens]); omega) only [argSl, sm, ↓amb, mark_eq, simprocAttr, dx, hmx, List.filter_cons, Nat.reduceBNe, imp_self, implies_true]; done) | exact ⟨rfl, rfl, trivial⟩ | exact ⟨rfl, rfl, rfl, trivial⟩) (by first | trivial | (intro n hn; cases hn; done) | (simp (maxSteps := 9^9) (disch := (try simp only [lens]); omega) only [argSl, sm, ↓amb, mark_eq, simprocAttr, dx, hmx, List.filter_cons, Nat.reduceBNe, imp_self, implies_true]; done) | exact ⟨rfl, rfl, trivial⟩ | exact ⟨rfl, rfl, rfl, trivial⟩) (by first | rfl | (simp only [hm]; done)) (by first | trivial | (intro n hn; cases hn; done) | (simp (maxSteps := 9^9) (disch := (try simp only [lens]); omega) only [argSl, sm, ↓amb, mark_eq, simprocAttr, dx, hmx, List.filter_cons, Nat.reduceBNe, imp_self, implies_true]; done) | exact ⟨rfl, rfl, trivial⟩ | exact ⟨rfl, rfl, rfl, trivial⟩) ?_
 rotate_left
 ·show retK Try.prog Try.f14 _ .ret (⟨_, _, _⟩ : LS)
  simp (maxSteps := 9^9) (disch := (try simp only [lens]); omega) only [argSl, sm, ↓amb, mark_eq, simprocAttr, dx, hmx, List.filter_cons, Nat.reduceBNe, imp_self, implies_true]
  refine retl rfl rfl ⟨retc rfl sz27 ?_, retc rfl sz3 ?_, retc rfl sz28 ?_, trivial⟩
  all_goals first | (simp (maxSteps := 9^9) (disch := (try simp only [lens]); omega) only [argSl, sm, ↓amb, mark_eq, simprocAttr, sz27, sz28, sz3, dx]) | skip
  ·exact .p (LeP.agg (.cons (LeP.refl _) (.cons (LeP.seq _ _) (.cons (LeP.seq _ _) .nil))))
  ·exact .p (LeP.refl _)
  ·exact .p (LeP.refl _)
 refine awp_le (le_keep [0, 2, 3, 4]) ?_
 simp only [kp, argSl, simprocAttr]
 refine awp_sr [] (by rw [hC]; rfl) fun k hk => ?_
 simp (maxSteps := 9^9) (disch := (try simp only [lens]); omega) only [argSl, sm, ↓amb, mark_eq, simprocAttr, vr81, bt81, pl81_0, dx]
 repeat refine an ?_
 refine hk _ ?_; clear hk k
 refine awp_le (le_keep [2, 3, 4, 5]) ?_
 simp only [kp, argSl, simprocAttr]
 refine awp_srx [] 1 (by rw [hC]; rfl) rfl rfl fun k hk => ?_
 simp (maxSteps := 9^9) (disch := (try simp only [lens]); omega) only [argSl, sm, ↓amb, mark_eq, simprocAttr, en49, vr27, sz27, ↓xmb, xm, dx]
 repeat refine an ?_
 refine callX_h (c_batchx c b 0 hb8 hl (Nat.zero_le _) e hq) [40] [] (by first | rfl | (simp only [hm]; done)) (by first | rfl | (simp [namesOk, lkp]; done)) ?_ ?_ ?_ ?_ ?_ ?_ ?_
 (iterate 6 (focus (first | trivial | (intro n hn; cases hn; done) | (simp (maxSteps := 9^9) (disch := (try simp only [lens]); omega) only [argSl, sm, ↓amb, mark_eq, simprocAttr, en49, vr27, sz27, ↓xmb, xm, dx, hmx, List.filter_cons, Nat.reduceBNe, imp_self, implies_true]; done))))
 simp (maxSteps := 9^9) (disch := (try simp only [lens]); omega) only [argSl, sm, ↓amb, mark_eq, simprocAttr, en49, vr27, sz27, ↓xmb, xm, dx, hm, List.filter_cons, List.filter_nil, Nat.reduceBNe, Option.map_none]
 repeat refine an ?_
 refine hk _ _ ?_
 clear hk k
 exact retx_dw (le_of [] (by rfl) (by rfl) ⟨⟨_, rfl, .ptr rfl⟩, ⟨_, rfl, .ptr rfl⟩, ⟨_, rfl, .ptr rfl⟩, trivial⟩ ⟨⟨_, rfl, _, rfl, .one (.cons (.p (.refl _)) (.cons (.p (.refl _)) (.cons (.p (.refl _)) (.nil))))⟩, ⟨_, rfl, _, rfl, .one (.cons (.p (.refl _)) (.nil))⟩, ⟨_, rfl, _, rfl, .one (.cons (.p (.refl _)) (.nil))⟩, trivial⟩)
end Go.Proofs.Ytjkkjiaeeobnkaa
end
section
set_option linter.unusedSimpArgs false
set_option linter.unusedVariables false
set_option maxRecDepth 100000
namespace Go.Proofs.Ytjkkjiaeeobnkaa
open Go.Am Go.Proofs
theorem by27 : tBytes Try.prog 27 = some 56 := by kernel_rfl
theorem el31 : tEl Try.prog 31 = some 27 := by kernel_rfl
theorem en50 : enters Try.prog 50 = true := by kernel_rfl
set_option maxHeartbeats 4000000 in
theorem c_Stream_o (c : Bool) (b : List Int) (hb8 : ∀ x, x ∈ b → Pl.B8 x) (hl : b.length ≤ 1000000) (hq : (Pl.strm b).2.2 = 0) : PCall Try.prog 16 [(.seq c (b.map fun x => [.lit (.int .u8 x)]))] (.tup [.seq false ((Pl.strm b).1.map (batchC false false)), iV (Pl.strm b).2.1, iV (Pl.strm b).2.2]) := by
 refine pcall_of_dw Try.func16 rfl (by simp [Try.ntmps16]) fun C hC hds hA => ?_
 refine dw_seq hds hA ?_
 refine awp_region [21] (by rw [hC]; rfl) fun k hk => ?_
 simp (maxSteps := 9^9) (disch := (try simp only [lens]); omega) only [argSl, sm, ↓amb, mark_eq, simprocAttr, vr3, vr28, dx]
 repeat refine an ?_
 refine hk _ ?_; clear hk k
 refine dw_defer hC hds hA rfl en50 [8, 16] [7, 15] [] (none) (⟨[(0, .p (.seq c (b.map fun x => [.lit (.int .u8 x)]))), (2, .p (.seq true [])), (3, .ptr 7 1 0 0), (4, .ptr 15 1 0 0)], [(7, (.row 1 [[.p (iV 0)]])), (15, (.row 1 [[.p (iV 0)]]))], 3⟩ : LS) (⟨[(2, .p (.seq false ((Pl.strm b).1.map (batchC false false)))), (3, .ptr 7 1 0 0), (4, .ptr 15 1 0 0)], [(7, (.row 1 [[.p (iV (Pl.strm b).2.1)]])), (15, (.row 1 [[.p (iV (Pl.strm b).2.2)]]))], 1⟩ : LS) [(7, (.row 1 [[.p (iV (Pl.strm b).2.1)]])), (15, (.row 1 [[.p (iV (Pl.strm b).2.2)]]))] [(7, (.row 1 [[.p (iV (Pl.strm b).2.1)]])), (15, (.row 1 [[.p (iV (Pl.strm b).2.2)]]))] [.ptr 8 1 0 0, .ptr 16 1 0 0] [.ptr 7 1 0 0, .ptr 15 1 0 0] rfl rfl (RepinSl.cons rfl rfl rfl (RepinSl.cons rfl rfl rfl (RepinSl.cons rfl rfl rfl (RepinSl.cons rfl rfl rfl (trivial))))) (RepinHp.cons 0 rfl rfl rfl rfl rfl (RepinHp.cons 1 rfl rfl rfl rfl rfl (trivial))) rfl (by
  intro i x h
  rcases i with _ | _ | i
  ·injection h with h; subst h; exact ⟨0, _, _, rfl, rfl, rfl⟩
  ·injection h with h; subst h; exact ⟨1, _, _, rfl, rfl, rfl⟩
  ·simp at h) rfl (fun C hC => ?_) (c_Stream1n (Pl.strm b).2.1 (Pl.strm b).2.2) (by first | rfl | (simp [namesOk, lkp]; done)) (by first | trivial | (intro n hn; cases hn; done) | (simp (maxSteps := 9^9) (disch := (try simp only [lens]); omega) only [argSl, sm, ↓amb, mark_eq, simprocAttr, dx, hmx, List.filter_cons, Nat.reduceBNe, imp_self, implies_true]; done) | exact ⟨rfl, rfl, trivial⟩ | exact ⟨rfl, rfl, rfl, trivial⟩) (by first | trivial | (intro n hn; cases hn; done) | (simp (maxSteps := 9^9) (disch := (try simp only [lens]); omega) only [argSl, sm, ↓amb, mark_eq, simprocAttr, dx, hmx, List.filter_cons, Nat.reduceBNe, imp_self, implies_true]; done) | exact ⟨rfl, rfl, trivial⟩ | exact ⟨rfl, rfl, rfl, trivial⟩) (by first | trivial | (intro n hn; cases hn; done) | (simp (maxSteps := 9^9) (disch := (try simp only [lens]); omega) only [argSl, sm, ↓amb, mark_eq, simprocAttr, dx, hmx, List.filter_cons, Nat.reduceBNe, imp_self, implies_true]; done) | exact ⟨rfl, rfl, trivial⟩ | exact ⟨rfl, rfl, rfl, trivial⟩) (by first | trivial | (intro n hn; cases hn; done) | (simp (maxSteps := 9^9) (disch := (try simp only [lens]); omega) only [argSl, sm, ↓amb, mark_eq, simprocAttr, dx, hmx, List.filter_cons, Nat.reduceBNe, imp_self, implies_true]; done) | exact ⟨rfl, rfl, trivial⟩ | exact ⟨rfl, rfl, rfl, trivial⟩) (by first | rfl | (simp only [hm]; done)) (by first | trivial | (intro n hn; cases hn; done) | (simp (maxSteps := 9^9) (disch := (try simp only [lens]); omega) only [argSl, sm, ↓amb, mark_eq, simprocAttr, dx, hmx, List.filter_cons, Nat.reduceBNe, imp_self, implies_true]; done) | exact ⟨rfl, rfl, trivial⟩ | exact ⟨rfl, rfl, rfl, trivial⟩) ?_
 rotate_left
 ·show retK Try.prog Try.f16 _ .ret (⟨_, _, _⟩ : LS)
  simp (maxSteps := 9^9) (disch := (try simp only [lens]); omega) only [argSl, sm, ↓amb, mark_eq, simprocAttr, dx, hmx, List.filter_cons, Nat.reduceBNe, imp_self, implies_true]
  refine retl rfl rfl ⟨rett rfl ?_, retc rfl sz3 ?_, retc rfl sz28 ?_, trivial⟩
  all_goals first | (simp (maxSteps := 9^9) (disch := (try simp only [lens]); omega) only [argSl, sm, ↓amb, mark_eq, simprocAttr, sz28, sz3, dx]) | skip
  ·exact .p (LeP.refl _)
  ·exact .p (LeP.refl _)
  ·exact .p (LeP.refl _)
 refine awp_le (le_keep [0, 2, 3, 4]) ?_
 simp only [kp, argSl, simprocAttr]
 refine awp_sr [21] (by rw [hC]; rfl) fun k hk => ?_
 simp (maxSteps := 9^9) (disch := (try simp only [lens]); omega) only [argSl, sm, ↓amb, mark_eq, simprocAttr, vr81, bt81, pl81_0, dx]
 repeat refine an ?_
 refine hk _ ?_; clear hk k
 refine awp_seq fun k1 h1 => ?_
 refine awp_block ?_
 refine awp_own' 2 3 rfl ?_
 simp only [am, kp, Nat.reduceEqDiff, ↓reduceIte, reduceCtorEq, Nat.reduceAdd, Nat.reduceMul]
 refine awp_loop (σ := List Pl.Batch × Nat) (fun x => Pl.StrI b x.1 x.2) (fun x => ⟨[(0, (.p (.seq c (b.map fun x => [.lit (.int .u8 x)])))), (2, (.own 1)), (3, (.ptr 7 1 0 0)), (4, (.ptr 15 1 0 0)), (5, (.ptr 0 2 0 0))], [(7, (.row 1 [[.p (iV 0)]])), (15, (.row 1 [[.p (iV 0)]])), (0, (.row 2 [[.p (.seq c (b.map fun x => [.lit (.int .u8 x)])), .p (iV ((x.2 : Nat) : Int))]])), (1, (.row 3 (lift (x.1.map (batchC false false)))))], 1⟩) (fun x => b.length - x.2) ([], 0) ?_ ?_ fun x hx => ?_
 ·exact Pl.str_start b
 ·exact le_of [(0, _), (1, _)] (by rfl) (by rfl) ⟨⟨_, rfl, .oe⟩, ⟨_, rfl, .own rfl⟩, ⟨_, rfl, .ptr rfl⟩, ⟨_, rfl, .ptr rfl⟩, ⟨_, rfl, .ptr rfl⟩, trivial⟩ ⟨⟨_, rfl, _, rfl, .one (.cons (.p (.refl _)) (.nil))⟩, ⟨_, rfl, _, rfl, .one (.cons (.p (.refl _)) (.nil))⟩, ⟨_, rfl, _, rfl, .one (.cons (.p (.refl _)) (.cons (.p (.refl _)) (.nil)))⟩, ⟨_, rfl, _, rfl, .liftE (by first | rfl | (rw [List.map_append]; rfl) | trace_state)⟩, trivial⟩
 obtain ⟨l, i⟩ := x
 dsimp only at hx ⊢
 obtain ⟨hx1, hx2⟩ := Pl.str_le hx
 refine awp_seq fun k3 h3 => ?_
 refine awp_le (le_keep [0, 1, 2, 3, 4, 5, 7]) ?_
 simp only [kp, argSl, simprocAttr]
 refine awp_sr [21] (by rw [hC]; rfl) fun k hk => ?_
 simp (maxSteps := 9^9) (disch := (try simp only [lens]); omega) only [argSl, sm, ↓amb, mark_eq, simprocAttr, fl81_1, sz3, el22, dx]
 repeat refine an ?_
 refine hk _ ?_; clear hk k
 refine awp_cond rfl (fun hb => ?_) (fun hb => ?_)
 ·try simp only [hbx] at hb
  refine awp_skip ?_
  refine h3 _ ?_; clear h3 k3
  refine awp_block ?_
  have hlt : i < b.length := by omega
  have hn : Pl.batE b i = none := by
   rcases Pl.some_or (Pl.batE b i) with ⟨e, he⟩ | he
   ·rw [Pl.str_err hx hlt he] at hq; exact absurd hq (Pl.batE_nz he)
   ·exact he
  obtain ⟨hf1, hf2⟩ := Pl.bat_fits hn
  refine awp_region [21] (by rw [hC]; rfl) fun k hk => ?_
  simp (maxSteps := 9^9) (disch := (try simp only [lens]); omega) only [argSl, sm, ↓amb, mark_eq, simprocAttr, en49, el31, vr27, by27, dx]
  repeat refine an ?_
  refine callK_h (c_batch c b i hb8 hl hx1 hn) [0] [] (by first | rfl | (simp only [hm]; done)) (by first | rfl | (simp [namesOk, lkp]; done)) ?_ ?_ ?_ ?_ ?_ ?_ ?_
  (iterate 6 (focus (first | trivial | (intro n hn; cases hn; done) | (simp (maxSteps := 9^9) (disch := (try simp only [lens]); omega) only [argSl, sm, ↓amb, mark_eq, simprocAttr, en49, el31, vr27, by27, dx, hmx, List.filter_cons, Nat.reduceBNe, imp_self, implies_true]; done))))
  simp (maxSteps := 9^9) (disch := (try simp only [lens]); omega) only [argSl, sm, ↓amb, mark_eq, simprocAttr, en49, el31, vr27, by27, dx, hm, List.filter_cons, List.filter_nil, Nat.reduceBNe, Option.map_none]
  repeat refine an ?_
  refine hk _ ?_; clear hk k
  refine ⟨(l ++ [Pl.batX b i], i + Pl.batS b i), Pl.str_step hx hlt hn, le_of [(0, _), (1, _)] (by rfl) (by rfl) ⟨⟨_, rfl, .oe⟩, ⟨_, rfl, .own rfl⟩, ⟨_, rfl, .ptr rfl⟩, ⟨_, rfl, .ptr rfl⟩, ⟨_, rfl, .ptr rfl⟩, trivial⟩ ⟨⟨_, rfl, _, rfl, .one (.cons (.p (.refl _)) (.nil))⟩, ⟨_, rfl, _, rfl, .one (.cons (.p (.refl _)) (.nil))⟩, ⟨_, rfl, _, rfl, .one (.cons (.p (.refl _)) (.cons (.p (.refl _)) (.nil)))⟩, ⟨_, rfl, _, rfl, .liftE (by first | rfl | (rw [List.map_append]; rfl) | trace_state)⟩, trivial⟩, (by dsimp only; omega)⟩
 ·try simp only [hbx] at hb
  refine awp_exit ((if_pos rfl).mpr ?_)
  refine h1 _ ?_; clear h3 k3; clear h1 k1
  refine awp_le (le_keep [2, 3, 4, 5]) ?_
  simp only [kp, argSl, simprocAttr]
  have he := Pl.str_end hx (by omega)
  refine awp_sd [21] ⟨[0, 0, 2, 6, 14, 1, 63, 127], [], [6, 7], [], some [7, 15]⟩ (by rw [hC]; rfl) (by kernel_rfl) (by kernel_rfl) fun k hk => ?_
  simp (maxSteps := 9^9) (disch := (try simp only [lens]); omega) only [argSl, sm, ↓amb, mark_eq, simprocAttr, fl81_1, sz3, sz28, dx]
  repeat refine an ?_
  refine hk _ ?_; clear hk k
  refine awp_ret ?_
  exact retd_dw (by rw [he]; exact le_of [] (by rfl) (by rfl) ⟨⟨_, rfl, .frz rfl (by rfl)⟩, ⟨_, rfl, .ptr rfl⟩, ⟨_, rfl, .ptr rfl⟩, trivial⟩ ⟨⟨_, rfl, _, rfl, .one (.cons (.p (.refl _)) (.nil))⟩, ⟨_, rfl, _, rfl, .one (.cons (.p (.refl _)) (.nil))⟩, trivial⟩)
set_option maxHeartbeats 4000000 in
theorem c_Stream_x (c : Bool) (b : List Int) (hb8 : ∀ x, x ∈ b → Pl.B8 x) (hl : b.length ≤ 1000000) (hq : (Pl.strm b).2.2 ≠ 0) : PCall Try.prog 16 [(.seq c (b.map fun x => [.lit (.int .u8 x)]))] (.tup [.seq false ((Pl.strm b).1.map (batchC false false)), iV (Pl.strm b).2.1, iV (Pl.strm b).2.2]) := by
 refine pcall_of_dw Try.func16 rfl (by simp [Try.ntmps16]) fun C hC hds hA => ?_
 refine dw_seq hds hA ?_
 refine awp_region [21] (by rw [hC]; rfl) fun k hk => ?_
 simp (maxSteps := 9^9) (disch := (try simp only [lens]); omega) only [argSl, sm, ↓amb, mark_eq, simprocAttr, vr3, vr28, dx]
 repeat refine an ?_
 refine hk _ ?_; clear hk k
 refine dw_defer hC hds hA rfl en50 [8, 16] [7, 15] [] (some (.iface 77 (.agg #[.int .i64 (Pl.strm b).2.1, .int .i64 (Pl.strm b).2.2]))) (⟨[(0, .p (.seq c (b.map fun x => [.lit (.int .u8 x)]))), (2, .p (.seq true [])), (3, .ptr 7 1 0 0), (4, .ptr 15 1 0 0)], [(7, (.row 1 [[.p (iV 0)]])), (15, (.row 1 [[.p (iV 0)]]))], 3⟩ : LS) (⟨[(2, .p (.seq false ((Pl.strm b).1.map (batchC false false)))), (3, .ptr 7 1 0 0), (4, .ptr 15 1 0 0)], [(7, (.row 1 [[.p (iV 0)]])), (15, (.row 1 [[.p (iV 0)]]))], 1⟩ : LS) [(7, (.row 1 [[.p (iV 0)]])), (15, (.row 1 [[.p (iV 0)]]))] [(7, (.row 1 [[.p (iV (Pl.strm b).2.1)]])), (15, (.row 1 [[.p (iV (Pl.strm b).2.2)]]))] [.ptr 8 1 0 0, .ptr 16 1 0 0] [.ptr 7 1 0 0, .ptr 15 1 0 0] rfl rfl (RepinSl.cons rfl rfl rfl (RepinSl.cons rfl rfl rfl (RepinSl.cons rfl rfl rfl (RepinSl.cons rfl rfl rfl (trivial))))) (RepinHp.cons 0 rfl rfl rfl rfl rfl (RepinHp.cons 1 rfl rfl rfl rfl rfl (trivial))) rfl (by
  intro i x h
  rcases i with _ | _ | i
  ·injection h with h; subst h; exact ⟨0, _, _, rfl, rfl, rfl⟩
  ·injection h with h; subst h; exact ⟨1, _, _, rfl, rfl, rfl⟩
  ·simp at h) rfl (fun C hC => ?_) (c_Stream1 0 0 ((Pl.strm b).2.1, (Pl.strm b).2.2) hq) (by first | rfl | (simp [namesOk, lkp]; done)) (by first | trivial | (intro n hn; cases hn; done) | (simp (maxSteps := 9^9) (disch := (try simp only [lens]); omega) only [argSl, sm, ↓amb, mark_eq, simprocAttr, dx, hmx, List.filter_cons, Nat.reduceBNe, imp_self, implies_true]; done) | exact ⟨rfl, rfl, trivial⟩ | exact ⟨rfl, rfl, rfl, trivial⟩) (by first | trivial | (intro n hn; cases hn; done) | (simp (maxSteps := 9^9) (disch := (try simp only [lens]); omega) only [argSl, sm, ↓amb, mark_eq, simprocAttr, dx, hmx, List.filter_cons, Nat.reduceBNe, imp_self, implies_true]; done) | exact ⟨rfl, rfl, trivial⟩ | exact ⟨rfl, rfl, rfl, trivial⟩) (by first | trivial | (intro n hn; cases hn; done) | (simp (maxSteps := 9^9) (disch := (try simp only [lens]); omega) only [argSl, sm, ↓amb, mark_eq, simprocAttr, dx, hmx, List.filter_cons, Nat.reduceBNe, imp_self, implies_true]; done) | exact ⟨rfl, rfl, trivial⟩ | exact ⟨rfl, rfl, rfl, trivial⟩) (by first | trivial | (intro n hn; cases hn; done) | (simp (maxSteps := 9^9) (disch := (try simp only [lens]); omega) only [argSl, sm, ↓amb, mark_eq, simprocAttr, dx, hmx, List.filter_cons, Nat.reduceBNe, imp_self, implies_true]; done) | exact ⟨rfl, rfl, trivial⟩ | exact ⟨rfl, rfl, rfl, trivial⟩) (by first | rfl | (simp only [hm]; done)) (by first | trivial | (intro n hn; cases hn; done) | (simp (maxSteps := 9^9) (disch := (try simp only [lens]); omega) only [argSl, sm, ↓amb, mark_eq, simprocAttr, dx, hmx, List.filter_cons, Nat.reduceBNe, imp_self, implies_true]; done) | exact ⟨rfl, rfl, trivial⟩ | exact ⟨rfl, rfl, rfl, trivial⟩) ?_
 rotate_left
 ·show retK Try.prog Try.f16 _ .ret (⟨_, _, _⟩ : LS)
  simp (maxSteps := 9^9) (disch := (try simp only [lens]); omega) only [argSl, sm, ↓amb, mark_eq, simprocAttr, dx, hmx, List.filter_cons, Nat.reduceBNe, imp_self, implies_true]
  refine retl rfl rfl ⟨rett rfl ?_, retc rfl sz3 ?_, retc rfl sz28 ?_, trivial⟩
  all_goals first | (simp (maxSteps := 9^9) (disch := (try simp only [lens]); omega) only [argSl, sm, ↓amb, mark_eq, simprocAttr, sz28, sz3, dx]) | skip
  ·exact .p (LeP.refl _)
  ·exact .p (LeP.refl _)
  ·exact .p (LeP.refl _)
 refine awp_le (le_keep [0, 2, 3, 4]) ?_
 simp only [kp, argSl, simprocAttr]
 refine awp_sr [21] (by rw [hC]; rfl) fun k hk => ?_
 simp (maxSteps := 9^9) (disch := (try simp only [lens]); omega) only [argSl, sm, ↓amb, mark_eq, simprocAttr, vr81, bt81, pl81_0, dx]
 repeat refine an ?_
 refine hk _ ?_; clear hk k
 refine awp_seq fun k1 h1 => ?_
 refine awp_block ?_
 refine awp_own' 2 3 rfl ?_
 simp only [am, kp, Nat.reduceEqDiff, ↓reduceIte, reduceCtorEq, Nat.reduceAdd, Nat.reduceMul]
 refine awp_loop (σ := List Pl.Batch × Nat) (fun x => Pl.StrI b x.1 x.2) (fun x => ⟨[(0, (.p (.seq c (b.map fun x => [.lit (.int .u8 x)])))), (2, (.own 1)), (3, (.ptr 7 1 0 0)), (4, (.ptr 15 1 0 0)), (5, (.ptr 0 2 0 0))], [(7, (.row 1 [[.p (iV 0)]])), (15, (.row 1 [[.p (iV 0)]])), (0, (.row 2 [[.p (.seq c (b.map fun x => [.lit (.int .u8 x)])), .p (iV ((x.2 : Nat) : Int))]])), (1, (.row 3 (lift (x.1.map (batchC false false)))))], 1⟩) (fun x => b.length - x.2) ([], 0) ?_ ?_ fun x hx => ?_
 ·exact Pl.str_start b
 ·exact le_of [(0, _), (1, _)] (by rfl) (by rfl) ⟨⟨_, rfl, .oe⟩, ⟨_, rfl, .own rfl⟩, ⟨_, rfl, .ptr rfl⟩, ⟨_, rfl, .ptr rfl⟩, ⟨_, rfl, .ptr rfl⟩, trivial⟩ ⟨⟨_, rfl, _, rfl, .one (.cons (.p (.refl _)) (.nil))⟩, ⟨_, rfl, _, rfl, .one (.cons (.p (.refl _)) (.nil))⟩, ⟨_, rfl, _, rfl, .one (.cons (.p (.refl _)) (.cons (.p (.refl _)) (.nil)))⟩, ⟨_, rfl, _, rfl, .liftE (by first | rfl | (rw [List.map_append]; rfl) | trace_state)⟩, trivial⟩
 obtain ⟨l, i⟩ := x
 dsimp only at hx ⊢
 obtain ⟨hx1, hx2⟩ := Pl.str_le hx
 refine awp_seq fun k3 h3 => ?_
 refine awp_le (le_keep [0, 1, 2, 3, 4, 5, 7]) ?_
 simp only [kp, argSl, simprocAttr]
 refine awp_sr [21] (by rw [hC]; rfl) fun k hk => ?_
 simp (maxSteps := 9^9) (disch := (try simp only [lens]); omega) only [argSl, sm, ↓amb, mark_eq, simprocAttr, fl81_1, sz3, el22, dx]
 repeat refine an ?_
 refine hk _ ?_; clear hk k
 refine awp_cond rfl (fun hb => ?_) (fun hb => ?_)
 ·try simp only [hbx] at hb
  refine awp_skip ?_
  refine h3 _ ?_; clear h3 k3
  refine awp_block ?_
  have hlt : i < b.length := by omega
  rcases Pl.some_or (Pl.batE b i) with ⟨e1, hn⟩ | hn
  ·refine awp_rx [21] 2 (by rw [hC]; rfl) rfl rfl fun k hk => ?_
   simp (maxSteps := 9^9) (disch := (try simp only [lens]); omega) only [argSl, sm, ↓amb, mark_eq, simprocAttr, en49, el31, vr27, by27, ↓xmb, xm, dx]
   repeat refine an ?_
   refine callX_h (c_batchx c b i hb8 hl hx1 e1 hn) [0] [] (by first | rfl | (simp only [hm]; done)) (by first | rfl | (simp [namesOk, lkp]; done)) ?_ ?_ ?_ ?_ ?_ ?_ ?_
   (iterate 6 (focus (first | trivial | (intro n hn; cases hn; done) | (simp (maxSteps := 9^9) (disch := (try simp only [lens]); omega) only [argSl, sm, ↓amb, mark_eq, simprocAttr, en49, el31, vr27, by27, ↓xmb, xm, dx, hmx, List.filter_cons, Nat.reduceBNe, imp_self, implies_true]; done))))
   simp (maxSteps := 9^9) (disch := (try simp only [lens]); omega) only [argSl, sm, ↓amb, mark_eq, simprocAttr, en49, el31, vr27, by27, ↓xmb, xm, dx, hm, List.filter_cons, List.filter_nil, Nat.reduceBNe, Option.map_none]
   repeat refine an ?_
   refine hk _ _ ?_
   clear hk k
   rw [Pl.str_err hx hlt hn]
   exact retx_dw (le_of [] (by rfl) (by rfl) ⟨⟨_, rfl, .frz rfl (by rfl)⟩, ⟨_, rfl, .ptr rfl⟩, ⟨_, rfl, .ptr rfl⟩, trivial⟩ ⟨⟨_, rfl, _, rfl, .one (.cons (.p (.refl _)) (.nil))⟩, ⟨_, rfl, _, rfl, .one (.cons (.p (.refl _)) (.nil))⟩, trivial⟩)
  obtain ⟨hf1, hf2⟩ := Pl.bat_fits hn
  refine awp_region [21] (by rw [hC]; rfl) fun k hk => ?_
  simp (maxSteps := 9^9) (disch := (try simp only [lens]); omega) only [argSl, sm, ↓amb, mark_eq, simprocAttr, en49, el31, vr27, by27, dx]
  repeat refine an ?_
  refine callK_h (c_batch c b i hb8 hl hx1 hn) [0] [] (by first | rfl | (simp only [hm]; done)) (by first | rfl | (simp [namesOk, lkp]; done)) ?_ ?_ ?_ ?_ ?_ ?_ ?_
  (iterate 6 (focus (first | trivial | (intro n hn; cases hn; done) | (simp (maxSteps := 9^9) (disch := (try simp only [lens]); omega) only [argSl, sm, ↓amb, mark_eq, simprocAttr, en49, el31, vr27, by27, dx, hmx, List.filter_cons, Nat.reduceBNe, imp_self, implies_true]; done))))
  simp (maxSteps := 9^9) (disch := (try simp only [lens]); omega) only [argSl, sm, ↓amb, mark_eq, simprocAttr, en49, el31, vr27, by27, dx, hm, List.filter_cons, List.filter_nil, Nat.reduceBNe, Option.map_none]
  repeat refine an ?_
  refine hk _ ?_; clear hk k
  refine ⟨(l ++ [Pl.batX b i], i + Pl.batS b i), Pl.str_step hx hlt hn, le_of [(0, _), (1, _)] (by rfl) (by rfl) ⟨⟨_, rfl, .oe⟩, ⟨_, rfl, .own rfl⟩, ⟨_, rfl, .ptr rfl⟩, ⟨_, rfl, .ptr rfl⟩, ⟨_, rfl, .ptr rfl⟩, trivial⟩ ⟨⟨_, rfl, _, rfl, .one (.cons (.p (.refl _)) (.nil))⟩, ⟨_, rfl, _, rfl, .one (.cons (.p (.refl _)) (.nil))⟩, ⟨_, rfl, _, rfl, .one (.cons (.p (.refl _)) (.cons (.p (.refl _)) (.nil)))⟩, ⟨_, rfl, _, rfl, .liftE (by first | rfl | (rw [List.map_append]; rfl) | trace_state)⟩, trivial⟩, (by dsimp only; omega)⟩
 ·((try simp only [hbx] at hb); exact absurd (by rw [Pl.str_end hx (by omega)]) hq)
end Go.Proofs.Ytjkkjiaeeobnkaa
end
section
set_option linter.unusedSimpArgs false
set_option linter.unusedVariables false
set_option maxRecDepth 100000
namespace Go.Proofs.Ytjkkjiaeeobnkaa
open Go.Am Go.Proofs
theorem c_wire_Stream (c : Bool) (b : List Int) (hb8 : ∀ x, x ∈ b → Pl.B8 x) (hl : b.length ≤ 1000000) : PCall Try.prog 16 [(.seq c (b.map fun x => [.lit (.int .u8 x)]))] (.tup [.seq false ((Pl.strm b).1.map (batchC false false)), iV (Pl.strm b).2.1, iV (Pl.strm b).2.2]) := by
  by_cases h : (Pl.strm b).2.2 = 0
  · exact c_Stream_o c b hb8 hl h
  · exact c_Stream_x c b hb8 hl h
theorem decR_w (c : Bool) (b : List Int) (hb8 : ∀ x, x ∈ b → Pl.B8 x) (hl : b.length ≤ 1000000) : PCall Try.prog 14 [(.seq c (b.map fun x => [.lit (.int .u8 x)]))] (.tup [.agg (batchC false false (Pl.decR b).1), iV (Pl.decR b).2.1, iV (Pl.decR b).2.2]) := by
  rcases Pl.some_or (Pl.batE b 0) with ⟨e, h⟩ | h
  · rw [Pl.decR_no h]; exact c_Decode_x c b hb8 hl e h
  · rw [Pl.decR_ok h]; exact c_Decode_o c b hb8 hl h
theorem pl27_0 : tPlace Try.prog 27 0 = some (0, 1) := by kernel_rfl
end Go.Proofs.Ytjkkjiaeeobnkaa
end
section
set_option linter.unusedSimpArgs false
set_option linter.unusedVariables false
set_option maxRecDepth 100000
namespace Go.Proofs.Ytjkkjiaeeobnkaa
open Go.Am Go.Proofs
theorem by1 (L : List Int) : ∀ y, y ∈ (L.map fun x => [PV.lit (.int .u8 x)]) → y.length = 1 := fun y h => by
  obtain ⟨_, _, rfl⟩ := List.mem_map.1 h; rfl
theorem by1k (L : List Int) (k : Int) : ∀ y, y ∈ (L.map fun x => [PV.lit (.int .u8 x)]) ++ [[.lit (.int .u8 k)]] → y.length = 1 := fun y h => by
  rcases List.mem_append.1 h with h | h
  · exact by1 L y h
  · rw [List.mem_singleton.1 h]; rfl
theorem by5 : tBytes Try.prog 5 = some 1 := by kernel_rfl
theorem el67 : tEl Try.prog 67 = some 3 := by kernel_rfl
theorem it5 : tInt Try.prog 5 = some .u8 := by kernel_rfl
theorem vr5 : tVar Try.prog 5 = some (false, [.lit (.int .u8 0)]) := by kernel_rfl
set_option maxHeartbeats 4000000 in
theorem c_putO (es : List (List PV)) (ns : List Int) (c : Bool) (he : ∀ y, y ∈ es → y.length = 1) (hl : es.length ≤ 100000) (hn : ns.length ≤ 1000) : HCall Try.prog 52 [.own 7, .p (ints c ns)] [(7, (.row 1 (lift (es))))] (.own 0) [(0, (.row 1 (lift (es ++ (Pl.numsB ns).map fun x => [.lit (.int .u8 x)]))))] := by
 have u1 : (2 : Int) ^ min 8 IntKind.i64.bits = 256 := by decide
 refine hcall_of_awp Try.func52 rfl (by simp [Try.ntmps52]) fun C hC => ?_
 refine awp_le (le_keep [0, 1]) ?_
 simp only [kp, argSl, simprocAttr]
 refine awp_sr [20] (by rw [hC]; rfl) fun k hk => ?_
 simp (maxSteps := 9^9) (disch := (try simp only [lens]); omega) only [argSl, sm, ↓amb, mark_eq, simprocAttr, wr_u8, dx]
 repeat refine an ?_
 refine hk _ ?_; clear hk k
 refine awp_seq fun k1 h1 => ?_
 refine awp_le (le_keep [0, 1, 4]) ?_
 simp only [kp, argSl, simprocAttr]
 refine awp_sr [20] (by rw [hC]; rfl) fun k hk => ?_
 simp (maxSteps := 9^9) (disch := (try simp only [lens]); omega) only [argSl, sm, ↓amb, mark_eq, simprocAttr, el67, wr_u8, dx]
 repeat refine an ?_
 refine hk _ ?_; clear hk k
 refine awp_block ?_
 refine awp_loop (σ := Nat) (fun i => i ≤ ns.length) (fun (i : Nat) => ⟨[(0, (.own 0)), (7, (.p (ints c ns))), (8, (.p (iV ns.length))), (9, (.p (iV (i : Int))))], [(0, (.row 1 (lift (es ++ (Pl.numsB (ns.take i)).map fun x => [.lit (.int .u8 x)]))))], 1⟩) (fun i => ns.length - i) 0 ?_ ?_ fun i hi => ?_
 ·exact Nat.zero_le _
 ·exact le_of2 [(0, 7)] (by rfl) (by rfl) ⟨⟨_, rfl, .own rfl⟩, ⟨_, rfl, .oe⟩, ⟨_, rfl, .oe⟩, ⟨_, rfl, .oe⟩, trivial⟩ ⟨⟨_, rfl, _, rfl, .liftE (by first | (rw [List.take_zero]; exact (List.append_nil _).symm) | (rw [u1, Pl.take_snoc' ns i (by omega), Pl.numsB_snoc, List.map_append, ← List.append_assoc]; rfl) | trace_state)⟩, trivial⟩
 refine awp_le (le_keep [0, 4, 7, 8, 9]) ?_
 simp only [kp, argSl, simprocAttr]
 refine awp_sr [20] (by rw [hC]; rfl) fun k hk => ?_
 simp (maxSteps := 9^9) (disch := (try simp only [lens]); omega) only [argSl, sm, ↓amb, mark_eq, simprocAttr, wr_u8, dx]
 repeat refine an ?_
 refine hk _ ?_; clear hk k
 refine awp_seq fun k3 h3 => ?_
 refine awp_cond rfl (fun hb => ?_) (fun hb => ?_)
 ·try simp only [hbx] at hb
  refine awp_skip ?_
  refine h3 _ ?_; clear h3 k3
  refine awp_seq fun k4 h4 => ?_
  refine awp_block ?_
  refine awp_le (le_keep [0, 4, 7, 8, 9]) ?_
  simp only [kp, argSl, simprocAttr]
  refine awp_sr [20] (by rw [hC]; rfl) fun k hk => ?_
  simp (maxSteps := 9^9) (disch := (try simp only [lens]); omega) only [argSl, sm, ↓amb, mark_eq, simprocAttr, el67, sz3, wr_u8, dx]
  repeat refine an ?_
  refine hk _ ?_; clear hk k
  have hnl := Pl.numsB_len (ns.take i)
  rw [List.length_take] at hnl
  have hy : ∀ y, y ∈ es ++ ((Pl.numsB (ns.take i)).map fun x => [.lit (.int .u8 x)]) → y.length = 1 := fun y h => (List.mem_append.1 h).elim (he y) (by1 _ y)
  refine awp_region [20] (by rw [hC]; rfl) fun k hk => ?_
  simp (maxSteps := 9^9) (disch := (try simp only [lens]); omega) only [argSl, sm, ↓amb, mark_eq, simprocAttr, it5, un3, el22, vr5, by5, wr_u8, dx]
  repeat refine an ?_
  refine hk _ ?_; clear hk k
  refine h4 _ ?_; clear h4 k4
  refine awp_region [20] (by rw [hC]; rfl) fun k hk => ?_
  simp (maxSteps := 9^9) (disch := (try simp only [lens]); omega) only [argSl, sm, ↓amb, mark_eq, simprocAttr, wr_u8, dx]
  repeat refine an ?_
  refine hk _ ?_; clear hk k
  refine ⟨i + 1, by omega, le_of [(0, _)] (by rfl) (by rfl) ⟨⟨_, rfl, .own rfl⟩, ⟨_, rfl, .oe⟩, ⟨_, rfl, .oe⟩, ⟨_, rfl, .oe⟩, trivial⟩ ⟨⟨_, rfl, _, rfl, .liftE (by first | (rw [List.take_zero]; exact (List.append_nil _).symm) | (rw [u1, Pl.take_snoc' ns i (by omega), Pl.numsB_snoc, List.map_append, ← List.append_assoc]; rfl) | trace_state)⟩, trivial⟩, by omega⟩
 ·try simp only [hbx] at hb
  refine awp_exit ((if_pos rfl).mpr ?_)
  refine h1 _ ?_; clear h3 k3; clear h1 k1
  refine awp_le (le_keep [0]) ?_
  simp only [kp, argSl, simprocAttr]
  obtain rfl : i = ns.length := by omega
  rw [List.take_of_length_le (Nat.le_refl _)]
  refine awp_sr [20] (by rw [hC]; rfl) fun k hk => ?_
  simp (maxSteps := 9^9) (disch := (try simp only [lens]); omega) only [argSl, sm, ↓amb, mark_eq, simprocAttr, wr_u8, dx]
  repeat refine an ?_
  refine hk _ ?_; clear hk k
  refine awp_ret ?_
  refine reth1 rfl rfl ?_
  exact le_of [(0, _)] (by rfl) (by rfl) ⟨⟨_, rfl, .own rfl⟩, trivial⟩ ⟨⟨_, rfl, _, rfl, .liftE rfl⟩, trivial⟩
set_option maxHeartbeats 4000000 in
theorem c_putS (k n : Int) (c : Bool) : OCall Try.prog 52 [(.seq true [[.lit (.int .u8 k)]]), (ints c [n])] 1 (([k, n / 256 % 256, n % 256]).map fun x => [.lit (.int .u8 x)]) := by
 have u1 : (2 : Int) ^ min 8 IntKind.i64.bits = 256 := by decide
 refine ocall_of_awp Try.func52 rfl (by simp [Try.ntmps52]) fun C hC => ?_
 refine awp_le (le_keep [0, 1]) ?_
 simp only [kp, argSl, simprocAttr]
 refine awp_sr [20] (by rw [hC]; rfl) fun k hk => ?_
 simp (maxSteps := 9^9) (disch := (try simp only [lens]); omega) only [argSl, sm, ↓amb, mark_eq, simprocAttr, wr_u8, dx]
 repeat refine an ?_
 refine hk _ ?_; clear hk k
 refine awp_seq fun k1 h1 => ?_
 refine awp_le (le_keep [0, 1, 4]) ?_
 simp only [kp, argSl, simprocAttr]
 refine awp_sr [20] (by rw [hC]; rfl) fun k hk => ?_
 simp (maxSteps := 9^9) (disch := (try simp only [lens]); omega) only [argSl, sm, ↓amb, mark_eq, simprocAttr, el67, wr_u8, dx]
 repeat refine an ?_
 refine hk _ ?_; clear hk k
 refine awp_block ?_
 refine awp_loop1 (σ := Unit) (fun _ => True) (fun (_ : Unit) => ⟨[(0, (.own 0)), (7, (.p (ints c [n]))), (8, (.p (iV 1))), (9, (.p (iV 1)))], [(0, (.row 1 (lift (([k, n / 256 % 256, n % 256]).map fun x => [.lit (.int .u8 x)]))))], 1⟩) (fun _ => 0) (1) ?_ fun z hz => ?_
 ·refine awp_le (le_keep [0, 4, 7, 8, 9]) ?_
  simp only [kp, argSl, simprocAttr]
  refine awp_sr [20] (by rw [hC]; rfl) fun k hk => ?_
  simp (maxSteps := 9^9) (disch := (try simp only [lens]); omega) only [argSl, sm, ↓amb, mark_eq, simprocAttr, wr_u8, dx]
  repeat refine an ?_
  refine hk _ ?_; clear hk k
  refine awp_seq fun k3 h3 => ?_
  refine awp_cond rfl (fun hb => ?_) (fun hb => ?_)
  ·try simp only [hbx] at hb
   refine awp_skip ?_
   refine h3 _ ?_; clear h3 k3
   refine awp_seq fun k4 h4 => ?_
   refine awp_block ?_
   refine awp_le (le_keep [0, 4, 7, 8, 9]) ?_
   simp only [kp, argSl, simprocAttr]
   refine awp_sr [20] (by rw [hC]; rfl) fun k hk => ?_
   simp (maxSteps := 9^9) (disch := (try simp only [lens]); omega) only [argSl, sm, ↓amb, mark_eq, simprocAttr, el67, sz3, wr_u8, dx]
   repeat refine an ?_
   refine hk _ ?_; clear hk k
   refine awp_region [20] (by rw [hC]; rfl) fun k hk => ?_
   simp (maxSteps := 9^9) (disch := (try simp only [lens]); omega) only [argSl, sm, ↓amb, mark_eq, simprocAttr, it5, un3, el22, vr5, by5, wr_u8, dx]
   repeat refine an ?_
   refine hk _ ?_; clear hk k
   refine h4 _ ?_; clear h4 k4
   refine awp_region [20] (by rw [hC]; rfl) fun k hk => ?_
   simp (maxSteps := 9^9) (disch := (try simp only [lens]); omega) only [argSl, sm, ↓amb, mark_eq, simprocAttr, wr_u8, dx]
   repeat refine an ?_
   refine hk _ ?_; clear hk k
   refine ⟨(), trivial, le_of [(0, _)] (by rfl) (by rfl) ⟨⟨_, rfl, .own rfl⟩, ⟨_, rfl, .oe⟩, ⟨_, rfl, .oe⟩, ⟨_, rfl, .oe⟩, trivial⟩ ⟨⟨_, rfl, _, rfl, .liftE (by first | rfl | (rw [u1]; rfl) | trace_state)⟩, trivial⟩, by decide⟩
  ·exact absurd hb (by simp)
 refine awp_le (le_keep [0, 4, 7, 8, 9]) ?_
 simp only [kp, argSl, simprocAttr]
 refine awp_sr [20] (by rw [hC]; rfl) fun k hk => ?_
 simp (maxSteps := 9^9) (disch := (try simp only [lens]); omega) only [argSl, sm, ↓amb, mark_eq, simprocAttr, wr_u8, dx]
 repeat refine an ?_
 refine hk _ ?_; clear hk k
 refine awp_seq fun k5 h5 => ?_
 refine awp_cond rfl (fun hb => ?_) (fun hb => ?_)
 ·exact absurd hb (by simp)
 ·try simp only [hbx] at hb
  refine awp_exit ((if_pos rfl).mpr ?_)
  refine h1 _ ?_; clear h5 k5; clear h1 k1
  refine awp_le (le_keep [0]) ?_
  simp only [kp, argSl, simprocAttr]
  refine awp_sr [20] (by rw [hC]; rfl) fun k hk => ?_
  simp (maxSteps := 9^9) (disch := (try simp only [lens]); omega) only [argSl, sm, ↓amb, mark_eq, simprocAttr, wr_u8, dx]
  repeat refine an ?_
  refine hk _ ?_; clear hk k
  refine awp_ret ?_
  refine reto1 rfl rfl ?_
  rfl
set_option maxHeartbeats 4000000 in
theorem c_ref25_two (n : Int) (hn : Pl.fits n) : PCall Try.prog 53 [iV n] (.seq true ((Pl.numsB [n]).map fun x => [.lit (.int .u8 x)])) := by
 obtain ⟨e1, e2⟩ := Pl.two_fits hn
 unfold Pl.fits at hn
 refine pcall_of_awp Try.func53 rfl (by simp [Try.ntmps53]) fun C hC => ?_
 refine awp_le (le_keep [0]) ?_
 simp only [kp, argSl, simprocAttr]
 refine awp_sr [] (by rw [hC]; rfl) fun k hk => ?_
 simp (maxSteps := 9^9) (disch := (try simp only [lens]); omega) only [argSl, sm, ↓amb, mark_eq, simprocAttr, wr_u8, dx]
 repeat refine an ?_
 refine hk _ ?_; clear hk k
 refine awp_le (le_keep [0]) ?_
 simp only [kp, argSl, simprocAttr]
 refine awp_sr [] (by rw [hC]; rfl) fun k hk => ?_
 simp (maxSteps := 9^9) (disch := (try simp only [lens]); omega) only [argSl, sm, ↓amb, mark_eq, simprocAttr, it5, un3, el22, vr5, wr_u8, dx]
 repeat refine an ?_
 refine hk _ ?_; clear hk k
 refine awp_ret ?_
 refine ret1 rfl rfl ?_
 exact .p (LeP.of_eq (by rw [show n % 256 % 256 = n % 256 from by omega]; rfl))
end Go.Proofs.Ytjkkjiaeeobnkaa
end
section
set_option linter.unusedSimpArgs false
set_option linter.unusedVariables false
set_option maxRecDepth 100000
namespace Go.Proofs.Ytjkkjiaeeobnkaa
open Go.Am Go.Proofs
theorem en24 : enters Try.prog 24 = true := by kernel_rfl
theorem en52 : enters Try.prog 52 = true := by kernel_rfl
set_option maxHeartbeats 4000000 in
theorem c_wire_Encode (c d : Bool) (x : Pl.Batch) : PCall Try.prog 22 [.agg (batchC c d x)] (.tup [(if Pl.batchRight x then .seq false ((Pl.encB x).map fun x => [.lit (.int .u8 x)]) else .seq false []), iV (if Pl.batchRight x then 0 else 1)]) := by
 refine pcall_of_awp Try.func22 rfl (by simp [Try.ntmps22]) fun C hC => ?_
 refine awp_le (le_keep [0]) ?_
 simp only [kp, argSl, simprocAttr]
 refine awp_sr [52] (by rw [hC]; rfl) fun k hk => ?_
 simp (maxSteps := 9^9) (disch := (try simp only [lens]); omega) only [argSl, sm, ↓amb, mark_eq, simprocAttr, wr_u8, dx]
 repeat refine an ?_
 refine hk _ ?_; clear hk k
 refine awp_seq fun k1 h1 => ?_
 refine awp_le (le_keep [1, 2, 3]) ?_
 simp only [kp, argSl, simprocAttr]
 refine awp_sr [52] (by rw [hC]; rfl) fun k hk => ?_
 simp (maxSteps := 9^9) (disch := (try simp only [lens]); omega) only [argSl, sm, ↓amb, mark_eq, simprocAttr, sz27, en24, wr_u8, dx]
 repeat refine an ?_
 refine callK_p (c_wire_Right c d x) rfl ?_
 simp (maxSteps := 9^9) (disch := (try simp only [lens]); omega) only [argSl, sm, ↓amb, mark_eq, simprocAttr, sz27, en24, wr_u8, dx]
 repeat refine an ?_
 refine hk _ ?_; clear hk k
 refine awp_cond rfl (fun hb => ?_) (fun hb => ?_)
 ·try simp only [hbx] at hb
  refine awp_le (le_keep []) ?_
  simp only [kp, argSl, simprocAttr]
  refine awp_sr [52] (by rw [hC]; rfl) fun k hk => ?_
  simp (maxSteps := 9^9) (disch := (try simp only [lens]); omega) only [argSl, sm, ↓amb, mark_eq, simprocAttr, wr_u8, dx]
  repeat refine an ?_
  refine hk _ ?_; clear hk k
  refine awp_ret ?_
  rw [if_neg (by first | exact hb | simpa using hb), if_neg (by first | exact hb | simpa using hb)]
  refine ret2 rfl rfl rfl ?_ ?_
  ·exact .p (LeP.seq _ _)
  ·exact .p (LeP.refl _)
 ·try simp only [hbx] at hb
  refine awp_skip ?_
  refine h1 _ ?_; clear h1 k1
  refine awp_le (le_keep [1]) ?_
  simp only [kp, argSl, simprocAttr]
  have hr : Pl.batchRight x := by first | exact hb | exact Decidable.not_not.1 hb
  obtain ⟨hs, hre, hra⟩ := Pl.br_shape hr
  unfold Pl.shape at hs
  refine awp_sr [52] (by rw [hC]; rfl) fun k hk => ?_
  simp (maxSteps := 9^9) (disch := (try simp only [lens]); omega) only [argSl, sm, ↓amb, mark_eq, simprocAttr, fl27_0, sz3, it5, un3, el22, vr5, fl27_1, sz24, el24, fl27_2, sz25, el25, el67, vr3, en52, wr_u8, dx]
  repeat refine an ?_
  refine callK_o (c_putS (x.kind % 256) ((x.edges.length : Int) + x.asks.length) true) rfl ?_
  simp (maxSteps := 9^9) (disch := (try simp only [lens]); omega) only [argSl, sm, ↓amb, mark_eq, simprocAttr, fl27_0, sz3, it5, un3, el22, vr5, fl27_1, sz24, el24, fl27_2, sz25, el25, el67, vr3, en52, wr_u8, dx]
  repeat refine an ?_
  refine hk _ ?_; clear hk k
  refine awp_seq fun k2 h2 => ?_
  refine awp_le (le_keep [1, 2, 3, 4]) ?_
  simp only [kp, argSl, simprocAttr]
  refine awp_sr [52] (by rw [hC]; rfl) fun k hk => ?_
  simp (maxSteps := 9^9) (disch := (try simp only [lens]); omega) only [argSl, sm, ↓amb, mark_eq, simprocAttr, fl27_1, sz24, el24, wr_u8, dx]
  repeat refine an ?_
  refine hk _ ?_; clear hk k
  refine awp_block ?_
  refine awp_loop (σ := Nat) (fun i => i ≤ x.edges.length) (fun (i : Nat) => ⟨[(1, (.ptr 0 3 0 0)), (4, (.own 1)), (26, (.p (.seq c (x.edges.map edgeC)))), (27, (.p (iV x.edges.length))), (28, (.p (iV (i : Int))))], [(0, (.row 3 [[.p (iV x.kind), .p (.seq c (x.edges.map edgeC)), .p (.seq d (x.asks.map askC))]])), (1, (.row 1 (lift ((Pl.hdB x ++ Pl.edB (x.edges.take i)).map fun x => [.lit (.int .u8 x)]))))], 1⟩) (fun i => x.edges.length - i) 0 ?_ ?_ fun i hi => ?_
  ·exact Nat.zero_le _
  ·exact le_of [(0, _), (1, _)] (by rfl) (by rfl) ⟨⟨_, rfl, .ptr rfl⟩, ⟨_, rfl, .own rfl⟩, ⟨_, rfl, .oe⟩, ⟨_, rfl, .oe⟩, ⟨_, rfl, .oe⟩, trivial⟩ ⟨⟨_, rfl, _, rfl, .one (.cons (.p (.refl _)) (.cons (.p (.refl _)) (.cons (.p (.refl _)) (.nil))))⟩, ⟨_, rfl, _, rfl, .liftE (by first | exact congrArg (List.map fun x => [PV.lit (.int .u8 x)]) (List.append_nil (Pl.hdB x)).symm | (rw [Pl.edB_snoc x.edges i (by omega), ← List.append_assoc, List.map_append (l₂ := Pl.numsB _)]; done) | trace_state)⟩, trivial⟩
  refine awp_le (le_keep [0, 1, 2, 3, 4, 26, 27, 28]) ?_
  simp only [kp, argSl, simprocAttr]
  refine awp_sr [52] (by rw [hC]; rfl) fun k hk => ?_
  simp (maxSteps := 9^9) (disch := (try simp only [lens]); omega) only [argSl, sm, ↓amb, mark_eq, simprocAttr, wr_u8, dx]
  repeat refine an ?_
  refine hk _ ?_; clear hk k
  refine awp_seq fun k4 h4 => ?_
  refine awp_cond rfl (fun hb => ?_) (fun hb => ?_)
  ·try simp only [hbx] at hb
   refine awp_skip ?_
   refine h4 _ ?_; clear h4 k4
   refine awp_seq fun k5 h5 => ?_
   refine awp_block ?_
   refine awp_le (le_keep [0, 1, 2, 3, 4, 26, 27, 28]) ?_
   simp only [kp, argSl, simprocAttr]
   refine awp_sr [52] (by rw [hC]; rfl) fun k hk => ?_
   simp (maxSteps := 9^9) (disch := (try simp only [lens]); omega) only [argSl, sm, ↓amb, mark_eq, simprocAttr, el24, sz47, vr47, wr_u8, dx]
   repeat refine an ?_
   refine hk _ ?_; clear hk k
   have hdl := Pl.hdB_len x
   have hel := Pl.edB_len (x.edges.take i)
   rw [List.length_take] at hel
   refine awp_region [52] (by rw [hC]; rfl) fun k hk => ?_
   simp (maxSteps := 9^9) (disch := (try simp only [lens]); omega) only [argSl, sm, ↓amb, mark_eq, simprocAttr, fl47_0, sz3, fl47_1, el67, vr3, en52, wr_u8, dx]
   repeat refine an ?_
   refine callK_h (c_putO ((Pl.hdB x ++ Pl.edB (x.edges.take i)).map fun x => [.lit (.int .u8 x)]) [(x.edges.getD i default).u, (x.edges.getD i default).v] true (by1 _) (by rw [List.length_map]; simp only [List.length_append, Pl.hdB_len]; omega) (by show 2 ≤ 1000; decide)) [1] [] (by first | rfl | (simp only [hm]; done)) (by first | rfl | (simp [namesOk, lkp]; done)) ?_ ?_ ?_ ?_ ?_ ?_ ?_
   (iterate 6 (focus (first | trivial | (intro n hn; cases hn; done) | (simp (maxSteps := 9^9) (disch := (try simp only [lens]); omega) only [argSl, sm, ↓amb, mark_eq, simprocAttr, fl47_0, sz3, fl47_1, el67, vr3, en52, wr_u8, dx, hmx, List.filter_cons, Nat.reduceBNe, imp_self, implies_true]; done))))
   simp (maxSteps := 9^9) (disch := (try simp only [lens]); omega) only [argSl, sm, ↓amb, mark_eq, simprocAttr, fl47_0, sz3, fl47_1, el67, vr3, en52, wr_u8, dx, hm, List.filter_cons, List.filter_nil, Nat.reduceBNe, Option.map_none]
   repeat refine an ?_
   refine hk _ ?_; clear hk k
   refine h5 _ ?_; clear h5 k5
   refine awp_region [52] (by rw [hC]; rfl) fun k hk => ?_
   simp (maxSteps := 9^9) (disch := (try simp only [lens]); omega) only [argSl, sm, ↓amb, mark_eq, simprocAttr, wr_u8, dx]
   repeat refine an ?_
   refine hk _ ?_; clear hk k
   refine ⟨i + 1, by omega, le_of [(0, _), (1, _)] (by rfl) (by rfl) ⟨⟨_, rfl, .ptr rfl⟩, ⟨_, rfl, .own rfl⟩, ⟨_, rfl, .oe⟩, ⟨_, rfl, .oe⟩, ⟨_, rfl, .oe⟩, trivial⟩ ⟨⟨_, rfl, _, rfl, .one (.cons (.p (.refl _)) (.cons (.p (.refl _)) (.cons (.p (.refl _)) (.nil))))⟩, ⟨_, rfl, _, rfl, .liftE (by first | exact congrArg (List.map fun x => [PV.lit (.int .u8 x)]) (List.append_nil (Pl.hdB x)).symm | (rw [Pl.edB_snoc x.edges i (by omega), ← List.append_assoc, List.map_append (l₂ := Pl.numsB _)]; done) | trace_state)⟩, trivial⟩, by omega⟩
  ·try simp only [hbx] at hb
   refine awp_exit ((if_pos rfl).mpr ?_)
   refine h2 _ ?_; clear h4 k4; clear h2 k2
   refine awp_seq fun k6 h6 => ?_
   refine awp_le (le_keep [1, 2, 3, 4]) ?_
   simp only [kp, argSl, simprocAttr]
   obtain rfl : i = x.edges.length := by omega
   refine awp_sr [52] (by rw [hC]; rfl) fun k hk => ?_
   simp (maxSteps := 9^9) (disch := (try simp only [lens]); omega) only [argSl, sm, ↓amb, mark_eq, simprocAttr, fl27_2, sz25, el25, wr_u8, dx]
   repeat refine an ?_
   refine hk _ ?_; clear hk k
   refine awp_block ?_
   refine awp_loop (σ := Nat) (fun i => i ≤ x.asks.length) (fun (i : Nat) => ⟨[(1, (.ptr 0 3 0 0)), (4, (.own 1)), (41, (.p (.seq d (x.asks.map askC)))), (42, (.p (iV x.asks.length))), (43, (.p (iV (i : Int))))], [(0, (.row 3 [[.p (iV x.kind), .p (.seq c (x.edges.map edgeC)), .p (.seq d (x.asks.map askC))]])), (1, (.row 1 (lift ((Pl.hdB x ++ Pl.edB x.edges ++ Pl.asB (x.asks.take i)).map fun x => [.lit (.int .u8 x)]))))], 1⟩) (fun i => x.asks.length - i) 0 ?_ ?_ fun i hi => ?_
   ·exact Nat.zero_le _
   ·exact le_of [(0, _), (1, _)] (by rfl) (by rfl) ⟨⟨_, rfl, .ptr rfl⟩, ⟨_, rfl, .own rfl⟩, ⟨_, rfl, .oe⟩, ⟨_, rfl, .oe⟩, ⟨_, rfl, .oe⟩, trivial⟩ ⟨⟨_, rfl, _, rfl, .one (.cons (.p (.refl _)) (.cons (.p (.refl _)) (.cons (.p (.refl _)) (.nil))))⟩, ⟨_, rfl, _, rfl, .liftE (by first | exact congrArg (List.map fun x => [PV.lit (.int .u8 x)]) (List.append_nil (Pl.hdB x ++ Pl.edB x.edges)).symm | (rw [Pl.asB_snoc x.asks i (by omega), ← List.append_assoc, List.map_append (l₂ := _ :: _), List.append_assoc]; rfl) | trace_state)⟩, trivial⟩
   refine awp_le (le_keep [0, 1, 2, 3, 4, 41, 42, 43]) ?_
   simp only [kp, argSl, simprocAttr]
   refine awp_sr [52] (by rw [hC]; rfl) fun k hk => ?_
   simp (maxSteps := 9^9) (disch := (try simp only [lens]); omega) only [argSl, sm, ↓amb, mark_eq, simprocAttr, wr_u8, dx]
   repeat refine an ?_
   refine hk _ ?_; clear hk k
   refine awp_seq fun k8 h8 => ?_
   refine awp_cond rfl (fun hb => ?_) (fun hb => ?_)
   ·try simp only [hbx] at hb
    refine awp_skip ?_
    refine h8 _ ?_; clear h8 k8
    refine awp_seq fun k9 h9 => ?_
    refine awp_block ?_
    refine awp_le (le_keep [0, 1, 2, 3, 4, 41, 42, 43]) ?_
    simp only [kp, argSl, simprocAttr]
    refine awp_sr [52] (by rw [hC]; rfl) fun k hk => ?_
    simp (maxSteps := 9^9) (disch := (try simp only [lens]); omega) only [argSl, sm, ↓amb, mark_eq, simprocAttr, el25, sz45, vr45, wr_u8, dx]
    repeat refine an ?_
    refine hk _ ?_; clear hk k
    have hdl := Pl.hdB_len x
    have hel := Pl.edB_len x.edges
    have hal := Pl.asB_len (x.asks.take i)
    rw [List.length_take] at hal
    refine awp_draw [52] ⟨[0, 0, 2, 6, 14, 31, 0, 64, 0, 256, 960, 2047, 4095], [], [5, 11], [(5, 11)], some [1]⟩ (by rw [hC]; rfl) (by kernel_rfl) (by kernel_rfl) fun k hk => ?_
    simp (maxSteps := 9^9) (disch := (try simp only [lens]); omega) only [argSl, sm, ↓amb, mark_eq, simprocAttr, fl45_0, sz3, it5, un3, el22, vr5, by5, fl45_1, fl45_2, el67, vr3, en52, wr_u8, dx]
    repeat refine an ?_
    refine callK_h (c_putO (((Pl.hdB x ++ Pl.edB x.edges ++ Pl.asB (x.asks.take i)).map fun x => [.lit (.int .u8 x)]) ++ [[.lit (.int .u8 ((x.asks.getD i default).kind % 256))]]) [(x.asks.getD i default).u, (x.asks.getD i default).v] true (by1k _ _) (by rw [List.length_append, List.length_map]; simp only [List.length_append, Pl.hdB_len, List.length_cons, List.length_nil]; omega) (by show 2 ≤ 1000; decide)) [88] [] (by first | rfl | (simp only [hm]; done)) (by first | rfl | (simp [namesOk, lkp]; done)) ?_ ?_ ?_ ?_ ?_ ?_ ?_
    (iterate 6 (focus (first | trivial | (intro n hn; cases hn; done) | (simp (maxSteps := 9^9) (disch := (try simp only [lens]); omega) only [argSl, sm, ↓amb, mark_eq, simprocAttr, fl45_0, sz3, it5, un3, el22, vr5, by5, fl45_1, fl45_2, el67, vr3, en52, wr_u8, dx, hmx, List.filter_cons, Nat.reduceBNe, imp_self, implies_true]; done))))
    simp (maxSteps := 9^9) (disch := (try simp only [lens]); omega) only [argSl, sm, ↓amb, mark_eq, simprocAttr, fl45_0, sz3, it5, un3, el22, vr5, by5, fl45_1, fl45_2, el67, vr3, en52, wr_u8, dx, hm, List.filter_cons, List.filter_nil, Nat.reduceBNe, Option.map_none]
    repeat refine an ?_
    refine hk _ ?_; clear hk k
    refine h9 _ ?_; clear h9 k9
    refine awp_region [52] (by rw [hC]; rfl) fun k hk => ?_
    simp (maxSteps := 9^9) (disch := (try simp only [lens]); omega) only [argSl, sm, ↓amb, mark_eq, simprocAttr, wr_u8, dx]
    repeat refine an ?_
    refine hk _ ?_; clear hk k
    refine ⟨i + 1, by omega, le_of [(0, _), (1, _)] (by rfl) (by rfl) ⟨⟨_, rfl, .ptr rfl⟩, ⟨_, rfl, .own rfl⟩, ⟨_, rfl, .oe⟩, ⟨_, rfl, .oe⟩, ⟨_, rfl, .oe⟩, trivial⟩ ⟨⟨_, rfl, _, rfl, .one (.cons (.p (.refl _)) (.cons (.p (.refl _)) (.cons (.p (.refl _)) (.nil))))⟩, ⟨_, rfl, _, rfl, .liftE (by first | exact congrArg (List.map fun x => [PV.lit (.int .u8 x)]) (List.append_nil (Pl.hdB x ++ Pl.edB x.edges)).symm | (rw [Pl.asB_snoc x.asks i (by omega), ← List.append_assoc, List.map_append (l₂ := _ :: _), List.append_assoc]; rfl) | trace_state)⟩, trivial⟩, by omega⟩
   ·try simp only [hbx] at hb
    refine awp_exit ((if_pos rfl).mpr ?_)
    refine h6 _ ?_; clear h8 k8; clear h6 k6
    refine awp_le (le_keep [4]) ?_
    simp only [kp, argSl, simprocAttr]
    obtain rfl : i = x.asks.length := by omega
    rw [List.take_of_length_le (Nat.le_refl _)]
    refine awp_sr [52] (by rw [hC]; rfl) fun k hk => ?_
    simp (maxSteps := 9^9) (disch := (try simp only [lens]); omega) only [argSl, sm, ↓amb, mark_eq, simprocAttr, wr_u8, dx]
    repeat refine an ?_
    refine hk _ ?_; clear hk k
    refine awp_ret ?_
    rw [if_pos hr, if_pos hr]
    refine ret2 rfl rfl rfl ?_ ?_
    ·exact .ownE rfl rfl
    ·exact .p (LeP.refl _)
end Go.Proofs.Ytjkkjiaeeobnkaa
end
section
set_option linter.unusedSimpArgs false
set_option linter.unusedVariables false
set_option maxRecDepth 100000
namespace Go.Proofs.Ytjkkjiaeeobnkaa
open Go.Am Go.Proofs
theorem en25 : enters Try.prog 25 = true := by kernel_rfl
theorem en53 : enters Try.prog 53 = true := by kernel_rfl
set_option maxHeartbeats 4000000 in
theorem c_ref25_Encode (c d : Bool) (x : Pl.Batch) : PCall Try.prog 23 [.agg (batchC c d x)] (.tup [(if Pl.batchRight x then .seq false ((Pl.encB x).map fun x => [.lit (.int .u8 x)]) else .seq false []), iV (if Pl.batchRight x then 0 else 1)]) := by
 refine pcall_of_awp Try.func23 rfl (by simp [Try.ntmps23]) fun C hC => ?_
 refine awp_le (le_keep [0]) ?_
 simp only [kp, argSl, simprocAttr]
 refine awp_sr [22, 38, 46, 63, 71, 79] (by rw [hC]; rfl) fun k hk => ?_
 simp (maxSteps := 9^9) (disch := (try simp only [lens]); omega) only [argSl, sm, ↓amb, mark_eq, simprocAttr, wr_u8, dx]
 repeat refine an ?_
 refine hk _ ?_; clear hk k
 refine awp_seq fun k1 h1 => ?_
 refine awp_le (le_keep [1, 2, 3]) ?_
 simp only [kp, argSl, simprocAttr]
 refine awp_sr [22, 38, 46, 63, 71, 79] (by rw [hC]; rfl) fun k hk => ?_
 simp (maxSteps := 9^9) (disch := (try simp only [lens]); omega) only [argSl, sm, ↓amb, mark_eq, simprocAttr, sz27, en25, wr_u8, dx]
 repeat refine an ?_
 refine callK_p (c_ref25_Right c d x) rfl ?_
 simp (maxSteps := 9^9) (disch := (try simp only [lens]); omega) only [argSl, sm, ↓amb, mark_eq, simprocAttr, sz27, en25, wr_u8, dx]
 repeat refine an ?_
 refine hk _ ?_; clear hk k
 refine awp_cond rfl (fun hb => ?_) (fun hb => ?_)
 ·try simp only [hbx] at hb
  refine awp_le (le_keep []) ?_
  simp only [kp, argSl, simprocAttr]
  refine awp_sr [22, 38, 46, 63, 71, 79] (by rw [hC]; rfl) fun k hk => ?_
  simp (maxSteps := 9^9) (disch := (try simp only [lens]); omega) only [argSl, sm, ↓amb, mark_eq, simprocAttr, wr_u8, dx]
  repeat refine an ?_
  refine hk _ ?_; clear hk k
  refine awp_ret ?_
  rw [if_neg (by first | exact hb | simpa using hb), if_neg (by first | exact hb | simpa using hb)]
  refine ret2 rfl rfl rfl ?_ ?_
  ·exact .p (LeP.seq _ _)
  ·exact .p (LeP.refl _)
 ·try simp only [hbx] at hb
  refine awp_skip ?_
  refine h1 _ ?_; clear h1 k1
  refine awp_le (le_keep [1]) ?_
  simp only [kp, argSl, simprocAttr]
  have hr : Pl.batchRight x := by first | exact hb | exact Decidable.not_not.1 hb
  obtain ⟨hs, hre, hra⟩ := Pl.br_shape hr
  unfold Pl.shape at hs
  have nb0 := Pl.numsB_len [(x.edges.length : Int) + x.asks.length]
  simp only [List.length_cons, List.length_nil] at nb0
  have hne0 : (List.map (fun x => [PV.lit (.int .u8 x)]) (Pl.numsB [(x.edges.length : Int) + x.asks.length])) ≠ [] := by simp [Pl.numsB]
  refine awp_sd [22, 38, 46, 63, 71, 79] ⟨[0, 1, 3, 7, 0, 16, 48, 0, 128, 384, 1008, 2032, 4095, 8191], [1, 5, 6, 8, 9, 12], [], [(11, 12)], some []⟩ (by rw [hC]; rfl) (by kernel_rfl) (by kernel_rfl) fun k hk => ?_
  simp (maxSteps := 9^9) (disch := (try simp only [lens]); omega) only [argSl, sm, ↓amb, mark_eq, simprocAttr, fl27_0, sz3, it5, un3, el22, vr5, fl27_1, sz24, el24, fl27_2, sz25, el25, en53, by5, wr_u8, dx]
  repeat refine an ?_
  refine callK_p (c_ref25_two _ (by unfold Pl.fits; omega)) rfl ?_
  simp (maxSteps := 9^9) (disch := (try simp only [lens]); omega) only [argSl, sm, ↓amb, mark_eq, simprocAttr, fl27_0, sz3, it5, un3, el22, vr5, fl27_1, sz24, el24, fl27_2, sz25, el25, en53, by5, wr_u8, dx]
  repeat refine an ?_
  refine hk _ ?_; clear hk k
  refine awp_seq fun k2 h2 => ?_
  refine awp_le (le_keep [1, 2, 3, 4]) ?_
  simp only [kp, argSl, simprocAttr]
  refine awp_sr [22, 38, 46, 63, 71, 79] (by rw [hC]; rfl) fun k hk => ?_
  simp (maxSteps := 9^9) (disch := (try simp only [lens]); omega) only [argSl, sm, ↓amb, mark_eq, simprocAttr, wr_u8, dx]
  repeat refine an ?_
  refine hk _ ?_; clear hk k
  refine awp_block ?_
  refine awp_loop (σ := Nat) (fun i => i ≤ x.edges.length) (fun (i : Nat) => ⟨[(1, (.ptr 0 3 0 0)), (4, (.own 1)), (5, (.p (iV (i : Int))))], [(0, (.row 3 [[.p (iV x.kind), .p (.seq c (x.edges.map edgeC)), .p (.seq d (x.asks.map askC))]])), (1, (.row 1 (lift ((Pl.hdB x ++ Pl.edB (x.edges.take i)).map fun x => [.lit (.int .u8 x)]))))], 1⟩) (fun i => x.edges.length - i) 0 ?_ ?_ fun i hi => ?_
  ·exact Nat.zero_le _
  ·exact le_of [(0, _), (1, _)] (by rfl) (by rfl) ⟨⟨_, rfl, .ptr rfl⟩, ⟨_, rfl, .own rfl⟩, ⟨_, rfl, .oe⟩, trivial⟩ ⟨⟨_, rfl, _, rfl, .one (.cons (.p (.refl _)) (.cons (.p (.refl _)) (.cons (.p (.refl _)) (.nil))))⟩, ⟨_, rfl, _, rfl, .liftE (by first | exact congrArg (List.map fun x => [PV.lit (.int .u8 x)]) (List.append_nil (Pl.hdB x)).symm | (rw [Pl.edB_snoc x.edges i (by omega), ← List.append_assoc, List.map_append (l₂ := Pl.numsB _)]; done) | (rw [Pl.edB_snoc x.edges i (by omega)]; simp [Pl.numsB]; done) | trace_state)⟩, trivial⟩
  refine awp_seq fun k4 h4 => ?_
  refine awp_le (le_keep [0, 1, 2, 3, 4, 5]) ?_
  simp only [kp, argSl, simprocAttr]
  refine awp_sr [22, 38, 46, 63, 71, 79] (by rw [hC]; rfl) fun k hk => ?_
  simp (maxSteps := 9^9) (disch := (try simp only [lens]); omega) only [argSl, sm, ↓amb, mark_eq, simprocAttr, fl27_1, sz24, el24, wr_u8, dx]
  repeat refine an ?_
  refine hk _ ?_; clear hk k
  refine awp_cond rfl (fun hb => ?_) (fun hb => ?_)
  ·try simp only [hbx] at hb
   refine awp_skip ?_
   refine h4 _ ?_; clear h4 k4
   refine awp_seq fun k5 h5 => ?_
   refine awp_block ?_
   have hdl := Pl.hdB_len x
   have hel := Pl.edB_len (x.edges.take i)
   rw [List.length_take] at hel
   obtain ⟨hfu, hfv⟩ := hre _ (Pl.getD_mem x.edges i default (by omega))
   have nb1 := Pl.numsB_len [(x.edges.getD i default).u]
   have nb2 := Pl.numsB_len [(x.edges.getD i default).v]
   simp only [List.length_cons, List.length_nil] at nb1 nb2
   refine awp_draw [22, 38, 46, 63, 71, 79] ⟨[0, 0, 2, 0, 14, 30, 62, 126, 255, 0, 512, 0, 3584, 7680, 15872, 32767, 65535, 131071], [], [8, 16], [(7, 8), (7, 16), (8, 16), (15, 16)], some [1]⟩ (by rw [hC]; rfl) (by kernel_rfl) (by kernel_rfl) fun k hk => ?_
   simp (maxSteps := 9^9) (disch := (try simp only [lens]); omega) only [argSl, sm, ↓amb, mark_eq, simprocAttr, fl27_1, sz24, el24, sz47, fl47_0, sz3, en53, el22, vr5, by5, fl47_1, wr_u8, dx]
   repeat refine an ?_
   refine callK_p (c_ref25_two _ hfu) rfl ?_
   simp (maxSteps := 9^9) (disch := (try simp only [lens]); omega) only [argSl, sm, ↓amb, mark_eq, simprocAttr, fl27_1, sz24, el24, sz47, fl47_0, sz3, en53, el22, vr5, by5, fl47_1, wr_u8, dx]
   repeat refine an ?_
   refine callK_p (c_ref25_two _ hfv) rfl ?_
   simp (maxSteps := 9^9) (disch := (try simp only [lens]); omega) only [argSl, sm, ↓amb, mark_eq, simprocAttr, fl27_1, sz24, el24, sz47, fl47_0, sz3, en53, el22, vr5, by5, fl47_1, wr_u8, dx]
   repeat refine an ?_
   refine hk _ ?_; clear hk k
   refine h5 _ ?_; clear h5 k5
   refine awp_region [22, 38, 46, 63, 71, 79] (by rw [hC]; rfl) fun k hk => ?_
   simp (maxSteps := 9^9) (disch := (try simp only [lens]); omega) only [argSl, sm, ↓amb, mark_eq, simprocAttr, wr_u8, dx]
   repeat refine an ?_
   refine hk _ ?_; clear hk k
   refine ⟨i + 1, by omega, le_of [(0, _), (1, _)] (by rfl) (by rfl) ⟨⟨_, rfl, .ptr rfl⟩, ⟨_, rfl, .own rfl⟩, ⟨_, rfl, .oe⟩, trivial⟩ ⟨⟨_, rfl, _, rfl, .one (.cons (.p (.refl _)) (.cons (.p (.refl _)) (.cons (.p (.refl _)) (.nil))))⟩, ⟨_, rfl, _, rfl, .liftE (by first | exact congrArg (List.map fun x => [PV.lit (.int .u8 x)]) (List.append_nil (Pl.hdB x)).symm | (rw [Pl.edB_snoc x.edges i (by omega), ← List.append_assoc, List.map_append (l₂ := Pl.numsB _)]; done) | (rw [Pl.edB_snoc x.edges i (by omega)]; simp [Pl.numsB]; done) | trace_state)⟩, trivial⟩, by omega⟩
  ·try simp only [hbx] at hb
   refine awp_exit ((if_pos rfl).mpr ?_)
   refine h2 _ ?_; clear h4 k4; clear h2 k2
   refine awp_seq fun k6 h6 => ?_
   refine awp_le (le_keep [1, 2, 3, 4]) ?_
   simp only [kp, argSl, simprocAttr]
   obtain rfl : i = x.edges.length := by omega
   rw [List.take_of_length_le (Nat.le_refl _)]
   refine awp_sr [22, 38, 46, 63, 71, 79] (by rw [hC]; rfl) fun k hk => ?_
   simp (maxSteps := 9^9) (disch := (try simp only [lens]); omega) only [argSl, sm, ↓amb, mark_eq, simprocAttr, wr_u8, dx]
   repeat refine an ?_
   refine hk _ ?_; clear hk k
   refine awp_block ?_
   refine awp_loop (σ := Nat) (fun i => i ≤ x.asks.length) (fun (i : Nat) => ⟨[(1, (.ptr 0 3 0 0)), (4, (.own 1)), (6, (.p (iV (i : Int))))], [(0, (.row 3 [[.p (iV x.kind), .p (.seq c (x.edges.map edgeC)), .p (.seq d (x.asks.map askC))]])), (1, (.row 1 (lift ((Pl.hdB x ++ Pl.edB x.edges ++ Pl.asB (x.asks.take i)).map fun x => [.lit (.int .u8 x)]))))], 1⟩) (fun i => x.asks.length - i) 0 ?_ ?_ fun i hi => ?_
   ·exact Nat.zero_le _
   ·exact le_of [(0, _), (1, _)] (by rfl) (by rfl) ⟨⟨_, rfl, .ptr rfl⟩, ⟨_, rfl, .own rfl⟩, ⟨_, rfl, .oe⟩, trivial⟩ ⟨⟨_, rfl, _, rfl, .one (.cons (.p (.refl _)) (.cons (.p (.refl _)) (.cons (.p (.refl _)) (.nil))))⟩, ⟨_, rfl, _, rfl, .liftE (by first | exact congrArg (List.map fun x => [PV.lit (.int .u8 x)]) (List.append_nil (Pl.hdB x ++ Pl.edB x.edges)).symm | (rw [Pl.asB_snoc x.asks i (by omega), ← List.append_assoc, List.map_append (l₂ := _ :: _), List.append_assoc]; rfl) | (rw [Pl.asB_snoc x.asks i (by omega)]; simp [Pl.numsB]; done) | trace_state)⟩, trivial⟩
   refine awp_seq fun k8 h8 => ?_
   refine awp_le (le_keep [0, 1, 2, 3, 4, 6]) ?_
   simp only [kp, argSl, simprocAttr]
   refine awp_sr [22, 38, 46, 63, 71, 79] (by rw [hC]; rfl) fun k hk => ?_
   simp (maxSteps := 9^9) (disch := (try simp only [lens]); omega) only [argSl, sm, ↓amb, mark_eq, simprocAttr, fl27_2, sz25, el25, wr_u8, dx]
   repeat refine an ?_
   refine hk _ ?_; clear hk k
   refine awp_cond rfl (fun hb => ?_) (fun hb => ?_)
   ·try simp only [hbx] at hb
    refine awp_skip ?_
    refine h8 _ ?_; clear h8 k8
    refine awp_seq fun k9 h9 => ?_
    refine awp_block ?_
    have hdl := Pl.hdB_len x
    have hel := Pl.edB_len x.edges
    have hal := Pl.asB_len (x.asks.take i)
    rw [List.length_take] at hal
    obtain ⟨_, hfu, hfv⟩ := hra _ (Pl.getD_mem x.asks i default (by omega))
    have nb1 := Pl.numsB_len [(x.asks.getD i default).u]
    have nb2 := Pl.numsB_len [(x.asks.getD i default).v]
    simp only [List.length_cons, List.length_nil] at nb1 nb2
    refine awp_draw [22, 38, 46, 63, 71, 79] ⟨[0, 0, 2, 0, 14, 30, 62, 126, 254, 511, 0, 1024, 0, 7168, 15360, 31744, 65535, 131071, 0, 262144, 0, 1835008, 3932160, 8126464, 16777215, 33554431, 67108863], [], [9, 17, 25], [(9, 17), (16, 17), (9, 25), (16, 25), (17, 25), (24, 25)], some [1]⟩ (by rw [hC]; rfl) (by kernel_rfl) (by kernel_rfl) fun k hk => ?_
    simp (maxSteps := 9^9) (disch := (try simp only [lens]); omega) only [argSl, sm, ↓amb, mark_eq, simprocAttr, fl27_2, sz25, el25, sz45, fl45_0, sz3, it5, un3, el22, vr5, by5, fl45_1, en53, fl45_2, wr_u8, dx]
    repeat refine an ?_
    refine callK_p (c_ref25_two _ hfu) rfl ?_
    simp (maxSteps := 9^9) (disch := (try simp only [lens]); omega) only [argSl, sm, ↓amb, mark_eq, simprocAttr, fl27_2, sz25, el25, sz45, fl45_0, sz3, it5, un3, el22, vr5, by5, fl45_1, en53, fl45_2, wr_u8, dx]
    repeat refine an ?_
    refine callK_p (c_ref25_two _ hfv) rfl ?_
    simp (maxSteps := 9^9) (disch := (try simp only [lens]); omega) only [argSl, sm, ↓amb, mark_eq, simprocAttr, fl27_2, sz25, el25, sz45, fl45_0, sz3, it5, un3, el22, vr5, by5, fl45_1, en53, fl45_2, wr_u8, dx]
    repeat refine an ?_
    refine hk _ ?_; clear hk k
    refine h9 _ ?_; clear h9 k9
    refine awp_region [22, 38, 46, 63, 71, 79] (by rw [hC]; rfl) fun k hk => ?_
    simp (maxSteps := 9^9) (disch := (try simp only [lens]); omega) only [argSl, sm, ↓amb, mark_eq, simprocAttr, wr_u8, dx]
    repeat refine an ?_
    refine hk _ ?_; clear hk k
    refine ⟨i + 1, by omega, le_of [(0, _), (1, _)] (by rfl) (by rfl) ⟨⟨_, rfl, .ptr rfl⟩, ⟨_, rfl, .own rfl⟩, ⟨_, rfl, .oe⟩, trivial⟩ ⟨⟨_, rfl, _, rfl, .one (.cons (.p (.refl _)) (.cons (.p (.refl _)) (.cons (.p (.refl _)) (.nil))))⟩, ⟨_, rfl, _, rfl, .liftE (by first | exact congrArg (List.map fun x => [PV.lit (.int .u8 x)]) (List.append_nil (Pl.hdB x ++ Pl.edB x.edges)).symm | (rw [Pl.asB_snoc x.asks i (by omega), ← List.append_assoc, List.map_append (l₂ := _ :: _), List.append_assoc]; rfl) | (rw [Pl.asB_snoc x.asks i (by omega)]; simp [Pl.numsB]; done) | trace_state)⟩, trivial⟩, by omega⟩
   ·try simp only [hbx] at hb
    refine awp_exit ((if_pos rfl).mpr ?_)
    refine h6 _ ?_; clear h8 k8; clear h6 k6
    refine awp_le (le_keep [4]) ?_
    simp only [kp, argSl, simprocAttr]
    obtain rfl : i = x.asks.length := by omega
    rw [List.take_of_length_le (Nat.le_refl _)]
    refine awp_sr [22, 38, 46, 63, 71, 79] (by rw [hC]; rfl) fun k hk => ?_
    simp (maxSteps := 9^9) (disch := (try simp only [lens]); omega) only [argSl, sm, ↓amb, mark_eq, simprocAttr, wr_u8, dx]
    repeat refine an ?_
    refine hk _ ?_; clear hk k
    refine awp_ret ?_
    rw [if_pos hr, if_pos hr]
    refine ret2 rfl rfl rfl ?_ ?_
    ·exact .ownE rfl rfl
    ·exact .p (LeP.refl _)
end Go.Proofs.Ytjkkjiaeeobnkaa
end
section
set_option linter.unusedSimpArgs false
set_option linter.unusedVariables false
set_option maxRecDepth 100000
namespace Go.Proofs.Ytjkkjiaeeobnkaa
open Go.Am Go.Proofs
theorem en61 : enters Try.prog 61 = true := by kernel_rfl
theorem en62 : enters Try.prog 62 = true := by kernel_rfl
theorem ff45 : tFlat Try.prog 45 = some [some .i64, some .i64, some .i64] := by kernel_rfl
theorem ff47 : tFlat Try.prog 47 = some [some .i64, some .i64] := by kernel_rfl
set_option maxHeartbeats 4000000 in
theorem c_EqualEdge (c d : Bool) (a b : List Pl.Edge) (ha : a.length ≤ 9223372036854775807) (hb' : b.length ≤ 9223372036854775807) : PCall Try.prog 61 [.seq c (a.map edgeC), .seq d (b.map edgeC)] (bV (decide (a = b))) := by
 refine pcall_of_awp Try.func61 rfl (by simp [Try.ntmps61]) fun C hC => ?_
 refine awp_le (le_keep [0, 1]) ?_
 simp only [kp, argSl, simprocAttr]
 refine awp_sr [] (by rw [hC]; rfl) fun k hk => ?_
 simp (maxSteps := 9^9) (disch := (try simp only [lens]); omega) only [argSl, sm, ↓amb, mark_eq, simprocAttr, dx]
 repeat refine an ?_
 refine hk _ ?_; clear hk k
 refine awp_seq fun k1 h1 => ?_
 refine awp_le (le_keep [0, 1, 4]) ?_
 simp only [kp, argSl, simprocAttr]
 refine awp_sr [] (by rw [hC]; rfl) fun k hk => ?_
 simp (maxSteps := 9^9) (disch := (try simp only [lens]); omega) only [argSl, sm, ↓amb, mark_eq, simprocAttr, el24, dx]
 repeat refine an ?_
 refine hk _ ?_; clear hk k
 refine awp_cond rfl (fun hb => ?_) (fun hb => ?_)
 ·try simp only [hbx] at hb
  refine awp_le (le_keep []) ?_
  simp only [kp, argSl, simprocAttr]
  refine awp_sr [] (by rw [hC]; rfl) fun k hk => ?_
  simp (maxSteps := 9^9) (disch := (try simp only [lens]); omega) only [argSl, sm, ↓amb, mark_eq, simprocAttr, dx]
  repeat refine an ?_
  refine hk _ ?_; clear hk k
  refine awp_ret ?_
  refine ret1 rfl rfl ?_
  exact .p (LeP.of_eq (by rw [decide_eq_false (fun e => hb (by rw [e]))]))
 ·try simp only [hbx] at hb
  refine awp_skip ?_
  refine h1 _ ?_; clear h1 k1
  refine awp_seq fun k2 h2 => ?_
  refine awp_le (le_keep [0, 1, 4]) ?_
  simp only [kp, argSl, simprocAttr]
  have hab : a.length = b.length := by omega
  refine awp_sr [] (by rw [hC]; rfl) fun k hk => ?_
  simp (maxSteps := 9^9) (disch := (try simp only [lens]); omega) only [argSl, sm, ↓amb, mark_eq, simprocAttr, el24, dx]
  repeat refine an ?_
  refine hk _ ?_; clear hk k
  refine awp_block ?_
  refine awp_loop (σ := Nat) (fun i => i ≤ a.length ∧ ∀ j, j < i → a.getD j default = b.getD j default) (fun (i : Nat) => ⟨[(0, (.p (.seq c (a.map edgeC)))), (1, (.p (.seq d (b.map edgeC)))), (12, (.p (iV a.length))), (13, (.p (iV i)))], [], 1⟩) (fun i => a.length - i) 0 ?_ ?_ fun i hi => ?_
  ·exact ⟨Nat.zero_le _, fun j hj => by omega⟩
  ·exact le_of [] (by rfl) (by rfl) ⟨⟨_, rfl, .oe⟩, ⟨_, rfl, .oe⟩, ⟨_, rfl, .oe⟩, ⟨_, rfl, .oe⟩, trivial⟩ trivial
  obtain ⟨hi1, hi2⟩ := hi
  refine awp_le (le_keep [0, 1, 4, 12, 13]) ?_
  simp only [kp, argSl, simprocAttr]
  refine awp_sr [] (by rw [hC]; rfl) fun k hk => ?_
  simp (maxSteps := 9^9) (disch := (try simp only [lens]); omega) only [argSl, sm, ↓amb, mark_eq, simprocAttr, dx]
  repeat refine an ?_
  refine hk _ ?_; clear hk k
  refine awp_seq fun k4 h4 => ?_
  refine awp_cond rfl (fun hb => ?_) (fun hb => ?_)
  ·try simp only [hbx] at hb
   refine awp_skip ?_
   refine h4 _ ?_; clear h4 k4
   refine awp_seq fun k5 h5 => ?_
   refine awp_block ?_
   refine awp_le (le_keep [0, 1, 4, 12, 13]) ?_
   simp only [kp, argSl, simprocAttr]
   refine awp_sr [] (by rw [hC]; rfl) fun k hk => ?_
   simp (maxSteps := 9^9) (disch := (try simp only [lens]); omega) only [argSl, sm, ↓amb, mark_eq, simprocAttr, dx]
   repeat refine an ?_
   refine hk _ ?_; clear hk k
   refine awp_testD [] ⟨[0, 0, 3, 7, 0, 0, 48, 112, 255], [3, 7], [], [], some []⟩ 24 (decide (¬ a.getD i default = b.getD i default)) [0, 1, 4, 12, 13] (by rw [hC]; rfl) (by kernel_rfl) (by kernel_rfl) (fun gd hgd k hk => ?_) ?_
   ·clear hgd
    simp (maxSteps := 9^9) (disch := (try simp only [lens]); omega) only [argSl, sm, ↓amb, mark_eq, simprocAttr, el24, sz47, ff47, gcase_undef, dx]
    repeat' first | refine hk _ _ rfl rfl rfl rfl ?_ | (refine gsplit (fun hg => ?_) (fun hg => ?_) <;> (try simp only [hbx] at hg) <;> simp (maxSteps := 9^9) (disch := (try simp only [lens]); omega) only [argSl, sm, ↓amb, mark_eq, simprocAttr, el24, sz47, ff47, gcase_undef, dx]) | apply And.intro | fail
    all_goals first | rfl | omega | exact (decide_eq_true (by omega)).symm | exact (decide_eq_false (by omega)).symm | exact decide_eq_decide.mpr (by omega) | (refine Bool.eq_iff_iff.mpr ?_; simp only [beq_iff_eq, bne_iff_ne, ne_eq, decide_eq_true_eq]; omega) | (refine Bool.eq_iff_iff.mpr ?_; simp only [Bool.not_eq_true', Bool.not_eq_false', decide_eq_false_iff_not, decide_eq_true_eq, beq_iff_eq, bne_iff_ne, ne_eq]; omega) | assumption | (simp; done) | (simp [maxLen]; omega) | skip
    all_goals first | exact Pl.edge_ne _ _ | trace_state
   simp only [kp, argSl, simprocAttr, List.length_cons, List.length_nil]
   refine awp_cond rfl (fun hb => ?_) (fun hb => ?_)
   ·try simp only [hbx] at hb
    refine awp_le (le_keep []) ?_
    simp only [kp, argSl, simprocAttr]
    refine awp_sr [] (by rw [hC]; rfl) fun k hk => ?_
    simp (maxSteps := 9^9) (disch := (try simp only [lens]); omega) only [argSl, sm, ↓amb, mark_eq, simprocAttr, dx]
    repeat refine an ?_
    refine hk _ ?_; clear hk k
    refine awp_ret ?_
    refine ret1 rfl rfl ?_
    exact .p (LeP.of_eq (by rw [decide_eq_false (fun e => hb (by rw [e]))]))
   ·try simp only [hbx] at hb
    refine awp_skip ?_
    refine h5 _ ?_; clear h5 k5
    refine awp_region [] (by rw [hC]; rfl) fun k hk => ?_
    simp (maxSteps := 9^9) (disch := (try simp only [lens]); omega) only [argSl, sm, ↓amb, mark_eq, simprocAttr, dx]
    repeat refine an ?_
    refine hk _ ?_; clear hk k
    refine ⟨i + 1, ⟨by omega, fun j hj => by by_cases e : j = i; (subst e; first | exact hb | exact Decidable.not_not.1 hb); exact hi2 j (by omega)⟩, le_of [] (by rfl) (by rfl) ⟨⟨_, rfl, .oe⟩, ⟨_, rfl, .oe⟩, ⟨_, rfl, .oe⟩, ⟨_, rfl, .oe⟩, trivial⟩ trivial, by omega⟩
  ·try simp only [hbx] at hb
   refine awp_exit ((if_pos rfl).mpr ?_)
   refine h2 _ ?_; clear h4 k4; clear h2 k2
   refine awp_le (le_keep []) ?_
   simp only [kp, argSl, simprocAttr]
   refine awp_sr [] (by rw [hC]; rfl) fun k hk => ?_
   simp (maxSteps := 9^9) (disch := (try simp only [lens]); omega) only [argSl, sm, ↓amb, mark_eq, simprocAttr, dx]
   repeat refine an ?_
   refine hk _ ?_; clear hk k
   refine awp_ret ?_
   refine ret1 rfl rfl ?_
   exact .p (LeP.of_eq (by rw [decide_eq_true (Pl.lists_of hab (by omega) hi2)]))
set_option maxHeartbeats 4000000 in
theorem c_EqualAsk (c d : Bool) (a b : List Pl.Ask) (ha : a.length ≤ 9223372036854775807) (hb' : b.length ≤ 9223372036854775807) : PCall Try.prog 62 [.seq c (a.map askC), .seq d (b.map askC)] (bV (decide (a = b))) := by
 refine pcall_of_awp Try.func62 rfl (by simp [Try.ntmps62]) fun C hC => ?_
 refine awp_le (le_keep [0, 1]) ?_
 simp only [kp, argSl, simprocAttr]
 refine awp_sr [] (by rw [hC]; rfl) fun k hk => ?_
 simp (maxSteps := 9^9) (disch := (try simp only [lens]); omega) only [argSl, sm, ↓amb, mark_eq, simprocAttr, dx]
 repeat refine an ?_
 refine hk _ ?_; clear hk k
 refine awp_seq fun k1 h1 => ?_
 refine awp_le (le_keep [0, 1, 4]) ?_
 simp only [kp, argSl, simprocAttr]
 refine awp_sr [] (by rw [hC]; rfl) fun k hk => ?_
 simp (maxSteps := 9^9) (disch := (try simp only [lens]); omega) only [argSl, sm, ↓amb, mark_eq, simprocAttr, el25, dx]
 repeat refine an ?_
 refine hk _ ?_; clear hk k
 refine awp_cond rfl (fun hb => ?_) (fun hb => ?_)
 ·try simp only [hbx] at hb
  refine awp_le (le_keep []) ?_
  simp only [kp, argSl, simprocAttr]
  refine awp_sr [] (by rw [hC]; rfl) fun k hk => ?_
  simp (maxSteps := 9^9) (disch := (try simp only [lens]); omega) only [argSl, sm, ↓amb, mark_eq, simprocAttr, dx]
  repeat refine an ?_
  refine hk _ ?_; clear hk k
  refine awp_ret ?_
  refine ret1 rfl rfl ?_
  exact .p (LeP.of_eq (by rw [decide_eq_false (fun e => hb (by rw [e]))]))
 ·try simp only [hbx] at hb
  refine awp_skip ?_
  refine h1 _ ?_; clear h1 k1
  refine awp_seq fun k2 h2 => ?_
  refine awp_le (le_keep [0, 1, 4]) ?_
  simp only [kp, argSl, simprocAttr]
  have hab : a.length = b.length := by omega
  refine awp_sr [] (by rw [hC]; rfl) fun k hk => ?_
  simp (maxSteps := 9^9) (disch := (try simp only [lens]); omega) only [argSl, sm, ↓amb, mark_eq, simprocAttr, el25, dx]
  repeat refine an ?_
  refine hk _ ?_; clear hk k
  refine awp_block ?_
  refine awp_loop (σ := Nat) (fun i => i ≤ a.length ∧ ∀ j, j < i → a.getD j default = b.getD j default) (fun (i : Nat) => ⟨[(0, (.p (.seq c (a.map askC)))), (1, (.p (.seq d (b.map askC)))), (12, (.p (iV a.length))), (13, (.p (iV i)))], [], 1⟩) (fun i => a.length - i) 0 ?_ ?_ fun i hi => ?_
  ·exact ⟨Nat.zero_le _, fun j hj => by omega⟩
  ·exact le_of [] (by rfl) (by rfl) ⟨⟨_, rfl, .oe⟩, ⟨_, rfl, .oe⟩, ⟨_, rfl, .oe⟩, ⟨_, rfl, .oe⟩, trivial⟩ trivial
  obtain ⟨hi1, hi2⟩ := hi
  refine awp_le (le_keep [0, 1, 4, 12, 13]) ?_
  simp only [kp, argSl, simprocAttr]
  refine awp_sr [] (by rw [hC]; rfl) fun k hk => ?_
  simp (maxSteps := 9^9) (disch := (try simp only [lens]); omega) only [argSl, sm, ↓amb, mark_eq, simprocAttr, dx]
  repeat refine an ?_
  refine hk _ ?_; clear hk k
  refine awp_seq fun k4 h4 => ?_
  refine awp_cond rfl (fun hb => ?_) (fun hb => ?_)
  ·try simp only [hbx] at hb
   refine awp_skip ?_
   refine h4 _ ?_; clear h4 k4
   refine awp_seq fun k5 h5 => ?_
   refine awp_block ?_
   refine awp_le (le_keep [0, 1, 4, 12, 13]) ?_
   simp only [kp, argSl, simprocAttr]
   refine awp_sr [] (by rw [hC]; rfl) fun k hk => ?_
   simp (maxSteps := 9^9) (disch := (try simp only [lens]); omega) only [argSl, sm, ↓amb, mark_eq, simprocAttr, dx]
   repeat refine an ?_
   refine hk _ ?_; clear hk k
   refine awp_testD [] ⟨[0, 0, 3, 7, 0, 0, 48, 112, 255], [3, 7], [], [], some []⟩ 24 (decide (¬ a.getD i default = b.getD i default)) [0, 1, 4, 12, 13] (by rw [hC]; rfl) (by kernel_rfl) (by kernel_rfl) (fun gd hgd k hk => ?_) ?_
   ·clear hgd
    simp (maxSteps := 9^9) (disch := (try simp only [lens]); omega) only [argSl, sm, ↓amb, mark_eq, simprocAttr, el25, sz45, ff45, gcase_undef, dx]
    repeat' first | refine hk _ _ rfl rfl rfl rfl ?_ | (refine gsplit (fun hg => ?_) (fun hg => ?_) <;> (try simp only [hbx] at hg) <;> simp (maxSteps := 9^9) (disch := (try simp only [lens]); omega) only [argSl, sm, ↓amb, mark_eq, simprocAttr, el25, sz45, ff45, gcase_undef, dx]) | apply And.intro | fail
    all_goals first | rfl | omega | exact (decide_eq_true (by omega)).symm | exact (decide_eq_false (by omega)).symm | exact decide_eq_decide.mpr (by omega) | (refine Bool.eq_iff_iff.mpr ?_; simp only [beq_iff_eq, bne_iff_ne, ne_eq, decide_eq_true_eq]; omega) | (refine Bool.eq_iff_iff.mpr ?_; simp only [Bool.not_eq_true', Bool.not_eq_false', decide_eq_false_iff_not, decide_eq_true_eq, beq_iff_eq, bne_iff_ne, ne_eq]; omega) | assumption | (simp; done) | (simp [maxLen]; omega) | skip
    all_goals first | exact Pl.ask_ne _ _ | trace_state
   simp only [kp, argSl, simprocAttr, List.length_cons, List.length_nil]
   refine awp_cond rfl (fun hb => ?_) (fun hb => ?_)
   ·try simp only [hbx] at hb
    refine awp_le (le_keep []) ?_
    simp only [kp, argSl, simprocAttr]
    refine awp_sr [] (by rw [hC]; rfl) fun k hk => ?_
    simp (maxSteps := 9^9) (disch := (try simp only [lens]); omega) only [argSl, sm, ↓amb, mark_eq, simprocAttr, dx]
    repeat refine an ?_
    refine hk _ ?_; clear hk k
    refine awp_ret ?_
    refine ret1 rfl rfl ?_
    exact .p (LeP.of_eq (by rw [decide_eq_false (fun e => hb (by rw [e]))]))
   ·try simp only [hbx] at hb
    refine awp_skip ?_
    refine h5 _ ?_; clear h5 k5
    refine awp_region [] (by rw [hC]; rfl) fun k hk => ?_
    simp (maxSteps := 9^9) (disch := (try simp only [lens]); omega) only [argSl, sm, ↓amb, mark_eq, simprocAttr, dx]
    repeat refine an ?_
    refine hk _ ?_; clear hk k
    refine ⟨i + 1, ⟨by omega, fun j hj => by by_cases e : j = i; (subst e; first | exact hb | exact Decidable.not_not.1 hb); exact hi2 j (by omega)⟩, le_of [] (by rfl) (by rfl) ⟨⟨_, rfl, .oe⟩, ⟨_, rfl, .oe⟩, ⟨_, rfl, .oe⟩, ⟨_, rfl, .oe⟩, trivial⟩ trivial, by omega⟩
  ·try simp only [hbx] at hb
   refine awp_exit ((if_pos rfl).mpr ?_)
   refine h2 _ ?_; clear h4 k4; clear h2 k2
   refine awp_le (le_keep []) ?_
   simp only [kp, argSl, simprocAttr]
   refine awp_sr [] (by rw [hC]; rfl) fun k hk => ?_
   simp (maxSteps := 9^9) (disch := (try simp only [lens]); omega) only [argSl, sm, ↓amb, mark_eq, simprocAttr, dx]
   repeat refine an ?_
   refine hk _ ?_; clear hk k
   refine awp_ret ?_
   refine ret1 rfl rfl ?_
   exact .p (LeP.of_eq (by rw [decide_eq_true (Pl.lists_of hab (by omega) hi2)]))
set_option maxHeartbeats 4000000 in
theorem c_wire_Same (c d c' d' : Bool) (x y : Pl.Batch) (hx : x.edges.length ≤ 9223372036854775807) (hx2 : x.asks.length ≤ 9223372036854775807) (hy : y.edges.length ≤ 9223372036854775807) (hy2 : y.asks.length ≤ 9223372036854775807) : PCall Try.prog 26 [.agg (batchC c d x), .agg (batchC c' d' y)] (bV (decide (x = y))) := by
 refine pcall_of_awp Try.func26 rfl (by simp [Try.ntmps26]) fun C hC => ?_
 refine awp_le (le_keep [0, 1]) ?_
 simp only [kp, argSl, simprocAttr]
 refine awp_sr [] (by rw [hC]; rfl) fun k hk => ?_
 simp (maxSteps := 9^9) (disch := (try simp only [lens]); omega) only [argSl, sm, ↓amb, mark_eq, simprocAttr, dx]
 repeat refine an ?_
 refine hk _ ?_; clear hk k
 refine awp_test [] 4 (decide (x.kind = y.kind ∧ x.edges = y.edges ∧ x.asks = y.asks)) [] (by rw [hC]; rfl) (fun gd hgd k hk => ?_) ?_
 ·have g5 : gd 5 = some 10 := by rw [hgd]; rfl
  have g12 : gd 12 = some 17 := by rw [hgd]; rfl
  clear hgd
  simp (maxSteps := 9^9) (disch := (try simp only [lens]); omega) only [argSl, sm, ↓amb, mark_eq, simprocAttr, fl27_0, sz3, fl27_1, sz24, en61, fl27_2, sz25, en62, gcase_undef, g5, g12, dx]
  repeat' first | refine hk _ _ rfl rfl rfl rfl ?_ | (refine gsplit (fun hg => ?_) (fun hg => ?_) <;> (try simp only [hbx] at hg) <;> simp (maxSteps := 9^9) (disch := (try simp only [lens]); omega) only [argSl, sm, ↓amb, mark_eq, simprocAttr, fl27_0, sz3, fl27_1, sz24, en61, fl27_2, sz25, en62, gcase_undef, g5, g12, dx]) | apply And.intro | (refine callK_p (c_EqualEdge _ _ _ _ hx hy) rfl ?_; (try simp (maxSteps := 9^9) (disch := (try simp only [lens]); omega) only [argSl, sm, ↓amb, mark_eq, simprocAttr, fl27_0, sz3, fl27_1, sz24, en61, fl27_2, sz25, en62, gcase_undef, g5, g12, dx])) | (refine callK_p (c_EqualAsk _ _ _ _ hx2 hy2) rfl ?_; (try simp (maxSteps := 9^9) (disch := (try simp only [lens]); omega) only [argSl, sm, ↓amb, mark_eq, simprocAttr, fl27_0, sz3, fl27_1, sz24, en61, fl27_2, sz25, en62, gcase_undef, g5, g12, dx])) | fail
  all_goals first | rfl | omega | exact (decide_eq_true (by omega)).symm | exact (decide_eq_false (by omega)).symm | exact decide_eq_decide.mpr (by omega) | (refine Bool.eq_iff_iff.mpr ?_; simp only [beq_iff_eq, bne_iff_ne, ne_eq, decide_eq_true_eq]; omega) | (refine Bool.eq_iff_iff.mpr ?_; simp only [Bool.not_eq_true', Bool.not_eq_false', decide_eq_false_iff_not, decide_eq_true_eq, beq_iff_eq, bne_iff_ne, ne_eq]; omega) | assumption | (simp; done) | (simp [maxLen]; omega) | skip
  all_goals first | exact (decide_eq_false (fun q => by simp_all)).symm | (symm; refine decide_eq_decide.mpr ?_; simp_all; done) | (refine decide_eq_decide.mpr ?_; simp_all; done) | (refine Bool.eq_iff_iff.mpr ?_; simp_all; done) | trace_state
 simp only [kp, argSl, simprocAttr, List.length_cons, List.length_nil]
 refine awp_ret ?_
 rw [Pl.batch_dec]
 refine ret1 rfl rfl ?_
 exact .p (LeP.refl _)
set_option maxHeartbeats 4000000 in
theorem c_ref11_Same (c d : Bool) (a b : List Pl.Edge) (ha : a.length ≤ 9223372036854775807) : PCall Try.prog 51 [.seq c (a.map edgeC), .seq d (b.map edgeC)] (bV (decide (a = b))) := by
 refine pcall_of_awp Try.func51 rfl (by simp [Try.ntmps51]) fun C hC => ?_
 refine awp_le (le_keep [0, 1]) ?_
 simp only [kp, argSl, simprocAttr]
 refine awp_sr [] (by rw [hC]; rfl) fun k hk => ?_
 simp (maxSteps := 9^9) (disch := (try simp only [lens]); omega) only [argSl, sm, ↓amb, mark_eq, simprocAttr, dx]
 repeat refine an ?_
 refine hk _ ?_; clear hk k
 refine awp_seq fun k1 h1 => ?_
 refine awp_le (le_keep [0, 1, 4]) ?_
 simp only [kp, argSl, simprocAttr]
 refine awp_sr [] (by rw [hC]; rfl) fun k hk => ?_
 simp (maxSteps := 9^9) (disch := (try simp only [lens]); omega) only [argSl, sm, ↓amb, mark_eq, simprocAttr, el24, dx]
 repeat refine an ?_
 refine hk _ ?_; clear hk k
 refine awp_cond rfl (fun hb => ?_) (fun hb => ?_)
 ·try simp only [hbx] at hb
  refine awp_le (le_keep []) ?_
  simp only [kp, argSl, simprocAttr]
  refine awp_sr [] (by rw [hC]; rfl) fun k hk => ?_
  simp (maxSteps := 9^9) (disch := (try simp only [lens]); omega) only [argSl, sm, ↓amb, mark_eq, simprocAttr, dx]
  repeat refine an ?_
  refine hk _ ?_; clear hk k
  refine awp_ret ?_
  refine ret1 rfl rfl ?_
  exact .p (LeP.of_eq (by rw [decide_eq_false (fun e => hb (by rw [e]))]))
 ·try simp only [hbx] at hb
  refine awp_skip ?_
  refine h1 _ ?_; clear h1 k1
  refine awp_seq fun k2 h2 => ?_
  refine awp_le (le_keep [0, 1, 4]) ?_
  simp only [kp, argSl, simprocAttr]
  have hab : a.length = b.length := by omega
  refine awp_sr [] (by rw [hC]; rfl) fun k hk => ?_
  simp (maxSteps := 9^9) (disch := (try simp only [lens]); omega) only [argSl, sm, ↓amb, mark_eq, simprocAttr, dx]
  repeat refine an ?_
  refine hk _ ?_; clear hk k
  refine awp_block ?_
  refine awp_loop (σ := Nat) (fun i => i ≤ a.length ∧ ∀ j, j < i → a.getD j default = b.getD j default) (fun (i : Nat) => ⟨[(0, (.p (.seq c (a.map edgeC)))), (1, (.p (.seq d (b.map edgeC)))), (5, (.p (iV i)))], [], 1⟩) (fun i => a.length - i) 0 ?_ ?_ fun i hi => ?_
  ·exact ⟨Nat.zero_le _, fun j hj => by omega⟩
  ·exact le_of [] (by rfl) (by rfl) ⟨⟨_, rfl, .oe⟩, ⟨_, rfl, .oe⟩, ⟨_, rfl, .oe⟩, trivial⟩ trivial
  obtain ⟨hi1, hi2⟩ := hi
  refine awp_seq fun k4 h4 => ?_
  refine awp_le (le_keep [0, 1, 4, 5]) ?_
  simp only [kp, argSl, simprocAttr]
  refine awp_sr [] (by rw [hC]; rfl) fun k hk => ?_
  simp (maxSteps := 9^9) (disch := (try simp only [lens]); omega) only [argSl, sm, ↓amb, mark_eq, simprocAttr, el24, dx]
  repeat refine an ?_
  refine hk _ ?_; clear hk k
  refine awp_cond rfl (fun hb => ?_) (fun hb => ?_)
  ·try simp only [hbx] at hb
   refine awp_skip ?_
   refine h4 _ ?_; clear h4 k4
   refine awp_seq fun k5 h5 => ?_
   refine awp_block ?_
   refine awp_testD [] ⟨[0, 0, 3, 7, 0, 0, 48, 112, 255], [3, 7], [], [], some []⟩ 25 (decide (¬ a.getD i default = b.getD i default)) [0, 1, 4, 5] (by rw [hC]; rfl) (by kernel_rfl) (by kernel_rfl) (fun gd hgd k hk => ?_) ?_
   ·clear hgd
    simp (maxSteps := 9^9) (disch := (try simp only [lens]); omega) only [argSl, sm, ↓amb, mark_eq, simprocAttr, el24, sz47, ff47, gcase_undef, dx]
    repeat' first | refine hk _ _ rfl rfl rfl rfl ?_ | (refine gsplit (fun hg => ?_) (fun hg => ?_) <;> (try simp only [hbx] at hg) <;> simp (maxSteps := 9^9) (disch := (try simp only [lens]); omega) only [argSl, sm, ↓amb, mark_eq, simprocAttr, el24, sz47, ff47, gcase_undef, dx]) | apply And.intro | fail
    all_goals first | rfl | omega | exact (decide_eq_true (by omega)).symm | exact (decide_eq_false (by omega)).symm | exact decide_eq_decide.mpr (by omega) | (refine Bool.eq_iff_iff.mpr ?_; simp only [beq_iff_eq, bne_iff_ne, ne_eq, decide_eq_true_eq]; omega) | (refine Bool.eq_iff_iff.mpr ?_; simp only [Bool.not_eq_true', Bool.not_eq_false', decide_eq_false_iff_not, decide_eq_true_eq, beq_iff_eq, bne_iff_ne, ne_eq]; omega) | assumption | (simp; done) | (simp [maxLen]; omega) | skip
    all_goals exact Pl.edge_ne _ _
   simp only [kp, argSl, simprocAttr, List.length_cons, List.length_nil]
   refine awp_cond rfl (fun hb => ?_) (fun hb => ?_)
   ·try simp only [hbx] at hb
    refine awp_le (le_keep []) ?_
    simp only [kp, argSl, simprocAttr]
    refine awp_sr [] (by rw [hC]; rfl) fun k hk => ?_
    simp (maxSteps := 9^9) (disch := (try simp only [lens]); omega) only [argSl, sm, ↓amb, mark_eq, simprocAttr, dx]
    repeat refine an ?_
    refine hk _ ?_; clear hk k
    refine awp_ret ?_
    refine ret1 rfl rfl ?_
    exact .p (LeP.of_eq (by rw [decide_eq_false (fun e => hb (by rw [e]))]))
   ·try simp only [hbx] at hb
    refine awp_skip ?_
    refine h5 _ ?_; clear h5 k5
    refine awp_region [] (by rw [hC]; rfl) fun k hk => ?_
    simp (maxSteps := 9^9) (disch := (try simp only [lens]); omega) only [argSl, sm, ↓amb, mark_eq, simprocAttr, dx]
    repeat refine an ?_
    refine hk _ ?_; clear hk k
    refine ⟨i + 1, ⟨by omega, fun j hj => by by_cases e : j = i; (subst e; first | exact hb | exact Decidable.not_not.1 hb); exact hi2 j (by omega)⟩, le_of [] (by rfl) (by rfl) ⟨⟨_, rfl, .oe⟩, ⟨_, rfl, .oe⟩, ⟨_, rfl, .oe⟩, trivial⟩ trivial, by omega⟩
  ·try simp only [hbx] at hb
   refine awp_exit ((if_pos rfl).mpr ?_)
   refine h2 _ ?_; clear h4 k4; clear h2 k2
   refine awp_le (le_keep []) ?_
   simp only [kp, argSl, simprocAttr]
   refine awp_sr [] (by rw [hC]; rfl) fun k hk => ?_
   simp (maxSteps := 9^9) (disch := (try simp only [lens]); omega) only [argSl, sm, ↓amb, mark_eq, simprocAttr, dx]
   repeat refine an ?_
   refine hk _ ?_; clear hk k
   refine awp_ret ?_
   refine ret1 rfl rfl ?_
   exact .p (LeP.of_eq (by rw [decide_eq_true (Pl.edges_of hab (by omega) hi2)]))
end Go.Proofs.Ytjkkjiaeeobnkaa
end
section
set_option linter.unusedSimpArgs false
set_option linter.unusedVariables false
set_option maxRecDepth 100000
namespace Go.Proofs.Ytjkkjiaeeobnkaa
open Go.Am Go.Proofs
theorem en20 : enters Try.prog 20 = true := by kernel_rfl
theorem en51 : enters Try.prog 51 = true := by kernel_rfl
set_option maxHeartbeats 4000000 in
theorem c_ref25_Same (c d c' d' : Bool) (x y : Pl.Batch) (hx : x.edges.length ≤ 9223372036854775807) (hx2 : x.asks.length ≤ 9223372036854775807) (hy : y.edges.length ≤ 9223372036854775807) (hy2 : y.asks.length ≤ 9223372036854775807) : PCall Try.prog 20 [.agg (batchC c d x), .agg (batchC c' d' y)] (bV (decide (x = y))) := by
 refine pcall_of_awp Try.func20 rfl (by simp [Try.ntmps20]) fun C hC => ?_
 refine awp_le (le_keep [0, 1]) ?_
 simp only [kp, argSl, simprocAttr]
 refine awp_sr [] (by rw [hC]; rfl) fun k hk => ?_
 simp (maxSteps := 9^9) (disch := (try simp only [lens]); omega) only [argSl, sm, ↓amb, mark_eq, simprocAttr, dx]
 repeat refine an ?_
 refine hk _ ?_; clear hk k
 refine awp_seq fun k1 h1 => ?_
 refine awp_test [] 27 (decide (¬ (x.kind = y.kind ∧ x.asks.length = y.asks.length ∧ x.edges = y.edges))) [2, 3, 4] (by rw [hC]; rfl) (fun gd hgd k hk => ?_) ?_
 ·have g5 : gd 5 = some 11 := by rw [hgd]; rfl
  have g14 : gd 14 = some 20 := by rw [hgd]; rfl
  clear hgd
  simp (maxSteps := 9^9) (disch := (try simp only [lens]); omega) only [argSl, sm, ↓amb, mark_eq, simprocAttr, fl27_0, sz3, fl27_2, sz25, el25, fl27_1, sz24, en51, gcase_undef, g5, g14, dx]
  repeat' first | refine hk _ _ rfl rfl rfl rfl ?_ | (refine gsplit (fun hg => ?_) (fun hg => ?_) <;> (try simp only [hbx] at hg) <;> simp (maxSteps := 9^9) (disch := (try simp only [lens]); omega) only [argSl, sm, ↓amb, mark_eq, simprocAttr, fl27_0, sz3, fl27_2, sz25, el25, fl27_1, sz24, en51, gcase_undef, g5, g14, dx]) | apply And.intro | (refine callK_p (c_ref11_Same _ _ _ _ hx) rfl ?_; (try simp (maxSteps := 9^9) (disch := (try simp only [lens]); omega) only [argSl, sm, ↓amb, mark_eq, simprocAttr, fl27_0, sz3, fl27_2, sz25, el25, fl27_1, sz24, en51, gcase_undef, g5, g14, dx])) | fail
  all_goals first | rfl | omega | exact (decide_eq_true (by omega)).symm | exact (decide_eq_false (by omega)).symm | exact decide_eq_decide.mpr (by omega) | (refine Bool.eq_iff_iff.mpr ?_; simp only [beq_iff_eq, bne_iff_ne, ne_eq, decide_eq_true_eq]; omega) | (refine Bool.eq_iff_iff.mpr ?_; simp only [Bool.not_eq_true', Bool.not_eq_false', decide_eq_false_iff_not, decide_eq_true_eq, beq_iff_eq, bne_iff_ne, ne_eq]; omega) | assumption | (simp; done) | (simp [maxLen]; omega) | skip
  all_goals first | (exact (decide_eq_true (fun q => by omega)).symm) | (exact (decide_eq_false (fun q => by omega)).symm) | (refine (decide_eq_true ?_).symm; rintro ⟨q1, q2, q3⟩; first | omega | contradiction) | (rw [← decide_not]; refine decide_eq_decide.mpr ⟨fun h q => h q.2.2, fun h q => h ⟨by omega, by omega, q⟩⟩) | exact (decide_eq_false (fun q => by simp_all)).symm | (symm; refine decide_eq_decide.mpr ?_; simp_all; done) | (refine decide_eq_decide.mpr ?_; simp_all; done) | (refine Bool.eq_iff_iff.mpr ?_; simp_all; done) | trace_state
 simp only [kp, argSl, simprocAttr, List.length_cons, List.length_nil]
 refine awp_cond rfl (fun hb => ?_) (fun hb => ?_)
 ·try simp only [hbx] at hb
  refine awp_le (le_keep []) ?_
  simp only [kp, argSl, simprocAttr]
  refine awp_sr [] (by rw [hC]; rfl) fun k hk => ?_
  simp (maxSteps := 9^9) (disch := (try simp only [lens]); omega) only [argSl, sm, ↓amb, mark_eq, simprocAttr, dx]
  repeat refine an ?_
  refine hk _ ?_; clear hk k
  refine awp_ret ?_
  refine ret1 rfl rfl ?_
  exact .p (LeP.of_eq (by rw [decide_eq_false (fun e => hb ⟨by rw [e], by rw [e], by rw [e]⟩)]))
 ·try simp only [hbx] at hb
  refine awp_skip ?_
  refine h1 _ ?_; clear h1 k1
  refine awp_seq fun k2 h2 => ?_
  refine awp_le (le_keep [2, 3, 4]) ?_
  simp only [kp, argSl, simprocAttr]
  have hp : x.kind = y.kind ∧ x.asks.length = y.asks.length ∧ x.edges = y.edges := by first | exact hb | exact Decidable.not_not.1 hb
  have hp1 := hp.2.1
  refine awp_sr [] (by rw [hC]; rfl) fun k hk => ?_
  simp (maxSteps := 9^9) (disch := (try simp only [lens]); omega) only [argSl, sm, ↓amb, mark_eq, simprocAttr, dx]
  repeat refine an ?_
  refine hk _ ?_; clear hk k
  refine awp_block ?_
  refine awp_loop (σ := Nat) (fun i => i ≤ x.asks.length ∧ ∀ j, j < i → x.asks.getD j default = y.asks.getD j default) (fun (i : Nat) => ⟨[(2, (.ptr 0 3 0 0)), (3, (.ptr 1 3 0 0)), (5, (.p (iV (i : Int))))], [(0, (.row 3 [[.p (iV x.kind), .p (.seq c (x.edges.map edgeC)), .p (.seq d (x.asks.map askC))]])), (1, (.row 3 [[.p (iV y.kind), .p (.seq c' (y.edges.map edgeC)), .p (.seq d' (y.asks.map askC))]]))], 1⟩) (fun i => x.asks.length - i) 0 ?_ ?_ fun i hi => ?_
  ·exact ⟨Nat.zero_le _, fun j hj => by omega⟩
  ·exact le_of [(0, _), (1, _)] (by rfl) (by rfl) ⟨⟨_, rfl, .ptr rfl⟩, ⟨_, rfl, .ptr rfl⟩, ⟨_, rfl, .oe⟩, trivial⟩ ⟨⟨_, rfl, _, rfl, .one (.cons (.p (.refl _)) (.cons (.p (.refl _)) (.cons (.p (.refl _)) (.nil))))⟩, ⟨_, rfl, _, rfl, .one (.cons (.p (.refl _)) (.cons (.p (.refl _)) (.cons (.p (.refl _)) (.nil))))⟩, trivial⟩
  obtain ⟨hi1, hi2⟩ := hi
  refine awp_seq fun k4 h4 => ?_
  refine awp_le (le_keep [0, 1, 2, 3, 4, 5]) ?_
  simp only [kp, argSl, simprocAttr]
  refine awp_sr [] (by rw [hC]; rfl) fun k hk => ?_
  simp (maxSteps := 9^9) (disch := (try simp only [lens]); omega) only [argSl, sm, ↓amb, mark_eq, simprocAttr, fl27_2, sz25, el25, dx]
  repeat refine an ?_
  refine hk _ ?_; clear hk k
  refine awp_cond rfl (fun hb => ?_) (fun hb => ?_)
  ·try simp only [hbx] at hb
   refine awp_skip ?_
   refine h4 _ ?_; clear h4 k4
   refine awp_seq fun k5 h5 => ?_
   refine awp_block ?_
   refine awp_testD [] ⟨[0, 1, 0, 7, 15, 0, 32, 0, 224, 480, 1023], [1, 4, 6, 9], [], [], some []⟩ 45 (decide (¬ x.asks.getD i default = y.asks.getD i default)) [0, 1, 2, 3, 4, 5] (by rw [hC]; rfl) (by kernel_rfl) (by kernel_rfl) (fun gd hgd k hk => ?_) ?_
   ·clear hgd
    simp (maxSteps := 9^9) (disch := (try simp only [lens]); omega) only [argSl, sm, ↓amb, mark_eq, simprocAttr, fl27_2, sz25, el25, sz45, ff45, gcase_undef, dx]
    repeat' first | refine hk _ _ rfl rfl rfl rfl ?_ | (refine gsplit (fun hg => ?_) (fun hg => ?_) <;> (try simp only [hbx] at hg) <;> simp (maxSteps := 9^9) (disch := (try simp only [lens]); omega) only [argSl, sm, ↓amb, mark_eq, simprocAttr, fl27_2, sz25, el25, sz45, ff45, gcase_undef, dx]) | apply And.intro | fail
    all_goals first | rfl | omega | exact (decide_eq_true (by omega)).symm | exact (decide_eq_false (by omega)).symm | exact decide_eq_decide.mpr (by omega) | (refine Bool.eq_iff_iff.mpr ?_; simp only [beq_iff_eq, bne_iff_ne, ne_eq, decide_eq_true_eq]; omega) | (refine Bool.eq_iff_iff.mpr ?_; simp only [Bool.not_eq_true', Bool.not_eq_false', decide_eq_false_iff_not, decide_eq_true_eq, beq_iff_eq, bne_iff_ne, ne_eq]; omega) | assumption | (simp; done) | (simp [maxLen]; omega) | skip
    all_goals first | exact Pl.ask_ne _ _ | trace_state
   simp only [kp, argSl, simprocAttr, List.length_cons, List.length_nil]
   refine awp_cond rfl (fun hb => ?_) (fun hb => ?_)
   ·try simp only [hbx] at hb
    refine awp_le (le_keep []) ?_
    simp only [kp, argSl, simprocAttr]
    refine awp_sr [] (by rw [hC]; rfl) fun k hk => ?_
    simp (maxSteps := 9^9) (disch := (try simp only [lens]); omega) only [argSl, sm, ↓amb, mark_eq, simprocAttr, dx]
    repeat refine an ?_
    refine hk _ ?_; clear hk k
    refine awp_ret ?_
    refine ret1 rfl rfl ?_
    exact .p (LeP.of_eq (by rw [decide_eq_false (fun e => hb (by rw [e]))]))
   ·try simp only [hbx] at hb
    refine awp_skip ?_
    refine h5 _ ?_; clear h5 k5
    refine awp_region [] (by rw [hC]; rfl) fun k hk => ?_
    simp (maxSteps := 9^9) (disch := (try simp only [lens]); omega) only [argSl, sm, ↓amb, mark_eq, simprocAttr, dx]
    repeat refine an ?_
    refine hk _ ?_; clear hk k
    refine ⟨i + 1, ⟨by omega, fun j hj => by by_cases e : j = i; (subst e; first | exact hb | exact Decidable.not_not.1 hb); exact hi2 j (by omega)⟩, le_of [(0, _), (1, _)] (by rfl) (by rfl) ⟨⟨_, rfl, .ptr rfl⟩, ⟨_, rfl, .ptr rfl⟩, ⟨_, rfl, .oe⟩, trivial⟩ ⟨⟨_, rfl, _, rfl, .one (.cons (.p (.refl _)) (.cons (.p (.refl _)) (.cons (.p (.refl _)) (.nil))))⟩, ⟨_, rfl, _, rfl, .one (.cons (.p (.refl _)) (.cons (.p (.refl _)) (.cons (.p (.refl _)) (.nil))))⟩, trivial⟩, by omega⟩
  ·try simp only [hbx] at hb
   refine awp_exit ((if_pos rfl).mpr ?_)
   refine h2 _ ?_; clear h4 k4; clear h2 k2
   refine awp_le (le_keep []) ?_
   simp only [kp, argSl, simprocAttr]
   refine awp_sr [] (by rw [hC]; rfl) fun k hk => ?_
   simp (maxSteps := 9^9) (disch := (try simp only [lens]); omega) only [argSl, sm, ↓amb, mark_eq, simprocAttr, dx]
   repeat refine an ?_
   refine hk _ ?_; clear hk k
   refine awp_ret ?_
   refine ret1 rfl rfl ?_
   exact .p (LeP.of_eq (by rw [decide_eq_true (Pl.batch_eq.2 ⟨hp.1, hp.2.2, Pl.lists_of hp1 (by omega) hi2⟩)]))
set_option maxHeartbeats 4000000 in
theorem c_ref25_All (c d : Bool) (a b : List Pl.Batch) (ha0 : a.length ≤ 1000000) (ha : ∀ x, x ∈ a → x.edges.length ≤ 9223372036854775807 ∧ x.asks.length ≤ 9223372036854775807) (hbb : ∀ x, x ∈ b → x.edges.length ≤ 9223372036854775807 ∧ x.asks.length ≤ 9223372036854775807) : PCall Try.prog 21 [.seq c (a.map (batchC false false)), .seq d (b.map (batchC false false))] (bV (decide (a = b))) := by
 refine pcall_of_awp Try.func21 rfl (by simp [Try.ntmps21]) fun C hC => ?_
 refine awp_le (le_keep [0, 1]) ?_
 simp only [kp, argSl, simprocAttr]
 refine awp_sr [] (by rw [hC]; rfl) fun k hk => ?_
 simp (maxSteps := 9^9) (disch := (try simp only [lens]); omega) only [argSl, sm, ↓amb, mark_eq, simprocAttr, dx]
 repeat refine an ?_
 refine hk _ ?_; clear hk k
 refine awp_seq fun k1 h1 => ?_
 refine awp_le (le_keep [0, 1, 4]) ?_
 simp only [kp, argSl, simprocAttr]
 refine awp_sr [] (by rw [hC]; rfl) fun k hk => ?_
 simp (maxSteps := 9^9) (disch := (try simp only [lens]); omega) only [argSl, sm, ↓amb, mark_eq, simprocAttr, el31, dx]
 repeat refine an ?_
 refine hk _ ?_; clear hk k
 refine awp_cond rfl (fun hb => ?_) (fun hb => ?_)
 ·try simp only [hbx] at hb
  refine awp_le (le_keep []) ?_
  simp only [kp, argSl, simprocAttr]
  refine awp_sr [] (by rw [hC]; rfl) fun k hk => ?_
  simp (maxSteps := 9^9) (disch := (try simp only [lens]); omega) only [argSl, sm, ↓amb, mark_eq, simprocAttr, dx]
  repeat refine an ?_
  refine hk _ ?_; clear hk k
  refine awp_ret ?_
  refine ret1 rfl rfl ?_
  exact .p (LeP.of_eq (by rw [decide_eq_false (fun e => hb (by rw [e]))]))
 ·try simp only [hbx] at hb
  refine awp_skip ?_
  refine h1 _ ?_; clear h1 k1
  refine awp_seq fun k2 h2 => ?_
  refine awp_le (le_keep [0, 1, 4]) ?_
  simp only [kp, argSl, simprocAttr]
  have hab : a.length = b.length := by omega
  refine awp_sr [] (by rw [hC]; rfl) fun k hk => ?_
  simp (maxSteps := 9^9) (disch := (try simp only [lens]); omega) only [argSl, sm, ↓amb, mark_eq, simprocAttr, dx]
  repeat refine an ?_
  refine hk _ ?_; clear hk k
  refine awp_block ?_
  refine awp_loop (σ := Nat) (fun i => i ≤ a.length ∧ ∀ j, j < i → a.getD j default = b.getD j default) (fun (i : Nat) => ⟨[(0, (.p (.seq c (a.map (batchC false false))))), (1, (.p (.seq d (b.map (batchC false false))))), (5, (.p (iV (i : Int))))], [], 1⟩) (fun i => a.length - i) 0 ?_ ?_ fun i hi => ?_
  ·exact ⟨Nat.zero_le _, fun j hj => by omega⟩
  ·exact le_of [] (by rfl) (by rfl) ⟨⟨_, rfl, .oe⟩, ⟨_, rfl, .oe⟩, ⟨_, rfl, .oe⟩, trivial⟩ trivial
  obtain ⟨hi1, hi2⟩ := hi
  refine awp_seq fun k4 h4 => ?_
  refine awp_le (le_keep [0, 1, 4, 5]) ?_
  simp only [kp, argSl, simprocAttr]
  refine awp_sr [] (by rw [hC]; rfl) fun k hk => ?_
  simp (maxSteps := 9^9) (disch := (try simp only [lens]); omega) only [argSl, sm, ↓amb, mark_eq, simprocAttr, el31, dx]
  repeat refine an ?_
  refine hk _ ?_; clear hk k
  refine awp_cond rfl (fun hb => ?_) (fun hb => ?_)
  ·try simp only [hbx] at hb
   refine awp_skip ?_
   refine h4 _ ?_; clear h4 k4
   refine awp_seq fun k5 h5 => ?_
   refine awp_block ?_
   refine awp_le (le_keep [0, 1, 4, 5]) ?_
   simp only [kp, argSl, simprocAttr]
   have ha1 := ha _ (Pl.getD_mem a i default (by omega))
   have hb1 := hbb _ (Pl.getD_mem b i default (by omega))
   refine awp_sd [] ⟨[0, 0, 3, 7, 0, 0, 48, 112, 255, 511], [3, 7], [], [], some []⟩ (by rw [hC]; rfl) (by kernel_rfl) (by kernel_rfl) fun k hk => ?_
   simp (maxSteps := 9^9) (disch := (try simp only [lens]); omega) only [argSl, sm, ↓amb, mark_eq, simprocAttr, el31, sz27, en20, dx]
   repeat refine an ?_
   refine callK_p (c_ref25_Same _ _ _ _ _ _ ha1.1 ha1.2 hb1.1 hb1.2) rfl ?_
   simp (maxSteps := 9^9) (disch := (try simp only [lens]); omega) only [argSl, sm, ↓amb, mark_eq, simprocAttr, el31, sz27, en20, dx]
   repeat refine an ?_
   refine hk _ ?_; clear hk k
   refine awp_cond rfl (fun hb => ?_) (fun hb => ?_)
   ·try simp only [hbx] at hb
    refine awp_le (le_keep []) ?_
    simp only [kp, argSl, simprocAttr]
    refine awp_sr [] (by rw [hC]; rfl) fun k hk => ?_
    simp (maxSteps := 9^9) (disch := (try simp only [lens]); omega) only [argSl, sm, ↓amb, mark_eq, simprocAttr, dx]
    repeat refine an ?_
    refine hk _ ?_; clear hk k
    refine awp_ret ?_
    refine ret1 rfl rfl ?_
    exact .p (LeP.of_eq (by rw [decide_eq_false (fun e => hb (by rw [e]))]))
   ·try simp only [hbx] at hb
    refine awp_skip ?_
    refine h5 _ ?_; clear h5 k5
    refine awp_region [] (by rw [hC]; rfl) fun k hk => ?_
    simp (maxSteps := 9^9) (disch := (try simp only [lens]); omega) only [argSl, sm, ↓amb, mark_eq, simprocAttr, dx]
    repeat refine an ?_
    refine hk _ ?_; clear hk k
    refine ⟨i + 1, ⟨by omega, fun j hj => by by_cases e : j = i; (subst e; first | exact hb | exact Decidable.not_not.1 hb); exact hi2 j (by omega)⟩, le_of [] (by rfl) (by rfl) ⟨⟨_, rfl, .oe⟩, ⟨_, rfl, .oe⟩, ⟨_, rfl, .oe⟩, trivial⟩ trivial, by omega⟩
  ·try simp only [hbx] at hb
   refine awp_exit ((if_pos rfl).mpr ?_)
   refine h2 _ ?_; clear h4 k4; clear h2 k2
   refine awp_le (le_keep []) ?_
   simp only [kp, argSl, simprocAttr]
   refine awp_sr [] (by rw [hC]; rfl) fun k hk => ?_
   simp (maxSteps := 9^9) (disch := (try simp only [lens]); omega) only [argSl, sm, ↓amb, mark_eq, simprocAttr, dx]
   repeat refine an ?_
   refine hk _ ?_; clear hk k
   refine awp_ret ?_
   refine ret1 rfl rfl ?_
   exact .p (LeP.of_eq (by rw [decide_eq_true (Pl.lists_of hab (by omega) hi2)]))
end Go.Proofs.Ytjkkjiaeeobnkaa
end
section
set_option linter.unusedSimpArgs false
set_option linter.unusedVariables false
set_option maxRecDepth 100000
namespace Go.Proofs.Ytjkkjiaeeobnkaa
open Go.Am Go.Proofs
theorem so1 : strOf [[PV.lit (.int .u8 1)], [PV.lit (.int .u8 0)], [PV.lit (.int .u8 1)], [PV.lit (.int .u8 0)], [PV.lit (.int .u8 2)], [PV.lit (.int .u8 1)], [PV.lit (.int .u8 5)]] = some (strI [1, 0, 1, 0, 2, 1, 5]) := h05 [1, 0, 1, 0, 2, 1, 5]
theorem so2 : strOf [[PV.lit (.int .u8 3)], [PV.lit (.int .u8 0)], [PV.lit (.int .u8 1)], [PV.lit (.int .u8 2)], [PV.lit (.int .u8 0)], [PV.lit (.int .u8 7)], [PV.lit (.int .u8 0)], [PV.lit (.int .u8 0)]] = some (strI [3, 0, 1, 2, 0, 7, 0, 0]) := h05 [3, 0, 1, 2, 0, 7, 0, 0]
theorem sq1 : ((strI [1, 0, 1, 0, 2, 1, 5]).toList == (⟨#[1, 0, 1, 0, 2, 1, 5]⟩ : ByteArray).toList) = true := by decide +kernel
theorem sq2 : ((strI [3, 0, 1, 2, 0, 7, 0, 0]).toList == (⟨#[3, 0, 1, 2, 0, 7, 0, 0]⟩ : ByteArray).toList) = true := by decide +kernel
abbrev wx0 : Pl.Batch := ⟨1, [⟨2, 261⟩], []⟩
abbrev wy0 : Pl.Batch := ⟨3, [], [⟨2, 7, 0⟩]⟩
theorem b8_all {l : List Int} (h : l.all (fun x => decide (0 ≤ x ∧ x < 256)) = true) : ∀ x, x ∈ l → Pl.B8 x := fun x hx => of_decide_eq_true (p := 0 ≤ x ∧ x < 256) (List.all_eq_true.1 h x hx)
theorem leB (c d : Bool) (x : Pl.Batch) : LePs (batchC c d x) (batchC false false x) := .cons (LeP.refl _) (.cons (LeP.seq _ _) (.cons (LeP.seq _ _) .nil))
theorem wire_all : PCall Try.prog 21 [.seq false ([wx0, wy0].map (batchC false false)), .seq true [batchC true true wx0, batchC true true wy0]] (bV true) := by
  have h := c_ref25_All false true [wx0, wy0] [wx0, wy0] (by decide) (by decide) (by decide)
  rw [decide_eq_true rfl] at h
  refine pcall_le h (.cons (LeP.refl _) (.cons (LeP.seqs rfl fun i a b h1 h2 => ?_) .nil))
  match i, h1, h2 with
  | 0, h1, h2 => injection h1 with h1; injection h2 with h2; subst h1 h2; exact leB _ _ _
  | 1, h1, h2 => injection h1 with h1; injection h2 with h2; subst h1 h2; exact leB _ _ _
  | i + 2, h1, h2 => cases h1
theorem bs22_9 : tB2S Try.prog 22 9 = true := by kernel_rfl
theorem en14 : enters Try.prog 14 = true := by kernel_rfl
theorem en16 : enters Try.prog 16 = true := by kernel_rfl
theorem en21 : enters Try.prog 21 = true := by kernel_rfl
theorem en22 : enters Try.prog 22 = true := by kernel_rfl
theorem en26 : enters Try.prog 26 = true := by kernel_rfl
theorem pl27_1 : tPlace Try.prog 27 1 = some (1, 1) := by kernel_rfl
theorem pl27_2 : tPlace Try.prog 27 2 = some (2, 1) := by kernel_rfl
set_option maxHeartbeats 4000000 in
theorem c_law25_alive : PCall Try.prog 13 [] (bV true) := by
 refine pcall_of_awp Try.func13 rfl (by simp [Try.ntmps13]) fun C hC => ?_
 refine awp_le (le_keep []) ?_
 simp only [kp, argSl, simprocAttr]
 have a1 := c_wire_Encode true true wx0
 rw [if_pos (show Pl.batchRight wx0 by decide), if_pos (show Pl.batchRight wx0 by decide), show Pl.encB wx0 = ([1, 0, 1, 0, 2, 1, 5] : List Int) from by decide] at a1
 have a2 := c_wire_Encode true true wy0
 rw [if_pos (show Pl.batchRight wy0 by decide), if_pos (show Pl.batchRight wy0 by decide), show Pl.encB wy0 = ([3, 0, 1, 2, 0, 7, 0, 0] : List Int) from by decide] at a2
 have a3 := c_wire_Stream false ([1, 0, 1, 0, 2, 1, 5, 3, 0, 1, 2, 0, 7, 0, 0] : List Int) (b8_all (by decide)) (by decide)
 rw [show Pl.strm ([1, 0, 1, 0, 2, 1, 5, 3, 0, 1, 2, 0, 7, 0, 0] : List Int) = ([wx0, wy0], 15, 0) from by decide +kernel] at a3
 have a4 := decR_w true ([3, 0, 1, 5] : List Int) (b8_all (by decide)) (by decide)
 rw [show Pl.decR ([3, 0, 1, 5] : List Int) = (⟨0, [], []⟩, 3, 8) from by decide +kernel] at a4
 have a5 := decR_w true ([1, 1, 0] : List Int) (b8_all (by decide)) (by decide)
 rw [show Pl.decR ([1, 1, 0] : List Int) = (⟨0, [], []⟩, 1, 9) from by decide +kernel] at a5
 have a6 := c_wire_Number true ([9, 1, 2] : List Int) 1 (b8_all (by decide)) (by decide)
 rw [if_pos (by decide), decide_eq_true (by decide), show Pl.num2 ([9, 1, 2] : List Int) (1 : Int).toNat = 258 from by decide] at a6
 have b1 := wire_all
 have b2 := c_wire_Right true true wx0
 rw [decide_eq_true (show Pl.batchRight wx0 by decide)] at b2
 have b3 := c_wire_Same true true true true wx0 wx0 (by decide) (by decide) (by decide) (by decide)
 rw [decide_eq_true rfl] at b3
 refine awp_sr [37] (by rw [hC]; rfl) fun k hk => ?_
 simp (maxSteps := 9^9) (disch := (try simp only [lens]); omega) only [argSl, sm, ↓amb, mark_eq, simprocAttr, xm, so1, so2, sq1, sq2, dx]
 repeat refine an ?_
 refine hk _ ?_; clear hk k
 refine awp_le (le_keep []) ?_
 simp only [kp, argSl, simprocAttr]
 refine awp_sr [37] (by rw [hC]; rfl) fun k hk => ?_
 simp (maxSteps := 9^9) (disch := (try simp only [lens]); omega) only [argSl, sm, ↓amb, mark_eq, simprocAttr, vr47, bt47, pl47_0, pl47_1, el24, vr27, bt27, pl27_0, pl27_1, sz27, xm, so1, so2, sq1, sq2, dx]
 repeat refine an ?_
 refine hk _ ?_; clear hk k
 refine awp_le (le_keep [1]) ?_
 simp only [kp, argSl, simprocAttr]
 refine awp_sr [37] (by rw [hC]; rfl) fun k hk => ?_
 simp (maxSteps := 9^9) (disch := (try simp only [lens]); omega) only [argSl, sm, ↓amb, mark_eq, simprocAttr, vr45, bt45, pl45_0, pl45_1, el25, vr27, bt27, pl27_0, pl27_2, sz27, xm, so1, so2, sq1, sq2, dx]
 repeat refine an ?_
 refine hk _ ?_; clear hk k
 refine awp_le (le_keep [1, 2]) ?_
 simp only [kp, argSl, simprocAttr]
 refine awp_sr [37] (by rw [hC]; rfl) fun k hk => ?_
 simp (maxSteps := 9^9) (disch := (try simp only [lens]); omega) only [argSl, sm, ↓amb, mark_eq, simprocAttr, sz27, en22, xm, so1, so2, sq1, sq2, dx]
 repeat refine an ?_
 refine callK_p (a1) rfl ?_
 simp (maxSteps := 9^9) (disch := (try simp only [lens]); omega) only [argSl, sm, ↓amb, mark_eq, simprocAttr, sz27, en22, xm, so1, so2, sq1, sq2, dx]
 repeat refine an ?_
 refine hk _ ?_; clear hk k
 refine awp_le (le_keep [1, 2, 3, 4]) ?_
 simp only [kp, argSl, simprocAttr]
 refine awp_sr [37] (by rw [hC]; rfl) fun k hk => ?_
 simp (maxSteps := 9^9) (disch := (try simp only [lens]); omega) only [argSl, sm, ↓amb, mark_eq, simprocAttr, sz27, en22, xm, so1, so2, sq1, sq2, dx]
 repeat refine an ?_
 refine callK_p (a2) rfl ?_
 simp (maxSteps := 9^9) (disch := (try simp only [lens]); omega) only [argSl, sm, ↓amb, mark_eq, simprocAttr, sz27, en22, xm, so1, so2, sq1, sq2, dx]
 repeat refine an ?_
 refine hk _ ?_; clear hk k
 refine awp_le (le_keep [1, 2, 3, 4, 5, 6]) ?_
 simp only [kp, argSl, simprocAttr]
 refine awp_sr [37] (by rw [hC]; rfl) fun k hk => ?_
 simp (maxSteps := 9^9) (disch := (try simp only [lens]); omega) only [argSl, sm, ↓amb, mark_eq, simprocAttr, el22, vr5, by5, en16, xm, so1, so2, sq1, sq2, dx]
 repeat refine an ?_
 refine callK_p (a3) rfl ?_
 simp (maxSteps := 9^9) (disch := (try simp only [lens]); omega) only [argSl, sm, ↓amb, mark_eq, simprocAttr, el22, vr5, by5, en16, xm, so1, so2, sq1, sq2, dx]
 repeat refine an ?_
 refine hk _ ?_; clear hk k
 refine awp_le (le_keep [1, 2, 3, 4, 5, 6, 7, 8, 9]) ?_
 simp only [kp, argSl, simprocAttr]
 refine awp_sr [37] (by rw [hC]; rfl) fun k hk => ?_
 simp (maxSteps := 9^9) (disch := (try simp only [lens]); omega) only [argSl, sm, ↓amb, mark_eq, simprocAttr, el22, vr5, en14, vr27, sz27, xm, so1, so2, sq1, sq2, dx]
 repeat refine an ?_
 refine callK_p (a4) rfl ?_
 simp (maxSteps := 9^9) (disch := (try simp only [lens]); omega) only [argSl, sm, ↓amb, mark_eq, simprocAttr, el22, vr5, en14, vr27, sz27, xm, so1, so2, sq1, sq2, dx]
 repeat refine an ?_
 refine hk _ ?_; clear hk k
 refine awp_le (le_keep [1, 2, 3, 4, 5, 6, 7, 8, 9, 11, 12]) ?_
 simp only [kp, argSl, simprocAttr]
 refine awp_sr [37] (by rw [hC]; rfl) fun k hk => ?_
 simp (maxSteps := 9^9) (disch := (try simp only [lens]); omega) only [argSl, sm, ↓amb, mark_eq, simprocAttr, el22, vr5, en14, vr27, sz27, xm, so1, so2, sq1, sq2, dx]
 repeat refine an ?_
 refine callK_p (a5) rfl ?_
 simp (maxSteps := 9^9) (disch := (try simp only [lens]); omega) only [argSl, sm, ↓amb, mark_eq, simprocAttr, el22, vr5, en14, vr27, sz27, xm, so1, so2, sq1, sq2, dx]
 repeat refine an ?_
 refine hk _ ?_; clear hk k
 refine awp_le (le_keep [1, 2, 3, 4, 5, 6, 7, 8, 9, 11, 12, 14, 15]) ?_
 simp only [kp, argSl, simprocAttr]
 refine awp_sr [37] (by rw [hC]; rfl) fun k hk => ?_
 simp (maxSteps := 9^9) (disch := (try simp only [lens]); omega) only [argSl, sm, ↓amb, mark_eq, simprocAttr, el22, vr5, en18, xm, so1, so2, sq1, sq2, dx]
 repeat refine an ?_
 refine callK_p (a6) rfl ?_
 simp (maxSteps := 9^9) (disch := (try simp only [lens]); omega) only [argSl, sm, ↓amb, mark_eq, simprocAttr, el22, vr5, en18, xm, so1, so2, sq1, sq2, dx]
 repeat refine an ?_
 refine hk _ ?_; clear hk k
 refine awp_test [37] 0 (decide (True)) [] (by rw [hC]; rfl) (fun gd hgd k hk => ?_) ?_
 ·have g2 : gd 2 = some 63 := by rw [hgd]; rfl
  have g6 : gd 6 = some 67 := by rw [hgd]; rfl
  have g10 : gd 10 = some 71 := by rw [hgd]; rfl
  have g15 : gd 15 = some 76 := by rw [hgd]; rfl
  have g20 : gd 20 = some 81 := by rw [hgd]; rfl
  have g24 : gd 24 = some 85 := by rw [hgd]; rfl
  have g31 : gd 31 = some 92 := by rw [hgd]; rfl
  have g35 : gd 35 = some 96 := by rw [hgd]; rfl
  have g39 : gd 39 = some 100 := by rw [hgd]; rfl
  have g43 : gd 43 = some 104 := by rw [hgd]; rfl
  have g47 : gd 47 = some 108 := by rw [hgd]; rfl
  have g51 : gd 51 = some 112 := by rw [hgd]; rfl
  have g54 : gd 54 = some 115 := by rw [hgd]; rfl
  have g58 : gd 58 = some 119 := by rw [hgd]; rfl
  clear hgd
  simp (maxSteps := 9^9) (disch := (try simp only [lens]); omega) only [argSl, sm, ↓amb, mark_eq, simprocAttr, bs22_9, sz27, el31, vr27, en21, en24, en26, gcase_undef, g2, g6, g10, g15, g20, g24, g31, g35, g39, g43, g47, g51, g54, g58, xm, so1, so2, sq1, sq2, dx]
  repeat' first | refine hk _ _ rfl rfl rfl rfl ?_ | (refine gsplit (fun hg => ?_) (fun hg => ?_) <;> (try simp only [hbx] at hg) <;> simp (maxSteps := 9^9) (disch := (try simp only [lens]); omega) only [argSl, sm, ↓amb, mark_eq, simprocAttr, bs22_9, sz27, el31, vr27, en21, en24, en26, gcase_undef, g2, g6, g10, g15, g20, g24, g31, g35, g39, g43, g47, g51, g54, g58, xm, so1, so2, sq1, sq2, dx]) | apply And.intro | (refine callK_p (b1) rfl ?_; (try simp (maxSteps := 9^9) (disch := (try simp only [lens]); omega) only [argSl, sm, ↓amb, mark_eq, simprocAttr, bs22_9, sz27, el31, vr27, en21, en24, en26, gcase_undef, g2, g6, g10, g15, g20, g24, g31, g35, g39, g43, g47, g51, g54, g58, xm, so1, so2, sq1, sq2, dx])) | (refine callK_p (b2) rfl ?_; (try simp (maxSteps := 9^9) (disch := (try simp only [lens]); omega) only [argSl, sm, ↓amb, mark_eq, simprocAttr, bs22_9, sz27, el31, vr27, en21, en24, en26, gcase_undef, g2, g6, g10, g15, g20, g24, g31, g35, g39, g43, g47, g51, g54, g58, xm, so1, so2, sq1, sq2, dx])) | (refine callK_p (b3) rfl ?_; (try simp (maxSteps := 9^9) (disch := (try simp only [lens]); omega) only [argSl, sm, ↓amb, mark_eq, simprocAttr, bs22_9, sz27, el31, vr27, en21, en24, en26, gcase_undef, g2, g6, g10, g15, g20, g24, g31, g35, g39, g43, g47, g51, g54, g58, xm, so1, so2, sq1, sq2, dx])) | fail
  all_goals first | rfl | omega | exact (decide_eq_true (by omega)).symm | exact (decide_eq_false (by omega)).symm | exact decide_eq_decide.mpr (by omega) | (refine Bool.eq_iff_iff.mpr ?_; simp only [beq_iff_eq, bne_iff_ne, ne_eq, decide_eq_true_eq]; omega) | (refine Bool.eq_iff_iff.mpr ?_; simp only [Bool.not_eq_true', Bool.not_eq_false', decide_eq_false_iff_not, decide_eq_true_eq, beq_iff_eq, bne_iff_ne, ne_eq]; omega) | assumption | (simp; done) | (simp [maxLen]; omega) | skip
 simp only [kp, argSl, simprocAttr, List.length_cons, List.length_nil]
 refine awp_ret ?_
 refine ret1 rfl rfl ?_
 exact .p (LeP.refl _)
end Go.Proofs.Ytjkkjiaeeobnkaa
end
section
set_option linter.unusedSimpArgs false
set_option linter.unusedVariables false
set_option maxRecDepth 100000
namespace Go.Proofs.Ytjkkjiaeeobnkaa
open Go.Am Go.Proofs
theorem c_ref25_EncL (c d : Bool) (x : Pl.Batch) : PCall Try.prog 23 [.agg (batchC c d x)] (.tup [.seq false ((Pl.encL x).map fun x => [.lit (.int .u8 x)]), iV (Pl.encC x)]) := by
  have h := c_ref25_Encode c d x
  unfold Pl.encL Pl.encC
  by_cases q : Pl.batchRight x
  · rw [if_pos q, if_pos q] at h; rw [if_pos q, if_pos q]; exact h
  · rw [if_neg q, if_neg q] at h; rw [if_neg q, if_neg q]; exact h
theorem en13 : enters Try.prog 13 = true := by kernel_rfl
theorem en23 : enters Try.prog 23 = true := by kernel_rfl
end Go.Proofs.Ytjkkjiaeeobnkaa
end
section
set_option linter.unusedSimpArgs false
set_option linter.unusedVariables false
namespace Go.Pl
theorem fm_get {α : Type} [Inhabited α] {f : α → List Int} {s : Nat} (hf : ∀ a, (f a).length = s) : ∀ (l : List α) (i j : Nat), i < l.length → j < s → (l.flatMap f).getD (s * i + j) 0 = (f (l.getD i default)).getD j 0
  | [], i, j, h, _ => by simp at h
  | a :: l, 0, j, _, hj => by
    rw [List.flatMap_cons, List.getD_eq_getElem?_getD, List.getElem?_append_left (by rw [hf]; omega), Nat.mul_zero, Nat.zero_add, ← List.getD_eq_getElem?_getD]; rfl
  | a :: l, i + 1, j, h, hj => by
    have := fm_get hf l i j (by simpa using h) hj
    rw [List.flatMap_cons, List.getD_eq_getElem?_getD, List.getElem?_append_right (by rw [hf, Nat.mul_succ]; omega), hf, show s * (i + 1) + j - s = s * i + j by rw [Nat.mul_succ]; omega, ← List.getD_eq_getElem?_getD, this]
    rfl
theorem enc_e {x : Batch} {i j : Nat} (hi : i < x.edges.length) (hj : j < 4) : (encB x).getD (3 + (4 * i + j)) 0 = (numsB [(x.edges.getD i default).u, (x.edges.getD i default).v]).getD j 0 := by
  have h := fm_get (f := fun e : Edge => numsB [e.u, e.v]) (s := 4) (fun e => rfl) x.edges i j hi hj
  rw [← h]
  have hl := edB_len x.edges
  unfold encB
  rw [List.getD_eq_getElem?_getD, List.getElem?_append_left (by rw [List.length_append, hdB_len, hl]; omega), List.getElem?_append_right (by rw [hdB_len]; omega), hdB_len, show 3 + (4 * i + j) - 3 = 4 * i + j by omega, ← List.getD_eq_getElem?_getD]
  rfl
theorem enc_a {x : Batch} {i j : Nat} (he : x.edges.length = 0) (hi : i < x.asks.length) (hj : j < 5) : (encB x).getD (3 + (5 * i + j)) 0 = (((x.asks.getD i default).kind % 256) :: numsB [(x.asks.getD i default).u, (x.asks.getD i default).v]).getD j 0 := by
  have h := fm_get (f := fun a : Ask => (a.kind % 256) :: numsB [a.u, a.v]) (s := 5) (fun e => rfl) x.asks i j hi hj
  rw [← h]
  have hl := edB_len x.edges
  rw [he] at hl
  unfold encB
  rw [List.getD_eq_getElem?_getD, List.getElem?_append_right (by rw [List.length_append, hdB_len, hl]; omega), List.length_append, hdB_len, hl, show 3 + (5 * i + j) - (3 + 4 * 0) = 5 * i + j by omega, ← List.getD_eq_getElem?_getD]
  rfl
theorem enc_0 (x : Batch) : (encB x).getD 0 0 = x.kind % 256 := rfl
theorem enc_1 (x : Batch) : (encB x).getD 1 0 = ((x.edges.length : Int) + x.asks.length) / 256 % 256 := rfl
theorem enc_2 (x : Batch) : (encB x).getD 2 0 = ((x.edges.length : Int) + x.asks.length) % 256 := rfl
def Agr (x : Batch) (T : List Int) : Prop := ∀ j, j < T.length → j < (encB x).length → T.getD j 0 = (encB x).getD j 0
def itmN (x : Batch) : Nat := x.edges.length + x.asks.length
def qB (x : Batch) : Bool := decide (x.kind = 3)
theorem enc_len {x : Batch} (h : batchRight x) : (encB x).length = 3 + itS (qB x) * itmN x ∧ itmN x ≤ 60 := by
  obtain ⟨hs, _⟩ := br_shape h
  unfold shape at hs
  rw [encB_len]
  unfold qB itmN
  by_cases c : x.kind = 3
  · rw [decide_eq_true c, show itS true = 5 from rfl]; have := hs.2.2.1 c; omega
  · rw [decide_eq_false c, show itS false = 4 from rfl]; have := hs.2.2.2.1 c; omega
theorem numI_of {T : List Int} {p : Nat} {v : Int} (h1 : T.getD p 0 = v / 256 % 256) (h2 : T.getD (p + 1) 0 = v % 256) (hv : fits v) : num2 T p = v := by
  unfold fits at hv
  unfold num2; rw [h1, h2]; omega
theorem agr_kind {x : Batch} {T : List Int} (h : batchRight x) (ha : Agr x T) (h0 : 1 ≤ T.length) : T.getD 0 0 = x.kind := by
  obtain ⟨hs, _⟩ := br_shape h
  unfold shape at hs
  rw [ha 0 (by omega) (by rw [encB_len]; omega), enc_0]; omega
theorem agr_n {x : Batch} {T : List Int} (h : batchRight x) (ha : Agr x T) (h0 : 3 ≤ T.length) : num2 T 1 = itmN x := by
  have hc := (enc_len h).2
  refine numI_of (v := (itmN x : Int)) ?_ ?_ (by unfold fits; omega)
  · rw [ha 1 (by omega) (by rw [encB_len]; omega), enc_1]; unfold itmN; push_cast; rfl
  · rw [ha 2 (by omega) (by rw [encB_len]; omega), enc_2]; unfold itmN; push_cast; rfl
theorem agr_e {x : Batch} {T : List Int} (h : batchRight x) (ha : Agr x T) {m : Nat} (hm : m < x.edges.length) : (3 + 4 * m + 2 ≤ T.length → num2 T (3 + 4 * m) = (x.edges.getD m default).u) ∧ (3 + 4 * m + 4 ≤ T.length → num2 T (3 + 4 * m + 2) = (x.edges.getD m default).v) := by
  obtain ⟨_, he, _⟩ := br_shape h
  obtain ⟨f1, f2⟩ := he _ (getD_mem x.edges m default hm)
  have hl := encB_len x
  have g : ∀ j, j < 4 → 3 + 4 * m + j < T.length → T.getD (3 + 4 * m + j) 0 = (numsB [(x.edges.getD m default).u, (x.edges.getD m default).v]).getD j 0 := fun j hj ht => by
    rw [ha _ ht (by omega), ← enc_e hm hj, Nat.add_assoc]
  exact ⟨fun ht => numI_of (g 0 (by omega) (by omega)) (g 1 (by omega) (by omega)) f1, fun ht => numI_of (g 2 (by omega) (by omega)) (g 3 (by omega) (by omega)) f2⟩
theorem agr_a {x : Batch} {T : List Int} (h : batchRight x) (ha : Agr x T) (he0 : x.edges.length = 0) {m : Nat} (hm : m < x.asks.length) : (3 + 5 * m + 1 ≤ T.length → T.getD (3 + 5 * m) 0 = (x.asks.getD m default).kind) ∧ (3 + 5 * m + 3 ≤ T.length → num2 T (3 + 5 * m + 1) = (x.asks.getD m default).u) ∧ (3 + 5 * m + 5 ≤ T.length → num2 T (3 + 5 * m + 3) = (x.asks.getD m default).v) := by
  obtain ⟨_, _, hk⟩ := br_shape h
  obtain ⟨f0, f1, f2⟩ := hk _ (getD_mem x.asks m default hm)
  have hl := encB_len x
  have g : ∀ j, j < 5 → 3 + 5 * m + j < T.length → T.getD (3 + 5 * m + j) 0 = (((x.asks.getD m default).kind % 256) :: numsB [(x.asks.getD m default).u, (x.asks.getD m default).v]).getD j 0 := fun j hj ht => by
    rw [ha _ ht (by omega), ← enc_a he0 hm hj, Nat.add_assoc]
  refine ⟨fun ht => ?_, fun ht => numI_of (g 1 (by omega) (by omega)) (g 2 (by omega) (by omega)) f1, fun ht => numI_of (g 3 (by omega) (by omega)) (g 4 (by omega) (by omega)) f2⟩
  have := g 0 (by omega) (by omega)
  rw [Nat.add_zero] at this
  rw [this]
  show (x.asks.getD m default).kind % 256 = _
  omega
theorem numE_of {T : List Int} {p : Nat} : (p + 2 ≤ T.length → numE T p = none) ∧ (¬ p + 2 ≤ T.length → numE T p = some ((T.length : Int), 7)) := ⟨fun h => if_pos h, fun h => if_neg h⟩
theorem item {x : Batch} {T : List Int} (h : batchRight x) (ha : Agr x T) {m : Nat} (hm : m < itmN x) (h0 : 3 + itS (qB x) * m ≤ T.length) :
    (3 + itS (qB x) * (m + 1) ≤ T.length → itE (qB x) T (3 + itS (qB x) * m) = none) ∧ (T.length < 3 + itS (qB x) * (m + 1) → itE (qB x) T (3 + itS (qB x) * m) = some ((T.length : Int), 7)) := by
  obtain ⟨hs, _, hk⟩ := br_shape h
  unfold shape at hs
  unfold itmN at hm
  by_cases c : x.kind = 3
  · have hq : qB x = true := decide_eq_true c
    have he := hs.2.2.1 c
    rw [hq] at h0 ⊢
    rw [show itS true = 5 from rfl] at h0 ⊢
    obtain ⟨g1, g2, g3⟩ := agr_a h ha he (m := m) (by omega)
    obtain ⟨f0, _, _⟩ := hk _ (getD_mem x.asks m default (by omega))
    have hkd : ¬ T.length ≤ 3 + 5 * m → kindE 4 T (3 + 5 * m) = none := fun z => by
      unfold kindE; rw [if_neg z, if_pos (by rw [g1 (by omega)]; exact f0)]
    constructor
    · intro ht
      exact ask_no (hkd (by omega)) (numE_of.1 (by omega)) (numE_of.1 (by omega))
    · intro ht
      by_cases z : T.length ≤ 3 + 5 * m
      · refine ask_1 ?_
        unfold kindE; rw [if_pos z]; congr 2; omega
      · by_cases z1 : 3 + 5 * m + 1 + 2 ≤ T.length
        · exact ask_3 (hkd z) (numE_of.1 z1) (numE_of.2 (by omega))
        · exact ask_2 (hkd z) (numE_of.2 z1)
  · have hq : qB x = false := decide_eq_false c
    rw [hq] at h0 ⊢
    rw [show itS false = 4 from rfl] at h0 ⊢
    constructor
    · intro ht
      exact edge_no (numE_of.1 (by omega)) (numE_of.1 (by omega))
    · intro ht
      by_cases z1 : 3 + 4 * m + 2 ≤ T.length
      · exact edge_2 (numE_of.1 z1) (numE_of.2 (by omega))
      · exact edge_1 (numE_of.2 z1)
theorem items {x : Batch} {T : List Int} (h : batchRight x) (ha : Agr x T) (h0 : 3 ≤ T.length) : ∀ {m : Nat}, m ≤ itmN x →
    (3 + itS (qB x) * m ≤ T.length → itsE (qB x) T 3 m = none) ∧ (T.length < 3 + itS (qB x) * m → itsE (qB x) T 3 m = some ((T.length : Int), 7))
  | 0, _ => ⟨fun _ => rfl, fun z => by rw [Nat.mul_zero] at z; omega⟩
  | m + 1, hm => by
    obtain ⟨i1, i2⟩ := items h ha h0 (m := m) (by omega)
    have hle : itS (qB x) * m ≤ itS (qB x) * (m + 1) := Nat.mul_le_mul_left _ (by omega)
    constructor
    · intro ht
      unfold itsE
      rw [i1 (by omega)]
      exact (item h ha (by omega) (by omega)).1 ht
    · intro ht
      unfold itsE
      by_cases z : 3 + itS (qB x) * m ≤ T.length
      · rw [i1 z]
        exact (item h ha (by omega) z).2 ht
      · rw [i2 (by omega)]; rfl
theorem agr_q {x : Batch} {T : List Int} (h : batchRight x) (ha : Agr x T) (h0 : 1 ≤ T.length) : isQ T 0 = qB x ∧ kindE 3 T 0 = none := by
  have hk := agr_kind h ha h0
  obtain ⟨hs, _⟩ := br_shape h
  unfold shape at hs
  refine ⟨by unfold isQ qB; rw [hk], ?_⟩
  unfold kindE; rw [if_neg (by omega), if_pos (by rw [hk]; omega)]
theorem agr_its {x : Batch} {T : List Int} (h : batchRight x) (ha : Agr x T) (h0 : 3 ≤ T.length) : batE T 0 = itsE (qB x) T 3 (itmN x) ∧ batN T 0 = itmN x := by
  obtain ⟨q1, q2⟩ := agr_q h ha (by omega)
  have hn := agr_n h ha h0
  have hc := (enc_len h).2
  have hb : batN T 0 = itmN x := by unfold batN; rw [Nat.zero_add, hn]; omega
  refine ⟨?_, hb⟩
  unfold batE
  rw [q2, Nat.zero_add, numE_of.1 (show 1 + 2 ≤ T.length by omega), hn, if_neg (by omega), q1, hb]
  rfl
theorem enc_back {x : Batch} {T : List Int} (h : batchRight x) (ha : Agr x T) (hl : (encB x).length ≤ T.length) : batE T 0 = none ∧ batX T 0 = x ∧ batS T 0 = (encB x).length := by
  obtain ⟨e1, e2⟩ := enc_len h
  obtain ⟨a1, a2⟩ := agr_its h ha (by omega)
  obtain ⟨q1, q2⟩ := agr_q h ha (by omega)
  obtain ⟨hs, _⟩ := br_shape h
  unfold shape at hs
  refine ⟨by rw [a1]; exact (items h ha (by omega) (Nat.le_refl _)).1 (by omega), ?_, by unfold batS; rw [q1, a2, e1]⟩
  rw [batX_eq, a2, agr_kind h ha (by omega)]
  unfold eN aN
  rw [q1]
  unfold itmN at *
  by_cases c : x.kind = 3
  · have hq : qB x = true := decide_eq_true c
    have he := hs.2.2.1 c
    have hed : x.edges = [] := List.eq_nil_of_length_eq_zero he
    rw [hq] at e1
    rw [show itS true = 5 from rfl] at e1
    rw [if_pos hq, if_pos hq, batch_eq]
    refine ⟨rfl, hed.symm, ?_⟩
    dsimp only
    refine List.ext_getElem (by rw [asksAt_len]; omega) fun j h1 h2 => ?_
    obtain ⟨g1, g2, g3⟩ := agr_a h ha he (m := j) h2
    simp only [asksAt, List.getElem_map, List.getElem_range, askAt, Nat.zero_add]
    rw [g1 (by omega), g2 (by omega), g3 (by omega), List.getD_eq_getElem?_getD, List.getElem?_eq_getElem h2]; rfl
  · have hq : qB x = false := decide_eq_false c
    have hak := hs.2.2.2.1 c
    have had : x.asks = [] := List.eq_nil_of_length_eq_zero hak
    rw [hq] at e1
    rw [show itS false = 4 from rfl] at e1
    rw [if_neg (by rw [hq]; decide), if_neg (by rw [hq]; decide), batch_eq]
    refine ⟨rfl, ?_, had.symm⟩
    dsimp only
    refine List.ext_getElem (by rw [edgesAt_len]; omega) fun j h1 h2 => ?_
    obtain ⟨g1, g2⟩ := agr_e h ha (m := j) h2
    simp only [edgesAt, List.getElem_map, List.getElem_range, edgeAt, Nat.zero_add]
    rw [g1 (by omega), g2 (by omega), List.getD_eq_getElem?_getD, List.getElem?_eq_getElem h2]; rfl
theorem agr_app (x : Batch) (r : List Int) : Agr x (encB x ++ r) := fun j _ h2 => by
  rw [List.getD_eq_getElem?_getD, List.getElem?_append_left h2, ← List.getD_eq_getElem?_getD]
theorem encB_b8 (x : Batch) : ∀ z, z ∈ encB x → B8 z := by
  have hn : ∀ (ns : List Int) z, z ∈ numsB ns → B8 z := fun ns z h => by
    unfold numsB at h
    obtain ⟨n, _, h⟩ := List.mem_flatMap.1 h
    simp only [List.mem_cons, List.not_mem_nil, or_false] at h
    rcases h with rfl | rfl <;> (unfold B8; omega)
  intro z h
  unfold encB hdB edB asB at h
  rcases List.mem_append.1 h with h | h
  · rcases List.mem_append.1 h with h | h
    · rcases List.mem_append.1 h with h | h
      · rw [List.mem_singleton] at h; subst h; unfold B8; omega
      · exact hn _ _ h
    · obtain ⟨e, _, h⟩ := List.mem_flatMap.1 h; exact hn _ _ h
  · obtain ⟨a, _, h⟩ := List.mem_flatMap.1 h
    rcases List.mem_cons.1 h with rfl | h
    · unfold B8; omega
    · exact hn _ _ h
theorem strF_fuel {b : List Int} : ∀ (f g i : Nat), b.length ≤ i + f → b.length ≤ i + g → strF b f i = strF b g i
  | 0, g, i, h1, h2 => by rw [strF_end (f := 0) (by omega), strF_end (by omega)]
  | f + 1, 0, i, h1, h2 => by rw [strF_end (by omega), strF_end (f := 0) (by omega)]
  | f + 1, g + 1, i, h1, h2 => by
    by_cases h : b.length ≤ i
    · rw [strF_end h, strF_end h]
    · rcases some_or (batE b i) with ⟨e, he⟩ | he
      · rw [strF_err (by omega) he, strF_err (by omega) he]
      · have := (bat_fits he).2
        rw [strF_no (by omega) he, strF_no (by omega) he, strF_fuel f g (i + batS b i) (by omega) (by omega)]
theorem strF_drop {b : List Int} {i : Nat} (hi : i ≤ b.length) : ∀ (f j : Nat), strF (b.drop i) f j = ((strF b f (i + j)).1, (strF b f (i + j)).2.1 - i, (strF b f (i + j)).2.2)
  | 0, j => by rw [show strF (b.drop i) 0 j = ([], (j : Int), 0) from rfl, show strF b 0 (i + j) = ([], ((i + j : Nat) : Int), 0) from rfl]; simp only [Prod.mk.injEq, true_and, and_true]; omega
  | f + 1, j => by
    have hd := batE_drop hi j
    by_cases h : b.length ≤ i + j
    · rw [strF_end h, strF_end (by rw [List.length_drop]; omega)]; simp only [Prod.mk.injEq, true_and, and_true]; omega
    · have hlt : j < (b.drop i).length := by rw [List.length_drop]; omega
      rcases some_or (batE b (i + j)) with ⟨e, he⟩ | he
      · rw [he] at hd
        rw [strF_err (by omega) he, strF_err hlt hd]; rfl
      · rw [he] at hd
        have eX : batX (b.drop i) j = batX b (i + j) := by
          have h1 := batX_drop (b.drop i) j
          rw [List.drop_drop] at h1
          rw [← h1, ← batX_drop b (i + j)]
        have eS : batS (b.drop i) j = batS b (i + j) := by
          have h1 := batS_drop (b.drop i) j
          rw [List.drop_drop] at h1
          rw [← h1, ← batS_drop b (i + j)]
        rw [strF_no (by omega) he, strF_no hlt hd, strF_drop hi f, eX, eS, Nat.add_assoc]
theorem strm_drop {b : List Int} {l : List Batch} {i : Nat} (h : StrI b l i) : strm b = (l ++ (strm (b.drop i)).1, (i : Int) + (strm (b.drop i)).2.1, (strm (b.drop i)).2.2) := by
  obtain ⟨f, q1, q2, q3, q4⟩ := h
  have hd := strF_drop q2 f 0
  rw [Nat.add_zero] at hd
  have : strm (b.drop i) = strF (b.drop i) f 0 := strF_fuel _ _ _ (by omega) (by rw [List.length_drop]; omega)
  rw [q3, this, hd]
  refine Prod.ext rfl (Prod.ext ?_ rfl)
  dsimp only; omega
def catB (l : List Batch) : List Int := l.flatMap encB
theorem catB_snoc (l : List Batch) (x : Batch) : catB (l ++ [x]) = catB l ++ encB x := by simp [catB]
theorem str_cat {b : List Int} : ∀ (l r : List Batch), (∀ x, x ∈ r → batchRight x) → StrI (catB l ++ (catB r ++ b)) l (catB l).length → strm (catB l ++ (catB r ++ b)) = (l ++ r ++ (strm b).1, ((catB l).length : Int) + (catB r).length + (strm b).2.1, (strm b).2.2)
  | l, [], _, h => by
    have e : catB ([] : List Batch) = [] := rfl
    rw [e, List.nil_append] at h ⊢
    have := strm_drop h
    rw [List.drop_left] at this
    rw [this, List.append_nil]
    simp only [Prod.mk.injEq, true_and, and_true, List.length_nil]; omega
  | l, x :: r, hr, h => by
    have hx := hr x (by simp)
    have e0 : catB (x :: r) = encB x ++ catB r := by simp [catB]
    have hle : (catB l).length ≤ (catB l ++ (catB (x :: r) ++ b)).length := by rw [List.length_append]; omega
    have hlen := encB_len x
    obtain ⟨b1, b2, b3⟩ := enc_back hx (agr_app x (catB r ++ b)) (by rw [List.length_append]; omega)
    have hd := batE_drop hle 0
    rw [List.drop_left, Nat.add_zero, e0, List.append_assoc, b1] at hd
    have hdX := batX_drop (catB l ++ (catB (x :: r) ++ b)) (catB l).length
    rw [List.drop_left, e0, List.append_assoc, b2] at hdX
    have hdS := batS_drop (catB l ++ (catB (x :: r) ++ b)) (catB l).length
    rw [List.drop_left, e0, List.append_assoc, b3] at hdS
    rw [e0, List.append_assoc] at h
    have hb : batE (catB l ++ (encB x ++ (catB r ++ b))) (catB l).length = none := by
      rcases some_or (batE (catB l ++ (encB x ++ (catB r ++ b))) (catB l).length) with ⟨e, he⟩ | he
      · rw [he] at hd; cases hd
      · exact he
    have hs := str_step h (by rw [List.length_append, List.length_append, hlen]; omega) hb
    rw [← hdX, ← hdS, ← List.length_append, ← catB_snoc] at hs
    have e1 : catB l ++ (encB x ++ (catB r ++ b)) = catB (l ++ [x]) ++ (catB r ++ b) := by rw [catB_snoc, List.append_assoc]
    rw [e1] at hs
    have := str_cat (l ++ [x]) r (fun y hy => hr y (by simp [hy])) hs
    rw [e0, List.append_assoc, e1, this, catB_snoc, List.length_append, List.length_append]
    simp only [Prod.mk.injEq, and_true]
    exact ⟨by simp, by push_cast; omega⟩
theorem str_all {b : List Int} {l : List Batch} (h : ∀ x, x ∈ l → batchRight x) : strm (catB l ++ b) = (l ++ (strm b).1, ((catB l).length : Int) + (strm b).2.1, (strm b).2.2) := by
  have h0 : StrI (catB [] ++ (catB l ++ b)) [] (catB []).length := str_start _
  have := str_cat [] l h h0
  rw [show catB [] = [] from rfl, List.nil_append] at this
  rw [this]
  simp only [Prod.mk.injEq, and_true, List.nil_append, true_and]
  show ((0 : Nat) : Int) + _ + _ = _
  omega
theorem encC_0 {x : Batch} (h : encC x = 0) : batchRight x ∧ encL x = encB x := by
  unfold encC at h
  by_cases q : batchRight x
  · exact ⟨q, if_pos q⟩
  · rw [if_neg q] at h; exact absurd h (by decide)
theorem encL_len (x : Batch) : (encL x).length ≤ 600 := by
  unfold encL
  split
  · rename_i h
    have := enc_len h
    have e1 : itS (qB x) ≤ 5 := by unfold itS; split <;> omega
    have e2 : itS (qB x) * itmN x ≤ 5 * 60 := Nat.mul_le_mul e1 this.2
    omega
  · exact Nat.zero_le _
theorem strF_rng (b : List Int) : ∀ (f i : Nat), i ≤ b.length → 0 ≤ (strF b f i).2.1 ∧ (strF b f i).2.1 ≤ b.length
  | 0, i, h => ⟨Int.natCast_nonneg i, by show (i : Int) ≤ _; omega⟩
  | f + 1, i, h => by
    by_cases h1 : b.length ≤ i
    · rw [strF_end h1]; dsimp only; omega
    · rcases some_or (batE b i) with ⟨e, he⟩ | he
      · rw [strF_err (by omega) he]; exact batE_rng h he
      · rw [strF_no (by omega) he]
        exact strF_rng b f _ (bat_fits he).1
theorem strm_rng (b : List Int) : 0 ≤ (strm b).2.1 ∧ (strm b).2.1 ≤ b.length := strF_rng b _ 0 (Nat.zero_le _)
theorem catB_take {l : List Batch} {i : Nat} (h : i < l.length) (hc : encC (l.getD i default) = 0) : catB (l.take (i + 1)) = catB (l.take i) ++ encL (l.getD i default) := by
  rw [take_snocE l i h, catB_snoc, (encC_0 hc).2]
theorem catB_len {l : List Batch} : ∀ {i : Nat}, (∀ j, j < i → encC (l.getD j default) = 0) → i ≤ l.length → (catB (l.take i)).length ≤ 600 * i
  | 0, _, _ => by rw [List.take_zero]; exact Nat.zero_le _
  | i + 1, h, hi => by
    rw [catB_take (by omega) (h i (by omega)), List.length_append]
    have := catB_len (l := l) (i := i) (fun j hj => h j (by omega)) (by omega)
    have := encL_len (l.getD i default)
    omega
theorem all_right {l : List Batch} {i : Nat} (h : ∀ j, j < i → encC (l.getD j default) = 0) (hi : l.length ≤ i) : ∀ x, x ∈ l → batchRight x := fun x hx => by
  obtain ⟨j, hj, rfl⟩ := List.getElem_of_mem hx
  have := h j (by omega)
  rw [List.getD_eq_getElem?_getD, List.getElem?_eq_getElem hj] at this
  exact (encC_0 this).1
theorem right_len {x : Batch} (h : batchRight x) : x.edges.length ≤ 9223372036854775807 ∧ x.asks.length ≤ 9223372036854775807 := by
  obtain ⟨hs, _⟩ := br_shape h
  unfold shape at hs; omega
theorem catB_b8 (l : List Batch) : ∀ z, z ∈ catB l → B8 z := fun z h => by
  unfold catB at h
  obtain ⟨x, _, h⟩ := List.mem_flatMap.1 h
  exact encB_b8 x z h
end Go.Pl
end
section
set_option linter.unusedSimpArgs false
set_option linter.unusedVariables false
set_option maxRecDepth 100000
namespace Go.Proofs.Ytjkkjiaeeobnkaa
open Go.Am Go.Proofs
theorem drT (l K : List Pl.Batch) : List.drop l.length (List.take (l.length + K.length) (l ++ K)) = K := by
  rw [List.take_of_length_le (by rw [List.length_append]; exact Nat.le_refl _)]; exact List.drop_left
set_option maxHeartbeats 4000000 in
theorem c_law25_WireStreams (l : List Pl.Batch) (b : List Int) (hb8 : ∀ x, x ∈ b → Pl.B8 x) (hbl : b.length ≤ 9223372036854775807) : PCall Try.prog 6 [.seq false (l.map (batchC false false)), (.seq false (b.map fun x => [.lit (.int .u8 x)]))] (bV true) := by
 refine pcall_of_awp Try.func6 rfl (by simp [Try.ntmps6]) fun C hC => ?_
 refine awp_le (le_keep [0, 1]) ?_
 simp only [kp, argSl, simprocAttr]
 refine awp_sr [43, 47] (by rw [hC]; rfl) fun k hk => ?_
 simp (maxSteps := 9^9) (disch := (try simp only [lens]); omega) only [argSl, sm, ↓amb, mark_eq, simprocAttr, List.take_left, List.drop_left, drT, dx]
 repeat refine an ?_
 refine hk _ ?_; clear hk k
 refine awp_seq fun k1 h1 => ?_
 refine awp_le (le_keep [0, 1, 4]) ?_
 simp only [kp, argSl, simprocAttr]
 refine awp_sr [43, 47] (by rw [hC]; rfl) fun k hk => ?_
 simp (maxSteps := 9^9) (disch := (try simp only [lens]); omega) only [argSl, sm, ↓amb, mark_eq, simprocAttr, en13, List.take_left, List.drop_left, drT, dx]
 repeat refine an ?_
 refine callK_p (c_law25_alive) rfl ?_
 simp (maxSteps := 9^9) (disch := (try simp only [lens]); omega) only [argSl, sm, ↓amb, mark_eq, simprocAttr, en13, List.take_left, List.drop_left, drT, dx]
 repeat refine an ?_
 refine hk _ ?_; clear hk k
 refine awp_cond rfl (fun hb => ?_) (fun hb => ?_)
 ·try simp only [hbx] at hb
  refine awp_le (le_keep []) ?_
  simp only [kp, argSl, simprocAttr]
  refine awp_sr [43, 47] (by rw [hC]; rfl) fun k hk => ?_
  simp (maxSteps := 9^9) (disch := (try simp only [lens]); omega) only [argSl, sm, ↓amb, mark_eq, simprocAttr, List.take_left, List.drop_left, drT, dx]
  repeat refine an ?_
  refine hk _ ?_; clear hk k
  refine awp_ret ?_
  exact absurd hb (by simp)
 ·try simp only [hbx] at hb
  refine awp_skip ?_
  refine h1 _ ?_; clear h1 k1
  refine awp_seq fun k2 h2 => ?_
  refine awp_test [43, 47] 24 (decide (6 < l.length ∨ 1000 < b.length)) [0, 1, 4] (by rw [hC]; rfl) (fun gd hgd k hk => ?_) ?_
  ·have g3 : gd 3 = some 20 := by rw [hgd]; rfl
   clear hgd
   simp (maxSteps := 9^9) (disch := (try simp only [lens]); omega) only [argSl, sm, ↓amb, mark_eq, simprocAttr, el31, el22, gcase_undef, g3, List.take_left, List.drop_left, drT, dx]
   repeat' first | refine hk _ _ rfl rfl rfl rfl ?_ | (refine gsplit (fun hg => ?_) (fun hg => ?_) <;> (try simp only [hbx] at hg) <;> simp (maxSteps := 9^9) (disch := (try simp only [lens]); omega) only [argSl, sm, ↓amb, mark_eq, simprocAttr, el31, el22, gcase_undef, g3, List.take_left, List.drop_left, drT, dx]) | apply And.intro | fail
   all_goals first | rfl | omega | exact (decide_eq_true (by omega)).symm | exact (decide_eq_false (by omega)).symm | exact decide_eq_decide.mpr (by omega) | (refine Bool.eq_iff_iff.mpr ?_; simp only [beq_iff_eq, bne_iff_ne, ne_eq, decide_eq_true_eq]; omega) | (refine Bool.eq_iff_iff.mpr ?_; simp only [Bool.not_eq_true', Bool.not_eq_false', decide_eq_false_iff_not, decide_eq_true_eq, beq_iff_eq, bne_iff_ne, ne_eq]; omega) | assumption | (simp; done) | (simp [maxLen]; omega) | skip
  simp only [kp, argSl, simprocAttr, List.length_cons, List.length_nil]
  refine awp_cond rfl (fun hb => ?_) (fun hb => ?_)
  ·try simp only [hbx] at hb
   refine awp_le (le_keep []) ?_
   simp only [kp, argSl, simprocAttr]
   refine awp_sr [43, 47] (by rw [hC]; rfl) fun k hk => ?_
   simp (maxSteps := 9^9) (disch := (try simp only [lens]); omega) only [argSl, sm, ↓amb, mark_eq, simprocAttr, List.take_left, List.drop_left, drT, dx]
   repeat refine an ?_
   refine hk _ ?_; clear hk k
   refine awp_ret ?_
   refine ret1 rfl rfl ?_
   exact .p (LeP.refl _)
  ·try simp only [hbx] at hb
   refine awp_skip ?_
   refine h2 _ ?_; clear h2 k2
   refine awp_le (le_keep [0, 1]) ?_
   simp only [kp, argSl, simprocAttr]
   refine awp_sr [43, 47] (by rw [hC]; rfl) fun k hk => ?_
   simp (maxSteps := 9^9) (disch := (try simp only [lens]); omega) only [argSl, sm, ↓amb, mark_eq, simprocAttr, List.take_left, List.drop_left, drT, dx]
   repeat refine an ?_
   refine hk _ ?_; clear hk k
   refine awp_seq fun k3 h3 => ?_
   refine awp_le (le_keep [0, 1, 4, 5]) ?_
   simp only [kp, argSl, simprocAttr]
   refine awp_sr [43, 47] (by rw [hC]; rfl) fun k hk => ?_
   simp (maxSteps := 9^9) (disch := (try simp only [lens]); omega) only [argSl, sm, ↓amb, mark_eq, simprocAttr, List.take_left, List.drop_left, drT, dx]
   repeat refine an ?_
   refine hk _ ?_; clear hk k
   refine awp_block ?_
   refine awp_own' 5 1 rfl ?_
   simp only [am, kp, Nat.reduceEqDiff, ↓reduceIte, reduceCtorEq, Nat.reduceAdd, Nat.reduceMul]
   refine awp_loop (σ := Nat) (fun i => i ≤ l.length ∧ ∀ j, j < i → Pl.encC (l.getD j default) = 0) (fun (i : Nat) => ⟨[(0, (.p (.seq false (l.map (batchC false false))))), (1, (.p (.seq false (b.map fun x => [.lit (.int .u8 x)])))), (5, (.own 0)), (6, (.p (iV (i : Int))))], [(0, (.row 1 (lift ((Pl.catB (l.take i)).map fun x => [.lit (.int .u8 x)]))))], 1⟩) (fun i => l.length - i) 0 ?_ ?_ fun i hi => ?_
   ·exact ⟨Nat.zero_le _, fun j hj => by omega⟩
   ·exact le_of [(0, _)] (by rfl) (by rfl) ⟨⟨_, rfl, .oe⟩, ⟨_, rfl, .oe⟩, ⟨_, rfl, .own rfl⟩, ⟨_, rfl, .oe⟩, trivial⟩ ⟨⟨_, rfl, _, rfl, .liftE (by first | rfl | (rw [Pl.catB_take (by omega) hce, List.map_append]; done) | (rw [Pl.catB_take (by omega) hce]; done) | trace_state)⟩, trivial⟩
   obtain ⟨hi1, hi2⟩ := hi
   refine awp_seq fun k5 h5 => ?_
   refine awp_le (le_keep [0, 1, 4, 5, 6]) ?_
   simp only [kp, argSl, simprocAttr]
   refine awp_sr [43, 47] (by rw [hC]; rfl) fun k hk => ?_
   simp (maxSteps := 9^9) (disch := (try simp only [lens]); omega) only [argSl, sm, ↓amb, mark_eq, simprocAttr, el31, List.take_left, List.drop_left, drT, dx]
   repeat refine an ?_
   refine hk _ ?_; clear hk k
   refine awp_cond rfl (fun hb => ?_) (fun hb => ?_)
   ·try simp only [hbx] at hb
    refine awp_skip ?_
    refine h5 _ ?_; clear h5 k5
    refine awp_seq fun k6 h6 => ?_
    refine awp_block ?_
    refine awp_le (le_keep [0, 1, 4, 5, 6]) ?_
    simp only [kp, argSl, simprocAttr]
    have hel := Pl.encL_len (l.getD i default)
    have hcl := Pl.catB_len hi2 hi1
    refine awp_sr [43, 47] (by rw [hC]; rfl) fun k hk => ?_
    simp (maxSteps := 9^9) (disch := (try simp only [lens]); omega) only [argSl, sm, ↓amb, mark_eq, simprocAttr, el31, sz27, en23, List.take_left, List.drop_left, drT, dx]
    repeat refine an ?_
    refine callK_p (c_ref25_EncL false false (l.getD i default)) rfl ?_
    simp (maxSteps := 9^9) (disch := (try simp only [lens]); omega) only [argSl, sm, ↓amb, mark_eq, simprocAttr, el31, sz27, en23, List.take_left, List.drop_left, drT, dx]
    repeat refine an ?_
    refine hk _ ?_; clear hk k
    refine awp_seq fun k7 h7 => ?_
    refine awp_le (le_keep [0, 1, 4, 5, 6, 7, 8]) ?_
    simp only [kp, argSl, simprocAttr]
    refine awp_sr [43, 47] (by rw [hC]; rfl) fun k hk => ?_
    simp (maxSteps := 9^9) (disch := (try simp only [lens]); omega) only [argSl, sm, ↓amb, mark_eq, simprocAttr, List.take_left, List.drop_left, drT, dx]
    repeat refine an ?_
    refine hk _ ?_; clear hk k
    refine awp_cond rfl (fun hb => ?_) (fun hb => ?_)
    ·try simp only [hbx] at hb
     refine awp_le (le_keep []) ?_
     simp only [kp, argSl, simprocAttr]
     refine awp_sr [43, 47] (by rw [hC]; rfl) fun k hk => ?_
     simp (maxSteps := 9^9) (disch := (try simp only [lens]); omega) only [argSl, sm, ↓amb, mark_eq, simprocAttr, List.take_left, List.drop_left, drT, dx]
     repeat refine an ?_
     refine hk _ ?_; clear hk k
     refine awp_ret ?_
     refine ret1 rfl rfl ?_
     exact .p (LeP.refl _)
    ·try simp only [hbx] at hb
     refine awp_skip ?_
     refine h7 _ ?_; clear h7 k7
     have hce : Pl.encC (l.getD i default) = 0 := by first | exact hb | exact Decidable.not_not.1 hb
     refine awp_region [43, 47] (by rw [hC]; rfl) fun k hk => ?_
     simp (maxSteps := 9^9) (disch := (try simp only [lens]); omega) only [argSl, sm, ↓amb, mark_eq, simprocAttr, el22, vr5, by5, List.take_left, List.drop_left, drT, dx]
     repeat refine an ?_
     refine hk _ ?_; clear hk k
     refine h6 _ ?_; clear h6 k6
     refine awp_region [43, 47] (by rw [hC]; rfl) fun k hk => ?_
     simp (maxSteps := 9^9) (disch := (try simp only [lens]); omega) only [argSl, sm, ↓amb, mark_eq, simprocAttr, List.take_left, List.drop_left, drT, dx]
     repeat refine an ?_
     refine hk _ ?_; clear hk k
     refine ⟨i + 1, ⟨by omega, fun j hj => by by_cases e : j = i; (subst e; exact hce); exact hi2 j (by omega)⟩, le_of [(0, _)] (by rfl) (by rfl) ⟨⟨_, rfl, .oe⟩, ⟨_, rfl, .oe⟩, ⟨_, rfl, .own rfl⟩, ⟨_, rfl, .oe⟩, trivial⟩ ⟨⟨_, rfl, _, rfl, .liftE (by first | rfl | (rw [Pl.catB_take (by omega) hce, List.map_append]; done) | (rw [Pl.catB_take (by omega) hce]; done) | trace_state)⟩, trivial⟩, by omega⟩
   ·try simp only [hbx] at hb
    refine awp_exit ((if_pos rfl).mpr ?_)
    refine h3 _ ?_; clear h5 k5; clear h3 k3
    refine awp_le (le_keep [0, 1, 5]) ?_
    simp only [kp, argSl, simprocAttr]
    obtain rfl : i = l.length := by omega
    have hcl := Pl.catB_len hi2 hi1
    have hrr := Pl.all_right hi2 (Nat.le_refl _)
    rw [List.take_of_length_le (Nat.le_refl _)] at hcl ⊢
    have hl : b.length ≤ 1000000 := by omega
    have f1 := c_wire_Stream false (Pl.catB l ++ b) (fun z hz => (List.mem_append.1 hz).elim (Pl.catB_b8 l z) (hb8 z)) (by rw [List.length_append]; omega)
    rw [Pl.str_all hrr] at f1
    have hsr := Pl.strm_rng b
    obtain ⟨hk1', hk2⟩ := Pl.strm_len b
    have hk1 : (Pl.strm b).1.length ≤ 1000000 := by omega
    have hl6 : l.length ≤ 1000000 := by omega
    have hll : ∀ x, x ∈ l → x.edges.length ≤ 9223372036854775807 ∧ x.asks.length ≤ 9223372036854775807 := fun x hx => Pl.right_len (hrr x hx)
    have hy3 : ∀ (y : List PV), y ∈ List.map (batchC false false) (l ++ (Pl.strm b).1) → y.length = 3 := by
     intro y h
     obtain ⟨_, _, rfl⟩ := List.mem_map.1 h; rfl
    refine awp_sr [43, 47] (by rw [hC]; rfl) fun k hk => ?_
    simp (maxSteps := 9^9) (disch := (try simp only [lens]); omega) only [argSl, sm, ↓amb, mark_eq, simprocAttr, el22, vr5, by5, en16, List.take_left, List.drop_left, drT, dx]
    repeat refine an ?_
    refine callK_p (f1) rfl ?_
    simp (maxSteps := 9^9) (disch := (try simp only [lens]); omega) only [argSl, sm, ↓amb, mark_eq, simprocAttr, el22, vr5, by5, en16, List.take_left, List.drop_left, drT, dx]
    repeat refine an ?_
    refine hk _ ?_; clear hk k
    refine awp_le (le_keep [0, 1, 5, 9, 10, 11]) ?_
    simp only [kp, argSl, simprocAttr]
    refine awp_sr [43, 47] (by rw [hC]; rfl) fun k hk => ?_
    simp (maxSteps := 9^9) (disch := (try simp only [lens]); omega) only [argSl, sm, ↓amb, mark_eq, simprocAttr, en16, List.take_left, List.drop_left, drT, dx]
    repeat refine an ?_
    refine callK_p (c_wire_Stream false b hb8 hl) rfl ?_
    simp (maxSteps := 9^9) (disch := (try simp only [lens]); omega) only [argSl, sm, ↓amb, mark_eq, simprocAttr, en16, List.take_left, List.drop_left, drT, dx]
    repeat refine an ?_
    refine hk _ ?_; clear hk k
    refine awp_test [43, 47] 4 (decide (True)) [] (by rw [hC]; rfl) (fun gd hgd k hk => ?_) ?_
    ·have g3 : gd 3 = some 63 := by rw [hgd]; rfl
     have g11 : gd 11 = some 71 := by rw [hgd]; rfl
     have g21 : gd 21 = some 81 := by rw [hgd]; rfl
     have g29 : gd 29 = some 89 := by rw [hgd]; rfl
     clear hgd
     simp (maxSteps := 9^9) (disch := (try simp only [lens]); omega) only [argSl, sm, ↓amb, mark_eq, simprocAttr, el22, el31, sz27, en21, gcase_undef, g3, g11, g21, g29, List.take_left, List.drop_left, drT, dx]
     repeat' first | refine hk _ _ rfl rfl rfl rfl ?_ | (refine gsplit (fun hg => ?_) (fun hg => ?_) <;> (try simp only [hbx] at hg) <;> simp (maxSteps := 9^9) (disch := (try simp only [lens]); omega) only [argSl, sm, ↓amb, mark_eq, simprocAttr, el22, el31, sz27, en21, gcase_undef, g3, g11, g21, g29, List.take_left, List.drop_left, drT, dx]) | apply And.intro | (refine callK_p (c_ref25_All false false l l hl6 hll hll) rfl ?_; (try simp (maxSteps := 9^9) (disch := (try simp only [lens]); omega) only [argSl, sm, ↓amb, mark_eq, simprocAttr, el22, el31, sz27, en21, gcase_undef, g3, g11, g21, g29, List.take_left, List.drop_left, drT, dx])) | (refine callK_p (c_ref25_All false false (Pl.strm b).1 (Pl.strm b).1 hk1 hk2 hk2) rfl ?_; (try simp (maxSteps := 9^9) (disch := (try simp only [lens]); omega) only [argSl, sm, ↓amb, mark_eq, simprocAttr, el22, el31, sz27, en21, gcase_undef, g3, g11, g21, g29, List.take_left, List.drop_left, drT, dx])) | fail
     all_goals first | rfl | omega | exact (decide_eq_true (by omega)).symm | exact (decide_eq_false (by omega)).symm | exact decide_eq_decide.mpr (by omega) | (refine Bool.eq_iff_iff.mpr ?_; simp only [beq_iff_eq, bne_iff_ne, ne_eq, decide_eq_true_eq]; omega) | (refine Bool.eq_iff_iff.mpr ?_; simp only [Bool.not_eq_true', Bool.not_eq_false', decide_eq_false_iff_not, decide_eq_true_eq, beq_iff_eq, bne_iff_ne, ne_eq]; omega) | assumption | (simp; done) | (simp [maxLen]; omega) | skip
     all_goals first | (exfalso; omega) | rfl | (exfalso; exact absurd rfl (by assumption)) | (simp; done) | (simp_all; done) | trace_state
    simp only [kp, argSl, simprocAttr, List.length_cons, List.length_nil]
    refine awp_ret ?_
    refine ret1 rfl rfl ?_
    exact .p (LeP.refl _)
end Go.Proofs.Ytjkkjiaeeobnkaa
end
section
namespace Go.Proofs.Ytjkkjiaeeobnkaa
open Go.Am Go.Proofs
theorem Try.own : ownKnob Try.prog.godebug = none := by kernel_rfl
theorem Try.laidOut : laidOutB Try.prog = true := by kernel_rfl
abbrev W64 (n : Int) : Prop := (Lit.int .i64 n).wf = true
theorem wf8 {n : Int} (h : (Lit.int .u8 n).wf = true) : 0 ≤ n ∧ n ≤ 255 := by
  simp only [Lit.wf, Bool.and_eq_true, decide_eq_true_eq, show IntKind.u8.min = 0 from rfl, show IntKind.u8.max = 255 from rfl] at h; exact h
theorem op_int : Opens Try.prog 3 Int (fun n => (Lit.int .i64 n).wf = true) (fun n => [.lit (.int .i64 n)]) := opens_int Try.underlying3
theorem op_edge : Opens Try.prog 47 Pl.Edge (fun e => W64 e.u ∧ W64 e.v) (edgeC) := (opens_agg (ts := [3, 3]) (by kernel_rfl) (.cons op_int (.cons op_int .nil))).map (fun p => ⟨p.1, p.2.1⟩) (fun _ h => ⟨⟨h.1, h.2.1⟩, rfl⟩)
theorem op_edges : Opens Try.prog 24 (List Pl.Edge) (fun l => l.length ≤ maxLen ∧ ∀ e, e ∈ l → W64 e.u ∧ W64 e.v) (fun l => [.seq false (l.map edgeC)]) := opens_slice Try.underlying24 (of_decide_eq_true (by kernel_rfl)) op_edge
theorem op_ask : Opens Try.prog 45 Pl.Ask (fun e => W64 e.kind ∧ W64 e.u ∧ W64 e.v) (askC) := (opens_agg (ts := [3, 3, 3]) (by kernel_rfl) (.cons op_int (.cons op_int (.cons op_int .nil)))).map (fun p => ⟨p.1, p.2.1, p.2.2.1⟩) (fun _ h => ⟨⟨h.1, h.2.1, h.2.2.1⟩, rfl⟩)
theorem op_asks : Opens Try.prog 25 (List Pl.Ask) (fun l => l.length ≤ maxLen ∧ ∀ e, e ∈ l → W64 e.kind ∧ W64 e.u ∧ W64 e.v) (fun l => [.seq false (l.map askC)]) := opens_slice Try.underlying25 (of_decide_eq_true (by kernel_rfl)) op_ask
theorem op_batch : Opens Try.prog 27 Pl.Batch (fun x => W64 x.kind ∧ (x.edges.length ≤ maxLen ∧ ∀ e, e ∈ x.edges → W64 e.u ∧ W64 e.v) ∧ x.asks.length ≤ maxLen ∧ ∀ e, e ∈ x.asks → W64 e.kind ∧ W64 e.u ∧ W64 e.v) (batchC false false) := (opens_agg (ts := [3, 24, 25]) (by kernel_rfl) (.cons op_int (.cons op_edges (.cons op_asks .nil)))).map (fun p => ⟨p.1, p.2.1, p.2.2.1⟩) (fun _ h => ⟨⟨h.1, h.2.1, h.2.2.1⟩, rfl⟩)
theorem op_batches : Opens Try.prog 31 (List Pl.Batch) (fun l => l.length ≤ maxLen ∧ ∀ x, x ∈ l → W64 x.kind ∧ (x.edges.length ≤ maxLen ∧ ∀ e, e ∈ x.edges → W64 e.u ∧ W64 e.v) ∧ x.asks.length ≤ maxLen ∧ ∀ e, e ∈ x.asks → W64 e.kind ∧ W64 e.u ∧ W64 e.v) (fun l => [.seq false (l.map (batchC false false))]) := opens_slice Try.underlying31 (of_decide_eq_true (by kernel_rfl)) op_batch
theorem op_u8 : Opens Try.prog 5 Int (fun n => (Lit.int .u8 n).wf = true) (fun n => [.lit (.int .u8 n)]) := opens_int Try.underlying5
theorem op_bytes : Opens Try.prog 22 (List Int) (fun l => l.length ≤ maxLen ∧ ∀ a, a ∈ l → (Lit.int .u8 a).wf = true) (fun l => [.seq false (l.map fun n => [.lit (.int .u8 n)])]) := opens_slice Try.underlying22 (of_decide_eq_true (by kernel_rfl)) op_u8
end Go.Proofs.Ytjkkjiaeeobnkaa
end
section
namespace Go.Proofs.Ytjkkjiaeeobnkaa
open Go.ChangeShapes Go.WideShapes Go.ChangeAt Go.RowKit Go.Am
set_option maxRecDepth 100000 in
theorem wireStreams_lifted (os : Os) (started : os.Started) (H : Type) (enc : TypeId × Value → H) :
    ReturnsInHanded {} Try.checked os 6 .any (Rows.wireStreamsSpec.pre6 enc Try.prog Try.f6 Rows.wireStreamsRow.domain false) (Rows.wireStreamsSpec.post enc Try.prog Try.f6 false true false false) := by
  refine returnsInHanded_of_change (C := Try.checked) Try.own started (by kernel_rfl) Try.func6
    (ChangeSpec.witness6 (enc := enc) (C := Try.checked) false ⟨#[], #[.slice none 0 0, .slice none 0 0], []⟩ 20 (by kernel_rfl) (by kernel_rfl) (by kernel_rfl) (by kernel_rfl)) ?_
  intro W base args ds gs before hval0 hW hcnd _
  have hval : ∀ (j : Nat) t v, Try.f6.params[j]? = some t → args[j]? = some v → Value.okWide Try.prog W .any base t v := hval0
  have hW' := hW
  have hlt := hW.lt
  obtain ⟨p, q, hA0, hV, rfl, hfz, hnd⟩ := hW
  have hA : DataW.TrodAll enc Try.prog W 0 (fun _ => true) true Try.f6.params.toList args.toList ds p := hA0
  rw [Try.params6] at hA hval
  obtain ⟨v0, v1, d0, d1, p0, p1, rfl, rfl, rfl, h0, h1⟩ := trodAll_two hA
  obtain ⟨rfl, rfl⟩ := trodVars_none hV
  obtain ⟨a0, k0, r0⟩ := arg_one op_batches (okWide_one_s Try.underlying31 (hval 0 31 _ rfl rfl)) h0
  obtain ⟨a1, k1, r1⟩ := arg_one op_bytes (okWide_one_s Try.underlying22 (hval 1 22 _ rfl rfl)) h1
  clear hA0 hval0
  simp only [List.append_nil] at hW' hlt
  refine (law_calls (c_law25_WireStreams a0 a1 (fun x hx => ⟨(wf8 (k1.2 x hx)).1, Int.lt_add_one_of_le (wf8 (k1.2 x hx)).2⟩) k1.1) rfl ?_).mono fun e W' ⟨he, hB⟩ => ?_
  · intro i x hx
    match i, hx with
    | 0, hx => simp only [List.getElem?_cons_zero, Option.some.injEq] at hx; subst hx; exact r0
    | 1, hx => simp only [List.getElem?_cons_succ, List.getElem?_cons_zero, Option.some.injEq] at hx; subst hx; exact r1
    | i + 2, hx => simp at hx
  subst he
  exact ⟨_, rfl, law_post (pv := []) hW' (fun _ _ _ => trodAll_mk1 (shut_bool Try.underlying4 _))
    (fun sp hs => trodAll_mk2 (WideElems.Trod_stays Try.laidOut (by kernel_rfl) (of_decide_eq_true (by kernel_rfl)) h0 (fun x hx => hB.same (hlt x (by simp [hx]))) (fun x hx => hs x (by simp [hx]))) (WideElems.Trod_stays Try.laidOut (by kernel_rfl) (of_decide_eq_true (by kernel_rfl)) h1 (fun x hx => hB.same (hlt x (by simp [hx]))) (fun x hx => hs x (by simp [hx]))))
    (fun _ _ => rfl) (by simp) hB (ok_one (by kernel_rfl) rfl (okWide_bool_mk Try.underlying4 _))⟩
theorem wireStreams_holds : Rows.WireStreamsSaid :=
  OpenClaim.holds_of_wide 6 Try.f6 rfl rfl rfl rfl rfl rfl rfl ⟨rfl, rfl, rfl, rfl, rfl⟩ rfl rfl rfl rfl rfl (by kernel_rfl) Try.func6 (by kernel_rfl)
    (of_decide_eq_true (by kernel_rfl)) (by unfold Func.isWrapper; first | (rw [if_pos (by decide +kernel)]; kernel_rfl) | (rw [if_neg (by decide +kernel)]; exact ⟨rfl, rfl⟩))
    (fun os started H enc _ => wireStreams_lifted os started H enc)
#print axioms wireStreams_holds
end Go.Proofs.Ytjkkjiaeeobnkaa
end
