/-
  BoundRises, part 4 of 6: what the proof that the law holds at whatever arguments stands on; the last part holds the theorem. No condition.
-/
import Derived.Test.YtjkkjiaeeobnkaaBoundRisesZ3
import Derived.Test.YtjkkjiaeeobnkaaRows
section
set_option linter.unusedVariables false
namespace Go.Proofs.Ytjkkjiaeeobnkaa
open Go.Am Go.Proofs
@[reducible] def u32V (n : Int) : PV := .lit (.int .u32 n)
@[reducible] def words (c : Bool) (l : List Int) : PV := .seq c (l.map fun x => [u32V x])
@[reducible] def picksV (c : Bool) (l : List (Int × Int)) : PV := .seq c (l.map fun q => [iV q.1, iV q.2])
@[reducible] def planC (c : Bool) (p : Pl.Plan) : List PV := [iV p.grain, iV p.workers, picksV c p.picks]
@[reducible] def wayC (c : Bool) (w : Pl.Way) : List PV := [iV w.bits, iV w.block, iV w.plan.grain, iV w.plan.workers, picksV c w.plan.picks]
@[reducible] def edgeC (e : Pl.Edge) : List PV := [iV e.u, iV e.v]
@[reducible] def askC (a : Pl.Ask) : List PV := [iV a.kind, iV a.u, iV a.v]
@[reducible] def batchC (c d : Bool) (x : Pl.Batch) : List PV := [iV x.kind, .seq c (x.edges.map edgeC), .seq d (x.asks.map askC)]
theorem wr_u16 (n : Int) : IntKind.u16.wrap n = n % 65536 := by simp [IntKind.wrap, IntKind.bits, IntKind.signed]
theorem wr_u32 (n : Int) : IntKind.u32.wrap n = n % 4294967296 := by simp [IntKind.wrap, IntKind.bits, IntKind.signed]
theorem dx1 (t : Pl.Task) : taskC t = [iV t.low, iV t.high, iV t.up, iV t.wait] := rfl
theorem dx2 (l : List Int) : lV l = [.seq false (l.map fun n => [iV n])] := rfl
theorem dx3 (e : Pl.Event) : evC e = [iV e.worker, iV e.src, iV e.task, bV e.parted] := rfl
theorem dx4 (c : Bool) (p : Pl.Plan) : planC c p = [iV p.grain, iV p.workers, picksV c p.picks] := rfl
theorem dx5 (c : Bool) (l : List (Int × Int)) : picksV c l = .seq c (l.map fun q => [iV q.1, iV q.2]) := rfl
theorem dx6 (c : Bool) (w : Pl.Way) : wayC c w = [iV w.bits, iV w.block, iV w.plan.grain, iV w.plan.workers, picksV c w.plan.picks] := rfl
theorem dx7 (e : Pl.Edge) : edgeC e = [iV e.u, iV e.v] := rfl
theorem dx8 (a : Pl.Ask) : askC a = [iV a.kind, iV a.u, iV a.v] := rfl
theorem dx9 (c d : Bool) (x : Pl.Batch) : batchC c d x = [iV x.kind, .seq c (x.edges.map edgeC), .seq d (x.asks.map askC)] := rfl
theorem dx : type_of% (And.intro (And.intro (And.intro @dx1 @dx2) (And.intro @dx3 @dx4)) (And.intro (And.intro @dx5 @dx6) (And.intro @dx7 (And.intro @dx8 @dx9)))) := And.intro (And.intro (And.intro @dx1 @dx2) (And.intro @dx3 @dx4)) (And.intro (And.intro @dx5 @dx6) (And.intro @dx7 (And.intro @dx8 @dx9)))
end Go.Proofs.Ytjkkjiaeeobnkaa
end
section
set_option linter.unusedSimpArgs false
set_option linter.unusedVariables false
set_option maxRecDepth 100000
namespace Go.Proofs.Ytjkkjiaeeobnkaa
open Go.Am Go.Proofs
theorem bt107 : tBuilt Try.prog 107 = true := by kernel_rfl
theorem bt110 : tBuilt Try.prog 110 = true := by kernel_rfl
theorem bt128 : tBuilt Try.prog 128 = true := by kernel_rfl
theorem by3 : tBytes Try.prog 3 = some 8 := by kernel_rfl
theorem by4 : tBytes Try.prog 4 = some 1 := by kernel_rfl
theorem by67 : tBytes Try.prog 67 = some 24 := by kernel_rfl
theorem el104 : tEl Try.prog 104 = some 128 := by kernel_rfl
theorem el105 : tEl Try.prog 105 = some 4 := by kernel_rfl
theorem el108 : tEl Try.prog 108 = some 67 := by kernel_rfl
theorem el67 : tEl Try.prog 67 = some 3 := by kernel_rfl
theorem en105 : enters Try.prog 105 = true := by kernel_rfl
theorem en106 : enters Try.prog 106 = true := by kernel_rfl
theorem en91 : enters Try.prog 91 = true := by kernel_rfl
theorem en92 : enters Try.prog 92 = true := by kernel_rfl
theorem fl110_1 : tFld Try.prog 110 1 = some (3, 1, false) := by kernel_rfl
theorem mt130 : tMap Try.prog 130 = some (1, 3) := by kernel_rfl
theorem pl107_0 : tPlace Try.prog 107 0 = some (0, 1) := by kernel_rfl
theorem pl107_1 : tPlace Try.prog 107 1 = some (1, 1) := by kernel_rfl
theorem pl107_2 : tPlace Try.prog 107 2 = some (2, 1) := by kernel_rfl
theorem pl110_0 : tPlace Try.prog 110 0 = some (0, 3) := by kernel_rfl
theorem pl110_1 : tPlace Try.prog 110 1 = some (3, 1) := by kernel_rfl
theorem pl128_1 : tPlace Try.prog 128 1 = some (1, 1) := by kernel_rfl
theorem pl128_2 : tPlace Try.prog 128 2 = some (2, 1) := by kernel_rfl
theorem sz107 : tSz Try.prog 107 = some (true, 3) := by kernel_rfl
theorem sz108 : tSz Try.prog 108 = some (false, 1) := by kernel_rfl
theorem sz110 : tSz Try.prog 110 = some (true, 7) := by kernel_rfl
theorem sz130 : tSz Try.prog 130 = some (false, 1) := by kernel_rfl
theorem sz3 : tSz Try.prog 3 = some (false, 1) := by kernel_rfl
theorem sz67 : tSz Try.prog 67 = some (false, 1) := by kernel_rfl
theorem sz97 : tSz Try.prog 97 = some (false, 1) := by kernel_rfl
theorem tz3 : tZero Try.prog 3 = some (.lit (.int .i64 0)) := by kernel_rfl
theorem vr107 : tVar Try.prog 107 = some (true, [.seq true [], .lit (.int .i64 0), .seq true []]) := by kernel_rfl
theorem vr110 : tVar Try.prog 110 = some (true, [.seq true [], .lit (.int .i64 0), .seq true [], .seq true [], .lit (.bool false), .lit (.int .i64 0), .lit (.int .i64 0)]) := by kernel_rfl
theorem vr128 : tVar Try.prog 128 = some (true, [.lit (.int .i64 0), .lit (.int .i64 0), .lit (.int .i64 0), .lit (.int .i64 0)]) := by kernel_rfl
theorem vr130 : tVar Try.prog 130 = some (false, [.lit (.map none)]) := by kernel_rfl
theorem vr3 : tVar Try.prog 3 = some (false, [.lit (.int .i64 0)]) := by kernel_rfl
theorem vr4 : tVar Try.prog 4 = some (false, [.lit (.bool false)]) := by kernel_rfl
theorem vr67 : tVar Try.prog 67 = some (false, [.seq true []]) := by kernel_rfl
theorem vr97 : tVar Try.prog 97 = some (false, [.lit .nilFunc]) := by kernel_rfl
def LvS (g : Int) (q : List Int) (x : PV) : Prop := ∀ n, q = [n] → x = iV (Pl.cntL n g)
theorem lvS_put {g n : Int} {m : List Int → Option PV} {x : PV} (hm : ∀ q y, m q = some y → LvS g q y) (h : x = iV (Pl.cntL n g)) : ∀ q y, setM m [n] x q = some y → LvS g q y := by
  intro q y hy
  unfold setM at hy
  split at hy
  · rename_i e; simp only [Option.some.injEq] at hy; subst hy e
    intro n' e; simp only [List.cons.injEq, and_true] at e; subst e; exact h
  · exact hm q y hy
theorem lvS_get {g n : Int} {m : List Int → Option PV} {d : PV} (hm : ∀ q y, m q = some y → LvS g q y) (h : (m [n]).isSome = true) : (m [n]).getD d = iV (Pl.cntL n g) := by
  obtain ⟨x, hx⟩ := Option.isSome_iff_exists.1 h
  rw [hx]; exact hm _ _ hx n rfl
set_option maxHeartbeats 4000000 in
theorem c55 (n g : Int) : PCall Try.prog 91 [iV n, iV g] (bV (decide (Pl.cnt n g))) := by
 refine pcall_of_awp Try.func91 rfl (by simp [Try.ntmps91]) fun C hC => ?_
 refine awp_sr [] (by rw [hC]; rfl) fun k hk => ?_
 simp (maxSteps := 9^9) (disch := (try simp only [lens]); omega) only [argSl, sm, ↓amb, mark_eq, simprocAttr, dx]
 repeat refine ⟨by first | omega | (simp; done) | (unfold maxLen; omega) | (simp [maxLen]; omega) | assumption, ?_⟩
 refine hk _ ?_; clear hk k
 refine awp_test [] 4 (decide (Pl.cnt n g)) [] (by rw [hC]; rfl) (fun gd hgd k hk => ?_) ?_
 ·have g2 : gd 2 = some 7 := by rw [hgd]; rfl
  have g6 : gd 6 = some 11 := by rw [hgd]; rfl
  have g10 : gd 10 = some 15 := by rw [hgd]; rfl
  clear hgd
  simp (maxSteps := 9^9) (disch := (try simp only [lens]); omega) only [argSl, sm, ↓amb, mark_eq, simprocAttr, gcase_undef, g2, g6, g10, dx]
  repeat' first | refine hk _ _ rfl rfl rfl rfl ?_ | (refine gsplit (fun hg => ?_) (fun hg => ?_) <;> (try simp only [hbx] at hg) <;> simp (maxSteps := 9^9) (disch := (try simp only [lens]); omega) only [argSl, sm, ↓amb, mark_eq, simprocAttr, gcase_undef, g2, g6, g10, dx]) | apply And.intro | fail
  all_goals first | rfl | omega | exact (decide_eq_true (by (try simp only [Pl.cnt] at *); omega)).symm | exact (decide_eq_false (by (try simp only [Pl.cnt] at *); omega)).symm | exact decide_eq_decide.mpr (by (try simp only [Pl.cnt] at *); omega) | (refine Bool.eq_iff_iff.mpr ?_; (try simp only [Pl.cnt] at *); simp only [beq_iff_eq, bne_iff_ne, ne_eq, decide_eq_true_eq]; omega) | (refine Bool.eq_iff_iff.mpr ?_; simp only [Bool.not_eq_true', Bool.not_eq_false', decide_eq_false_iff_not, decide_eq_true_eq, beq_iff_eq, bne_iff_ne, ne_eq]; (try simp only [Pl.cnt] at *); omega) | assumption | (simp; done) | (simp [maxLen]; omega) | skip
 simp only [kp, argSl, simprocAttr, List.length_cons, List.length_nil]
 refine awp_ret ?_
 refine ret1 rfl rfl ?_
 exact .p (LeP.refl _)
set_option maxHeartbeats 4000000 in
theorem c32 (n g : Int) (hn : n ≤ 4000000000) : PCall Try.prog 105 [iV n, iV g] (.tup [workV false false (Pl.beginW n g), iV (Pl.beginE n g)]) := by
 refine pcall_of_awp Try.func105 rfl (by simp [Try.ntmps105]) fun C hC => ?_
 refine awp_sr [16] (by rw [hC]; rfl) fun k hk => ?_
 simp (maxSteps := 9^9) (disch := (try simp only [lens]); omega) only [argSl, sm, ↓amb, mark_eq, simprocAttr, vr107, dx]
 repeat refine ⟨by first | omega | (simp; done) | (unfold maxLen; omega) | (simp [maxLen]; omega) | assumption, ?_⟩
 refine hk _ ?_; clear hk k
 refine awp_seq fun k1 h1 => ?_
 refine awp_sr [16] (by rw [hC]; rfl) fun k hk => ?_
 simp (maxSteps := 9^9) (disch := (try simp only [lens]); omega) only [argSl, sm, ↓amb, mark_eq, simprocAttr, en91, dx]
 repeat refine ⟨by first | omega | (simp; done) | (unfold maxLen; omega) | (simp [maxLen]; omega) | assumption, ?_⟩
 refine callK_p (c55 _ _) rfl ?_
 simp (maxSteps := 9^9) (disch := (try simp only [lens]); omega) only [argSl, sm, ↓amb, mark_eq, simprocAttr, en91, dx]
 repeat refine ⟨by first | omega | (simp; done) | (unfold maxLen; omega) | (simp [maxLen]; omega) | assumption, ?_⟩
 refine hk _ ?_; clear hk k
 refine awp_cond rfl (fun hb => ?_) (fun hb => ?_)
 ·try simp only [hbx] at hb
  refine awp_sr [16] (by rw [hC]; rfl) fun k hk => ?_
  simp (maxSteps := 9^9) (disch := (try simp only [lens]); omega) only [argSl, sm, ↓amb, mark_eq, simprocAttr, vr107, bt107, sz107, dx]
  repeat refine ⟨by first | omega | (simp; done) | (unfold maxLen; omega) | (simp [maxLen]; omega) | assumption, ?_⟩
  refine hk _ ?_; clear hk k
  refine awp_ret ?_
  have e1 : Pl.beginW n g = ⟨[], 0, []⟩ := by rw [Pl.beginW, if_neg hb]
  have e2 : Pl.beginE n g = 1 := by rw [Pl.beginE, if_neg hb]
  rw [e1, e2]
  refine retl rfl rfl ⟨retc rfl sz107 ?_, rett rfl ?_, trivial⟩
  simp (maxSteps := 9^9) (disch := (try simp only [lens]); omega) only [argSl, sm, ↓amb, mark_eq, simprocAttr, sz107, dx]
  ·exact .p (LeP.agg (.cons (LeP.seq _ _) (.cons (LeP.refl _) (.cons (LeP.seq _ _) .nil))))
  ·exact .p (LeP.refl _)
 ·try simp only [hbx] at hb
  refine awp_skip ?_
  refine h1 _ ?_; clear h1 k1
  have hb1 := hb
  simp only [Pl.cnt] at hb1
  refine awp_sr [16] (by rw [hC]; rfl) fun k hk => ?_
  simp (maxSteps := 9^9) (disch := (try simp only [lens]); omega) only [argSl, sm, ↓amb, mark_eq, simprocAttr, vr128, bt128, pl128_1, pl128_2, el104, el105, by4, vr4, vr107, bt107, pl107_0, pl107_1, pl107_2, sz107, dx]
  repeat refine ⟨by first | omega | (simp; done) | (unfold maxLen; omega) | (simp [maxLen]; omega) | assumption, ?_⟩
  refine hk _ ?_; clear hk k
  refine awp_ret ?_
  have e1 : Pl.beginW n g = ⟨[⟨0, n, -1, 0⟩], g, List.replicate n.toNat false⟩ := by rw [Pl.beginW, if_pos hb]
  have e2 : Pl.beginE n g = 0 := by rw [Pl.beginE, if_pos hb]
  rw [e1, e2]
  refine retl rfl rfl ⟨retc rfl sz107 ?_, rett rfl ?_, trivial⟩
  simp (maxSteps := 9^9) (disch := (try simp only [lens]); omega) only [argSl, sm, ↓amb, mark_eq, simprocAttr, sz107, dx]
  ·exact .agg_cons (.p (LeP.sq rfl)) (.agg_cons (.p (LeP.refl _)) (.agg_cons (.ownE rfl (by simp)) (.agg_nil)))
  ·exact .p (LeP.refl _)
set_option maxHeartbeats 4000000 in
theorem c33 (n g : Int) (hn : n ≤ 4000000000) : PCall Try.prog 106 [iV n, iV g] (.tup [workV false false (Pl.beginW n g), iV (Pl.beginE n g)]) := by
 refine pcall_of_awp Try.func106 rfl (by simp [Try.ntmps106]) fun C hC => ?_
 refine awp_sr [26] (by rw [hC]; rfl) fun k hk => ?_
 simp (maxSteps := 9^9) (disch := (try simp only [lens]); omega) only [argSl, sm, ↓amb, mark_eq, simprocAttr, vr107, dx]
 repeat refine ⟨by first | omega | (simp; done) | (unfold maxLen; omega) | (simp [maxLen]; omega) | assumption, ?_⟩
 refine hk _ ?_; clear hk k
 refine awp_seq fun k1 h1 => ?_
 refine awp_test [26] 19 (decide (¬ Pl.cnt n g)) [0, 1, 4, 5] (by rw [hC]; rfl) (fun gd hgd k hk => ?_) ?_
 ·have g2 : gd 2 = some 8 := by rw [hgd]; rfl
  have g6 : gd 6 = some 12 := by rw [hgd]; rfl
  have g10 : gd 10 = some 16 := by rw [hgd]; rfl
  clear hgd
  simp (maxSteps := 9^9) (disch := (try simp only [lens]); omega) only [argSl, sm, ↓amb, mark_eq, simprocAttr, gcase_undef, g2, g6, g10, dx]
  repeat' first | refine hk _ _ rfl rfl rfl rfl ?_ | (refine gsplit (fun hg => ?_) (fun hg => ?_) <;> (try simp only [hbx] at hg) <;> simp (maxSteps := 9^9) (disch := (try simp only [lens]); omega) only [argSl, sm, ↓amb, mark_eq, simprocAttr, gcase_undef, g2, g6, g10, dx]) | apply And.intro | fail
  all_goals first | rfl | omega | exact (decide_eq_true (by (try simp only [Pl.cnt] at *); omega)).symm | exact (decide_eq_false (by (try simp only [Pl.cnt] at *); omega)).symm | exact decide_eq_decide.mpr (by (try simp only [Pl.cnt] at *); omega) | (refine Bool.eq_iff_iff.mpr ?_; (try simp only [Pl.cnt] at *); simp only [beq_iff_eq, bne_iff_ne, ne_eq, decide_eq_true_eq]; omega) | (refine Bool.eq_iff_iff.mpr ?_; simp only [Bool.not_eq_true', Bool.not_eq_false', decide_eq_false_iff_not, decide_eq_true_eq, beq_iff_eq, bne_iff_ne, ne_eq]; (try simp only [Pl.cnt] at *); omega) | assumption | (simp; done) | (simp [maxLen]; omega) | skip
 simp only [kp, argSl, simprocAttr, List.length_cons, List.length_nil]
 refine awp_cond rfl (fun hb => ?_) (fun hb => ?_)
 ·try simp only [hbx] at hb
  refine awp_sr [26] (by rw [hC]; rfl) fun k hk => ?_
  simp (maxSteps := 9^9) (disch := (try simp only [lens]); omega) only [argSl, sm, ↓amb, mark_eq, simprocAttr, vr107, bt107, sz107, dx]
  repeat refine ⟨by first | omega | (simp; done) | (unfold maxLen; omega) | (simp [maxLen]; omega) | assumption, ?_⟩
  refine hk _ ?_; clear hk k
  refine awp_ret ?_
  have e1 : Pl.beginW n g = ⟨[], 0, []⟩ := by rw [Pl.beginW, if_neg hb]
  have e2 : Pl.beginE n g = 1 := by rw [Pl.beginE, if_neg hb]
  rw [e1, e2]
  refine retl rfl rfl ⟨retc rfl sz107 ?_, rett rfl ?_, trivial⟩
  simp (maxSteps := 9^9) (disch := (try simp only [lens]); omega) only [argSl, sm, ↓amb, mark_eq, simprocAttr, sz107, dx]
  ·exact .p (LeP.agg (.cons (LeP.seq _ _) (.cons (LeP.refl _) (.cons (LeP.seq _ _) .nil))))
  ·exact .p (LeP.refl _)
 ·try simp only [hbx] at hb
  refine awp_skip ?_
  refine h1 _ ?_; clear h1 k1
  have hb1 := hb
  simp only [Pl.cnt] at hb1
  refine awp_sr [26] (by rw [hC]; rfl) fun k hk => ?_
  simp (maxSteps := 9^9) (disch := (try simp only [lens]); omega) only [argSl, sm, ↓amb, mark_eq, simprocAttr, vr128, bt128, pl128_1, pl128_2, el104, el105, by4, vr4, vr107, bt107, pl107_0, pl107_1, pl107_2, sz107, dx]
  repeat refine ⟨by first | omega | (simp; done) | (unfold maxLen; omega) | (simp [maxLen]; omega) | assumption, ?_⟩
  refine hk _ ?_; clear hk k
  refine awp_ret ?_
  have e1 : Pl.beginW n g = ⟨[⟨0, n, -1, 0⟩], g, List.replicate n.toNat false⟩ := by rw [Pl.beginW, if_pos hb]
  have e2 : Pl.beginE n g = 0 := by rw [Pl.beginE, if_pos hb]
  rw [e1, e2]
  refine retl rfl rfl ⟨retc rfl sz107 ?_, rett rfl ?_, trivial⟩
  simp (maxSteps := 9^9) (disch := (try simp only [lens]); omega) only [argSl, sm, ↓amb, mark_eq, simprocAttr, sz107, dx]
  ·exact .agg_cons (.p (LeP.sq rfl)) (.agg_cons (.p (LeP.refl _)) (.agg_cons (.ownE rfl (by simp)) (.agg_nil)))
  ·exact .p (LeP.refl _)
set_option maxHeartbeats 4000000 in
theorem c56 (g : Int) : ∀ (k : Nat) (n : Int), n ≤ k → Pl.cnt n g → HCall Try.prog 92 (.p (iV n) :: [.ptr 7 1 0 0, .ptr 15 1 0 0, .ptr 23 1 0 0]) [(7, .row 1 [[.p (iV g)]]), (15, .row 1 [[.mp 31]]), (23, .row 1 [[.fn 92 [.ptr 7 1 0 0, .ptr 15 1 0 0, .ptr 23 1 0 0]]]), (31, .mapS 1 (LvS g))] (.p (iV (Pl.cntL n g))) [(7, .row 1 [[.p (iV g)]]), (15, .row 1 [[.mp 31]]), (23, .row 1 [[.fn 92 [.ptr 7 1 0 0, .ptr 15 1 0 0, .ptr 23 1 0 0]]]), (31, .mapS 1 (LvS g))] := by
 intro k; induction k using Nat.strongRecOn; rename_i k ih; intro n hnk hc; have hcc := hc; simp only [Pl.cnt] at hcc
 refine hcall_of_awp Try.func92 rfl (by simp [Try.ntmps92]) fun C hC => ?_
 refine awp_sr [] (by rw [hC]; rfl) fun k hk => ?_
 simp (maxSteps := 9^9) (disch := (try simp only [lens]); omega) only [argSl, sm, ↓amb, mark_eq, simprocAttr, dx, en92]
 repeat refine ⟨by first | omega | (simp; done) | (unfold maxLen; omega) | (simp [maxLen]; omega) | assumption, ?_⟩
 refine hk _ ?_; clear hk k
 refine awp_seq fun k1 h1 => ?_
 refine awp_sr [] (by rw [hC]; rfl) fun k hk => ?_
 simp (maxSteps := 9^9) (disch := (try simp only [lens]); omega) only [argSl, sm, ↓amb, mark_eq, simprocAttr, sz3, dx, en92]
 repeat refine ⟨by first | omega | (simp; done) | (unfold maxLen; omega) | (simp [maxLen]; omega) | assumption, ?_⟩
 refine hk _ ?_; clear hk k
 refine awp_cond rfl (fun hb => ?_) (fun hb => ?_)
 ·try simp only [hbx] at hb
  refine awp_sr [] (by rw [hC]; rfl) fun k hk => ?_
  simp (maxSteps := 9^9) (disch := (try simp only [lens]); omega) only [argSl, sm, ↓amb, mark_eq, simprocAttr, dx, en92]
  repeat refine ⟨by first | omega | (simp; done) | (unfold maxLen; omega) | (simp [maxLen]; omega) | assumption, ?_⟩
  refine hk _ ?_; clear hk k
  refine awp_ret ?_
  refine reth1 rfl rfl ?_
  exact le_of [] (by rfl) (by rfl) ⟨⟨_, rfl, .p (.of_eq (by rw [Pl.cntL_base hc hb]))⟩, trivial⟩ ⟨⟨_, rfl, _, rfl, .one (.cons (.p (.refl _)) .nil)⟩, ⟨_, rfl, _, rfl, .one (.cons (.mp rfl) .nil)⟩, ⟨_, rfl, _, rfl, .one (.cons (.fn rfl (LeRow.cons (.ptr rfl) (LeRow.cons (.ptr rfl) (LeRow.cons (.ptr rfl) .nil))).2) .nil)⟩, ⟨_, rfl, _, rfl, .reflS⟩, trivial⟩
 ·try simp only [hbx] at hb
  refine awp_skip ?_
  refine h1 _ ?_; clear h1 k1
  have hgn : g < n := by omega
  obtain ⟨hc1, hc2⟩ := Pl.cnt_half hc hgn
  have l1 := Pl.cntL_le hc1
  have l2 := Pl.cntL_le hc2
  have l3 := Pl.cntL_rec hc hgn
  refine awp_openS 31 rfl fun m hS => ?_
  simp only [del]
  refine awp_sr [] (by rw [hC]; rfl) fun k hk => ?_
  simp (maxSteps := 9^9) (disch := (try simp only [lens]); omega) only [argSl, sm, ↓amb, mark_eq, simprocAttr, sz130, mt130, tz3, dx, en92]
  repeat refine ⟨by first | omega | (simp; done) | (unfold maxLen; omega) | (simp [maxLen]; omega) | assumption, ?_⟩
  refine hk _ ?_; clear hk k
  refine awp_seq fun k2 h2 => ?_
  refine awp_sr [] (by rw [hC]; rfl) fun k hk => ?_
  simp (maxSteps := 9^9) (disch := (try simp only [lens]); omega) only [argSl, sm, ↓amb, mark_eq, simprocAttr, dx, en92]
  repeat refine ⟨by first | omega | (simp; done) | (unfold maxLen; omega) | (simp [maxLen]; omega) | assumption, ?_⟩
  refine hk _ ?_; clear hk k
  refine awp_cond rfl (fun hb => ?_) (fun hb => ?_)
  ·try simp only [hbx] at hb
   refine awp_closeS 31 (LvS g) rfl hS ?_
   refine awp_sd [] ⟨[0, 0, 2, 7, 0, 0, 0, 64, 224, 511, 1023, 2047], [0, 4], [], [], some []⟩ (by rw [hC]; rfl) (by kernel_rfl) (by kernel_rfl) fun k hk => ?_
   simp (maxSteps := 9^9) (disch := (try simp only [lens]); omega) only [argSl, sm, ↓amb, mark_eq, simprocAttr, sz97, dx, en92]
   repeat refine ⟨by first | omega | (simp; done) | (unfold maxLen; omega) | (simp [maxLen]; omega) | assumption, ?_⟩
   refine callK_h (ih (n / 2).toNat (by omega) _ (by omega) hc1) [7, 15, 23, 31] [7, 15, 23, 31] (by first | rfl | (simp only [hm]; done)) (by first | rfl | (simp [namesOk, lkp]; done)) ?_ ?_ ?_ ?_ ?_ ?_ ?_
   (iterate 6 (focus (first | trivial | (intro n hn; cases hn; done) | (simp (maxSteps := 9^9) (disch := (try simp only [lens]); omega) only [argSl, sm, ↓amb, mark_eq, simprocAttr, sz97, dx, en92, hmx, List.filter_cons, Nat.reduceBNe, imp_self, implies_true]; done))))
   simp (maxSteps := 9^9) (disch := (try simp only [lens]); omega) only [argSl, sm, ↓amb, mark_eq, simprocAttr, sz97, dx, en92, hm, List.filter_cons, List.filter_nil, Nat.reduceBNe, Option.map_none]
   repeat refine ⟨by first | omega | (simp; done) | (unfold maxLen; omega) | (simp [maxLen]; omega) | assumption, ?_⟩
   refine callK_h (ih (n - n / 2).toNat (by omega) _ (by omega) hc2) [7, 15, 23, 31] [7, 15, 23, 31] (by first | rfl | (simp only [hm]; done)) (by first | rfl | (simp [namesOk, lkp]; done)) ?_ ?_ ?_ ?_ ?_ ?_ ?_
   (iterate 6 (focus (first | trivial | (intro n hn; cases hn; done) | (simp (maxSteps := 9^9) (disch := (try simp only [lens]); omega) only [argSl, sm, ↓amb, mark_eq, simprocAttr, sz97, dx, en92, hmx, List.filter_cons, Nat.reduceBNe, imp_self, implies_true]; done))))
   simp (maxSteps := 9^9) (disch := (try simp only [lens]); omega) only [argSl, sm, ↓amb, mark_eq, simprocAttr, sz97, dx, en92, hm, List.filter_cons, List.filter_nil, Nat.reduceBNe, Option.map_none]
   repeat refine ⟨by first | omega | (simp; done) | (unfold maxLen; omega) | (simp [maxLen]; omega) | assumption, ?_⟩
   refine hk _ ?_; clear hk k
   refine awp_openS 31 rfl fun m2 hS2 => ?_
   refine awp_region [] (by rw [hC]; rfl) fun k hk => ?_
   simp (maxSteps := 9^9) (disch := (try simp only [lens]); omega) only [argSl, sm, ↓amb, mark_eq, simprocAttr, sz130, mt130, dx, en92]
   repeat refine ⟨by first | omega | (simp; done) | (unfold maxLen; omega) | (simp [maxLen]; omega) | assumption, ?_⟩
   refine hk _ ?_; clear hk k
   refine h2 _ ?_; clear h2 k2
   refine awp_sr [] (by rw [hC]; rfl) fun k hk => ?_
   simp (maxSteps := 9^9) (disch := (try simp only [lens]); omega) only [argSl, sm, ↓amb, mark_eq, simprocAttr, dx, en92]
   repeat refine ⟨by first | omega | (simp; done) | (unfold maxLen; omega) | (simp [maxLen]; omega) | assumption, ?_⟩
   refine hk _ ?_; clear hk k
   refine awp_ret ?_
   refine reth1 rfl rfl ?_
   exact le_of [] (by rfl) (by rfl) ⟨⟨_, rfl, .p (.of_eq (by rw [l3]))⟩, trivial⟩ ⟨⟨_, rfl, _, rfl, .one (.cons (.p (.refl _)) .nil)⟩, ⟨_, rfl, _, rfl, .one (.cons (.mp rfl) .nil)⟩, ⟨_, rfl, _, rfl, .one (.cons (.fn rfl (LeRow.cons (.ptr rfl) (LeRow.cons (.ptr rfl) (LeRow.cons (.ptr rfl) .nil))).2) .nil)⟩, ⟨_, rfl, _, rfl, .toS (lvS_put hS2 (by rw [l3]))⟩, trivial⟩
  ·try simp only [hbx] at hb
   refine awp_skip ?_
   refine h2 _ ?_; clear h2 k2
   refine awp_sr [] (by rw [hC]; rfl) fun k hk => ?_
   simp (maxSteps := 9^9) (disch := (try simp only [lens]); omega) only [argSl, sm, ↓amb, mark_eq, simprocAttr, dx, en92]
   repeat refine ⟨by first | omega | (simp; done) | (unfold maxLen; omega) | (simp [maxLen]; omega) | assumption, ?_⟩
   refine hk _ ?_; clear hk k
   refine awp_ret ?_
   refine reth1 rfl rfl ?_
   exact le_of [] (by rfl) (by rfl) ⟨⟨_, rfl, .p (.of_eq (lvS_get hS hb))⟩, trivial⟩ ⟨⟨_, rfl, _, rfl, .one (.cons (.p (.refl _)) .nil)⟩, ⟨_, rfl, _, rfl, .one (.cons (.mp rfl) .nil)⟩, ⟨_, rfl, _, rfl, .one (.cons (.fn rfl (LeRow.cons (.ptr rfl) (LeRow.cons (.ptr rfl) (LeRow.cons (.ptr rfl) .nil))).2) .nil)⟩, ⟨_, rfl, _, rfl, .toS hS⟩, trivial⟩
set_option maxHeartbeats 4000000 in
theorem c34 (n g : Int) : PCall Try.prog 71 [iV n, iV g] (.tup [iV (Pl.cntT n g), iV (Pl.cntL n g)]) := by
 refine pcall_of_awp Try.func71 rfl (by simp [Try.ntmps71]) fun C hC => ?_
 refine awp_sr [] (by rw [hC]; rfl) fun k hk => ?_
 simp (maxSteps := 9^9) (disch := (try simp only [lens]); omega) only [argSl, sm, ↓amb, mark_eq, simprocAttr, dx, en92]
 repeat refine ⟨by first | omega | (simp; done) | (unfold maxLen; omega) | (simp [maxLen]; omega) | assumption, ?_⟩
 refine hk _ ?_; clear hk k
 refine awp_seq fun k1 h1 => ?_
 refine awp_sr [] (by rw [hC]; rfl) fun k hk => ?_
 simp (maxSteps := 9^9) (disch := (try simp only [lens]); omega) only [argSl, sm, ↓amb, mark_eq, simprocAttr, sz3, en91, dx, en92]
 repeat refine ⟨by first | omega | (simp; done) | (unfold maxLen; omega) | (simp [maxLen]; omega) | assumption, ?_⟩
 refine callK_p (c55 _ _) rfl ?_
 simp (maxSteps := 9^9) (disch := (try simp only [lens]); omega) only [argSl, sm, ↓amb, mark_eq, simprocAttr, sz3, en91, dx, en92]
 repeat refine ⟨by first | omega | (simp; done) | (unfold maxLen; omega) | (simp [maxLen]; omega) | assumption, ?_⟩
 refine hk _ ?_; clear hk k
 refine awp_cond rfl (fun hb => ?_) (fun hb => ?_)
 ·try simp only [hbx] at hb
  refine awp_sr [] (by rw [hC]; rfl) fun k hk => ?_
  simp (maxSteps := 9^9) (disch := (try simp only [lens]); omega) only [argSl, sm, ↓amb, mark_eq, simprocAttr, dx, en92]
  repeat refine ⟨by first | omega | (simp; done) | (unfold maxLen; omega) | (simp [maxLen]; omega) | assumption, ?_⟩
  refine hk _ ?_; clear hk k
  refine awp_ret ?_
  obtain ⟨e1, e2⟩ := Pl.cntT_no hb
  rw [e1, e2]
  refine ret2 rfl rfl rfl ?_ ?_
  ·exact .p (LeP.refl _)
  ·exact .p (LeP.refl _)
 ·try simp only [hbx] at hb
  refine awp_skip ?_
  refine h1 _ ?_; clear h1 k1
  have hc := hb
  have l1 := Pl.cntL_le hc
  have t1 := Pl.cntT_eq hc
  have hcc := hc
  simp only [Pl.cnt] at hcc
  refine awp_sr [] (by rw [hC]; rfl) fun k hk => ?_
  simp (maxSteps := 9^9) (disch := (try simp only [lens]); omega) only [argSl, sm, ↓amb, mark_eq, simprocAttr, mt130, vr130, sz130, dx, en92]
  repeat refine ⟨by first | omega | (simp; done) | (unfold maxLen; omega) | (simp [maxLen]; omega) | assumption, ?_⟩
  refine hk _ ?_; clear hk k
  refine awp_sr [] (by rw [hC]; rfl) fun k hk => ?_
  simp (maxSteps := 9^9) (disch := (try simp only [lens]); omega) only [argSl, sm, ↓amb, mark_eq, simprocAttr, vr97, dx, en92]
  repeat refine ⟨by first | omega | (simp; done) | (unfold maxLen; omega) | (simp [maxLen]; omega) | assumption, ?_⟩
  refine hk _ ?_; clear hk k
  refine awp_sr [] (by rw [hC]; rfl) fun k hk => ?_
  simp (maxSteps := 9^9) (disch := (try simp only [lens]); omega) only [argSl, sm, ↓amb, mark_eq, simprocAttr, sz97, dx, en92]
  repeat refine ⟨by first | omega | (simp; done) | (unfold maxLen; omega) | (simp [maxLen]; omega) | assumption, ?_⟩
  refine hk _ ?_; clear hk k
  refine awp_closeS 56 (LvS g) rfl (fun q x h => by cases h) ?_
  refine awp_sr [] (by rw [hC]; rfl) fun k hk => ?_
  simp (maxSteps := 9^9) (disch := (try simp only [lens]); omega) only [argSl, sm, ↓amb, mark_eq, simprocAttr, sz97, dx, en92]
  repeat refine ⟨by first | omega | (simp; done) | (unfold maxLen; omega) | (simp [maxLen]; omega) | assumption, ?_⟩
  refine callK_h (c56 g n.toNat n (by omega) hc) [0, 64, 80, 56] [7, 15, 23, 31] (by first | rfl | (simp only [hm]; done)) (by first | rfl | (simp [namesOk, lkp]; done)) ?_ ?_ ?_ ?_ ?_ ?_ ?_
  (iterate 6 (focus (first | trivial | (intro n hn; cases hn; done) | (simp (maxSteps := 9^9) (disch := (try simp only [lens]); omega) only [argSl, sm, ↓amb, mark_eq, simprocAttr, sz97, dx, en92, hmx, List.filter_cons, Nat.reduceBNe, imp_self, implies_true]; done))))
  simp (maxSteps := 9^9) (disch := (try simp only [lens]); omega) only [argSl, sm, ↓amb, mark_eq, simprocAttr, sz97, dx, en92, hm, List.filter_cons, List.filter_nil, Nat.reduceBNe, Option.map_none]
  repeat refine ⟨by first | omega | (simp; done) | (unfold maxLen; omega) | (simp [maxLen]; omega) | assumption, ?_⟩
  refine hk _ ?_; clear hk k
  refine awp_sr [] (by rw [hC]; rfl) fun k hk => ?_
  simp (maxSteps := 9^9) (disch := (try simp only [lens]); omega) only [argSl, sm, ↓amb, mark_eq, simprocAttr, dx, en92]
  repeat refine ⟨by first | omega | (simp; done) | (unfold maxLen; omega) | (simp [maxLen]; omega) | assumption, ?_⟩
  refine hk _ ?_; clear hk k
  refine awp_ret ?_
  refine ret2 rfl rfl rfl ?_ ?_
  ·exact .p (LeP.of_eq (by rw [t1]))
  ·exact .p (LeP.refl _)
set_option maxHeartbeats 4000000 in
theorem c42 (n g p : Int) (hn : n ≤ 4000000000) : PCall Try.prog 87 [iV n, iV g, iV p] (.tup [.agg (crewC (Pl.crewBegin n g p).1), iV (Pl.crewBegin n g p).2]) := by
 refine pcall_of_awp Try.func87 rfl (by simp [Try.ntmps87]) fun C hC => ?_
 refine awp_le (le_keep [0, 1, 2]) ?_
 simp only [kp, argSl, simprocAttr]
 refine awp_sr [29] (by rw [hC]; rfl) fun k hk => ?_
 simp (maxSteps := 9^9) (disch := (try simp only [lens]); omega) only [argSl, sm, ↓amb, mark_eq, simprocAttr, vr110, taskC, Pl.rep_get0, dx]
 repeat refine ⟨by first | omega | (simp; done) | (unfold maxLen; omega) | (simp [maxLen]; omega) | assumption, ?_⟩
 refine hk _ ?_; clear hk k
 refine awp_seq fun k1 h1 => ?_
 refine awp_test [29] 16 (decide (p < 1 ∨ 8 < p)) [0, 1, 2, 6, 7] (by rw [hC]; rfl) (fun gd hgd k hk => ?_) ?_
 ·have g2 : gd 2 = some 13 := by rw [hgd]; rfl
  clear hgd
  simp (maxSteps := 9^9) (disch := (try simp only [lens]); omega) only [argSl, sm, ↓amb, mark_eq, simprocAttr, gcase_undef, g2, taskC, Pl.rep_get0, dx]
  repeat' first | refine hk _ _ rfl rfl rfl rfl ?_ | (refine gsplit (fun hg => ?_) (fun hg => ?_) <;> (try simp only [hbx] at hg) <;> simp (maxSteps := 9^9) (disch := (try simp only [lens]); omega) only [argSl, sm, ↓amb, mark_eq, simprocAttr, gcase_undef, g2, taskC, Pl.rep_get0, dx]) | apply And.intro | fail
  all_goals first | rfl | omega | exact (decide_eq_true (by omega)).symm | exact (decide_eq_false (by omega)).symm | exact decide_eq_decide.mpr (by omega) | (refine Bool.eq_iff_iff.mpr ?_; simp only [beq_iff_eq, bne_iff_ne, ne_eq, decide_eq_true_eq]; omega) | (refine Bool.eq_iff_iff.mpr ?_; simp only [Bool.not_eq_true', Bool.not_eq_false', decide_eq_false_iff_not, decide_eq_true_eq, beq_iff_eq, bne_iff_ne, ne_eq]; omega) | assumption | (simp; done) | (simp [maxLen]; omega) | skip
 simp only [kp, argSl, simprocAttr, List.length_cons, List.length_nil]
 refine awp_cond rfl (fun hb => ?_) (fun hb => ?_)
 ·try simp only [hbx] at hb
  refine awp_le (le_keep [6]) ?_
  simp only [kp, argSl, simprocAttr]
  refine awp_sr [29] (by rw [hC]; rfl) fun k hk => ?_
  simp (maxSteps := 9^9) (disch := (try simp only [lens]); omega) only [argSl, sm, ↓amb, mark_eq, simprocAttr, vr110, bt110, sz110, taskC, Pl.rep_get0, dx]
  repeat refine ⟨by first | omega | (simp; done) | (unfold maxLen; omega) | (simp [maxLen]; omega) | assumption, ?_⟩
  refine hk _ ?_; clear hk k
  refine awp_ret ?_
  rw [Pl.begin_1 hb]
  refine retl rfl rfl ⟨retc rfl sz110 ?_, rett rfl ?_, trivial⟩
  simp (maxSteps := 9^9) (disch := (try simp only [lens]); omega) only [argSl, sm, ↓amb, mark_eq, simprocAttr, sz110, taskC, Pl.rep_get0, dx]
  ·exact .p (LeP.agg (.cons (LeP.seq _ _) (.cons (LeP.refl _) (.cons (LeP.seq _ _) (.cons (LeP.seq _ _) (.cons (LeP.refl _) (.cons (LeP.refl _) (.cons (LeP.refl _) .nil))))))))
  ·exact .p (LeP.refl _)
 ·try simp only [hbx] at hb
  refine awp_skip ?_
  refine h1 _ ?_; clear h1 k1
  refine awp_le (le_keep [0, 1, 2, 6]) ?_
  simp only [kp, argSl, simprocAttr]
  have hp := hb
  refine awp_sr [29] (by rw [hC]; rfl) fun k hk => ?_
  simp (maxSteps := 9^9) (disch := (try simp only [lens]); omega) only [argSl, sm, ↓amb, mark_eq, simprocAttr, en105, vr107, sz107, taskC, Pl.rep_get0, dx]
  repeat refine ⟨by first | omega | (simp; done) | (unfold maxLen; omega) | (simp [maxLen]; omega) | assumption, ?_⟩
  refine callK_p (c32 _ _ (by omega)) rfl ?_
  simp (maxSteps := 9^9) (disch := (try simp only [lens]); omega) only [argSl, sm, ↓amb, mark_eq, simprocAttr, en105, vr107, sz107, taskC, Pl.rep_get0, dx]
  repeat refine ⟨by first | omega | (simp; done) | (unfold maxLen; omega) | (simp [maxLen]; omega) | assumption, ?_⟩
  refine hk _ ?_; clear hk k
  refine awp_seq fun k2 h2 => ?_
  refine awp_le (le_keep [2, 6, 7, 8, 9]) ?_
  simp only [kp, argSl, simprocAttr]
  refine awp_sr [29] (by rw [hC]; rfl) fun k hk => ?_
  simp (maxSteps := 9^9) (disch := (try simp only [lens]); omega) only [argSl, sm, ↓amb, mark_eq, simprocAttr, taskC, Pl.rep_get0, dx]
  repeat refine ⟨by first | omega | (simp; done) | (unfold maxLen; omega) | (simp [maxLen]; omega) | assumption, ?_⟩
  refine hk _ ?_; clear hk k
  refine awp_cond rfl (fun hb => ?_) (fun hb => ?_)
  ·try simp only [hbx] at hb
   refine awp_le (le_keep [6, 9]) ?_
   simp only [kp, argSl, simprocAttr]
   refine awp_sr [29] (by rw [hC]; rfl) fun k hk => ?_
   simp (maxSteps := 9^9) (disch := (try simp only [lens]); omega) only [argSl, sm, ↓amb, mark_eq, simprocAttr, vr110, bt110, sz110, taskC, Pl.rep_get0, dx]
   repeat refine ⟨by first | omega | (simp; done) | (unfold maxLen; omega) | (simp [maxLen]; omega) | assumption, ?_⟩
   refine hk _ ?_; clear hk k
   refine awp_ret ?_
   obtain ⟨e1, e2⟩ := Pl.begin_2 hp hb
   rw [e1]
   refine retl rfl rfl ⟨retc rfl sz110 ?_, rett rfl ?_, trivial⟩
   simp (maxSteps := 9^9) (disch := (try simp only [lens]); omega) only [argSl, sm, ↓amb, mark_eq, simprocAttr, sz110, taskC, Pl.rep_get0, dx]
   ·exact .p (LeP.agg (.cons (LeP.seq _ _) (.cons (LeP.refl _) (.cons (LeP.seq _ _) (.cons (LeP.seq _ _) (.cons (LeP.refl _) (.cons (LeP.refl _) (.cons (LeP.refl _) .nil))))))))
   ·exact .p (LeP.of_eq (by rw [e2]))
  ·try simp only [hbx] at hb
   refine awp_skip ?_
   refine h2 _ ?_; clear h2 k2
   refine awp_le (le_keep [2, 6, 8]) ?_
   simp only [kp, argSl, simprocAttr]
   have hbe := hb
   refine awp_sr [29] (by rw [hC]; rfl) fun k hk => ?_
   simp (maxSteps := 9^9) (disch := (try simp only [lens]); omega) only [argSl, sm, ↓amb, mark_eq, simprocAttr, el108, by67, vr67, taskC, Pl.rep_get0, dx]
   repeat refine ⟨by first | omega | (simp; done) | (unfold maxLen; omega) | (simp [maxLen]; omega) | assumption, ?_⟩
   refine hk _ ?_; clear hk k
   refine awp_le (le_keep [6, 8, 10]) ?_
   simp only [kp, argSl, simprocAttr]
   refine awp_sr [29] (by rw [hC]; rfl) fun k hk => ?_
   simp (maxSteps := 9^9) (disch := (try simp only [lens]); omega) only [argSl, sm, ↓amb, mark_eq, simprocAttr, el108, sz67, el67, vr3, by3, taskC, Pl.rep_get0, dx]
   repeat refine ⟨by first | omega | (simp; done) | (unfold maxLen; omega) | (simp [maxLen]; omega) | assumption, ?_⟩
   refine hk _ ?_; clear hk k
   refine awp_le (le_keep [6, 8, 10]) ?_
   simp only [kp, argSl, simprocAttr]
   refine awp_le (show LE _ (⟨[(6, (.ptr 0 7 0 0)), (8, (.ptr 1 3 0 0)), (10, (.own 2))], [(0, (.row 7 [[.p (.seq true []), .p (iV 0), .p (.seq true []), .p (.seq true []), .p (bV false), .p (iV 0), .p (iV 0)]])), (1, (.row 3 [[.p (.seq false ((Pl.beginW n g).ts.map taskC)), .p (iV (Pl.beginW n g).grain), .p (.seq false ((Pl.beginW n g).done.map fun b => [bV b]))]])), (2, (.row 1 (lift ((Pl.dq0 p).map lV))))], 1⟩ : LS) from le_of [(0, _), (1, _), (2, _)] (by rfl) (by rfl) ⟨⟨_, rfl, .ptr rfl⟩, ⟨_, rfl, .ptr rfl⟩, ⟨_, rfl, .own rfl⟩, trivial⟩ ⟨⟨_, rfl, _, rfl, .one (.cons (.p (.refl _)) (.cons (.p (.refl _)) (.cons (.p (.refl _)) (.cons (.p (.refl _)) (.cons (.p (.refl _)) (.cons (.p (.refl _)) (.cons (.p (.refl _)) (.nil))))))))⟩, ⟨_, rfl, _, rfl, .one (.cons (.p (.refl _)) (.cons (.p (.refl _)) (.cons (.p (.refl _)) .nil)))⟩, ⟨_, rfl, _, rfl, Pl.leB_dq0 (by omega)⟩, trivial⟩) ?_
   refine awp_sr [29] (by rw [hC]; rfl) fun k hk => ?_
   simp (maxSteps := 9^9) (disch := (try simp only [lens]); omega) only [argSl, sm, ↓amb, mark_eq, simprocAttr, sz107, vr110, bt110, pl110_0, pl110_1, sz110, taskC, Pl.rep_get0, dx]
   repeat refine ⟨by first | omega | (simp; done) | (unfold maxLen; omega) | (simp [maxLen]; omega) | assumption, ?_⟩
   refine hk _ ?_; clear hk k
   refine awp_ret ?_
   rw [Pl.begin_3 hp hbe]
   refine retl rfl rfl ⟨retc rfl sz110 ?_, rett rfl ?_, trivial⟩
   simp (maxSteps := 9^9) (disch := (try simp only [lens]); omega) only [argSl, sm, ↓amb, mark_eq, simprocAttr, sz110, taskC, Pl.rep_get0, dx]
   ·exact .agg_cons (.p (LeP.refl _)) (.agg_cons (.p (LeP.refl _)) (.agg_cons (.p (LeP.refl _)) (.agg_cons (.ownE rfl rfl) (.agg_cons (.p (LeP.refl _)) (.agg_cons (.p (LeP.refl _)) (.agg_cons (.p (LeP.refl _)) (.agg_nil)))))))
   ·exact .p (LeP.refl _)
set_option maxHeartbeats 4000000 in
theorem c_ref05_Begin (n g w : Int) (hn : n ≤ 4000000000) : PCall Try.prog 89 [iV n, iV g, iV w] (.tup [.agg (crewC (Pl.crewBegin n g w).1), iV (Pl.crewBegin n g w).2]) := by
 refine pcall_of_awp Try.func89 rfl (by simp [Try.ntmps89]) fun C hC => ?_
 refine awp_le (le_keep [0, 1, 2]) ?_
 simp only [kp, argSl, simprocAttr]
 refine awp_sr [30] (by rw [hC]; rfl) fun k hk => ?_
 simp (maxSteps := 9^9) (disch := (try simp only [lens]); omega) only [argSl, sm, ↓amb, mark_eq, simprocAttr, vr110, Pl.rep_get0, dx]
 repeat refine ⟨by first | omega | (simp; done) | (unfold maxLen; omega) | (simp [maxLen]; omega) | assumption, ?_⟩
 refine hk _ ?_; clear hk k
 refine awp_seq fun k1 h1 => ?_
 refine awp_test [30] 16 (decide (w < 1 ∨ 8 < w)) [0, 1, 2, 6, 7] (by rw [hC]; rfl) (fun gd hgd k hk => ?_) ?_
 ·have g2 : gd 2 = some 13 := by rw [hgd]; rfl
  clear hgd
  simp (maxSteps := 9^9) (disch := (try simp only [lens]); omega) only [argSl, sm, ↓amb, mark_eq, simprocAttr, gcase_undef, g2, Pl.rep_get0, dx]
  repeat' first | refine hk _ _ rfl rfl rfl rfl ?_ | (refine gsplit (fun hg => ?_) (fun hg => ?_) <;> (try simp only [hbx] at hg) <;> simp (maxSteps := 9^9) (disch := (try simp only [lens]); omega) only [argSl, sm, ↓amb, mark_eq, simprocAttr, gcase_undef, g2, Pl.rep_get0, dx]) | apply And.intro | fail
  all_goals first | rfl | omega | exact (decide_eq_true (by omega)).symm | exact (decide_eq_false (by omega)).symm | exact decide_eq_decide.mpr (by omega) | (refine Bool.eq_iff_iff.mpr ?_; simp only [beq_iff_eq, bne_iff_ne, ne_eq, decide_eq_true_eq]; omega) | (refine Bool.eq_iff_iff.mpr ?_; simp only [Bool.not_eq_true', Bool.not_eq_false', decide_eq_false_iff_not, decide_eq_true_eq, beq_iff_eq, bne_iff_ne, ne_eq]; omega) | assumption | (simp; done) | (simp [maxLen]; omega) | skip
 simp only [kp, argSl, simprocAttr, List.length_cons, List.length_nil]
 refine awp_cond rfl (fun hb => ?_) (fun hb => ?_)
 ·try simp only [hbx] at hb
  refine awp_le (le_keep [6]) ?_
  simp only [kp, argSl, simprocAttr]
  refine awp_sr [30] (by rw [hC]; rfl) fun k hk => ?_
  simp (maxSteps := 9^9) (disch := (try simp only [lens]); omega) only [argSl, sm, ↓amb, mark_eq, simprocAttr, vr110, bt110, sz110, Pl.rep_get0, dx]
  repeat refine ⟨by first | omega | (simp; done) | (unfold maxLen; omega) | (simp [maxLen]; omega) | assumption, ?_⟩
  refine hk _ ?_; clear hk k
  refine awp_ret ?_
  rw [Pl.begin_1 hb]
  refine retl rfl rfl ⟨retc rfl sz110 ?_, rett rfl ?_, trivial⟩
  simp (maxSteps := 9^9) (disch := (try simp only [lens]); omega) only [argSl, sm, ↓amb, mark_eq, simprocAttr, sz110, Pl.rep_get0, dx]
  ·exact .p (LeP.agg (.cons (LeP.seq _ _) (.cons (LeP.refl _) (.cons (LeP.seq _ _) (.cons (LeP.seq _ _) (.cons (LeP.refl _) (.cons (LeP.refl _) (.cons (LeP.refl _) .nil))))))))
  ·exact .p (LeP.refl _)
 ·try simp only [hbx] at hb
  refine awp_skip ?_
  refine h1 _ ?_; clear h1 k1
  refine awp_le (le_keep [0, 1, 2, 6]) ?_
  simp only [kp, argSl, simprocAttr]
  have hp := hb
  refine awp_sr [30] (by rw [hC]; rfl) fun k hk => ?_
  simp (maxSteps := 9^9) (disch := (try simp only [lens]); omega) only [argSl, sm, ↓amb, mark_eq, simprocAttr, en106, vr107, sz107, Pl.rep_get0, dx]
  repeat refine ⟨by first | omega | (simp; done) | (unfold maxLen; omega) | (simp [maxLen]; omega) | assumption, ?_⟩
  refine callK_p (c33 _ _ (by omega)) rfl ?_
  simp (maxSteps := 9^9) (disch := (try simp only [lens]); omega) only [argSl, sm, ↓amb, mark_eq, simprocAttr, en106, vr107, sz107, Pl.rep_get0, dx]
  repeat refine ⟨by first | omega | (simp; done) | (unfold maxLen; omega) | (simp [maxLen]; omega) | assumption, ?_⟩
  refine hk _ ?_; clear hk k
  refine awp_seq fun k2 h2 => ?_
  refine awp_le (le_keep [2, 6, 7, 8, 9]) ?_
  simp only [kp, argSl, simprocAttr]
  refine awp_sr [30] (by rw [hC]; rfl) fun k hk => ?_
  simp (maxSteps := 9^9) (disch := (try simp only [lens]); omega) only [argSl, sm, ↓amb, mark_eq, simprocAttr, Pl.rep_get0, dx]
  repeat refine ⟨by first | omega | (simp; done) | (unfold maxLen; omega) | (simp [maxLen]; omega) | assumption, ?_⟩
  refine hk _ ?_; clear hk k
  refine awp_cond rfl (fun hb => ?_) (fun hb => ?_)
  ·try simp only [hbx] at hb
   refine awp_le (le_keep [6, 9]) ?_
   simp only [kp, argSl, simprocAttr]
   refine awp_sr [30] (by rw [hC]; rfl) fun k hk => ?_
   simp (maxSteps := 9^9) (disch := (try simp only [lens]); omega) only [argSl, sm, ↓amb, mark_eq, simprocAttr, vr110, bt110, sz110, Pl.rep_get0, dx]
   repeat refine ⟨by first | omega | (simp; done) | (unfold maxLen; omega) | (simp [maxLen]; omega) | assumption, ?_⟩
   refine hk _ ?_; clear hk k
   refine awp_ret ?_
   obtain ⟨e1, e2⟩ := Pl.begin_2 hp hb
   rw [e1]
   refine retl rfl rfl ⟨retc rfl sz110 ?_, rett rfl ?_, trivial⟩
   simp (maxSteps := 9^9) (disch := (try simp only [lens]); omega) only [argSl, sm, ↓amb, mark_eq, simprocAttr, sz110, Pl.rep_get0, dx]
   ·exact .p (LeP.agg (.cons (LeP.seq _ _) (.cons (LeP.refl _) (.cons (LeP.seq _ _) (.cons (LeP.seq _ _) (.cons (LeP.refl _) (.cons (LeP.refl _) (.cons (LeP.refl _) .nil))))))))
   ·exact .p (LeP.of_eq (by rw [e2]))
  ·try simp only [hbx] at hb
   refine awp_skip ?_
   refine h2 _ ?_; clear h2 k2
   refine awp_le (le_keep [2, 6, 8]) ?_
   simp only [kp, argSl, simprocAttr]
   have hbe := hb
   refine awp_sd [30] ⟨[0, 0, 2, 7, 0, 31], [0], [5], [(2, 5), (4, 5)], none⟩ (by rw [hC]; rfl) (by kernel_rfl) (by kernel_rfl) fun k hk => ?_
   simp (maxSteps := 9^9) (disch := (try simp only [lens]); omega) only [argSl, sm, ↓amb, mark_eq, simprocAttr, sz107, el108, by67, vr67, vr110, bt110, pl110_0, pl110_1, sz110, Pl.rep_get0, dx]
   repeat refine ⟨by first | omega | (simp; done) | (unfold maxLen; omega) | (simp [maxLen]; omega) | assumption, ?_⟩
   refine hk _ ?_; clear hk k
   refine awp_le (le_keep [6, 10]) ?_
   simp only [kp, argSl, simprocAttr]
   refine awp_sr [30] (by rw [hC]; rfl) fun k hk => ?_
   simp (maxSteps := 9^9) (disch := (try simp only [lens]); omega) only [argSl, sm, ↓amb, mark_eq, simprocAttr, fl110_1, sz108, el67, vr3, el108, sz67, Pl.rep_get0, dx]
   repeat refine ⟨by first | omega | (simp; done) | (unfold maxLen; omega) | (simp [maxLen]; omega) | assumption, ?_⟩
   refine hk _ ?_; clear hk k
   refine awp_le (le_keep [6, 10]) ?_
   simp only [kp, argSl, simprocAttr]
   refine awp_le (show LE _ (⟨[(6, (.ptr 0 7 0 0)), (10, (.ptr 1 7 0 0))], [(0, (.row 7 [[.p (.seq true []), .p (iV 0), .p (.seq true []), .p (.seq true []), .p (bV false), .p (iV 0), .p (iV 0)]])), (1, (.row 7 [[.p (.seq false ((Pl.beginW n g).ts.map taskC)), .p (iV (Pl.beginW n g).grain), .p (.seq false ((Pl.beginW n g).done.map fun b => [bV b])), .own 2, .p (bV false), .p (iV 0), .p (iV 0)]])), (2, (.row 1 (lift ((Pl.dq0 w).map lV))))], 1⟩ : LS) from le_of [(0, _), (1, _), (2, _)] (by rfl) (by rfl) ⟨⟨_, rfl, .ptr rfl⟩, ⟨_, rfl, .ptr rfl⟩, trivial⟩ ⟨⟨_, rfl, _, rfl, .one (.cons (.p (.refl _)) (.cons (.p (.refl _)) (.cons (.p (.refl _)) (.cons (.p (.refl _)) (.cons (.p (.refl _)) (.cons (.p (.refl _)) (.cons (.p (.refl _)) (.nil))))))))⟩, ⟨_, rfl, _, rfl, .one (.cons (.p (.refl _)) (.cons (.p (.refl _)) (.cons (.p (.refl _)) (.cons (.own rfl) (.cons (.p (.refl _)) (.cons (.p (.refl _)) (.cons (.p (.refl _)) (.nil))))))))⟩, ⟨_, rfl, _, rfl, Pl.leB_dq0 (by omega)⟩, trivial⟩) ?_
   refine awp_sr [30] (by rw [hC]; rfl) fun k hk => ?_
   simp (maxSteps := 9^9) (disch := (try simp only [lens]); omega) only [argSl, sm, ↓amb, mark_eq, simprocAttr, sz110, Pl.rep_get0, dx]
   repeat refine ⟨by first | omega | (simp; done) | (unfold maxLen; omega) | (simp [maxLen]; omega) | assumption, ?_⟩
   refine hk _ ?_; clear hk k
   refine awp_ret ?_
   rw [Pl.begin_3 hp hbe]
   refine retl rfl rfl ⟨retc rfl sz110 ?_, rett rfl ?_, trivial⟩
   simp (maxSteps := 9^9) (disch := (try simp only [lens]); omega) only [argSl, sm, ↓amb, mark_eq, simprocAttr, sz110, Pl.rep_get0, dx]
   ·exact .agg_cons (.p (LeP.refl _)) (.agg_cons (.p (LeP.refl _)) (.agg_cons (.p (LeP.refl _)) (.agg_cons (.ownE rfl rfl) (.agg_cons (.p (LeP.refl _)) (.agg_cons (.p (LeP.refl _)) (.agg_cons (.p (LeP.refl _)) (.agg_nil)))))))
   ·exact .p (LeP.refl _)
end Go.Proofs.Ytjkkjiaeeobnkaa
end
section
set_option linter.unusedSimpArgs false
set_option linter.unusedVariables false
set_option maxRecDepth 100000
namespace Go.Proofs.Ytjkkjiaeeobnkaa
open Go.Am Go.Proofs
theorem by128 : tBytes Try.prog 128 = some 32 := by kernel_rfl
theorem en133 : enters Try.prog 133 = true := by kernel_rfl
theorem en141 : enters Try.prog 141 = true := by kernel_rfl
theorem en142 : enters Try.prog 142 = true := by kernel_rfl
theorem en143 : enters Try.prog 143 = true := by kernel_rfl
theorem fl107_0 : tFld Try.prog 107 0 = some (0, 1, false) := by kernel_rfl
theorem fl107_1 : tFld Try.prog 107 1 = some (1, 1, false) := by kernel_rfl
theorem fl107_2 : tFld Try.prog 107 2 = some (2, 1, false) := by kernel_rfl
theorem fl128_0 : tFld Try.prog 128 0 = some (0, 1, false) := by kernel_rfl
theorem fl128_1 : tFld Try.prog 128 1 = some (1, 1, false) := by kernel_rfl
theorem fl128_2 : tFld Try.prog 128 2 = some (2, 1, false) := by kernel_rfl
theorem fl128_3 : tFld Try.prog 128 3 = some (3, 1, false) := by kernel_rfl
theorem pl128_0 : tPlace Try.prog 128 0 = some (0, 1) := by kernel_rfl
theorem sz104 : tSz Try.prog 104 = some (false, 1) := by kernel_rfl
theorem sz105 : tSz Try.prog 105 = some (false, 1) := by kernel_rfl
theorem sz128 : tSz Try.prog 128 = some (true, 4) := by kernel_rfl
theorem sz4 : tSz Try.prog 4 = some (false, 1) := by kernel_rfl
set_option maxHeartbeats 4000000 in
theorem c37 (c d : Bool) (w : Pl.Work) : PCall Try.prog 133 [workV c d w] (bV (decide (Pl.right w))) := by
 refine pcall_of_awp Try.func133 rfl (by simp [Try.ntmps133]) fun C hC => ?_
 refine awp_le (le_keep [0]) ?_
 simp only [kp, argSl, simprocAttr]
 refine awp_sr [] (by rw [hC]; rfl) fun k hk => ?_
 simp (maxSteps := 9^9) (disch := (try simp only [lens]); omega) only [argSl, sm, ↓amb, mark_eq, simprocAttr, dx]
 repeat refine ⟨by first | omega | (simp; done) | (unfold maxLen; omega) | (simp [maxLen]; omega) | assumption, ?_⟩
 refine hk _ ?_; clear hk k
 refine awp_seq fun k1 h1 => ?_
 refine awp_test [] 23 (decide (¬ (Pl.cnt w.done.length w.grain ∧ 1 ≤ w.ts.length ∧ w.ts.length ≤ 2000))) [1, 2] (by rw [hC]; rfl) (fun gd hgd k hk => ?_) ?_
 ·have g7 : gd 7 = some 12 := by rw [hgd]; rfl
  have g13 : gd 13 = some 18 := by rw [hgd]; rfl
  clear hgd
  simp (maxSteps := 9^9) (disch := (try simp only [lens]); omega) only [argSl, sm, ↓amb, mark_eq, simprocAttr, fl107_2, sz105, el105, fl107_1, sz3, en91, fl107_0, sz104, el104, gcase_undef, g7, g13, dx]
  repeat' first | refine hk _ _ rfl rfl rfl rfl ?_ | (refine gsplit (fun hg => ?_) (fun hg => ?_) <;> (try simp only [hbx] at hg) <;> simp (maxSteps := 9^9) (disch := (try simp only [lens]); omega) only [argSl, sm, ↓amb, mark_eq, simprocAttr, fl107_2, sz105, el105, fl107_1, sz3, en91, fl107_0, sz104, el104, gcase_undef, g7, g13, dx]) | apply And.intro | (refine callK_p (c55 _ _) rfl ?_; (try simp (maxSteps := 9^9) (disch := (try simp only [lens]); omega) only [argSl, sm, ↓amb, mark_eq, simprocAttr, fl107_2, sz105, el105, fl107_1, sz3, en91, fl107_0, sz104, el104, gcase_undef, g7, g13, dx])) | fail
  all_goals first | rfl | omega | exact (decide_eq_true (by (try simp only [Pl.right, Pl.cnt, Pl.okT] at *); omega)).symm | exact (decide_eq_false (by (try simp only [Pl.right, Pl.cnt, Pl.okT] at *); omega)).symm | exact decide_eq_decide.mpr (by (try simp only [Pl.right, Pl.cnt, Pl.okT] at *); omega) | (refine Bool.eq_iff_iff.mpr ?_; (try simp only [Pl.right, Pl.cnt, Pl.okT] at *); simp only [beq_iff_eq, bne_iff_ne, ne_eq, decide_eq_true_eq]; omega) | (refine Bool.eq_iff_iff.mpr ?_; simp only [Bool.not_eq_true', Bool.not_eq_false', decide_eq_false_iff_not, decide_eq_true_eq, beq_iff_eq, bne_iff_ne, ne_eq]; (try simp only [Pl.right, Pl.cnt, Pl.okT] at *); omega) | assumption | (simp; done) | (simp [maxLen]; omega) | skip
 simp only [kp, argSl, simprocAttr, List.length_cons, List.length_nil]
 refine awp_cond rfl (fun hb => ?_) (fun hb => ?_)
 ·try simp only [hbx] at hb
  refine awp_le (le_keep []) ?_
  simp only [kp, argSl, simprocAttr]
  refine awp_sr [] (by rw [hC]; rfl) fun k hk => ?_
  simp (maxSteps := 9^9) (disch := (try simp only [lens]); omega) only [argSl, sm, ↓amb, mark_eq, simprocAttr, dx]
  repeat refine ⟨by first | omega | (simp; done) | (unfold maxLen; omega) | (simp [maxLen]; omega) | assumption, ?_⟩
  refine hk _ ?_; clear hk k
  refine awp_ret ?_
  refine ret1 rfl rfl ?_
  exact .p (LeP.of_eq (by rw [decide_eq_false (by intro h; simp only [Pl.right, Pl.cnt] at h hb; omega)]))
 ·try simp only [hbx] at hb
  refine awp_skip ?_
  refine h1 _ ?_; clear h1 k1
  refine awp_seq fun k2 h2 => ?_
  refine awp_le (le_keep [1, 2]) ?_
  simp only [kp, argSl, simprocAttr]
  have hb0 := hb
  refine awp_sr [] (by rw [hC]; rfl) fun k hk => ?_
  simp (maxSteps := 9^9) (disch := (try simp only [lens]); omega) only [argSl, sm, ↓amb, mark_eq, simprocAttr, fl107_0, sz104, el104, dx]
  repeat refine ⟨by first | omega | (simp; done) | (unfold maxLen; omega) | (simp [maxLen]; omega) | assumption, ?_⟩
  refine hk _ ?_; clear hk k
  refine awp_block ?_
  refine awp_loop (σ := Nat) (fun (i : Nat) => i ≤ w.ts.length ∧ ∀ j, j < i → Pl.okT w.done.length j (w.ts.getD j default)) (fun (i : Nat) => ⟨[(1, (.ptr 0 3 0 0)), (25, (.p (.seq c (w.ts.map taskC)))), (26, (.p (iV w.ts.length))), (27, (.p (iV i)))], [(0, (.row 3 [[.p (.seq c (w.ts.map taskC)), .p (iV w.grain), .p (.seq d (w.done.map fun b => [bV b]))]]))], 1⟩) (fun i => w.ts.length - i) 0 ?_ ?_ fun x hx => ?_
  ·exact ⟨Nat.zero_le _, fun j hj => by omega⟩
  ·exact le_of [(0, _)] (by rfl) (by rfl) ⟨⟨_, rfl, .ptr rfl⟩, ⟨_, rfl, .p (.of_eq (by first | rfl | (simp only [PV.lit.injEq, Value.int.injEq, true_and]; omega) | (simp; done) | (simp; omega)))⟩, ⟨_, rfl, .p (.of_eq (by first | rfl | (simp only [PV.lit.injEq, Value.int.injEq, true_and]; omega) | (simp; done) | (simp; omega)))⟩, ⟨_, rfl, .p (.of_eq (by first | rfl | (simp only [PV.lit.injEq, Value.int.injEq, true_and]; omega) | (simp; done) | (simp; omega)))⟩, trivial⟩ ⟨⟨_, rfl, _, rfl, .one (.cons (.p (.refl _)) (.cons (.p (.refl _)) (.cons (.p (.refl _)) .nil)))⟩, trivial⟩
  obtain ⟨hx1, hx2⟩ := hx
  refine awp_le (le_keep [0, 1, 2, 25, 26, 27]) ?_
  simp only [kp, argSl, simprocAttr]
  refine awp_sr [] (by rw [hC]; rfl) fun k hk => ?_
  simp (maxSteps := 9^9) (disch := (try simp only [lens]); omega) only [argSl, sm, ↓amb, mark_eq, simprocAttr, dx]
  repeat refine ⟨by first | omega | (simp; done) | (unfold maxLen; omega) | (simp [maxLen]; omega) | assumption, ?_⟩
  refine hk _ ?_; clear hk k
  refine awp_seq fun k4 h4 => ?_
  refine awp_cond rfl (fun hb => ?_) (fun hb => ?_)
  ·try simp only [hbx] at hb
   refine awp_skip ?_
   refine h4 _ ?_; clear h4 k4
   refine awp_seq fun k5 h5 => ?_
   refine awp_block ?_
   refine awp_le (le_keep [0, 1, 2, 25, 26, 27]) ?_
   simp only [kp, argSl, simprocAttr]
   refine awp_sr [] (by rw [hC]; rfl) fun k hk => ?_
   simp (maxSteps := 9^9) (disch := (try simp only [lens]); omega) only [argSl, sm, ↓amb, mark_eq, simprocAttr, el104, sz128, vr128, dx]
   repeat refine ⟨by first | omega | (simp; done) | (unfold maxLen; omega) | (simp [maxLen]; omega) | assumption, ?_⟩
   refine hk _ ?_; clear hk k
   refine awp_test [] 70 (decide (¬ Pl.okT w.done.length x (w.ts.getD x default))) [0, 1, 2, 25, 26, 27] (by rw [hC]; rfl) (fun gd hgd k hk => ?_) ?_
   ·have g3 : gd 3 = some 35 := by rw [hgd]; rfl
    have g10 : gd 10 = some 42 := by rw [hgd]; rfl
    have g18 : gd 18 = some 50 := by rw [hgd]; rfl
    have g23 : gd 23 = some 55 := by rw [hgd]; rfl
    have g29 : gd 29 = some 61 := by rw [hgd]; rfl
    have g34 : gd 34 = some 66 := by rw [hgd]; rfl
    clear hgd
    simp (maxSteps := 9^9) (disch := (try simp only [lens]); omega) only [argSl, sm, ↓amb, mark_eq, simprocAttr, fl128_0, sz3, fl128_1, fl107_2, sz105, el105, fl128_2, fl128_3, gcase_undef, g3, g10, g18, g23, g29, g34, dx]
    repeat' first | refine hk _ _ rfl rfl rfl rfl ?_ | (refine gsplit (fun hg => ?_) (fun hg => ?_) <;> (try simp only [hbx] at hg) <;> simp (maxSteps := 9^9) (disch := (try simp only [lens]); omega) only [argSl, sm, ↓amb, mark_eq, simprocAttr, fl128_0, sz3, fl128_1, fl107_2, sz105, el105, fl128_2, fl128_3, gcase_undef, g3, g10, g18, g23, g29, g34, dx]) | apply And.intro | fail
    all_goals first | rfl | omega | exact (decide_eq_true (by (try simp only [Pl.right, Pl.cnt, Pl.okT] at *); omega)).symm | exact (decide_eq_false (by (try simp only [Pl.right, Pl.cnt, Pl.okT] at *); omega)).symm | exact decide_eq_decide.mpr (by (try simp only [Pl.right, Pl.cnt, Pl.okT] at *); omega) | (refine Bool.eq_iff_iff.mpr ?_; (try simp only [Pl.right, Pl.cnt, Pl.okT] at *); simp only [beq_iff_eq, bne_iff_ne, ne_eq, decide_eq_true_eq]; omega) | (refine Bool.eq_iff_iff.mpr ?_; simp only [Bool.not_eq_true', Bool.not_eq_false', decide_eq_false_iff_not, decide_eq_true_eq, beq_iff_eq, bne_iff_ne, ne_eq]; (try simp only [Pl.right, Pl.cnt, Pl.okT] at *); omega) | assumption | (simp; done) | (simp [maxLen]; omega) | skip
   simp only [kp, argSl, simprocAttr, List.length_cons, List.length_nil]
   refine awp_cond rfl (fun hb => ?_) (fun hb => ?_)
   ·try simp only [hbx] at hb
    refine awp_le (le_keep []) ?_
    simp only [kp, argSl, simprocAttr]
    refine awp_sr [] (by rw [hC]; rfl) fun k hk => ?_
    simp (maxSteps := 9^9) (disch := (try simp only [lens]); omega) only [argSl, sm, ↓amb, mark_eq, simprocAttr, dx]
    repeat refine ⟨by first | omega | (simp; done) | (unfold maxLen; omega) | (simp [maxLen]; omega) | assumption, ?_⟩
    refine hk _ ?_; clear hk k
    refine awp_ret ?_
    refine ret1 rfl rfl ?_
    exact .p (LeP.of_eq (by rw [decide_eq_false (fun h => by have h2 := h.2.2.2 x (by omega); have h3 := h.1; simp only [Pl.okT] at h2 hb; omega)]))
   ·try simp only [hbx] at hb
    refine awp_skip ?_
    refine h5 _ ?_; clear h5 k5
    refine awp_region [] (by rw [hC]; rfl) fun k hk => ?_
    simp (maxSteps := 9^9) (disch := (try simp only [lens]); omega) only [argSl, sm, ↓amb, mark_eq, simprocAttr, dx]
    repeat refine ⟨by first | omega | (simp; done) | (unfold maxLen; omega) | (simp [maxLen]; omega) | assumption, ?_⟩
    refine hk _ ?_; clear hk k
    refine ⟨x + 1, ⟨by omega, fun j hj => by by_cases e : j = x; subst e; exact hb; exact hx2 j (by omega)⟩, le_of [(0, _)] (by rfl) (by rfl) ⟨⟨_, rfl, .ptr rfl⟩, ⟨_, rfl, .p (.of_eq (by first | rfl | (simp only [PV.lit.injEq, Value.int.injEq, true_and]; omega) | (simp; done) | (simp; omega)))⟩, ⟨_, rfl, .p (.of_eq (by first | rfl | (simp only [PV.lit.injEq, Value.int.injEq, true_and]; omega) | (simp; done) | (simp; omega)))⟩, ⟨_, rfl, .p (.of_eq (by first | rfl | (simp only [PV.lit.injEq, Value.int.injEq, true_and]; omega) | (simp; done) | (simp; omega)))⟩, trivial⟩ ⟨⟨_, rfl, _, rfl, .one (.cons (.p (.refl _)) (.cons (.p (.refl _)) (.cons (.p (.refl _)) .nil)))⟩, trivial⟩, by omega⟩
  ·try simp only [hbx] at hb
   refine awp_exit ((if_pos rfl).mpr ?_)
   refine h2 _ ?_; clear h4 k4; clear h2 k2
   refine awp_le (le_keep []) ?_
   simp only [kp, argSl, simprocAttr]
   refine awp_sr [] (by rw [hC]; rfl) fun k hk => ?_
   simp (maxSteps := 9^9) (disch := (try simp only [lens]); omega) only [argSl, sm, ↓amb, mark_eq, simprocAttr, dx]
   repeat refine ⟨by first | omega | (simp; done) | (unfold maxLen; omega) | (simp [maxLen]; omega) | assumption, ?_⟩
   refine hk _ ?_; clear hk k
   refine awp_ret ?_
   refine ret1 rfl rfl ?_
   exact .p (LeP.of_eq (by rw [decide_eq_true (Pl.right_of (by omega) hb0 hx2)]))
set_option maxHeartbeats 4000000 in
theorem c50 (t : Pl.Task) (h0 : -4000000000 ≤ t.low) (h1 : t.low ≤ 4000000000) (h2 : -4000000000 ≤ t.high) (h3 : t.high ≤ 4000000000) : PCall Try.prog 142 [.agg (taskC t)] (iV (t.high - t.low)) := by
 refine pcall_of_awp Try.func142 rfl (by simp [Try.ntmps142]) fun C hC => ?_
 refine awp_sr [] (by rw [hC]; rfl) fun k hk => ?_
 simp (maxSteps := 9^9) (disch := (try simp only [lens]); omega) only [argSl, sm, ↓amb, mark_eq, simprocAttr, dx]
 repeat refine ⟨by first | omega | (simp; done) | (unfold maxLen; omega) | (simp [maxLen]; omega) | assumption, ?_⟩
 refine hk _ ?_; clear hk k
 refine awp_sr [] (by rw [hC]; rfl) fun k hk => ?_
 simp (maxSteps := 9^9) (disch := (try simp only [lens]); omega) only [argSl, sm, ↓amb, mark_eq, simprocAttr, fl128_1, sz3, fl128_0, dx]
 repeat refine ⟨by first | omega | (simp; done) | (unfold maxLen; omega) | (simp [maxLen]; omega) | assumption, ?_⟩
 refine hk _ ?_; clear hk k
 refine awp_ret ?_
 refine ret1 rfl rfl ?_
 exact .p (LeP.refl _)
set_option maxHeartbeats 4000000 in
theorem c49 (c d : Bool) (w : Pl.Work) (i : Int) : PCall Try.prog 141 [workV c d w, iV i] (iV (Pl.there w i)) := by
 refine pcall_of_awp Try.func141 rfl (by simp [Try.ntmps141]) fun C hC => ?_
 refine awp_sr [] (by rw [hC]; rfl) fun k hk => ?_
 simp (maxSteps := 9^9) (disch := (try simp only [lens]); omega) only [argSl, sm, ↓amb, mark_eq, simprocAttr, dx]
 repeat refine ⟨by first | omega | (simp; done) | (unfold maxLen; omega) | (simp [maxLen]; omega) | assumption, ?_⟩
 refine hk _ ?_; clear hk k
 refine awp_seq fun k1 h1 => ?_
 refine awp_block ?_
 refine awp_sr [] (by rw [hC]; rfl) fun k hk => ?_
 simp (maxSteps := 9^9) (disch := (try simp only [lens]); omega) only [argSl, sm, ↓amb, mark_eq, simprocAttr, sz107, en133, dx]
 repeat refine ⟨by first | omega | (simp; done) | (unfold maxLen; omega) | (simp [maxLen]; omega) | assumption, ?_⟩
 refine callK_p (c37 _ _ _) rfl ?_
 simp (maxSteps := 9^9) (disch := (try simp only [lens]); omega) only [argSl, sm, ↓amb, mark_eq, simprocAttr, sz107, en133, dx]
 repeat refine ⟨by first | omega | (simp; done) | (unfold maxLen; omega) | (simp [maxLen]; omega) | assumption, ?_⟩
 refine hk _ ?_; clear hk k
 refine awp_cond rfl (fun hb => ?_) (fun hb => ?_)
 ·try simp only [hbx] at hb
  refine awp_sr [] (by rw [hC]; rfl) fun k hk => ?_
  simp (maxSteps := 9^9) (disch := (try simp only [lens]); omega) only [argSl, sm, ↓amb, mark_eq, simprocAttr, dx]
  repeat refine ⟨by first | omega | (simp; done) | (unfold maxLen; omega) | (simp [maxLen]; omega) | assumption, ?_⟩
  refine hk _ ?_; clear hk k
  refine awp_ret ?_
  refine ret1 rfl rfl ?_
  exact .p (LeP.of_eq (by rw [Pl.there, if_pos hb]))
 ·try simp only [hbx] at hb
  have hR := hb
  refine awp_test [] 9 (decide (i < 0 ∨ (w.ts.length : Int) ≤ i)) [4] (by rw [hC]; rfl) (fun gd hgd k hk => ?_) ?_
  ·have g2 : gd 2 = some 12 := by rw [hgd]; rfl
   clear hgd
   simp (maxSteps := 9^9) (disch := (try simp only [lens]); omega) only [argSl, sm, ↓amb, mark_eq, simprocAttr, fl107_0, sz104, el104, gcase_undef, g2, dx]
   repeat' first | refine hk _ _ rfl rfl rfl rfl ?_ | (refine gsplit (fun hg => ?_) (fun hg => ?_) <;> (try simp only [hbx] at hg) <;> simp (maxSteps := 9^9) (disch := (try simp only [lens]); omega) only [argSl, sm, ↓amb, mark_eq, simprocAttr, fl107_0, sz104, el104, gcase_undef, g2, dx]) | apply And.intro | fail
   all_goals first | rfl | omega | exact (decide_eq_true (by omega)).symm | exact (decide_eq_false (by omega)).symm | exact decide_eq_decide.mpr (by omega) | (refine Bool.eq_iff_iff.mpr ?_; simp only [beq_iff_eq, bne_iff_ne, ne_eq, decide_eq_true_eq]; omega) | (refine Bool.eq_iff_iff.mpr ?_; simp only [Bool.not_eq_true', Bool.not_eq_false', decide_eq_false_iff_not, decide_eq_true_eq, beq_iff_eq, bne_iff_ne, ne_eq]; omega) | assumption | (simp; done) | (simp [maxLen]; omega) | skip
  simp only [kp, argSl, simprocAttr, List.length_cons, List.length_nil]
  refine awp_cond rfl (fun hb => ?_) (fun hb => ?_)
  ·try simp only [hbx] at hb
   refine awp_sr [] (by rw [hC]; rfl) fun k hk => ?_
   simp (maxSteps := 9^9) (disch := (try simp only [lens]); omega) only [argSl, sm, ↓amb, mark_eq, simprocAttr, dx]
   repeat refine ⟨by first | omega | (simp; done) | (unfold maxLen; omega) | (simp [maxLen]; omega) | assumption, ?_⟩
   refine hk _ ?_; clear hk k
   refine awp_ret ?_
   refine ret1 rfl rfl ?_
   exact .p (LeP.of_eq (by rw [Pl.there, if_neg (by simpa using hR), if_pos hb]))
  ·try simp only [hbx] at hb
   refine awp_skip ?_
   refine h1 _ ?_; clear h1 k1
   refine awp_sr [] (by rw [hC]; rfl) fun k hk => ?_
   simp (maxSteps := 9^9) (disch := (try simp only [lens]); omega) only [argSl, sm, ↓amb, mark_eq, simprocAttr, dx]
   repeat refine ⟨by first | omega | (simp; done) | (unfold maxLen; omega) | (simp [maxLen]; omega) | assumption, ?_⟩
   refine hk _ ?_; clear hk k
   refine awp_ret ?_
   refine ret1 rfl rfl ?_
   exact .p (LeP.of_eq (by rw [Pl.there, if_neg (by simpa using hR), if_neg hb]))
set_option maxHeartbeats 4000000 in
theorem c51 (c : Bool) (l : List Pl.Task) (hl : l.length ≤ 1000000) : OCall Try.prog 143 [.seq c (l.map taskC)] 4 (l.map taskC) := by
 refine ocall_of_awp Try.func143 rfl (by simp [Try.ntmps143]) fun C hC => ?_
 refine awp_sr [7] (by rw [hC]; rfl) fun k hk => ?_
 simp (maxSteps := 9^9) (disch := (try simp only [lens]); omega) only [argSl, sm, ↓amb, mark_eq, simprocAttr, dx]
 repeat refine ⟨by first | omega | (simp; done) | (unfold maxLen; omega) | (simp [maxLen]; omega) | assumption, ?_⟩
 refine hk _ ?_; clear hk k
 refine awp_seq fun k1 h1 => ?_
 refine awp_nil 128 (of_decide_eq_true (by rw [hC]; rfl)) (of_decide_eq_true (by rw [hC]; rfl)) el104 rfl fun bq1 hq1 => ?_
 refine awp_cond rfl (fun hb => ?_) (fun hb => ?_)
 ·try simp only [hbx] at hb
  have he := hq1 hb
  refine awp_sr [7] (by rw [hC]; rfl) fun k hk => ?_
  simp (maxSteps := 9^9) (disch := (try simp only [lens]); omega) only [argSl, sm, ↓amb, mark_eq, simprocAttr, dx]
  repeat refine ⟨by first | omega | (simp; done) | (unfold maxLen; omega) | (simp [maxLen]; omega) | assumption, ?_⟩
  refine hk _ ?_; clear hk k
  refine awp_ret ?_
  exact reton (by rw [he]) rfl rfl
 ·try simp only [hbx] at hb
  refine awp_skip ?_
  refine h1 _ ?_; clear h1 k1
  refine awp_sr [7] (by rw [hC]; rfl) fun k hk => ?_
  simp (maxSteps := 9^9) (disch := (try simp only [lens]); omega) only [argSl, sm, ↓amb, mark_eq, simprocAttr, el104, vr128, by128, dx]
  repeat refine ⟨by first | omega | (simp; done) | (unfold maxLen; omega) | (simp [maxLen]; omega) | assumption, ?_⟩
  refine hk _ ?_; clear hk k
  refine awp_ret ?_
  refine reto1 rfl rfl ?_
  rfl
set_option maxHeartbeats 4000000 in
theorem c28 (c d : Bool) (w : Pl.Work) (i : Int) : PCall Try.prog 137 [workV c d w, iV i] (.tup [workV false false (Pl.partW w i), iV (Pl.partA w i), iV (Pl.partB w i), iV (Pl.partE w i)]) := by
 refine pcall_of_awp Try.func137 rfl (by simp [Try.ntmps137]) fun C hC => ?_
 refine awp_sr [64] (by rw [hC]; rfl) fun k hk => ?_
 simp (maxSteps := 9^9) (disch := (try simp only [lens]); omega) only [argSl, sm, ↓amb, mark_eq, simprocAttr, vr107, dx]
 repeat refine ⟨by first | omega | (simp; done) | (unfold maxLen; omega) | (simp [maxLen]; omega) | assumption, ?_⟩
 refine hk _ ?_; clear hk k
 refine awp_seq fun k1 h1 => ?_
 refine awp_sr [64] (by rw [hC]; rfl) fun k hk => ?_
 simp (maxSteps := 9^9) (disch := (try simp only [lens]); omega) only [argSl, sm, ↓amb, mark_eq, simprocAttr, sz107, en141, dx]
 repeat refine ⟨by first | omega | (simp; done) | (unfold maxLen; omega) | (simp [maxLen]; omega) | assumption, ?_⟩
 refine callK_p (c49 _ _ _ _) rfl ?_
 simp (maxSteps := 9^9) (disch := (try simp only [lens]); omega) only [argSl, sm, ↓amb, mark_eq, simprocAttr, sz107, en141, dx]
 repeat refine ⟨by first | omega | (simp; done) | (unfold maxLen; omega) | (simp [maxLen]; omega) | assumption, ?_⟩
 refine hk _ ?_; clear hk k
 refine awp_sr [64] (by rw [hC]; rfl) fun k hk => ?_
 simp (maxSteps := 9^9) (disch := (try simp only [lens]); omega) only [argSl, sm, ↓amb, mark_eq, simprocAttr, dx]
 repeat refine ⟨by first | omega | (simp; done) | (unfold maxLen; omega) | (simp [maxLen]; omega) | assumption, ?_⟩
 refine hk _ ?_; clear hk k
 refine awp_cond rfl (fun hb => ?_) (fun hb => ?_)
 ·try simp only [hbx] at hb
  refine awp_sr [64] (by rw [hC]; rfl) fun k hk => ?_
  simp (maxSteps := 9^9) (disch := (try simp only [lens]); omega) only [argSl, sm, ↓amb, mark_eq, simprocAttr, sz107, dx]
  repeat refine ⟨by first | omega | (simp; done) | (unfold maxLen; omega) | (simp [maxLen]; omega) | assumption, ?_⟩
  refine hk _ ?_; clear hk k
  refine awp_ret ?_
  obtain ⟨e1, e2, e3, e4⟩ := Pl.part_err (w := w) (i := i) (Pl.partE1 hb) (hb)
  rw [e1, e2, e3, e4]
  refine retl rfl rfl ⟨retc rfl sz107 ?_, rett rfl ?_, rett rfl ?_, rett rfl ?_, trivial⟩
  simp (maxSteps := 9^9) (disch := (try simp only [lens]); omega) only [argSl, sm, ↓amb, mark_eq, simprocAttr, sz107, dx]
  ·exact .p (LeP.agg (.cons (LeP.seq _ _) (.cons (LeP.refl _) (.cons (LeP.seq _ _) .nil))))
  ·exact .p (LeP.refl _)
  ·exact .p (LeP.refl _)
  ·exact .p (LeP.refl _)
 ·try simp only [hbx] at hb
  refine awp_skip ?_
  refine h1 _ ?_; clear h1 k1
  have hth := hb
  obtain ⟨hR, hi0, hi1, hok, hd1, hg1, hg2, ht1⟩ := Pl.ok_of hth
  simp only [Pl.okT, Pl.task] at hok
  have hin : i.toNat < w.ts.length := by omega
  refine awp_sr [64] (by rw [hC]; rfl) fun k hk => ?_
  simp (maxSteps := 9^9) (disch := (try simp only [lens]); omega) only [argSl, sm, ↓amb, mark_eq, simprocAttr, fl107_0, sz104, el104, sz128, vr128, dx]
  repeat refine ⟨by first | omega | (simp; done) | (unfold maxLen; omega) | (simp [maxLen]; omega) | assumption, ?_⟩
  refine hk _ ?_; clear hk k
  refine awp_sr [64] (by rw [hC]; rfl) fun k hk => ?_
  simp (maxSteps := 9^9) (disch := (try simp only [lens]); omega) only [argSl, sm, ↓amb, mark_eq, simprocAttr, fl107_0, sz104, el104, dx]
  repeat refine ⟨by first | omega | (simp; done) | (unfold maxLen; omega) | (simp [maxLen]; omega) | assumption, ?_⟩
  refine hk _ ?_; clear hk k
  refine awp_seq fun k2 h2 => ?_
  refine awp_block ?_
  refine awp_testD [64] ⟨[0, 1, 0, 4, 15, 31, 63, 127, 255, 511, 1023], [0, 3, 7], [], [(1, 7)], some []⟩ 27 (decide ((w.ts.getD i.toNat default).high - (w.ts.getD i.toNat default).low ≤ w.grain ∨ 0 < (w.ts.getD i.toNat default).wait)) [1, 2, 4, 5, 6, 7, 9, 10] (by rw [hC]; rfl) (by kernel_rfl) (by kernel_rfl) (fun gd hgd k hk => ?_) ?_
  ·have g5 : gd 5 = some 33 := by rw [hgd]; rfl
   clear hgd
   simp (maxSteps := 9^9) (disch := (try simp only [lens]); omega) only [argSl, sm, ↓amb, mark_eq, simprocAttr, sz128, en142, fl107_1, sz3, fl128_3, gcase_undef, g5, dx]
   repeat' first | refine hk _ _ rfl rfl rfl rfl ?_ | (refine gsplit (fun hg => ?_) (fun hg => ?_) <;> (try simp only [hbx] at hg) <;> simp (maxSteps := 9^9) (disch := (try simp only [lens]); omega) only [argSl, sm, ↓amb, mark_eq, simprocAttr, sz128, en142, fl107_1, sz3, fl128_3, gcase_undef, g5, dx]) | apply And.intro | (refine callK_p (c50 (w.ts.getD i.toNat default) (by omega) (by omega) (by omega) (by omega)) rfl ?_; (try simp (maxSteps := 9^9) (disch := (try simp only [lens]); omega) only [argSl, sm, ↓amb, mark_eq, simprocAttr, sz128, en142, fl107_1, sz3, fl128_3, gcase_undef, g5, dx])) | fail
   all_goals first | rfl | omega | exact (decide_eq_true (by omega)).symm | exact (decide_eq_false (by omega)).symm | exact decide_eq_decide.mpr (by omega) | (refine Bool.eq_iff_iff.mpr ?_; simp only [beq_iff_eq, bne_iff_ne, ne_eq, decide_eq_true_eq]; omega) | (refine Bool.eq_iff_iff.mpr ?_; simp only [Bool.not_eq_true', Bool.not_eq_false', decide_eq_false_iff_not, decide_eq_true_eq, beq_iff_eq, bne_iff_ne, ne_eq]; omega) | assumption | (simp; done) | (simp [maxLen]; omega) | skip
  simp only [kp, argSl, simprocAttr, List.length_cons, List.length_nil]
  refine awp_cond rfl (fun hb => ?_) (fun hb => ?_)
  ·try simp only [hbx] at hb
   refine awp_sr [64] (by rw [hC]; rfl) fun k hk => ?_
   simp (maxSteps := 9^9) (disch := (try simp only [lens]); omega) only [argSl, sm, ↓amb, mark_eq, simprocAttr, sz107, dx]
   repeat refine ⟨by first | omega | (simp; done) | (unfold maxLen; omega) | (simp [maxLen]; omega) | assumption, ?_⟩
   refine hk _ ?_; clear hk k
   refine awp_ret ?_
   obtain ⟨e1, e2, e3, e4⟩ := Pl.part_err (w := w) (i := i) (Pl.partE2 hth hb) (by decide)
   rw [e1, e2, e3, e4]
   refine retl rfl rfl ⟨retc rfl sz107 ?_, rett rfl ?_, rett rfl ?_, rett rfl ?_, trivial⟩
   simp (maxSteps := 9^9) (disch := (try simp only [lens]); omega) only [argSl, sm, ↓amb, mark_eq, simprocAttr, sz107, dx]
   ·exact .p (LeP.agg (.cons (LeP.seq _ _) (.cons (LeP.refl _) (.cons (LeP.seq _ _) .nil))))
   ·exact .p (LeP.refl _)
   ·exact .p (LeP.refl _)
   ·exact .p (LeP.refl _)
  ·try simp only [hbx] at hb
   have hgr := hb
   refine awp_sr [64] (by rw [hC]; rfl) fun k hk => ?_
   simp (maxSteps := 9^9) (disch := (try simp only [lens]); omega) only [argSl, sm, ↓amb, mark_eq, simprocAttr, dx]
   repeat refine ⟨by first | omega | (simp; done) | (unfold maxLen; omega) | (simp [maxLen]; omega) | assumption, ?_⟩
   refine hk _ ?_; clear hk k
   refine awp_cond rfl (fun hb => ?_) (fun hb => ?_)
   ·try simp only [hbx] at hb
    refine awp_sr [64] (by rw [hC]; rfl) fun k hk => ?_
    simp (maxSteps := 9^9) (disch := (try simp only [lens]); omega) only [argSl, sm, ↓amb, mark_eq, simprocAttr, sz107, dx]
    repeat refine ⟨by first | omega | (simp; done) | (unfold maxLen; omega) | (simp [maxLen]; omega) | assumption, ?_⟩
    refine hk _ ?_; clear hk k
    refine awp_ret ?_
    obtain ⟨e1, e2, e3, e4⟩ := Pl.part_err (w := w) (i := i) (Pl.partE3 hth hgr (by omega)) (by decide)
    rw [e1, e2, e3, e4]
    refine retl rfl rfl ⟨retc rfl sz107 ?_, rett rfl ?_, rett rfl ?_, rett rfl ?_, trivial⟩
    simp (maxSteps := 9^9) (disch := (try simp only [lens]); omega) only [argSl, sm, ↓amb, mark_eq, simprocAttr, sz107, dx]
    ·exact .p (LeP.agg (.cons (LeP.seq _ _) (.cons (LeP.refl _) (.cons (LeP.seq _ _) .nil))))
    ·exact .p (LeP.refl _)
    ·exact .p (LeP.refl _)
    ·exact .p (LeP.refl _)
   ·try simp only [hbx] at hb
    refine awp_skip ?_
    refine h2 _ ?_; clear h2 k2
    have h0 := Pl.partE0 hth hgr (by omega)
    refine awp_sd [64] ⟨[0, 1, 0, 4, 12, 31, 63], [1, 2], [], [], some []⟩ (by rw [hC]; rfl) (by kernel_rfl) (by kernel_rfl) fun k hk => ?_
    simp (maxSteps := 9^9) (disch := (try simp only [lens]); omega) only [argSl, sm, ↓amb, mark_eq, simprocAttr, fl128_0, sz3, sz128, en142, dx]
    repeat refine ⟨by first | omega | (simp; done) | (unfold maxLen; omega) | (simp [maxLen]; omega) | assumption, ?_⟩
    refine callK_p (c50 (w.ts.getD i.toNat default) (by omega) (by omega) (by omega) (by omega)) rfl ?_
    simp (maxSteps := 9^9) (disch := (try simp only [lens]); omega) only [argSl, sm, ↓amb, mark_eq, simprocAttr, fl128_0, sz3, sz128, en142, dx]
    repeat refine ⟨by first | omega | (simp; done) | (unfold maxLen; omega) | (simp [maxLen]; omega) | assumption, ?_⟩
    refine hk _ ?_; clear hk k
    refine awp_sd [64] ⟨[0, 1, 3, 0, 8, 0, 0, 120, 0, 0, 512, 0, 3840, 8184, 16383, 32767, 65535], [1, 4, 10], [14, 16], [(2, 14), (2, 16), (14, 16)], none⟩ (by rw [hC]; rfl) (by kernel_rfl) (by kernel_rfl) fun k hk => ?_
    simp (maxSteps := 9^9) (disch := (try simp only [lens]); omega) only [argSl, sm, ↓amb, mark_eq, simprocAttr, fl107_0, sz104, en143, fl128_0, sz3, vr128, bt128, pl128_0, pl128_1, pl128_2, fl128_1, el104, by128, dx]
    repeat refine ⟨by first | omega | (simp; done) | (unfold maxLen; omega) | (simp [maxLen]; omega) | assumption, ?_⟩
    refine callK_o (c51 _ _ (by omega)) rfl ?_
    simp (maxSteps := 9^9) (disch := (try simp only [lens]); omega) only [argSl, sm, ↓amb, mark_eq, simprocAttr, fl107_0, sz104, en143, fl128_0, sz3, vr128, bt128, pl128_0, pl128_1, pl128_2, fl128_1, el104, by128, dx]
    repeat refine ⟨by first | omega | (simp; done) | (unfold maxLen; omega) | (simp [maxLen]; omega) | assumption, ?_⟩
    refine hk _ ?_; clear hk k
    refine awp_sr [64] (by rw [hC]; rfl) fun k hk => ?_
    simp (maxSteps := 9^9) (disch := (try simp only [lens]); omega) only [argSl, sm, ↓amb, mark_eq, simprocAttr, fl107_0, sz104, el104, sz128, fl128_3, sz3, dx]
    repeat refine ⟨by first | omega | (simp; done) | (unfold maxLen; omega) | (simp [maxLen]; omega) | assumption, ?_⟩
    refine hk _ ?_; clear hk k
    refine awp_sr [64] (by rw [hC]; rfl) fun k hk => ?_
    simp (maxSteps := 9^9) (disch := (try simp only [lens]); omega) only [argSl, sm, ↓amb, mark_eq, simprocAttr, sz107, dx]
    repeat refine ⟨by first | omega | (simp; done) | (unfold maxLen; omega) | (simp [maxLen]; omega) | assumption, ?_⟩
    refine hk _ ?_; clear hk k
    refine awp_ret ?_
    obtain ⟨e1, e2, e3, e4⟩ := Pl.part_ok h0
    rw [e1, e2, e3, e4]
    refine retl rfl rfl ⟨retc rfl sz107 ?_, rett rfl ?_, rett rfl ?_, rett rfl ?_, trivial⟩
    simp (maxSteps := 9^9) (disch := (try simp only [lens]); omega) only [argSl, sm, ↓amb, mark_eq, simprocAttr, sz107, dx]
    ·exact .agg_cons (.ownE rfl (by simp [Pl.parted, Pl.mid, List.map_set, List.set_append_left _ _ (show i.toNat < (w.ts.map taskC).length by simpa using hin)])) (.agg_cons (.p (LeP.refl _)) (.agg_cons (.p (LeP.seq _ _)) (.agg_nil)))
    ·exact .p (LeP.refl _)
    ·exact .p (LeP.refl _)
    ·exact .p (LeP.refl _)
end Go.Proofs.Ytjkkjiaeeobnkaa
end
section
set_option linter.unusedSimpArgs false
set_option linter.unusedVariables false
set_option maxRecDepth 100000
namespace Go.Proofs.Ytjkkjiaeeobnkaa
open Go.Am Go.Proofs
theorem bt139 : tBuilt Try.prog 139 = true := by kernel_rfl
theorem fl110_0 : tFld Try.prog 110 0 = some (0, 3, true) := by kernel_rfl
theorem fl110_2 : tFld Try.prog 110 2 = some (4, 1, false) := by kernel_rfl
theorem fl110_3 : tFld Try.prog 110 3 = some (5, 1, false) := by kernel_rfl
theorem fl110_4 : tFld Try.prog 110 4 = some (6, 1, false) := by kernel_rfl
theorem fl139_1 : tFld Try.prog 139 1 = some (1, 1, false) := by kernel_rfl
theorem fl139_2 : tFld Try.prog 139 2 = some (2, 1, false) := by kernel_rfl
theorem fl139_3 : tFld Try.prog 139 3 = some (3, 1, false) := by kernel_rfl
theorem pl139_1 : tPlace Try.prog 139 1 = some (1, 1) := by kernel_rfl
theorem pl139_2 : tPlace Try.prog 139 2 = some (2, 1) := by kernel_rfl
theorem sz139 : tSz Try.prog 139 = some (true, 4) := by kernel_rfl
theorem vr139 : tVar Try.prog 139 = some (true, [.lit (.int .i64 0), .lit (.int .i64 0), .lit (.int .i64 0), .lit (.bool false)]) := by kernel_rfl
end Go.Proofs.Ytjkkjiaeeobnkaa
end
section
set_option linter.unusedSimpArgs false
set_option linter.unusedVariables false
namespace Go.Pl
def firstB {α : Type} (p : α → Bool) (l : List α) : Int := match l.findIdx? p with
  | some i => i
  | none => -1
theorem firstB_at {α : Type} [Inhabited α] {p : α → Bool} {l : List α} {i : Nat} (hi : i < l.length) (h : ∀ j, j < i → p (l.getD j default) = false) (h2 : p (l.getD i default) = true) : firstB p l = i := by
  have : l.findIdx? p = some i := by
    rw [List.findIdx?_eq_some_iff_getElem]
    refine ⟨hi, ?_, fun j hj => ?_⟩
    · rw [List.getD_eq_getElem?_getD, List.getElem?_eq_getElem hi] at h2; exact h2
    · have := h j hj
      rw [List.getD_eq_getElem?_getD, List.getElem?_eq_getElem (by omega)] at this
      simpa using this
  unfold firstB; rw [this]
theorem all_of {α : Type} [Inhabited α] {p : α → Bool} {l : List α} {i : Nat} (hi : l.length ≤ i) (h : ∀ j, j < i → j < l.length → p (l.getD j default) = false) : ∀ x, x ∈ l → p x = false := fun x hx => by
  obtain ⟨k, hk, e⟩ := List.getElem_of_mem hx
  have := h k (by omega) hk
  rw [List.getD_eq_getElem?_getD, List.getElem?_eq_getElem hk] at this
  rw [← e]; exact this
theorem firstB_no {α : Type} [Inhabited α] {p : α → Bool} {l : List α} {i : Nat} (hi : l.length ≤ i) (h : ∀ j, j < i → j < l.length → p (l.getD j default) = false) : firstB p l = -1 := by
  have : l.findIdx? p = none := by
    rw [List.findIdx?_eq_none_iff]
    exact all_of hi h
  unfold firstB; rw [this]
theorem firstB_iff {α : Type} (p : α → Bool) (l : List α) : (0 ≤ firstB p l) ↔ ∃ x, x ∈ l ∧ p x = true := by
  unfold firstB
  split
  · rename_i i h
    rw [List.findIdx?_eq_some_iff_getElem] at h
    obtain ⟨hi, h1, _⟩ := h
    exact ⟨fun _ => ⟨_, List.getElem_mem hi, h1⟩, fun _ => by omega⟩
  · rename_i h
    rw [List.findIdx?_eq_none_iff] at h
    exact ⟨fun q => by omega, fun ⟨x, h1, h2⟩ => by rw [h x h1] at h2; cases h2⟩
theorem contains_eq {α : Type} (p : α → Bool) (q : α → Prop) [DecidablePred q] (l : List α) (h : ∀ x, p x = decide (¬ q x)) : decide (0 ≤ firstB p l) = decide (¬ ∀ x ∈ l, q x) := by
  refine decide_eq_decide.mpr ?_
  rw [firstB_iff]
  constructor
  · rintro ⟨x, h1, h2⟩ h3
    rw [h x, decide_eq_true_eq] at h2
    exact h2 (h3 x h1)
  · intro h3
    refine Decidable.byContradiction fun h4 => h3 fun x hx => Decidable.byContradiction fun h5 => h4 ⟨x, hx, ?_⟩
    rw [h x, decide_eq_true_eq]; exact h5
theorem br_1 {x : Batch} (h : x.kind = 1 ∨ x.kind = 2) : batchRight x ↔ (x.asks.length = 0 ∧ x.edges.length ≤ 60 ∧ ∀ e ∈ x.edges, okEdge e) := by
  unfold batchRight
  constructor
  · rintro (⟨_, q⟩ | ⟨q, _⟩)
    · exact q
    · omega
  · intro q; exact .inl ⟨h, q⟩
theorem br_3 {x : Batch} (h : x.kind = 3) : batchRight x ↔ (x.edges.length = 0 ∧ x.asks.length ≤ 60 ∧ ∀ a ∈ x.asks, okAsk a) := by
  unfold batchRight
  constructor
  · rintro (⟨q, _⟩ | ⟨_, q⟩)
    · omega
    · exact q
  · intro q; exact .inr ⟨h, q⟩
theorem br_no {x : Batch} (h1 : ¬ x.kind = 1) (h2 : ¬ x.kind = 2) (h3 : ¬ x.kind = 3) : ¬ batchRight x := by
  unfold batchRight
  rintro (⟨q, _⟩ | ⟨q, _⟩)
  · omega
  · exact h3 q
def shape (x : Batch) : Prop := 1 ≤ x.kind ∧ x.kind ≤ 3 ∧ (x.kind = 3 → x.edges.length = 0) ∧ (x.kind ≠ 3 → x.asks.length = 0) ∧ x.edges.length ≤ 60 ∧ x.asks.length ≤ 60
instance (x : Batch) : Decidable (shape x) := by unfold shape; infer_instance
def bdOk (n g w : Int) : Prop := cnt n g ∧ 1 ≤ w ∧ w ≤ 8
instance (n g w : Int) : Decidable (bdOk n g w) := by unfold bdOk; infer_instance
def bd (n g w : Int) : Int := if bdOk n g w then w * (cntT n g + 1) else 0
theorem bd_begin (n g w : Int) : (crewBegin n g w).2 = 0 ↔ bdOk n g w := by
  by_cases c1 : w < 1 ∨ 8 < w
  · rw [begin_1 c1]; exact ⟨fun h => absurd h (by decide), fun h => by unfold bdOk at h; omega⟩
  · by_cases c2 : cnt n g
    · have : (crewBegin n g w).2 = 0 := by unfold crewBegin; rw [if_neg c1, if_neg (by simpa using c2)]
      exact ⟨fun _ => ⟨c2, by omega, by omega⟩, fun _ => this⟩
    · have : (crewBegin n g w).2 = 1 := by unfold crewBegin; rw [if_neg c1, if_pos c2]
      exact ⟨fun h => by omega, fun q => absurd q.1 c2⟩
theorem bd_nn {n g w : Int} (h : bdOk n g w) : 0 ≤ w * (cntT n g + 1) ∧ w * (cntT n g + 1) ≤ 16000 ∧ 1 ≤ cntT n g ∧ cntT n g ≤ 1999 := by
  have h1 := cntT_pos h.1
  have h0 := h.2
  have h2 : cntT n g ≤ 1999 := by have := h.1; unfold cnt at this; omega
  refine ⟨Int.mul_nonneg (by omega) (by omega), ?_, h1.1, h2⟩
  have : w * (cntT n g + 1) ≤ 8 * 2000 := mul_up (by omega) (by omega) (by omega) (by omega)
  omega
theorem phB_bd {n : Int} {p : Plan} (h : phOk n p) : phB n p = p.picks.length + bd n p.grain p.workers ∧ 0 ≤ bd n p.grain p.workers ∧ bd n p.grain p.workers ≤ 16000 := by
  have hb : bdOk n p.grain p.workers := ⟨phOk_cnt h, by have := h.2.2; unfold planRight at this; omega, by have := h.2.2; unfold planRight at this; omega⟩
  have h1 := bd_nn hb
  unfold phB bd
  rw [if_pos h, if_pos hb]
  exact ⟨rfl, h1.1, h1.2.1⟩
end Go.Pl
end
section
set_option linter.unusedSimpArgs false
set_option linter.unusedVariables false
namespace Go.Pl
theorem rp_eq {c : Crew} {W r p : Nat} (hW : c.dq.length = W) (hp : p < W) : rp c (r * W + p) = p ∧ rv c (r * W + p) = p + 1 + r := by
  unfold rp rv
  rw [hW, Nat.mul_comm, Nat.mul_add_mod, Nat.mod_eq_of_lt hp, Nat.mul_add_div (by omega), Nat.div_eq_of_lt hp, Nat.add_zero]
  exact ⟨rfl, rfl⟩
theorem rounds_over {f k : Nat} {c : Crew} {ev : List Event} (h : c.over = true) : rounds f k c ev = (c, ev, 0) := by
  cases f with
  | zero => rfl
  | succ f => simp only [rounds]; rw [if_pos h]
theorem rounds_on {f k W r p : Nat} {c : Crew} {ev : List Event} (hW : c.dq.length = W) (hp : p < W) (hk : k = r * W + p) (ho : ¬ c.over = true) (hh : ¬ held c.dq = 0) (h0 : (step c p (p + 1 + r)).2.2 = 0) (hf : k < f) :
    rounds (f - k) k c ev = rounds (f - (k + 1)) (k + 1) (step c p (p + 1 + r)).1 (ev ++ [(step c p (p + 1 + r)).2.1]) := by
  obtain ⟨e1, e2⟩ := rp_eq (r := r) hW hp
  rw [← hk] at e1 e2
  rw [show f - k = (f - (k + 1)) + 1 by omega]
  simp only [rounds]
  rw [if_neg ho, if_neg hh, e1, e2, if_neg (by simpa using h0)]
theorem Run.most_on {n g : Int} {c : Crew} {ev : List Event} (h : Run n g c ev) (hs : ev.length < 100000) {k W r p : Nat} (hW : c.dq.length = W) (hp : p < W) (hk : k = r * W + p) (ho : ¬ c.over = true) :
    most n g (k + 1) (Pl.step c p (p + 1 + r)).1 (ev ++ [(Pl.step c p (p + 1 + r)).2.1]) + 1 ≤ most n g k c ev := by
  obtain ⟨e1, e2⟩ := rp_eq (r := r) hW hp
  rw [← hk] at e1 e2
  have := h.most_step hs k ho
  rw [e1, e2] at this; exact this
theorem Run.most_0 {n g : Int} {c : Crew} {ev : List Event} (h : Run n g c ev) {k r : Nat} (hk : k = r * c.dq.length) : 0 ≤ most n g k c ev := by
  by_cases ho : c.over = true
  · have h3 := h.rem.2.2.1 ho
    unfold most
    rw [if_pos (.inr ho), h3, hk, Nat.mul_mod_left]; simp
  · have := (h.most_pos k ho).1; omega
theorem picked_ok {n g w : Int} {P : List (Int × Int)} (hc : cnt n g) (hw : 1 ≤ w ∧ w ≤ 8) (hP : P.length ≤ 70000) :
    (crewBegin n g w).2 = 0 ∧ Run n g (crewBegin n g w).1 [] ∧ (picked P (crewBegin n g w).1 []).2.2 = 0 ∧ Run n g (picked P (crewBegin n g w).1 []).1 (picked P (crewBegin n g w).1 []).2.1 ∧ (picked P (crewBegin n g w).1 []).2.1.length ≤ P.length ∧
    most n g 0 (picked P (crewBegin n g w).1 []).1 (picked P (crewBegin n g w).1 []).2.1 ≤ 16010 ∧ whole n g w P = rounds 20000 0 (picked P (crewBegin n g w).1 []).1 (picked P (crewBegin n g w).1 []).2.1 := by
  obtain ⟨b0, b1, b2, b3, b4, b5⟩ := CInv.begins hc hw
  obtain ⟨p1, p2, p3, p4⟩ := picked_end P _ _ (Run.begins hc hw) (by simp; omega)
  have hr0 := p2.rem
  rw [b4] at p4
  have hT : toCome n g (picked P (crewBegin n g w).1 []).2.1 ≤ 1999 := hr0.2.1
  have e2 : (((picked P (crewBegin n g w).1 []).1.dq.length : Nat) : Int) = w := by rw [p4]; omega
  have hTw : toCome n g (picked P (crewBegin n g w).1 []).2.1 * w ≤ 1999 * 8 := mul_up hT hw.2 (by omega) (by omega)
  simp only [List.length_nil] at p3
  refine ⟨b0, Run.begins hc hw, p1, p2, by omega, ?_, ?_⟩
  · unfold most
    rw [Nat.zero_mod, e2]
    split <;> omega
  · unfold whole; rw [if_neg (by simpa using b0)]
theorem leaves_len (ts : List Task) (ev : List Event) : (leaves' ts ev).length ≤ ev.length := by
  induction ev with
  | nil => exact Nat.le_refl _
  | cons e l ih => simp only [leaves']; split <;> simp <;> omega
theorem leaves_mem {ts : List Task} {s : Int × Int} : ∀ {ev : List Event}, s ∈ leaves' ts ev → ∃ t : Nat, t < ts.length ∧ s = ((ts.getD t default).low, (ts.getD t default).high)
  | e :: l, h => by
    simp only [leaves'] at h
    split at h
    · rename_i hc
      rcases List.mem_cons.1 h with q | q
      · unfold isLeaf at hc
        simp only [Bool.and_eq_true, decide_eq_true_eq] at hc
        exact ⟨e.task.toNat, by omega, q⟩
      · exact leaves_mem q
    · exact leaves_mem h
theorem Run.leaf {n g : Int} {c : Crew} {ev : List Event} (h : Run n g c ev) {s : Int × Int} (hs : s ∈ leaves' c.work.ts ev) : 0 ≤ s.1 ∧ s.1 < s.2 ∧ s.2 ≤ n := by
  obtain ⟨un, hci⟩ := h.ci
  obtain ⟨t, ht, rfl⟩ := leaves_mem hs
  have h1 := hci.inv.ok t ht
  have h2 := hci.inv.dl
  unfold okT at h1
  dsimp only; omega
theorem unitsOf_take_len (l : List (Int × Int)) (i : Nat) : (unitsOf (l.take i)).length ≤ (unitsOf l).length := by
  have : unitsOf l = unitsOf (l.take i) ++ unitsOf (l.drop i) := by rw [← unitsOf_app, List.take_append_drop]
  rw [this, List.length_append]; omega
def ordL (n : Int) (p : Plan) : List (Int × Int) := leaves' (ordW n p).1.work.ts (ordW n p).2.1
theorem ordL_ok {n : Int} {p : Plan} (h : ordOk n p) (h0 : n ≠ 0) : ordU n p = unitsOf (ordL n p) ∧ ordS n p = (ordW n p).2.1.length ∧ (∀ s, s ∈ ordL n p → 0 ≤ s.1 ∧ s.1 < s.2 ∧ s.2 ≤ n) ∧ ((unitsOf (ordL n p)).length : Int) = n ∧ (ordL n p).length ≤ 100000 ∧ (ordW n p).2.1.length ≤ 100000 ∧ (ordW n p).2.2 = 0 := by
  obtain ⟨h1, h2, h3⟩ := ord_cnt h h0
  obtain ⟨_, _, e, r, o, l1, _⟩ := whole_ok (P := p.picks) h1 h2 (by omega)
  have hu := (ordU_ok h).2.2
  have hT := (cntT_pos h1).2
  have h1' := h1
  unfold cnt at h1'
  have hTw : cntT n p.grain * p.workers ≤ 1999 * 8 := mul_up (by omega) (by omega) (by omega) (by omega)
  have e1 : ordU n p = unitsOf (ordL n p) := by unfold ordU ordL; rw [if_pos ⟨h, h0⟩]
  have hl := leaves_len (ordW n p).1.work.ts (ordW n p).2.1
  have hW : ((ordW n p).2.1.length : Int) ≤ p.picks.length + cntT n p.grain * p.workers := l1
  refine ⟨e1, by unfold ordS; rw [if_pos ⟨h, h0⟩], fun s hs => r.leaf hs, by rw [← e1]; exact hu, by unfold ordL; omega, by omega, e⟩
theorem ord_bd {n : Int} {p : Plan} (h : ordOk n p) (h0 : n ≠ 0) : bdOk n p.grain p.workers ∧ p.picks.length ≤ 4000 := by
  obtain ⟨h1, h2, h3⟩ := ord_cnt h h0
  exact ⟨⟨h1, h2⟩, h3⟩
theorem upto_take_len (l : List (Int × Int)) (i k : Nat) (h : i < l.length) (hk : (k : Int) < (l.getD i default).2 - (l.getD i default).1) : (unitsOf (l.take i) ++ upto (l.getD i default).1 ((l.getD i default).1 + k)).length < (unitsOf l).length := by
  have h1 := unitsOf_take_len l (i + 1)
  rw [unitsOf_take l i h, List.length_append, upto_len] at h1
  rw [List.length_append, upto_len]; omega
theorem ordE0 {n : Int} {p : Plan} (h : ordOk n p) : ordE n p = 0 := by unfold ordE; rw [if_pos h]
theorem ord_no {n : Int} {p : Plan} (h : ¬ ordOk n p) : ordE n p = 1 ∧ ordU n p = [] ∧ ordS n p = 0 := by
  unfold ordE ordU ordS
  rw [if_neg h, if_neg (fun q => h q.1), if_neg (fun q => h q.1)]; exact ⟨rfl, rfl, rfl⟩
theorem ord_zero (p : Plan) : ordU 0 p = [] ∧ ordS 0 p = 0 := by
  unfold ordU ordS
  rw [if_neg (fun q => q.2 rfl), if_neg (fun q => q.2 rfl)]; exact ⟨rfl, rfl⟩
end Go.Pl
namespace Go.Pl
theorem isLeaf_no {ts : List Task} {e : Event} (h : e.parted = true ∨ e.task < 0 ∨ (ts.length : Int) ≤ e.task) : isLeaf ts e = false := by
  unfold isLeaf
  rcases h with q | q | q
  · rw [q]; rfl
  · rw [decide_eq_false (show ¬ 0 ≤ e.task by omega)]; simp
  · rw [decide_eq_false (show ¬ e.task < ts.length by omega)]; simp
theorem isLeaf_yes {ts : List Task} {e : Event} (h : ¬ (e.parted = true ∨ e.task < 0 ∨ (ts.length : Int) ≤ e.task)) : isLeaf ts e = true ∧ 0 ≤ e.task ∧ e.task < ts.length := by
  have h1 : e.parted = false := by
    cases hp : e.parted with
    | false => rfl
    | true => exact absurd (.inl hp) h
  have h2 : 0 ≤ e.task := Int.not_lt.1 fun q => h (.inr (.inl q))
  have h3 : e.task < ts.length := Int.not_le.1 fun q => h (.inr (.inr q))
  refine ⟨?_, h2, h3⟩
  unfold isLeaf
  rw [h1, decide_eq_true h2, decide_eq_true h3]; rfl
end Go.Pl
namespace Go.Pl
theorem ord_steps {n : Int} {p : Plan} (h : ordOk n p) : leB n p ≤ ordS n p ∧ ordS n p ≤ phB n p ∧ (p.picks.length = 0 → p.workers = 1 → ordS n p = leB n p) ∧ min n 1 ≤ leB n p ∧ leB n p ≤ 2 * n ∧ ordS n p ≤ 20000 := by
  by_cases h0 : n = 0
  · subst h0
    have h1 : leB 0 p = 0 := if_neg (fun q => absurd q.1 (by decide))
    have h2 : phB 0 p = 0 := if_neg (fun q => absurd q.1 (by decide))
    rw [h1, h2, (ord_zero p).2]
    exact ⟨by omega, by omega, fun _ _ => rfl, by omega, by omega, by omega⟩
  · obtain ⟨h1, h2, h3⟩ := ord_cnt h h0
    obtain ⟨_, _, e, r, o, l1, l2⟩ := whole_ok (P := p.picks) h1 h2 (by omega)
    have hph : phOk n p := by
      have := h1; unfold cnt at this
      exact ⟨by omega, by omega, h.2.2⟩
    have e1 : leB n p = cntT n p.grain := if_pos hph
    have e2 : phB n p = p.picks.length + p.workers * (cntT n p.grain + 1) := if_pos hph
    have e3 : ordS n p = (whole n p.grain p.workers p.picks).2.1.length := by unfold ordS ordW; rw [if_pos ⟨h, h0⟩]
    have e4 : p.workers * (cntT n p.grain + 1) = cntT n p.grain * p.workers + p.workers := by rw [Int.mul_add, Int.mul_one, Int.mul_comm]
    have h5 := cntT_pos h1
    have h6 := (phB_nn n p).2
    have hn : 0 ≤ n := h.1
    rw [e1, e3]
    refine ⟨l2, by rw [e2, e4]; omega, fun a b => ?_, by omega, by omega, by rw [e2, e4] at h6; omega⟩
    have l3 : cntT n p.grain * p.workers = cntT n p.grain := by rw [b, Int.mul_one]
    omega
end Go.Pl
end
section
set_option linter.unusedSimpArgs false
set_option linter.unusedVariables false
namespace Go.Pl
open Go.Am
theorem cut_eq {n w : Int} (h : 0 < w) : (n.tmod w < 0 → n.tmod w + w = n % w) ∧ (¬ n.tmod w < 0 → n.tmod w = n % w) := by
  obtain ⟨h1, h2⟩ := tmod_bound n h
  have h3 := Int.mul_tdiv_add_tmod n w
  constructor
  · intro h0
    have e : n = (n.tmod w + w) + w * (n.tdiv w - 1) := by rw [Int.mul_sub]; omega
    conv => rhs; rw [e]
    rw [Int.add_mul_emod_self_left, Int.emod_eq_of_lt (by omega) (by omega)]
  · intro h0
    have e : n = n.tmod w + w * n.tdiv w := by omega
    conv => rhs; rw [e]
    rw [Int.add_mul_emod_self_left, Int.emod_eq_of_lt (by omega) (by omega)]
theorem num_eq (d : List (List Int)) (n : Int) (h : 1 ≤ d.length) : num d n = n % (d.length : Int) := by
  have hw : (0 : Int) < (d.length : Int) := by omega
  obtain ⟨h1, h2⟩ := tmod_bound n hw
  obtain ⟨c1, c2⟩ := cut_eq (n := n) hw
  unfold num
  by_cases h0 : n.tmod (d.length : Int) < 0
  · rw [← c1 h0, Int.emod_eq_of_lt (by omega) (by omega)]
  · rw [← c2 h0, Int.add_emod_right, Int.emod_eq_of_lt (by omega) (by omega)]
theorem metL_at {n : Nat} {l : List Int} {t : Int} (h0 : 0 ≤ t) (h1 : t < n) : (metL n l).getD t.toNat default = decide (t ∈ l) := by
  unfold metL
  rw [List.getD_eq_getElem?_getD, List.getElem?_map, List.getElem?_range (by omega)]
  simp [Int.toNat_of_nonneg h0]
theorem metL_in {n : Nat} {l : List Int} {t : Int} (h0 : 0 ≤ t) (h1 : t < n) (h : (metL n l).getD t.toNat default = true) : t ∈ l := by
  rw [metL_at h0 h1] at h; exact of_decide_eq_true h
theorem metL_out {n : Nat} {l : List Int} {t : Int} (h0 : 0 ≤ t) (h1 : t < n) (h : (metL n l).getD t.toNat default = false) : t ∉ l := by
  rw [metL_at h0 h1] at h; exact of_decide_eq_false h
def heldOk (w : Work) (l : List Int) (t : Int) : Prop := 0 ≤ t ∧ t < w.ts.length ∧ t ∉ l ∧ (w.ts.getD t.toNat default).wait = 0 ∧ (great w t ∨ ¬ w.done.getD (w.ts.getD t.toNat default).low.toNat default = true)
instance (w : Work) (l : List Int) (t : Int) : Decidable (heldOk w l t) := by unfold heldOk; infer_instance
theorem heldOk_iff (w : Work) (l : List Int) (t : Int) : heldOk w l t ↔ t ∉ l ∧ holds w t := by
  unfold heldOk holds task
  simp only [Bool.not_eq_true]
  exact ⟨fun ⟨a, b, c, d⟩ => ⟨c, a, b, d⟩, fun ⟨c, a, b, d⟩ => ⟨a, b, c, d⟩⟩
theorem held_last {w : Work} {l : List Int} {t : Int} (h0 : 0 ≤ t) (h1 : t < w.ts.length) (h2 : t ∉ l) (h3 : (w.ts.getD t.toNat default).wait = 0) (h4 : ¬ great w t) :
    w.done.getD (w.ts.getD t.toNat default).low.toNat default = decide (¬ heldOk w l t) := by
  refine Bool.eq_iff_iff.mpr ?_
  simp only [decide_eq_true_eq]
  exact ⟨fun h q => q.2.2.2.2.elim (fun z => h4 z) (fun z => z h), fun h => Decidable.byContradiction fun z => h ⟨h0, h1, h2, h3, .inr z⟩⟩
theorem metOk_more {w : Work} {l : List Int} {t : Int} (h : metOk w l) (h2 : heldOk w l t) : metOk w (l ++ [t]) := by
  obtain ⟨h3, h4⟩ := (heldOk_iff w l t).1 h2
  refine ⟨?_, fun u hu => ?_⟩
  · rw [List.nodup_append]
    refine ⟨h.1, by simp, fun a ha b hb => ?_⟩
    simp at hb; subst hb
    intro e; subst e; exact h3 ha
  · rcases List.mem_append.1 hu with q | q
    · exact h.2 u q
    · simp at q; subst q; exact h4
theorem crewRight_not {c : Crew} {l r : List Int} {t : Int} (h2 : ¬ heldOk c.work l t) (e : c.dq.flatten = (l ++ [t]) ++ r) : ¬ crewRight c := by
  intro ⟨_, _, _, _, _, hn, hh⟩
  refine h2 ((heldOk_iff _ _ _).2 ⟨fun hm => ?_, hh t (by rw [e]; simp)⟩)
  rw [e] at hn
  have h3 := (List.nodup_append.1 (List.nodup_append.1 hn).1).2.2 t hm t (by simp)
  exact h3 rfl
end Go.Pl
namespace Go.Pl
open Go.Am
theorem step_at {c : Crew} {p v : Int} (h0 : (step c p v).2.2 = 0) : ∃ P V : Nat, p % (c.dq.length : Int) = (P : Int) ∧ v % (c.dq.length : Int) = (V : Int) ∧ (num c.dq p).toNat = P ∧ (num c.dq v).toNat = V ∧ num c.dq p = (P : Int) ∧ P < c.dq.length ∧ V < c.dq.length ∧ crewRight c ∧ ¬ c.steps = 100000 := by
  obtain ⟨hr, hst, _⟩ := step_cases c p v h0
  have n1 := num_bound c.dq p hr.2.1
  have n2 := num_bound c.dq v hr.2.1
  have e1 := num_eq c.dq p hr.2.1
  have e2 := num_eq c.dq v hr.2.1
  exact ⟨(num c.dq p).toNat, (num c.dq v).toNat, by omega, by omega, rfl, rfl, by omega, by omega, by omega, hr, hst⟩
theorem step_own {c : Crew} {p v : Int} {P V : Nat} (h0 : (step c p v).2.2 = 0) (hP : (num c.dq p).toNat = P) (hN : num c.dq p = (P : Int)) (hV : (num c.dq v).toNat = V) (hp : 0 < (c.dq.getD P default).length) {t : Int} (ht : t = (c.dq.getD P default).getD ((c.dq.getD P default).length - 1) 0) :
    (great c.work t → partE c.work t = 0 ∧ step c p v = (⟨partW c.work t, c.dq.set P ((c.dq.getD P default).take ((c.dq.getD P default).length - 1) ++ [partB c.work t, partA c.work t]), c.over, c.steps + 1, c.idle⟩, ⟨P, P, t, true⟩, 0)) ∧
    (¬ great c.work t → doE c.work t = 0 ∧ step c p v = (⟨doW c.work t, c.dq.set P ((c.dq.getD P default).take ((c.dq.getD P default).length - 1)), c.over || doO c.work t, c.steps + 1, c.idle⟩, ⟨P, P, t, false⟩, 0)) := by
  obtain ⟨hr, hst, hc⟩ := step_cases c p v h0
  have n1 := num_bound c.dq p hr.2.1
  have hPl : P < c.dq.length := by omega
  have fb : foundB c.dq P V = true := decide_eq_true (.inl hp)
  have fe : evF c.dq p v = ⟨P, P, t, false⟩ := by
    unfold evF evN foundE; rw [hP, if_pos hp, hN, ← ht]
  have fd : dqF c.dq p v = c.dq.set P ((c.dq.getD P default).take ((c.dq.getD P default).length - 1)) := by
    unfold dqF foundD; rw [hP, if_pos hp]
  rw [hP, hV, fb, fe, fd] at hc
  rcases hc with ⟨_, h1, h2⟩ | ⟨h1, _⟩
  · dsimp only at h1 h2
    constructor
    · intro hg
      have hpe : partE c.work t = 0 := by rw [goE, if_pos hg] at h1; exact h1
      obtain ⟨e1, e2, e3, e4, e5⟩ := go_part (t := t) (d := c.dq.set P ((c.dq.getD P default).take ((c.dq.getD P default).length - 1))) (p := P) (o := c.over) (e := (⟨P, P, t, false⟩ : Event)) rfl hg hpe
      rw [e2, e3, e4, e5] at h2
      refine ⟨hpe, h2.trans ?_⟩
      rw [List.set_set, show (c.dq.set P ((c.dq.getD P default).take ((c.dq.getD P default).length - 1))).getD P default = (c.dq.getD P default).take ((c.dq.getD P default).length - 1) from getD_set _ _ _ _ hPl]
    · intro hg
      obtain ⟨e1, e2, e3, e4, e5⟩ := go_do (t := t) (d := c.dq.set P ((c.dq.getD P default).take ((c.dq.getD P default).length - 1))) (p := P) (o := c.over) (e := (⟨P, P, t, false⟩ : Event)) rfl hg
      rw [e1] at h1
      rw [e2, e3, e4, e5] at h2
      exact ⟨h1, h2⟩
  · cases h1
theorem step_steal {c : Crew} {p v : Int} {P V : Nat} (h0 : (step c p v).2.2 = 0) (hP : (num c.dq p).toNat = P) (hN : num c.dq p = (P : Int)) (hV : (num c.dq v).toNat = V) (hp : ¬ 0 < (c.dq.getD P default).length) (hv : 0 < (c.dq.getD V default).length) {t : Int} (ht : t = (c.dq.getD V default).getD 0 0) :
    (great c.work t → partE c.work t = 0 ∧ step c p v = (⟨partW c.work t, (c.dq.set V ((c.dq.getD V default).drop 1)).set P [partB c.work t, partA c.work t], c.over, c.steps + 1, c.idle⟩, ⟨P, V, t, true⟩, 0)) ∧
    (¬ great c.work t → doE c.work t = 0 ∧ step c p v = (⟨doW c.work t, c.dq.set V ((c.dq.getD V default).drop 1), c.over || doO c.work t, c.steps + 1, c.idle⟩, ⟨P, V, t, false⟩, 0)) := by
  obtain ⟨hr, hst, hc⟩ := step_cases c p v h0
  have n1 := num_bound c.dq p hr.2.1
  have n2 := num_bound c.dq v hr.2.1
  have hPl : P < c.dq.length := by omega
  have hne : V ≠ P := fun e => hp (e ▸ hv)
  have fb : foundB c.dq P V = true := decide_eq_true (.inr hv)
  have fe : evF c.dq p v = ⟨P, V, t, false⟩ := by
    unfold evF evN foundE; rw [hP, hV, if_neg hp, if_pos hv, hN, ← ht]
  have fd : dqF c.dq p v = c.dq.set V ((c.dq.getD V default).drop 1) := by
    unfold dqF foundD; rw [hP, hV, if_neg hp, if_pos hv]
  rw [hP, hV, fb, fe, fd] at hc
  rcases hc with ⟨_, h1, h2⟩ | ⟨h1, _⟩
  · dsimp only at h1 h2
    constructor
    · intro hg
      have hpe : partE c.work t = 0 := by rw [goE, if_pos hg] at h1; exact h1
      obtain ⟨e1, e2, e3, e4, e5⟩ := go_part (t := t) (d := c.dq.set V ((c.dq.getD V default).drop 1)) (p := P) (o := c.over) (e := (⟨P, V, t, false⟩ : Event)) rfl hg hpe
      rw [e2, e3, e4, e5] at h2
      refine ⟨hpe, h2.trans ?_⟩
      have hnil : (c.dq.set V ((c.dq.getD V default).drop 1)).getD P default = [] := by
        rw [List.getD_eq_getElem?_getD, List.getElem?_set_ne hne, ← List.getD_eq_getElem?_getD]
        exact List.eq_nil_of_length_eq_zero (by omega)
      rw [hnil, List.nil_append]
    · intro hg
      obtain ⟨e1, e2, e3, e4, e5⟩ := go_do (t := t) (d := c.dq.set V ((c.dq.getD V default).drop 1)) (p := P) (o := c.over) (e := (⟨P, V, t, false⟩ : Event)) rfl hg
      rw [e1] at h1
      rw [e2, e3, e4, e5] at h2
      exact ⟨h1, h2⟩
  · cases h1
theorem step_idle' {c : Crew} {p v : Int} {P V : Nat} (h0 : (step c p v).2.2 = 0) (hP : (num c.dq p).toNat = P) (hN : num c.dq p = (P : Int)) (hV : (num c.dq v).toNat = V) (hp : ¬ 0 < (c.dq.getD P default).length) (hv : ¬ 0 < (c.dq.getD V default).length) :
    ¬ c.idle = 100000 ∧ step c p v = (⟨c.work, c.dq, c.over, c.steps + 1, c.idle + 1⟩, ⟨P, -1, -1, false⟩, 0) := by
  obtain ⟨hr, hst, hc⟩ := step_cases c p v h0
  have fb : foundB c.dq P V = false := decide_eq_false (fun q => q.elim hp hv)
  rw [hP, hV, fb] at hc
  rcases hc with ⟨h1, _⟩ | ⟨_, h1, h2⟩
  · cases h1
  · refine ⟨h1, h2.trans ?_⟩
    unfold evN; rw [hN]
end Go.Pl
namespace Go.Pl
theorem rounds_pre : ∀ (f k : Nat) (c : Crew) (ev : List Event), ∃ m, (rounds f k c ev).2.1 = ev ++ m
  | 0, k, c, ev => ⟨[], by simp [rounds]⟩
  | f + 1, k, c, ev => by
    simp only [rounds]
    split
    · exact ⟨[], by simp⟩
    · split
      · exact ⟨[], by simp⟩
      · split
        · exact ⟨[], by simp⟩
        · obtain ⟨m, hm⟩ := rounds_pre f (k + 1) (step c (rp c k) (rv c k)).1 (ev ++ [(step c (rp c k) (rv c k)).2.1])
          exact ⟨[(step c (rp c k) (rv c k)).2.1] ++ m, by rw [hm, List.append_assoc]⟩
theorem rounds_rest (f k : Nat) (c : Crew) (ev : List Event) : ev ++ (rounds f k c ev).2.1.drop ev.length = (rounds f k c ev).2.1 := by
  obtain ⟨m, hm⟩ := rounds_pre f k c ev
  rw [hm, List.drop_left]
end Go.Pl
end
section
set_option linter.unusedSimpArgs false
set_option linter.unusedVariables false
set_option maxRecDepth 100000
namespace Go.Proofs.Ytjkkjiaeeobnkaa
open Go.Am Go.Proofs
theorem en119 : enters Try.prog 119 = true := by kernel_rfl
theorem en130 : enters Try.prog 130 = true := by kernel_rfl
theorem en131 : enters Try.prog 131 = true := by kernel_rfl
theorem en132 : enters Try.prog 132 = true := by kernel_rfl
set_option maxHeartbeats 4000000 in
theorem c38 (c d : Bool) (w : Pl.Work) : PCall Try.prog 130 [workV c d w] (bV (decide (Pl.right w))) := by
 refine pcall_of_awp Try.func130 rfl (by simp [Try.ntmps130]) fun C hC => ?_
 refine awp_le (le_keep [0]) ?_
 simp only [kp, argSl, simprocAttr]
 refine awp_sr [] (by rw [hC]; rfl) fun k hk => ?_
 simp (maxSteps := 9^9) (disch := (try simp only [lens]); omega) only [argSl, sm, ↓amb, mark_eq, simprocAttr, dx]
 repeat refine ⟨by first | omega | (simp; done) | (unfold maxLen; omega) | (simp [maxLen]; omega) | assumption, ?_⟩
 refine hk _ ?_; clear hk k
 refine awp_le (le_keep [1]) ?_
 simp only [kp, argSl, simprocAttr]
 refine awp_sr [] (by rw [hC]; rfl) fun k hk => ?_
 simp (maxSteps := 9^9) (disch := (try simp only [lens]); omega) only [argSl, sm, ↓amb, mark_eq, simprocAttr, fl107_2, sz105, el105, dx]
 repeat refine ⟨by first | omega | (simp; done) | (unfold maxLen; omega) | (simp [maxLen]; omega) | assumption, ?_⟩
 refine hk _ ?_; clear hk k
 refine awp_seq fun k1 h1 => ?_
 refine awp_test [] 36 (decide (¬ (Pl.cnt w.done.length w.grain ∧ 1 ≤ w.ts.length ∧ w.ts.length ≤ 2000))) [1, 2, 3] (by rw [hC]; rfl) (fun gd hgd k hk => ?_) ?_
 ·have g3 : gd 3 = some 12 := by rw [hgd]; rfl
  have g8 : gd 8 = some 17 := by rw [hgd]; rfl
  have g12 : gd 12 = some 21 := by rw [hgd]; rfl
  have g16 : gd 16 = some 25 := by rw [hgd]; rfl
  have g22 : gd 22 = some 31 := by rw [hgd]; rfl
  clear hgd
  simp (maxSteps := 9^9) (disch := (try simp only [lens]); omega) only [argSl, sm, ↓amb, mark_eq, simprocAttr, fl107_1, sz3, fl107_0, sz104, el104, gcase_undef, g3, g8, g12, g16, g22, dx]
  repeat' first | refine hk _ _ rfl rfl rfl rfl ?_ | (refine gsplit (fun hg => ?_) (fun hg => ?_) <;> (try simp only [hbx] at hg) <;> simp (maxSteps := 9^9) (disch := (try simp only [lens]); omega) only [argSl, sm, ↓amb, mark_eq, simprocAttr, fl107_1, sz3, fl107_0, sz104, el104, gcase_undef, g3, g8, g12, g16, g22, dx]) | apply And.intro | fail
  all_goals first | rfl | omega | exact (decide_eq_true (by (try simp only [Pl.right, Pl.cnt, Pl.okT] at *); omega)).symm | exact (decide_eq_false (by (try simp only [Pl.right, Pl.cnt, Pl.okT] at *); omega)).symm | exact decide_eq_decide.mpr (by (try simp only [Pl.right, Pl.cnt, Pl.okT] at *); omega) | (refine Bool.eq_iff_iff.mpr ?_; (try simp only [Pl.right, Pl.cnt, Pl.okT] at *); simp only [beq_iff_eq, bne_iff_ne, ne_eq, decide_eq_true_eq]; omega) | (refine Bool.eq_iff_iff.mpr ?_; simp only [Bool.not_eq_true', Bool.not_eq_false', decide_eq_false_iff_not, decide_eq_true_eq, beq_iff_eq, bne_iff_ne, ne_eq]; (try simp only [Pl.right, Pl.cnt, Pl.okT] at *); omega) | assumption | (simp; done) | (simp [maxLen]; omega) | skip
 simp only [kp, argSl, simprocAttr, List.length_cons, List.length_nil]
 refine awp_cond rfl (fun hb => ?_) (fun hb => ?_)
 ·try simp only [hbx] at hb
  refine awp_le (le_keep []) ?_
  simp only [kp, argSl, simprocAttr]
  refine awp_sr [] (by rw [hC]; rfl) fun k hk => ?_
  simp (maxSteps := 9^9) (disch := (try simp only [lens]); omega) only [argSl, sm, ↓amb, mark_eq, simprocAttr, dx]
  repeat refine ⟨by first | omega | (simp; done) | (unfold maxLen; omega) | (simp [maxLen]; omega) | assumption, ?_⟩
  refine hk _ ?_; clear hk k
  refine awp_ret ?_
  refine ret1 rfl rfl ?_
  exact .p (LeP.of_eq (by rw [decide_eq_false (by intro h; simp only [Pl.right, Pl.cnt] at h hb; omega)]))
 ·try simp only [hbx] at hb
  refine awp_skip ?_
  refine h1 _ ?_; clear h1 k1
  refine awp_seq fun k2 h2 => ?_
  refine awp_le (le_keep [1, 2, 3]) ?_
  simp only [kp, argSl, simprocAttr]
  have hb0 := hb
  refine awp_sr [] (by rw [hC]; rfl) fun k hk => ?_
  simp (maxSteps := 9^9) (disch := (try simp only [lens]); omega) only [argSl, sm, ↓amb, mark_eq, simprocAttr, dx]
  repeat refine ⟨by first | omega | (simp; done) | (unfold maxLen; omega) | (simp [maxLen]; omega) | assumption, ?_⟩
  refine hk _ ?_; clear hk k
  refine awp_block ?_
  refine awp_loop (σ := Nat) (fun (i : Nat) => i ≤ w.ts.length ∧ ∀ j, j < i → Pl.okT w.done.length j (w.ts.getD j default)) (fun (i : Nat) => ⟨[(1, (.ptr 0 3 0 0)), (3, (.p (iV w.done.length))), (4, (.p (iV i)))], [(0, (.row 3 [[.p (.seq c (w.ts.map taskC)), .p (iV w.grain), .p (.seq d (w.done.map fun b => [bV b]))]]))], 1⟩) (fun i => w.ts.length - i) 0 ?_ ?_ fun x hx => ?_
  ·exact ⟨Nat.zero_le _, fun j hj => by omega⟩
  ·exact le_of [(0, _)] (by rfl) (by rfl) ⟨⟨_, rfl, .ptr rfl⟩, ⟨_, rfl, .p (.of_eq (by first | rfl | (simp only [PV.lit.injEq, Value.int.injEq, true_and]; omega) | (simp; done) | (simp; omega)))⟩, ⟨_, rfl, .p (.of_eq (by first | rfl | (simp only [PV.lit.injEq, Value.int.injEq, true_and]; omega) | (simp; done) | (simp; omega)))⟩, trivial⟩ ⟨⟨_, rfl, _, rfl, .one (.cons (.p (.refl _)) (.cons (.p (.refl _)) (.cons (.p (.refl _)) .nil)))⟩, trivial⟩
  obtain ⟨hx1, hx2⟩ := hx
  refine awp_seq fun k4 h4 => ?_
  refine awp_le (le_keep [0, 1, 2, 3, 4]) ?_
  simp only [kp, argSl, simprocAttr]
  refine awp_sr [] (by rw [hC]; rfl) fun k hk => ?_
  simp (maxSteps := 9^9) (disch := (try simp only [lens]); omega) only [argSl, sm, ↓amb, mark_eq, simprocAttr, fl107_0, sz104, el104, dx]
  repeat refine ⟨by first | omega | (simp; done) | (unfold maxLen; omega) | (simp [maxLen]; omega) | assumption, ?_⟩
  refine hk _ ?_; clear hk k
  refine awp_cond rfl (fun hb => ?_) (fun hb => ?_)
  ·try simp only [hbx] at hb
   refine awp_skip ?_
   refine h4 _ ?_; clear h4 k4
   refine awp_seq fun k5 h5 => ?_
   refine awp_block ?_
   refine awp_le (le_keep [0, 1, 2, 3, 4]) ?_
   simp only [kp, argSl, simprocAttr]
   refine awp_sr [] (by rw [hC]; rfl) fun k hk => ?_
   simp (maxSteps := 9^9) (disch := (try simp only [lens]); omega) only [argSl, sm, ↓amb, mark_eq, simprocAttr, fl107_0, sz104, el104, sz128, vr128, dx]
   repeat refine ⟨by first | omega | (simp; done) | (unfold maxLen; omega) | (simp [maxLen]; omega) | assumption, ?_⟩
   refine hk _ ?_; clear hk k
   refine awp_test [] 85 (decide (¬ Pl.okT w.done.length x (w.ts.getD x default))) [0, 1, 2, 3, 4] (by rw [hC]; rfl) (fun gd hgd k hk => ?_) ?_
   ·have g3 : gd 3 = some 52 := by rw [hgd]; rfl
    have g10 : gd 10 = some 59 := by rw [hgd]; rfl
    have g16 : gd 16 = some 65 := by rw [hgd]; rfl
    have g21 : gd 21 = some 70 := by rw [hgd]; rfl
    have g27 : gd 27 = some 76 := by rw [hgd]; rfl
    have g32 : gd 32 = some 81 := by rw [hgd]; rfl
    clear hgd
    simp (maxSteps := 9^9) (disch := (try simp only [lens]); omega) only [argSl, sm, ↓amb, mark_eq, simprocAttr, fl128_0, sz3, fl128_1, fl128_2, fl128_3, gcase_undef, g3, g10, g16, g21, g27, g32, dx]
    repeat' first | refine hk _ _ rfl rfl rfl rfl ?_ | (refine gsplit (fun hg => ?_) (fun hg => ?_) <;> (try simp only [hbx] at hg) <;> simp (maxSteps := 9^9) (disch := (try simp only [lens]); omega) only [argSl, sm, ↓amb, mark_eq, simprocAttr, fl128_0, sz3, fl128_1, fl128_2, fl128_3, gcase_undef, g3, g10, g16, g21, g27, g32, dx]) | apply And.intro | fail
    all_goals first | rfl | omega | exact (decide_eq_true (by (try simp only [Pl.right, Pl.cnt, Pl.okT] at *); omega)).symm | exact (decide_eq_false (by (try simp only [Pl.right, Pl.cnt, Pl.okT] at *); omega)).symm | exact decide_eq_decide.mpr (by (try simp only [Pl.right, Pl.cnt, Pl.okT] at *); omega) | (refine Bool.eq_iff_iff.mpr ?_; (try simp only [Pl.right, Pl.cnt, Pl.okT] at *); simp only [beq_iff_eq, bne_iff_ne, ne_eq, decide_eq_true_eq]; omega) | (refine Bool.eq_iff_iff.mpr ?_; simp only [Bool.not_eq_true', Bool.not_eq_false', decide_eq_false_iff_not, decide_eq_true_eq, beq_iff_eq, bne_iff_ne, ne_eq]; (try simp only [Pl.right, Pl.cnt, Pl.okT] at *); omega) | assumption | (simp; done) | (simp [maxLen]; omega) | skip
   simp only [kp, argSl, simprocAttr, List.length_cons, List.length_nil]
   refine awp_cond rfl (fun hb => ?_) (fun hb => ?_)
   ·try simp only [hbx] at hb
    refine awp_le (le_keep []) ?_
    simp only [kp, argSl, simprocAttr]
    refine awp_sr [] (by rw [hC]; rfl) fun k hk => ?_
    simp (maxSteps := 9^9) (disch := (try simp only [lens]); omega) only [argSl, sm, ↓amb, mark_eq, simprocAttr, dx]
    repeat refine ⟨by first | omega | (simp; done) | (unfold maxLen; omega) | (simp [maxLen]; omega) | assumption, ?_⟩
    refine hk _ ?_; clear hk k
    refine awp_ret ?_
    refine ret1 rfl rfl ?_
    exact .p (LeP.of_eq (by rw [decide_eq_false (fun h => by have h2 := h.2.2.2 x (by omega); have h3 := h.1; simp only [Pl.okT] at h2 hb; omega)]))
   ·try simp only [hbx] at hb
    refine awp_skip ?_
    refine h5 _ ?_; clear h5 k5
    refine awp_region [] (by rw [hC]; rfl) fun k hk => ?_
    simp (maxSteps := 9^9) (disch := (try simp only [lens]); omega) only [argSl, sm, ↓amb, mark_eq, simprocAttr, dx]
    repeat refine ⟨by first | omega | (simp; done) | (unfold maxLen; omega) | (simp [maxLen]; omega) | assumption, ?_⟩
    refine hk _ ?_; clear hk k
    refine ⟨x + 1, ⟨by omega, fun j hj => by by_cases e : j = x; subst e; exact hb; exact hx2 j (by omega)⟩, le_of [(0, _)] (by rfl) (by rfl) ⟨⟨_, rfl, .ptr rfl⟩, ⟨_, rfl, .p (.of_eq (by first | rfl | (simp only [PV.lit.injEq, Value.int.injEq, true_and]; omega) | (simp; done) | (simp; omega)))⟩, ⟨_, rfl, .p (.of_eq (by first | rfl | (simp only [PV.lit.injEq, Value.int.injEq, true_and]; omega) | (simp; done) | (simp; omega)))⟩, trivial⟩ ⟨⟨_, rfl, _, rfl, .one (.cons (.p (.refl _)) (.cons (.p (.refl _)) (.cons (.p (.refl _)) .nil)))⟩, trivial⟩, by omega⟩
  ·try simp only [hbx] at hb
   refine awp_exit ((if_pos rfl).mpr ?_)
   refine h2 _ ?_; clear h4 k4; clear h2 k2
   refine awp_le (le_keep []) ?_
   simp only [kp, argSl, simprocAttr]
   refine awp_sr [] (by rw [hC]; rfl) fun k hk => ?_
   simp (maxSteps := 9^9) (disch := (try simp only [lens]); omega) only [argSl, sm, ↓amb, mark_eq, simprocAttr, dx]
   repeat refine ⟨by first | omega | (simp; done) | (unfold maxLen; omega) | (simp [maxLen]; omega) | assumption, ?_⟩
   refine hk _ ?_; clear hk k
   refine awp_ret ?_
   refine ret1 rfl rfl ?_
   exact .p (LeP.of_eq (by rw [decide_eq_true (Pl.right_of (by omega) hb0 hx2)]))
set_option maxHeartbeats 4000000 in
theorem c52 (c d : Bool) (w : Pl.Work) (i : Int) : PCall Try.prog 132 [workV c d w, iV i] (bV (decide (0 ≤ i ∧ i < w.ts.length))) := by
 refine pcall_of_awp Try.func132 rfl (by simp [Try.ntmps132]) fun C hC => ?_
 refine awp_sr [] (by rw [hC]; rfl) fun k hk => ?_
 simp (maxSteps := 9^9) (disch := (try simp only [lens]); omega) only [argSl, sm, ↓amb, mark_eq, simprocAttr, dx]
 repeat refine ⟨by first | omega | (simp; done) | (unfold maxLen; omega) | (simp [maxLen]; omega) | assumption, ?_⟩
 refine hk _ ?_; clear hk k
 refine awp_test [] 4 (decide (0 ≤ i ∧ i < w.ts.length)) [] (by rw [hC]; rfl) (fun gd hgd k hk => ?_) ?_
 ·have g2 : gd 2 = some 7 := by rw [hgd]; rfl
  clear hgd
  simp (maxSteps := 9^9) (disch := (try simp only [lens]); omega) only [argSl, sm, ↓amb, mark_eq, simprocAttr, fl107_0, sz104, el104, gcase_undef, g2, dx]
  repeat' first | refine hk _ _ rfl rfl rfl rfl ?_ | (refine gsplit (fun hg => ?_) (fun hg => ?_) <;> (try simp only [hbx] at hg) <;> simp (maxSteps := 9^9) (disch := (try simp only [lens]); omega) only [argSl, sm, ↓amb, mark_eq, simprocAttr, fl107_0, sz104, el104, gcase_undef, g2, dx]) | apply And.intro | fail
  all_goals first | rfl | omega | exact (decide_eq_true (by omega)).symm | exact (decide_eq_false (by omega)).symm | exact decide_eq_decide.mpr (by omega) | (refine Bool.eq_iff_iff.mpr ?_; simp only [beq_iff_eq, bne_iff_ne, ne_eq, decide_eq_true_eq]; omega) | (refine Bool.eq_iff_iff.mpr ?_; simp only [Bool.not_eq_true', Bool.not_eq_false', decide_eq_false_iff_not, decide_eq_true_eq, beq_iff_eq, bne_iff_ne, ne_eq]; omega) | assumption | (simp; done) | (simp [maxLen]; omega) | skip
 simp only [kp, argSl, simprocAttr, List.length_cons, List.length_nil]
 refine awp_ret ?_
 refine ret1 rfl rfl ?_
 exact .p (LeP.refl _)
set_option maxHeartbeats 4000000 in
theorem c40 (c d : Bool) (w : Pl.Work) (i : Int) : PCall Try.prog 119 [workV c d w, iV i] (bV (decide (Pl.great w i))) := by
 refine pcall_of_awp Try.func119 rfl (by simp [Try.ntmps119]) fun C hC => ?_
 refine awp_sr [] (by rw [hC]; rfl) fun k hk => ?_
 simp (maxSteps := 9^9) (disch := (try simp only [lens]); omega) only [argSl, sm, ↓amb, mark_eq, simprocAttr, dx]
 repeat refine ⟨by first | omega | (simp; done) | (unfold maxLen; omega) | (simp [maxLen]; omega) | assumption, ?_⟩
 refine hk _ ?_; clear hk k
 refine awp_testD [] ⟨[0, 1, 3, 7, 7, 31, 63, 127, 255, 511, 255, 2047, 4095, 8191, 255, 16639, 255, 114943, 246015, 508159, 1048575, 255, 2097407, 8388607, 16777215, 33554431], [0, 3, 9, 13, 15, 19, 22], [], [(1, 3), (1, 9), (5, 9), (1, 13), (5, 13), (1, 15), (5, 15), (1, 19), (5, 19), (1, 22), (5, 22)], some []⟩ 4 (decide (Pl.great w i)) [] (by rw [hC]; rfl) (by kernel_rfl) (by kernel_rfl) (fun gd hgd k hk => ?_) ?_
 ·have g2 : gd 2 = some 7 := by rw [hgd]; rfl
  have g7 : gd 7 = some 12 := by rw [hgd]; rfl
  clear hgd
  simp (maxSteps := 9^9) (disch := (try simp only [lens]); omega) only [argSl, sm, ↓amb, mark_eq, simprocAttr, sz107, en130, en132, fl107_0, sz104, el104, sz128, fl128_1, sz3, fl128_0, fl107_1, gcase_undef, g2, g7, dx]
  repeat' first | refine hk _ _ rfl rfl rfl rfl ?_ | (refine gsplit (fun hg => ?_) (fun hg => ?_) <;> (try simp only [hbx] at hg) <;> (try (have hth := Pl.there_of (by assumption) hg; have q := Pl.ok_of hth; obtain ⟨_, hi0, hi1, hok, _, _, _, _⟩ := q; simp only [Pl.okT, Pl.task] at hok)) <;> simp (maxSteps := 9^9) (disch := (try simp only [lens]); omega) only [argSl, sm, ↓amb, mark_eq, simprocAttr, sz107, en130, en132, fl107_0, sz104, el104, sz128, fl128_1, sz3, fl128_0, fl107_1, gcase_undef, g2, g7, dx]) | apply And.intro | (refine callK_p (c38 _ _ _) rfl ?_; (try simp (maxSteps := 9^9) (disch := (try simp only [lens]); omega) only [argSl, sm, ↓amb, mark_eq, simprocAttr, sz107, en130, en132, fl107_0, sz104, el104, sz128, fl128_1, sz3, fl128_0, fl107_1, gcase_undef, g2, g7, dx])) | (refine callK_p (c52 _ _ _ _) rfl ?_; (try simp (maxSteps := 9^9) (disch := (try simp only [lens]); omega) only [argSl, sm, ↓amb, mark_eq, simprocAttr, sz107, en130, en132, fl107_0, sz104, el104, sz128, fl128_1, sz3, fl128_0, fl107_1, gcase_undef, g2, g7, dx])) | fail
  all_goals first | rfl | omega | exact (decide_eq_true (by (try simp only [Pl.great] at *); omega)).symm | exact (decide_eq_false (by (try simp only [Pl.great] at *); omega)).symm | exact decide_eq_decide.mpr (by (try simp only [Pl.great] at *); omega) | (refine Bool.eq_iff_iff.mpr ?_; (try simp only [Pl.great] at *); simp only [beq_iff_eq, bne_iff_ne, ne_eq, decide_eq_true_eq]; omega) | (refine Bool.eq_iff_iff.mpr ?_; simp only [Bool.not_eq_true', Bool.not_eq_false', decide_eq_false_iff_not, decide_eq_true_eq, beq_iff_eq, bne_iff_ne, ne_eq]; (try simp only [Pl.great] at *); omega) | assumption | (simp; done) | (simp [maxLen]; omega) | skip
  all_goals first | exact decide_eq_decide.mpr ⟨fun h => ⟨hth, h⟩, fun h => h.2⟩ | exact (decide_eq_false (p := Pl.great w i) (by intro h; obtain ⟨a, b, e, _⟩ := Pl.ok_of h.1; first | exact hg a | exact hg ⟨b, e⟩ | omega)).symm
 simp only [kp, argSl, simprocAttr, List.length_cons, List.length_nil]
 refine awp_ret ?_
 refine ret1 rfl rfl ?_
 exact .p (LeP.refl _)
set_option maxHeartbeats 4000000 in
theorem c27 (c d : Bool) (w : Pl.Work) (h1 : w.ts.length ≤ 1000000) (h2 : w.done.length ≤ 1000000) : HCall Try.prog 131 [.p (workV c d w)] [] (.agg [.own 0, .p (iV w.grain), .own 1]) [(0, .row 4 (lift (w.ts.map taskC))), (1, .row 1 (lift (w.done.map fun b => [bV b])))] := by
 refine hcall_of_awp Try.func131 rfl (by simp [Try.ntmps131]) fun C hC => ?_
 refine awp_sr [6, 12] (by rw [hC]; rfl) fun k hk => ?_
 simp (maxSteps := 9^9) (disch := (try simp only [lens]); omega) only [argSl, sm, ↓amb, mark_eq, simprocAttr, vr107, dx]
 repeat refine ⟨by first | omega | (simp; done) | (unfold maxLen; omega) | (simp [maxLen]; omega) | assumption, ?_⟩
 refine hk _ ?_; clear hk k
 refine awp_sd [6, 12] ⟨[0, 0, 2, 7, 0, 16, 0, 0, 128, 463, 1023, 2047], [2, 3, 5, 8, 9], [11], [(3, 9), (3, 11), (9, 11)], none⟩ (by rw [hC]; rfl) (by kernel_rfl) (by kernel_rfl) fun k hk => ?_
 simp (maxSteps := 9^9) (disch := (try simp only [lens]); omega) only [argSl, sm, ↓amb, mark_eq, simprocAttr, el104, vr128, fl107_0, sz104, by128, fl107_1, sz3, el105, vr4, fl107_2, sz105, by4, vr107, bt107, pl107_0, pl107_1, pl107_2, sz107, dx]
 repeat refine ⟨by first | omega | (simp; done) | (unfold maxLen; omega) | (simp [maxLen]; omega) | assumption, ?_⟩
 refine hk _ ?_; clear hk k
 refine awp_ret ?_
 refine rethc rfl rfl sz107 ?_
 simp (maxSteps := 9^9) (disch := (try simp only [lens]); omega) only [argSl, sm, ↓amb, mark_eq, simprocAttr, sz107, dx]
 exact le_of [(0, _), (1, _)] (by rfl) (by rfl) ⟨⟨_, rfl, .agg rfl (LeRow.cons (.own rfl) (LeRow.cons (.p (.refl _)) (LeRow.cons (.own rfl) .nil))).2⟩, trivial⟩ ⟨⟨_, rfl, _, rfl, .lift _⟩, ⟨_, rfl, _, rfl, .lift _⟩, trivial⟩
set_option maxHeartbeats 4000000 in
theorem c27p (c d : Bool) (w : Pl.Work) (h1 : w.ts.length ≤ 1000000) (h2 : w.done.length ≤ 1000000) : PCall Try.prog 131 [workV c d w] (workV false false w) := by
 refine pcall_of_awp Try.func131 rfl (by simp [Try.ntmps131]) fun C hC => ?_
 refine awp_sr [6, 12] (by rw [hC]; rfl) fun k hk => ?_
 simp (maxSteps := 9^9) (disch := (try simp only [lens]); omega) only [argSl, sm, ↓amb, mark_eq, simprocAttr, vr107, dx]
 repeat refine ⟨by first | omega | (simp; done) | (unfold maxLen; omega) | (simp [maxLen]; omega) | assumption, ?_⟩
 refine hk _ ?_; clear hk k
 refine awp_sd [6, 12] ⟨[0, 0, 2, 7, 0, 16, 0, 0, 128, 463, 1023, 2047], [2, 3, 5, 8, 9], [11], [(3, 9), (3, 11), (9, 11)], none⟩ (by rw [hC]; rfl) (by kernel_rfl) (by kernel_rfl) fun k hk => ?_
 simp (maxSteps := 9^9) (disch := (try simp only [lens]); omega) only [argSl, sm, ↓amb, mark_eq, simprocAttr, el104, vr128, fl107_0, sz104, by128, fl107_1, sz3, el105, vr4, fl107_2, sz105, by4, vr107, bt107, pl107_0, pl107_1, pl107_2, sz107, dx]
 repeat refine ⟨by first | omega | (simp; done) | (unfold maxLen; omega) | (simp [maxLen]; omega) | assumption, ?_⟩
 refine hk _ ?_; clear hk k
 refine awp_ret ?_
 refine retone rfl (retc rfl sz107 ?_)
 simp (maxSteps := 9^9) (disch := (try simp only [lens]); omega) only [argSl, sm, ↓amb, mark_eq, simprocAttr, sz107, dx]
 exact .agg_cons (.ownE rfl rfl) (.agg_cons (.p (LeP.refl _)) (.agg_cons (.ownE rfl rfl) (.agg_nil)))
set_option maxHeartbeats 4000000 in
theorem c29 (c d : Bool) (w : Pl.Work) (i : Int) : PCall Try.prog 120 [workV c d w, iV i] (.tup [workV false false (Pl.partW w i), iV (Pl.partA w i), iV (Pl.partB w i), iV (Pl.partE w i)]) := by
 refine pcall_of_awp Try.func120 rfl (by simp [Try.ntmps120]) fun C hC => ?_
 refine awp_sr [] (by rw [hC]; rfl) fun k hk => ?_
 simp (maxSteps := 9^9) (disch := (try simp only [lens]); omega) only [argSl, sm, ↓amb, mark_eq, simprocAttr, vr107, dx]
 repeat refine ⟨by first | omega | (simp; done) | (unfold maxLen; omega) | (simp [maxLen]; omega) | assumption, ?_⟩
 refine hk _ ?_; clear hk k
 refine awp_seq fun k1 h1 => ?_
 refine awp_block ?_
 refine awp_sr [] (by rw [hC]; rfl) fun k hk => ?_
 simp (maxSteps := 9^9) (disch := (try simp only [lens]); omega) only [argSl, sm, ↓amb, mark_eq, simprocAttr, sz107, en130, dx]
 repeat refine ⟨by first | omega | (simp; done) | (unfold maxLen; omega) | (simp [maxLen]; omega) | assumption, ?_⟩
 refine callK_p (c38 _ _ _) rfl ?_
 simp (maxSteps := 9^9) (disch := (try simp only [lens]); omega) only [argSl, sm, ↓amb, mark_eq, simprocAttr, sz107, en130, dx]
 repeat refine ⟨by first | omega | (simp; done) | (unfold maxLen; omega) | (simp [maxLen]; omega) | assumption, ?_⟩
 refine hk _ ?_; clear hk k
 refine awp_cond rfl (fun hb => ?_) (fun hb => ?_)
 ·try simp only [hbx] at hb
  refine awp_sr [] (by rw [hC]; rfl) fun k hk => ?_
  simp (maxSteps := 9^9) (disch := (try simp only [lens]); omega) only [argSl, sm, ↓amb, mark_eq, simprocAttr, sz107, dx]
  repeat refine ⟨by first | omega | (simp; done) | (unfold maxLen; omega) | (simp [maxLen]; omega) | assumption, ?_⟩
  refine hk _ ?_; clear hk k
  refine awp_ret ?_
  obtain ⟨e1, e2, e3, e4⟩ := Pl.part_err (w := w) (i := i) ((Pl.partE1 (by rw [Pl.there, if_pos hb]; decide)).trans (by rw [Pl.there, if_pos hb])) (by decide)
  rw [e1, e2, e3, e4]
  refine retl rfl rfl ⟨retc rfl sz107 ?_, rett rfl ?_, rett rfl ?_, rett rfl ?_, trivial⟩
  simp (maxSteps := 9^9) (disch := (try simp only [lens]); omega) only [argSl, sm, ↓amb, mark_eq, simprocAttr, sz107, dx]
  ·exact .p (LeP.agg (.cons (LeP.seq _ _) (.cons (LeP.refl _) (.cons (LeP.seq _ _) .nil))))
  ·exact .p (LeP.refl _)
  ·exact .p (LeP.refl _)
  ·exact .p (LeP.refl _)
 ·try simp only [hbx] at hb
  have hR := hb
  refine awp_sr [] (by rw [hC]; rfl) fun k hk => ?_
  simp (maxSteps := 9^9) (disch := (try simp only [lens]); omega) only [argSl, sm, ↓amb, mark_eq, simprocAttr, sz107, en132, dx]
  repeat refine ⟨by first | omega | (simp; done) | (unfold maxLen; omega) | (simp [maxLen]; omega) | assumption, ?_⟩
  refine callK_p (c52 _ _ _ _) rfl ?_
  simp (maxSteps := 9^9) (disch := (try simp only [lens]); omega) only [argSl, sm, ↓amb, mark_eq, simprocAttr, sz107, en132, dx]
  repeat refine ⟨by first | omega | (simp; done) | (unfold maxLen; omega) | (simp [maxLen]; omega) | assumption, ?_⟩
  refine hk _ ?_; clear hk k
  refine awp_cond rfl (fun hb => ?_) (fun hb => ?_)
  ·try simp only [hbx] at hb
   refine awp_sr [] (by rw [hC]; rfl) fun k hk => ?_
   simp (maxSteps := 9^9) (disch := (try simp only [lens]); omega) only [argSl, sm, ↓amb, mark_eq, simprocAttr, sz107, dx]
   repeat refine ⟨by first | omega | (simp; done) | (unfold maxLen; omega) | (simp [maxLen]; omega) | assumption, ?_⟩
   refine hk _ ?_; clear hk k
   refine awp_ret ?_
   obtain ⟨e1, e2, e3, e4⟩ := Pl.part_err (w := w) (i := i) ((Pl.partE1 (by rw [Pl.there, if_neg (by simpa using hR), if_pos (by omega)]; decide)).trans (by rw [Pl.there, if_neg (by simpa using hR), if_pos (by omega)])) (by decide)
   rw [e1, e2, e3, e4]
   refine retl rfl rfl ⟨retc rfl sz107 ?_, rett rfl ?_, rett rfl ?_, rett rfl ?_, trivial⟩
   simp (maxSteps := 9^9) (disch := (try simp only [lens]); omega) only [argSl, sm, ↓amb, mark_eq, simprocAttr, sz107, dx]
   ·exact .p (LeP.agg (.cons (LeP.seq _ _) (.cons (LeP.refl _) (.cons (LeP.seq _ _) .nil))))
   ·exact .p (LeP.refl _)
   ·exact .p (LeP.refl _)
   ·exact .p (LeP.refl _)
  ·try simp only [hbx] at hb
   have hth := Pl.there_of hR (by assumption)
   obtain ⟨_, hi0, hi1, hok, hd1, hg1, hg2, ht1⟩ := Pl.ok_of hth
   simp only [Pl.okT, Pl.task] at hok
   have hin : i.toNat < w.ts.length := by omega
   refine awp_test [] 23 (decide (¬ Pl.great w i ∨ ¬ (w.ts.getD i.toNat default).wait = 0)) [1, 2, 4, 5, 6, 7] (by rw [hC]; rfl) (fun gd hgd k hk => ?_) ?_
   ·have g4 : gd 4 = some 28 := by rw [hgd]; rfl
    clear hgd
    simp (maxSteps := 9^9) (disch := (try simp only [lens]); omega) only [argSl, sm, ↓amb, mark_eq, simprocAttr, sz107, en119, fl107_0, sz104, el104, sz128, fl128_3, sz3, gcase_undef, g4, dx]
    repeat' first | refine hk _ _ rfl rfl rfl rfl ?_ | (refine gsplit (fun hg => ?_) (fun hg => ?_) <;> (try simp only [hbx] at hg) <;> simp (maxSteps := 9^9) (disch := (try simp only [lens]); omega) only [argSl, sm, ↓amb, mark_eq, simprocAttr, sz107, en119, fl107_0, sz104, el104, sz128, fl128_3, sz3, gcase_undef, g4, dx]) | apply And.intro | (refine callK_p (c40 _ _ _ _) rfl ?_; (try simp (maxSteps := 9^9) (disch := (try simp only [lens]); omega) only [argSl, sm, ↓amb, mark_eq, simprocAttr, sz107, en119, fl107_0, sz104, el104, sz128, fl128_3, sz3, gcase_undef, g4, dx])) | fail
    all_goals first | rfl | omega | exact (decide_eq_true (by (try simp only [Pl.great, Pl.task] at *); omega)).symm | exact (decide_eq_false (by (try simp only [Pl.great, Pl.task] at *); omega)).symm | exact decide_eq_decide.mpr (by (try simp only [Pl.great, Pl.task] at *); omega) | (refine Bool.eq_iff_iff.mpr ?_; (try simp only [Pl.great, Pl.task] at *); simp only [beq_iff_eq, bne_iff_ne, ne_eq, decide_eq_true_eq]; omega) | (refine Bool.eq_iff_iff.mpr ?_; simp only [Bool.not_eq_true', Bool.not_eq_false', decide_eq_false_iff_not, decide_eq_true_eq, beq_iff_eq, bne_iff_ne, ne_eq]; (try simp only [Pl.great, Pl.task] at *); omega) | assumption | (simp; done) | (simp [maxLen]; omega) | skip
    all_goals first | (simp only [hg, not_true_eq_false, false_or]; exact Pl.int_ne _) | (simp [hg]; done)
   simp only [kp, argSl, simprocAttr, List.length_cons, List.length_nil]
   refine awp_cond rfl (fun hb => ?_) (fun hb => ?_)
   ·try simp only [hbx] at hb
    refine awp_sr [] (by rw [hC]; rfl) fun k hk => ?_
    simp (maxSteps := 9^9) (disch := (try simp only [lens]); omega) only [argSl, sm, ↓amb, mark_eq, simprocAttr, sz107, dx]
    repeat refine ⟨by first | omega | (simp; done) | (unfold maxLen; omega) | (simp [maxLen]; omega) | assumption, ?_⟩
    refine hk _ ?_; clear hk k
    refine awp_ret ?_
    obtain ⟨e1, e2, e3, e4⟩ := Pl.part_err (w := w) (i := i) (Pl.partE2 hth (by simp only [Pl.great, Pl.task] at *; omega)) (by decide)
    rw [e1, e2, e3, e4]
    refine retl rfl rfl ⟨retc rfl sz107 ?_, rett rfl ?_, rett rfl ?_, rett rfl ?_, trivial⟩
    simp (maxSteps := 9^9) (disch := (try simp only [lens]); omega) only [argSl, sm, ↓amb, mark_eq, simprocAttr, sz107, dx]
    ·exact .p (LeP.agg (.cons (LeP.seq _ _) (.cons (LeP.refl _) (.cons (LeP.seq _ _) .nil))))
    ·exact .p (LeP.refl _)
    ·exact .p (LeP.refl _)
    ·exact .p (LeP.refl _)
   ·try simp only [hbx] at hb
    have hgr := hb
    refine awp_sr [] (by rw [hC]; rfl) fun k hk => ?_
    simp (maxSteps := 9^9) (disch := (try simp only [lens]); omega) only [argSl, sm, ↓amb, mark_eq, simprocAttr, fl107_0, sz104, el104, dx]
    repeat refine ⟨by first | omega | (simp; done) | (unfold maxLen; omega) | (simp [maxLen]; omega) | assumption, ?_⟩
    refine hk _ ?_; clear hk k
    refine awp_cond rfl (fun hb => ?_) (fun hb => ?_)
    ·try simp only [hbx] at hb
     refine awp_sr [] (by rw [hC]; rfl) fun k hk => ?_
     simp (maxSteps := 9^9) (disch := (try simp only [lens]); omega) only [argSl, sm, ↓amb, mark_eq, simprocAttr, sz107, dx]
     repeat refine ⟨by first | omega | (simp; done) | (unfold maxLen; omega) | (simp [maxLen]; omega) | assumption, ?_⟩
     refine hk _ ?_; clear hk k
     refine awp_ret ?_
     obtain ⟨e1, e2, e3, e4⟩ := Pl.part_err (w := w) (i := i) (Pl.partE3 hth (by simp only [Pl.great, Pl.task] at *; omega) (by omega)) (by decide)
     rw [e1, e2, e3, e4]
     refine retl rfl rfl ⟨retc rfl sz107 ?_, rett rfl ?_, rett rfl ?_, rett rfl ?_, trivial⟩
     simp (maxSteps := 9^9) (disch := (try simp only [lens]); omega) only [argSl, sm, ↓amb, mark_eq, simprocAttr, sz107, dx]
     ·exact .p (LeP.agg (.cons (LeP.seq _ _) (.cons (LeP.refl _) (.cons (LeP.seq _ _) .nil))))
     ·exact .p (LeP.refl _)
     ·exact .p (LeP.refl _)
     ·exact .p (LeP.refl _)
    ·try simp only [hbx] at hb
     refine awp_skip ?_
     refine h1 _ ?_; clear h1 k1
     have h0 := Pl.partE0 hth (by simp only [Pl.great, Pl.task] at *; omega) (by omega)
     refine awp_sr [] (by rw [hC]; rfl) fun k hk => ?_
     simp (maxSteps := 9^9) (disch := (try simp only [lens]); omega) only [argSl, sm, ↓amb, mark_eq, simprocAttr, sz107, en131, vr107, dx]
     repeat refine ⟨by first | omega | (simp; done) | (unfold maxLen; omega) | (simp [maxLen]; omega) | assumption, ?_⟩
     refine callK_h (c27 c d w (by omega) (by omega)) [] [] (by first | rfl | (simp only [hm]; done)) (by first | rfl | (simp [namesOk, lkp]; done)) ?_ ?_ ?_ ?_ ?_ ?_ ?_
     (iterate 6 (focus (first | trivial | (intro n hn; cases hn; done) | (simp (maxSteps := 9^9) (disch := (try simp only [lens]); omega) only [argSl, sm, ↓amb, mark_eq, simprocAttr, sz107, en131, vr107, dx, hmx, List.filter_cons, Nat.reduceBNe, imp_self, implies_true]; done))))
     simp (maxSteps := 9^9) (disch := (try simp only [lens]); omega) only [argSl, sm, ↓amb, mark_eq, simprocAttr, sz107, en131, vr107, dx, hm, List.filter_cons, List.filter_nil, Nat.reduceBNe, Option.map_none]
     repeat refine ⟨by first | omega | (simp; done) | (unfold maxLen; omega) | (simp [maxLen]; omega) | assumption, ?_⟩
     refine hk _ ?_; clear hk k
     refine awp_sr [] (by rw [hC]; rfl) fun k hk => ?_
     simp (maxSteps := 9^9) (disch := (try simp only [lens]); omega) only [argSl, sm, ↓amb, mark_eq, simprocAttr, fl107_0, sz104, el104, dx]
     repeat refine ⟨by first | omega | (simp; done) | (unfold maxLen; omega) | (simp [maxLen]; omega) | assumption, ?_⟩
     refine hk _ ?_; clear hk k
     refine awp_sr [] (by rw [hC]; rfl) fun k hk => ?_
     simp (maxSteps := 9^9) (disch := (try simp only [lens]); omega) only [argSl, sm, ↓amb, mark_eq, simprocAttr, fl107_0, sz104, el104, sz128, vr128, dx]
     repeat refine ⟨by first | omega | (simp; done) | (unfold maxLen; omega) | (simp [maxLen]; omega) | assumption, ?_⟩
     refine hk _ ?_; clear hk k
     refine awp_sr [] (by rw [hC]; rfl) fun k hk => ?_
     simp (maxSteps := 9^9) (disch := (try simp only [lens]); omega) only [argSl, sm, ↓amb, mark_eq, simprocAttr, fl128_0, sz3, fl128_1, dx]
     repeat refine ⟨by first | omega | (simp; done) | (unfold maxLen; omega) | (simp [maxLen]; omega) | assumption, ?_⟩
     refine hk _ ?_; clear hk k
     refine awp_sr [] (by rw [hC]; rfl) fun k hk => ?_
     simp (maxSteps := 9^9) (disch := (try simp only [lens]); omega) only [argSl, sm, ↓amb, mark_eq, simprocAttr, fl107_0, sz104, el104, sz128, fl128_3, sz3, dx]
     repeat refine ⟨by first | omega | (simp; done) | (unfold maxLen; omega) | (simp [maxLen]; omega) | assumption, ?_⟩
     refine hk _ ?_; clear hk k
     refine awp_sr [] (by rw [hC]; rfl) fun k hk => ?_
     simp (maxSteps := 9^9) (disch := (try simp only [lens]); omega) only [argSl, sm, ↓amb, mark_eq, simprocAttr, fl107_0, sz104, fl128_0, sz3, vr128, bt128, pl128_0, pl128_1, pl128_2, fl128_1, el104, by128, dx]
     repeat refine ⟨by first | omega | (simp; done) | (unfold maxLen; omega) | (simp [maxLen]; omega) | assumption, ?_⟩
     refine hk _ ?_; clear hk k
     refine awp_sr [] (by rw [hC]; rfl) fun k hk => ?_
     simp (maxSteps := 9^9) (disch := (try simp only [lens]); omega) only [argSl, sm, ↓amb, mark_eq, simprocAttr, sz107, dx]
     repeat refine ⟨by first | omega | (simp; done) | (unfold maxLen; omega) | (simp [maxLen]; omega) | assumption, ?_⟩
     refine hk _ ?_; clear hk k
     refine awp_ret ?_
     obtain ⟨e1, e2, e3, e4⟩ := Pl.part_ok h0
     rw [e1, e2, e3, e4]
     refine retl rfl rfl ⟨retc rfl sz107 ?_, rett rfl ?_, rett rfl ?_, rett rfl ?_, trivial⟩
     simp (maxSteps := 9^9) (disch := (try simp only [lens]); omega) only [argSl, sm, ↓amb, mark_eq, simprocAttr, sz107, dx]
     ·exact .agg_cons (.p (LeP.sq (by simp [Pl.parted, Pl.mid, List.map_set]))) (.agg_cons (.p (LeP.refl _)) (.agg_cons (.ownE rfl rfl) (.agg_nil)))
     ·exact .p (LeP.refl _)
     ·exact .p (LeP.refl _)
     ·exact .p (LeP.refl _)
set_option maxHeartbeats 4000000 in
theorem c31 (c d : Bool) (w : Pl.Work) (i : Int) : PCall Try.prog 121 [workV c d w, iV i] (.tup [workV false false (Pl.doW w i), bV (Pl.doO w i), iV (Pl.doE w i)]) := by
 refine pcall_of_awp Try.func121 rfl (by simp [Try.ntmps121]) fun C hC => ?_
 refine awp_le (le_keep [0, 1]) ?_
 simp only [kp, argSl, simprocAttr]
 refine awp_sr [] (by rw [hC]; rfl) fun k hk => ?_
 simp (maxSteps := 9^9) (disch := (try simp only [lens]); omega) only [argSl, sm, ↓amb, mark_eq, simprocAttr, vr107, dx]
 repeat refine ⟨by first | omega | (simp; done) | (unfold maxLen; omega) | (simp [maxLen]; omega) | assumption, ?_⟩
 refine hk _ ?_; clear hk k
 refine awp_seq fun k1 h1 => ?_
 refine awp_block ?_
 refine awp_le (le_keep [1, 2, 4, 5, 6]) ?_
 simp only [kp, argSl, simprocAttr]
 refine awp_sr [] (by rw [hC]; rfl) fun k hk => ?_
 simp (maxSteps := 9^9) (disch := (try simp only [lens]); omega) only [argSl, sm, ↓amb, mark_eq, simprocAttr, sz107, en130, dx]
 repeat refine ⟨by first | omega | (simp; done) | (unfold maxLen; omega) | (simp [maxLen]; omega) | assumption, ?_⟩
 refine callK_p (c38 _ _ _) rfl ?_
 simp (maxSteps := 9^9) (disch := (try simp only [lens]); omega) only [argSl, sm, ↓amb, mark_eq, simprocAttr, sz107, en130, dx]
 repeat refine ⟨by first | omega | (simp; done) | (unfold maxLen; omega) | (simp [maxLen]; omega) | assumption, ?_⟩
 refine hk _ ?_; clear hk k
 refine awp_cond rfl (fun hb => ?_) (fun hb => ?_)
 ·try simp only [hbx] at hb
  refine awp_le (le_keep [2, 4]) ?_
  simp only [kp, argSl, simprocAttr]
  refine awp_sr [] (by rw [hC]; rfl) fun k hk => ?_
  simp (maxSteps := 9^9) (disch := (try simp only [lens]); omega) only [argSl, sm, ↓amb, mark_eq, simprocAttr, sz107, dx]
  repeat refine ⟨by first | omega | (simp; done) | (unfold maxLen; omega) | (simp [maxLen]; omega) | assumption, ?_⟩
  refine hk _ ?_; clear hk k
  refine awp_ret ?_
  obtain ⟨e1, e2, e4⟩ := Pl.do_err (w := w) (i := i) ((Pl.doE1 (by rw [Pl.there, if_pos hb]; decide)).trans (by rw [Pl.there, if_pos hb])) (by decide)
  rw [e1, e2, e4]
  refine retl rfl rfl ⟨retc rfl sz107 ?_, rett rfl ?_, rett rfl ?_, trivial⟩
  simp (maxSteps := 9^9) (disch := (try simp only [lens]); omega) only [argSl, sm, ↓amb, mark_eq, simprocAttr, sz107, dx]
  ·exact .p (LeP.agg (.cons (LeP.seq _ _) (.cons (LeP.refl _) (.cons (LeP.seq _ _) .nil))))
  ·exact .p (LeP.refl _)
  ·exact .p (LeP.refl _)
 ·try simp only [hbx] at hb
  refine awp_le (le_keep [1, 2, 4, 5, 6]) ?_
  simp only [kp, argSl, simprocAttr]
  have hR := hb
  refine awp_sr [] (by rw [hC]; rfl) fun k hk => ?_
  simp (maxSteps := 9^9) (disch := (try simp only [lens]); omega) only [argSl, sm, ↓amb, mark_eq, simprocAttr, sz107, en132, dx]
  repeat refine ⟨by first | omega | (simp; done) | (unfold maxLen; omega) | (simp [maxLen]; omega) | assumption, ?_⟩
  refine callK_p (c52 _ _ _ _) rfl ?_
  simp (maxSteps := 9^9) (disch := (try simp only [lens]); omega) only [argSl, sm, ↓amb, mark_eq, simprocAttr, sz107, en132, dx]
  repeat refine ⟨by first | omega | (simp; done) | (unfold maxLen; omega) | (simp [maxLen]; omega) | assumption, ?_⟩
  refine hk _ ?_; clear hk k
  refine awp_cond rfl (fun hb => ?_) (fun hb => ?_)
  ·try simp only [hbx] at hb
   refine awp_le (le_keep [2, 4]) ?_
   simp only [kp, argSl, simprocAttr]
   refine awp_sr [] (by rw [hC]; rfl) fun k hk => ?_
   simp (maxSteps := 9^9) (disch := (try simp only [lens]); omega) only [argSl, sm, ↓amb, mark_eq, simprocAttr, sz107, dx]
   repeat refine ⟨by first | omega | (simp; done) | (unfold maxLen; omega) | (simp [maxLen]; omega) | assumption, ?_⟩
   refine hk _ ?_; clear hk k
   refine awp_ret ?_
   obtain ⟨e1, e2, e4⟩ := Pl.do_err (w := w) (i := i) ((Pl.doE1 (by rw [Pl.there, if_neg (by simpa using hR), if_pos (by omega)]; decide)).trans (by rw [Pl.there, if_neg (by simpa using hR), if_pos (by omega)])) (by decide)
   rw [e1, e2, e4]
   refine retl rfl rfl ⟨retc rfl sz107 ?_, rett rfl ?_, rett rfl ?_, trivial⟩
   simp (maxSteps := 9^9) (disch := (try simp only [lens]); omega) only [argSl, sm, ↓amb, mark_eq, simprocAttr, sz107, dx]
   ·exact .p (LeP.agg (.cons (LeP.seq _ _) (.cons (LeP.refl _) (.cons (LeP.seq _ _) .nil))))
   ·exact .p (LeP.refl _)
   ·exact .p (LeP.refl _)
  ·try simp only [hbx] at hb
   have hth := Pl.there_of hR (by assumption)
   obtain ⟨_, hi0, hi1, hok, hd1, hg1, hg2, ht1⟩ := Pl.ok_of hth
   simp only [Pl.okT, Pl.task] at hok
   have hin : i.toNat < w.ts.length := by omega
   refine awp_testD [] ⟨[0, 0, 3, 7, 15, 31, 15, 127, 255, 511, 1023, 2047, 4095, 8191, 16383, 8191, 40959, 8191, 237567, 499711, 1023999, 2097151, 4194303, 8388607, 16777215], [0, 5, 9, 14, 16, 20, 22], [], [(2, 5), (2, 9), (2, 14), (2, 16), (2, 20), (2, 22)], some []⟩ 21 (decide (Pl.great w i ∨ 0 < (w.ts.getD i.toNat default).wait ∨ w.done.getD (w.ts.getD i.toNat default).low.toNat false = true)) [1, 2, 4, 5, 6] (by rw [hC]; rfl) (by kernel_rfl) (by kernel_rfl) (fun gd hgd k hk => ?_) ?_
   ·have g3 : gd 3 = some 25 := by rw [hgd]; rfl
    have g12 : gd 12 = some 34 := by rw [hgd]; rfl
    clear hgd
    simp (maxSteps := 9^9) (disch := (try simp only [lens]); omega) only [argSl, sm, ↓amb, mark_eq, simprocAttr, sz107, en119, fl107_0, sz104, el104, sz128, fl128_3, sz3, fl107_2, sz105, fl128_0, el105, sz4, gcase_undef, g3, g12, dx]
    repeat' first | refine hk _ _ rfl rfl rfl rfl ?_ | (refine gsplit (fun hg => ?_) (fun hg => ?_) <;> (try simp only [hbx] at hg) <;> simp (maxSteps := 9^9) (disch := (try simp only [lens]); omega) only [argSl, sm, ↓amb, mark_eq, simprocAttr, sz107, en119, fl107_0, sz104, el104, sz128, fl128_3, sz3, fl107_2, sz105, fl128_0, el105, sz4, gcase_undef, g3, g12, dx]) | apply And.intro | (refine callK_p (c40 _ _ _ _) rfl ?_; (try simp (maxSteps := 9^9) (disch := (try simp only [lens]); omega) only [argSl, sm, ↓amb, mark_eq, simprocAttr, sz107, en119, fl107_0, sz104, el104, sz128, fl128_3, sz3, fl107_2, sz105, fl128_0, el105, sz4, gcase_undef, g3, g12, dx])) | fail
    all_goals first | rfl | omega | exact (decide_eq_true (by omega)).symm | exact (decide_eq_false (by omega)).symm | exact decide_eq_decide.mpr (by omega) | (refine Bool.eq_iff_iff.mpr ?_; simp only [beq_iff_eq, bne_iff_ne, ne_eq, decide_eq_true_eq]; omega) | (refine Bool.eq_iff_iff.mpr ?_; simp only [Bool.not_eq_true', Bool.not_eq_false', decide_eq_false_iff_not, decide_eq_true_eq, beq_iff_eq, bne_iff_ne, ne_eq]; omega) | assumption | (simp; done) | (simp [maxLen]; omega) | skip
    all_goals first | exact (decide_eq_true (.inl (by assumption))).symm | (refine Bool.eq_iff_iff.mpr ?_; simp only [decide_eq_true_eq]; exact ⟨fun h => .inr (.inr h), fun h => by (rcases h with h | h | h; exact absurd h (by assumption); omega; exact h)⟩) | (exact (decide_eq_true (.inr (.inl (by omega)))).symm)
   simp only [kp, argSl, simprocAttr, List.length_cons, List.length_nil]
   refine awp_cond rfl (fun hb => ?_) (fun hb => ?_)
   ·try simp only [hbx] at hb
    refine awp_le (le_keep [2, 4]) ?_
    simp only [kp, argSl, simprocAttr]
    refine awp_sr [] (by rw [hC]; rfl) fun k hk => ?_
    simp (maxSteps := 9^9) (disch := (try simp only [lens]); omega) only [argSl, sm, ↓amb, mark_eq, simprocAttr, sz107, dx]
    repeat refine ⟨by first | omega | (simp; done) | (unfold maxLen; omega) | (simp [maxLen]; omega) | assumption, ?_⟩
    refine hk _ ?_; clear hk k
    refine awp_ret ?_
    obtain ⟨e1, e2, e4⟩ := Pl.do_err (w := w) (i := i) (Pl.doE2 hth (by simp only [Pl.great, Pl.task] at *; rcases hb with h | h | h; exact .inl h.2; exact .inr (.inl h); exact .inr (.inr h))) (by decide)
    rw [e1, e2, e4]
    refine retl rfl rfl ⟨retc rfl sz107 ?_, rett rfl ?_, rett rfl ?_, trivial⟩
    simp (maxSteps := 9^9) (disch := (try simp only [lens]); omega) only [argSl, sm, ↓amb, mark_eq, simprocAttr, sz107, dx]
    ·exact .p (LeP.agg (.cons (LeP.seq _ _) (.cons (LeP.refl _) (.cons (LeP.seq _ _) .nil))))
    ·exact .p (LeP.refl _)
    ·exact .p (LeP.refl _)
   ·try simp only [hbx] at hb
    refine awp_skip ?_
    refine h1 _ ?_; clear h1 k1
    refine awp_le (le_keep [1, 2, 4]) ?_
    simp only [kp, argSl, simprocAttr]
    have h0 : Pl.doE w i = 0 := Pl.doE0 hth (by simp only [Pl.great, Pl.task] at *; intro h; rcases h with h | h | h; exact hb (.inl ⟨hth, h⟩); exact hb (.inr (.inl h)); exact hb (.inr (.inr h)))
    refine awp_sr [] (by rw [hC]; rfl) fun k hk => ?_
    simp (maxSteps := 9^9) (disch := (try simp only [lens]); omega) only [argSl, sm, ↓amb, mark_eq, simprocAttr, sz107, en131, vr107, dx]
    repeat refine ⟨by first | omega | (simp; done) | (unfold maxLen; omega) | (simp [maxLen]; omega) | assumption, ?_⟩
    refine callK_h (c27 c d w (by omega) (by omega)) [] [] (by first | rfl | (simp only [hm]; done)) (by first | rfl | (simp [namesOk, lkp]; done)) ?_ ?_ ?_ ?_ ?_ ?_ ?_
    (iterate 6 (focus (first | trivial | (intro n hn; cases hn; done) | (simp (maxSteps := 9^9) (disch := (try simp only [lens]); omega) only [argSl, sm, ↓amb, mark_eq, simprocAttr, sz107, en131, vr107, dx, hmx, List.filter_cons, Nat.reduceBNe, imp_self, implies_true]; done))))
    simp (maxSteps := 9^9) (disch := (try simp only [lens]); omega) only [argSl, sm, ↓amb, mark_eq, simprocAttr, sz107, en131, vr107, dx, hm, List.filter_cons, List.filter_nil, Nat.reduceBNe, Option.map_none]
    repeat refine ⟨by first | omega | (simp; done) | (unfold maxLen; omega) | (simp [maxLen]; omega) | assumption, ?_⟩
    refine hk _ ?_; clear hk k
    refine awp_seq fun k2 h2 => ?_
    refine awp_le (le_keep [1, 2, 4, 5, 6, 7]) ?_
    simp only [kp, argSl, simprocAttr]
    refine awp_sr [] (by rw [hC]; rfl) fun k hk => ?_
    simp (maxSteps := 9^9) (disch := (try simp only [lens]); omega) only [argSl, sm, ↓amb, mark_eq, simprocAttr, fl107_0, sz104, el104, sz128, fl128_0, sz3, dx]
    repeat refine ⟨by first | omega | (simp; done) | (unfold maxLen; omega) | (simp [maxLen]; omega) | assumption, ?_⟩
    refine hk _ ?_; clear hk k
    refine awp_block ?_
    refine awp_loop (σ := Nat) (fun x => (w.ts.getD i.toNat default).low.toNat ≤ x ∧ x ≤ (w.ts.getD i.toNat default).high.toNat) (fun (x : Nat) => ⟨[(1, (.p (iV i))), (2, (.ptr 0 3 0 0)), (4, (.ptr 1 3 0 0)), (7, (.ptr 2 3 0 0)), (8, (.p (iV (x : Int))))], [(0, (.row 3 [[.p (.seq c (w.ts.map taskC)), .p (iV w.grain), .p (.seq d (w.done.map fun b => [bV b]))]])), (1, (.row 3 [[.p (.seq true []), .p (iV 0), .p (.seq true [])]])), (2, (.row 3 [[.own 3, .p (iV w.grain), .own 4]])), (3, (.row 4 (lift (w.ts.map taskC)))), (4, (.row 1 (lift ((Pl.marked w.done (w.ts.getD i.toNat default).low.toNat x).map fun b => [bV b]))))], 1⟩) (fun x => (w.ts.getD i.toNat default).high.toNat - x) (w.ts.getD i.toNat default).low.toNat ?_ ?_ fun x hx => ?_
    ·exact ⟨Nat.le_refl _, by omega⟩
    ·exact le_of [(0, _), (1, _), (2, _), (3, _), (4, _)] (by rfl) (by rfl) ⟨⟨_, rfl, .p (.of_eq (by first | rfl | (simp only [PV.lit.injEq, Value.int.injEq, true_and]; omega) | (simp; done) | (simp; omega)))⟩, ⟨_, rfl, .ptr rfl⟩, ⟨_, rfl, .ptr rfl⟩, ⟨_, rfl, .ptr rfl⟩, ⟨_, rfl, .p (.of_eq (by first | rfl | (simp only [PV.lit.injEq, Value.int.injEq, true_and]; omega) | (simp; done) | (simp; omega)))⟩, trivial⟩ ⟨⟨_, rfl, _, rfl, .one (.cons (.p (.refl _)) (.cons (.p (.refl _)) (.cons (.p (.refl _)) .nil)))⟩, ⟨_, rfl, _, rfl, .one (.cons (.p (.refl _)) (.cons (.p (.refl _)) (.cons (.p (.refl _)) .nil)))⟩, ⟨_, rfl, _, rfl, .one (.cons (.own rfl) (.cons (.p (.refl _)) (.cons (.own rfl) .nil)))⟩, ⟨_, rfl, _, rfl, .lift _⟩, ⟨_, rfl, _, rfl, .liftE (by first | (rw [Pl.marked_start]; done) | (rw [← Pl.marked_set (by omega) (by omega), List.map_set]; try simp; done))⟩, trivial⟩
    obtain ⟨hx1, hx2⟩ := hx
    have hml := Pl.marked_len (d := w.done) hx1 (by omega)
    refine awp_seq fun k4 h4 => ?_
    refine awp_le (le_keep [0, 1, 2, 3, 4, 5, 6, 7, 8]) ?_
    simp only [kp, argSl, simprocAttr]
    refine awp_sr [] (by rw [hC]; rfl) fun k hk => ?_
    simp (maxSteps := 9^9) (disch := (try simp only [lens]); omega) only [argSl, sm, ↓amb, mark_eq, simprocAttr, fl107_0, sz104, el104, sz128, fl128_1, sz3, dx]
    repeat refine ⟨by first | omega | (simp; done) | (unfold maxLen; omega) | (simp [maxLen]; omega) | assumption, ?_⟩
    refine hk _ ?_; clear hk k
    refine awp_cond rfl (fun hb => ?_) (fun hb => ?_)
    ·try simp only [hbx] at hb
     refine awp_skip ?_
     refine h4 _ ?_; clear h4 k4
     refine awp_seq fun k5 h5 => ?_
     refine awp_block ?_
     refine awp_region [] (by rw [hC]; rfl) fun k hk => ?_
     simp (maxSteps := 9^9) (disch := (try simp only [lens]); omega) only [argSl, sm, ↓amb, mark_eq, simprocAttr, fl107_2, sz105, el105, sz4, dx]
     repeat refine ⟨by first | omega | (simp; done) | (unfold maxLen; omega) | (simp [maxLen]; omega) | assumption, ?_⟩
     refine hk _ ?_; clear hk k
     refine h5 _ ?_; clear h5 k5
     refine awp_region [] (by rw [hC]; rfl) fun k hk => ?_
     simp (maxSteps := 9^9) (disch := (try simp only [lens]); omega) only [argSl, sm, ↓amb, mark_eq, simprocAttr, dx]
     repeat refine ⟨by first | omega | (simp; done) | (unfold maxLen; omega) | (simp [maxLen]; omega) | assumption, ?_⟩
     refine hk _ ?_; clear hk k
     refine ⟨x + 1, ⟨by omega, by omega⟩, le_of [(0, _), (1, _), (2, _), (3, _), (4, _)] (by rfl) (by rfl) ⟨⟨_, rfl, .p (.of_eq (by first | rfl | (simp only [PV.lit.injEq, Value.int.injEq, true_and]; omega) | (simp; done) | (simp; omega)))⟩, ⟨_, rfl, .ptr rfl⟩, ⟨_, rfl, .ptr rfl⟩, ⟨_, rfl, .ptr rfl⟩, ⟨_, rfl, .p (.of_eq (by first | rfl | (simp only [PV.lit.injEq, Value.int.injEq, true_and]; omega) | (simp; done) | (simp; omega)))⟩, trivial⟩ ⟨⟨_, rfl, _, rfl, .one (.cons (.p (.refl _)) (.cons (.p (.refl _)) (.cons (.p (.refl _)) .nil)))⟩, ⟨_, rfl, _, rfl, .one (.cons (.p (.refl _)) (.cons (.p (.refl _)) (.cons (.p (.refl _)) .nil)))⟩, ⟨_, rfl, _, rfl, .one (.cons (.own rfl) (.cons (.p (.refl _)) (.cons (.own rfl) .nil)))⟩, ⟨_, rfl, _, rfl, .lift _⟩, ⟨_, rfl, _, rfl, .liftE (by first | (rw [Pl.marked_start]; done) | (rw [← Pl.marked_set (by omega) (by omega), List.map_set]; try simp; done))⟩, trivial⟩, by omega⟩
    ·try simp only [hbx] at hb
     refine awp_exit ((if_pos rfl).mpr ?_)
     refine h2 _ ?_; clear h4 k4; clear h2 k2
     refine awp_seq fun k6 h6 => ?_
     refine awp_le (le_keep [1, 2, 4, 5, 6, 7]) ?_
     simp only [kp, argSl, simprocAttr]
     have hxe : x = (w.ts.getD i.toNat default).high.toNat := by omega
     subst hxe
     have huo := Pl.upOk_of hR
     refine awp_sr [] (by rw [hC]; rfl) fun k hk => ?_
     simp (maxSteps := 9^9) (disch := (try simp only [lens]); omega) only [argSl, sm, ↓amb, mark_eq, simprocAttr, fl107_0, sz104, el104, sz128, fl128_2, sz3, dx]
     repeat refine ⟨by first | omega | (simp; done) | (unfold maxLen; omega) | (simp [maxLen]; omega) | assumption, ?_⟩
     refine hk _ ?_; clear hk k
     refine awp_block ?_
     refine awp_loop (σ := Nat × List Pl.Task × Int) (fun x => Pl.fin x.1 x.2.1 x.2.2 = Pl.fin (w.ts.length + 1) w.ts (w.ts.getD i.toNat default).up ∧ Pl.upOk x.2.1 ∧ x.2.1.length = w.ts.length ∧ -1 ≤ x.2.2 ∧ x.2.2 < w.ts.length ∧ x.2.2 + 1 < x.1) (fun x => ⟨[(4, (.ptr 1 3 0 0)), (7, (.ptr 2 3 0 0)), (9, (.p (iV x.2.2)))], [(1, (.row 3 [[.p (.seq true []), .p (iV 0), .p (.seq true [])]])), (2, (.row 3 [[.own 3, .p (iV w.grain), .own 4]])), (3, (.row 4 (lift (x.2.1.map taskC)))), (4, (.row 1 (lift ((Pl.marked w.done (w.ts.getD i.toNat default).low.toNat (w.ts.getD i.toNat default).high.toNat).map fun b => [bV b]))))], 1⟩) (fun x => x.1) (w.ts.length + 1, w.ts, (w.ts.getD i.toNat default).up) ?_ ?_ fun x hx => ?_
     ·exact ⟨rfl, huo, rfl, by show -1 ≤ (w.ts.getD i.toNat default).up; omega, by show (w.ts.getD i.toNat default).up < _; omega, by show (w.ts.getD i.toNat default).up + 1 < ((w.ts.length + 1 : Nat) : Int); omega⟩
     ·exact le_of [(1, _), (2, _), (3, _), (4, _)] (by rfl) (by rfl) ⟨⟨_, rfl, .ptr rfl⟩, ⟨_, rfl, .ptr rfl⟩, ⟨_, rfl, .p (.of_eq (by first | rfl | (simp only [PV.lit.injEq, Value.int.injEq, true_and]; omega) | (simp; done) | (simp; omega)))⟩, trivial⟩ ⟨⟨_, rfl, _, rfl, .one (.cons (.p (.refl _)) (.cons (.p (.refl _)) (.cons (.p (.refl _)) .nil)))⟩, ⟨_, rfl, _, rfl, .one (.cons (.own rfl) (.cons (.p (.refl _)) (.cons (.own rfl) .nil)))⟩, ⟨_, rfl, _, rfl, .liftE (by first | rfl | rw [List.map_set])⟩, ⟨_, rfl, _, rfl, .lift _⟩, trivial⟩
     obtain ⟨q, us, p⟩ := x
     obtain ⟨hf, hu, hlen, hp0, hp1, hq⟩ := hx
     dsimp only at hf hu hlen hp0 hp1 hq
     obtain ⟨q, rfl⟩ : ∃ q', q = q' + 1 := ⟨q - 1, by omega⟩
     refine awp_seq fun k8 h8 => ?_
     refine awp_le (le_keep [1, 2, 3, 4, 5, 6, 7, 9]) ?_
     simp only [kp, argSl, simprocAttr]
     refine awp_sr [] (by rw [hC]; rfl) fun k hk => ?_
     simp (maxSteps := 9^9) (disch := (try simp only [lens]); omega) only [argSl, sm, ↓amb, mark_eq, simprocAttr, dx]
     repeat refine ⟨by first | omega | (simp; done) | (unfold maxLen; omega) | (simp [maxLen]; omega) | assumption, ?_⟩
     refine hk _ ?_; clear hk k
     refine awp_cond rfl (fun hb => ?_) (fun hb => ?_)
     ·try simp only [hbx] at hb
      refine awp_skip ?_
      refine h8 _ ?_; clear h8 k8
      refine awp_seq fun k9 h9 => ?_
      refine awp_block ?_
      refine awp_seq fun k10 h10 => ?_
      refine awp_le (le_keep [1, 2, 3, 4, 5, 6, 7, 9]) ?_
      simp only [kp, argSl, simprocAttr]
      have hpn := hb
      have hup := hu p.toNat (by omega)
      refine awp_sr [] (by rw [hC]; rfl) fun k hk => ?_
      simp (maxSteps := 9^9) (disch := (try simp only [lens]); omega) only [argSl, sm, ↓amb, mark_eq, simprocAttr, fl107_0, sz104, el104, sz128, fl128_3, sz3, dx]
      repeat refine ⟨by first | omega | (simp; done) | (unfold maxLen; omega) | (simp [maxLen]; omega) | assumption, ?_⟩
      refine hk _ ?_; clear hk k
      refine awp_cond rfl (fun hb => ?_) (fun hb => ?_)
      ·try simp only [hbx] at hb
       refine awp_le (le_keep [4, 7]) ?_
       simp only [kp, argSl, simprocAttr]
       refine awp_sr [] (by rw [hC]; rfl) fun k hk => ?_
       simp (maxSteps := 9^9) (disch := (try simp only [lens]); omega) only [argSl, sm, ↓amb, mark_eq, simprocAttr, sz107, dx]
       repeat refine ⟨by first | omega | (simp; done) | (unfold maxLen; omega) | (simp [maxLen]; omega) | assumption, ?_⟩
       refine hk _ ?_; clear hk k
       refine awp_ret ?_
       obtain ⟨e1, e2, e4⟩ := Pl.do_ok h0
       rw [e1, e2, e4]
       refine retl rfl rfl ⟨retc rfl sz107 ?_, rett rfl ?_, rett rfl ?_, trivial⟩
       simp (maxSteps := 9^9) (disch := (try simp only [lens]); omega) only [argSl, sm, ↓amb, mark_eq, simprocAttr, sz107, dx]
       ·exact .agg_cons (.ownE rfl (by simp only [Pl.did, Pl.task]; rw [← hf, Pl.fin_zero hpn hb])) (.agg_cons (.p (LeP.refl _)) (.agg_cons (.ownE rfl rfl) (.agg_nil)))
       ·exact .p (LeP.of_eq (by simp only [Pl.did, Pl.task]; rw [← hf, Pl.fin_zero hpn hb]))
       ·exact .p (LeP.refl _)
      ·try simp only [hbx] at hb
       refine awp_skip ?_
       refine h10 _ ?_; clear h10 k10
       refine awp_le (le_keep [1, 2, 3, 4, 5, 6, 7, 9]) ?_
       simp only [kp, argSl, simprocAttr]
       refine awp_sr [] (by rw [hC]; rfl) fun k hk => ?_
       simp (maxSteps := 9^9) (disch := (try simp only [lens]); omega) only [argSl, sm, ↓amb, mark_eq, simprocAttr, fl107_0, sz104, el104, sz128, fl128_3, sz3, dx]
       repeat refine ⟨by first | omega | (simp; done) | (unfold maxLen; omega) | (simp [maxLen]; omega) | assumption, ?_⟩
       refine hk _ ?_; clear hk k
       refine awp_le (le_keep [1, 2, 3, 4, 5, 6, 7, 9]) ?_
       simp only [kp, argSl, simprocAttr]
       refine awp_sr [] (by rw [hC]; rfl) fun k hk => ?_
       simp (maxSteps := 9^9) (disch := (try simp only [lens]); omega) only [argSl, sm, ↓amb, mark_eq, simprocAttr, fl107_0, sz104, el104, sz128, fl128_3, sz3, dx]
       repeat refine ⟨by first | omega | (simp; done) | (unfold maxLen; omega) | (simp [maxLen]; omega) | assumption, ?_⟩
       refine hk _ ?_; clear hk k
       refine awp_cond rfl (fun hb => ?_) (fun hb => ?_)
       ·try simp only [hbx] at hb
        refine awp_le (le_keep [4, 7]) ?_
        simp only [kp, argSl, simprocAttr]
        refine awp_sr [] (by rw [hC]; rfl) fun k hk => ?_
        simp (maxSteps := 9^9) (disch := (try simp only [lens]); omega) only [argSl, sm, ↓amb, mark_eq, simprocAttr, sz107, dx]
        repeat refine ⟨by first | omega | (simp; done) | (unfold maxLen; omega) | (simp [maxLen]; omega) | assumption, ?_⟩
        refine hk _ ?_; clear hk k
        refine awp_ret ?_
        obtain ⟨e1, e2, e4⟩ := Pl.do_ok h0
        rw [e1, e2, e4]
        refine retl rfl rfl ⟨retc rfl sz107 ?_, rett rfl ?_, rett rfl ?_, trivial⟩
        simp (maxSteps := 9^9) (disch := (try simp only [lens]); omega) only [argSl, sm, ↓amb, mark_eq, simprocAttr, sz107, dx]
        ·exact .agg_cons (.ownE rfl (by simp only [Pl.did, Pl.task]; rw [← hf, Pl.fin_stop hpn (by omega) (by omega)]; try rw [List.map_set])) (.agg_cons (.p (LeP.refl _)) (.agg_cons (.ownE rfl rfl) (.agg_nil)))
        ·exact .p (LeP.of_eq (by simp only [Pl.did, Pl.task]; rw [← hf, Pl.fin_stop hpn (by omega) (by omega)]))
        ·exact .p (LeP.refl _)
       ·try simp only [hbx] at hb
        refine awp_skip ?_
        refine h9 _ ?_; clear h9 k9
        refine awp_region [] (by rw [hC]; rfl) fun k hk => ?_
        simp (maxSteps := 9^9) (disch := (try simp only [lens]); omega) only [argSl, sm, ↓amb, mark_eq, simprocAttr, fl107_0, sz104, el104, sz128, fl128_2, sz3, dx]
        repeat refine ⟨by first | omega | (simp; done) | (unfold maxLen; omega) | (simp [maxLen]; omega) | assumption, ?_⟩
        refine hk _ ?_; clear hk k
        refine ⟨(q, us.set p.toNat { us.getD p.toNat default with wait := (us.getD p.toNat default).wait - 1 }, (us.getD p.toNat default).up), ⟨by rw [← hf, Pl.fin_on hpn (by omega) (by omega)], Pl.upOk_set hu (by omega) (by omega), by simpa using hlen, by show -1 ≤ (us.getD p.toNat default).up; omega, by show (us.getD p.toNat default).up < _; omega, by show (us.getD p.toNat default).up + 1 < (q : Int); omega⟩, le_of [(1, _), (2, _), (3, _), (4, _)] (by rfl) (by rfl) ⟨⟨_, rfl, .ptr rfl⟩, ⟨_, rfl, .ptr rfl⟩, ⟨_, rfl, .p (.of_eq (by first | rfl | (simp only [PV.lit.injEq, Value.int.injEq, true_and]; omega) | (simp; done) | (simp; omega)))⟩, trivial⟩ ⟨⟨_, rfl, _, rfl, .one (.cons (.p (.refl _)) (.cons (.p (.refl _)) (.cons (.p (.refl _)) .nil)))⟩, ⟨_, rfl, _, rfl, .one (.cons (.own rfl) (.cons (.p (.refl _)) (.cons (.own rfl) .nil)))⟩, ⟨_, rfl, _, rfl, .liftE (by first | rfl | rw [List.map_set])⟩, ⟨_, rfl, _, rfl, .lift _⟩, trivial⟩, Nat.lt_succ_self q⟩
     ·try simp only [hbx] at hb
      refine awp_exit ((if_pos rfl).mpr ?_)
      refine h6 _ ?_; clear h8 k8; clear h6 k6
      refine awp_le (le_keep [4, 7]) ?_
      simp only [kp, argSl, simprocAttr]
      refine awp_sr [] (by rw [hC]; rfl) fun k hk => ?_
      simp (maxSteps := 9^9) (disch := (try simp only [lens]); omega) only [argSl, sm, ↓amb, mark_eq, simprocAttr, sz107, dx]
      repeat refine ⟨by first | omega | (simp; done) | (unfold maxLen; omega) | (simp [maxLen]; omega) | assumption, ?_⟩
      refine hk _ ?_; clear hk k
      refine awp_ret ?_
      have hpe : p = -1 := by omega
      subst hpe
      obtain ⟨e1, e2, e4⟩ := Pl.do_ok h0
      rw [e1, e2, e4]
      refine retl rfl rfl ⟨retc rfl sz107 ?_, rett rfl ?_, rett rfl ?_, trivial⟩
      simp (maxSteps := 9^9) (disch := (try simp only [lens]); omega) only [argSl, sm, ↓amb, mark_eq, simprocAttr, sz107, dx]
      ·exact .agg_cons (.ownE rfl (by simp only [Pl.did, Pl.task]; rw [← hf, Pl.fin_end])) (.agg_cons (.p (LeP.refl _)) (.agg_cons (.ownE rfl rfl) (.agg_nil)))
      ·exact .p (LeP.of_eq (by simp only [Pl.did, Pl.task]; rw [← hf, Pl.fin_end]))
      ·exact .p (LeP.refl _)
set_option maxHeartbeats 4000000 in
theorem c18 (c : Bool) (l : List Int) (hl : l.length ≤ 1000000) : PCall Try.prog 117 [ints c l] (popS l) := by
 refine pcall_of_awp Try.func117 rfl (by simp [Try.ntmps117]) fun C hC => ?_
 refine awp_sr [] (by rw [hC]; rfl) fun k hk => ?_
 simp (maxSteps := 9^9) (disch := (try simp only [lens]); omega) only [argSl, sm, ↓amb, mark_eq, simprocAttr, dx]
 repeat refine ⟨by first | omega | (simp; done) | (unfold maxLen; omega) | (simp [maxLen]; omega) | assumption, ?_⟩
 refine hk _ ?_; clear hk k
 refine awp_seq fun k1 h1 => ?_
 refine awp_sr [] (by rw [hC]; rfl) fun k hk => ?_
 simp (maxSteps := 9^9) (disch := (try simp only [lens]); omega) only [argSl, sm, ↓amb, mark_eq, simprocAttr, el67, dx]
 repeat refine ⟨by first | omega | (simp; done) | (unfold maxLen; omega) | (simp [maxLen]; omega) | assumption, ?_⟩
 refine hk _ ?_; clear hk k
 refine awp_cond rfl (fun hb => ?_) (fun hb => ?_)
 ·try simp only [hbx] at hb
  refine awp_sr [] (by rw [hC]; rfl) fun k hk => ?_
  simp (maxSteps := 9^9) (disch := (try simp only [lens]); omega) only [argSl, sm, ↓amb, mark_eq, simprocAttr, dx]
  repeat refine ⟨by first | omega | (simp; done) | (unfold maxLen; omega) | (simp [maxLen]; omega) | assumption, ?_⟩
  refine hk _ ?_; clear hk k
  refine awp_ret ?_
  obtain rfl : l = [] := List.eq_nil_of_length_eq_zero (by omega)
  refine ret3 rfl rfl rfl rfl ?_ ?_ ?_
  ·exact .p (LeP.seq _ _)
  ·exact .p (LeP.refl _)
  ·exact .p (LeP.refl _)
 ·try simp only [hbx] at hb
  refine awp_skip ?_
  refine h1 _ ?_; clear h1 k1
  refine awp_sr [] (by rw [hC]; rfl) fun k hk => ?_
  simp (maxSteps := 9^9) (disch := (try simp only [lens]); omega) only [argSl, sm, ↓amb, mark_eq, simprocAttr, el67, dx]
  repeat refine ⟨by first | omega | (simp; done) | (unfold maxLen; omega) | (simp [maxLen]; omega) | assumption, ?_⟩
  refine hk _ ?_; clear hk k
  refine awp_sd [] ⟨[0, 0, 0, 6, 15, 0, 0, 96, 224, 31, 1023, 2047], [4, 8], [], [], some []⟩ (by rw [hC]; rfl) (by kernel_rfl) (by kernel_rfl) fun k hk => ?_
  simp (maxSteps := 9^9) (disch := (try simp only [lens]); omega) only [argSl, sm, ↓amb, mark_eq, simprocAttr, el67, vr3, sz3, by3, dx]
  repeat refine ⟨by first | omega | (simp; done) | (unfold maxLen; omega) | (simp [maxLen]; omega) | assumption, ?_⟩
  refine hk _ ?_; clear hk k
  refine awp_ret ?_
  refine ret3 rfl rfl rfl rfl ?_ ?_ ?_
  ·exact .p (LeP.sq (by simp [List.dropLast_eq_take]))
  ·exact .p (LeP.refl _)
  ·exact .p (LeP.of_eq (by rw [if_neg (by omega)]))
set_option maxHeartbeats 4000000 in
theorem c20 (c : Bool) (l : List Int) (hl : l.length ≤ 1000000) : PCall Try.prog 118 [ints c l] (stealS l) := by
 refine pcall_of_awp Try.func118 rfl (by simp [Try.ntmps118]) fun C hC => ?_
 refine awp_sr [] (by rw [hC]; rfl) fun k hk => ?_
 simp (maxSteps := 9^9) (disch := (try simp only [lens]); omega) only [argSl, sm, ↓amb, mark_eq, simprocAttr, dx]
 repeat refine ⟨by first | omega | (simp; done) | (unfold maxLen; omega) | (simp [maxLen]; omega) | assumption, ?_⟩
 refine hk _ ?_; clear hk k
 refine awp_seq fun k1 h1 => ?_
 refine awp_sr [] (by rw [hC]; rfl) fun k hk => ?_
 simp (maxSteps := 9^9) (disch := (try simp only [lens]); omega) only [argSl, sm, ↓amb, mark_eq, simprocAttr, el67, dx]
 repeat refine ⟨by first | omega | (simp; done) | (unfold maxLen; omega) | (simp [maxLen]; omega) | assumption, ?_⟩
 refine hk _ ?_; clear hk k
 refine awp_cond rfl (fun hb => ?_) (fun hb => ?_)
 ·try simp only [hbx] at hb
  refine awp_sr [] (by rw [hC]; rfl) fun k hk => ?_
  simp (maxSteps := 9^9) (disch := (try simp only [lens]); omega) only [argSl, sm, ↓amb, mark_eq, simprocAttr, dx]
  repeat refine ⟨by first | omega | (simp; done) | (unfold maxLen; omega) | (simp [maxLen]; omega) | assumption, ?_⟩
  refine hk _ ?_; clear hk k
  refine awp_ret ?_
  obtain rfl : l = [] := List.eq_nil_of_length_eq_zero (by omega)
  refine ret3 rfl rfl rfl rfl ?_ ?_ ?_
  ·exact .p (LeP.seq _ _)
  ·exact .p (LeP.refl _)
  ·exact .p (LeP.refl _)
 ·try simp only [hbx] at hb
  refine awp_skip ?_
  refine h1 _ ?_; clear h1 k1
  refine awp_sd [] ⟨[0, 0, 2, 7, 0, 16, 48, 15, 255, 511], [3, 6], [], [], some []⟩ (by rw [hC]; rfl) (by kernel_rfl) (by kernel_rfl) fun k hk => ?_
  simp (maxSteps := 9^9) (disch := (try simp only [lens]); omega) only [argSl, sm, ↓amb, mark_eq, simprocAttr, el67, vr3, sz3, by3, dx]
  repeat refine ⟨by first | omega | (simp; done) | (unfold maxLen; omega) | (simp [maxLen]; omega) | assumption, ?_⟩
  refine hk _ ?_; clear hk k
  refine awp_ret ?_
  refine ret3 rfl rfl rfl rfl ?_ ?_ ?_
  ·exact .p (LeP.sq (by simp))
  ·exact .p (LeP.refl _)
  ·exact .p (LeP.of_eq (by rw [if_neg (by omega)]))
set_option maxHeartbeats 4000000 in
theorem c_ref05_cut (n w : Int) (hw : 1 ≤ w ∧ w ≤ 8) : PCall Try.prog 115 [iV n, iV w] (iV (n % w)) := by
 refine pcall_of_awp Try.func115 rfl (by simp [Try.ntmps115]) fun C hC => ?_
 refine awp_sr [] (by rw [hC]; rfl) fun k hk => ?_
 simp (maxSteps := 9^9) (disch := (try simp only [lens]); omega) only [argSl, sm, ↓amb, mark_eq, simprocAttr, dx]
 repeat refine ⟨by first | omega | (simp; done) | (unfold maxLen; omega) | (simp [maxLen]; omega) | assumption, ?_⟩
 refine hk _ ?_; clear hk k
 obtain ⟨hm1, hm2⟩ := Pl.tmod_bound n (m := w) (by omega)
 obtain ⟨hc1, hc2⟩ := Pl.cut_eq (n := n) (w := w) (by omega)
 refine awp_sr [] (by rw [hC]; rfl) fun k hk => ?_
 simp (maxSteps := 9^9) (disch := (try simp only [lens]); omega) only [argSl, sm, ↓amb, mark_eq, simprocAttr, dx]
 repeat refine ⟨by first | omega | (simp; done) | (unfold maxLen; omega) | (simp [maxLen]; omega) | assumption, ?_⟩
 refine hk _ ?_; clear hk k
 refine awp_seq fun k1 h1 => ?_
 refine awp_sr [] (by rw [hC]; rfl) fun k hk => ?_
 simp (maxSteps := 9^9) (disch := (try simp only [lens]); omega) only [argSl, sm, ↓amb, mark_eq, simprocAttr, dx]
 repeat refine ⟨by first | omega | (simp; done) | (unfold maxLen; omega) | (simp [maxLen]; omega) | assumption, ?_⟩
 refine hk _ ?_; clear hk k
 refine awp_cond rfl (fun hb => ?_) (fun hb => ?_)
 ·try simp only [hbx] at hb
  refine awp_region [] (by rw [hC]; rfl) fun k hk => ?_
  simp (maxSteps := 9^9) (disch := (try simp only [lens]); omega) only [argSl, sm, ↓amb, mark_eq, simprocAttr, dx]
  repeat refine ⟨by first | omega | (simp; done) | (unfold maxLen; omega) | (simp [maxLen]; omega) | assumption, ?_⟩
  refine hk _ ?_; clear hk k
  refine h1 _ ?_; clear h1 k1
  refine awp_sr [] (by rw [hC]; rfl) fun k hk => ?_
  simp (maxSteps := 9^9) (disch := (try simp only [lens]); omega) only [argSl, sm, ↓amb, mark_eq, simprocAttr, dx]
  repeat refine ⟨by first | omega | (simp; done) | (unfold maxLen; omega) | (simp [maxLen]; omega) | assumption, ?_⟩
  refine hk _ ?_; clear hk k
  refine awp_ret ?_
  refine ret1 rfl rfl ?_
  exact .p (LeP.of_eq (by rw [hc1 (by omega)]))
 ·try simp only [hbx] at hb
  refine awp_skip ?_
  refine h1 _ ?_; clear h1 k1
  refine awp_sr [] (by rw [hC]; rfl) fun k hk => ?_
  simp (maxSteps := 9^9) (disch := (try simp only [lens]); omega) only [argSl, sm, ↓amb, mark_eq, simprocAttr, dx]
  repeat refine ⟨by first | omega | (simp; done) | (unfold maxLen; omega) | (simp [maxLen]; omega) | assumption, ?_⟩
  refine hk _ ?_; clear hk k
  refine awp_ret ?_
  refine ret1 rfl rfl ?_
  exact .p (LeP.of_eq (by rw [hc2 (by omega)]))
set_option maxHeartbeats 4000000 in
theorem c_ref05_Held (c : Pl.Crew) (hb' : Pl.held c.dq ≤ 1000000000) (hd : c.dq.length ≤ 1000000) : PCall Try.prog 122 [.agg (crewC c)] (iV (Pl.held c.dq)) := by
 refine pcall_of_awp Try.func122 rfl (by simp [Try.ntmps122]) fun C hC => ?_
 refine awp_le (le_keep [0]) ?_
 simp only [kp, argSl, simprocAttr]
 refine awp_sr [] (by rw [hC]; rfl) fun k hk => ?_
 simp (maxSteps := 9^9) (disch := (try simp only [lens]); omega) only [argSl, sm, ↓amb, mark_eq, simprocAttr, dx]
 repeat refine ⟨by first | omega | (simp; done) | (unfold maxLen; omega) | (simp [maxLen]; omega) | assumption, ?_⟩
 refine hk _ ?_; clear hk k
 refine awp_le (le_keep [1]) ?_
 simp only [kp, argSl, simprocAttr]
 refine awp_sr [] (by rw [hC]; rfl) fun k hk => ?_
 simp (maxSteps := 9^9) (disch := (try simp only [lens]); omega) only [argSl, sm, ↓amb, mark_eq, simprocAttr, dx]
 repeat refine ⟨by first | omega | (simp; done) | (unfold maxLen; omega) | (simp [maxLen]; omega) | assumption, ?_⟩
 refine hk _ ?_; clear hk k
 refine awp_seq fun k1 h1 => ?_
 refine awp_le (le_keep [1, 2, 3]) ?_
 simp only [kp, argSl, simprocAttr]
 refine awp_sr [] (by rw [hC]; rfl) fun k hk => ?_
 simp (maxSteps := 9^9) (disch := (try simp only [lens]); omega) only [argSl, sm, ↓amb, mark_eq, simprocAttr, dx]
 repeat refine ⟨by first | omega | (simp; done) | (unfold maxLen; omega) | (simp [maxLen]; omega) | assumption, ?_⟩
 refine hk _ ?_; clear hk k
 refine awp_block ?_
 refine awp_loop (σ := Nat) (fun i => i ≤ c.dq.length) (fun (i : Nat) => ⟨[(1, (.ptr 0 7 0 0)), (3, (.p (iV (Pl.held (c.dq.take i))))), (4, (.p (iV (i : Int))))], [(0, (.row 7 [[.p (.seq false (c.work.ts.map taskC)), .p (iV c.work.grain), .p (.seq false (c.work.done.map fun b => [bV b])), .p (.seq false (c.dq.map lV)), .p (bV c.over), .p (iV c.steps), .p (iV c.idle)]]))], 1⟩) (fun i => c.dq.length - i) 0 ?_ ?_ fun x hx => ?_
 ·exact Nat.zero_le _
 ·exact le_of [(0, _)] (by rfl) (by rfl) ⟨⟨_, rfl, .ptr rfl⟩, ⟨_, rfl, .p (.of_eq (by first | rfl | (rw [Pl.held_take_succ c.dq x (by omega)]; simp only [PV.lit.injEq, Value.int.injEq, true_and]; omega)))⟩, ⟨_, rfl, .p (.of_eq (by first | rfl | (simp only [PV.lit.injEq, Value.int.injEq, true_and]; omega) | (simp; done) | (simp; omega)))⟩, trivial⟩ ⟨⟨_, rfl, _, rfl, .one (.cons (.p (.refl _)) (.cons (.p (.refl _)) (.cons (.p (.refl _)) (.cons (.p (.refl _)) (.cons (.p (.refl _)) (.cons (.p (.refl _)) (.cons (.p (.refl _)) (.nil))))))))⟩, trivial⟩
 refine awp_seq fun k3 h3 => ?_
 refine awp_le (le_keep [0, 1, 2, 3, 4]) ?_
 simp only [kp, argSl, simprocAttr]
 refine awp_sr [] (by rw [hC]; rfl) fun k hk => ?_
 simp (maxSteps := 9^9) (disch := (try simp only [lens]); omega) only [argSl, sm, ↓amb, mark_eq, simprocAttr, fl110_1, sz108, el108, dx]
 repeat refine ⟨by first | omega | (simp; done) | (unfold maxLen; omega) | (simp [maxLen]; omega) | assumption, ?_⟩
 refine hk _ ?_; clear hk k
 refine awp_cond rfl (fun hb => ?_) (fun hb => ?_)
 ·try simp only [hbx] at hb
  refine awp_skip ?_
  refine h3 _ ?_; clear h3 k3
  refine awp_seq fun k4 h4 => ?_
  refine awp_block ?_
  have hs := Pl.held_take_succ c.dq x (by omega)
  have hl := Pl.held_le c.dq (x + 1)
  refine awp_region [] (by rw [hC]; rfl) fun k hk => ?_
  simp (maxSteps := 9^9) (disch := (try simp only [lens]); omega) only [argSl, sm, ↓amb, mark_eq, simprocAttr, fl110_1, sz108, el108, sz67, el67, dx]
  repeat refine ⟨by first | omega | (simp; done) | (unfold maxLen; omega) | (simp [maxLen]; omega) | assumption, ?_⟩
  refine hk _ ?_; clear hk k
  refine h4 _ ?_; clear h4 k4
  refine awp_region [] (by rw [hC]; rfl) fun k hk => ?_
  simp (maxSteps := 9^9) (disch := (try simp only [lens]); omega) only [argSl, sm, ↓amb, mark_eq, simprocAttr, dx]
  repeat refine ⟨by first | omega | (simp; done) | (unfold maxLen; omega) | (simp [maxLen]; omega) | assumption, ?_⟩
  refine hk _ ?_; clear hk k
  refine ⟨x + 1, by omega, le_of [(0, _)] (by rfl) (by rfl) ⟨⟨_, rfl, .ptr rfl⟩, ⟨_, rfl, .p (.of_eq (by first | rfl | (rw [Pl.held_take_succ c.dq x (by omega)]; simp only [PV.lit.injEq, Value.int.injEq, true_and]; omega)))⟩, ⟨_, rfl, .p (.of_eq (by first | rfl | (simp only [PV.lit.injEq, Value.int.injEq, true_and]; omega) | (simp; done) | (simp; omega)))⟩, trivial⟩ ⟨⟨_, rfl, _, rfl, .one (.cons (.p (.refl _)) (.cons (.p (.refl _)) (.cons (.p (.refl _)) (.cons (.p (.refl _)) (.cons (.p (.refl _)) (.cons (.p (.refl _)) (.cons (.p (.refl _)) (.nil))))))))⟩, trivial⟩, by omega⟩
 ·try simp only [hbx] at hb
  refine awp_exit ((if_pos rfl).mpr ?_)
  refine h1 _ ?_; clear h3 k3; clear h1 k1
  refine awp_le (le_keep [3]) ?_
  simp only [kp, argSl, simprocAttr]
  have hx2 : c.dq.take x = c.dq := List.take_of_length_le (by omega)
  rw [hx2]
  refine awp_sr [] (by rw [hC]; rfl) fun k hk => ?_
  simp (maxSteps := 9^9) (disch := (try simp only [lens]); omega) only [argSl, sm, ↓amb, mark_eq, simprocAttr, dx]
  repeat refine ⟨by first | omega | (simp; done) | (unfold maxLen; omega) | (simp [maxLen]; omega) | assumption, ?_⟩
  refine hk _ ?_; clear hk k
  refine awp_ret ?_
  refine ret1 rfl rfl ?_
  exact .p (LeP.refl _)
end Go.Proofs.Ytjkkjiaeeobnkaa
end
section
set_option linter.unusedSimpArgs false
set_option linter.unusedVariables false
set_option maxRecDepth 100000
namespace Go.Proofs.Ytjkkjiaeeobnkaa
open Go.Am Go.Proofs
set_option maxHeartbeats 4000000 in
theorem c_ref05_Right (c : Pl.Crew) (hl : ∀ l, l ∈ c.dq → l.length ≤ 1000000 ∧ ∀ t, t ∈ l → -9223372036854775808 ≤ t ∧ t ≤ 9223372036854775807) : PCall Try.prog 114 [.agg (crewC c)] (bV (decide (Pl.crewRight c))) := by
 refine pcall_of_awp Try.func114 rfl (by simp [Try.ntmps114]) fun C hC => ?_
 refine awp_le (le_keep [0]) ?_
 simp only [kp, argSl, simprocAttr]
 refine awp_sr [47] (by rw [hC]; rfl) fun k hk => ?_
 simp (maxSteps := 9^9) (disch := (try simp only [lens]); omega) only [argSl, sm, ↓amb, mark_eq, simprocAttr, taskC, lV, dx]
 repeat refine ⟨by first | omega | (simp; done) | (unfold maxLen; omega) | (simp [maxLen]; omega) | assumption, ?_⟩
 refine hk _ ?_; clear hk k
 refine awp_le (le_keep [1]) ?_
 simp only [kp, argSl, simprocAttr]
 refine awp_sr [47] (by rw [hC]; rfl) fun k hk => ?_
 simp (maxSteps := 9^9) (disch := (try simp only [lens]); omega) only [argSl, sm, ↓amb, mark_eq, simprocAttr, fl110_1, sz108, el108, taskC, lV, dx]
 repeat refine ⟨by first | omega | (simp; done) | (unfold maxLen; omega) | (simp [maxLen]; omega) | assumption, ?_⟩
 refine hk _ ?_; clear hk k
 refine awp_seq fun k1 h1 => ?_
 refine awp_test [47] 42 (decide (¬ (Pl.right c.work ∧ 1 ≤ c.dq.length ∧ c.dq.length ≤ 8 ∧ (0 ≤ c.steps ∧ c.steps ≤ 100000) ∧ (0 ≤ c.idle ∧ c.idle ≤ 100000)))) [1, 2, 3] (by rw [hC]; rfl) (fun gd hgd k hk => ?_) ?_
 ·have g4 : gd 4 = some 15 := by rw [hgd]; rfl
  have g8 : gd 8 = some 19 := by rw [hgd]; rfl
  have g12 : gd 12 = some 23 := by rw [hgd]; rfl
  have g17 : gd 17 = some 28 := by rw [hgd]; rfl
  have g22 : gd 22 = some 33 := by rw [hgd]; rfl
  have g27 : gd 27 = some 38 := by rw [hgd]; rfl
  clear hgd
  simp (maxSteps := 9^9) (disch := (try simp only [lens]); omega) only [argSl, sm, ↓amb, mark_eq, simprocAttr, fl110_0, sz107, en130, fl110_3, sz3, fl110_4, gcase_undef, g4, g8, g12, g17, g22, g27, taskC, lV, dx]
  repeat' first | refine hk _ _ rfl rfl rfl rfl ?_ | (refine gsplit (fun hg => ?_) (fun hg => ?_) <;> (try simp only [hbx] at hg) <;> (try (have hin : ((c.dq.getD x default).getD y 0).toNat < c.work.ts.length := by omega); try (have hok := hR.2.2.2 _ hin; simp only [Pl.okT] at hok; have hcn := hR.1; simp only [Pl.cnt] at hcn)) <;> simp (maxSteps := 9^9) (disch := (try simp only [lens]); omega) only [argSl, sm, ↓amb, mark_eq, simprocAttr, fl110_0, sz107, en130, fl110_3, sz3, fl110_4, gcase_undef, g4, g8, g12, g17, g22, g27, taskC, lV, dx]) | apply And.intro | (refine callK_p (c38 _ _ _) rfl ?_; (try simp (maxSteps := 9^9) (disch := (try simp only [lens]); omega) only [argSl, sm, ↓amb, mark_eq, simprocAttr, fl110_0, sz107, en130, fl110_3, sz3, fl110_4, gcase_undef, g4, g8, g12, g17, g22, g27, taskC, lV, dx])) | fail
  all_goals first | rfl | omega | exact (decide_eq_true (by omega)).symm | exact (decide_eq_false (by omega)).symm | exact decide_eq_decide.mpr (by omega) | (refine Bool.eq_iff_iff.mpr ?_; simp only [beq_iff_eq, bne_iff_ne, ne_eq, decide_eq_true_eq]; omega) | (refine Bool.eq_iff_iff.mpr ?_; simp only [Bool.not_eq_true', Bool.not_eq_false', decide_eq_false_iff_not, decide_eq_true_eq, beq_iff_eq, bne_iff_ne, ne_eq]; omega) | assumption | (simp; done) | (simp [maxLen]; omega) | skip
  all_goals first | (refine Eq.symm (decide_eq_true ?_); intro q; exact absurd q.1 (by assumption)) | (refine Eq.symm (decide_eq_true ?_); intro q; omega) | (rw [← decide_not]; exact decide_eq_decide.mpr ⟨fun h q => by omega, fun h => by refine Decidable.byContradiction fun w => h ⟨by assumption, by omega, by omega, by omega, by omega⟩⟩) | (refine decide_eq_decide.mpr ⟨fun h q => by omega, fun h => by refine Decidable.byContradiction fun w => h ⟨by assumption, by omega, by omega, by omega, by omega⟩⟩) | trace_state
 simp only [kp, argSl, simprocAttr, List.length_cons, List.length_nil]
 refine awp_cond rfl (fun hb => ?_) (fun hb => ?_)
 ·try simp only [hbx] at hb
  refine awp_le (le_keep []) ?_
  simp only [kp, argSl, simprocAttr]
  have hb1 := hb
  refine awp_sr [47] (by rw [hC]; rfl) fun k hk => ?_
  simp (maxSteps := 9^9) (disch := (try simp only [lens]); omega) only [argSl, sm, ↓amb, mark_eq, simprocAttr, taskC, lV, dx]
  repeat refine ⟨by first | omega | (simp; done) | (unfold maxLen; omega) | (simp [maxLen]; omega) | assumption, ?_⟩
  refine hk _ ?_; clear hk k
  refine awp_ret ?_
  refine ret1 rfl rfl ?_
  exact .p (LeP.of_eq (by rw [decide_eq_false (fun q => hb ⟨q.1, q.2.1, q.2.2.1, q.2.2.2.1, q.2.2.2.2.1⟩)]))
 ·try simp only [hbx] at hb
  refine awp_skip ?_
  refine h1 _ ?_; clear h1 k1
  refine awp_le (le_keep [1, 3]) ?_
  simp only [kp, argSl, simprocAttr]
  have hq := hb
  have hR := hq.1
  have hts : c.work.ts.length ≤ 2000 := hR.2.2.1
  refine awp_sr [47] (by rw [hC]; rfl) fun k hk => ?_
  simp (maxSteps := 9^9) (disch := (try simp only [lens]); omega) only [argSl, sm, ↓amb, mark_eq, simprocAttr, fl110_0, fl107_0, sz104, el104, el105, by4, vr4, taskC, lV, dx]
  repeat refine ⟨by first | omega | (simp; done) | (unfold maxLen; omega) | (simp [maxLen]; omega) | assumption, ?_⟩
  refine hk _ ?_; clear hk k
  refine awp_seq fun k2 h2 => ?_
  refine awp_le (le_keep [1, 2, 3, 4]) ?_
  simp only [kp, argSl, simprocAttr]
  refine awp_sr [47] (by rw [hC]; rfl) fun k hk => ?_
  simp (maxSteps := 9^9) (disch := (try simp only [lens]); omega) only [argSl, sm, ↓amb, mark_eq, simprocAttr, taskC, lV, dx]
  repeat refine ⟨by first | omega | (simp; done) | (unfold maxLen; omega) | (simp [maxLen]; omega) | assumption, ?_⟩
  refine hk _ ?_; clear hk k
  refine awp_block ?_
  refine awp_loop (σ := Nat) (fun i => i ≤ c.dq.length ∧ Pl.metOk c.work (c.dq.take i).flatten) (fun (i : Nat) => ⟨[(1, (.ptr 0 7 0 0)), (3, (.p (iV c.dq.length))), (4, (.own 1)), (5, (.p (iV (i : Int))))], [(0, (.row 7 [[.p (.seq false (c.work.ts.map taskC)), .p (iV c.work.grain), .p (.seq false (c.work.done.map fun b => [bV b])), .p (.seq false (c.dq.map lV)), .p (bV c.over), .p (iV c.steps), .p (iV c.idle)]])), (1, (.row 1 (lift ((Pl.metL c.work.ts.length (c.dq.take i).flatten).map fun b => [bV b]))))], 1⟩) (fun i => c.dq.length - i) 0 ?_ ?_ fun x hx => ?_
  ·exact ⟨Nat.zero_le _, Pl.metOk_nil _⟩
  ·exact le_of [(0, _), (1, _)] (by rfl) (by rfl) ⟨⟨_, rfl, .ptr rfl⟩, ⟨_, rfl, .p (.of_eq (by first | rfl | (simp only [PV.lit.injEq, Value.int.injEq, true_and]; omega) | (simp; done) | (simp; omega)))⟩, ⟨_, rfl, .own rfl⟩, ⟨_, rfl, .p (.of_eq (by first | rfl | (simp only [PV.lit.injEq, Value.int.injEq, true_and]; omega) | (simp; done) | (simp; omega)))⟩, trivial⟩ ⟨⟨_, rfl, _, rfl, .one (.cons (.p (.refl _)) (.cons (.p (.refl _)) (.cons (.p (.refl _)) (.cons (.p (.refl _)) (.cons (.p (.refl _)) (.cons (.p (.refl _)) (.cons (.p (.refl _)) (.nil))))))))⟩, ⟨_, rfl, _, rfl, .liftE (by first | (rw [show (c.dq.take 0).flatten = [] from rfl, Pl.metL_nil, List.map_replicate]; done) | (rw [Pl.flat_succ c.dq x (by omega), List.take_of_length_le (l := (c.dq.getD x default)) (i := y) (by omega)]; done) | trace_state)⟩, trivial⟩
  obtain ⟨hx1, hx2⟩ := hx
  refine awp_seq fun k4 h4 => ?_
  refine awp_le (le_keep [0, 1, 2, 3, 4, 5]) ?_
  simp only [kp, argSl, simprocAttr]
  refine awp_sr [47] (by rw [hC]; rfl) fun k hk => ?_
  simp (maxSteps := 9^9) (disch := (try simp only [lens]); omega) only [argSl, sm, ↓amb, mark_eq, simprocAttr, taskC, lV, dx]
  repeat refine ⟨by first | omega | (simp; done) | (unfold maxLen; omega) | (simp [maxLen]; omega) | assumption, ?_⟩
  refine hk _ ?_; clear hk k
  refine awp_cond rfl (fun hb => ?_) (fun hb => ?_)
  ·try simp only [hbx] at hb
   refine awp_skip ?_
   refine h4 _ ?_; clear h4 k4
   refine awp_seq fun k5 h5 => ?_
   refine awp_block ?_
   refine awp_le (le_keep [0, 1, 2, 3, 4, 5]) ?_
   simp only [kp, argSl, simprocAttr]
   refine awp_sr [47] (by rw [hC]; rfl) fun k hk => ?_
   simp (maxSteps := 9^9) (disch := (try simp only [lens]); omega) only [argSl, sm, ↓amb, mark_eq, simprocAttr, taskC, lV, dx]
   repeat refine ⟨by first | omega | (simp; done) | (unfold maxLen; omega) | (simp [maxLen]; omega) | assumption, ?_⟩
   refine hk _ ?_; clear hk k
   refine awp_block ?_
   refine awp_loop (σ := Nat) (fun y => y ≤ (c.dq.getD x default).length ∧ Pl.metOk c.work ((c.dq.take x).flatten ++ (c.dq.getD x default).take y)) (fun (y : Nat) => ⟨[(1, (.ptr 0 7 0 0)), (3, (.p (iV c.dq.length))), (4, (.own 1)), (5, (.p (iV (x : Int)))), (6, (.p (iV (y : Int))))], [(0, (.row 7 [[.p (.seq false (c.work.ts.map taskC)), .p (iV c.work.grain), .p (.seq false (c.work.done.map fun b => [bV b])), .p (.seq false (c.dq.map lV)), .p (bV c.over), .p (iV c.steps), .p (iV c.idle)]])), (1, (.row 1 (lift ((Pl.metL c.work.ts.length ((c.dq.take x).flatten ++ (c.dq.getD x default).take y)).map fun b => [bV b]))))], 1⟩) (fun y => (c.dq.getD x default).length - y) 0 ?_ ?_ fun y hy => ?_
   ·exact ⟨Nat.zero_le _, by rw [List.take_zero, List.append_nil]; exact hx2⟩
   ·exact le_of [(0, _), (1, _)] (by rfl) (by rfl) ⟨⟨_, rfl, .ptr rfl⟩, ⟨_, rfl, .p (.of_eq (by first | rfl | (simp only [PV.lit.injEq, Value.int.injEq, true_and]; omega) | (simp; done) | (simp; omega)))⟩, ⟨_, rfl, .own rfl⟩, ⟨_, rfl, .p (.of_eq (by first | rfl | (simp only [PV.lit.injEq, Value.int.injEq, true_and]; omega) | (simp; done) | (simp; omega)))⟩, ⟨_, rfl, .p (.of_eq (by first | rfl | (simp only [PV.lit.injEq, Value.int.injEq, true_and]; omega) | (simp; done) | (simp; omega)))⟩, trivial⟩ ⟨⟨_, rfl, _, rfl, .one (.cons (.p (.refl _)) (.cons (.p (.refl _)) (.cons (.p (.refl _)) (.cons (.p (.refl _)) (.cons (.p (.refl _)) (.cons (.p (.refl _)) (.cons (.p (.refl _)) (.nil))))))))⟩, ⟨_, rfl, _, rfl, .liftE (by first | (rw [List.take_zero, List.append_nil]; done) | (rw [Pl.take_succ_at _ _ (by omega), ← List.append_assoc]; exact (List.map_set ..).symm.trans (congrArg (List.map _) (Pl.metL_snoc hho.1))) | trace_state)⟩, trivial⟩
   obtain ⟨hy1, hy2⟩ := hy
   refine awp_seq fun k7 h7 => ?_
   refine awp_le (le_keep [0, 1, 2, 3, 4, 5, 6]) ?_
   simp only [kp, argSl, simprocAttr]
   have hll := hl (c.dq.getD x default) (Pl.getD_mem _ _ _ (by omega))
   refine awp_sr [47] (by rw [hC]; rfl) fun k hk => ?_
   simp (maxSteps := 9^9) (disch := (try simp only [lens]); omega) only [argSl, sm, ↓amb, mark_eq, simprocAttr, fl110_1, sz108, el108, sz67, el67, taskC, lV, dx]
   repeat refine ⟨by first | omega | (simp; done) | (unfold maxLen; omega) | (simp [maxLen]; omega) | assumption, ?_⟩
   refine hk _ ?_; clear hk k
   refine awp_cond rfl (fun hb => ?_) (fun hb => ?_)
   ·try simp only [hbx] at hb
    refine awp_skip ?_
    refine h7 _ ?_; clear h7 k7
    refine awp_seq fun k8 h8 => ?_
    refine awp_block ?_
    refine awp_le (le_keep [0, 1, 2, 3, 4, 5, 6]) ?_
    simp only [kp, argSl, simprocAttr]
    refine awp_sr [47] (by rw [hC]; rfl) fun k hk => ?_
    simp (maxSteps := 9^9) (disch := (try simp only [lens]); omega) only [argSl, sm, ↓amb, mark_eq, simprocAttr, fl110_1, sz108, el108, sz67, el67, sz3, taskC, lV, dx]
    repeat refine ⟨by first | omega | (simp; done) | (unfold maxLen; omega) | (simp [maxLen]; omega) | assumption, ?_⟩
    refine hk _ ?_; clear hk k
    refine awp_seq fun k9 h9 => ?_
    have hkl := hll.2 ((c.dq.getD x default).getD y 0) (Pl.getD_mem _ _ _ (by omega))
    have hml := Pl.metL_len c.work.ts.length ((c.dq.take x).flatten ++ (c.dq.getD x default).take y)
    refine awp_testD [47] ⟨[0, 1, 3, 7, 7, 23, 63, 127, 255, 511, 511, 2047, 4095, 8191, 16383, 32767, 65535, 131071, 32767, 524287, 1048575, 2097151, 4194303, 8388607, 16777215, 33554431, 67108863, 33554431, 268435455, 536870911, 1073741823, 2147483647, 4294967295, 8589934591, 2147483647, 19327352831, 53687091199, 2147483647, 259845521407, 534723428351, 1084479242239, 2199023255551, 4398046511103, 8796093022207, 17592186044415], [5, 12, 17, 21, 26, 33, 36, 40, 42], [], [(28, 33), (28, 36), (28, 40), (28, 42)], some []⟩ 115 (decide (¬ Pl.heldOk c.work ((c.dq.take x).flatten ++ (c.dq.getD x default).take y) ((c.dq.getD x default).getD y 0))) [0, 1, 2, 3, 4, 5, 6, 7] (by rw [hC]; rfl) (by kernel_rfl) (by kernel_rfl) (fun gd hgd k hk => ?_) ?_
    ·have g2 : gd 2 = some 73 := by rw [hgd]; rfl
     have g8 : gd 8 = some 79 := by rw [hgd]; rfl
     have g14 : gd 14 = some 85 := by rw [hgd]; rfl
     have g24 : gd 24 = some 95 := by rw [hgd]; rfl
     have g30 : gd 30 = some 101 := by rw [hgd]; rfl
     clear hgd
     simp (maxSteps := 9^9) (disch := (try simp only [lens]); omega) only [argSl, sm, ↓amb, mark_eq, simprocAttr, el105, sz4, fl110_0, fl107_0, sz104, el104, sz128, fl128_3, sz3, sz107, en119, fl107_2, sz105, fl128_0, gcase_undef, g2, g8, g14, g24, g30, taskC, lV, dx]
     repeat' first | refine hk _ _ rfl rfl rfl rfl ?_ | (refine gsplit (fun hg => ?_) (fun hg => ?_) <;> (try simp only [hbx] at hg) <;> (try (have hin : ((c.dq.getD x default).getD y 0).toNat < c.work.ts.length := by omega); try (have hok := hR.2.2.2 _ hin; simp only [Pl.okT] at hok; have hcn := hR.1; simp only [Pl.cnt] at hcn)) <;> simp (maxSteps := 9^9) (disch := (try simp only [lens]); omega) only [argSl, sm, ↓amb, mark_eq, simprocAttr, el105, sz4, fl110_0, fl107_0, sz104, el104, sz128, fl128_3, sz3, sz107, en119, fl107_2, sz105, fl128_0, gcase_undef, g2, g8, g14, g24, g30, taskC, lV, dx]) | apply And.intro | (refine callK_p (c40 _ _ _ _) rfl ?_; (try simp (maxSteps := 9^9) (disch := (try simp only [lens]); omega) only [argSl, sm, ↓amb, mark_eq, simprocAttr, el105, sz4, fl110_0, fl107_0, sz104, el104, sz128, fl128_3, sz3, sz107, en119, fl107_2, sz105, fl128_0, gcase_undef, g2, g8, g14, g24, g30, taskC, lV, dx])) | fail
     all_goals first | rfl | omega | exact (decide_eq_true (by omega)).symm | exact (decide_eq_false (by omega)).symm | exact decide_eq_decide.mpr (by omega) | (refine Bool.eq_iff_iff.mpr ?_; simp only [beq_iff_eq, bne_iff_ne, ne_eq, decide_eq_true_eq]; omega) | (refine Bool.eq_iff_iff.mpr ?_; simp only [Bool.not_eq_true', Bool.not_eq_false', decide_eq_false_iff_not, decide_eq_true_eq, beq_iff_eq, bne_iff_ne, ne_eq]; omega) | assumption | (simp; done) | (simp [maxLen]; omega) | skip
     all_goals first | (refine (decide_eq_true ?_).symm; intro q; first | (have q1 := q.1; have q2 := q.2.1; omega) | exact q.2.2.1 (Pl.metL_in q.1 q.2.1 (by assumption)) | exact absurd q.2.2.2.1 (by assumption)) | (refine (decide_eq_false ?_).symm; intro q; exact q ⟨by omega, by omega, Pl.metL_out (n := c.work.ts.length) (by omega) (by omega) (by assumption), by assumption, .inl (by assumption)⟩) | exact Pl.held_last (by omega) (by omega) (Pl.metL_out (n := c.work.ts.length) (by omega) (by omega) (by assumption)) (by assumption) (by assumption) | trace_state
    simp only [kp, argSl, simprocAttr, List.length_cons, List.length_nil]
    refine awp_cond rfl (fun hb => ?_) (fun hb => ?_)
    ·try simp only [hbx] at hb
     refine awp_le (le_keep []) ?_
     simp only [kp, argSl, simprocAttr]
     refine awp_sr [47] (by rw [hC]; rfl) fun k hk => ?_
     simp (maxSteps := 9^9) (disch := (try simp only [lens]); omega) only [argSl, sm, ↓amb, mark_eq, simprocAttr, taskC, lV, dx]
     repeat refine ⟨by first | omega | (simp; done) | (unfold maxLen; omega) | (simp [maxLen]; omega) | assumption, ?_⟩
     refine hk _ ?_; clear hk k
     refine awp_ret ?_
     obtain ⟨r, hr⟩ := Pl.flat_at c.dq x y (by omega) (by omega)
     refine ret1 rfl rfl ?_
     exact .p (LeP.of_eq (by rw [decide_eq_false (Pl.crewRight_not hb hr)]))
    ·try simp only [hbx] at hb
     refine awp_skip ?_
     refine h9 _ ?_; clear h9 k9
     have hho := hb
     have hq0 := hho.1
     have hq1 := hho.2.1
     refine awp_region [47] (by rw [hC]; rfl) fun k hk => ?_
     simp (maxSteps := 9^9) (disch := (try simp only [lens]); omega) only [argSl, sm, ↓amb, mark_eq, simprocAttr, el105, sz4, taskC, lV, dx]
     repeat refine ⟨by first | omega | (simp; done) | (unfold maxLen; omega) | (simp [maxLen]; omega) | assumption, ?_⟩
     refine hk _ ?_; clear hk k
     refine h8 _ ?_; clear h8 k8
     refine awp_region [47] (by rw [hC]; rfl) fun k hk => ?_
     simp (maxSteps := 9^9) (disch := (try simp only [lens]); omega) only [argSl, sm, ↓amb, mark_eq, simprocAttr, taskC, lV, dx]
     repeat refine ⟨by first | omega | (simp; done) | (unfold maxLen; omega) | (simp [maxLen]; omega) | assumption, ?_⟩
     refine hk _ ?_; clear hk k
     refine ⟨y + 1, ⟨by omega, by rw [Pl.take_succ_at _ _ (by omega), ← List.append_assoc]; exact Pl.metOk_more hy2 hho⟩, le_of [(0, _), (1, _)] (by rfl) (by rfl) ⟨⟨_, rfl, .ptr rfl⟩, ⟨_, rfl, .p (.of_eq (by first | rfl | (simp only [PV.lit.injEq, Value.int.injEq, true_and]; omega) | (simp; done) | (simp; omega)))⟩, ⟨_, rfl, .own rfl⟩, ⟨_, rfl, .p (.of_eq (by first | rfl | (simp only [PV.lit.injEq, Value.int.injEq, true_and]; omega) | (simp; done) | (simp; omega)))⟩, ⟨_, rfl, .p (.of_eq (by first | rfl | (simp only [PV.lit.injEq, Value.int.injEq, true_and]; omega) | (simp; done) | (simp; omega)))⟩, trivial⟩ ⟨⟨_, rfl, _, rfl, .one (.cons (.p (.refl _)) (.cons (.p (.refl _)) (.cons (.p (.refl _)) (.cons (.p (.refl _)) (.cons (.p (.refl _)) (.cons (.p (.refl _)) (.cons (.p (.refl _)) (.nil))))))))⟩, ⟨_, rfl, _, rfl, .liftE (by first | (rw [List.take_zero, List.append_nil]; done) | (rw [Pl.take_succ_at _ _ (by omega), ← List.append_assoc]; exact (List.map_set ..).symm.trans (congrArg (List.map _) (Pl.metL_snoc hho.1))) | trace_state)⟩, trivial⟩, by omega⟩
   ·try simp only [hbx] at hb
    refine awp_exit ((if_pos rfl).mpr ?_)
    refine h5 _ ?_; clear h7 k7; clear h5 k5
    refine awp_region [47] (by rw [hC]; rfl) fun k hk => ?_
    simp (maxSteps := 9^9) (disch := (try simp only [lens]); omega) only [argSl, sm, ↓amb, mark_eq, simprocAttr, taskC, lV, dx]
    repeat refine ⟨by first | omega | (simp; done) | (unfold maxLen; omega) | (simp [maxLen]; omega) | assumption, ?_⟩
    refine hk _ ?_; clear hk k
    refine ⟨x + 1, ⟨by omega, by rw [Pl.flat_succ c.dq x (by omega)]; rw [List.take_of_length_le (l := (c.dq.getD x default)) (i := y) (by omega)] at hy2; exact hy2⟩, le_of [(0, _), (1, _)] (by rfl) (by rfl) ⟨⟨_, rfl, .ptr rfl⟩, ⟨_, rfl, .p (.of_eq (by first | rfl | (simp only [PV.lit.injEq, Value.int.injEq, true_and]; omega) | (simp; done) | (simp; omega)))⟩, ⟨_, rfl, .own rfl⟩, ⟨_, rfl, .p (.of_eq (by first | rfl | (simp only [PV.lit.injEq, Value.int.injEq, true_and]; omega) | (simp; done) | (simp; omega)))⟩, trivial⟩ ⟨⟨_, rfl, _, rfl, .one (.cons (.p (.refl _)) (.cons (.p (.refl _)) (.cons (.p (.refl _)) (.cons (.p (.refl _)) (.cons (.p (.refl _)) (.cons (.p (.refl _)) (.cons (.p (.refl _)) (.nil))))))))⟩, ⟨_, rfl, _, rfl, .liftE (by first | (rw [show (c.dq.take 0).flatten = [] from rfl, Pl.metL_nil, List.map_replicate]; done) | (rw [Pl.flat_succ c.dq x (by omega), List.take_of_length_le (l := (c.dq.getD x default)) (i := y) (by omega)]; done) | trace_state)⟩, trivial⟩, by omega⟩
  ·try simp only [hbx] at hb
   refine awp_exit ((if_pos rfl).mpr ?_)
   refine h2 _ ?_; clear h4 k4; clear h2 k2
   refine awp_le (le_keep []) ?_
   simp only [kp, argSl, simprocAttr]
   refine awp_sr [47] (by rw [hC]; rfl) fun k hk => ?_
   simp (maxSteps := 9^9) (disch := (try simp only [lens]); omega) only [argSl, sm, ↓amb, mark_eq, simprocAttr, taskC, lV, dx]
   repeat refine ⟨by first | omega | (simp; done) | (unfold maxLen; omega) | (simp [maxLen]; omega) | assumption, ?_⟩
   refine hk _ ?_; clear hk k
   refine awp_ret ?_
   rw [List.take_of_length_le (by omega)] at hx2
   refine ret1 rfl rfl ?_
   exact .p (LeP.of_eq (by rw [decide_eq_true (show Pl.crewRight c from ⟨hq.1, hq.2.1, hq.2.2.1, hq.2.2.2.1, hq.2.2.2.2, hx2.1, hx2.2⟩)]))
end Go.Proofs.Ytjkkjiaeeobnkaa
end
section
set_option linter.unusedSimpArgs false
set_option linter.unusedVariables false
set_option maxRecDepth 100000
namespace Go.Proofs.Ytjkkjiaeeobnkaa
open Go.Am Go.Proofs
@[reducible] def lE (l : List Int) : List PV := [.seq l.isEmpty (l.map fun n => [iV n])]
theorem lE_next (d : List (List Int)) (x : Nat) (h : x < d.length) : (d.take x).map lE ++ [[PV.seq (List.map (fun n => [iV n]) (d.getD x default)).isEmpty ((d.getD x default).map fun n => [iV n])]] = (d.take (x + 1)).map lE := by
  rw [take_snoc d x h, List.map_append, List.isEmpty_map]; rfl
theorem pl110_2 : tPlace Try.prog 110 2 = some (4, 1) := by kernel_rfl
theorem pl110_3 : tPlace Try.prog 110 3 = some (5, 1) := by kernel_rfl
theorem pl110_4 : tPlace Try.prog 110 4 = some (6, 1) := by kernel_rfl
set_option maxHeartbeats 4000000 in
theorem c_Copy_h (c : Pl.Crew) (h1 : c.work.ts.length ≤ 1000000) (h2 : c.work.done.length ≤ 1000000) (h3 : c.dq.length ≤ 1000000) (hl : ∀ l, l ∈ c.dq → l.length ≤ 1000000) : HCall Try.prog 116 [.p (.agg (crewC c))] [] (.agg [.p (.seq false (c.work.ts.map taskC)), .p (iV c.work.grain), .p (.seq false (c.work.done.map fun b => [bV b])), .own 0, .p (bV c.over), .p (iV c.steps), .p (iV c.idle)]) [(0, .row 1 (lift (c.dq.map lE)))] := by
 refine hcall_of_awp Try.func116 rfl (by simp [Try.ntmps116]) fun C hC => ?_
 refine awp_le (le_keep [0]) ?_
 simp only [kp, argSl, simprocAttr]
 refine awp_sr [32] (by rw [hC]; rfl) fun k hk => ?_
 simp (maxSteps := 9^9) (disch := (try simp only [lens]); omega) only [argSl, sm, ↓amb, mark_eq, simprocAttr, vr110, dx]
 repeat refine ⟨by first | omega | (simp; done) | (unfold maxLen; omega) | (simp [maxLen]; omega) | assumption, ?_⟩
 refine hk _ ?_; clear hk k
 refine awp_le (le_keep [1, 2]) ?_
 simp only [kp, argSl, simprocAttr]
 refine awp_sd [32] ⟨[0, 1, 3, 0, 8, 0, 32, 0, 128, 511, 0, 2047], [1, 4, 6, 8], [11], [(2, 11), (10, 11)], none⟩ (by rw [hC]; rfl) (by kernel_rfl) (by kernel_rfl) fun k hk => ?_
 simp (maxSteps := 9^9) (disch := (try simp only [lens]); omega) only [argSl, sm, ↓amb, mark_eq, simprocAttr, fl110_0, sz107, en131, fl110_2, sz4, fl110_3, sz3, fl110_4, vr110, bt110, pl110_0, pl110_2, pl110_3, pl110_4, sz110, dx]
 repeat refine ⟨by first | omega | (simp; done) | (unfold maxLen; omega) | (simp [maxLen]; omega) | assumption, ?_⟩
 refine callK_p (c27p _ _ _ h1 h2) rfl ?_
 simp (maxSteps := 9^9) (disch := (try simp only [lens]); omega) only [argSl, sm, ↓amb, mark_eq, simprocAttr, fl110_0, sz107, en131, fl110_2, sz4, fl110_3, sz3, fl110_4, vr110, bt110, pl110_0, pl110_2, pl110_3, pl110_4, sz110, dx]
 repeat refine ⟨by first | omega | (simp; done) | (unfold maxLen; omega) | (simp [maxLen]; omega) | assumption, ?_⟩
 refine hk _ ?_; clear hk k
 refine awp_seq fun k1 h1 => ?_
 refine awp_le (le_keep [1, 2, 3]) ?_
 simp only [kp, argSl, simprocAttr]
 refine awp_ownCs 3 1 3 rfl rfl rfl ?_
 simp only [am, List.set_cons_succ, List.set_cons_zero, Nat.reduceEqDiff, ↓reduceIte, reduceCtorEq, Nat.reduceAdd, Nat.reduceMul]
 refine awp_sr [32] (by rw [hC]; rfl) fun k hk => ?_
 simp (maxSteps := 9^9) (disch := (try simp only [lens]); omega) only [argSl, sm, ↓amb, mark_eq, simprocAttr, dx]
 repeat refine ⟨by first | omega | (simp; done) | (unfold maxLen; omega) | (simp [maxLen]; omega) | assumption, ?_⟩
 refine hk _ ?_; clear hk k
 refine awp_block ?_
 refine awp_loop (σ := Nat) (fun i => i ≤ c.dq.length) (fun (i : Nat) => ⟨[(1, (.ptr 0 7 0 0)), (2, (.ptr 1 7 0 0)), (3, (.ptr 2 7 0 0)), (4, (.p (iV (i : Int))))], [(0, (.row 7 [[.p (.seq false (c.work.ts.map taskC)), .p (iV c.work.grain), .p (.seq false (c.work.done.map fun b => [bV b])), .p (.seq false (c.dq.map lV)), .p (bV c.over), .p (iV c.steps), .p (iV c.idle)]])), (1, (.row 7 [[.p (.seq true []), .p (iV 0), .p (.seq true []), .p (.seq true []), .p (bV false), .p (iV 0), .p (iV 0)]])), (2, (.row 7 [[.p (.seq false (c.work.ts.map taskC)), .p (iV c.work.grain), .p (.seq false (c.work.done.map fun b => [bV b])), .own 3, .p (bV c.over), .p (iV c.steps), .p (iV c.idle)]])), (3, (.row 1 (lift ((c.dq.take i).map lE))))], 1⟩) (fun i => c.dq.length - i) 0 ?_ ?_ fun i hi => ?_
 ·exact Nat.zero_le _
 ·exact le_of [(0, _), (1, _), (2, _), (3, _)] (by rfl) (by rfl) ⟨⟨_, rfl, .ptr rfl⟩, ⟨_, rfl, .ptr rfl⟩, ⟨_, rfl, .ptr rfl⟩, ⟨_, rfl, .p (.of_eq (by first | rfl | (simp only [PV.lit.injEq, Value.int.injEq, true_and]; omega) | (simp; done) | (simp; omega)))⟩, trivial⟩ ⟨⟨_, rfl, _, rfl, .one (.cons (.p (.refl _)) (.cons (.p (.refl _)) (.cons (.p (.refl _)) (.cons (.p (.refl _)) (.cons (.p (.refl _)) (.cons (.p (.refl _)) (.cons (.p (.refl _)) (.nil))))))))⟩, ⟨_, rfl, _, rfl, .one (.cons (.p (.refl _)) (.cons (.p (.refl _)) (.cons (.p (.refl _)) (.cons (.p (.refl _)) (.cons (.p (.refl _)) (.cons (.p (.refl _)) (.cons (.p (.refl _)) (.nil))))))))⟩, ⟨_, rfl, _, rfl, .one (.cons (.p (.refl _)) (.cons (.p (.refl _)) (.cons (.p (.refl _)) (.cons (.own rfl) (.cons (.p (.refl _)) (.cons (.p (.refl _)) (.cons (.p (.refl _)) (.nil))))))))⟩, ⟨_, rfl, _, rfl, .liftE (by first | rfl | exact lE_next _ _ (by omega) | trace_state)⟩, trivial⟩
 refine awp_seq fun k3 h3 => ?_
 refine awp_le (le_keep [0, 1, 2, 3, 4]) ?_
 simp only [kp, argSl, simprocAttr]
 refine awp_sr [32] (by rw [hC]; rfl) fun k hk => ?_
 simp (maxSteps := 9^9) (disch := (try simp only [lens]); omega) only [argSl, sm, ↓amb, mark_eq, simprocAttr, fl110_1, sz108, el108, dx]
 repeat refine ⟨by first | omega | (simp; done) | (unfold maxLen; omega) | (simp [maxLen]; omega) | assumption, ?_⟩
 refine hk _ ?_; clear hk k
 refine awp_cond rfl (fun hb => ?_) (fun hb => ?_)
 ·try simp only [hbx] at hb
  refine awp_skip ?_
  refine h3 _ ?_; clear h3 k3
  refine awp_seq fun k4 h4 => ?_
  refine awp_block ?_
  have hll := hl (c.dq.getD i default) (Pl.getD_mem _ _ _ (by omega))
  refine awp_draw [32] ⟨[0, 1, 0, 0, 8, 0, 56, 120, 252, 508, 1023, 2047, 4095], [1], [10, 12], [(10, 12)], some [2, 3]⟩ (by rw [hC]; rfl) (by kernel_rfl) (by kernel_rfl) fun k hk => ?_
  simp (maxSteps := 9^9) (disch := (try simp only [lens]); omega) only [argSl, sm, ↓amb, mark_eq, simprocAttr, fl110_1, sz108, el67, vr3, el108, sz67, by3, vr67, by67, dx]
  repeat refine ⟨by first | omega | (simp; done) | (unfold maxLen; omega) | (simp [maxLen]; omega) | assumption, ?_⟩
  refine hk _ ?_; clear hk k
  refine h4 _ ?_; clear h4 k4
  refine awp_region [32] (by rw [hC]; rfl) fun k hk => ?_
  simp (maxSteps := 9^9) (disch := (try simp only [lens]); omega) only [argSl, sm, ↓amb, mark_eq, simprocAttr, dx]
  repeat refine ⟨by first | omega | (simp; done) | (unfold maxLen; omega) | (simp [maxLen]; omega) | assumption, ?_⟩
  refine hk _ ?_; clear hk k
  refine ⟨i + 1, by omega, le_of [(0, _), (1, _), (2, _), (3, _)] (by rfl) (by rfl) ⟨⟨_, rfl, .ptr rfl⟩, ⟨_, rfl, .ptr rfl⟩, ⟨_, rfl, .ptr rfl⟩, ⟨_, rfl, .p (.of_eq (by first | rfl | (simp only [PV.lit.injEq, Value.int.injEq, true_and]; omega) | (simp; done) | (simp; omega)))⟩, trivial⟩ ⟨⟨_, rfl, _, rfl, .one (.cons (.p (.refl _)) (.cons (.p (.refl _)) (.cons (.p (.refl _)) (.cons (.p (.refl _)) (.cons (.p (.refl _)) (.cons (.p (.refl _)) (.cons (.p (.refl _)) (.nil))))))))⟩, ⟨_, rfl, _, rfl, .one (.cons (.p (.refl _)) (.cons (.p (.refl _)) (.cons (.p (.refl _)) (.cons (.p (.refl _)) (.cons (.p (.refl _)) (.cons (.p (.refl _)) (.cons (.p (.refl _)) (.nil))))))))⟩, ⟨_, rfl, _, rfl, .one (.cons (.p (.refl _)) (.cons (.p (.refl _)) (.cons (.p (.refl _)) (.cons (.own rfl) (.cons (.p (.refl _)) (.cons (.p (.refl _)) (.cons (.p (.refl _)) (.nil))))))))⟩, ⟨_, rfl, _, rfl, .liftE (by first | rfl | exact lE_next _ _ (by omega) | trace_state)⟩, trivial⟩, by omega⟩
 ·try simp only [hbx] at hb
  refine awp_exit ((if_pos rfl).mpr ?_)
  refine h1 _ ?_; clear h3 k3; clear h1 k1
  refine awp_le (le_keep [2, 3]) ?_
  simp only [kp, argSl, simprocAttr]
  have htk : c.dq.take i = c.dq := List.take_of_length_le (by omega)
  rw [htk]
  refine awp_sr [32] (by rw [hC]; rfl) fun k hk => ?_
  simp (maxSteps := 9^9) (disch := (try simp only [lens]); omega) only [argSl, sm, ↓amb, mark_eq, simprocAttr, sz110, dx]
  repeat refine ⟨by first | omega | (simp; done) | (unfold maxLen; omega) | (simp [maxLen]; omega) | assumption, ?_⟩
  refine hk _ ?_; clear hk k
  refine awp_ret ?_
  refine rethc rfl rfl sz110 ?_
  simp (maxSteps := 9^9) (disch := (try simp only [lens]); omega) only [argSl, sm, ↓amb, mark_eq, simprocAttr, sz110, dx]
  exact le_of [(0, _)] (by rfl) (by rfl) ⟨⟨_, rfl, .agg rfl (LeRow.cons (.p (.refl _)) (LeRow.cons (.p (.refl _)) (LeRow.cons (.p (.refl _)) (LeRow.cons (.own rfl) (LeRow.cons (.p (.refl _)) (LeRow.cons (.p (.refl _)) (LeRow.cons (.p (.refl _)) .nil))))))).2⟩, trivial⟩ ⟨⟨_, rfl, _, rfl, .liftE rfl⟩, trivial⟩
set_option maxHeartbeats 4000000 in
theorem c_Pop_h (c : Bool) (l : List Int) (hl : l.length ≤ 1000000) (h0 : 0 < l.length) : HCall Try.prog 117 [.p (ints c l)] [] (.tup [.own 0, .p (iV (l.getD (l.length - 1) 0)), .p (iV 0)]) [(0, .row 1 (lift ((l.take (l.length - 1)).map fun n => [iV n])))] := by
 refine hcall_of_awp Try.func117 rfl (by simp [Try.ntmps117]) fun C hC => ?_
 refine awp_le (le_keep [0]) ?_
 simp only [kp, argSl, simprocAttr]
 refine awp_sr [17] (by rw [hC]; rfl) fun k hk => ?_
 simp (maxSteps := 9^9) (disch := (try simp only [lens]); omega) only [argSl, sm, ↓amb, mark_eq, simprocAttr, dx]
 repeat refine ⟨by first | omega | (simp; done) | (unfold maxLen; omega) | (simp [maxLen]; omega) | assumption, ?_⟩
 refine hk _ ?_; clear hk k
 refine awp_seq fun k1 h1 => ?_
 refine awp_le (le_keep [0, 2, 3, 4]) ?_
 simp only [kp, argSl, simprocAttr]
 refine awp_sr [17] (by rw [hC]; rfl) fun k hk => ?_
 simp (maxSteps := 9^9) (disch := (try simp only [lens]); omega) only [argSl, sm, ↓amb, mark_eq, simprocAttr, el67, dx]
 repeat refine ⟨by first | omega | (simp; done) | (unfold maxLen; omega) | (simp [maxLen]; omega) | assumption, ?_⟩
 refine hk _ ?_; clear hk k
 refine awp_cond rfl (fun hb => ?_) (fun hb => ?_)
 ·exact absurd (beq_iff_eq.mp hb) (by omega)
 ·try simp only [hbx] at hb
  refine awp_skip ?_
  refine h1 _ ?_; clear h1 k1
  refine awp_le (le_keep [0]) ?_
  simp only [kp, argSl, simprocAttr]
  refine awp_sr [17] (by rw [hC]; rfl) fun k hk => ?_
  simp (maxSteps := 9^9) (disch := (try simp only [lens]); omega) only [argSl, sm, ↓amb, mark_eq, simprocAttr, el67, dx]
  repeat refine ⟨by first | omega | (simp; done) | (unfold maxLen; omega) | (simp [maxLen]; omega) | assumption, ?_⟩
  refine hk _ ?_; clear hk k
  refine awp_le (le_keep [0, 5]) ?_
  simp only [kp, argSl, simprocAttr]
  refine awp_sd [17] ⟨[0, 0, 0, 6, 15, 0, 0, 96, 224, 31, 1023, 2047], [4, 8], [], [], some []⟩ (by rw [hC]; rfl) (by kernel_rfl) (by kernel_rfl) fun k hk => ?_
  simp (maxSteps := 9^9) (disch := (try simp only [lens]); omega) only [argSl, sm, ↓amb, mark_eq, simprocAttr, el67, vr3, sz3, by3, dx]
  repeat refine ⟨by first | omega | (simp; done) | (unfold maxLen; omega) | (simp [maxLen]; omega) | assumption, ?_⟩
  refine hk _ ?_; clear hk k
  refine awp_ret ?_
  refine reth3 rfl rfl rfl rfl ?_
  exact le_of [(0, _)] (by rfl) (by rfl) ⟨⟨_, rfl, leTup (LeRow.cons (.own rfl) (LeRow.cons (.p (.of_eq (by first | rfl | trace_state))) (LeRow.cons (.p (.refl _)) .nil)))⟩, trivial⟩ ⟨⟨_, rfl, _, rfl, .liftE (by first | rfl | trace_state)⟩, trivial⟩
end Go.Proofs.Ytjkkjiaeeobnkaa
end
