/-
  Cells, by the document.
-/
import Derived.Test.YthelnccjcbnjfaaRA
import Derived.Test.YthelnccjcbnjfaaY2
set_option linter.unusedSimpArgs false
set_option linter.unusedVariables false
set_option maxRecDepth 100000
namespace Go.Proofs.Ythelnccjcbnjfaa
open Go.Am Go.Proofs
theorem en19 : enters Try.prog 19 = true := by kernel_rfl
theorem en21 : enters Try.prog 21 = true := by kernel_rfl
theorem en54 : enters Try.prog 54 = true := by kernel_rfl
set_option maxHeartbeats 4000000 in
theorem c_ref07_Fill (c d : Bool) (l : List Int) (op y : Int) (p : Pl.Plan) (hl : ∀ x, x ∈ l → Pl.W32 x) (hy : Pl.W32 y) (hn : l.length ≤ 1000000) : PCall Try.prog 17 [words c l, iV op, u32V y, .agg (planC d p)] (.tup [words false (Pl.celL l.length (fun j => Pl.one (l.getD j 0) op y) op p), iV (Pl.celS l.length op p), iV (Pl.celE l.length op p)]) := by
 refine pcall_of_awp Try.func17 rfl (by simp [Try.ntmps17]) fun C hC => ?_
 refine awp_le (le_keep [0, 1, 2, 3]) ?_
 simp only [kp, argSl, simprocAttr]
 refine awp_sr [45] (by rw [hC]; rfl) fun k hk => ?_
 simp (maxSteps := 9^9) (disch := (try simp only [lens]); omega) only [argSl, sm, ↓amb, mark_eq, simprocAttr, dx]
 repeat refine ⟨by first | omega | (simp; done) | (unfold maxLen; omega) | (simp [maxLen]; omega) | assumption, ?_⟩
 refine hk _ ?_; clear hk k
 refine awp_seq fun k1 h1 => ?_
 refine awp_le (le_keep [0, 1, 2, 7, 8, 9, 10]) ?_
 simp only [kp, argSl, simprocAttr]
 refine awp_sr [45] (by rw [hC]; rfl) fun k hk => ?_
 simp (maxSteps := 9^9) (disch := (try simp only [lens]); omega) only [argSl, sm, ↓amb, mark_eq, simprocAttr, en54, dx]
 repeat refine ⟨by first | omega | (simp; done) | (unfold maxLen; omega) | (simp [maxLen]; omega) | assumption, ?_⟩
 refine callK_p (c_ref07_known _) rfl ?_
 simp (maxSteps := 9^9) (disch := (try simp only [lens]); omega) only [argSl, sm, ↓amb, mark_eq, simprocAttr, en54, dx]
 repeat refine ⟨by first | omega | (simp; done) | (unfold maxLen; omega) | (simp [maxLen]; omega) | assumption, ?_⟩
 refine hk _ ?_; clear hk k
 refine awp_cond rfl (fun hb => ?_) (fun hb => ?_)
 ·try simp only [hbx] at hb
  refine awp_le (le_keep []) ?_
  simp only [kp, argSl, simprocAttr]
  refine awp_sr [45] (by rw [hC]; rfl) fun k hk => ?_
  simp (maxSteps := 9^9) (disch := (try simp only [lens]); omega) only [argSl, sm, ↓amb, mark_eq, simprocAttr, dx]
  repeat refine ⟨by first | omega | (simp; done) | (unfold maxLen; omega) | (simp [maxLen]; omega) | assumption, ?_⟩
  refine hk _ ?_; clear hk k
  refine awp_ret ?_
  have e1 : Pl.celE l.length op p = 1 := if_neg (by first | exact hb | simpa using hb)
  have e2 : Pl.celL l.length (fun j => Pl.one (l.getD j 0) op y) op p = [] := if_neg (by rw [e1]; decide)
  have e3 : Pl.celS l.length op p = 0 := if_neg (by rw [e1]; decide)
  rw [e1, e2, e3]
  refine ret3 rfl rfl rfl rfl ?_ ?_ ?_
  ·exact .p (LeP.seq _ _)
  ·exact .p (LeP.refl _)
  ·exact .p (LeP.refl _)
 ·try simp only [hbx] at hb
  refine awp_skip ?_
  refine h1 _ ?_; clear h1 k1
  refine awp_le (le_keep [0, 1, 2, 7]) ?_
  simp only [kp, argSl, simprocAttr]
  have hop : Pl.opOk op := by first | exact hb | simpa using hb
  refine awp_sr [45] (by rw [hC]; rfl) fun k hk => ?_
  simp (maxSteps := 9^9) (disch := (try simp only [lens]); omega) only [argSl, sm, ↓amb, mark_eq, simprocAttr, el22, sz26, en19, dx]
  repeat refine ⟨by first | omega | (simp; done) | (unfold maxLen; omega) | (simp [maxLen]; omega) | assumption, ?_⟩
  refine callK_p (c_ref07_Order d l.length p) rfl ?_
  simp (maxSteps := 9^9) (disch := (try simp only [lens]); omega) only [argSl, sm, ↓amb, mark_eq, simprocAttr, el22, sz26, en19, dx]
  repeat refine ⟨by first | omega | (simp; done) | (unfold maxLen; omega) | (simp [maxLen]; omega) | assumption, ?_⟩
  refine hk _ ?_; clear hk k
  refine awp_seq fun k2 h2 => ?_
  refine awp_le (le_keep [0, 1, 2, 8, 9, 10, 12, 13]) ?_
  simp only [kp, argSl, simprocAttr]
  refine awp_sr [45] (by rw [hC]; rfl) fun k hk => ?_
  simp (maxSteps := 9^9) (disch := (try simp only [lens]); omega) only [argSl, sm, ↓amb, mark_eq, simprocAttr, dx]
  repeat refine ⟨by first | omega | (simp; done) | (unfold maxLen; omega) | (simp [maxLen]; omega) | assumption, ?_⟩
  refine hk _ ?_; clear hk k
  refine awp_cond rfl (fun hb => ?_) (fun hb => ?_)
  ·try simp only [hbx] at hb
   refine awp_le (le_keep [13]) ?_
   simp only [kp, argSl, simprocAttr]
   refine awp_sr [45] (by rw [hC]; rfl) fun k hk => ?_
   simp (maxSteps := 9^9) (disch := (try simp only [lens]); omega) only [argSl, sm, ↓amb, mark_eq, simprocAttr, dx]
   repeat refine ⟨by first | omega | (simp; done) | (unfold maxLen; omega) | (simp [maxLen]; omega) | assumption, ?_⟩
   refine hk _ ?_; clear hk k
   refine awp_ret ?_
   have e1 : Pl.celE l.length op p = Pl.ordE l.length p := if_pos hop
   have e2 : Pl.celL l.length (fun j => Pl.one (l.getD j 0) op y) op p = [] := if_neg (by rw [e1]; exact hb)
   have e3 : Pl.celS l.length op p = 0 := if_neg (by rw [e1]; exact hb)
   rw [e1, e2, e3]
   refine ret3 rfl rfl rfl rfl ?_ ?_ ?_
   ·exact .p (LeP.seq _ _)
   ·exact .p (LeP.refl _)
   ·exact .p (LeP.refl _)
  ·try simp only [hbx] at hb
   refine awp_skip ?_
   refine h2 _ ?_; clear h2 k2
   refine awp_le (le_keep [0, 1, 2, 12]) ?_
   simp only [kp, argSl, simprocAttr]
   have he0 := hb
   refine awp_sr [45] (by rw [hC]; rfl) fun k hk => ?_
   simp (maxSteps := 9^9) (disch := (try simp only [lens]); omega) only [argSl, sm, ↓amb, mark_eq, simprocAttr, dx]
   repeat refine ⟨by first | omega | (simp; done) | (unfold maxLen; omega) | (simp [maxLen]; omega) | assumption, ?_⟩
   refine hk _ ?_; clear hk k
   refine awp_seq fun k3 h3 => ?_
   refine awp_le (le_keep [0, 1, 2, 8, 9, 10, 12, 14]) ?_
   simp only [kp, argSl, simprocAttr]
   refine awp_own' 14 1 rfl ?_
   refine awp_sr [45] (by rw [hC]; rfl) fun k hk => ?_
   simp (maxSteps := 9^9) (disch := (try simp only [lens]); omega) only [argSl, sm, ↓amb, mark_eq, simprocAttr, dx]
   repeat refine ⟨by first | omega | (simp; done) | (unfold maxLen; omega) | (simp [maxLen]; omega) | assumption, ?_⟩
   refine hk _ ?_; clear hk k
   refine awp_block ?_
   refine awp_loop (σ := Nat) (fun i => i ≤ l.length) (fun (i : Nat) => ⟨[(0, (.p (words c l))), (1, (.p (iV op))), (2, (.p (u32V y))), (12, (.p (iV (Pl.ordS l.length p)))), (14, (.own 0)), (15, (.p (iV (i : Int))))], [(0, (.row 1 (lift (((List.range i).map (fun j => Pl.one (l.getD j 0) op y)).map fun x => [u32V x]))))], 1⟩) (fun i => l.length - i) 0 ?_ ?_ fun i hi => ?_
   ·exact Nat.zero_le _
   ·exact le_of [(0, _)] (by rfl) (by rfl) ⟨⟨_, rfl, .p (.of_eq (by first | rfl | (simp only [PV.lit.injEq, Value.int.injEq, true_and]; omega) | (simp; done) | (simp; omega)))⟩, ⟨_, rfl, .p (.of_eq (by first | rfl | (simp only [PV.lit.injEq, Value.int.injEq, true_and]; omega) | (simp; done) | (simp; omega)))⟩, ⟨_, rfl, .p (.of_eq (by first | rfl | (simp only [PV.lit.injEq, Value.int.injEq, true_and]; omega) | (simp; done) | (simp; omega)))⟩, ⟨_, rfl, .p (.of_eq (by first | rfl | (simp only [PV.lit.injEq, Value.int.injEq, true_and]; omega) | (simp; done) | (simp; omega)))⟩, ⟨_, rfl, .own rfl⟩, ⟨_, rfl, .p (.of_eq (by first | rfl | (simp only [PV.lit.injEq, Value.int.injEq, true_and]; omega) | (simp; done) | (simp; omega)))⟩, trivial⟩ ⟨⟨_, rfl, _, rfl, .liftE (by first | rfl | (rw [List.range_succ, List.map_append, List.map_append]; rfl) | trace_state)⟩, trivial⟩
   refine awp_seq fun k5 h5 => ?_
   refine awp_le (le_keep [0, 1, 2, 8, 9, 10, 12, 14, 15]) ?_
   simp only [kp, argSl, simprocAttr]
   refine awp_sr [45] (by rw [hC]; rfl) fun k hk => ?_
   simp (maxSteps := 9^9) (disch := (try simp only [lens]); omega) only [argSl, sm, ↓amb, mark_eq, simprocAttr, el22, dx]
   repeat refine ⟨by first | omega | (simp; done) | (unfold maxLen; omega) | (simp [maxLen]; omega) | assumption, ?_⟩
   refine hk _ ?_; clear hk k
   refine awp_cond rfl (fun hb => ?_) (fun hb => ?_)
   ·try simp only [hbx] at hb
    refine awp_skip ?_
    refine h5 _ ?_; clear h5 k5
    refine awp_seq fun k6 h6 => ?_
    refine awp_block ?_
    refine awp_region [45] (by rw [hC]; rfl) fun k hk => ?_
    simp (maxSteps := 9^9) (disch := (try simp only [lens]); omega) only [argSl, sm, ↓amb, mark_eq, simprocAttr, el22, sz28, en21, vr28, by28, dx]
    repeat refine ⟨by first | omega | (simp; done) | (unfold maxLen; omega) | (simp [maxLen]; omega) | assumption, ?_⟩
    refine callK_p (c_ref07_One _ op y (hl _ (Pl.getD_mem l i 0 (by omega))) hy) rfl ?_
    simp (maxSteps := 9^9) (disch := (try simp only [lens]); omega) only [argSl, sm, ↓amb, mark_eq, simprocAttr, el22, sz28, en21, vr28, by28, dx]
    repeat refine ⟨by first | omega | (simp; done) | (unfold maxLen; omega) | (simp [maxLen]; omega) | assumption, ?_⟩
    refine hk _ ?_; clear hk k
    refine h6 _ ?_; clear h6 k6
    refine awp_region [45] (by rw [hC]; rfl) fun k hk => ?_
    simp (maxSteps := 9^9) (disch := (try simp only [lens]); omega) only [argSl, sm, ↓amb, mark_eq, simprocAttr, dx]
    repeat refine ⟨by first | omega | (simp; done) | (unfold maxLen; omega) | (simp [maxLen]; omega) | assumption, ?_⟩
    refine hk _ ?_; clear hk k
    refine ⟨i + 1, by omega, le_of [(0, _)] (by rfl) (by rfl) ⟨⟨_, rfl, .p (.of_eq (by first | rfl | (simp only [PV.lit.injEq, Value.int.injEq, true_and]; omega) | (simp; done) | (simp; omega)))⟩, ⟨_, rfl, .p (.of_eq (by first | rfl | (simp only [PV.lit.injEq, Value.int.injEq, true_and]; omega) | (simp; done) | (simp; omega)))⟩, ⟨_, rfl, .p (.of_eq (by first | rfl | (simp only [PV.lit.injEq, Value.int.injEq, true_and]; omega) | (simp; done) | (simp; omega)))⟩, ⟨_, rfl, .p (.of_eq (by first | rfl | (simp only [PV.lit.injEq, Value.int.injEq, true_and]; omega) | (simp; done) | (simp; omega)))⟩, ⟨_, rfl, .own rfl⟩, ⟨_, rfl, .p (.of_eq (by first | rfl | (simp only [PV.lit.injEq, Value.int.injEq, true_and]; omega) | (simp; done) | (simp; omega)))⟩, trivial⟩ ⟨⟨_, rfl, _, rfl, .liftE (by first | rfl | (rw [List.range_succ, List.map_append, List.map_append]; rfl) | trace_state)⟩, trivial⟩, by omega⟩
   ·try simp only [hbx] at hb
    refine awp_exit ((if_pos rfl).mpr ?_)
    refine h3 _ ?_; clear h5 k5; clear h3 k3
    refine awp_le (le_keep [12, 14]) ?_
    simp only [kp, argSl, simprocAttr]
    refine awp_sr [45] (by rw [hC]; rfl) fun k hk => ?_
    simp (maxSteps := 9^9) (disch := (try simp only [lens]); omega) only [argSl, sm, ↓amb, mark_eq, simprocAttr, dx]
    repeat refine ⟨by first | omega | (simp; done) | (unfold maxLen; omega) | (simp [maxLen]; omega) | assumption, ?_⟩
    refine hk _ ?_; clear hk k
    refine awp_ret ?_
    have e1 : Pl.celE l.length op p = 0 := by unfold Pl.celE; rw [if_pos hop]; exact he0
    have e2 : Pl.celL l.length (fun j => Pl.one (l.getD j 0) op y) op p = (List.range l.length).map (fun j => Pl.one (l.getD j 0) op y) := if_pos e1
    have e3 : Pl.celS l.length op p = Pl.ordS l.length p := if_pos e1
    rw [e1, e2, e3]
    refine ret3 rfl rfl rfl rfl ?_ ?_ ?_
    ·exact .ownE rfl (by rw [show i = l.length by omega])
    ·exact .p (LeP.refl _)
    ·exact .p (LeP.refl _)
set_option maxHeartbeats 4000000 in
theorem c_ref07_Zip (c d e : Bool) (a b : List Int) (op : Int) (p : Pl.Plan) (ha : ∀ x, x ∈ a → Pl.W32 x) (hb' : ∀ x, x ∈ b → Pl.W32 x) (hn : a.length ≤ 1000000) : PCall Try.prog 27 [words c a, words d b, iV op, .agg (planC e p)] (.tup [words false (if a.length = b.length then Pl.celL a.length (fun j => Pl.one (a.getD j 0) op (b.getD j 0)) op p else []), iV (if a.length = b.length then Pl.celS a.length op p else 0), iV (if a.length = b.length then Pl.celE a.length op p else 1)]) := by
 refine pcall_of_awp Try.func27 rfl (by simp [Try.ntmps27]) fun C hC => ?_
 refine awp_le (le_keep [0, 1, 2, 3]) ?_
 simp only [kp, argSl, simprocAttr]
 refine awp_sr [55] (by rw [hC]; rfl) fun k hk => ?_
 simp (maxSteps := 9^9) (disch := (try simp only [lens]); omega) only [argSl, sm, ↓amb, mark_eq, simprocAttr, dx]
 repeat refine ⟨by first | omega | (simp; done) | (unfold maxLen; omega) | (simp [maxLen]; omega) | assumption, ?_⟩
 refine hk _ ?_; clear hk k
 refine awp_seq fun k1 h1 => ?_
 refine awp_test [55] 25 (decide (¬ (a.length = b.length ∧ Pl.opOk op))) [0, 1, 2, 7, 8, 9, 10] (by rw [hC]; rfl) (fun gd hgd k hk => ?_) ?_
 ·have g5 : gd 5 = some 21 := by rw [hgd]; rfl
  clear hgd
  simp (maxSteps := 9^9) (disch := (try simp only [lens]); omega) only [argSl, sm, ↓amb, mark_eq, simprocAttr, el22, en54, gcase_undef, g5, dx]
  repeat' first | refine hk _ _ rfl rfl rfl rfl ?_ | (refine gsplit (fun hg => ?_) (fun hg => ?_) <;> (try simp only [hbx] at hg) <;> simp (maxSteps := 9^9) (disch := (try simp only [lens]); omega) only [argSl, sm, ↓amb, mark_eq, simprocAttr, el22, en54, gcase_undef, g5, dx]) | apply And.intro | (refine callK_p (c_ref07_known _) rfl ?_; (try simp (maxSteps := 9^9) (disch := (try simp only [lens]); omega) only [argSl, sm, ↓amb, mark_eq, simprocAttr, el22, en54, gcase_undef, g5, dx])) | fail
  all_goals first | rfl | omega | exact (decide_eq_true (by omega)).symm | exact (decide_eq_false (by omega)).symm | exact decide_eq_decide.mpr (by omega) | (refine Bool.eq_iff_iff.mpr ?_; simp only [beq_iff_eq, bne_iff_ne, ne_eq, decide_eq_true_eq]; omega) | (refine Bool.eq_iff_iff.mpr ?_; simp only [Bool.not_eq_true', Bool.not_eq_false', decide_eq_false_iff_not, decide_eq_true_eq, beq_iff_eq, bne_iff_ne, ne_eq]; omega) | assumption | (simp; done) | (simp [maxLen]; omega) | skip
  all_goals first | (refine (decide_eq_true ?_).symm; intro q; omega) | (refine Bool.eq_iff_iff.mpr ?_; simp only [Bool.not_eq_true', decide_eq_false_iff_not, decide_eq_true_eq]; exact ⟨fun h q => h q.2, fun h q => h ⟨by omega, q⟩⟩) | trace_state
 simp only [kp, argSl, simprocAttr, List.length_cons, List.length_nil]
 refine awp_cond rfl (fun hb => ?_) (fun hb => ?_)
 ·try simp only [hbx] at hb
  refine awp_le (le_keep []) ?_
  simp only [kp, argSl, simprocAttr]
  refine awp_sr [55] (by rw [hC]; rfl) fun k hk => ?_
  simp (maxSteps := 9^9) (disch := (try simp only [lens]); omega) only [argSl, sm, ↓amb, mark_eq, simprocAttr, dx]
  repeat refine ⟨by first | omega | (simp; done) | (unfold maxLen; omega) | (simp [maxLen]; omega) | assumption, ?_⟩
  refine hk _ ?_; clear hk k
  refine awp_ret ?_
  by_cases hab : a.length = b.length
  ·have hno : ¬ Pl.opOk op := fun q => hb ⟨hab, q⟩
   have e1 : Pl.celE a.length op p = 1 := if_neg hno
   have e2 : Pl.celL a.length (fun j => Pl.one (a.getD j 0) op (b.getD j 0)) op p = [] := if_neg (by rw [e1]; decide)
   have e3 : Pl.celS a.length op p = 0 := if_neg (by rw [e1]; decide)
   rw [if_pos hab, if_pos hab, if_pos hab, e1, e2, e3]
   refine ret3 rfl rfl rfl rfl ?_ ?_ ?_
   ·exact .p (LeP.seq _ _)
   ·exact .p (LeP.refl _)
   ·exact .p (LeP.refl _)
  ·rw [if_neg hab, if_neg hab, if_neg hab]
   refine ret3 rfl rfl rfl rfl ?_ ?_ ?_
   ·exact .p (LeP.seq _ _)
   ·exact .p (LeP.refl _)
   ·exact .p (LeP.refl _)
 ·try simp only [hbx] at hb
  refine awp_skip ?_
  refine h1 _ ?_; clear h1 k1
  refine awp_le (le_keep [0, 1, 2, 7]) ?_
  simp only [kp, argSl, simprocAttr]
  have hq : a.length = b.length ∧ Pl.opOk op := by first | exact hb | exact Decidable.not_not.1 hb
  have hab := hq.1
  have hop := hq.2
  refine awp_sr [55] (by rw [hC]; rfl) fun k hk => ?_
  simp (maxSteps := 9^9) (disch := (try simp only [lens]); omega) only [argSl, sm, ↓amb, mark_eq, simprocAttr, el22, sz26, en19, dx]
  repeat refine ⟨by first | omega | (simp; done) | (unfold maxLen; omega) | (simp [maxLen]; omega) | assumption, ?_⟩
  refine callK_p (c_ref07_Order e a.length p) rfl ?_
  simp (maxSteps := 9^9) (disch := (try simp only [lens]); omega) only [argSl, sm, ↓amb, mark_eq, simprocAttr, el22, sz26, en19, dx]
  repeat refine ⟨by first | omega | (simp; done) | (unfold maxLen; omega) | (simp [maxLen]; omega) | assumption, ?_⟩
  refine hk _ ?_; clear hk k
  refine awp_seq fun k2 h2 => ?_
  refine awp_le (le_keep [0, 1, 2, 8, 9, 10, 12, 13]) ?_
  simp only [kp, argSl, simprocAttr]
  refine awp_sr [55] (by rw [hC]; rfl) fun k hk => ?_
  simp (maxSteps := 9^9) (disch := (try simp only [lens]); omega) only [argSl, sm, ↓amb, mark_eq, simprocAttr, dx]
  repeat refine ⟨by first | omega | (simp; done) | (unfold maxLen; omega) | (simp [maxLen]; omega) | assumption, ?_⟩
  refine hk _ ?_; clear hk k
  refine awp_cond rfl (fun hb => ?_) (fun hb => ?_)
  ·try simp only [hbx] at hb
   refine awp_le (le_keep [13]) ?_
   simp only [kp, argSl, simprocAttr]
   refine awp_sr [55] (by rw [hC]; rfl) fun k hk => ?_
   simp (maxSteps := 9^9) (disch := (try simp only [lens]); omega) only [argSl, sm, ↓amb, mark_eq, simprocAttr, dx]
   repeat refine ⟨by first | omega | (simp; done) | (unfold maxLen; omega) | (simp [maxLen]; omega) | assumption, ?_⟩
   refine hk _ ?_; clear hk k
   refine awp_ret ?_
   rw [if_pos hab, if_pos hab, if_pos hab]
   have e1 : Pl.celE a.length op p = Pl.ordE a.length p := if_pos hop
   have e2 : Pl.celL a.length (fun j => Pl.one (a.getD j 0) op (b.getD j 0)) op p = [] := if_neg (by rw [e1]; exact hb)
   have e3 : Pl.celS a.length op p = 0 := if_neg (by rw [e1]; exact hb)
   rw [e1, e2, e3]
   refine ret3 rfl rfl rfl rfl ?_ ?_ ?_
   ·exact .p (LeP.seq _ _)
   ·exact .p (LeP.refl _)
   ·exact .p (LeP.refl _)
  ·try simp only [hbx] at hb
   refine awp_skip ?_
   refine h2 _ ?_; clear h2 k2
   refine awp_le (le_keep [0, 1, 2, 12]) ?_
   simp only [kp, argSl, simprocAttr]
   have he0 := hb
   refine awp_sr [55] (by rw [hC]; rfl) fun k hk => ?_
   simp (maxSteps := 9^9) (disch := (try simp only [lens]); omega) only [argSl, sm, ↓amb, mark_eq, simprocAttr, dx]
   repeat refine ⟨by first | omega | (simp; done) | (unfold maxLen; omega) | (simp [maxLen]; omega) | assumption, ?_⟩
   refine hk _ ?_; clear hk k
   refine awp_seq fun k3 h3 => ?_
   refine awp_le (le_keep [0, 1, 2, 8, 9, 10, 12, 14]) ?_
   simp only [kp, argSl, simprocAttr]
   refine awp_own' 14 1 rfl ?_
   refine awp_sr [55] (by rw [hC]; rfl) fun k hk => ?_
   simp (maxSteps := 9^9) (disch := (try simp only [lens]); omega) only [argSl, sm, ↓amb, mark_eq, simprocAttr, dx]
   repeat refine ⟨by first | omega | (simp; done) | (unfold maxLen; omega) | (simp [maxLen]; omega) | assumption, ?_⟩
   refine hk _ ?_; clear hk k
   refine awp_block ?_
   refine awp_loop (σ := Nat) (fun i => i ≤ a.length) (fun (i : Nat) => ⟨[(0, (.p (words c a))), (1, (.p (words d b))), (2, (.p (iV op))), (12, (.p (iV (Pl.ordS a.length p)))), (14, (.own 0)), (15, (.p (iV (i : Int))))], [(0, (.row 1 (lift (((List.range i).map (fun j => Pl.one (a.getD j 0) op (b.getD j 0))).map fun x => [u32V x]))))], 1⟩) (fun i => a.length - i) 0 ?_ ?_ fun i hi => ?_
   ·exact Nat.zero_le _
   ·exact le_of [(0, _)] (by rfl) (by rfl) ⟨⟨_, rfl, .p (.of_eq (by first | rfl | (simp only [PV.lit.injEq, Value.int.injEq, true_and]; omega) | (simp; done) | (simp; omega)))⟩, ⟨_, rfl, .p (.of_eq (by first | rfl | (simp only [PV.lit.injEq, Value.int.injEq, true_and]; omega) | (simp; done) | (simp; omega)))⟩, ⟨_, rfl, .p (.of_eq (by first | rfl | (simp only [PV.lit.injEq, Value.int.injEq, true_and]; omega) | (simp; done) | (simp; omega)))⟩, ⟨_, rfl, .p (.of_eq (by first | rfl | (simp only [PV.lit.injEq, Value.int.injEq, true_and]; omega) | (simp; done) | (simp; omega)))⟩, ⟨_, rfl, .own rfl⟩, ⟨_, rfl, .p (.of_eq (by first | rfl | (simp only [PV.lit.injEq, Value.int.injEq, true_and]; omega) | (simp; done) | (simp; omega)))⟩, trivial⟩ ⟨⟨_, rfl, _, rfl, .liftE (by first | rfl | (rw [List.range_succ, List.map_append, List.map_append]; rfl) | trace_state)⟩, trivial⟩
   refine awp_seq fun k5 h5 => ?_
   refine awp_le (le_keep [0, 1, 2, 8, 9, 10, 12, 14, 15]) ?_
   simp only [kp, argSl, simprocAttr]
   refine awp_sr [55] (by rw [hC]; rfl) fun k hk => ?_
   simp (maxSteps := 9^9) (disch := (try simp only [lens]); omega) only [argSl, sm, ↓amb, mark_eq, simprocAttr, el22, dx]
   repeat refine ⟨by first | omega | (simp; done) | (unfold maxLen; omega) | (simp [maxLen]; omega) | assumption, ?_⟩
   refine hk _ ?_; clear hk k
   refine awp_cond rfl (fun hb => ?_) (fun hb => ?_)
   ·try simp only [hbx] at hb
    refine awp_skip ?_
    refine h5 _ ?_; clear h5 k5
    refine awp_seq fun k6 h6 => ?_
    refine awp_block ?_
    refine awp_draw [55] ⟨[0, 0, 0, 6, 14, 0, 0, 0, 192, 448, 1022, 2046, 4095, 8191], [], [12], [(10, 12)], some [0]⟩ (by rw [hC]; rfl) (by kernel_rfl) (by kernel_rfl) fun k hk => ?_
    simp (maxSteps := 9^9) (disch := (try simp only [lens]); omega) only [argSl, sm, ↓amb, mark_eq, simprocAttr, el22, sz28, en21, vr28, by28, dx]
    repeat refine ⟨by first | omega | (simp; done) | (unfold maxLen; omega) | (simp [maxLen]; omega) | assumption, ?_⟩
    refine callK_p (c_ref07_One _ op _ (ha _ (Pl.getD_mem a i 0 (by omega))) (hb' _ (Pl.getD_mem b i 0 (by omega)))) rfl ?_
    simp (maxSteps := 9^9) (disch := (try simp only [lens]); omega) only [argSl, sm, ↓amb, mark_eq, simprocAttr, el22, sz28, en21, vr28, by28, dx]
    repeat refine ⟨by first | omega | (simp; done) | (unfold maxLen; omega) | (simp [maxLen]; omega) | assumption, ?_⟩
    refine hk _ ?_; clear hk k
    refine h6 _ ?_; clear h6 k6
    refine awp_region [55] (by rw [hC]; rfl) fun k hk => ?_
    simp (maxSteps := 9^9) (disch := (try simp only [lens]); omega) only [argSl, sm, ↓amb, mark_eq, simprocAttr, dx]
    repeat refine ⟨by first | omega | (simp; done) | (unfold maxLen; omega) | (simp [maxLen]; omega) | assumption, ?_⟩
    refine hk _ ?_; clear hk k
    refine ⟨i + 1, by omega, le_of [(0, _)] (by rfl) (by rfl) ⟨⟨_, rfl, .p (.of_eq (by first | rfl | (simp only [PV.lit.injEq, Value.int.injEq, true_and]; omega) | (simp; done) | (simp; omega)))⟩, ⟨_, rfl, .p (.of_eq (by first | rfl | (simp only [PV.lit.injEq, Value.int.injEq, true_and]; omega) | (simp; done) | (simp; omega)))⟩, ⟨_, rfl, .p (.of_eq (by first | rfl | (simp only [PV.lit.injEq, Value.int.injEq, true_and]; omega) | (simp; done) | (simp; omega)))⟩, ⟨_, rfl, .p (.of_eq (by first | rfl | (simp only [PV.lit.injEq, Value.int.injEq, true_and]; omega) | (simp; done) | (simp; omega)))⟩, ⟨_, rfl, .own rfl⟩, ⟨_, rfl, .p (.of_eq (by first | rfl | (simp only [PV.lit.injEq, Value.int.injEq, true_and]; omega) | (simp; done) | (simp; omega)))⟩, trivial⟩ ⟨⟨_, rfl, _, rfl, .liftE (by first | rfl | (rw [List.range_succ, List.map_append, List.map_append]; rfl) | trace_state)⟩, trivial⟩, by omega⟩
   ·try simp only [hbx] at hb
    refine awp_exit ((if_pos rfl).mpr ?_)
    refine h3 _ ?_; clear h5 k5; clear h3 k3
    refine awp_le (le_keep [12, 14]) ?_
    simp only [kp, argSl, simprocAttr]
    refine awp_sr [55] (by rw [hC]; rfl) fun k hk => ?_
    simp (maxSteps := 9^9) (disch := (try simp only [lens]); omega) only [argSl, sm, ↓amb, mark_eq, simprocAttr, dx]
    repeat refine ⟨by first | omega | (simp; done) | (unfold maxLen; omega) | (simp [maxLen]; omega) | assumption, ?_⟩
    refine hk _ ?_; clear hk k
    refine awp_ret ?_
    rw [if_pos hab, if_pos hab, if_pos hab]
    have e1 : Pl.celE a.length op p = 0 := by unfold Pl.celE; rw [if_pos hop]; exact he0
    have e2 : Pl.celL a.length (fun j => Pl.one (a.getD j 0) op (b.getD j 0)) op p = (List.range a.length).map (fun j => Pl.one (a.getD j 0) op (b.getD j 0)) := if_pos e1
    have e3 : Pl.celS a.length op p = Pl.ordS a.length p := if_pos e1
    rw [e1, e2, e3]
    refine ret3 rfl rfl rfl rfl ?_ ?_ ?_
    ·exact .ownE rfl (by rw [show i = a.length by omega])
    ·exact .p (LeP.refl _)
    ·exact .p (LeP.refl _)
end Go.Proofs.Ythelnccjcbnjfaa
