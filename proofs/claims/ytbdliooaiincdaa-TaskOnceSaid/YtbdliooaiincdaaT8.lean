/-
  The functions of the tasks: what each answers.
-/
import Derived.Test.YtbdliooaiincdaaT4
import Derived.Test.YtbdliooaiincdaaPl9
import Derived.Test.YtbdliooaiincdaaPl3
set_option linter.unusedSimpArgs false
set_option linter.unusedVariables false
set_option maxRecDepth 100000
namespace Go.Proofs.Ytbdliooaiincdaa
open Go.Am Go.Proofs
theorem el58 : tEl Try.prog 58 = some 57 := by kernel_rfl
theorem en26 : enters Try.prog 26 = true := by kernel_rfl
theorem sz57 : tSz Try.prog 57 = some (false, 1) := by kernel_rfl
theorem un5 : (Try.prog.underlying 5).isSome = true := by kernel_rfl
theorem un57 : (Try.prog.underlying 57).isSome = true := by kernel_rfl
set_option maxHeartbeats 4000000 in
theorem c8 (n g : Int) (order : List Int) (hn : 0 ≤ n ∧ n ≤ 65535) (hg' : 0 ≤ g ∧ g ≤ 255) (ho : ∀ a, a ∈ order → 0 ≤ a ∧ a ≤ 65535) : PCall Try.prog 8 [.lit (.int .u16 n), .lit (.int .u8 g), .seq false (order.map fun a => [.lit (.int .u16 a)])] (bV true) := by
  refine pcall_of_awp Try.func8 rfl (by simp [Try.ntmps8]) fun C hC => ?_
  refine awp_le (le_keep [0, 1, 2]) ?_
  simp only [keepL_nil, keepL_cons, keepM_some, keepM_none, argSl, lkp_cons, lkp_nil, Nat.reduceEqDiff, ↓reduceIte, reduceCtorEq, Nat.zero_add, Nat.reduceAdd]
  have hord : ∀ j, 0 ≤ order.getD j 0 ∧ order.getD j 0 ≤ 65535 := fun j => by
    rw [List.getD_eq_getElem?_getD]
    cases hj : order[j]? with
    | none => exact ⟨Int.le_refl _, by decide⟩
    | some v => exact ho v (List.mem_of_getElem? hj)
  have hcn : Pl.cnt (1 + n % 120) (1 + g % 20) := by unfold Pl.cnt; omega
  have hbe : Pl.beginE (1 + n % 120) (1 + g % 20) = 0 := by rw [Pl.beginE, if_pos hcn]
  have hct := Pl.cntT_eq hcn
  have hcl := Pl.cntL_le hcn
  refine awp_sr [76, 81] (by rw [hC]; rfl) fun k hk => ?_
  simp (maxSteps := 4000000) (disch := first | omega | (simp only [lens]; omega)) only [argSl, argA_nil, argA_cons, am, ↓amb, aml, mark_eq, lo, ← List.map_take, ← List.map_drop, ← List.map_append, ↓reduceIte, reduceCtorEq, Int.reduceBEq, Int.reduceBNe, Int.reduceToNat, Nat.reduceEqDiff, Nat.reduceAdd, Nat.reduceSub, Nat.reduceMul, Nat.reduceDiv, Nat.reduceMod, Nat.reduceLeDiff, Nat.reduceBEq, taskC]
  (repeat (refine ⟨by first | omega | (simp; done) | assumption | (unfold maxLen; omega) | (simp [maxLen]; omega), ?_⟩)); refine hk _ ?_; clear hk; clear k
  refine awp_seq fun k1 h1 => ?_
  refine awp_le (le_keep [0, 1, 2, 6]) ?_
  simp only [keepL_nil, keepL_cons, keepM_some, keepM_none, argSl, lkp_cons, lkp_nil, Nat.reduceEqDiff, ↓reduceIte, reduceCtorEq, Nat.zero_add, Nat.reduceAdd]
  refine awp_sr [76, 81] (by rw [hC]; rfl) fun k hk => ?_
  simp (maxSteps := 4000000) (disch := first | omega | (simp only [lens]; omega)) only [argSl, argA_nil, argA_cons, am, ↓amb, aml, mark_eq, lo, ← List.map_take, ← List.map_drop, ← List.map_append, ↓reduceIte, reduceCtorEq, Int.reduceBEq, Int.reduceBNe, Int.reduceToNat, Nat.reduceEqDiff, Nat.reduceAdd, Nat.reduceSub, Nat.reduceMul, Nat.reduceDiv, Nat.reduceMod, Nat.reduceLeDiff, Nat.reduceBEq, en26, taskC]
  (repeat (refine ⟨by first | omega | (simp; done) | assumption | (unfold maxLen; omega) | (simp [maxLen]; omega), ?_⟩))
  refine callK_p (c26) rfl ?_
  simp (maxSteps := 4000000) (disch := first | omega | (simp only [lens]; omega)) only [argSl, argA_nil, argA_cons, am, ↓amb, aml, mark_eq, lo, ← List.map_take, ← List.map_drop, ← List.map_append, ↓reduceIte, reduceCtorEq, Int.reduceBEq, Int.reduceBNe, Int.reduceToNat, Nat.reduceEqDiff, Nat.reduceAdd, Nat.reduceSub, Nat.reduceMul, Nat.reduceDiv, Nat.reduceMod, Nat.reduceLeDiff, Nat.reduceBEq, en26, taskC]
  (repeat (refine ⟨by first | omega | (simp; done) | assumption | (unfold maxLen; omega) | (simp [maxLen]; omega), ?_⟩)); refine hk _ ?_; clear hk; clear k
  refine awp_cond rfl (fun hb => ?_) (fun hb => ?_)
  · -- branch 1
    try simp only [decide_eq_true_eq, decide_eq_false_iff_not, Int.not_lt, Int.not_le, beq_iff_eq, bne_iff_ne, ne_eq, beq_eq_false_iff_ne, bne_eq_false_iff_eq, Bool.not_eq_true, Bool.not_eq_false, Bool.not_true, Bool.not_false, Bool.not_eq_false', Bool.not_eq_true', Decidable.not_not] at hb
    refine awp_le (le_keep []) ?_
    simp only [keepL_nil, keepL_cons, keepM_some, keepM_none, argSl, lkp_cons, lkp_nil, Nat.reduceEqDiff, ↓reduceIte, reduceCtorEq, Nat.zero_add, Nat.reduceAdd]
    refine awp_sr [76, 81] (by rw [hC]; rfl) fun k hk => ?_
    simp (maxSteps := 4000000) (disch := first | omega | (simp only [lens]; omega)) only [argSl, argA_nil, argA_cons, am, ↓amb, aml, mark_eq, lo, ← List.map_take, ← List.map_drop, ← List.map_append, ↓reduceIte, reduceCtorEq, Int.reduceBEq, Int.reduceBNe, Int.reduceToNat, Nat.reduceEqDiff, Nat.reduceAdd, Nat.reduceSub, Nat.reduceMul, Nat.reduceDiv, Nat.reduceMod, Nat.reduceLeDiff, Nat.reduceBEq, taskC]
    (repeat (refine ⟨by first | omega | (simp; done) | assumption | (unfold maxLen; omega) | (simp [maxLen]; omega), ?_⟩)); refine hk _ ?_; clear hk; clear k
    refine awp_ret ?_
    exact absurd hb (by simp)
  · -- branch 2
    try simp only [decide_eq_true_eq, decide_eq_false_iff_not, Int.not_lt, Int.not_le, beq_iff_eq, bne_iff_ne, ne_eq, beq_eq_false_iff_ne, bne_eq_false_iff_eq, Bool.not_eq_true, Bool.not_eq_false, Bool.not_true, Bool.not_false, Bool.not_eq_false', Bool.not_eq_true', Decidable.not_not] at hb
    refine awp_skip ?_
    refine h1 _ ?_; clear h1; clear k1
    refine awp_seq fun k2 h2 => ?_
    refine awp_le (le_keep [0, 1, 2, 6]) ?_
    simp only [keepL_nil, keepL_cons, keepM_some, keepM_none, argSl, lkp_cons, lkp_nil, Nat.reduceEqDiff, ↓reduceIte, reduceCtorEq, Nat.zero_add, Nat.reduceAdd]
    refine awp_sr [76, 81] (by rw [hC]; rfl) fun k hk => ?_
    simp (maxSteps := 4000000) (disch := first | omega | (simp only [lens]; omega)) only [argSl, argA_nil, argA_cons, am, ↓amb, aml, mark_eq, lo, ← List.map_take, ← List.map_drop, ← List.map_append, ↓reduceIte, reduceCtorEq, Int.reduceBEq, Int.reduceBNe, Int.reduceToNat, Nat.reduceEqDiff, Nat.reduceAdd, Nat.reduceSub, Nat.reduceMul, Nat.reduceDiv, Nat.reduceMod, Nat.reduceLeDiff, Nat.reduceBEq, el58, taskC]
    (repeat (refine ⟨by first | omega | (simp; done) | assumption | (unfold maxLen; omega) | (simp [maxLen]; omega), ?_⟩)); refine hk _ ?_; clear hk; clear k
    refine awp_cond rfl (fun hb => ?_) (fun hb => ?_)
    · -- branch 3
      try simp only [decide_eq_true_eq, decide_eq_false_iff_not, Int.not_lt, Int.not_le, beq_iff_eq, bne_iff_ne, ne_eq, beq_eq_false_iff_ne, bne_eq_false_iff_eq, Bool.not_eq_true, Bool.not_eq_false, Bool.not_true, Bool.not_false, Bool.not_eq_false', Bool.not_eq_true', Decidable.not_not] at hb
      refine awp_le (le_keep []) ?_
      simp only [keepL_nil, keepL_cons, keepM_some, keepM_none, argSl, lkp_cons, lkp_nil, Nat.reduceEqDiff, ↓reduceIte, reduceCtorEq, Nat.zero_add, Nat.reduceAdd]
      refine awp_sr [76, 81] (by rw [hC]; rfl) fun k hk => ?_
      simp (maxSteps := 4000000) (disch := first | omega | (simp only [lens]; omega)) only [argSl, argA_nil, argA_cons, am, ↓amb, aml, mark_eq, lo, ← List.map_take, ← List.map_drop, ← List.map_append, ↓reduceIte, reduceCtorEq, Int.reduceBEq, Int.reduceBNe, Int.reduceToNat, Nat.reduceEqDiff, Nat.reduceAdd, Nat.reduceSub, Nat.reduceMul, Nat.reduceDiv, Nat.reduceMod, Nat.reduceLeDiff, Nat.reduceBEq, taskC]
      (repeat (refine ⟨by first | omega | (simp; done) | assumption | (unfold maxLen; omega) | (simp [maxLen]; omega), ?_⟩)); refine hk _ ?_; clear hk; clear k
      refine awp_ret ?_
      refine ret1 rfl rfl ?_
      exact .p (LeP.refl _)
    · -- branch 4
      try simp only [decide_eq_true_eq, decide_eq_false_iff_not, Int.not_lt, Int.not_le, beq_iff_eq, bne_iff_ne, ne_eq, beq_eq_false_iff_ne, bne_eq_false_iff_eq, Bool.not_eq_true, Bool.not_eq_false, Bool.not_true, Bool.not_false, Bool.not_eq_false', Bool.not_eq_true', Decidable.not_not] at hb
      refine awp_skip ?_
      refine h2 _ ?_; clear h2; clear k2
      refine awp_le (le_keep [0, 1, 2]) ?_
      simp only [keepL_nil, keepL_cons, keepM_some, keepM_none, argSl, lkp_cons, lkp_nil, Nat.reduceEqDiff, ↓reduceIte, reduceCtorEq, Nat.zero_add, Nat.reduceAdd]
      refine awp_sr [76, 81] (by rw [hC]; rfl) fun k hk => ?_
      simp (maxSteps := 4000000) (disch := first | omega | (simp only [lens]; omega)) only [argSl, argA_nil, argA_cons, am, ↓amb, aml, mark_eq, lo, ← List.map_take, ← List.map_drop, ← List.map_append, ↓reduceIte, reduceCtorEq, Int.reduceBEq, Int.reduceBNe, Int.reduceToNat, Nat.reduceEqDiff, Nat.reduceAdd, Nat.reduceSub, Nat.reduceMul, Nat.reduceDiv, Nat.reduceMod, Nat.reduceLeDiff, Nat.reduceBEq, it3, un57, un5, taskC]
      (repeat (refine ⟨by first | omega | (simp; done) | assumption | (unfold maxLen; omega) | (simp [maxLen]; omega), ?_⟩)); refine hk _ ?_; clear hk; clear k
      refine awp_le (le_keep [2, 7, 8]) ?_
      simp only [keepL_nil, keepL_cons, keepM_some, keepM_none, argSl, lkp_cons, lkp_nil, Nat.reduceEqDiff, ↓reduceIte, reduceCtorEq, Nat.zero_add, Nat.reduceAdd]
      refine awp_sr [76, 81] (by rw [hC]; rfl) fun k hk => ?_
      simp (maxSteps := 4000000) (disch := first | omega | (simp only [lens]; omega)) only [argSl, argA_nil, argA_cons, am, ↓amb, aml, mark_eq, lo, ← List.map_take, ← List.map_drop, ← List.map_append, ↓reduceIte, reduceCtorEq, Int.reduceBEq, Int.reduceBNe, Int.reduceToNat, Nat.reduceEqDiff, Nat.reduceAdd, Nat.reduceSub, Nat.reduceMul, Nat.reduceDiv, Nat.reduceMod, Nat.reduceLeDiff, Nat.reduceBEq, en32, vr42, sz42, taskC]
      (repeat (refine ⟨by first | omega | (simp; done) | assumption | (unfold maxLen; omega) | (simp [maxLen]; omega), ?_⟩))
      refine callK_p (c32 _ _ (by omega)) rfl ?_
      simp (maxSteps := 4000000) (disch := first | omega | (simp only [lens]; omega)) only [argSl, argA_nil, argA_cons, am, ↓amb, aml, mark_eq, lo, ← List.map_take, ← List.map_drop, ← List.map_append, ↓reduceIte, reduceCtorEq, Int.reduceBEq, Int.reduceBNe, Int.reduceToNat, Nat.reduceEqDiff, Nat.reduceAdd, Nat.reduceSub, Nat.reduceMul, Nat.reduceDiv, Nat.reduceMod, Nat.reduceLeDiff, Nat.reduceBEq, en32, vr42, sz42, taskC]
      (repeat (refine ⟨by first | omega | (simp; done) | assumption | (unfold maxLen; omega) | (simp [maxLen]; omega), ?_⟩)); refine hk _ ?_; clear hk; clear k
      refine awp_seq fun k3 h3 => ?_
      refine awp_le (le_keep [2, 6, 7, 8, 9, 10]) ?_
      simp only [keepL_nil, keepL_cons, keepM_some, keepM_none, argSl, lkp_cons, lkp_nil, Nat.reduceEqDiff, ↓reduceIte, reduceCtorEq, Nat.zero_add, Nat.reduceAdd]
      refine awp_sr [76, 81] (by rw [hC]; rfl) fun k hk => ?_
      simp (maxSteps := 4000000) (disch := first | omega | (simp only [lens]; omega)) only [argSl, argA_nil, argA_cons, am, ↓amb, aml, mark_eq, lo, ← List.map_take, ← List.map_drop, ← List.map_append, ↓reduceIte, reduceCtorEq, Int.reduceBEq, Int.reduceBNe, Int.reduceToNat, Nat.reduceEqDiff, Nat.reduceAdd, Nat.reduceSub, Nat.reduceMul, Nat.reduceDiv, Nat.reduceMod, Nat.reduceLeDiff, Nat.reduceBEq, taskC]
      (repeat (refine ⟨by first | omega | (simp; done) | assumption | (unfold maxLen; omega) | (simp [maxLen]; omega), ?_⟩)); refine hk _ ?_; clear hk; clear k
      refine awp_cond rfl (fun hb => ?_) (fun hb => ?_)
      · -- branch 5
        try simp only [decide_eq_true_eq, decide_eq_false_iff_not, Int.not_lt, Int.not_le, beq_iff_eq, bne_iff_ne, ne_eq, beq_eq_false_iff_ne, bne_eq_false_iff_eq, Bool.not_eq_true, Bool.not_eq_false, Bool.not_true, Bool.not_false, Bool.not_eq_false', Bool.not_eq_true', Decidable.not_not] at hb
        refine awp_le (le_keep []) ?_
        simp only [keepL_nil, keepL_cons, keepM_some, keepM_none, argSl, lkp_cons, lkp_nil, Nat.reduceEqDiff, ↓reduceIte, reduceCtorEq, Nat.zero_add, Nat.reduceAdd]
        refine awp_sr [76, 81] (by rw [hC]; rfl) fun k hk => ?_
        simp (maxSteps := 4000000) (disch := first | omega | (simp only [lens]; omega)) only [argSl, argA_nil, argA_cons, am, ↓amb, aml, mark_eq, lo, ← List.map_take, ← List.map_drop, ← List.map_append, ↓reduceIte, reduceCtorEq, Int.reduceBEq, Int.reduceBNe, Int.reduceToNat, Nat.reduceEqDiff, Nat.reduceAdd, Nat.reduceSub, Nat.reduceMul, Nat.reduceDiv, Nat.reduceMod, Nat.reduceLeDiff, Nat.reduceBEq, taskC]
        (repeat (refine ⟨by first | omega | (simp; done) | assumption | (unfold maxLen; omega) | (simp [maxLen]; omega), ?_⟩)); refine hk _ ?_; clear hk; clear k
        refine awp_ret ?_
        exact absurd hbe hb
      · -- branch 6
        try simp only [decide_eq_true_eq, decide_eq_false_iff_not, Int.not_lt, Int.not_le, beq_iff_eq, bne_iff_ne, ne_eq, beq_eq_false_iff_ne, bne_eq_false_iff_eq, Bool.not_eq_true, Bool.not_eq_false, Bool.not_true, Bool.not_false, Bool.not_eq_false', Bool.not_eq_true', Decidable.not_not] at hb
        refine awp_skip ?_
        refine h3 _ ?_; clear h3; clear k3
        refine awp_le (le_keep [2, 7, 8, 9]) ?_
        simp only [keepL_nil, keepL_cons, keepM_some, keepM_none, argSl, lkp_cons, lkp_nil, Nat.reduceEqDiff, ↓reduceIte, reduceCtorEq, Nat.zero_add, Nat.reduceAdd]
        refine awp_sr [76, 81] (by rw [hC]; rfl) fun k hk => ?_
        simp (maxSteps := 4000000) (disch := first | omega | (simp only [lens]; omega)) only [argSl, argA_nil, argA_cons, am, ↓amb, aml, mark_eq, lo, ← List.map_take, ← List.map_drop, ← List.map_append, ↓reduceIte, reduceCtorEq, Int.reduceBEq, Int.reduceBNe, Int.reduceToNat, Nat.reduceEqDiff, Nat.reduceAdd, Nat.reduceSub, Nat.reduceMul, Nat.reduceDiv, Nat.reduceMod, Nat.reduceLeDiff, Nat.reduceBEq, el22, vr3, taskC]
        (repeat (refine ⟨by first | omega | (simp; done) | assumption | (unfold maxLen; omega) | (simp [maxLen]; omega), ?_⟩)); refine hk _ ?_; clear hk; clear k
        refine awp_le (le_keep [2, 7, 8, 9, 11]) ?_
        simp only [keepL_nil, keepL_cons, keepM_some, keepM_none, argSl, lkp_cons, lkp_nil, Nat.reduceEqDiff, ↓reduceIte, reduceCtorEq, Nat.zero_add, Nat.reduceAdd]
        refine awp_sr [76, 81] (by rw [hC]; rfl) fun k hk => ?_
        simp (maxSteps := 4000000) (disch := first | omega | (simp only [lens]; omega)) only [argSl, argA_nil, argA_cons, am, ↓amb, aml, mark_eq, lo, ← List.map_take, ← List.map_drop, ← List.map_append, ↓reduceIte, reduceCtorEq, Int.reduceBEq, Int.reduceBNe, Int.reduceToNat, Nat.reduceEqDiff, Nat.reduceAdd, Nat.reduceSub, Nat.reduceMul, Nat.reduceDiv, Nat.reduceMod, Nat.reduceLeDiff, Nat.reduceBEq, taskC]
        (repeat (refine ⟨by first | omega | (simp; done) | assumption | (unfold maxLen; omega) | (simp [maxLen]; omega), ?_⟩)); refine hk _ ?_; clear hk; clear k
        refine awp_seq fun k4 h4 => ?_
        refine awp_le (le_keep [2, 6, 7, 8, 9, 11, 12]) ?_
        simp only [keepL_nil, keepL_cons, keepM_some, keepM_none, argSl, lkp_cons, lkp_nil, Nat.reduceEqDiff, ↓reduceIte, reduceCtorEq, Nat.zero_add, Nat.reduceAdd]
        refine awp_sr [76, 81] (by rw [hC]; rfl) fun k hk => ?_
        simp (maxSteps := 4000000) (disch := first | omega | (simp only [lens]; omega)) only [argSl, argA_nil, argA_cons, am, ↓amb, aml, mark_eq, lo, ← List.map_take, ← List.map_drop, ← List.map_append, ↓reduceIte, reduceCtorEq, Int.reduceBEq, Int.reduceBNe, Int.reduceToNat, Nat.reduceEqDiff, Nat.reduceAdd, Nat.reduceSub, Nat.reduceMul, Nat.reduceDiv, Nat.reduceMod, Nat.reduceLeDiff, Nat.reduceBEq, taskC]
        (repeat (refine ⟨by first | omega | (simp; done) | assumption | (unfold maxLen; omega) | (simp [maxLen]; omega), ?_⟩)); refine hk _ ?_; clear hk; clear k
        refine awp_block ?_
        refine awp_loop (σ := Nat × Pl.Work × List Nat × Int) (fun x => Pl.Inv (1 + n % 120) (1 + g % 20) x.2.1 x.2.2.1 x.2.2.2 ∧ x.1 + x.2.2.1.length = x.2.1.ts.length ∧ 0 ≤ x.2.2.2) (fun x => ⟨[(2, (.p (.seq false (order.map fun a => [.lit (.int .u16 a)])))), (7, (.p (iV (1 + n % 120)))), (8, (.p (iV (1 + g % 20)))), (9, (.ptr 0 3 0 0)), (11, (.p (.seq false (x.2.2.1.map fun (t : Nat) => [iV (t : Int)])))), (12, (.p (iV x.2.2.2))), (13, (.p (iV x.1)))], [(0, (.row 3 [[.p (.seq false (x.2.1.ts.map taskC)), .p (iV x.2.1.grain), .p (.seq false (x.2.1.done.map fun b => [bV b]))]]))], 1⟩) (fun x => 2000 + x.2.2.1.length - x.2.1.ts.length) (0, Pl.beginW (1 + n % 120) (1 + g % 20), [0], 0) ?_ ?_ fun x hx => ?_
        · exact ⟨Pl.Inv.begins hcn, by rw [Pl.beginW, if_pos hcn]; rfl, Int.le_refl _⟩
        · exact le_of [(0, _)] (by rfl) (by rfl) ⟨⟨_, rfl, .p (.of_eq (by first | rfl | (simp only [PV.lit.injEq, Value.int.injEq, true_and]; omega) | (simp; done) | (simp; omega)))⟩, ⟨_, rfl, .p (.of_eq (by first | rfl | (simp only [PV.lit.injEq, Value.int.injEq, true_and]; omega) | (simp; done) | (simp; omega)))⟩, ⟨_, rfl, .p (.of_eq (by first | rfl | (simp only [PV.lit.injEq, Value.int.injEq, true_and]; omega) | (simp; done) | (simp; omega)))⟩, ⟨_, rfl, .ptr rfl⟩, ⟨_, rfl, (by first | exact LeA.frz rfl (by rfl) | exact LeA.p (LeP.sq (by first | rfl | (exact Pl.part_list hE (op.take i ++ op.drop (i + 1)) (fun (t : Nat) => [iV (t : Int)]) (fun z => [iV z]) (fun _ => rfl)))) | trace_state)⟩, ⟨_, rfl, .p (.of_eq (by first | rfl | (simp only [PV.lit.injEq, Value.int.injEq, true_and]; omega) | (simp; done) | (simp; omega)))⟩, ⟨_, rfl, .p (.of_eq (by first | rfl | (simp only [PV.lit.injEq, Value.int.injEq, true_and]; omega) | (simp; done) | (simp; omega)))⟩, trivial⟩ ⟨⟨_, rfl, _, rfl, .one (.cons (.p (.refl _)) (.cons (.p (.refl _)) (.cons (.p (.refl _)) .nil)))⟩, trivial⟩
        obtain ⟨k, w, op, un⟩ := x
        obtain ⟨hI, hkn, hu0⟩ := hx
        dsimp only at hI hkn hu0
        refine awp_seq fun k6 h6 => ?_
        refine awp_le (le_keep [0, 2, 6, 7, 8, 9, 11, 12, 13]) ?_
        simp only [keepL_nil, keepL_cons, keepM_some, keepM_none, argSl, lkp_cons, lkp_nil, Nat.reduceEqDiff, ↓reduceIte, reduceCtorEq, Nat.zero_add, Nat.reduceAdd]
        have hlen0 := hI.len
        have hun0 := hI.units
        refine awp_sr [76, 81] (by rw [hC]; rfl) fun k hk => ?_
        simp (maxSteps := 4000000) (disch := first | omega | (simp only [lens]; omega)) only [argSl, argA_nil, argA_cons, am, ↓amb, aml, mark_eq, lo, ← List.map_take, ← List.map_drop, ← List.map_append, ↓reduceIte, reduceCtorEq, Int.reduceBEq, Int.reduceBNe, Int.reduceToNat, Nat.reduceEqDiff, Nat.reduceAdd, Nat.reduceSub, Nat.reduceMul, Nat.reduceDiv, Nat.reduceMod, Nat.reduceLeDiff, Nat.reduceBEq, el22, taskC]
        (repeat (refine ⟨by first | omega | (simp; done) | assumption | (unfold maxLen; omega) | (simp [maxLen]; omega), ?_⟩)); refine hk _ ?_; clear hk; clear k
        refine awp_cond rfl (fun hb => ?_) (fun hb => ?_)
        · -- branch 7
          try simp only [decide_eq_true_eq, decide_eq_false_iff_not, Int.not_lt, Int.not_le, beq_iff_eq, bne_iff_ne, ne_eq, beq_eq_false_iff_ne, bne_eq_false_iff_eq, Bool.not_eq_true, Bool.not_eq_false, Bool.not_true, Bool.not_false, Bool.not_eq_false', Bool.not_eq_true', Decidable.not_not] at hb
          refine awp_skip ?_
          refine h6 _ ?_; clear h6; clear k6
          refine awp_seq fun k7 h7 => ?_
          refine awp_block ?_
          refine awp_le (le_keep [0, 2, 6, 7, 8, 9, 11, 12, 13]) ?_
          simp only [keepL_nil, keepL_cons, keepM_some, keepM_none, argSl, lkp_cons, lkp_nil, Nat.reduceEqDiff, ↓reduceIte, reduceCtorEq, Nat.zero_add, Nat.reduceAdd]
          refine awp_sr [76, 81] (by rw [hC]; rfl) fun k hk => ?_
          simp (maxSteps := 4000000) (disch := first | omega | (simp only [lens]; omega)) only [argSl, argA_nil, argA_cons, am, ↓amb, aml, mark_eq, lo, ← List.map_take, ← List.map_drop, ← List.map_append, ↓reduceIte, reduceCtorEq, Int.reduceBEq, Int.reduceBNe, Int.reduceToNat, Nat.reduceEqDiff, Nat.reduceAdd, Nat.reduceSub, Nat.reduceMul, Nat.reduceDiv, Nat.reduceMod, Nat.reduceLeDiff, Nat.reduceBEq, taskC]
          (repeat (refine ⟨by first | omega | (simp; done) | assumption | (unfold maxLen; omega) | (simp [maxLen]; omega), ?_⟩)); refine hk _ ?_; clear hk; clear k
          refine awp_seq fun k8 h8 => ?_
          refine awp_le (le_keep [0, 2, 6, 7, 8, 9, 11, 12, 13, 14]) ?_
          simp only [keepL_nil, keepL_cons, keepM_some, keepM_none, argSl, lkp_cons, lkp_nil, Nat.reduceEqDiff, ↓reduceIte, reduceCtorEq, Nat.zero_add, Nat.reduceAdd]
          refine awp_sr [76, 81] (by rw [hC]; rfl) fun k hk => ?_
          simp (maxSteps := 4000000) (disch := first | omega | (simp only [lens]; omega)) only [argSl, argA_nil, argA_cons, am, ↓amb, aml, mark_eq, lo, ← List.map_take, ← List.map_drop, ← List.map_append, ↓reduceIte, reduceCtorEq, Int.reduceBEq, Int.reduceBNe, Int.reduceToNat, Nat.reduceEqDiff, Nat.reduceAdd, Nat.reduceSub, Nat.reduceMul, Nat.reduceDiv, Nat.reduceMod, Nat.reduceLeDiff, Nat.reduceBEq, el58, taskC]
          (repeat (refine ⟨by first | omega | (simp; done) | assumption | (unfold maxLen; omega) | (simp [maxLen]; omega), ?_⟩)); refine hk _ ?_; clear hk; clear k
          refine awp_cond rfl (fun hb => ?_) (fun hb => ?_)
          · -- branch 8
            try simp only [decide_eq_true_eq, decide_eq_false_iff_not, Int.not_lt, Int.not_le, beq_iff_eq, bne_iff_ne, ne_eq, beq_eq_false_iff_ne, bne_eq_false_iff_eq, Bool.not_eq_true, Bool.not_eq_false, Bool.not_true, Bool.not_false, Bool.not_eq_false', Bool.not_eq_true', Decidable.not_not] at hb
            have hq := hord ((k : Int) % (order.length : Int)).toNat
            have hm0 := Int.emod_nonneg (k : Int) (b := (order.length : Int)) (by omega)
            have hm1 := Int.emod_lt_of_pos (k : Int) (b := (order.length : Int)) (by omega)
            have hn0 := Int.emod_nonneg (order.getD ((k : Int) % (order.length : Int)).toNat 0) (b := (op.length : Int)) (by omega)
            have hn1 := Int.emod_lt_of_pos (order.getD ((k : Int) % (order.length : Int)).toNat 0) (b := (op.length : Int)) (by omega)
            refine awp_region [76, 81] (by rw [hC]; rfl) fun k hk => ?_
            simp (maxSteps := 4000000) (disch := first | omega | (simp only [lens]; omega)) only [argSl, argA_nil, argA_cons, am, ↓amb, aml, mark_eq, lo, ← List.map_take, ← List.map_drop, ← List.map_append, ↓reduceIte, reduceCtorEq, Int.reduceBEq, Int.reduceBNe, Int.reduceToNat, Nat.reduceEqDiff, Nat.reduceAdd, Nat.reduceSub, Nat.reduceMul, Nat.reduceDiv, Nat.reduceMod, Nat.reduceLeDiff, Nat.reduceBEq, el58, sz57, it3, un57, el22, taskC]
            (repeat (refine ⟨by first | omega | (simp; done) | assumption | (unfold maxLen; omega) | (simp [maxLen]; omega), ?_⟩)); refine hk _ ?_; clear hk; clear k
            refine h8 _ ?_; clear h8; clear k8
            refine awp_le (le_keep [0, 2, 6, 7, 8, 9, 11, 12, 13, 14]) ?_
            simp only [keepL_nil, keepL_cons, keepM_some, keepM_none, argSl, lkp_cons, lkp_nil, Nat.reduceEqDiff, ↓reduceIte, reduceCtorEq, Nat.zero_add, Nat.reduceAdd]
            obtain ⟨i, hi, hil⟩ : ∃ i : Nat, (order.getD ((k : Int) % (order.length : Int)).toNat 0) % (op.length : Int) = (i : Int) ∧ i < op.length := ⟨((order.getD ((k : Int) % (order.length : Int)).toNat 0) % (op.length : Int)).toNat, by omega, by omega⟩
            refine awp_le (show LE _ (⟨[(2, (.p (.seq false (order.map fun a => [.lit (.int .u16 a)])))), (7, (.p (iV (1 + n % 120)))), (8, (.p (iV (1 + g % 20)))), (9, (.ptr 0 3 0 0)), (11, (.p (.seq false (op.map fun (t : Nat) => [iV (t : Int)])))), (12, (.p (iV un))), (13, (.p (iV k))), (14, (.p (iV i)))], [(0, (.row 3 [[.p (.seq false (w.ts.map taskC)), .p (iV w.grain), .p (.seq false (w.done.map fun b => [bV b]))]]))], 1⟩ : LS) from le_of [(0, _)] (by rfl) (by rfl) ⟨⟨_, rfl, .p (.of_eq (by first | rfl | (simp only [PV.lit.injEq, Value.int.injEq, true_and]; omega) | (simp; done) | (simp; omega)))⟩, ⟨_, rfl, .p (.of_eq (by first | rfl | (simp only [PV.lit.injEq, Value.int.injEq, true_and]; omega) | (simp; done) | (simp; omega)))⟩, ⟨_, rfl, .p (.of_eq (by first | rfl | (simp only [PV.lit.injEq, Value.int.injEq, true_and]; omega) | (simp; done) | (simp; omega)))⟩, ⟨_, rfl, .ptr rfl⟩, ⟨_, rfl, .p (.of_eq (by first | rfl | (simp only [PV.lit.injEq, Value.int.injEq, true_and]; omega) | (simp; done) | (simp; omega)))⟩, ⟨_, rfl, .p (.of_eq (by first | rfl | (simp only [PV.lit.injEq, Value.int.injEq, true_and]; omega) | (simp; done) | (simp; omega)))⟩, ⟨_, rfl, .p (.of_eq (by first | rfl | (simp only [PV.lit.injEq, Value.int.injEq, true_and]; omega) | (simp; done) | (simp; omega)))⟩, ⟨_, rfl, .p (.of_eq (by first | rfl | (simp only [PV.lit.injEq, Value.int.injEq, true_and]; omega) | (simp; done) | (simp; omega)))⟩, trivial⟩ ⟨⟨_, rfl, _, rfl, .one (.cons (.p (.refl _)) (.cons (.p (.refl _)) (.cons (.p (.refl _)) .nil)))⟩, trivial⟩) ?_
            have hpm := hI.perm (Pl.perm_at op i hil)
            have hln := Pl.len_at op i hil
            have hmem : (op.getD i default) ∈ (op.getD i default) :: (op.take i ++ op.drop (i + 1)) := by simp
            have hth := hpm.there hmem
            have htl := (hpm.gg.rng _ hmem).1
            have hlen := hI.len
            refine awp_sr [76, 81] (by rw [hC]; rfl) fun k hk => ?_
            simp (maxSteps := 4000000) (disch := first | omega | (simp only [lens]; omega)) only [argSl, argA_nil, argA_cons, am, ↓amb, aml, mark_eq, lo, ← List.map_take, ← List.map_drop, ← List.map_append, ↓reduceIte, reduceCtorEq, Int.reduceBEq, Int.reduceBNe, Int.reduceToNat, Nat.reduceEqDiff, Nat.reduceAdd, Nat.reduceSub, Nat.reduceMul, Nat.reduceDiv, Nat.reduceMod, Nat.reduceLeDiff, Nat.reduceBEq, el22, sz3, taskC]
            (repeat (refine ⟨by first | omega | (simp; done) | assumption | (unfold maxLen; omega) | (simp [maxLen]; omega), ?_⟩)); refine hk _ ?_; clear hk; clear k
            refine awp_le (le_keep [0, 2, 6, 7, 8, 9, 11, 12, 13, 14, 15]) ?_
            simp only [keepL_nil, keepL_cons, keepM_some, keepM_none, argSl, lkp_cons, lkp_nil, Nat.reduceEqDiff, ↓reduceIte, reduceCtorEq, Nat.zero_add, Nat.reduceAdd]
            refine awp_sd [76, 81] ⟨[0, 0, 0, 6, 15, 0, 0, 64, 224, 511, 1023], [4], [9], [(4, 9)], none⟩ (by rw [hC]; rfl) (by kernel_rfl) (by kernel_rfl) fun k hk => ?_
            simp (maxSteps := 4000000) (disch := first | omega | (simp only [lens]; omega)) only [argSl, argA_nil, argA_cons, am, ↓amb, aml, mark_eq, lo, ← List.map_take, ← List.map_drop, ← List.map_append, ↓reduceIte, reduceCtorEq, Int.reduceBEq, Int.reduceBNe, Int.reduceToNat, Nat.reduceEqDiff, Nat.reduceAdd, Nat.reduceSub, Nat.reduceMul, Nat.reduceDiv, Nat.reduceMod, Nat.reduceLeDiff, Nat.reduceBEq, el22, vr3, sz3, by3, taskC]
            (repeat (refine ⟨by first | omega | (simp; done) | assumption | (unfold maxLen; omega) | (simp [maxLen]; omega), ?_⟩)); refine hk _ ?_; clear hk; clear k
            refine awp_seq fun k9 h9 => ?_
            refine awp_le (le_keep [0, 2, 6, 7, 8, 9, 11, 12, 13, 15]) ?_
            simp only [keepL_nil, keepL_cons, keepM_some, keepM_none, argSl, lkp_cons, lkp_nil, Nat.reduceEqDiff, ↓reduceIte, reduceCtorEq, Nat.zero_add, Nat.reduceAdd]
            refine awp_sr [76, 81] (by rw [hC]; rfl) fun k hk => ?_
            simp (maxSteps := 4000000) (disch := first | omega | (simp only [lens]; omega)) only [argSl, argA_nil, argA_cons, am, ↓amb, aml, mark_eq, lo, ← List.map_take, ← List.map_drop, ← List.map_append, ↓reduceIte, reduceCtorEq, Int.reduceBEq, Int.reduceBNe, Int.reduceToNat, Nat.reduceEqDiff, Nat.reduceAdd, Nat.reduceSub, Nat.reduceMul, Nat.reduceDiv, Nat.reduceMod, Nat.reduceLeDiff, Nat.reduceBEq, sz42, en39, taskC]
            (repeat (refine ⟨by first | omega | (simp; done) | assumption | (unfold maxLen; omega) | (simp [maxLen]; omega), ?_⟩))
            refine callK_p (c39 _ _ _ _) rfl ?_
            simp (maxSteps := 4000000) (disch := first | omega | (simp only [lens]; omega)) only [argSl, argA_nil, argA_cons, am, ↓amb, aml, mark_eq, lo, ← List.map_take, ← List.map_drop, ← List.map_append, ↓reduceIte, reduceCtorEq, Int.reduceBEq, Int.reduceBNe, Int.reduceToNat, Nat.reduceEqDiff, Nat.reduceAdd, Nat.reduceSub, Nat.reduceMul, Nat.reduceDiv, Nat.reduceMod, Nat.reduceLeDiff, Nat.reduceBEq, sz42, en39, taskC]
            (repeat (refine ⟨by first | omega | (simp; done) | assumption | (unfold maxLen; omega) | (simp [maxLen]; omega), ?_⟩)); refine hk _ ?_; clear hk; clear k
            refine awp_cond rfl (fun hb => ?_) (fun hb => ?_)
            · -- branch 9
              try simp only [decide_eq_true_eq, decide_eq_false_iff_not, Int.not_lt, Int.not_le, beq_iff_eq, bne_iff_ne, ne_eq, beq_eq_false_iff_ne, bne_eq_false_iff_eq, Bool.not_eq_true, Bool.not_eq_false, Bool.not_true, Bool.not_false, Bool.not_eq_false', Bool.not_eq_true', Decidable.not_not] at hb
              refine awp_le (le_keep [0, 2, 6, 7, 8, 9, 11, 12, 13, 15]) ?_
              simp only [keepL_nil, keepL_cons, keepM_some, keepM_none, argSl, lkp_cons, lkp_nil, Nat.reduceEqDiff, ↓reduceIte, reduceCtorEq, Nat.zero_add, Nat.reduceAdd]
              have hgt := (hpm.great hmem).1 hb
              have hE := hpm.part0 hgt
              have hp := hpm.part hgt
              refine awp_sr [76, 81] (by rw [hC]; rfl) fun k hk => ?_
              simp (maxSteps := 4000000) (disch := first | omega | (simp only [lens]; omega)) only [argSl, argA_nil, argA_cons, am, ↓amb, aml, mark_eq, lo, ← List.map_take, ← List.map_drop, ← List.map_append, ↓reduceIte, reduceCtorEq, Int.reduceBEq, Int.reduceBNe, Int.reduceToNat, Nat.reduceEqDiff, Nat.reduceAdd, Nat.reduceSub, Nat.reduceMul, Nat.reduceDiv, Nat.reduceMod, Nat.reduceLeDiff, Nat.reduceBEq, sz42, en28, vr42, taskC]
              (repeat (refine ⟨by first | omega | (simp; done) | assumption | (unfold maxLen; omega) | (simp [maxLen]; omega), ?_⟩))
              refine callK_p (c28 _ _ _ _) rfl ?_
              simp (maxSteps := 4000000) (disch := first | omega | (simp only [lens]; omega)) only [argSl, argA_nil, argA_cons, am, ↓amb, aml, mark_eq, lo, ← List.map_take, ← List.map_drop, ← List.map_append, ↓reduceIte, reduceCtorEq, Int.reduceBEq, Int.reduceBNe, Int.reduceToNat, Nat.reduceEqDiff, Nat.reduceAdd, Nat.reduceSub, Nat.reduceMul, Nat.reduceDiv, Nat.reduceMod, Nat.reduceLeDiff, Nat.reduceBEq, sz42, en28, vr42, taskC]
              (repeat (refine ⟨by first | omega | (simp; done) | assumption | (unfold maxLen; omega) | (simp [maxLen]; omega), ?_⟩)); refine hk _ ?_; clear hk; clear k
              refine awp_seq fun k10 h10 => ?_
              refine awp_le (le_keep [0, 2, 6, 7, 8, 9, 11, 12, 13, 15, 16, 17, 18, 19]) ?_
              simp only [keepL_nil, keepL_cons, keepM_some, keepM_none, argSl, lkp_cons, lkp_nil, Nat.reduceEqDiff, ↓reduceIte, reduceCtorEq, Nat.zero_add, Nat.reduceAdd]
              refine awp_sr [76, 81] (by rw [hC]; rfl) fun k hk => ?_
              simp (maxSteps := 4000000) (disch := first | omega | (simp only [lens]; omega)) only [argSl, argA_nil, argA_cons, am, ↓amb, aml, mark_eq, lo, ← List.map_take, ← List.map_drop, ← List.map_append, ↓reduceIte, reduceCtorEq, Int.reduceBEq, Int.reduceBNe, Int.reduceToNat, Nat.reduceEqDiff, Nat.reduceAdd, Nat.reduceSub, Nat.reduceMul, Nat.reduceDiv, Nat.reduceMod, Nat.reduceLeDiff, Nat.reduceBEq, taskC]
              (repeat (refine ⟨by first | omega | (simp; done) | assumption | (unfold maxLen; omega) | (simp [maxLen]; omega), ?_⟩)); refine hk _ ?_; clear hk; clear k
              refine awp_cond rfl (fun hb => ?_) (fun hb => ?_)
              · -- branch 10
                try simp only [decide_eq_true_eq, decide_eq_false_iff_not, Int.not_lt, Int.not_le, beq_iff_eq, bne_iff_ne, ne_eq, beq_eq_false_iff_ne, bne_eq_false_iff_eq, Bool.not_eq_true, Bool.not_eq_false, Bool.not_true, Bool.not_false, Bool.not_eq_false', Bool.not_eq_true', Decidable.not_not] at hb
                refine awp_le (le_keep []) ?_
                simp only [keepL_nil, keepL_cons, keepM_some, keepM_none, argSl, lkp_cons, lkp_nil, Nat.reduceEqDiff, ↓reduceIte, reduceCtorEq, Nat.zero_add, Nat.reduceAdd]
                refine awp_sr [76, 81] (by rw [hC]; rfl) fun k hk => ?_
                simp (maxSteps := 4000000) (disch := first | omega | (simp only [lens]; omega)) only [argSl, argA_nil, argA_cons, am, ↓amb, aml, mark_eq, lo, ← List.map_take, ← List.map_drop, ← List.map_append, ↓reduceIte, reduceCtorEq, Int.reduceBEq, Int.reduceBNe, Int.reduceToNat, Nat.reduceEqDiff, Nat.reduceAdd, Nat.reduceSub, Nat.reduceMul, Nat.reduceDiv, Nat.reduceMod, Nat.reduceLeDiff, Nat.reduceBEq, taskC]
                (repeat (refine ⟨by first | omega | (simp; done) | assumption | (unfold maxLen; omega) | (simp [maxLen]; omega), ?_⟩)); refine hk _ ?_; clear hk; clear k
                refine awp_ret ?_
                exact absurd (Pl.part_ok hE).2.2.2 hb
              · -- branch 11
                try simp only [decide_eq_true_eq, decide_eq_false_iff_not, Int.not_lt, Int.not_le, beq_iff_eq, bne_iff_ne, ne_eq, beq_eq_false_iff_ne, bne_eq_false_iff_eq, Bool.not_eq_true, Bool.not_eq_false, Bool.not_true, Bool.not_false, Bool.not_eq_false', Bool.not_eq_true', Decidable.not_not] at hb
                refine awp_skip ?_
                refine h10 _ ?_; clear h10; clear k10
                refine awp_le (le_keep [0, 2, 6, 7, 8, 9, 11, 12, 13, 15, 16, 17, 18]) ?_
                simp only [keepL_nil, keepL_cons, keepM_some, keepM_none, argSl, lkp_cons, lkp_nil, Nat.reduceEqDiff, ↓reduceIte, reduceCtorEq, Nat.zero_add, Nat.reduceAdd]
                refine awp_sd [76, 81] ⟨[0, 0, 0, 0, 12, 30, 63, 127], [], [5, 6], [], some [0, 120]⟩ (by rw [hC]; rfl) (by kernel_rfl) (by kernel_rfl) fun k hk => ?_
                simp (maxSteps := 4000000) (disch := first | omega | (simp only [lens]; omega)) only [argSl, argA_nil, argA_cons, am, ↓amb, aml, mark_eq, lo, ← List.map_take, ← List.map_drop, ← List.map_append, ↓reduceIte, reduceCtorEq, Int.reduceBEq, Int.reduceBNe, Int.reduceToNat, Nat.reduceEqDiff, Nat.reduceAdd, Nat.reduceSub, Nat.reduceMul, Nat.reduceDiv, Nat.reduceMod, Nat.reduceLeDiff, Nat.reduceBEq, sz42, el22, vr3, by3, taskC]
                (repeat (refine ⟨by first | omega | (simp; done) | assumption | (unfold maxLen; omega) | (simp [maxLen]; omega), ?_⟩)); refine hk _ ?_; clear hk; clear k
                refine awp_exit ((if_pos rfl).mpr ?_)
                refine h7 _ ?_; clear h9; clear k9; clear h7; clear k7
                refine awp_region [76, 81] (by rw [hC]; rfl) fun k hk => ?_
                simp (maxSteps := 4000000) (disch := first | omega | (simp only [lens]; omega)) only [argSl, argA_nil, argA_cons, am, ↓amb, aml, mark_eq, lo, ← List.map_take, ← List.map_drop, ← List.map_append, ↓reduceIte, reduceCtorEq, Int.reduceBEq, Int.reduceBNe, Int.reduceToNat, Nat.reduceEqDiff, Nat.reduceAdd, Nat.reduceSub, Nat.reduceMul, Nat.reduceDiv, Nat.reduceMod, Nat.reduceLeDiff, Nat.reduceBEq, taskC]
                (repeat (refine ⟨by first | omega | (simp; done) | assumption | (unfold maxLen; omega) | (simp [maxLen]; omega), ?_⟩)); refine hk _ ?_; clear hk; clear k
                refine ⟨(k + 1, Pl.partW w (op.getD i default), (op.take i ++ op.drop (i + 1)) ++ [w.ts.length, w.ts.length + 1], un), ⟨hp, by have := (Pl.part_ok hE).1; simp only [this, Pl.parted, List.length_append, List.length_set, List.length_cons, List.length_nil] at *; omega, hu0⟩, le_of [(0, _)] (by rfl) (by rfl) ⟨⟨_, rfl, .p (.of_eq (by first | rfl | (simp only [PV.lit.injEq, Value.int.injEq, true_and]; omega) | (simp; done) | (simp; omega)))⟩, ⟨_, rfl, .p (.of_eq (by first | rfl | (simp only [PV.lit.injEq, Value.int.injEq, true_and]; omega) | (simp; done) | (simp; omega)))⟩, ⟨_, rfl, .p (.of_eq (by first | rfl | (simp only [PV.lit.injEq, Value.int.injEq, true_and]; omega) | (simp; done) | (simp; omega)))⟩, ⟨_, rfl, .ptr rfl⟩, ⟨_, rfl, (by first | exact LeA.frz rfl (by rfl) | exact LeA.p (LeP.sq (by first | rfl | (exact Pl.part_list hE (op.take i ++ op.drop (i + 1)) (fun (t : Nat) => [iV (t : Int)]) (fun z => [iV z]) (fun _ => rfl)))) | trace_state)⟩, ⟨_, rfl, .p (.of_eq (by first | rfl | (simp only [PV.lit.injEq, Value.int.injEq, true_and]; omega) | (simp; done) | (simp; omega)))⟩, ⟨_, rfl, .p (.of_eq (by first | rfl | (simp only [PV.lit.injEq, Value.int.injEq, true_and]; omega) | (simp; done) | (simp; omega)))⟩, trivial⟩ ⟨⟨_, rfl, _, rfl, .one (.cons (.p (.refl _)) (.cons (.p (.refl _)) (.cons (.p (.refl _)) .nil)))⟩, trivial⟩, by have := (Pl.part_ok hE).1; have hl2 := hp.len; simp only [this, Pl.parted, List.length_append, List.length_set, List.length_cons, List.length_nil] at *; omega⟩
            · -- branch 12
              try simp only [decide_eq_true_eq, decide_eq_false_iff_not, Int.not_lt, Int.not_le, beq_iff_eq, bne_iff_ne, ne_eq, beq_eq_false_iff_ne, bne_eq_false_iff_eq, Bool.not_eq_true, Bool.not_eq_false, Bool.not_true, Bool.not_false, Bool.not_eq_false', Bool.not_eq_true', Decidable.not_not] at hb
              refine awp_skip ?_
              refine h9 _ ?_; clear h9; clear k9
              refine awp_le (le_keep [0, 2, 6, 7, 8, 9, 11, 12, 13, 15]) ?_
              simp only [keepL_nil, keepL_cons, keepM_some, keepM_none, argSl, lkp_cons, lkp_nil, Nat.reduceEqDiff, ↓reduceIte, reduceCtorEq, Nat.zero_add, Nat.reduceAdd]
              have hgt := fun q => hb ((hpm.great hmem).2 q)
              have hE := hpm.do0 hgt
              obtain ⟨hd, ho1, ho2, ho3, ho4⟩ := hpm.did hgt
              have hsz := hpm.sz hmem
              have hun := hpm.units
              have hun2 := hd.units
              have hszq : Pl.szT w (op.getD i default) = (w.ts.getD (op.getD i default) default).high - (w.ts.getD (op.getD i default) default).low := rfl
              have hok8 := hpm.ok _ htl
              have hdl := hpm.dl
              simp only [Pl.okT] at hok8
              refine awp_sr [76, 81] (by rw [hC]; rfl) fun k hk => ?_
              simp (maxSteps := 4000000) (disch := first | omega | (simp only [lens]; omega)) only [argSl, argA_nil, argA_cons, am, ↓amb, aml, mark_eq, lo, ← List.map_take, ← List.map_drop, ← List.map_append, ↓reduceIte, reduceCtorEq, Int.reduceBEq, Int.reduceBNe, Int.reduceToNat, Nat.reduceEqDiff, Nat.reduceAdd, Nat.reduceSub, Nat.reduceMul, Nat.reduceDiv, Nat.reduceMod, Nat.reduceLeDiff, Nat.reduceBEq, sz42, en30, vr42, taskC]
              (repeat (refine ⟨by first | omega | (simp; done) | assumption | (unfold maxLen; omega) | (simp [maxLen]; omega), ?_⟩))
              refine callK_p (c30 _ _ _ _) rfl ?_
              simp (maxSteps := 4000000) (disch := first | omega | (simp only [lens]; omega)) only [argSl, argA_nil, argA_cons, am, ↓amb, aml, mark_eq, lo, ← List.map_take, ← List.map_drop, ← List.map_append, ↓reduceIte, reduceCtorEq, Int.reduceBEq, Int.reduceBNe, Int.reduceToNat, Nat.reduceEqDiff, Nat.reduceAdd, Nat.reduceSub, Nat.reduceMul, Nat.reduceDiv, Nat.reduceMod, Nat.reduceLeDiff, Nat.reduceBEq, sz42, en30, vr42, taskC]
              (repeat (refine ⟨by first | omega | (simp; done) | assumption | (unfold maxLen; omega) | (simp [maxLen]; omega), ?_⟩)); refine hk _ ?_; clear hk; clear k
              refine awp_seq fun k11 h11 => ?_
              refine awp_test [76, 81] 123 (decide (False)) [0, 2, 6, 7, 8, 9, 11, 12, 13, 15, 20] (by rw [hC]; rfl) (fun gd hgd k hk => ?_) ?_
              · have g2 : gd 2 = some 110 := by rw [hgd]; rfl
                have g9 : gd 9 = some 117 := by rw [hgd]; rfl
                clear hgd
                simp (maxSteps := 4000000) (disch := first | omega | (simp only [lens]; omega)) only [argSl, argA_nil, argA_cons, am, ↓amb, aml, mark_eq, lo, ← List.map_take, ← List.map_drop, ← List.map_append, ↓reduceIte, reduceCtorEq, Int.reduceBEq, Int.reduceBNe, Int.reduceToNat, Nat.reduceEqDiff, Nat.reduceAdd, Nat.reduceSub, Nat.reduceMul, Nat.reduceDiv, Nat.reduceMod, Nat.reduceLeDiff, Nat.reduceBEq, fl42_0, sz40, el40, el22, gcase_undef, g2, g9, taskC]
                repeat' first | refine hk _ _ rfl rfl rfl rfl ?_ | (refine gsplit (fun hg => ?_) (fun hg => ?_) <;> (try simp only [decide_eq_true_eq, decide_eq_false_iff_not, Int.not_lt, Int.not_le, beq_iff_eq, bne_iff_ne, ne_eq, beq_eq_false_iff_ne, bne_eq_false_iff_eq, Bool.not_eq_true, Bool.not_eq_false, Bool.not_true, Bool.not_false, Bool.not_eq_false', Bool.not_eq_true', Decidable.not_not] at hg) <;> simp (maxSteps := 4000000) (disch := first | omega | (simp only [lens]; omega)) only [argSl, argA_nil, argA_cons, am, ↓amb, aml, mark_eq, lo, ← List.map_take, ← List.map_drop, ← List.map_append, ↓reduceIte, reduceCtorEq, Int.reduceBEq, Int.reduceBNe, Int.reduceToNat, Nat.reduceEqDiff, Nat.reduceAdd, Nat.reduceSub, Nat.reduceMul, Nat.reduceDiv, Nat.reduceMod, Nat.reduceLeDiff, Nat.reduceBEq, fl42_0, sz40, el40, el22, gcase_undef, g2, g9, taskC]) | apply And.intro | fail
                all_goals first | rfl | omega | exact (decide_eq_true (by omega)).symm | exact (decide_eq_false (by omega)).symm | exact decide_eq_decide.mpr (by omega) | (refine Bool.eq_iff_iff.mpr ?_; simp only [beq_iff_eq, bne_iff_ne, ne_eq, decide_eq_true_eq]; omega) | assumption | (simp; done) | (simp [maxLen]; omega) | skip
                all_goals first | (exfalso; omega) | exact Pl.over_eq2 ho1 (by omega)
              simp only [keepL_nil, keepL_cons, keepM_some, keepM_none, argSl, argA_nil, argA_cons, lkp_cons, lkp_nil, Nat.reduceEqDiff, ↓reduceIte, reduceCtorEq, Nat.zero_add, Nat.reduceAdd, List.length_cons, List.length_nil]
              refine awp_cond rfl (fun hb => ?_) (fun hb => ?_)
              · exact absurd hb (by simp)
              · -- branch 14
                try simp only [decide_eq_true_eq, decide_eq_false_iff_not, Int.not_lt, Int.not_le, beq_iff_eq, bne_iff_ne, ne_eq, beq_eq_false_iff_ne, bne_eq_false_iff_eq, Bool.not_eq_true, Bool.not_eq_false, Bool.not_true, Bool.not_false, Bool.not_eq_false', Bool.not_eq_true', Decidable.not_not] at hb
                refine awp_skip ?_
                refine h11 _ ?_; clear h11; clear k11
                refine awp_le (le_keep [0, 2, 6, 7, 8, 9, 11, 12, 13, 15, 20]) ?_
                simp only [keepL_nil, keepL_cons, keepM_some, keepM_none, argSl, lkp_cons, lkp_nil, Nat.reduceEqDiff, ↓reduceIte, reduceCtorEq, Nat.zero_add, Nat.reduceAdd]
                refine awp_sd [76, 81] ⟨[0, 0, 2, 0, 14, 30, 62, 127, 0, 256, 0, 1792, 3840, 7936, 16383, 32767], [2, 6, 9, 13], [], [], some []⟩ (by rw [hC]; rfl) (by kernel_rfl) (by kernel_rfl) fun k hk => ?_
                simp (maxSteps := 4000000) (disch := first | omega | (simp only [lens]; omega)) only [argSl, argA_nil, argA_cons, am, ↓amb, aml, mark_eq, lo, ← List.map_take, ← List.map_drop, ← List.map_append, ↓reduceIte, reduceCtorEq, Int.reduceBEq, Int.reduceBNe, Int.reduceToNat, Nat.reduceEqDiff, Nat.reduceAdd, Nat.reduceSub, Nat.reduceMul, Nat.reduceDiv, Nat.reduceMod, Nat.reduceLeDiff, Nat.reduceBEq, fl42_0, sz40, el40, sz60, fl60_1, sz3, fl60_0, taskC]
                (repeat (refine ⟨by first | omega | (simp; done) | assumption | (unfold maxLen; omega) | (simp [maxLen]; omega), ?_⟩)); refine hk _ ?_; clear hk; clear k
                refine awp_region [76, 81] (by rw [hC]; rfl) fun k hk => ?_
                simp (maxSteps := 4000000) (disch := first | omega | (simp only [lens]; omega)) only [argSl, argA_nil, argA_cons, am, ↓amb, aml, mark_eq, lo, ← List.map_take, ← List.map_drop, ← List.map_append, ↓reduceIte, reduceCtorEq, Int.reduceBEq, Int.reduceBNe, Int.reduceToNat, Nat.reduceEqDiff, Nat.reduceAdd, Nat.reduceSub, Nat.reduceMul, Nat.reduceDiv, Nat.reduceMod, Nat.reduceLeDiff, Nat.reduceBEq, sz42, taskC]
                (repeat (refine ⟨by first | omega | (simp; done) | assumption | (unfold maxLen; omega) | (simp [maxLen]; omega), ?_⟩)); refine hk _ ?_; clear hk; clear k
                refine h7 _ ?_; clear h7; clear k7
                refine awp_region [76, 81] (by rw [hC]; rfl) fun k hk => ?_
                simp (maxSteps := 4000000) (disch := first | omega | (simp only [lens]; omega)) only [argSl, argA_nil, argA_cons, am, ↓amb, aml, mark_eq, lo, ← List.map_take, ← List.map_drop, ← List.map_append, ↓reduceIte, reduceCtorEq, Int.reduceBEq, Int.reduceBNe, Int.reduceToNat, Nat.reduceEqDiff, Nat.reduceAdd, Nat.reduceSub, Nat.reduceMul, Nat.reduceDiv, Nat.reduceMod, Nat.reduceLeDiff, Nat.reduceBEq, taskC]
                (repeat (refine ⟨by first | omega | (simp; done) | assumption | (unfold maxLen; omega) | (simp [maxLen]; omega), ?_⟩)); refine hk _ ?_; clear hk; clear k
                refine ⟨(k + 1, Pl.doW w (op.getD i default), (op.take i ++ op.drop (i + 1)), un + Pl.szT w (op.getD i default)), ⟨hd, by dsimp only; omega, by dsimp only; omega⟩, le_of [(0, _)] (by rfl) (by rfl) ⟨⟨_, rfl, .p (.of_eq (by first | rfl | (simp only [PV.lit.injEq, Value.int.injEq, true_and]; omega) | (simp; done) | (simp; omega)))⟩, ⟨_, rfl, .p (.of_eq (by first | rfl | (simp only [PV.lit.injEq, Value.int.injEq, true_and]; omega) | (simp; done) | (simp; omega)))⟩, ⟨_, rfl, .p (.of_eq (by first | rfl | (simp only [PV.lit.injEq, Value.int.injEq, true_and]; omega) | (simp; done) | (simp; omega)))⟩, ⟨_, rfl, .ptr rfl⟩, ⟨_, rfl, (by first | exact LeA.frz rfl (by rfl) | exact LeA.p (LeP.sq (by first | rfl | (exact Pl.part_list hE (op.take i ++ op.drop (i + 1)) (fun (t : Nat) => [iV (t : Int)]) (fun z => [iV z]) (fun _ => rfl)))) | trace_state)⟩, ⟨_, rfl, .p (.of_eq (by first | rfl | (simp only [PV.lit.injEq, Value.int.injEq, true_and]; omega) | (simp; done) | (simp; omega)))⟩, ⟨_, rfl, .p (.of_eq (by first | rfl | (simp only [PV.lit.injEq, Value.int.injEq, true_and]; omega) | (simp; done) | (simp; omega)))⟩, trivial⟩ ⟨⟨_, rfl, _, rfl, .one (.cons (.p (.refl _)) (.cons (.p (.refl _)) (.cons (.p (.refl _)) .nil)))⟩, trivial⟩, by dsimp only; omega⟩
          · -- branch 15
            try simp only [decide_eq_true_eq, decide_eq_false_iff_not, Int.not_lt, Int.not_le, beq_iff_eq, bne_iff_ne, ne_eq, beq_eq_false_iff_ne, bne_eq_false_iff_eq, Bool.not_eq_true, Bool.not_eq_false, Bool.not_true, Bool.not_false, Bool.not_eq_false', Bool.not_eq_true', Decidable.not_not] at hb
            refine awp_skip ?_
            refine h8 _ ?_; clear h8; clear k8
            refine awp_le (le_keep [0, 2, 6, 7, 8, 9, 11, 12, 13, 14]) ?_
            simp only [keepL_nil, keepL_cons, keepM_some, keepM_none, argSl, lkp_cons, lkp_nil, Nat.reduceEqDiff, ↓reduceIte, reduceCtorEq, Nat.zero_add, Nat.reduceAdd]
            obtain ⟨i, hi, hil⟩ : ∃ i : Nat, i = 0 ∧ i < op.length := ⟨0, rfl, by omega⟩
            refine awp_le (show LE _ (⟨[(2, (.p (.seq false (order.map fun a => [.lit (.int .u16 a)])))), (7, (.p (iV (1 + n % 120)))), (8, (.p (iV (1 + g % 20)))), (9, (.ptr 0 3 0 0)), (11, (.p (.seq false (op.map fun (t : Nat) => [iV (t : Int)])))), (12, (.p (iV un))), (13, (.p (iV k))), (14, (.p (iV i)))], [(0, (.row 3 [[.p (.seq false (w.ts.map taskC)), .p (iV w.grain), .p (.seq false (w.done.map fun b => [bV b]))]]))], 1⟩ : LS) from le_of [(0, _)] (by rfl) (by rfl) ⟨⟨_, rfl, .p (.of_eq (by first | rfl | (simp only [PV.lit.injEq, Value.int.injEq, true_and]; omega) | (simp; done) | (simp; omega)))⟩, ⟨_, rfl, .p (.of_eq (by first | rfl | (simp only [PV.lit.injEq, Value.int.injEq, true_and]; omega) | (simp; done) | (simp; omega)))⟩, ⟨_, rfl, .p (.of_eq (by first | rfl | (simp only [PV.lit.injEq, Value.int.injEq, true_and]; omega) | (simp; done) | (simp; omega)))⟩, ⟨_, rfl, .ptr rfl⟩, ⟨_, rfl, .p (.of_eq (by first | rfl | (simp only [PV.lit.injEq, Value.int.injEq, true_and]; omega) | (simp; done) | (simp; omega)))⟩, ⟨_, rfl, .p (.of_eq (by first | rfl | (simp only [PV.lit.injEq, Value.int.injEq, true_and]; omega) | (simp; done) | (simp; omega)))⟩, ⟨_, rfl, .p (.of_eq (by first | rfl | (simp only [PV.lit.injEq, Value.int.injEq, true_and]; omega) | (simp; done) | (simp; omega)))⟩, ⟨_, rfl, .p (.of_eq (by first | rfl | (simp only [PV.lit.injEq, Value.int.injEq, true_and]; omega) | (simp; done) | (simp; omega)))⟩, trivial⟩ ⟨⟨_, rfl, _, rfl, .one (.cons (.p (.refl _)) (.cons (.p (.refl _)) (.cons (.p (.refl _)) .nil)))⟩, trivial⟩) ?_
            have hpm := hI.perm (Pl.perm_at op i hil)
            have hln := Pl.len_at op i hil
            have hmem : (op.getD i default) ∈ (op.getD i default) :: (op.take i ++ op.drop (i + 1)) := by simp
            have hth := hpm.there hmem
            have htl := (hpm.gg.rng _ hmem).1
            have hlen := hI.len
            refine awp_sr [76, 81] (by rw [hC]; rfl) fun k hk => ?_
            simp (maxSteps := 4000000) (disch := first | omega | (simp only [lens]; omega)) only [argSl, argA_nil, argA_cons, am, ↓amb, aml, mark_eq, lo, ← List.map_take, ← List.map_drop, ← List.map_append, ↓reduceIte, reduceCtorEq, Int.reduceBEq, Int.reduceBNe, Int.reduceToNat, Nat.reduceEqDiff, Nat.reduceAdd, Nat.reduceSub, Nat.reduceMul, Nat.reduceDiv, Nat.reduceMod, Nat.reduceLeDiff, Nat.reduceBEq, el22, sz3, taskC]
            (repeat (refine ⟨by first | omega | (simp; done) | assumption | (unfold maxLen; omega) | (simp [maxLen]; omega), ?_⟩)); refine hk _ ?_; clear hk; clear k
            refine awp_le (le_keep [0, 2, 6, 7, 8, 9, 11, 12, 13, 14, 15]) ?_
            simp only [keepL_nil, keepL_cons, keepM_some, keepM_none, argSl, lkp_cons, lkp_nil, Nat.reduceEqDiff, ↓reduceIte, reduceCtorEq, Nat.zero_add, Nat.reduceAdd]
            refine awp_sd [76, 81] ⟨[0, 0, 0, 6, 15, 0, 0, 64, 224, 511, 1023], [4], [9], [(4, 9)], none⟩ (by rw [hC]; rfl) (by kernel_rfl) (by kernel_rfl) fun k hk => ?_
            simp (maxSteps := 4000000) (disch := first | omega | (simp only [lens]; omega)) only [argSl, argA_nil, argA_cons, am, ↓amb, aml, mark_eq, lo, ← List.map_take, ← List.map_drop, ← List.map_append, ↓reduceIte, reduceCtorEq, Int.reduceBEq, Int.reduceBNe, Int.reduceToNat, Nat.reduceEqDiff, Nat.reduceAdd, Nat.reduceSub, Nat.reduceMul, Nat.reduceDiv, Nat.reduceMod, Nat.reduceLeDiff, Nat.reduceBEq, el22, vr3, sz3, by3, taskC]
            (repeat (refine ⟨by first | omega | (simp; done) | assumption | (unfold maxLen; omega) | (simp [maxLen]; omega), ?_⟩)); refine hk _ ?_; clear hk; clear k
            refine awp_seq fun k12 h12 => ?_
            refine awp_le (le_keep [0, 2, 6, 7, 8, 9, 11, 12, 13, 15]) ?_
            simp only [keepL_nil, keepL_cons, keepM_some, keepM_none, argSl, lkp_cons, lkp_nil, Nat.reduceEqDiff, ↓reduceIte, reduceCtorEq, Nat.zero_add, Nat.reduceAdd]
            refine awp_sr [76, 81] (by rw [hC]; rfl) fun k hk => ?_
            simp (maxSteps := 4000000) (disch := first | omega | (simp only [lens]; omega)) only [argSl, argA_nil, argA_cons, am, ↓amb, aml, mark_eq, lo, ← List.map_take, ← List.map_drop, ← List.map_append, ↓reduceIte, reduceCtorEq, Int.reduceBEq, Int.reduceBNe, Int.reduceToNat, Nat.reduceEqDiff, Nat.reduceAdd, Nat.reduceSub, Nat.reduceMul, Nat.reduceDiv, Nat.reduceMod, Nat.reduceLeDiff, Nat.reduceBEq, sz42, en39, taskC]
            (repeat (refine ⟨by first | omega | (simp; done) | assumption | (unfold maxLen; omega) | (simp [maxLen]; omega), ?_⟩))
            refine callK_p (c39 _ _ _ _) rfl ?_
            simp (maxSteps := 4000000) (disch := first | omega | (simp only [lens]; omega)) only [argSl, argA_nil, argA_cons, am, ↓amb, aml, mark_eq, lo, ← List.map_take, ← List.map_drop, ← List.map_append, ↓reduceIte, reduceCtorEq, Int.reduceBEq, Int.reduceBNe, Int.reduceToNat, Nat.reduceEqDiff, Nat.reduceAdd, Nat.reduceSub, Nat.reduceMul, Nat.reduceDiv, Nat.reduceMod, Nat.reduceLeDiff, Nat.reduceBEq, sz42, en39, taskC]
            (repeat (refine ⟨by first | omega | (simp; done) | assumption | (unfold maxLen; omega) | (simp [maxLen]; omega), ?_⟩)); refine hk _ ?_; clear hk; clear k
            refine awp_cond rfl (fun hb => ?_) (fun hb => ?_)
            · -- branch 16
              try simp only [decide_eq_true_eq, decide_eq_false_iff_not, Int.not_lt, Int.not_le, beq_iff_eq, bne_iff_ne, ne_eq, beq_eq_false_iff_ne, bne_eq_false_iff_eq, Bool.not_eq_true, Bool.not_eq_false, Bool.not_true, Bool.not_false, Bool.not_eq_false', Bool.not_eq_true', Decidable.not_not] at hb
              refine awp_le (le_keep [0, 2, 6, 7, 8, 9, 11, 12, 13, 15]) ?_
              simp only [keepL_nil, keepL_cons, keepM_some, keepM_none, argSl, lkp_cons, lkp_nil, Nat.reduceEqDiff, ↓reduceIte, reduceCtorEq, Nat.zero_add, Nat.reduceAdd]
              have hgt := (hpm.great hmem).1 hb
              have hE := hpm.part0 hgt
              have hp := hpm.part hgt
              refine awp_sr [76, 81] (by rw [hC]; rfl) fun k hk => ?_
              simp (maxSteps := 4000000) (disch := first | omega | (simp only [lens]; omega)) only [argSl, argA_nil, argA_cons, am, ↓amb, aml, mark_eq, lo, ← List.map_take, ← List.map_drop, ← List.map_append, ↓reduceIte, reduceCtorEq, Int.reduceBEq, Int.reduceBNe, Int.reduceToNat, Nat.reduceEqDiff, Nat.reduceAdd, Nat.reduceSub, Nat.reduceMul, Nat.reduceDiv, Nat.reduceMod, Nat.reduceLeDiff, Nat.reduceBEq, sz42, en28, vr42, taskC]
              (repeat (refine ⟨by first | omega | (simp; done) | assumption | (unfold maxLen; omega) | (simp [maxLen]; omega), ?_⟩))
              refine callK_p (c28 _ _ _ _) rfl ?_
              simp (maxSteps := 4000000) (disch := first | omega | (simp only [lens]; omega)) only [argSl, argA_nil, argA_cons, am, ↓amb, aml, mark_eq, lo, ← List.map_take, ← List.map_drop, ← List.map_append, ↓reduceIte, reduceCtorEq, Int.reduceBEq, Int.reduceBNe, Int.reduceToNat, Nat.reduceEqDiff, Nat.reduceAdd, Nat.reduceSub, Nat.reduceMul, Nat.reduceDiv, Nat.reduceMod, Nat.reduceLeDiff, Nat.reduceBEq, sz42, en28, vr42, taskC]
              (repeat (refine ⟨by first | omega | (simp; done) | assumption | (unfold maxLen; omega) | (simp [maxLen]; omega), ?_⟩)); refine hk _ ?_; clear hk; clear k
              refine awp_seq fun k13 h13 => ?_
              refine awp_le (le_keep [0, 2, 6, 7, 8, 9, 11, 12, 13, 15, 16, 17, 18, 19]) ?_
              simp only [keepL_nil, keepL_cons, keepM_some, keepM_none, argSl, lkp_cons, lkp_nil, Nat.reduceEqDiff, ↓reduceIte, reduceCtorEq, Nat.zero_add, Nat.reduceAdd]
              refine awp_sr [76, 81] (by rw [hC]; rfl) fun k hk => ?_
              simp (maxSteps := 4000000) (disch := first | omega | (simp only [lens]; omega)) only [argSl, argA_nil, argA_cons, am, ↓amb, aml, mark_eq, lo, ← List.map_take, ← List.map_drop, ← List.map_append, ↓reduceIte, reduceCtorEq, Int.reduceBEq, Int.reduceBNe, Int.reduceToNat, Nat.reduceEqDiff, Nat.reduceAdd, Nat.reduceSub, Nat.reduceMul, Nat.reduceDiv, Nat.reduceMod, Nat.reduceLeDiff, Nat.reduceBEq, taskC]
              (repeat (refine ⟨by first | omega | (simp; done) | assumption | (unfold maxLen; omega) | (simp [maxLen]; omega), ?_⟩)); refine hk _ ?_; clear hk; clear k
              refine awp_cond rfl (fun hb => ?_) (fun hb => ?_)
              · -- branch 17
                try simp only [decide_eq_true_eq, decide_eq_false_iff_not, Int.not_lt, Int.not_le, beq_iff_eq, bne_iff_ne, ne_eq, beq_eq_false_iff_ne, bne_eq_false_iff_eq, Bool.not_eq_true, Bool.not_eq_false, Bool.not_true, Bool.not_false, Bool.not_eq_false', Bool.not_eq_true', Decidable.not_not] at hb
                refine awp_le (le_keep []) ?_
                simp only [keepL_nil, keepL_cons, keepM_some, keepM_none, argSl, lkp_cons, lkp_nil, Nat.reduceEqDiff, ↓reduceIte, reduceCtorEq, Nat.zero_add, Nat.reduceAdd]
                refine awp_sr [76, 81] (by rw [hC]; rfl) fun k hk => ?_
                simp (maxSteps := 4000000) (disch := first | omega | (simp only [lens]; omega)) only [argSl, argA_nil, argA_cons, am, ↓amb, aml, mark_eq, lo, ← List.map_take, ← List.map_drop, ← List.map_append, ↓reduceIte, reduceCtorEq, Int.reduceBEq, Int.reduceBNe, Int.reduceToNat, Nat.reduceEqDiff, Nat.reduceAdd, Nat.reduceSub, Nat.reduceMul, Nat.reduceDiv, Nat.reduceMod, Nat.reduceLeDiff, Nat.reduceBEq, taskC]
                (repeat (refine ⟨by first | omega | (simp; done) | assumption | (unfold maxLen; omega) | (simp [maxLen]; omega), ?_⟩)); refine hk _ ?_; clear hk; clear k
                refine awp_ret ?_
                exact absurd (Pl.part_ok hE).2.2.2 hb
              · -- branch 18
                try simp only [decide_eq_true_eq, decide_eq_false_iff_not, Int.not_lt, Int.not_le, beq_iff_eq, bne_iff_ne, ne_eq, beq_eq_false_iff_ne, bne_eq_false_iff_eq, Bool.not_eq_true, Bool.not_eq_false, Bool.not_true, Bool.not_false, Bool.not_eq_false', Bool.not_eq_true', Decidable.not_not] at hb
                refine awp_skip ?_
                refine h13 _ ?_; clear h13; clear k13
                refine awp_le (le_keep [0, 2, 6, 7, 8, 9, 11, 12, 13, 15, 16, 17, 18]) ?_
                simp only [keepL_nil, keepL_cons, keepM_some, keepM_none, argSl, lkp_cons, lkp_nil, Nat.reduceEqDiff, ↓reduceIte, reduceCtorEq, Nat.zero_add, Nat.reduceAdd]
                refine awp_sd [76, 81] ⟨[0, 0, 0, 0, 12, 30, 63, 127], [], [5, 6], [], some [0, 120]⟩ (by rw [hC]; rfl) (by kernel_rfl) (by kernel_rfl) fun k hk => ?_
                simp (maxSteps := 4000000) (disch := first | omega | (simp only [lens]; omega)) only [argSl, argA_nil, argA_cons, am, ↓amb, aml, mark_eq, lo, ← List.map_take, ← List.map_drop, ← List.map_append, ↓reduceIte, reduceCtorEq, Int.reduceBEq, Int.reduceBNe, Int.reduceToNat, Nat.reduceEqDiff, Nat.reduceAdd, Nat.reduceSub, Nat.reduceMul, Nat.reduceDiv, Nat.reduceMod, Nat.reduceLeDiff, Nat.reduceBEq, sz42, el22, vr3, by3, taskC]
                (repeat (refine ⟨by first | omega | (simp; done) | assumption | (unfold maxLen; omega) | (simp [maxLen]; omega), ?_⟩)); refine hk _ ?_; clear hk; clear k
                refine awp_exit ((if_pos rfl).mpr ?_)
                refine h7 _ ?_; clear h12; clear k12; clear h7; clear k7
                refine awp_region [76, 81] (by rw [hC]; rfl) fun k hk => ?_
                simp (maxSteps := 4000000) (disch := first | omega | (simp only [lens]; omega)) only [argSl, argA_nil, argA_cons, am, ↓amb, aml, mark_eq, lo, ← List.map_take, ← List.map_drop, ← List.map_append, ↓reduceIte, reduceCtorEq, Int.reduceBEq, Int.reduceBNe, Int.reduceToNat, Nat.reduceEqDiff, Nat.reduceAdd, Nat.reduceSub, Nat.reduceMul, Nat.reduceDiv, Nat.reduceMod, Nat.reduceLeDiff, Nat.reduceBEq, taskC]
                (repeat (refine ⟨by first | omega | (simp; done) | assumption | (unfold maxLen; omega) | (simp [maxLen]; omega), ?_⟩)); refine hk _ ?_; clear hk; clear k
                refine ⟨(k + 1, Pl.partW w (op.getD i default), (op.take i ++ op.drop (i + 1)) ++ [w.ts.length, w.ts.length + 1], un), ⟨hp, by have := (Pl.part_ok hE).1; simp only [this, Pl.parted, List.length_append, List.length_set, List.length_cons, List.length_nil] at *; omega, hu0⟩, le_of [(0, _)] (by rfl) (by rfl) ⟨⟨_, rfl, .p (.of_eq (by first | rfl | (simp only [PV.lit.injEq, Value.int.injEq, true_and]; omega) | (simp; done) | (simp; omega)))⟩, ⟨_, rfl, .p (.of_eq (by first | rfl | (simp only [PV.lit.injEq, Value.int.injEq, true_and]; omega) | (simp; done) | (simp; omega)))⟩, ⟨_, rfl, .p (.of_eq (by first | rfl | (simp only [PV.lit.injEq, Value.int.injEq, true_and]; omega) | (simp; done) | (simp; omega)))⟩, ⟨_, rfl, .ptr rfl⟩, ⟨_, rfl, (by first | exact LeA.frz rfl (by rfl) | exact LeA.p (LeP.sq (by first | rfl | (exact Pl.part_list hE (op.take i ++ op.drop (i + 1)) (fun (t : Nat) => [iV (t : Int)]) (fun z => [iV z]) (fun _ => rfl)))) | trace_state)⟩, ⟨_, rfl, .p (.of_eq (by first | rfl | (simp only [PV.lit.injEq, Value.int.injEq, true_and]; omega) | (simp; done) | (simp; omega)))⟩, ⟨_, rfl, .p (.of_eq (by first | rfl | (simp only [PV.lit.injEq, Value.int.injEq, true_and]; omega) | (simp; done) | (simp; omega)))⟩, trivial⟩ ⟨⟨_, rfl, _, rfl, .one (.cons (.p (.refl _)) (.cons (.p (.refl _)) (.cons (.p (.refl _)) .nil)))⟩, trivial⟩, by have := (Pl.part_ok hE).1; have hl2 := hp.len; simp only [this, Pl.parted, List.length_append, List.length_set, List.length_cons, List.length_nil] at *; omega⟩
            · -- branch 19
              try simp only [decide_eq_true_eq, decide_eq_false_iff_not, Int.not_lt, Int.not_le, beq_iff_eq, bne_iff_ne, ne_eq, beq_eq_false_iff_ne, bne_eq_false_iff_eq, Bool.not_eq_true, Bool.not_eq_false, Bool.not_true, Bool.not_false, Bool.not_eq_false', Bool.not_eq_true', Decidable.not_not] at hb
              refine awp_skip ?_
              refine h12 _ ?_; clear h12; clear k12
              refine awp_le (le_keep [0, 2, 6, 7, 8, 9, 11, 12, 13, 15]) ?_
              simp only [keepL_nil, keepL_cons, keepM_some, keepM_none, argSl, lkp_cons, lkp_nil, Nat.reduceEqDiff, ↓reduceIte, reduceCtorEq, Nat.zero_add, Nat.reduceAdd]
              have hgt := fun q => hb ((hpm.great hmem).2 q)
              have hE := hpm.do0 hgt
              obtain ⟨hd, ho1, ho2, ho3, ho4⟩ := hpm.did hgt
              have hsz := hpm.sz hmem
              have hun := hpm.units
              have hun2 := hd.units
              have hszq : Pl.szT w (op.getD i default) = (w.ts.getD (op.getD i default) default).high - (w.ts.getD (op.getD i default) default).low := rfl
              have hok8 := hpm.ok _ htl
              have hdl := hpm.dl
              simp only [Pl.okT] at hok8
              refine awp_sr [76, 81] (by rw [hC]; rfl) fun k hk => ?_
              simp (maxSteps := 4000000) (disch := first | omega | (simp only [lens]; omega)) only [argSl, argA_nil, argA_cons, am, ↓amb, aml, mark_eq, lo, ← List.map_take, ← List.map_drop, ← List.map_append, ↓reduceIte, reduceCtorEq, Int.reduceBEq, Int.reduceBNe, Int.reduceToNat, Nat.reduceEqDiff, Nat.reduceAdd, Nat.reduceSub, Nat.reduceMul, Nat.reduceDiv, Nat.reduceMod, Nat.reduceLeDiff, Nat.reduceBEq, sz42, en30, vr42, taskC]
              (repeat (refine ⟨by first | omega | (simp; done) | assumption | (unfold maxLen; omega) | (simp [maxLen]; omega), ?_⟩))
              refine callK_p (c30 _ _ _ _) rfl ?_
              simp (maxSteps := 4000000) (disch := first | omega | (simp only [lens]; omega)) only [argSl, argA_nil, argA_cons, am, ↓amb, aml, mark_eq, lo, ← List.map_take, ← List.map_drop, ← List.map_append, ↓reduceIte, reduceCtorEq, Int.reduceBEq, Int.reduceBNe, Int.reduceToNat, Nat.reduceEqDiff, Nat.reduceAdd, Nat.reduceSub, Nat.reduceMul, Nat.reduceDiv, Nat.reduceMod, Nat.reduceLeDiff, Nat.reduceBEq, sz42, en30, vr42, taskC]
              (repeat (refine ⟨by first | omega | (simp; done) | assumption | (unfold maxLen; omega) | (simp [maxLen]; omega), ?_⟩)); refine hk _ ?_; clear hk; clear k
              refine awp_seq fun k14 h14 => ?_
              refine awp_test [76, 81] 123 (decide (False)) [0, 2, 6, 7, 8, 9, 11, 12, 13, 15, 20] (by rw [hC]; rfl) (fun gd hgd k hk => ?_) ?_
              · have g2 : gd 2 = some 110 := by rw [hgd]; rfl
                have g9 : gd 9 = some 117 := by rw [hgd]; rfl
                clear hgd
                simp (maxSteps := 4000000) (disch := first | omega | (simp only [lens]; omega)) only [argSl, argA_nil, argA_cons, am, ↓amb, aml, mark_eq, lo, ← List.map_take, ← List.map_drop, ← List.map_append, ↓reduceIte, reduceCtorEq, Int.reduceBEq, Int.reduceBNe, Int.reduceToNat, Nat.reduceEqDiff, Nat.reduceAdd, Nat.reduceSub, Nat.reduceMul, Nat.reduceDiv, Nat.reduceMod, Nat.reduceLeDiff, Nat.reduceBEq, fl42_0, sz40, el40, el22, gcase_undef, g2, g9, taskC]
                repeat' first | refine hk _ _ rfl rfl rfl rfl ?_ | (refine gsplit (fun hg => ?_) (fun hg => ?_) <;> (try simp only [decide_eq_true_eq, decide_eq_false_iff_not, Int.not_lt, Int.not_le, beq_iff_eq, bne_iff_ne, ne_eq, beq_eq_false_iff_ne, bne_eq_false_iff_eq, Bool.not_eq_true, Bool.not_eq_false, Bool.not_true, Bool.not_false, Bool.not_eq_false', Bool.not_eq_true', Decidable.not_not] at hg) <;> simp (maxSteps := 4000000) (disch := first | omega | (simp only [lens]; omega)) only [argSl, argA_nil, argA_cons, am, ↓amb, aml, mark_eq, lo, ← List.map_take, ← List.map_drop, ← List.map_append, ↓reduceIte, reduceCtorEq, Int.reduceBEq, Int.reduceBNe, Int.reduceToNat, Nat.reduceEqDiff, Nat.reduceAdd, Nat.reduceSub, Nat.reduceMul, Nat.reduceDiv, Nat.reduceMod, Nat.reduceLeDiff, Nat.reduceBEq, fl42_0, sz40, el40, el22, gcase_undef, g2, g9, taskC]) | apply And.intro | fail
                all_goals first | rfl | omega | exact (decide_eq_true (by omega)).symm | exact (decide_eq_false (by omega)).symm | exact decide_eq_decide.mpr (by omega) | (refine Bool.eq_iff_iff.mpr ?_; simp only [beq_iff_eq, bne_iff_ne, ne_eq, decide_eq_true_eq]; omega) | assumption | (simp; done) | (simp [maxLen]; omega) | skip
                all_goals first | (exfalso; omega) | exact Pl.over_eq2 ho1 (by omega)
              simp only [keepL_nil, keepL_cons, keepM_some, keepM_none, argSl, argA_nil, argA_cons, lkp_cons, lkp_nil, Nat.reduceEqDiff, ↓reduceIte, reduceCtorEq, Nat.zero_add, Nat.reduceAdd, List.length_cons, List.length_nil]
              refine awp_cond rfl (fun hb => ?_) (fun hb => ?_)
              · exact absurd hb (by simp)
              · -- branch 21
                try simp only [decide_eq_true_eq, decide_eq_false_iff_not, Int.not_lt, Int.not_le, beq_iff_eq, bne_iff_ne, ne_eq, beq_eq_false_iff_ne, bne_eq_false_iff_eq, Bool.not_eq_true, Bool.not_eq_false, Bool.not_true, Bool.not_false, Bool.not_eq_false', Bool.not_eq_true', Decidable.not_not] at hb
                refine awp_skip ?_
                refine h14 _ ?_; clear h14; clear k14
                refine awp_le (le_keep [0, 2, 6, 7, 8, 9, 11, 12, 13, 15, 20]) ?_
                simp only [keepL_nil, keepL_cons, keepM_some, keepM_none, argSl, lkp_cons, lkp_nil, Nat.reduceEqDiff, ↓reduceIte, reduceCtorEq, Nat.zero_add, Nat.reduceAdd]
                refine awp_sd [76, 81] ⟨[0, 0, 2, 0, 14, 30, 62, 127, 0, 256, 0, 1792, 3840, 7936, 16383, 32767], [2, 6, 9, 13], [], [], some []⟩ (by rw [hC]; rfl) (by kernel_rfl) (by kernel_rfl) fun k hk => ?_
                simp (maxSteps := 4000000) (disch := first | omega | (simp only [lens]; omega)) only [argSl, argA_nil, argA_cons, am, ↓amb, aml, mark_eq, lo, ← List.map_take, ← List.map_drop, ← List.map_append, ↓reduceIte, reduceCtorEq, Int.reduceBEq, Int.reduceBNe, Int.reduceToNat, Nat.reduceEqDiff, Nat.reduceAdd, Nat.reduceSub, Nat.reduceMul, Nat.reduceDiv, Nat.reduceMod, Nat.reduceLeDiff, Nat.reduceBEq, fl42_0, sz40, el40, sz60, fl60_1, sz3, fl60_0, taskC]
                (repeat (refine ⟨by first | omega | (simp; done) | assumption | (unfold maxLen; omega) | (simp [maxLen]; omega), ?_⟩)); refine hk _ ?_; clear hk; clear k
                refine awp_region [76, 81] (by rw [hC]; rfl) fun k hk => ?_
                simp (maxSteps := 4000000) (disch := first | omega | (simp only [lens]; omega)) only [argSl, argA_nil, argA_cons, am, ↓amb, aml, mark_eq, lo, ← List.map_take, ← List.map_drop, ← List.map_append, ↓reduceIte, reduceCtorEq, Int.reduceBEq, Int.reduceBNe, Int.reduceToNat, Nat.reduceEqDiff, Nat.reduceAdd, Nat.reduceSub, Nat.reduceMul, Nat.reduceDiv, Nat.reduceMod, Nat.reduceLeDiff, Nat.reduceBEq, sz42, taskC]
                (repeat (refine ⟨by first | omega | (simp; done) | assumption | (unfold maxLen; omega) | (simp [maxLen]; omega), ?_⟩)); refine hk _ ?_; clear hk; clear k
                refine h7 _ ?_; clear h7; clear k7
                refine awp_region [76, 81] (by rw [hC]; rfl) fun k hk => ?_
                simp (maxSteps := 4000000) (disch := first | omega | (simp only [lens]; omega)) only [argSl, argA_nil, argA_cons, am, ↓amb, aml, mark_eq, lo, ← List.map_take, ← List.map_drop, ← List.map_append, ↓reduceIte, reduceCtorEq, Int.reduceBEq, Int.reduceBNe, Int.reduceToNat, Nat.reduceEqDiff, Nat.reduceAdd, Nat.reduceSub, Nat.reduceMul, Nat.reduceDiv, Nat.reduceMod, Nat.reduceLeDiff, Nat.reduceBEq, taskC]
                (repeat (refine ⟨by first | omega | (simp; done) | assumption | (unfold maxLen; omega) | (simp [maxLen]; omega), ?_⟩)); refine hk _ ?_; clear hk; clear k
                refine ⟨(k + 1, Pl.doW w (op.getD i default), (op.take i ++ op.drop (i + 1)), un + Pl.szT w (op.getD i default)), ⟨hd, by dsimp only; omega, by dsimp only; omega⟩, le_of [(0, _)] (by rfl) (by rfl) ⟨⟨_, rfl, .p (.of_eq (by first | rfl | (simp only [PV.lit.injEq, Value.int.injEq, true_and]; omega) | (simp; done) | (simp; omega)))⟩, ⟨_, rfl, .p (.of_eq (by first | rfl | (simp only [PV.lit.injEq, Value.int.injEq, true_and]; omega) | (simp; done) | (simp; omega)))⟩, ⟨_, rfl, .p (.of_eq (by first | rfl | (simp only [PV.lit.injEq, Value.int.injEq, true_and]; omega) | (simp; done) | (simp; omega)))⟩, ⟨_, rfl, .ptr rfl⟩, ⟨_, rfl, (by first | exact LeA.frz rfl (by rfl) | exact LeA.p (LeP.sq (by first | rfl | (exact Pl.part_list hE (op.take i ++ op.drop (i + 1)) (fun (t : Nat) => [iV (t : Int)]) (fun z => [iV z]) (fun _ => rfl)))) | trace_state)⟩, ⟨_, rfl, .p (.of_eq (by first | rfl | (simp only [PV.lit.injEq, Value.int.injEq, true_and]; omega) | (simp; done) | (simp; omega)))⟩, ⟨_, rfl, .p (.of_eq (by first | rfl | (simp only [PV.lit.injEq, Value.int.injEq, true_and]; omega) | (simp; done) | (simp; omega)))⟩, trivial⟩ ⟨⟨_, rfl, _, rfl, .one (.cons (.p (.refl _)) (.cons (.p (.refl _)) (.cons (.p (.refl _)) .nil)))⟩, trivial⟩, by dsimp only; omega⟩
        · -- branch 22
          try simp only [decide_eq_true_eq, decide_eq_false_iff_not, Int.not_lt, Int.not_le, beq_iff_eq, bne_iff_ne, ne_eq, beq_eq_false_iff_ne, bne_eq_false_iff_eq, Bool.not_eq_true, Bool.not_eq_false, Bool.not_true, Bool.not_false, Bool.not_eq_false', Bool.not_eq_true', Decidable.not_not] at hb
          refine awp_exit ((if_pos rfl).mpr ?_)
          refine h4 _ ?_; clear h6; clear k6; clear h4; clear k4
          refine awp_seq fun k15 h15 => ?_
          refine awp_le (le_keep [6, 7, 8, 9, 12]) ?_
          simp only [keepL_nil, keepL_cons, keepM_some, keepM_none, argSl, lkp_cons, lkp_nil, Nat.reduceEqDiff, ↓reduceIte, reduceCtorEq, Nat.zero_add, Nat.reduceAdd]
          have hel : op.length = 0 := by omega
          have he : op = [] := List.eq_nil_of_length_eq_zero hel
          subst he
          obtain ⟨f1, f2, f3, f4⟩ := hI.ends
          have hdl := hI.dl
          refine awp_sr [76, 81] (by rw [hC]; rfl) fun k hk => ?_
          simp (maxSteps := 4000000) (disch := first | omega | (simp only [lens]; omega)) only [argSl, argA_nil, argA_cons, am, ↓amb, aml, mark_eq, lo, ← List.map_take, ← List.map_drop, ← List.map_append, ↓reduceIte, reduceCtorEq, Int.reduceBEq, Int.reduceBNe, Int.reduceToNat, Nat.reduceEqDiff, Nat.reduceAdd, Nat.reduceSub, Nat.reduceMul, Nat.reduceDiv, Nat.reduceMod, Nat.reduceLeDiff, Nat.reduceBEq, taskC]
          (repeat (refine ⟨by first | omega | (simp; done) | assumption | (unfold maxLen; omega) | (simp [maxLen]; omega), ?_⟩)); refine hk _ ?_; clear hk; clear k
          refine awp_block ?_
          refine awp_loop (σ := Nat) (fun x => x ≤ w.done.length) (fun (x : Nat) => ⟨[(7, (.p (iV (1 + n % 120)))), (8, (.p (iV (1 + g % 20)))), (9, (.ptr 0 3 0 0)), (12, (.p (iV un))), (23, (.p (iV (x : Int))))], [(0, (.row 3 [[.p (.seq false (w.ts.map taskC)), .p (iV w.grain), .p (.seq false (w.done.map fun b => [bV b]))]]))], 1⟩) (fun x => w.done.length - x) 0 ?_ ?_ fun x hx => ?_
          · exact Nat.zero_le _
          · exact le_of [(0, _)] (by rfl) (by rfl) ⟨⟨_, rfl, .p (.of_eq (by first | rfl | (simp only [PV.lit.injEq, Value.int.injEq, true_and]; omega) | (simp; done) | (simp; omega)))⟩, ⟨_, rfl, .p (.of_eq (by first | rfl | (simp only [PV.lit.injEq, Value.int.injEq, true_and]; omega) | (simp; done) | (simp; omega)))⟩, ⟨_, rfl, .ptr rfl⟩, ⟨_, rfl, .p (.of_eq (by first | rfl | (simp only [PV.lit.injEq, Value.int.injEq, true_and]; omega) | (simp; done) | (simp; omega)))⟩, ⟨_, rfl, .p (.of_eq (by first | rfl | (simp only [PV.lit.injEq, Value.int.injEq, true_and]; omega) | (simp; done) | (simp; omega)))⟩, trivial⟩ ⟨⟨_, rfl, _, rfl, .one (.cons (.p (.refl _)) (.cons (.p (.refl _)) (.cons (.p (.refl _)) .nil)))⟩, trivial⟩
          refine awp_seq fun k17 h17 => ?_
          refine awp_le (le_keep [0, 6, 7, 8, 9, 12, 23]) ?_
          simp only [keepL_nil, keepL_cons, keepM_some, keepM_none, argSl, lkp_cons, lkp_nil, Nat.reduceEqDiff, ↓reduceIte, reduceCtorEq, Nat.zero_add, Nat.reduceAdd]
          refine awp_sr [76, 81] (by rw [hC]; rfl) fun k hk => ?_
          simp (maxSteps := 4000000) (disch := first | omega | (simp only [lens]; omega)) only [argSl, argA_nil, argA_cons, am, ↓amb, aml, mark_eq, lo, ← List.map_take, ← List.map_drop, ← List.map_append, ↓reduceIte, reduceCtorEq, Int.reduceBEq, Int.reduceBNe, Int.reduceToNat, Nat.reduceEqDiff, Nat.reduceAdd, Nat.reduceSub, Nat.reduceMul, Nat.reduceDiv, Nat.reduceMod, Nat.reduceLeDiff, Nat.reduceBEq, fl42_2, sz36, el36, taskC]
          (repeat (refine ⟨by first | omega | (simp; done) | assumption | (unfold maxLen; omega) | (simp [maxLen]; omega), ?_⟩)); refine hk _ ?_; clear hk; clear k
          refine awp_cond rfl (fun hb => ?_) (fun hb => ?_)
          · -- branch 23
            try simp only [decide_eq_true_eq, decide_eq_false_iff_not, Int.not_lt, Int.not_le, beq_iff_eq, bne_iff_ne, ne_eq, beq_eq_false_iff_ne, bne_eq_false_iff_eq, Bool.not_eq_true, Bool.not_eq_false, Bool.not_true, Bool.not_false, Bool.not_eq_false', Bool.not_eq_true', Decidable.not_not] at hb
            refine awp_skip ?_
            refine h17 _ ?_; clear h17; clear k17
            refine awp_seq fun k18 h18 => ?_
            refine awp_block ?_
            refine awp_le (le_keep [0, 6, 7, 8, 9, 12, 23]) ?_
            simp only [keepL_nil, keepL_cons, keepM_some, keepM_none, argSl, lkp_cons, lkp_nil, Nat.reduceEqDiff, ↓reduceIte, reduceCtorEq, Nat.zero_add, Nat.reduceAdd]
            refine awp_sr [76, 81] (by rw [hC]; rfl) fun k hk => ?_
            simp (maxSteps := 4000000) (disch := first | omega | (simp only [lens]; omega)) only [argSl, argA_nil, argA_cons, am, ↓amb, aml, mark_eq, lo, ← List.map_take, ← List.map_drop, ← List.map_append, ↓reduceIte, reduceCtorEq, Int.reduceBEq, Int.reduceBNe, Int.reduceToNat, Nat.reduceEqDiff, Nat.reduceAdd, Nat.reduceSub, Nat.reduceMul, Nat.reduceDiv, Nat.reduceMod, Nat.reduceLeDiff, Nat.reduceBEq, fl42_2, sz36, el36, sz4, taskC]
            (repeat (refine ⟨by first | omega | (simp; done) | assumption | (unfold maxLen; omega) | (simp [maxLen]; omega), ?_⟩)); refine hk _ ?_; clear hk; clear k
            refine awp_cond rfl (fun hb => ?_) (fun hb => ?_)
            · -- branch 24
              try simp only [decide_eq_true_eq, decide_eq_false_iff_not, Int.not_lt, Int.not_le, beq_iff_eq, bne_iff_ne, ne_eq, beq_eq_false_iff_ne, bne_eq_false_iff_eq, Bool.not_eq_true, Bool.not_eq_false, Bool.not_true, Bool.not_false, Bool.not_eq_false', Bool.not_eq_true', Decidable.not_not] at hb
              refine awp_le (le_keep []) ?_
              simp only [keepL_nil, keepL_cons, keepM_some, keepM_none, argSl, lkp_cons, lkp_nil, Nat.reduceEqDiff, ↓reduceIte, reduceCtorEq, Nat.zero_add, Nat.reduceAdd]
              refine awp_sr [76, 81] (by rw [hC]; rfl) fun k hk => ?_
              simp (maxSteps := 4000000) (disch := first | omega | (simp only [lens]; omega)) only [argSl, argA_nil, argA_cons, am, ↓amb, aml, mark_eq, lo, ← List.map_take, ← List.map_drop, ← List.map_append, ↓reduceIte, reduceCtorEq, Int.reduceBEq, Int.reduceBNe, Int.reduceToNat, Nat.reduceEqDiff, Nat.reduceAdd, Nat.reduceSub, Nat.reduceMul, Nat.reduceDiv, Nat.reduceMod, Nat.reduceLeDiff, Nat.reduceBEq, taskC]
              (repeat (refine ⟨by first | omega | (simp; done) | assumption | (unfold maxLen; omega) | (simp [maxLen]; omega), ?_⟩)); refine hk _ ?_; clear hk; clear k
              refine awp_ret ?_
              exact absurd (f3 x (by omega)) (by rw [show w.done.getD x false = w.done.getD x default from rfl, hb]; decide)
            · -- branch 25
              try simp only [decide_eq_true_eq, decide_eq_false_iff_not, Int.not_lt, Int.not_le, beq_iff_eq, bne_iff_ne, ne_eq, beq_eq_false_iff_ne, bne_eq_false_iff_eq, Bool.not_eq_true, Bool.not_eq_false, Bool.not_true, Bool.not_false, Bool.not_eq_false', Bool.not_eq_true', Decidable.not_not] at hb
              refine awp_skip ?_
              refine h18 _ ?_; clear h18; clear k18
              refine awp_region [76, 81] (by rw [hC]; rfl) fun k hk => ?_
              simp (maxSteps := 4000000) (disch := first | omega | (simp only [lens]; omega)) only [argSl, argA_nil, argA_cons, am, ↓amb, aml, mark_eq, lo, ← List.map_take, ← List.map_drop, ← List.map_append, ↓reduceIte, reduceCtorEq, Int.reduceBEq, Int.reduceBNe, Int.reduceToNat, Nat.reduceEqDiff, Nat.reduceAdd, Nat.reduceSub, Nat.reduceMul, Nat.reduceDiv, Nat.reduceMod, Nat.reduceLeDiff, Nat.reduceBEq, taskC]
              (repeat (refine ⟨by first | omega | (simp; done) | assumption | (unfold maxLen; omega) | (simp [maxLen]; omega), ?_⟩)); refine hk _ ?_; clear hk; clear k
              refine ⟨x + 1, by omega, le_of [(0, _)] (by rfl) (by rfl) ⟨⟨_, rfl, .p (.of_eq (by first | rfl | (simp only [PV.lit.injEq, Value.int.injEq, true_and]; omega) | (simp; done) | (simp; omega)))⟩, ⟨_, rfl, .p (.of_eq (by first | rfl | (simp only [PV.lit.injEq, Value.int.injEq, true_and]; omega) | (simp; done) | (simp; omega)))⟩, ⟨_, rfl, .ptr rfl⟩, ⟨_, rfl, .p (.of_eq (by first | rfl | (simp only [PV.lit.injEq, Value.int.injEq, true_and]; omega) | (simp; done) | (simp; omega)))⟩, ⟨_, rfl, .p (.of_eq (by first | rfl | (simp only [PV.lit.injEq, Value.int.injEq, true_and]; omega) | (simp; done) | (simp; omega)))⟩, trivial⟩ ⟨⟨_, rfl, _, rfl, .one (.cons (.p (.refl _)) (.cons (.p (.refl _)) (.cons (.p (.refl _)) .nil)))⟩, trivial⟩, by omega⟩
          · -- branch 26
            try simp only [decide_eq_true_eq, decide_eq_false_iff_not, Int.not_lt, Int.not_le, beq_iff_eq, bne_iff_ne, ne_eq, beq_eq_false_iff_ne, bne_eq_false_iff_eq, Bool.not_eq_true, Bool.not_eq_false, Bool.not_true, Bool.not_false, Bool.not_eq_false', Bool.not_eq_true', Decidable.not_not] at hb
            refine awp_exit ((if_pos rfl).mpr ?_)
            refine h15 _ ?_; clear h17; clear k17; clear h15; clear k15
            refine awp_seq fun k19 h19 => ?_
            refine awp_le (le_keep [6, 7, 8, 9, 12]) ?_
            simp only [keepL_nil, keepL_cons, keepM_some, keepM_none, argSl, lkp_cons, lkp_nil, Nat.reduceEqDiff, ↓reduceIte, reduceCtorEq, Nat.zero_add, Nat.reduceAdd]
            refine awp_sr [76, 81] (by rw [hC]; rfl) fun k hk => ?_
            simp (maxSteps := 4000000) (disch := first | omega | (simp only [lens]; omega)) only [argSl, argA_nil, argA_cons, am, ↓amb, aml, mark_eq, lo, ← List.map_take, ← List.map_drop, ← List.map_append, ↓reduceIte, reduceCtorEq, Int.reduceBEq, Int.reduceBNe, Int.reduceToNat, Nat.reduceEqDiff, Nat.reduceAdd, Nat.reduceSub, Nat.reduceMul, Nat.reduceDiv, Nat.reduceMod, Nat.reduceLeDiff, Nat.reduceBEq, taskC]
            (repeat (refine ⟨by first | omega | (simp; done) | assumption | (unfold maxLen; omega) | (simp [maxLen]; omega), ?_⟩)); refine hk _ ?_; clear hk; clear k
            refine awp_block ?_
            refine awp_loop (σ := Nat) (fun x => x ≤ w.ts.length) (fun (x : Nat) => ⟨[(7, (.p (iV (1 + n % 120)))), (8, (.p (iV (1 + g % 20)))), (9, (.ptr 0 3 0 0)), (12, (.p (iV un))), (24, (.p (iV (x : Int))))], [(0, (.row 3 [[.p (.seq false (w.ts.map taskC)), .p (iV w.grain), .p (.seq false (w.done.map fun b => [bV b]))]]))], 1⟩) (fun x => w.ts.length - x) 0 ?_ ?_ fun x hx => ?_
            · exact Nat.zero_le _
            · exact le_of [(0, _)] (by rfl) (by rfl) ⟨⟨_, rfl, .p (.of_eq (by first | rfl | (simp only [PV.lit.injEq, Value.int.injEq, true_and]; omega) | (simp; done) | (simp; omega)))⟩, ⟨_, rfl, .p (.of_eq (by first | rfl | (simp only [PV.lit.injEq, Value.int.injEq, true_and]; omega) | (simp; done) | (simp; omega)))⟩, ⟨_, rfl, .ptr rfl⟩, ⟨_, rfl, .p (.of_eq (by first | rfl | (simp only [PV.lit.injEq, Value.int.injEq, true_and]; omega) | (simp; done) | (simp; omega)))⟩, ⟨_, rfl, .p (.of_eq (by first | rfl | (simp only [PV.lit.injEq, Value.int.injEq, true_and]; omega) | (simp; done) | (simp; omega)))⟩, trivial⟩ ⟨⟨_, rfl, _, rfl, .one (.cons (.p (.refl _)) (.cons (.p (.refl _)) (.cons (.p (.refl _)) .nil)))⟩, trivial⟩
            refine awp_seq fun k21 h21 => ?_
            refine awp_le (le_keep [0, 6, 7, 8, 9, 12, 24]) ?_
            simp only [keepL_nil, keepL_cons, keepM_some, keepM_none, argSl, lkp_cons, lkp_nil, Nat.reduceEqDiff, ↓reduceIte, reduceCtorEq, Nat.zero_add, Nat.reduceAdd]
            refine awp_sr [76, 81] (by rw [hC]; rfl) fun k hk => ?_
            simp (maxSteps := 4000000) (disch := first | omega | (simp only [lens]; omega)) only [argSl, argA_nil, argA_cons, am, ↓amb, aml, mark_eq, lo, ← List.map_take, ← List.map_drop, ← List.map_append, ↓reduceIte, reduceCtorEq, Int.reduceBEq, Int.reduceBNe, Int.reduceToNat, Nat.reduceEqDiff, Nat.reduceAdd, Nat.reduceSub, Nat.reduceMul, Nat.reduceDiv, Nat.reduceMod, Nat.reduceLeDiff, Nat.reduceBEq, fl42_0, sz40, el40, taskC]
            (repeat (refine ⟨by first | omega | (simp; done) | assumption | (unfold maxLen; omega) | (simp [maxLen]; omega), ?_⟩)); refine hk _ ?_; clear hk; clear k
            refine awp_cond rfl (fun hb => ?_) (fun hb => ?_)
            · -- branch 27
              try simp only [decide_eq_true_eq, decide_eq_false_iff_not, Int.not_lt, Int.not_le, beq_iff_eq, bne_iff_ne, ne_eq, beq_eq_false_iff_ne, bne_eq_false_iff_eq, Bool.not_eq_true, Bool.not_eq_false, Bool.not_true, Bool.not_false, Bool.not_eq_false', Bool.not_eq_true', Decidable.not_not] at hb
              refine awp_skip ?_
              refine h21 _ ?_; clear h21; clear k21
              refine awp_seq fun k22 h22 => ?_
              refine awp_block ?_
              refine awp_le (le_keep [0, 6, 7, 8, 9, 12, 24]) ?_
              simp only [keepL_nil, keepL_cons, keepM_some, keepM_none, argSl, lkp_cons, lkp_nil, Nat.reduceEqDiff, ↓reduceIte, reduceCtorEq, Nat.zero_add, Nat.reduceAdd]
              refine awp_sr [76, 81] (by rw [hC]; rfl) fun k hk => ?_
              simp (maxSteps := 4000000) (disch := first | omega | (simp only [lens]; omega)) only [argSl, argA_nil, argA_cons, am, ↓amb, aml, mark_eq, lo, ← List.map_take, ← List.map_drop, ← List.map_append, ↓reduceIte, reduceCtorEq, Int.reduceBEq, Int.reduceBNe, Int.reduceToNat, Nat.reduceEqDiff, Nat.reduceAdd, Nat.reduceSub, Nat.reduceMul, Nat.reduceDiv, Nat.reduceMod, Nat.reduceLeDiff, Nat.reduceBEq, fl42_0, sz40, el40, sz60, fl60_3, sz3, taskC]
              (repeat (refine ⟨by first | omega | (simp; done) | assumption | (unfold maxLen; omega) | (simp [maxLen]; omega), ?_⟩)); refine hk _ ?_; clear hk; clear k
              refine awp_cond rfl (fun hb => ?_) (fun hb => ?_)
              · -- branch 28
                try simp only [decide_eq_true_eq, decide_eq_false_iff_not, Int.not_lt, Int.not_le, beq_iff_eq, bne_iff_ne, ne_eq, beq_eq_false_iff_ne, bne_eq_false_iff_eq, Bool.not_eq_true, Bool.not_eq_false, Bool.not_true, Bool.not_false, Bool.not_eq_false', Bool.not_eq_true', Decidable.not_not] at hb
                refine awp_le (le_keep []) ?_
                simp only [keepL_nil, keepL_cons, keepM_some, keepM_none, argSl, lkp_cons, lkp_nil, Nat.reduceEqDiff, ↓reduceIte, reduceCtorEq, Nat.zero_add, Nat.reduceAdd]
                refine awp_sr [76, 81] (by rw [hC]; rfl) fun k hk => ?_
                simp (maxSteps := 4000000) (disch := first | omega | (simp only [lens]; omega)) only [argSl, argA_nil, argA_cons, am, ↓amb, aml, mark_eq, lo, ← List.map_take, ← List.map_drop, ← List.map_append, ↓reduceIte, reduceCtorEq, Int.reduceBEq, Int.reduceBNe, Int.reduceToNat, Nat.reduceEqDiff, Nat.reduceAdd, Nat.reduceSub, Nat.reduceMul, Nat.reduceDiv, Nat.reduceMod, Nat.reduceLeDiff, Nat.reduceBEq, taskC]
                (repeat (refine ⟨by first | omega | (simp; done) | assumption | (unfold maxLen; omega) | (simp [maxLen]; omega), ?_⟩)); refine hk _ ?_; clear hk; clear k
                refine awp_ret ?_
                exact absurd (f4 x (by omega)) hb
              · -- branch 29
                try simp only [decide_eq_true_eq, decide_eq_false_iff_not, Int.not_lt, Int.not_le, beq_iff_eq, bne_iff_ne, ne_eq, beq_eq_false_iff_ne, bne_eq_false_iff_eq, Bool.not_eq_true, Bool.not_eq_false, Bool.not_true, Bool.not_false, Bool.not_eq_false', Bool.not_eq_true', Decidable.not_not] at hb
                refine awp_skip ?_
                refine h22 _ ?_; clear h22; clear k22
                refine awp_region [76, 81] (by rw [hC]; rfl) fun k hk => ?_
                simp (maxSteps := 4000000) (disch := first | omega | (simp only [lens]; omega)) only [argSl, argA_nil, argA_cons, am, ↓amb, aml, mark_eq, lo, ← List.map_take, ← List.map_drop, ← List.map_append, ↓reduceIte, reduceCtorEq, Int.reduceBEq, Int.reduceBNe, Int.reduceToNat, Nat.reduceEqDiff, Nat.reduceAdd, Nat.reduceSub, Nat.reduceMul, Nat.reduceDiv, Nat.reduceMod, Nat.reduceLeDiff, Nat.reduceBEq, taskC]
                (repeat (refine ⟨by first | omega | (simp; done) | assumption | (unfold maxLen; omega) | (simp [maxLen]; omega), ?_⟩)); refine hk _ ?_; clear hk; clear k
                refine ⟨x + 1, by omega, le_of [(0, _)] (by rfl) (by rfl) ⟨⟨_, rfl, .p (.of_eq (by first | rfl | (simp only [PV.lit.injEq, Value.int.injEq, true_and]; omega) | (simp; done) | (simp; omega)))⟩, ⟨_, rfl, .p (.of_eq (by first | rfl | (simp only [PV.lit.injEq, Value.int.injEq, true_and]; omega) | (simp; done) | (simp; omega)))⟩, ⟨_, rfl, .ptr rfl⟩, ⟨_, rfl, .p (.of_eq (by first | rfl | (simp only [PV.lit.injEq, Value.int.injEq, true_and]; omega) | (simp; done) | (simp; omega)))⟩, ⟨_, rfl, .p (.of_eq (by first | rfl | (simp only [PV.lit.injEq, Value.int.injEq, true_and]; omega) | (simp; done) | (simp; omega)))⟩, trivial⟩ ⟨⟨_, rfl, _, rfl, .one (.cons (.p (.refl _)) (.cons (.p (.refl _)) (.cons (.p (.refl _)) .nil)))⟩, trivial⟩, by omega⟩
            · -- branch 30
              try simp only [decide_eq_true_eq, decide_eq_false_iff_not, Int.not_lt, Int.not_le, beq_iff_eq, bne_iff_ne, ne_eq, beq_eq_false_iff_ne, bne_eq_false_iff_eq, Bool.not_eq_true, Bool.not_eq_false, Bool.not_true, Bool.not_false, Bool.not_eq_false', Bool.not_eq_true', Decidable.not_not] at hb
              refine awp_exit ((if_pos rfl).mpr ?_)
              refine h19 _ ?_; clear h21; clear k21; clear h19; clear k19
              refine awp_le (le_keep [7, 8, 9, 12]) ?_
              simp only [keepL_nil, keepL_cons, keepM_some, keepM_none, argSl, lkp_cons, lkp_nil, Nat.reduceEqDiff, ↓reduceIte, reduceCtorEq, Nat.zero_add, Nat.reduceAdd]
              refine awp_sr [76, 81] (by rw [hC]; rfl) fun k hk => ?_
              simp (maxSteps := 4000000) (disch := first | omega | (simp only [lens]; omega)) only [argSl, argA_nil, argA_cons, am, ↓amb, aml, mark_eq, lo, ← List.map_take, ← List.map_drop, ← List.map_append, ↓reduceIte, reduceCtorEq, Int.reduceBEq, Int.reduceBNe, Int.reduceToNat, Nat.reduceEqDiff, Nat.reduceAdd, Nat.reduceSub, Nat.reduceMul, Nat.reduceDiv, Nat.reduceMod, Nat.reduceLeDiff, Nat.reduceBEq, en34, taskC]
              (repeat (refine ⟨by first | omega | (simp; done) | assumption | (unfold maxLen; omega) | (simp [maxLen]; omega), ?_⟩))
              refine callK_p (c34 _ _) rfl ?_
              simp (maxSteps := 4000000) (disch := first | omega | (simp only [lens]; omega)) only [argSl, argA_nil, argA_cons, am, ↓amb, aml, mark_eq, lo, ← List.map_take, ← List.map_drop, ← List.map_append, ↓reduceIte, reduceCtorEq, Int.reduceBEq, Int.reduceBNe, Int.reduceToNat, Nat.reduceEqDiff, Nat.reduceAdd, Nat.reduceSub, Nat.reduceMul, Nat.reduceDiv, Nat.reduceMod, Nat.reduceLeDiff, Nat.reduceBEq, en34, taskC]
              (repeat (refine ⟨by first | omega | (simp; done) | assumption | (unfold maxLen; omega) | (simp [maxLen]; omega), ?_⟩)); refine hk _ ?_; clear hk; clear k
              refine awp_test [76, 81] 6 (decide (True)) [] (by rw [hC]; rfl) (fun gd hgd k hk => ?_) ?_
              · have g3 : gd 3 = some 176 := by rw [hgd]; rfl
                have g10 : gd 10 = some 183 := by rw [hgd]; rfl
                clear hgd
                simp (maxSteps := 4000000) (disch := first | omega | (simp only [lens]; omega)) only [argSl, argA_nil, argA_cons, am, ↓amb, aml, mark_eq, lo, ← List.map_take, ← List.map_drop, ← List.map_append, ↓reduceIte, reduceCtorEq, Int.reduceBEq, Int.reduceBNe, Int.reduceToNat, Nat.reduceEqDiff, Nat.reduceAdd, Nat.reduceSub, Nat.reduceMul, Nat.reduceDiv, Nat.reduceMod, Nat.reduceLeDiff, Nat.reduceBEq, fl42_0, sz40, el40, gcase_undef, g3, g10, taskC]
                repeat' first | refine hk _ _ rfl rfl rfl rfl ?_ | (refine gsplit (fun hg => ?_) (fun hg => ?_) <;> (try simp only [decide_eq_true_eq, decide_eq_false_iff_not, Int.not_lt, Int.not_le, beq_iff_eq, bne_iff_ne, ne_eq, beq_eq_false_iff_ne, bne_eq_false_iff_eq, Bool.not_eq_true, Bool.not_eq_false, Bool.not_true, Bool.not_false, Bool.not_eq_false', Bool.not_eq_true', Decidable.not_not] at hg) <;> simp (maxSteps := 4000000) (disch := first | omega | (simp only [lens]; omega)) only [argSl, argA_nil, argA_cons, am, ↓amb, aml, mark_eq, lo, ← List.map_take, ← List.map_drop, ← List.map_append, ↓reduceIte, reduceCtorEq, Int.reduceBEq, Int.reduceBNe, Int.reduceToNat, Nat.reduceEqDiff, Nat.reduceAdd, Nat.reduceSub, Nat.reduceMul, Nat.reduceDiv, Nat.reduceMod, Nat.reduceLeDiff, Nat.reduceBEq, fl42_0, sz40, el40, gcase_undef, g3, g10, taskC]) | apply And.intro | fail
                all_goals first | rfl | omega | exact (decide_eq_true (by omega)).symm | exact (decide_eq_false (by omega)).symm | exact decide_eq_decide.mpr (by omega) | (refine Bool.eq_iff_iff.mpr ?_; simp only [beq_iff_eq, bne_iff_ne, ne_eq, decide_eq_true_eq]; omega) | assumption | (simp; done) | (simp [maxLen]; omega) | skip
              simp only [keepL_nil, keepL_cons, keepM_some, keepM_none, argSl, argA_nil, argA_cons, lkp_cons, lkp_nil, Nat.reduceEqDiff, ↓reduceIte, reduceCtorEq, Nat.zero_add, Nat.reduceAdd, List.length_cons, List.length_nil]
              refine awp_ret ?_
              refine ret1 rfl rfl ?_
              exact .p (LeP.refl _)
end Go.Proofs.Ytbdliooaiincdaa
