/-
  Lists put together.
-/
import Derived.Test.YtbehekmnccoifaaQ2
set_option linter.unusedSimpArgs false
set_option linter.unusedVariables false
set_option maxRecDepth 100000
namespace Go.Proofs.Ytbehekmnccoifaa
open Go.Am Go.Proofs
theorem el99 : tEl Try.prog 99 = some 22 := by kernel_rfl
theorem en58 : enters Try.prog 58 = true := by kernel_rfl
theorem it3 : tInt Try.prog 3 = some .i64 := by kernel_rfl
theorem sz22 : tSz Try.prog 22 = some (false, 1) := by kernel_rfl
set_option maxHeartbeats 4000000 in
theorem c_slices_Grow_uint32_uint32 (n : Nat) (hn : n ≤ 1000000) : OCall Try.prog 58 [words true [], iV n] 1 [] := by
  refine ocall_of_awp Try.func58 rfl (by simp [Try.ntmps58]) fun C hC => ?_
  refine awp_sr [22, 25] (by rw [hC]; rfl) fun k hk => ?_
  simp (maxSteps := 4000000) (disch := first | omega | (simp only [lens]; omega)) only [argSl, sm, ↓amb, mark_eq, ↓reduceIte, reduceCtorEq, Int.reduceBEq, Int.reduceBNe, Int.reduceToNat, Nat.reduceEqDiff, Nat.reduceAdd, Nat.reduceSub, Nat.reduceMul, Nat.reduceDiv, Nat.reduceMod, Nat.reduceLeDiff, Nat.reduceBEq, dx]
  (repeat (refine ⟨by first | omega | (simp; done) | assumption | (unfold maxLen; omega) | (simp [maxLen]; omega), ?_⟩)); refine hk _ ?_; clear hk; clear k
  refine awp_seq fun k1 h1 => ?_
  refine awp_sr [22, 25] (by rw [hC]; rfl) fun k hk => ?_
  simp (maxSteps := 4000000) (disch := first | omega | (simp only [lens]; omega)) only [argSl, sm, ↓amb, mark_eq, ↓reduceIte, reduceCtorEq, Int.reduceBEq, Int.reduceBNe, Int.reduceToNat, Nat.reduceEqDiff, Nat.reduceAdd, Nat.reduceSub, Nat.reduceMul, Nat.reduceDiv, Nat.reduceMod, Nat.reduceLeDiff, Nat.reduceBEq, dx]
  (repeat (refine ⟨by first | omega | (simp; done) | assumption | (unfold maxLen; omega) | (simp [maxLen]; omega), ?_⟩)); refine hk _ ?_; clear hk; clear k
  refine awp_cond rfl (fun hb => ?_) (fun hb => ?_)
  · -- branch 1
    try simp only [hbx] at hb
    exfalso; omega
  · -- branch 2
    try simp only [hbx] at hb
    refine awp_skip ?_
    refine h1 _ ?_; clear h1; clear k1
    refine awp_seq fun k2 h2 => ?_
    refine awp_sr [22, 25] (by rw [hC]; rfl) fun k hk => ?_
    simp (maxSteps := 4000000) (disch := first | omega | (simp only [lens]; omega)) only [argSl, sm, ↓amb, mark_eq, ↓reduceIte, reduceCtorEq, Int.reduceBEq, Int.reduceBNe, Int.reduceToNat, Nat.reduceEqDiff, Nat.reduceAdd, Nat.reduceSub, Nat.reduceMul, Nat.reduceDiv, Nat.reduceMod, Nat.reduceLeDiff, Nat.reduceBEq, el22, dx]
    (repeat (refine ⟨by first | omega | (simp; done) | assumption | (unfold maxLen; omega) | (simp [maxLen]; omega), ?_⟩)); refine hk _ ?_; clear hk; clear k
    refine awp_sr [22, 25] (by rw [hC]; rfl) fun k hk => ?_
    simp (maxSteps := 4000000) (disch := first | omega | (simp only [lens]; omega)) only [argSl, sm, ↓amb, mark_eq, ↓reduceIte, reduceCtorEq, Int.reduceBEq, Int.reduceBNe, Int.reduceToNat, Nat.reduceEqDiff, Nat.reduceAdd, Nat.reduceSub, Nat.reduceMul, Nat.reduceDiv, Nat.reduceMod, Nat.reduceLeDiff, Nat.reduceBEq, dx]
    (repeat (refine ⟨by first | omega | (simp; done) | assumption | (unfold maxLen; omega) | (simp [maxLen]; omega), ?_⟩)); refine hk _ ?_; clear hk; clear k
    refine awp_cond rfl (fun hb => ?_) (fun hb => ?_)
    · -- branch 3
      try simp only [hbx] at hb
      refine awp_region [22, 25] (by rw [hC]; rfl) fun k hk => ?_
      simp (maxSteps := 4000000) (disch := first | omega | (simp only [lens]; omega)) only [argSl, sm, ↓amb, mark_eq, ↓reduceIte, reduceCtorEq, Int.reduceBEq, Int.reduceBNe, Int.reduceToNat, Nat.reduceEqDiff, Nat.reduceAdd, Nat.reduceSub, Nat.reduceMul, Nat.reduceDiv, Nat.reduceMod, Nat.reduceLeDiff, Nat.reduceBEq, el22, sz41, vr41, by41, it3, dx]
      (repeat (refine ⟨by first | omega | (simp; done) | assumption | (unfold maxLen; omega) | (simp [maxLen]; omega), ?_⟩)); refine hk _ ?_; clear hk; clear k
      refine h2 _ ?_; clear h2; clear k2
      refine awp_sr [22, 25] (by rw [hC]; rfl) fun k hk => ?_
      simp (maxSteps := 4000000) (disch := first | omega | (simp only [lens]; omega)) only [argSl, sm, ↓amb, mark_eq, ↓reduceIte, reduceCtorEq, Int.reduceBEq, Int.reduceBNe, Int.reduceToNat, Nat.reduceEqDiff, Nat.reduceAdd, Nat.reduceSub, Nat.reduceMul, Nat.reduceDiv, Nat.reduceMod, Nat.reduceLeDiff, Nat.reduceBEq, dx]
      (repeat (refine ⟨by first | omega | (simp; done) | assumption | (unfold maxLen; omega) | (simp [maxLen]; omega), ?_⟩)); refine hk _ ?_; clear hk; clear k
      refine awp_ret ?_
      refine reto1 rfl rfl ?_
      rfl
    · -- branch 4
      try simp only [hbx] at hb
      refine awp_skip ?_
      refine h2 _ ?_; clear h2; clear k2
      refine awp_own' 0 1 rfl ?_
      refine awp_sr [22, 25] (by rw [hC]; rfl) fun k hk => ?_
      simp (maxSteps := 4000000) (disch := first | omega | (simp only [lens]; omega)) only [argSl, sm, ↓amb, mark_eq, ↓reduceIte, reduceCtorEq, Int.reduceBEq, Int.reduceBNe, Int.reduceToNat, Nat.reduceEqDiff, Nat.reduceAdd, Nat.reduceSub, Nat.reduceMul, Nat.reduceDiv, Nat.reduceMod, Nat.reduceLeDiff, Nat.reduceBEq, dx]
      (repeat (refine ⟨by first | omega | (simp; done) | assumption | (unfold maxLen; omega) | (simp [maxLen]; omega), ?_⟩)); refine hk _ ?_; clear hk; clear k
      refine awp_ret ?_
      refine reto1 rfl rfl ?_
      rfl
set_option maxHeartbeats 4000000 in
theorem c_slices_Concat_uint32_uint32 (c : Bool) (ls : List (Bool × List Int)) (hl : ls.length ≤ 1000000) (ht : tot ls ≤ 1000000) : PCall Try.prog 40 [.seq c (ls.map fun q => [words q.1 q.2])] (words false (cat ls)) := by
  refine pcall_of_awp Try.func40 rfl (by simp [Try.ntmps40]) fun C hC => ?_
  refine awp_sr [33] (by rw [hC]; rfl) fun k hk => ?_
  simp (maxSteps := 4000000) (disch := first | omega | (simp only [lens]; omega)) only [argSl, sm, ↓amb, mark_eq, ↓reduceIte, reduceCtorEq, Int.reduceBEq, Int.reduceBNe, Int.reduceToNat, Nat.reduceEqDiff, Nat.reduceAdd, Nat.reduceSub, Nat.reduceMul, Nat.reduceDiv, Nat.reduceMod, Nat.reduceLeDiff, Nat.reduceBEq, dx]
  (repeat (refine ⟨by first | omega | (simp; done) | assumption | (unfold maxLen; omega) | (simp [maxLen]; omega), ?_⟩)); refine hk _ ?_; clear hk; clear k
  refine awp_sr [33] (by rw [hC]; rfl) fun k hk => ?_
  simp (maxSteps := 4000000) (disch := first | omega | (simp only [lens]; omega)) only [argSl, sm, ↓amb, mark_eq, ↓reduceIte, reduceCtorEq, Int.reduceBEq, Int.reduceBNe, Int.reduceToNat, Nat.reduceEqDiff, Nat.reduceAdd, Nat.reduceSub, Nat.reduceMul, Nat.reduceDiv, Nat.reduceMod, Nat.reduceLeDiff, Nat.reduceBEq, dx]
  (repeat (refine ⟨by first | omega | (simp; done) | assumption | (unfold maxLen; omega) | (simp [maxLen]; omega), ?_⟩)); refine hk _ ?_; clear hk; clear k
  refine awp_seq fun k1 h1 => ?_
  refine awp_sr [33] (by rw [hC]; rfl) fun k hk => ?_
  simp (maxSteps := 4000000) (disch := first | omega | (simp only [lens]; omega)) only [argSl, sm, ↓amb, mark_eq, ↓reduceIte, reduceCtorEq, Int.reduceBEq, Int.reduceBNe, Int.reduceToNat, Nat.reduceEqDiff, Nat.reduceAdd, Nat.reduceSub, Nat.reduceMul, Nat.reduceDiv, Nat.reduceMod, Nat.reduceLeDiff, Nat.reduceBEq, el99, dx]
  (repeat (refine ⟨by first | omega | (simp; done) | assumption | (unfold maxLen; omega) | (simp [maxLen]; omega), ?_⟩)); refine hk _ ?_; clear hk; clear k
  refine awp_block ?_
  refine awp_loop (σ := Nat) (fun i => i ≤ ls.length) (fun (i : Nat) => ⟨[(9, (.p (.seq c (ls.map fun q => [words q.1 q.2])))), (10, (.p (iV ls.length))), (11, (.p (iV i))), (3, (.p (iV (tot (ls.take i))))), (0, (.p (.seq c (ls.map fun q => [words q.1 q.2]))))], [], 1⟩) (fun i => ls.length - i) 0 ?_ ?_ fun i hi => ?_
  · exact Nat.zero_le _
  · exact le_of [] (by rfl) (by rfl) ⟨⟨_, rfl, .p (.of_eq (by first | rfl | (simp only [PV.lit.injEq, Value.int.injEq, true_and]; omega) | (simp; done) | (simp; omega)))⟩, ⟨_, rfl, .p (.of_eq (by first | rfl | (simp only [PV.lit.injEq, Value.int.injEq, true_and]; omega) | (simp; done) | (simp; omega)))⟩, ⟨_, rfl, .p (.of_eq (by first | rfl | (simp only [PV.lit.injEq, Value.int.injEq, true_and]; omega) | (simp; done) | (simp; omega)))⟩, ⟨_, rfl, .p (.of_eq (by first | rfl | (simp only [PV.lit.injEq, Value.int.injEq, true_and]; omega) | (simp; done) | (simp; omega)))⟩, ⟨_, rfl, .p (.of_eq (by first | rfl | (simp only [PV.lit.injEq, Value.int.injEq, true_and]; omega) | (simp; done) | (simp; omega)))⟩, trivial⟩ trivial
  have ht1 := tot_take ls i
  have ht2 := tot_succ ls i
  have ht3 := tot_take ls (i + 1)
  have ht4 := cat_length (ls.take i)
  refine awp_sr [33] (by rw [hC]; rfl) fun k hk => ?_
  simp (maxSteps := 4000000) (disch := first | omega | (simp only [lens]; omega)) only [argSl, sm, ↓amb, mark_eq, ↓reduceIte, reduceCtorEq, Int.reduceBEq, Int.reduceBNe, Int.reduceToNat, Nat.reduceEqDiff, Nat.reduceAdd, Nat.reduceSub, Nat.reduceMul, Nat.reduceDiv, Nat.reduceMod, Nat.reduceLeDiff, Nat.reduceBEq, dx]
  (repeat (refine ⟨by first | omega | (simp; done) | assumption | (unfold maxLen; omega) | (simp [maxLen]; omega), ?_⟩)); refine hk _ ?_; clear hk; clear k
  refine awp_seq fun k3 h3 => ?_
  refine awp_cond rfl (fun hb => ?_) (fun hb => ?_)
  · -- branch 1
    try simp only [hbx] at hb
    refine awp_skip ?_
    refine h3 _ ?_; clear h3; clear k3
    refine awp_seq fun k4 h4 => ?_
    refine awp_block ?_
    refine awp_sr [33] (by rw [hC]; rfl) fun k hk => ?_
    simp (maxSteps := 4000000) (disch := first | omega | (simp only [lens]; omega)) only [argSl, sm, ↓amb, mark_eq, ↓reduceIte, reduceCtorEq, Int.reduceBEq, Int.reduceBNe, Int.reduceToNat, Nat.reduceEqDiff, Nat.reduceAdd, Nat.reduceSub, Nat.reduceMul, Nat.reduceDiv, Nat.reduceMod, Nat.reduceLeDiff, Nat.reduceBEq, el99, sz22, dx]
    (repeat (refine ⟨by first | omega | (simp; done) | assumption | (unfold maxLen; omega) | (simp [maxLen]; omega), ?_⟩)); refine hk _ ?_; clear hk; clear k
    refine awp_sr [33] (by rw [hC]; rfl) fun k hk => ?_
    simp (maxSteps := 4000000) (disch := first | omega | (simp only [lens]; omega)) only [argSl, sm, ↓amb, mark_eq, ↓reduceIte, reduceCtorEq, Int.reduceBEq, Int.reduceBNe, Int.reduceToNat, Nat.reduceEqDiff, Nat.reduceAdd, Nat.reduceSub, Nat.reduceMul, Nat.reduceDiv, Nat.reduceMod, Nat.reduceLeDiff, Nat.reduceBEq, el22, dx]
    (repeat (refine ⟨by first | omega | (simp; done) | assumption | (unfold maxLen; omega) | (simp [maxLen]; omega), ?_⟩)); refine hk _ ?_; clear hk; clear k
    refine awp_sr [33] (by rw [hC]; rfl) fun k hk => ?_
    simp (maxSteps := 4000000) (disch := first | omega | (simp only [lens]; omega)) only [argSl, sm, ↓amb, mark_eq, ↓reduceIte, reduceCtorEq, Int.reduceBEq, Int.reduceBNe, Int.reduceToNat, Nat.reduceEqDiff, Nat.reduceAdd, Nat.reduceSub, Nat.reduceMul, Nat.reduceDiv, Nat.reduceMod, Nat.reduceLeDiff, Nat.reduceBEq, dx]
    (repeat (refine ⟨by first | omega | (simp; done) | assumption | (unfold maxLen; omega) | (simp [maxLen]; omega), ?_⟩)); refine hk _ ?_; clear hk; clear k
    refine awp_cond rfl (fun hb => ?_) (fun hb => ?_)
    · -- branch 2
      try simp only [hbx] at hb
      exfalso; omega
    · -- branch 3
      try simp only [hbx] at hb
      refine awp_skip ?_
      refine h4 _ ?_; clear h4; clear k4
      refine awp_region [33] (by rw [hC]; rfl) fun k hk => ?_
      simp (maxSteps := 4000000) (disch := first | omega | (simp only [lens]; omega)) only [argSl, sm, ↓amb, mark_eq, ↓reduceIte, reduceCtorEq, Int.reduceBEq, Int.reduceBNe, Int.reduceToNat, Nat.reduceEqDiff, Nat.reduceAdd, Nat.reduceSub, Nat.reduceMul, Nat.reduceDiv, Nat.reduceMod, Nat.reduceLeDiff, Nat.reduceBEq, dx]
      (repeat (refine ⟨by first | omega | (simp; done) | assumption | (unfold maxLen; omega) | (simp [maxLen]; omega), ?_⟩)); refine hk _ ?_; clear hk; clear k
      refine ⟨i + 1, by omega, le_of [] (by rfl) (by rfl) ⟨⟨_, rfl, .p (.of_eq (by first | rfl | (simp only [PV.lit.injEq, Value.int.injEq, true_and]; omega) | (simp; done) | (simp; omega)))⟩, ⟨_, rfl, .p (.of_eq (by first | rfl | (simp only [PV.lit.injEq, Value.int.injEq, true_and]; omega) | (simp; done) | (simp; omega)))⟩, ⟨_, rfl, .p (.of_eq (by first | rfl | (simp only [PV.lit.injEq, Value.int.injEq, true_and]; omega) | (simp; done) | (simp; omega)))⟩, ⟨_, rfl, .p (.of_eq (by first | rfl | (simp only [PV.lit.injEq, Value.int.injEq, true_and]; omega) | (simp; done) | (simp; omega)))⟩, ⟨_, rfl, .p (.of_eq (by first | rfl | (simp only [PV.lit.injEq, Value.int.injEq, true_and]; omega) | (simp; done) | (simp; omega)))⟩, trivial⟩ trivial, by omega⟩
  · -- branch 4
    try simp only [hbx] at hb
    refine awp_exit ((if_pos rfl).mpr ?_)
    refine h1 _ ?_; clear h3; clear k3; clear h1; clear k1
    refine awp_sr [33] (by rw [hC]; rfl) fun k hk => ?_
    simp (maxSteps := 4000000) (disch := first | omega | (simp only [lens]; omega)) only [argSl, sm, ↓amb, mark_eq, ↓reduceIte, reduceCtorEq, Int.reduceBEq, Int.reduceBNe, Int.reduceToNat, Nat.reduceEqDiff, Nat.reduceAdd, Nat.reduceSub, Nat.reduceMul, Nat.reduceDiv, Nat.reduceMod, Nat.reduceLeDiff, Nat.reduceBEq, en58, dx]
    (repeat (refine ⟨by first | omega | (simp; done) | assumption | (unfold maxLen; omega) | (simp [maxLen]; omega), ?_⟩))
    refine callK_o (c_slices_Grow_uint32_uint32 (tot (ls.take i)) (by omega)) rfl ?_
    simp (maxSteps := 4000000) (disch := first | omega | (simp only [lens]; omega)) only [argSl, sm, ↓amb, mark_eq, ↓reduceIte, reduceCtorEq, Int.reduceBEq, Int.reduceBNe, Int.reduceToNat, Nat.reduceEqDiff, Nat.reduceAdd, Nat.reduceSub, Nat.reduceMul, Nat.reduceDiv, Nat.reduceMod, Nat.reduceLeDiff, Nat.reduceBEq, en58, dx]
    (repeat (refine ⟨by first | omega | (simp; done) | assumption | (unfold maxLen; omega) | (simp [maxLen]; omega), ?_⟩)); refine hk _ ?_; clear hk; clear k
    refine awp_seq fun k5 h5 => ?_
    refine awp_sr [33] (by rw [hC]; rfl) fun k hk => ?_
    simp (maxSteps := 4000000) (disch := first | omega | (simp only [lens]; omega)) only [argSl, sm, ↓amb, mark_eq, ↓reduceIte, reduceCtorEq, Int.reduceBEq, Int.reduceBNe, Int.reduceToNat, Nat.reduceEqDiff, Nat.reduceAdd, Nat.reduceSub, Nat.reduceMul, Nat.reduceDiv, Nat.reduceMod, Nat.reduceLeDiff, Nat.reduceBEq, el99, dx]
    (repeat (refine ⟨by first | omega | (simp; done) | assumption | (unfold maxLen; omega) | (simp [maxLen]; omega), ?_⟩)); refine hk _ ?_; clear hk; clear k
    refine awp_block ?_
    refine awp_loop (σ := Nat) (fun i => i ≤ ls.length) (fun (i : Nat) => ⟨[(25, (.p (.seq c (ls.map fun q => [words q.1 q.2])))), (26, (.p (iV ls.length))), (27, (.p (iV i))), (6, (.own 0))], [(0, (.row 1 (lift ((cat (ls.take i)).map fun x => [u32V x]))))], 1⟩) (fun i => ls.length - i) 0 ?_ ?_ fun i hi => ?_
    · exact Nat.zero_le _
    · exact le_of [(0, _)] (by rfl) (by rfl) ⟨⟨_, rfl, .p (.of_eq (by first | rfl | (simp only [PV.lit.injEq, Value.int.injEq, true_and]; omega) | (simp; done) | (simp; omega)))⟩, ⟨_, rfl, .p (.of_eq (by first | rfl | (simp only [PV.lit.injEq, Value.int.injEq, true_and]; omega) | (simp; done) | (simp; omega)))⟩, ⟨_, rfl, .p (.of_eq (by first | rfl | (simp only [PV.lit.injEq, Value.int.injEq, true_and]; omega) | (simp; done) | (simp; omega)))⟩, ⟨_, rfl, .own rfl⟩, trivial⟩ ⟨⟨_, rfl, _, rfl, .liftE (by first | rfl | rw [cat_succ _ _ (by omega)])⟩, trivial⟩
    have ht1 := tot_take ls i
    have ht2 := tot_succ ls i
    have ht3 := tot_take ls (i + 1)
    have ht4 := cat_length (ls.take i)
    refine awp_sr [33] (by rw [hC]; rfl) fun k hk => ?_
    simp (maxSteps := 4000000) (disch := first | omega | (simp only [lens]; omega)) only [argSl, sm, ↓amb, mark_eq, ↓reduceIte, reduceCtorEq, Int.reduceBEq, Int.reduceBNe, Int.reduceToNat, Nat.reduceEqDiff, Nat.reduceAdd, Nat.reduceSub, Nat.reduceMul, Nat.reduceDiv, Nat.reduceMod, Nat.reduceLeDiff, Nat.reduceBEq, dx]
    (repeat (refine ⟨by first | omega | (simp; done) | assumption | (unfold maxLen; omega) | (simp [maxLen]; omega), ?_⟩)); refine hk _ ?_; clear hk; clear k
    refine awp_seq fun k7 h7 => ?_
    refine awp_cond rfl (fun hb => ?_) (fun hb => ?_)
    · -- branch 5
      try simp only [hbx] at hb
      refine awp_skip ?_
      refine h7 _ ?_; clear h7; clear k7
      refine awp_seq fun k8 h8 => ?_
      refine awp_block ?_
      refine awp_sr [33] (by rw [hC]; rfl) fun k hk => ?_
      simp (maxSteps := 4000000) (disch := first | omega | (simp only [lens]; omega)) only [argSl, sm, ↓amb, mark_eq, ↓reduceIte, reduceCtorEq, Int.reduceBEq, Int.reduceBNe, Int.reduceToNat, Nat.reduceEqDiff, Nat.reduceAdd, Nat.reduceSub, Nat.reduceMul, Nat.reduceDiv, Nat.reduceMod, Nat.reduceLeDiff, Nat.reduceBEq, el99, sz22, dx]
      (repeat (refine ⟨by first | omega | (simp; done) | assumption | (unfold maxLen; omega) | (simp [maxLen]; omega), ?_⟩)); refine hk _ ?_; clear hk; clear k
      refine awp_region [33] (by rw [hC]; rfl) fun k hk => ?_
      simp (maxSteps := 4000000) (disch := first | omega | (simp only [lens]; omega)) only [argSl, sm, ↓amb, mark_eq, ↓reduceIte, reduceCtorEq, Int.reduceBEq, Int.reduceBNe, Int.reduceToNat, Nat.reduceEqDiff, Nat.reduceAdd, Nat.reduceSub, Nat.reduceMul, Nat.reduceDiv, Nat.reduceMod, Nat.reduceLeDiff, Nat.reduceBEq, el22, vr41, by41, dx]
      (repeat (refine ⟨by first | omega | (simp; done) | assumption | (unfold maxLen; omega) | (simp [maxLen]; omega), ?_⟩)); refine hk _ ?_; clear hk; clear k
      refine h8 _ ?_; clear h8; clear k8
      refine awp_region [33] (by rw [hC]; rfl) fun k hk => ?_
      simp (maxSteps := 4000000) (disch := first | omega | (simp only [lens]; omega)) only [argSl, sm, ↓amb, mark_eq, ↓reduceIte, reduceCtorEq, Int.reduceBEq, Int.reduceBNe, Int.reduceToNat, Nat.reduceEqDiff, Nat.reduceAdd, Nat.reduceSub, Nat.reduceMul, Nat.reduceDiv, Nat.reduceMod, Nat.reduceLeDiff, Nat.reduceBEq, dx]
      (repeat (refine ⟨by first | omega | (simp; done) | assumption | (unfold maxLen; omega) | (simp [maxLen]; omega), ?_⟩)); refine hk _ ?_; clear hk; clear k
      refine ⟨i + 1, by omega, le_of [(0, _)] (by rfl) (by rfl) ⟨⟨_, rfl, .p (.of_eq (by first | rfl | (simp only [PV.lit.injEq, Value.int.injEq, true_and]; omega) | (simp; done) | (simp; omega)))⟩, ⟨_, rfl, .p (.of_eq (by first | rfl | (simp only [PV.lit.injEq, Value.int.injEq, true_and]; omega) | (simp; done) | (simp; omega)))⟩, ⟨_, rfl, .p (.of_eq (by first | rfl | (simp only [PV.lit.injEq, Value.int.injEq, true_and]; omega) | (simp; done) | (simp; omega)))⟩, ⟨_, rfl, .own rfl⟩, trivial⟩ ⟨⟨_, rfl, _, rfl, .liftE (by first | rfl | rw [cat_succ _ _ (by omega)])⟩, trivial⟩, by omega⟩
    · -- branch 6
      try simp only [hbx] at hb
      refine awp_exit ((if_pos rfl).mpr ?_)
      refine h5 _ ?_; clear h7; clear k7; clear h5; clear k5
      refine awp_sr [33] (by rw [hC]; rfl) fun k hk => ?_
      simp (maxSteps := 4000000) (disch := first | omega | (simp only [lens]; omega)) only [argSl, sm, ↓amb, mark_eq, ↓reduceIte, reduceCtorEq, Int.reduceBEq, Int.reduceBNe, Int.reduceToNat, Nat.reduceEqDiff, Nat.reduceAdd, Nat.reduceSub, Nat.reduceMul, Nat.reduceDiv, Nat.reduceMod, Nat.reduceLeDiff, Nat.reduceBEq, dx]
      (repeat (refine ⟨by first | omega | (simp; done) | assumption | (unfold maxLen; omega) | (simp [maxLen]; omega), ?_⟩)); refine hk _ ?_; clear hk; clear k
      refine awp_ret ?_
      refine ret1 rfl rfl ?_
      exact .ownE rfl (by rw [List.take_of_length_le (by omega)])
end Go.Proofs.Ytbehekmnccoifaa
