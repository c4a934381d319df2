/-
  What is marked; what stands at places.
-/
import Derived.Test.YtbehekmnccoifaaS6
import Derived.Test.YtbehekmnccoifaaPG
set_option linter.unusedSimpArgs false
set_option linter.unusedVariables false
set_option maxRecDepth 100000
namespace Go.Proofs.Ytbehekmnccoifaa
open Go.Am Go.Proofs

set_option maxHeartbeats 4000000 in
theorem c_pack_marks (c : Bool) (fl : List Bool) (w : Bool) (hn : fl.length ≤ 1000000) : PCall Try.prog 37 [.seq c (fl.map fun q => [bV q]), bV w] (words false (Pl.marksL fl w)) := by
  refine pcall_of_awp Try.func37 rfl (by simp [Try.ntmps37]) fun C hC => ?_
  refine awp_le (le_keep [0, 1]) ?_
  simp only [kp, argSl, Nat.reduceEqDiff, ↓reduceIte, reduceCtorEq, Nat.reduceAdd]
  refine awp_sr [] (by rw [hC]; rfl) fun k hk => ?_
  simp (maxSteps := 4000000) (disch := first | omega | (simp only [lens]; omega)) only [argSl, sm, ↓amb, mark_eq, ↓reduceIte, reduceCtorEq, Int.reduceBEq, Int.reduceBNe, Int.reduceToNat, Nat.reduceEqDiff, Nat.reduceAdd, Nat.reduceSub, Nat.reduceMul, Nat.reduceDiv, Nat.reduceMod, Nat.reduceLeDiff, Nat.reduceBEq, dx]
  (repeat (refine ⟨by first | omega | (simp; done) | assumption | (unfold maxLen; omega) | (simp [maxLen]; omega), ?_⟩)); refine hk _ ?_; clear hk; clear k
  refine awp_le (le_keep [0, 1]) ?_
  simp only [kp, argSl, Nat.reduceEqDiff, ↓reduceIte, reduceCtorEq, Nat.reduceAdd]
  refine awp_sr [] (by rw [hC]; rfl) fun k hk => ?_
  simp (maxSteps := 4000000) (disch := first | omega | (simp only [lens]; omega)) only [argSl, sm, ↓amb, mark_eq, ↓reduceIte, reduceCtorEq, Int.reduceBEq, Int.reduceBNe, Int.reduceToNat, Nat.reduceEqDiff, Nat.reduceAdd, Nat.reduceSub, Nat.reduceMul, Nat.reduceDiv, Nat.reduceMod, Nat.reduceLeDiff, Nat.reduceBEq, el23, el22, by41, vr41, dx]
  (repeat (refine ⟨by first | omega | (simp; done) | assumption | (unfold maxLen; omega) | (simp [maxLen]; omega), ?_⟩)); refine hk _ ?_; clear hk; clear k
  refine awp_seq fun k1 h1 => ?_
  refine awp_le (le_keep [0, 1, 4, 5]) ?_
  simp only [kp, argSl, Nat.reduceEqDiff, ↓reduceIte, reduceCtorEq, Nat.reduceAdd]
  refine awp_sr [] (by rw [hC]; rfl) fun k hk => ?_
  simp (maxSteps := 4000000) (disch := first | omega | (simp only [lens]; omega)) only [argSl, sm, ↓amb, mark_eq, ↓reduceIte, reduceCtorEq, Int.reduceBEq, Int.reduceBNe, Int.reduceToNat, Nat.reduceEqDiff, Nat.reduceAdd, Nat.reduceSub, Nat.reduceMul, Nat.reduceDiv, Nat.reduceMod, Nat.reduceLeDiff, Nat.reduceBEq, el23, dx]
  (repeat (refine ⟨by first | omega | (simp; done) | assumption | (unfold maxLen; omega) | (simp [maxLen]; omega), ?_⟩)); refine hk _ ?_; clear hk; clear k
  refine awp_block ?_
  refine awp_loop (σ := Nat) (fun i => i ≤ fl.length) (fun (i : Nat) => ⟨[(1, (.p (bV w))), (5, (.own 0)), (11, (.p (.seq c (fl.map fun q => [bV q])))), (12, (.p (iV fl.length))), (13, (.p (iV (i : Int))))], [(0, (.row 1 (lift ((Pl.marksT fl w i).map fun x => [u32V x]))))], 1⟩) (fun i => fl.length - i) 0 ?_ ?_ fun i hi => ?_
  · exact Nat.zero_le _
  · exact le_of [(0, _)] (by rfl) (by rfl) ⟨⟨_, rfl, .p (.of_eq (by first | rfl | (simp only [PV.lit.injEq, Value.int.injEq, true_and]; omega) | (simp; done) | (simp; omega)))⟩, ⟨_, rfl, .own rfl⟩, ⟨_, rfl, .p (.of_eq (by first | rfl | (simp only [PV.lit.injEq, Value.int.injEq, true_and]; omega) | (simp; done) | (simp; omega)))⟩, ⟨_, rfl, .p (.of_eq (by first | rfl | (simp only [PV.lit.injEq, Value.int.injEq, true_and]; omega) | (simp; done) | (simp; omega)))⟩, ⟨_, rfl, .p (.of_eq (by first | rfl | (simp only [PV.lit.injEq, Value.int.injEq, true_and]; omega) | (simp; done) | (simp; omega)))⟩, trivial⟩ ⟨⟨_, rfl, _, rfl, .liftE (by first | (rw [Pl.marks_0, List.map_replicate]; done) | (rw [← Pl.marks_set (by simpa using hb), List.map_set]; first | done | rfl) | (rw [Pl.marks_keep (by simpa using hb)]; done) | trace_state)⟩, trivial⟩
  refine awp_le (le_keep [0, 1, 4, 5, 11, 12, 13]) ?_
  simp only [kp, argSl, Nat.reduceEqDiff, ↓reduceIte, reduceCtorEq, Nat.reduceAdd]
  refine awp_sr [] (by rw [hC]; rfl) fun k hk => ?_
  simp (maxSteps := 4000000) (disch := first | omega | (simp only [lens]; omega)) only [argSl, sm, ↓amb, mark_eq, ↓reduceIte, reduceCtorEq, Int.reduceBEq, Int.reduceBNe, Int.reduceToNat, Nat.reduceEqDiff, Nat.reduceAdd, Nat.reduceSub, Nat.reduceMul, Nat.reduceDiv, Nat.reduceMod, Nat.reduceLeDiff, Nat.reduceBEq, dx]
  (repeat (refine ⟨by first | omega | (simp; done) | assumption | (unfold maxLen; omega) | (simp [maxLen]; omega), ?_⟩)); refine hk _ ?_; clear hk; clear k
  refine awp_seq fun k3 h3 => ?_
  refine awp_cond rfl (fun hb => ?_) (fun hb => ?_)
  · -- branch 1
    try simp only [hbx] at hb
    refine awp_skip ?_
    refine h3 _ ?_; clear h3; clear k3
    refine awp_seq fun k4 h4 => ?_
    refine awp_block ?_
    refine awp_le (le_keep [0, 1, 4, 5, 11, 12, 13]) ?_
    simp only [kp, argSl, Nat.reduceEqDiff, ↓reduceIte, reduceCtorEq, Nat.reduceAdd]
    refine awp_sr [] (by rw [hC]; rfl) fun k hk => ?_
    simp (maxSteps := 4000000) (disch := first | omega | (simp only [lens]; omega)) only [argSl, sm, ↓amb, mark_eq, ↓reduceIte, reduceCtorEq, Int.reduceBEq, Int.reduceBNe, Int.reduceToNat, Nat.reduceEqDiff, Nat.reduceAdd, Nat.reduceSub, Nat.reduceMul, Nat.reduceDiv, Nat.reduceMod, Nat.reduceLeDiff, Nat.reduceBEq, el23, sz4, dx]
    (repeat (refine ⟨by first | omega | (simp; done) | assumption | (unfold maxLen; omega) | (simp [maxLen]; omega), ?_⟩)); refine hk _ ?_; clear hk; clear k
    refine awp_le (le_keep [0, 1, 4, 5, 6, 7, 11, 12, 13]) ?_
    simp only [kp, argSl, Nat.reduceEqDiff, ↓reduceIte, reduceCtorEq, Nat.reduceAdd]
    refine awp_sr [] (by rw [hC]; rfl) fun k hk => ?_
    simp (maxSteps := 4000000) (disch := first | omega | (simp only [lens]; omega)) only [argSl, sm, ↓amb, mark_eq, ↓reduceIte, reduceCtorEq, Int.reduceBEq, Int.reduceBNe, Int.reduceToNat, Nat.reduceEqDiff, Nat.reduceAdd, Nat.reduceSub, Nat.reduceMul, Nat.reduceDiv, Nat.reduceMod, Nat.reduceLeDiff, Nat.reduceBEq, dx]
    (repeat (refine ⟨by first | omega | (simp; done) | assumption | (unfold maxLen; omega) | (simp [maxLen]; omega), ?_⟩)); refine hk _ ?_; clear hk; clear k
    refine awp_cond rfl (fun hb => ?_) (fun hb => ?_)
    · -- branch 2
      try simp only [hbx] at hb
      have hfl := Pl.tabL_len fl.length (fun j => if j < i then (if fl.getD j false = w then 0 else 1) else 0)
      have hfl2 : (Pl.marksT fl w i).length = fl.length := hfl
      refine awp_region [] (by rw [hC]; rfl) fun k hk => ?_
      simp (maxSteps := 4000000) (disch := first | omega | (simp only [lens]; omega)) only [argSl, sm, ↓amb, mark_eq, ↓reduceIte, reduceCtorEq, Int.reduceBEq, Int.reduceBNe, Int.reduceToNat, Nat.reduceEqDiff, Nat.reduceAdd, Nat.reduceSub, Nat.reduceMul, Nat.reduceDiv, Nat.reduceMod, Nat.reduceLeDiff, Nat.reduceBEq, el22, sz41, dx]
      (repeat (refine ⟨by first | omega | (simp; done) | assumption | (unfold maxLen; omega) | (simp [maxLen]; omega), ?_⟩)); refine hk _ ?_; clear hk; clear k
      refine h4 _ ?_; clear h4; clear k4
      refine awp_region [] (by rw [hC]; rfl) fun k hk => ?_
      simp (maxSteps := 4000000) (disch := first | omega | (simp only [lens]; omega)) only [argSl, sm, ↓amb, mark_eq, ↓reduceIte, reduceCtorEq, Int.reduceBEq, Int.reduceBNe, Int.reduceToNat, Nat.reduceEqDiff, Nat.reduceAdd, Nat.reduceSub, Nat.reduceMul, Nat.reduceDiv, Nat.reduceMod, Nat.reduceLeDiff, Nat.reduceBEq, dx]
      (repeat (refine ⟨by first | omega | (simp; done) | assumption | (unfold maxLen; omega) | (simp [maxLen]; omega), ?_⟩)); refine hk _ ?_; clear hk; clear k
      refine ⟨i + 1, by omega, le_of [(0, _)] (by rfl) (by rfl) ⟨⟨_, rfl, .p (.of_eq (by first | rfl | (simp only [PV.lit.injEq, Value.int.injEq, true_and]; omega) | (simp; done) | (simp; omega)))⟩, ⟨_, rfl, .own rfl⟩, ⟨_, rfl, .p (.of_eq (by first | rfl | (simp only [PV.lit.injEq, Value.int.injEq, true_and]; omega) | (simp; done) | (simp; omega)))⟩, ⟨_, rfl, .p (.of_eq (by first | rfl | (simp only [PV.lit.injEq, Value.int.injEq, true_and]; omega) | (simp; done) | (simp; omega)))⟩, ⟨_, rfl, .p (.of_eq (by first | rfl | (simp only [PV.lit.injEq, Value.int.injEq, true_and]; omega) | (simp; done) | (simp; omega)))⟩, trivial⟩ ⟨⟨_, rfl, _, rfl, .liftE (by first | (rw [Pl.marks_0, List.map_replicate]; done) | (rw [← Pl.marks_set (by simpa using hb), List.map_set]; first | done | rfl) | (rw [Pl.marks_keep (by simpa using hb)]; done) | trace_state)⟩, trivial⟩, by omega⟩
    · -- branch 3
      try simp only [hbx] at hb
      refine awp_skip ?_
      refine h4 _ ?_; clear h4; clear k4
      refine awp_region [] (by rw [hC]; rfl) fun k hk => ?_
      simp (maxSteps := 4000000) (disch := first | omega | (simp only [lens]; omega)) only [argSl, sm, ↓amb, mark_eq, ↓reduceIte, reduceCtorEq, Int.reduceBEq, Int.reduceBNe, Int.reduceToNat, Nat.reduceEqDiff, Nat.reduceAdd, Nat.reduceSub, Nat.reduceMul, Nat.reduceDiv, Nat.reduceMod, Nat.reduceLeDiff, Nat.reduceBEq, dx]
      (repeat (refine ⟨by first | omega | (simp; done) | assumption | (unfold maxLen; omega) | (simp [maxLen]; omega), ?_⟩)); refine hk _ ?_; clear hk; clear k
      refine ⟨i + 1, by omega, le_of [(0, _)] (by rfl) (by rfl) ⟨⟨_, rfl, .p (.of_eq (by first | rfl | (simp only [PV.lit.injEq, Value.int.injEq, true_and]; omega) | (simp; done) | (simp; omega)))⟩, ⟨_, rfl, .own rfl⟩, ⟨_, rfl, .p (.of_eq (by first | rfl | (simp only [PV.lit.injEq, Value.int.injEq, true_and]; omega) | (simp; done) | (simp; omega)))⟩, ⟨_, rfl, .p (.of_eq (by first | rfl | (simp only [PV.lit.injEq, Value.int.injEq, true_and]; omega) | (simp; done) | (simp; omega)))⟩, ⟨_, rfl, .p (.of_eq (by first | rfl | (simp only [PV.lit.injEq, Value.int.injEq, true_and]; omega) | (simp; done) | (simp; omega)))⟩, trivial⟩ ⟨⟨_, rfl, _, rfl, .liftE (by first | (rw [Pl.marks_0, List.map_replicate]; done) | (rw [← Pl.marks_set (by simpa using hb), List.map_set]; first | done | rfl) | (rw [Pl.marks_keep (by simpa using hb)]; done) | trace_state)⟩, trivial⟩, by omega⟩
  · -- branch 4
    try simp only [hbx] at hb
    refine awp_exit ((if_pos rfl).mpr ?_)
    refine h1 _ ?_; clear h3; clear k3; clear h1; clear k1
    refine awp_le (le_keep [5]) ?_
    simp only [kp, argSl, Nat.reduceEqDiff, ↓reduceIte, reduceCtorEq, Nat.reduceAdd]
    obtain rfl : i = fl.length := by omega
    rw [Pl.marks_end]
    refine awp_sr [] (by rw [hC]; rfl) fun k hk => ?_
    simp (maxSteps := 4000000) (disch := first | omega | (simp only [lens]; omega)) only [argSl, sm, ↓amb, mark_eq, ↓reduceIte, reduceCtorEq, Int.reduceBEq, Int.reduceBNe, Int.reduceToNat, Nat.reduceEqDiff, Nat.reduceAdd, Nat.reduceSub, Nat.reduceMul, Nat.reduceDiv, Nat.reduceMod, Nat.reduceLeDiff, Nat.reduceBEq, dx]
    (repeat (refine ⟨by first | omega | (simp; done) | assumption | (unfold maxLen; omega) | (simp [maxLen]; omega), ?_⟩)); refine hk _ ?_; clear hk; clear k
    refine awp_ret ?_
    refine ret1 rfl rfl ?_
    exact .ownE rfl rfl
set_option maxHeartbeats 4000000 in
theorem c_pack_cells (c d : Bool) (l o : List Int) (ho : ∀ x, x ∈ o → 0 ≤ x ∧ x < l.length) (hn : l.length ≤ 1000000) (hn2 : o.length ≤ 1000000) : PCall Try.prog 35 [words c l, ints d o] (words false (Pl.sortedL l o)) := by
  refine pcall_of_awp Try.func35 rfl (by simp [Try.ntmps35]) fun C hC => ?_
  refine awp_le (le_keep [0, 1]) ?_
  simp only [kp, argSl, Nat.reduceEqDiff, ↓reduceIte, reduceCtorEq, Nat.reduceAdd]
  refine awp_sr [20] (by rw [hC]; rfl) fun k hk => ?_
  simp (maxSteps := 4000000) (disch := first | omega | (simp only [lens]; omega)) only [argSl, sm, ↓amb, mark_eq, ↓reduceIte, reduceCtorEq, Int.reduceBEq, Int.reduceBNe, Int.reduceToNat, Nat.reduceEqDiff, Nat.reduceAdd, Nat.reduceSub, Nat.reduceMul, Nat.reduceDiv, Nat.reduceMod, Nat.reduceLeDiff, Nat.reduceBEq, dx]
  (repeat (refine ⟨by first | omega | (simp; done) | assumption | (unfold maxLen; omega) | (simp [maxLen]; omega), ?_⟩)); refine hk _ ?_; clear hk; clear k
  refine awp_le (le_keep [0, 1]) ?_
  simp only [kp, argSl, Nat.reduceEqDiff, ↓reduceIte, reduceCtorEq, Nat.reduceAdd]
  refine awp_sr [20] (by rw [hC]; rfl) fun k hk => ?_
  simp (maxSteps := 4000000) (disch := first | omega | (simp only [lens]; omega)) only [argSl, sm, ↓amb, mark_eq, ↓reduceIte, reduceCtorEq, Int.reduceBEq, Int.reduceBNe, Int.reduceToNat, Nat.reduceEqDiff, Nat.reduceAdd, Nat.reduceSub, Nat.reduceMul, Nat.reduceDiv, Nat.reduceMod, Nat.reduceLeDiff, Nat.reduceBEq, dx]
  (repeat (refine ⟨by first | omega | (simp; done) | assumption | (unfold maxLen; omega) | (simp [maxLen]; omega), ?_⟩)); refine hk _ ?_; clear hk; clear k
  refine awp_seq fun k1 h1 => ?_
  refine awp_le (le_keep [0, 1, 4, 5]) ?_
  simp only [kp, argSl, Nat.reduceEqDiff, ↓reduceIte, reduceCtorEq, Nat.reduceAdd]
  refine awp_own' 5 1 rfl ?_
  refine awp_sr [20] (by rw [hC]; rfl) fun k hk => ?_
  simp (maxSteps := 4000000) (disch := first | omega | (simp only [lens]; omega)) only [argSl, sm, ↓amb, mark_eq, ↓reduceIte, reduceCtorEq, Int.reduceBEq, Int.reduceBNe, Int.reduceToNat, Nat.reduceEqDiff, Nat.reduceAdd, Nat.reduceSub, Nat.reduceMul, Nat.reduceDiv, Nat.reduceMod, Nat.reduceLeDiff, Nat.reduceBEq, el33, dx]
  (repeat (refine ⟨by first | omega | (simp; done) | assumption | (unfold maxLen; omega) | (simp [maxLen]; omega), ?_⟩)); refine hk _ ?_; clear hk; clear k
  refine awp_block ?_
  refine awp_loop (σ := Nat) (fun i => i ≤ o.length) (fun (i : Nat) => ⟨[(0, (.p (words c l))), (5, (.own 0)), (8, (.p (ints d o))), (9, (.p (iV o.length))), (10, (.p (iV (i : Int))))], [(0, (.row 1 (lift ((Pl.sortedL l (o.take i)).map fun x => [u32V x]))))], 1⟩) (fun i => o.length - i) 0 ?_ ?_ fun i hi => ?_
  · exact Nat.zero_le _
  · exact le_of [(0, _)] (by rfl) (by rfl) ⟨⟨_, rfl, .p (.of_eq (by first | rfl | (simp only [PV.lit.injEq, Value.int.injEq, true_and]; omega) | (simp; done) | (simp; omega)))⟩, ⟨_, rfl, .own rfl⟩, ⟨_, rfl, .p (.of_eq (by first | rfl | (simp only [PV.lit.injEq, Value.int.injEq, true_and]; omega) | (simp; done) | (simp; omega)))⟩, ⟨_, rfl, .p (.of_eq (by first | rfl | (simp only [PV.lit.injEq, Value.int.injEq, true_and]; omega) | (simp; done) | (simp; omega)))⟩, ⟨_, rfl, .p (.of_eq (by first | rfl | (simp only [PV.lit.injEq, Value.int.injEq, true_and]; omega) | (simp; done) | (simp; omega)))⟩, trivial⟩ ⟨⟨_, rfl, _, rfl, .liftE (by first | rfl | (rw [Pl.take_snoc' o i (by omega), Pl.sortedL_snoc, List.map_append]; first | done | rfl) | trace_state)⟩, trivial⟩
  refine awp_le (le_keep [0, 4, 5, 8, 9, 10]) ?_
  simp only [kp, argSl, Nat.reduceEqDiff, ↓reduceIte, reduceCtorEq, Nat.reduceAdd]
  refine awp_sr [20] (by rw [hC]; rfl) fun k hk => ?_
  simp (maxSteps := 4000000) (disch := first | omega | (simp only [lens]; omega)) only [argSl, sm, ↓amb, mark_eq, ↓reduceIte, reduceCtorEq, Int.reduceBEq, Int.reduceBNe, Int.reduceToNat, Nat.reduceEqDiff, Nat.reduceAdd, Nat.reduceSub, Nat.reduceMul, Nat.reduceDiv, Nat.reduceMod, Nat.reduceLeDiff, Nat.reduceBEq, dx]
  (repeat (refine ⟨by first | omega | (simp; done) | assumption | (unfold maxLen; omega) | (simp [maxLen]; omega), ?_⟩)); refine hk _ ?_; clear hk; clear k
  refine awp_seq fun k3 h3 => ?_
  refine awp_cond rfl (fun hb => ?_) (fun hb => ?_)
  · -- branch 1
    try simp only [hbx] at hb
    refine awp_skip ?_
    refine h3 _ ?_; clear h3; clear k3
    refine awp_seq fun k4 h4 => ?_
    refine awp_block ?_
    refine awp_le (le_keep [0, 4, 5, 8, 9, 10]) ?_
    simp only [kp, argSl, Nat.reduceEqDiff, ↓reduceIte, reduceCtorEq, Nat.reduceAdd]
    refine awp_sr [20] (by rw [hC]; rfl) fun k hk => ?_
    simp (maxSteps := 4000000) (disch := first | omega | (simp only [lens]; omega)) only [argSl, sm, ↓amb, mark_eq, ↓reduceIte, reduceCtorEq, Int.reduceBEq, Int.reduceBNe, Int.reduceToNat, Nat.reduceEqDiff, Nat.reduceAdd, Nat.reduceSub, Nat.reduceMul, Nat.reduceDiv, Nat.reduceMod, Nat.reduceLeDiff, Nat.reduceBEq, el33, sz3, dx]
    (repeat (refine ⟨by first | omega | (simp; done) | assumption | (unfold maxLen; omega) | (simp [maxLen]; omega), ?_⟩)); refine hk _ ?_; clear hk; clear k
    have hoi := ho _ (Pl.getD_mem o i 0 (by omega))
    have hsl : (Pl.sortedL l (o.take i)).length = i := by rw [Pl.sortedL_len, List.length_take]; omega
    refine awp_region [20] (by rw [hC]; rfl) fun k hk => ?_
    simp (maxSteps := 4000000) (disch := first | omega | (simp only [lens]; omega)) only [argSl, sm, ↓amb, mark_eq, ↓reduceIte, reduceCtorEq, Int.reduceBEq, Int.reduceBNe, Int.reduceToNat, Nat.reduceEqDiff, Nat.reduceAdd, Nat.reduceSub, Nat.reduceMul, Nat.reduceDiv, Nat.reduceMod, Nat.reduceLeDiff, Nat.reduceBEq, el22, sz41, vr41, by41, dx]
    (repeat (refine ⟨by first | omega | (simp; done) | assumption | (unfold maxLen; omega) | (simp [maxLen]; omega), ?_⟩)); refine hk _ ?_; clear hk; clear k
    refine h4 _ ?_; clear h4; clear k4
    refine awp_region [20] (by rw [hC]; rfl) fun k hk => ?_
    simp (maxSteps := 4000000) (disch := first | omega | (simp only [lens]; omega)) only [argSl, sm, ↓amb, mark_eq, ↓reduceIte, reduceCtorEq, Int.reduceBEq, Int.reduceBNe, Int.reduceToNat, Nat.reduceEqDiff, Nat.reduceAdd, Nat.reduceSub, Nat.reduceMul, Nat.reduceDiv, Nat.reduceMod, Nat.reduceLeDiff, Nat.reduceBEq, dx]
    (repeat (refine ⟨by first | omega | (simp; done) | assumption | (unfold maxLen; omega) | (simp [maxLen]; omega), ?_⟩)); refine hk _ ?_; clear hk; clear k
    refine ⟨i + 1, by omega, le_of [(0, _)] (by rfl) (by rfl) ⟨⟨_, rfl, .p (.of_eq (by first | rfl | (simp only [PV.lit.injEq, Value.int.injEq, true_and]; omega) | (simp; done) | (simp; omega)))⟩, ⟨_, rfl, .own rfl⟩, ⟨_, rfl, .p (.of_eq (by first | rfl | (simp only [PV.lit.injEq, Value.int.injEq, true_and]; omega) | (simp; done) | (simp; omega)))⟩, ⟨_, rfl, .p (.of_eq (by first | rfl | (simp only [PV.lit.injEq, Value.int.injEq, true_and]; omega) | (simp; done) | (simp; omega)))⟩, ⟨_, rfl, .p (.of_eq (by first | rfl | (simp only [PV.lit.injEq, Value.int.injEq, true_and]; omega) | (simp; done) | (simp; omega)))⟩, trivial⟩ ⟨⟨_, rfl, _, rfl, .liftE (by first | rfl | (rw [Pl.take_snoc' o i (by omega), Pl.sortedL_snoc, List.map_append]; first | done | rfl) | trace_state)⟩, trivial⟩, by omega⟩
  · -- branch 2
    try simp only [hbx] at hb
    refine awp_exit ((if_pos rfl).mpr ?_)
    refine h1 _ ?_; clear h3; clear k3; clear h1; clear k1
    refine awp_le (le_keep [5]) ?_
    simp only [kp, argSl, Nat.reduceEqDiff, ↓reduceIte, reduceCtorEq, Nat.reduceAdd]
    have htk : o.take i = o := List.take_of_length_le (by omega)
    rw [htk]
    refine awp_sr [20] (by rw [hC]; rfl) fun k hk => ?_
    simp (maxSteps := 4000000) (disch := first | omega | (simp only [lens]; omega)) only [argSl, sm, ↓amb, mark_eq, ↓reduceIte, reduceCtorEq, Int.reduceBEq, Int.reduceBNe, Int.reduceToNat, Nat.reduceEqDiff, Nat.reduceAdd, Nat.reduceSub, Nat.reduceMul, Nat.reduceDiv, Nat.reduceMod, Nat.reduceLeDiff, Nat.reduceBEq, dx]
    (repeat (refine ⟨by first | omega | (simp; done) | assumption | (unfold maxLen; omega) | (simp [maxLen]; omega), ?_⟩)); refine hk _ ?_; clear hk; clear k
    refine awp_ret ?_
    refine ret1 rfl rfl ?_
    exact .ownE rfl rfl
end Go.Proofs.Ytbehekmnccoifaa
