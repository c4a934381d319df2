/-
  Parted.
-/
import Derived.Test.YtbehekmnccoifaaQ3
import Derived.Test.YtbehekmnccoifaaQ4
import Derived.Test.YtbehekmnccoifaaF5
set_option linter.unusedSimpArgs false
set_option linter.unusedVariables false
set_option maxRecDepth 100000
namespace Go.Proofs.Ytbehekmnccoifaa
open Go.Am Go.Proofs
theorem en12 : enters Try.prog 12 = true := by kernel_rfl
theorem en40 : enters Try.prog 40 = true := by kernel_rfl
theorem vr22 : tVar Try.prog 22 = some (false, [.seq true []]) := by kernel_rfl
set_option maxHeartbeats 4000000 in
theorem c_pack_Part (c d e : Bool) (l : List Int) (fl : List Bool) (bl : Int) (p : Pl.Plan) (hn : fl.length ≤ 100000) : PCall Try.prog 16 [words c l, .seq d (fl.map fun q => [bV q]), iV bl, .agg (planC e p)] (.tup [words false (Pl.ptL l fl bl p), iV (Pl.ptN l fl bl p), iV (Pl.ptS l fl bl p), iV (Pl.paE l fl bl p)]) := by
  have hpl : ∀ (c d : Bool), PCall Try.prog 36 [words c (Pl.marksL fl true), iV bl, .agg (planC d p)] (.tup [ints false (Pl.whL fl true bl p), iV (Pl.whS fl.length bl p), iV (Pl.scE fl.length bl p)]) := fun c d => by
    have h := c_pack_places c d (Pl.marksL fl true) bl p (Pl.marks_bits fl true) (by rw [Pl.marksL_len]; omega)
    rw [Pl.marksL_len] at h; exact h
  refine pcall_of_awp Try.func16 rfl (by simp [Try.ntmps16]) fun C hC => ?_
  refine awp_le (le_keep [0, 1, 2, 3]) ?_
  simp only [kp, argSl, Nat.reduceEqDiff, ↓reduceIte, reduceCtorEq, Nat.reduceAdd]
  refine awp_sr [] (by rw [hC]; rfl) fun k hk => ?_
  simp (maxSteps := 4000000) (disch := first | omega | (simp only [lens]; omega)) only [argSl, sm, ↓amb, mark_eq, ↓reduceIte, reduceCtorEq, Int.reduceBEq, Int.reduceBNe, Int.reduceToNat, Nat.reduceEqDiff, Nat.reduceAdd, Nat.reduceSub, Nat.reduceMul, Nat.reduceDiv, Nat.reduceMod, Nat.reduceLeDiff, Nat.reduceBEq, dx]
  (repeat (refine ⟨by first | omega | (simp; done) | assumption | (unfold maxLen; omega) | (simp [maxLen]; omega), ?_⟩)); refine hk _ ?_; clear hk; clear k
  refine awp_le (le_keep [0, 1, 2, 7]) ?_
  simp only [kp, argSl, Nat.reduceEqDiff, ↓reduceIte, reduceCtorEq, Nat.reduceAdd]
  refine awp_sr [] (by rw [hC]; rfl) fun k hk => ?_
  simp (maxSteps := 4000000) (disch := first | omega | (simp only [lens]; omega)) only [argSl, sm, ↓amb, mark_eq, ↓reduceIte, reduceCtorEq, Int.reduceBEq, Int.reduceBNe, Int.reduceToNat, Nat.reduceEqDiff, Nat.reduceAdd, Nat.reduceSub, Nat.reduceMul, Nat.reduceDiv, Nat.reduceMod, Nat.reduceLeDiff, Nat.reduceBEq, sz26, en12, dx]
  (repeat (refine ⟨by first | omega | (simp; done) | assumption | (unfold maxLen; omega) | (simp [maxLen]; omega), ?_⟩))
  refine callK_p (c_pack_Pack _ _ _ l fl bl p (by omega)) rfl ?_
  simp (maxSteps := 4000000) (disch := first | omega | (simp only [lens]; omega)) only [argSl, sm, ↓amb, mark_eq, ↓reduceIte, reduceCtorEq, Int.reduceBEq, Int.reduceBNe, Int.reduceToNat, Nat.reduceEqDiff, Nat.reduceAdd, Nat.reduceSub, Nat.reduceMul, Nat.reduceDiv, Nat.reduceMod, Nat.reduceLeDiff, Nat.reduceBEq, sz26, en12, dx]
  (repeat (refine ⟨by first | omega | (simp; done) | assumption | (unfold maxLen; omega) | (simp [maxLen]; omega), ?_⟩)); refine hk _ ?_; clear hk; clear k
  refine awp_seq fun k1 h1 => ?_
  refine awp_le (le_keep [0, 1, 2, 7, 8, 9, 10, 11, 12, 13, 14]) ?_
  simp only [kp, argSl, Nat.reduceEqDiff, ↓reduceIte, reduceCtorEq, Nat.reduceAdd]
  refine awp_sr [] (by rw [hC]; rfl) fun k hk => ?_
  simp (maxSteps := 4000000) (disch := first | omega | (simp only [lens]; omega)) only [argSl, sm, ↓amb, mark_eq, ↓reduceIte, reduceCtorEq, Int.reduceBEq, Int.reduceBNe, Int.reduceToNat, Nat.reduceEqDiff, Nat.reduceAdd, Nat.reduceSub, Nat.reduceMul, Nat.reduceDiv, Nat.reduceMod, Nat.reduceLeDiff, Nat.reduceBEq, dx]
  (repeat (refine ⟨by first | omega | (simp; done) | assumption | (unfold maxLen; omega) | (simp [maxLen]; omega), ?_⟩)); refine hk _ ?_; clear hk; clear k
  refine awp_cond rfl (fun hb => ?_) (fun hb => ?_)
  · -- branch 1
    try simp only [hbx] at hb
    refine awp_le (le_keep [14]) ?_
    simp only [kp, argSl, Nat.reduceEqDiff, ↓reduceIte, reduceCtorEq, Nat.reduceAdd]
    have hpe := hb
    refine awp_sr [] (by rw [hC]; rfl) fun k hk => ?_
    simp (maxSteps := 4000000) (disch := first | omega | (simp only [lens]; omega)) only [argSl, sm, ↓amb, mark_eq, ↓reduceIte, reduceCtorEq, Int.reduceBEq, Int.reduceBNe, Int.reduceToNat, Nat.reduceEqDiff, Nat.reduceAdd, Nat.reduceSub, Nat.reduceMul, Nat.reduceDiv, Nat.reduceMod, Nat.reduceLeDiff, Nat.reduceBEq, dx]
    (repeat (refine ⟨by first | omega | (simp; done) | assumption | (unfold maxLen; omega) | (simp [maxLen]; omega), ?_⟩)); refine hk _ ?_; clear hk; clear k
    refine awp_ret ?_
    rw [show Pl.ptL l fl bl p = [] from if_neg hpe, show Pl.ptN l fl bl p = 0 from if_neg hpe, show Pl.ptS l fl bl p = 0 from if_neg hpe]
    refine ret4 rfl rfl rfl rfl rfl ?_ ?_ ?_ ?_
    · exact .p (LeP.seq _ _)
    · exact .p (LeP.refl _)
    · exact .p (LeP.refl _)
    · exact .p (LeP.refl _)
  · -- branch 2
    try simp only [hbx] at hb
    refine awp_skip ?_
    refine h1 _ ?_; clear h1; clear k1
    refine awp_le (le_keep [0, 1, 2, 7, 12, 13]) ?_
    simp only [kp, argSl, Nat.reduceEqDiff, ↓reduceIte, reduceCtorEq, Nat.reduceAdd]
    have hpe := hb
    obtain ⟨hll, hse⟩ := Pl.pa_ok hpe
    have hme : ∀ x, x ∈ Pl.whL fl true bl p → 0 ≤ x ∧ x < l.length := by rw [hll]; exact Pl.wh_mem
    have hwl := Pl.wh_len fl true bl p
    have hsl := Pl.sortedL_len l (Pl.whL fl true bl p)
    have hpa := Pl.paL_len l fl false bl p
    have hws := Pl.whS_nn fl.length bl p
    have hps : Pl.paS l fl bl p = Pl.whS fl.length bl p := if_pos hll
    refine awp_sd [] ⟨[0, 1, 0, 0, 15, 31, 63, 63, 63, 127, 767, 2047], [3], [], [], some []⟩ (by rw [hC]; rfl) (by kernel_rfl) (by kernel_rfl) fun k hk => ?_
    simp (maxSteps := 4000000) (disch := first | omega | (simp only [lens]; omega)) only [argSl, sm, ↓amb, mark_eq, ↓reduceIte, reduceCtorEq, Int.reduceBEq, Int.reduceBNe, Int.reduceToNat, Nat.reduceEqDiff, Nat.reduceAdd, Nat.reduceSub, Nat.reduceMul, Nat.reduceDiv, Nat.reduceMod, Nat.reduceLeDiff, Nat.reduceBEq, en37, sz26, en36, dx]
    (repeat (refine ⟨by first | omega | (simp; done) | assumption | (unfold maxLen; omega) | (simp [maxLen]; omega), ?_⟩))
    refine callK_p (c_pack_marks _ _ _ (by omega)) rfl ?_
    simp (maxSteps := 4000000) (disch := first | omega | (simp only [lens]; omega)) only [argSl, sm, ↓amb, mark_eq, ↓reduceIte, reduceCtorEq, Int.reduceBEq, Int.reduceBNe, Int.reduceToNat, Nat.reduceEqDiff, Nat.reduceAdd, Nat.reduceSub, Nat.reduceMul, Nat.reduceDiv, Nat.reduceMod, Nat.reduceLeDiff, Nat.reduceBEq, en37, sz26, en36, dx]
    (repeat (refine ⟨by first | omega | (simp; done) | assumption | (unfold maxLen; omega) | (simp [maxLen]; omega), ?_⟩))
    refine callK_p (hpl _ _) rfl ?_
    simp (maxSteps := 4000000) (disch := first | omega | (simp only [lens]; omega)) only [argSl, sm, ↓amb, mark_eq, ↓reduceIte, reduceCtorEq, Int.reduceBEq, Int.reduceBNe, Int.reduceToNat, Nat.reduceEqDiff, Nat.reduceAdd, Nat.reduceSub, Nat.reduceMul, Nat.reduceDiv, Nat.reduceMod, Nat.reduceLeDiff, Nat.reduceBEq, en37, sz26, en36, dx]
    (repeat (refine ⟨by first | omega | (simp; done) | assumption | (unfold maxLen; omega) | (simp [maxLen]; omega), ?_⟩)); refine hk _ ?_; clear hk; clear k
    refine awp_seq fun k2 h2 => ?_
    refine awp_le (le_keep [0, 8, 9, 10, 11, 12, 13, 14, 15, 16]) ?_
    simp only [kp, argSl, Nat.reduceEqDiff, ↓reduceIte, reduceCtorEq, Nat.reduceAdd]
    refine awp_sr [] (by rw [hC]; rfl) fun k hk => ?_
    simp (maxSteps := 4000000) (disch := first | omega | (simp only [lens]; omega)) only [argSl, sm, ↓amb, mark_eq, ↓reduceIte, reduceCtorEq, Int.reduceBEq, Int.reduceBNe, Int.reduceToNat, Nat.reduceEqDiff, Nat.reduceAdd, Nat.reduceSub, Nat.reduceMul, Nat.reduceDiv, Nat.reduceMod, Nat.reduceLeDiff, Nat.reduceBEq, dx]
    (repeat (refine ⟨by first | omega | (simp; done) | assumption | (unfold maxLen; omega) | (simp [maxLen]; omega), ?_⟩)); refine hk _ ?_; clear hk; clear k
    refine awp_cond rfl (fun hb => ?_) (fun hb => ?_)
    · -- branch 3
      try simp only [hbx] at hb
      refine awp_le (le_keep [14]) ?_
      simp only [kp, argSl, Nat.reduceEqDiff, ↓reduceIte, reduceCtorEq, Nat.reduceAdd]
      refine awp_sr [] (by rw [hC]; rfl) fun k hk => ?_
      simp (maxSteps := 4000000) (disch := first | omega | (simp only [lens]; omega)) only [argSl, sm, ↓amb, mark_eq, ↓reduceIte, reduceCtorEq, Int.reduceBEq, Int.reduceBNe, Int.reduceToNat, Nat.reduceEqDiff, Nat.reduceAdd, Nat.reduceSub, Nat.reduceMul, Nat.reduceDiv, Nat.reduceMod, Nat.reduceLeDiff, Nat.reduceBEq, dx]
      (repeat (refine ⟨by first | omega | (simp; done) | assumption | (unfold maxLen; omega) | (simp [maxLen]; omega), ?_⟩)); refine hk _ ?_; clear hk; clear k
      refine awp_ret ?_
      exact absurd hse hb
    · -- branch 4
      try simp only [hbx] at hb
      refine awp_skip ?_
      refine h2 _ ?_; clear h2; clear k2
      refine awp_le (le_keep [0, 12, 13, 15, 16]) ?_
      simp only [kp, argSl, Nat.reduceEqDiff, ↓reduceIte, reduceCtorEq, Nat.reduceAdd]
      refine awp_sr [] (by rw [hC]; rfl) fun k hk => ?_
      simp (maxSteps := 4000000) (disch := first | omega | (simp only [lens]; omega)) only [argSl, sm, ↓amb, mark_eq, ↓reduceIte, reduceCtorEq, Int.reduceBEq, Int.reduceBNe, Int.reduceToNat, Nat.reduceEqDiff, Nat.reduceAdd, Nat.reduceSub, Nat.reduceMul, Nat.reduceDiv, Nat.reduceMod, Nat.reduceLeDiff, Nat.reduceBEq, en35, el99, vr22, en40, el22, dx]
      (repeat (refine ⟨by first | omega | (simp; done) | assumption | (unfold maxLen; omega) | (simp [maxLen]; omega), ?_⟩))
      refine callK_p (c_pack_cells _ _ l (Pl.whL fl true bl p) hme (by omega) (by omega)) rfl ?_
      simp (maxSteps := 4000000) (disch := first | omega | (simp only [lens]; omega)) only [argSl, sm, ↓amb, mark_eq, ↓reduceIte, reduceCtorEq, Int.reduceBEq, Int.reduceBNe, Int.reduceToNat, Nat.reduceEqDiff, Nat.reduceAdd, Nat.reduceSub, Nat.reduceMul, Nat.reduceDiv, Nat.reduceMod, Nat.reduceLeDiff, Nat.reduceBEq, en35, el99, vr22, en40, el22, dx]
      (repeat (refine ⟨by first | omega | (simp; done) | assumption | (unfold maxLen; omega) | (simp [maxLen]; omega), ?_⟩))
      refine callK_p (c_slices_Concat_uint32_uint32 true [(false, Pl.paL l fl false bl p), (false, Pl.sortedL l (Pl.whL fl true bl p))] (by simp) (by simp [tot]; omega)) rfl ?_
      simp (maxSteps := 4000000) (disch := first | omega | (simp only [lens]; omega)) only [argSl, sm, ↓amb, mark_eq, ↓reduceIte, reduceCtorEq, Int.reduceBEq, Int.reduceBNe, Int.reduceToNat, Nat.reduceEqDiff, Nat.reduceAdd, Nat.reduceSub, Nat.reduceMul, Nat.reduceDiv, Nat.reduceMod, Nat.reduceLeDiff, Nat.reduceBEq, en35, el99, vr22, en40, el22, dx]
      (repeat (refine ⟨by first | omega | (simp; done) | assumption | (unfold maxLen; omega) | (simp [maxLen]; omega), ?_⟩)); refine hk _ ?_; clear hk; clear k
      refine awp_ret ?_
      rw [show Pl.ptL l fl bl p = Pl.paL l fl false bl p ++ Pl.sortedL l (Pl.whL fl true bl p) from if_pos hpe, show Pl.ptN l fl bl p = (Pl.paL l fl false bl p).length from if_pos hpe, show Pl.ptS l fl bl p = Pl.paS l fl bl p + Pl.whS fl.length bl p from if_pos hpe, hpe]
      refine ret4 rfl rfl rfl rfl rfl ?_ ?_ ?_ ?_
      · exact .p (LeP.of_eq (by simp [cat]))
      · exact .p (LeP.refl _)
      · exact .p (LeP.refl _)
      · exact .p (LeP.refl _)
end Go.Proofs.Ytbehekmnccoifaa
