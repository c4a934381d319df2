/-
  What is ahead, by blocks and whoever works.
-/
import Derived.Test.YtbehekmnccoifaaS1
import Derived.Test.YtbehekmnccoifaaF5
set_option linter.unusedSimpArgs false
set_option linter.unusedVariables false
set_option maxRecDepth 100000
namespace Go.Proofs.Ytbehekmnccoifaa
open Go.Am Go.Proofs
theorem en53 : enters Try.prog 53 = true := by kernel_rfl
theorem en65 : enters Try.prog 65 = true := by kernel_rfl
theorem en66 : enters Try.prog 66 = true := by kernel_rfl
theorem en76 : enters Try.prog 76 = true := by kernel_rfl
theorem en77 : enters Try.prog 77 = true := by kernel_rfl
theorem en78 : enters Try.prog 78 = true := by kernel_rfl
set_option maxHeartbeats 4000000 in
theorem c_scan_phases (c d : Bool) (l : List Int) (b : Int) (p : Pl.Plan) (hl : ∀ x, x ∈ l → Pl.W32 x) (F : FuncId) (hen : enters Try.prog F = true) (f : Int → Int → Int) (hf : Pl.Rule f) (hF : ∀ a b : Int, Pl.W32 a → Pl.W32 b → PCall Try.prog F [u32V a, u32V b] (u32V (f a b))) : HCall Try.prog 65 [.p (words c l), .p (iV b), .p (.agg (planC d p)), .fn F []] [] (.tup [.p (words false (Pl.scL f l b p)), .p (u32V (Pl.scT f l b p)), .p (iV (Pl.scS l.length b p)), .p (iV (Pl.scE l.length b p))]) [] := by
  refine hcall_of_awp Try.func65 rfl (by simp [Try.ntmps65]) fun C hC => ?_
  refine awp_le (le_keep [0, 1, 2, 3]) ?_
  simp only [kp, argSl, Nat.reduceEqDiff, ↓reduceIte, reduceCtorEq, Nat.reduceAdd]
  refine awp_sr [] (by rw [hC]; rfl) fun k hk => ?_
  simp (maxSteps := 4000000) (disch := first | omega | (simp only [lens]; omega)) only [argSl, sm, ↓amb, mark_eq, ↓reduceIte, reduceCtorEq, Int.reduceBEq, Int.reduceBNe, Int.reduceToNat, Nat.reduceEqDiff, Nat.reduceAdd, Nat.reduceSub, Nat.reduceMul, Nat.reduceDiv, Nat.reduceMod, Nat.reduceLeDiff, Nat.reduceBEq, hen, dx]
  (repeat (refine ⟨by first | omega | (simp; done) | assumption | (unfold maxLen; omega) | (simp [maxLen]; omega), ?_⟩)); refine hk _ ?_; clear hk; clear k
  refine awp_seq fun k1 h1 => ?_
  refine awp_test [] 31 (decide (¬ ((1 ≤ b ∧ b ≤ 100) ∧ l.length ≤ 1000))) [0, 1, 3, 6, 8, 9, 10, 11] (by rw [hC]; rfl) (fun gd hgd k hk => ?_) ?_
  · have g3 : gd 3 = some 27 := by rw [hgd]; rfl
    clear hgd
    simp (maxSteps := 4000000) (disch := first | omega | (simp only [lens]; omega)) only [argSl, sm, ↓amb, mark_eq, ↓reduceIte, reduceCtorEq, Int.reduceBEq, Int.reduceBNe, Int.reduceToNat, Nat.reduceEqDiff, Nat.reduceAdd, Nat.reduceSub, Nat.reduceMul, Nat.reduceDiv, Nat.reduceMod, Nat.reduceLeDiff, Nat.reduceBEq, en75, el22, gcase_undef, g3, hen, dx]
    repeat' first | refine hk _ _ rfl rfl rfl rfl ?_ | (refine gsplit (fun hg => ?_) (fun hg => ?_) <;> (try simp only [hbx] at hg) <;> simp (maxSteps := 4000000) (disch := first | omega | (simp only [lens]; omega)) only [argSl, sm, ↓amb, mark_eq, ↓reduceIte, reduceCtorEq, Int.reduceBEq, Int.reduceBNe, Int.reduceToNat, Nat.reduceEqDiff, Nat.reduceAdd, Nat.reduceSub, Nat.reduceMul, Nat.reduceDiv, Nat.reduceMod, Nat.reduceLeDiff, Nat.reduceBEq, en75, el22, gcase_undef, g3, hen, dx]) | apply And.intro | (refine callK_p (c_scan_sized _) rfl ?_; (try simp (maxSteps := 4000000) (disch := first | omega | (simp only [lens]; omega)) only [argSl, sm, ↓amb, mark_eq, ↓reduceIte, reduceCtorEq, Int.reduceBEq, Int.reduceBNe, Int.reduceToNat, Nat.reduceEqDiff, Nat.reduceAdd, Nat.reduceSub, Nat.reduceMul, Nat.reduceDiv, Nat.reduceMod, Nat.reduceLeDiff, Nat.reduceBEq, en75, el22, gcase_undef, g3, hen, dx])) | fail
    all_goals first | rfl | omega | exact (decide_eq_true (by omega)).symm | exact (decide_eq_false (by omega)).symm | exact decide_eq_decide.mpr (by omega) | (refine Bool.eq_iff_iff.mpr ?_; simp only [beq_iff_eq, bne_iff_ne, ne_eq, decide_eq_true_eq]; omega) | (refine Bool.eq_iff_iff.mpr ?_; simp only [Bool.not_eq_true', Bool.not_eq_false', decide_eq_false_iff_not, decide_eq_true_eq, beq_iff_eq, bne_iff_ne, ne_eq]; omega) | assumption | (simp; done) | (simp [maxLen]; omega) | skip
  simp only [kp, argSl, Nat.reduceEqDiff, ↓reduceIte, reduceCtorEq, Nat.reduceAdd, List.length_cons, List.length_nil]
  refine awp_cond rfl (fun hb => ?_) (fun hb => ?_)
  · -- branch 1
    try simp only [hbx] at hb
    refine awp_le (le_keep []) ?_
    simp only [kp, argSl, Nat.reduceEqDiff, ↓reduceIte, reduceCtorEq, Nat.reduceAdd]
    refine awp_sr [] (by rw [hC]; rfl) fun k hk => ?_
    simp (maxSteps := 4000000) (disch := first | omega | (simp only [lens]; omega)) only [argSl, sm, ↓amb, mark_eq, ↓reduceIte, reduceCtorEq, Int.reduceBEq, Int.reduceBNe, Int.reduceToNat, Nat.reduceEqDiff, Nat.reduceAdd, Nat.reduceSub, Nat.reduceMul, Nat.reduceDiv, Nat.reduceMod, Nat.reduceLeDiff, Nat.reduceBEq, hen, dx]
    (repeat (refine ⟨by first | omega | (simp; done) | assumption | (unfold maxLen; omega) | (simp [maxLen]; omega), ?_⟩)); refine hk _ ?_; clear hk; clear k
    refine awp_ret ?_
    have hse : ¬ Pl.scE l.length b p = 0 := by unfold Pl.scE; rw [if_neg (by first | exact hb | simpa using hb)]; decide
    have hs1 : Pl.scE l.length b p = 1 := (Pl.scE_01 _ _ _).resolve_left hse
    rw [(Pl.sc_no hse).1, (Pl.sc_no (f := f) hse).2.1, (Pl.sc_no (f := f) hse).2.2, hs1]
    refine reth4 rfl rfl rfl rfl rfl ?_
    exact le_of [] (by rfl) (by rfl) ⟨⟨_, rfl, leTup (LeRow.cons (.p (LeP.seq _ _)) (LeRow.cons (.p (.refl _)) (LeRow.cons (.p (.refl _)) (LeRow.cons (.p (.refl _)) .nil))))⟩, trivial⟩ trivial
  · -- branch 2
    try simp only [hbx] at hb
    refine awp_skip ?_
    refine h1 _ ?_; clear h1; clear k1
    refine awp_le (le_keep [0, 1, 3, 6]) ?_
    simp only [kp, argSl, Nat.reduceEqDiff, ↓reduceIte, reduceCtorEq, Nat.reduceAdd]
    have hq : (1 ≤ b ∧ b ≤ 100) ∧ l.length ≤ 1000 := by first | exact hb | exact Decidable.not_not.1 hb
    obtain ⟨B, rfl⟩ := Int.eq_ofNat_of_zero_le (show 0 ≤ b by omega)
    have hB : 1 ≤ B ∧ B ≤ 100 := by omega
    have hn := hq.2
    refine awp_sr [] (by rw [hC]; rfl) fun k hk => ?_
    simp (maxSteps := 4000000) (disch := first | omega | (simp only [lens]; omega)) only [argSl, sm, ↓amb, mark_eq, ↓reduceIte, reduceCtorEq, Int.reduceBEq, Int.reduceBNe, Int.reduceToNat, Nat.reduceEqDiff, Nat.reduceAdd, Nat.reduceSub, Nat.reduceMul, Nat.reduceDiv, Nat.reduceMod, Nat.reduceLeDiff, Nat.reduceBEq, el22, en76, hen, dx]
    (repeat (refine ⟨by first | omega | (simp; done) | assumption | (unfold maxLen; omega) | (simp [maxLen]; omega), ?_⟩))
    refine callK_p (c_scan_Blocks _ _) rfl ?_
    simp (maxSteps := 4000000) (disch := first | omega | (simp only [lens]; omega)) only [argSl, sm, ↓amb, mark_eq, ↓reduceIte, reduceCtorEq, Int.reduceBEq, Int.reduceBNe, Int.reduceToNat, Nat.reduceEqDiff, Nat.reduceAdd, Nat.reduceSub, Nat.reduceMul, Nat.reduceDiv, Nat.reduceMod, Nat.reduceLeDiff, Nat.reduceBEq, el22, en76, hen, dx]
    (repeat (refine ⟨by first | omega | (simp; done) | assumption | (unfold maxLen; omega) | (simp [maxLen]; omega), ?_⟩)); refine hk _ ?_; clear hk; clear k
    refine awp_le (le_keep [0, 1, 3, 6, 12]) ?_
    simp only [kp, argSl, Nat.reduceEqDiff, ↓reduceIte, reduceCtorEq, Nat.reduceAdd]
    rw [Pl.blk_nat hB hn]
    have hNu := Pl.blkN_up hB hn
    refine awp_sr [] (by rw [hC]; rfl) fun k hk => ?_
    simp (maxSteps := 4000000) (disch := first | omega | (simp only [lens]; omega)) only [argSl, sm, ↓amb, mark_eq, ↓reduceIte, reduceCtorEq, Int.reduceBEq, Int.reduceBNe, Int.reduceToNat, Nat.reduceEqDiff, Nat.reduceAdd, Nat.reduceSub, Nat.reduceMul, Nat.reduceDiv, Nat.reduceMod, Nat.reduceLeDiff, Nat.reduceBEq, sz26, en53, hen, dx]
    (repeat (refine ⟨by first | omega | (simp; done) | assumption | (unfold maxLen; omega) | (simp [maxLen]; omega), ?_⟩))
    refine callK_p (c_fill_Order _ _ p) rfl ?_
    simp (maxSteps := 4000000) (disch := first | omega | (simp only [lens]; omega)) only [argSl, sm, ↓amb, mark_eq, ↓reduceIte, reduceCtorEq, Int.reduceBEq, Int.reduceBNe, Int.reduceToNat, Nat.reduceEqDiff, Nat.reduceAdd, Nat.reduceSub, Nat.reduceMul, Nat.reduceDiv, Nat.reduceMod, Nat.reduceLeDiff, Nat.reduceBEq, sz26, en53, hen, dx]
    (repeat (refine ⟨by first | omega | (simp; done) | assumption | (unfold maxLen; omega) | (simp [maxLen]; omega), ?_⟩)); refine hk _ ?_; clear hk; clear k
    refine awp_seq fun k2 h2 => ?_
    refine awp_le (le_keep [0, 1, 3, 8, 9, 10, 11, 12, 13]) ?_
    simp only [kp, argSl, Nat.reduceEqDiff, ↓reduceIte, reduceCtorEq, Nat.reduceAdd]
    refine awp_sr [] (by rw [hC]; rfl) fun k hk => ?_
    simp (maxSteps := 4000000) (disch := first | omega | (simp only [lens]; omega)) only [argSl, sm, ↓amb, mark_eq, ↓reduceIte, reduceCtorEq, Int.reduceBEq, Int.reduceBNe, Int.reduceToNat, Nat.reduceEqDiff, Nat.reduceAdd, Nat.reduceSub, Nat.reduceMul, Nat.reduceDiv, Nat.reduceMod, Nat.reduceLeDiff, Nat.reduceBEq, hen, dx]
    (repeat (refine ⟨by first | omega | (simp; done) | assumption | (unfold maxLen; omega) | (simp [maxLen]; omega), ?_⟩)); refine hk _ ?_; clear hk; clear k
    refine awp_cond rfl (fun hb => ?_) (fun hb => ?_)
    · -- branch 3
      try simp only [hbx] at hb
      refine awp_le (le_keep [11]) ?_
      simp only [kp, argSl, Nat.reduceEqDiff, ↓reduceIte, reduceCtorEq, Nat.reduceAdd]
      have hse : ¬ Pl.scE l.length B p = 0 := by unfold Pl.scE; rw [if_pos hq, Pl.blk_nat hB hn]; exact hb
      refine awp_sr [] (by rw [hC]; rfl) fun k hk => ?_
      simp (maxSteps := 4000000) (disch := first | omega | (simp only [lens]; omega)) only [argSl, sm, ↓amb, mark_eq, ↓reduceIte, reduceCtorEq, Int.reduceBEq, Int.reduceBNe, Int.reduceToNat, Nat.reduceEqDiff, Nat.reduceAdd, Nat.reduceSub, Nat.reduceMul, Nat.reduceDiv, Nat.reduceMod, Nat.reduceLeDiff, Nat.reduceBEq, hen, dx]
      (repeat (refine ⟨by first | omega | (simp; done) | assumption | (unfold maxLen; omega) | (simp [maxLen]; omega), ?_⟩)); refine hk _ ?_; clear hk; clear k
      refine awp_ret ?_
      have hs1 : Pl.scE l.length B p = Pl.ordE (Pl.blkN l.length B : Nat) p := by unfold Pl.scE; rw [if_pos hq, Pl.blk_nat hB hn]
      rw [(Pl.sc_no hse).1, (Pl.sc_no (f := f) hse).2.1, (Pl.sc_no (f := f) hse).2.2, hs1]
      refine reth4 rfl rfl rfl rfl rfl ?_
      exact le_of [] (by rfl) (by rfl) ⟨⟨_, rfl, leTup (LeRow.cons (.p (LeP.seq _ _)) (LeRow.cons (.p (.refl _)) (LeRow.cons (.p (.refl _)) (LeRow.cons (.p (.refl _)) .nil))))⟩, trivial⟩ trivial
    · -- branch 4
      try simp only [hbx] at hb
      refine awp_skip ?_
      refine h2 _ ?_; clear h2; clear k2
      refine awp_le (le_keep [0, 1, 3, 10, 12, 13]) ?_
      simp only [kp, argSl, Nat.reduceEqDiff, ↓reduceIte, reduceCtorEq, Nat.reduceAdd]
      have hse : Pl.scE l.length B p = 0 := by unfold Pl.scE; rw [if_pos hq, Pl.blk_nat hB hn]; exact hb
      have hoo := Pl.ordE_iff.1 hb
      have hU : ∀ u, u ∈ (Pl.ordU (Pl.blkN l.length B : Nat) p) → 0 ≤ u ∧ u < ((Pl.blkN l.length B) : Nat) := fun u h => ((Pl.ordU_ok hoo).2.1 u).1 h
      have hUl := (Pl.ordU_ok hoo).2.2
      have hos := (Pl.ord_steps hoo).2.2.2.2.2
      have hos2 : 0 ≤ Pl.ordS (Pl.blkN l.length B : Nat) p := by have := Pl.ord_steps hoo; omega
      refine awp_sr [] (by rw [hC]; rfl) fun k hk => ?_
      simp (maxSteps := 4000000) (disch := first | omega | (simp only [lens]; omega)) only [argSl, sm, ↓amb, mark_eq, ↓reduceIte, reduceCtorEq, Int.reduceBEq, Int.reduceBNe, Int.reduceToNat, Nat.reduceEqDiff, Nat.reduceAdd, Nat.reduceSub, Nat.reduceMul, Nat.reduceDiv, Nat.reduceMod, Nat.reduceLeDiff, Nat.reduceBEq, el22, by41, vr41, hen, dx]
      (repeat (refine ⟨by first | omega | (simp; done) | assumption | (unfold maxLen; omega) | (simp [maxLen]; omega), ?_⟩)); refine hk _ ?_; clear hk; clear k
      refine awp_seq fun k3 h3 => ?_
      refine awp_le (le_keep [0, 1, 3, 8, 9, 10, 11, 13, 14]) ?_
      simp only [kp, argSl, Nat.reduceEqDiff, ↓reduceIte, reduceCtorEq, Nat.reduceAdd]
      refine awp_sr [] (by rw [hC]; rfl) fun k hk => ?_
      simp (maxSteps := 4000000) (disch := first | omega | (simp only [lens]; omega)) only [argSl, sm, ↓amb, mark_eq, ↓reduceIte, reduceCtorEq, Int.reduceBEq, Int.reduceBNe, Int.reduceToNat, Nat.reduceEqDiff, Nat.reduceAdd, Nat.reduceSub, Nat.reduceMul, Nat.reduceDiv, Nat.reduceMod, Nat.reduceLeDiff, Nat.reduceBEq, el33, hen, dx]
      (repeat (refine ⟨by first | omega | (simp; done) | assumption | (unfold maxLen; omega) | (simp [maxLen]; omega), ?_⟩)); refine hk _ ?_; clear hk; clear k
      refine awp_block ?_
      refine awp_loop (σ := Nat) (fun z => z ≤ (Pl.ordU (Pl.blkN l.length B : Nat) p).length) (fun (z : Nat) => ⟨[(0, (.p (words c l))), (1, (.p (iV B))), (3, (.fn F [])), (10, (.p (iV (Pl.ordS (Pl.blkN l.length B) p)))), (13, (.p (ints false (Pl.ordU (Pl.blkN l.length B : Nat) p)))), (14, (.own 0)), (48, (.p (ints false (Pl.ordU (Pl.blkN l.length B : Nat) p)))), (49, (.p (iV (Pl.ordU (Pl.blkN l.length B : Nat) p).length))), (50, (.p (iV (z : Int))))], [(0, (.row 1 (lift ((Pl.fillL (Pl.blkN l.length B) ((Pl.ordU (Pl.blkN l.length B : Nat) p).take z) (fun j => Pl.allF f (Pl.part l B j))).map fun x => [u32V x]))))], 1⟩) (fun z => (Pl.ordU (Pl.blkN l.length B : Nat) p).length - z) 0 ?_ ?_ fun z hz => ?_
      · exact Nat.zero_le _
      · exact le_of [(0, _)] (by rfl) (by rfl) ⟨⟨_, rfl, .p (.of_eq (by first | rfl | (simp only [PV.lit.injEq, Value.int.injEq, true_and]; omega) | (simp; done) | (simp; omega)))⟩, ⟨_, rfl, .p (.of_eq (by first | rfl | (simp only [PV.lit.injEq, Value.int.injEq, true_and]; omega) | (simp; done) | (simp; omega)))⟩, ⟨_, rfl, .fn rfl LeRow.nil.2⟩, ⟨_, rfl, .p (.of_eq (by first | rfl | (simp only [PV.lit.injEq, Value.int.injEq, true_and]; omega) | (simp; done) | (simp; omega)))⟩, ⟨_, rfl, .p (.of_eq (by first | rfl | (simp only [PV.lit.injEq, Value.int.injEq, true_and]; omega) | (simp; done) | (simp; omega)))⟩, ⟨_, rfl, .own rfl⟩, ⟨_, rfl, .p (.of_eq (by first | rfl | (simp only [PV.lit.injEq, Value.int.injEq, true_and]; omega) | (simp; done) | (simp; omega)))⟩, ⟨_, rfl, .p (.of_eq (by first | rfl | (simp only [PV.lit.injEq, Value.int.injEq, true_and]; omega) | (simp; done) | (simp; omega)))⟩, ⟨_, rfl, .p (.of_eq (by first | rfl | (simp only [PV.lit.injEq, Value.int.injEq, true_and]; omega) | (simp; done) | (simp; omega)))⟩, trivial⟩ ⟨⟨_, rfl, _, rfl, .liftE (by first | (rw [List.take_zero, Pl.fillL_nil, List.map_replicate]; done) | (rw [Pl.take_snoc' (Pl.ordU (Pl.blkN l.length B : Nat) p) z (by omega), hu, ← Pl.fillL_set (i := (u : Int)) (Int.natCast_nonneg u) (x := Pl.allF f (Pl.part l B u)) rfl, Int.toNat_natCast, List.map_set]; first | done | rfl) | trace_state)⟩, trivial⟩
      refine awp_le (le_keep [0, 1, 3, 8, 9, 10, 11, 13, 14, 48, 49, 50]) ?_
      simp only [kp, argSl, Nat.reduceEqDiff, ↓reduceIte, reduceCtorEq, Nat.reduceAdd]
      refine awp_sr [] (by rw [hC]; rfl) fun k hk => ?_
      simp (maxSteps := 4000000) (disch := first | omega | (simp only [lens]; omega)) only [argSl, sm, ↓amb, mark_eq, ↓reduceIte, reduceCtorEq, Int.reduceBEq, Int.reduceBNe, Int.reduceToNat, Nat.reduceEqDiff, Nat.reduceAdd, Nat.reduceSub, Nat.reduceMul, Nat.reduceDiv, Nat.reduceMod, Nat.reduceLeDiff, Nat.reduceBEq, hen, dx]
      (repeat (refine ⟨by first | omega | (simp; done) | assumption | (unfold maxLen; omega) | (simp [maxLen]; omega), ?_⟩)); refine hk _ ?_; clear hk; clear k
      refine awp_seq fun k5 h5 => ?_
      refine awp_cond rfl (fun hb => ?_) (fun hb => ?_)
      · -- branch 5
        try simp only [hbx] at hb
        refine awp_skip ?_
        refine h5 _ ?_; clear h5; clear k5
        refine awp_seq fun k6 h6 => ?_
        refine awp_block ?_
        refine awp_le (le_keep [0, 1, 3, 8, 9, 10, 11, 13, 14, 48, 49, 50]) ?_
        simp only [kp, argSl, Nat.reduceEqDiff, ↓reduceIte, reduceCtorEq, Nat.reduceAdd]
        refine awp_sr [] (by rw [hC]; rfl) fun k hk => ?_
        simp (maxSteps := 4000000) (disch := first | omega | (simp only [lens]; omega)) only [argSl, sm, ↓amb, mark_eq, ↓reduceIte, reduceCtorEq, Int.reduceBEq, Int.reduceBNe, Int.reduceToNat, Nat.reduceEqDiff, Nat.reduceAdd, Nat.reduceSub, Nat.reduceMul, Nat.reduceDiv, Nat.reduceMod, Nat.reduceLeDiff, Nat.reduceBEq, el33, sz3, hen, dx]
        (repeat (refine ⟨by first | omega | (simp; done) | assumption | (unfold maxLen; omega) | (simp [maxLen]; omega), ?_⟩)); refine hk _ ?_; clear hk; clear k
        obtain ⟨u, hu⟩ := Int.eq_ofNat_of_zero_le (hU ((Pl.ordU (Pl.blkN l.length B : Nat) p).getD z 0) (Pl.getD_mem (Pl.ordU (Pl.blkN l.length B : Nat) p) z 0 (by omega))).1
        have hu2 := hU ((Pl.ordU (Pl.blkN l.length B : Nat) p).getD z 0) (Pl.getD_mem (Pl.ordU (Pl.blkN l.length B : Nat) p) z 0 (by omega))
        rw [hu] at hu2
        obtain ⟨u1, u2, u3⟩ := Pl.blk_at hB hn (show u < (Pl.blkN l.length B) by omega)
        rw [hu]
        have hfl := Pl.fillL_len (Pl.blkN l.length B) ((Pl.ordU (Pl.blkN l.length B : Nat) p).take z) (fun j => Pl.allF f (Pl.part l B j))
        refine awp_region [] (by rw [hC]; rfl) fun k hk => ?_
        simp (maxSteps := 4000000) (disch := first | omega | (simp only [lens]; omega)) only [argSl, sm, ↓amb, mark_eq, ↓reduceIte, reduceCtorEq, Int.reduceBEq, Int.reduceBNe, Int.reduceToNat, Nat.reduceEqDiff, Nat.reduceAdd, Nat.reduceSub, Nat.reduceMul, Nat.reduceDiv, Nat.reduceMod, Nat.reduceLeDiff, Nat.reduceBEq, en78, en77, el22, sz41, hen, dx]
        (repeat (refine ⟨by first | omega | (simp; done) | assumption | (unfold maxLen; omega) | (simp [maxLen]; omega), ?_⟩))
        refine callK_p (c_scan_part c l u B (by omega) (by omega) (by omega) hn) rfl ?_
        simp (maxSteps := 4000000) (disch := first | omega | (simp only [lens]; omega)) only [argSl, sm, ↓amb, mark_eq, ↓reduceIte, reduceCtorEq, Int.reduceBEq, Int.reduceBNe, Int.reduceToNat, Nat.reduceEqDiff, Nat.reduceAdd, Nat.reduceSub, Nat.reduceMul, Nat.reduceDiv, Nat.reduceMod, Nat.reduceLeDiff, Nat.reduceBEq, en78, en77, el22, sz41, hen, dx]
        (repeat (refine ⟨by first | omega | (simp; done) | assumption | (unfold maxLen; omega) | (simp [maxLen]; omega), ?_⟩))
        refine callK_h (c_scan_ahead false (Pl.part l B u) (Pl.part_w hl) (by rw [Pl.part_len]; omega) F hen f hf hF) [] [] (by first | rfl | (simp only [hm]; done)) (by first | rfl | (simp [namesOk, lkp]; done)) ?_ ?_ ?_ ?_ ?_ ?_ ?_
        (iterate 6 (focus (first | trivial | (intro n hn; cases hn; done) | (simp (maxSteps := 4000000) (disch := first | omega | (simp only [lens]; omega)) only [argSl, sm, ↓amb, mark_eq, ↓reduceIte, reduceCtorEq, Int.reduceBEq, Int.reduceBNe, Int.reduceToNat, Nat.reduceEqDiff, Nat.reduceAdd, Nat.reduceSub, Nat.reduceMul, Nat.reduceDiv, Nat.reduceMod, Nat.reduceLeDiff, Nat.reduceBEq, en78, en77, el22, sz41, hen, dx, hmx, List.filter_cons, Nat.reduceBNe, imp_self, implies_true]; done))))
        simp (maxSteps := 4000000) (disch := first | omega | (simp only [lens]; omega)) only [argSl, sm, ↓amb, mark_eq, ↓reduceIte, reduceCtorEq, Int.reduceBEq, Int.reduceBNe, Int.reduceToNat, Nat.reduceEqDiff, Nat.reduceAdd, Nat.reduceSub, Nat.reduceMul, Nat.reduceDiv, Nat.reduceMod, Nat.reduceLeDiff, Nat.reduceBEq, en78, en77, el22, sz41, hen, dx, hm, List.filter_cons, List.filter_nil, Nat.reduceBNe, Option.map_none]
        (repeat (refine ⟨by first | omega | (simp; done) | assumption | (unfold maxLen; omega) | (simp [maxLen]; omega), ?_⟩)); refine hk _ ?_; clear hk; clear k
        refine h6 _ ?_; clear h6; clear k6
        refine awp_region [] (by rw [hC]; rfl) fun k hk => ?_
        simp (maxSteps := 4000000) (disch := first | omega | (simp only [lens]; omega)) only [argSl, sm, ↓amb, mark_eq, ↓reduceIte, reduceCtorEq, Int.reduceBEq, Int.reduceBNe, Int.reduceToNat, Nat.reduceEqDiff, Nat.reduceAdd, Nat.reduceSub, Nat.reduceMul, Nat.reduceDiv, Nat.reduceMod, Nat.reduceLeDiff, Nat.reduceBEq, hen, dx]
        (repeat (refine ⟨by first | omega | (simp; done) | assumption | (unfold maxLen; omega) | (simp [maxLen]; omega), ?_⟩)); refine hk _ ?_; clear hk; clear k
        refine ⟨z + 1, by omega, le_of [(0, _)] (by rfl) (by rfl) ⟨⟨_, rfl, .p (.of_eq (by first | rfl | (simp only [PV.lit.injEq, Value.int.injEq, true_and]; omega) | (simp; done) | (simp; omega)))⟩, ⟨_, rfl, .p (.of_eq (by first | rfl | (simp only [PV.lit.injEq, Value.int.injEq, true_and]; omega) | (simp; done) | (simp; omega)))⟩, ⟨_, rfl, .fn rfl LeRow.nil.2⟩, ⟨_, rfl, .p (.of_eq (by first | rfl | (simp only [PV.lit.injEq, Value.int.injEq, true_and]; omega) | (simp; done) | (simp; omega)))⟩, ⟨_, rfl, .p (.of_eq (by first | rfl | (simp only [PV.lit.injEq, Value.int.injEq, true_and]; omega) | (simp; done) | (simp; omega)))⟩, ⟨_, rfl, .own rfl⟩, ⟨_, rfl, .p (.of_eq (by first | rfl | (simp only [PV.lit.injEq, Value.int.injEq, true_and]; omega) | (simp; done) | (simp; omega)))⟩, ⟨_, rfl, .p (.of_eq (by first | rfl | (simp only [PV.lit.injEq, Value.int.injEq, true_and]; omega) | (simp; done) | (simp; omega)))⟩, ⟨_, rfl, .p (.of_eq (by first | rfl | (simp only [PV.lit.injEq, Value.int.injEq, true_and]; omega) | (simp; done) | (simp; omega)))⟩, trivial⟩ ⟨⟨_, rfl, _, rfl, .liftE (by first | (rw [List.take_zero, Pl.fillL_nil, List.map_replicate]; done) | (rw [Pl.take_snoc' (Pl.ordU (Pl.blkN l.length B : Nat) p) z (by omega), hu, ← Pl.fillL_set (i := (u : Int)) (Int.natCast_nonneg u) (x := Pl.allF f (Pl.part l B u)) rfl, Int.toNat_natCast, List.map_set]; first | done | rfl) | trace_state)⟩, trivial⟩, by omega⟩
      · -- branch 6
        try simp only [hbx] at hb
        refine awp_exit ((if_pos rfl).mpr ?_)
        refine h3 _ ?_; clear h5; clear k5; clear h3; clear k3
        refine awp_le (le_keep [0, 1, 3, 10, 13, 14]) ?_
        simp only [kp, argSl, Nat.reduceEqDiff, ↓reduceIte, reduceCtorEq, Nat.reduceAdd]
        have htk : (Pl.ordU (Pl.blkN l.length B : Nat) p).take z = (Pl.ordU (Pl.blkN l.length B : Nat) p) := List.take_of_length_le (by omega)
        refine awp_le (show LE _ (⟨[(0, (.p (words c l))), (1, (.p (iV B))), (3, (.fn F [])), (10, (.p (iV (Pl.ordS (Pl.blkN l.length B) p)))), (13, (.p (ints false (Pl.ordU (Pl.blkN l.length B : Nat) p)))), (14, (.p (words false (Pl.totF f l B (Pl.blkN l.length B)))))], [], 1⟩ : LS) from le_of [] (by rfl) (by rfl) ⟨⟨_, rfl, .p (.of_eq (by first | rfl | (simp only [PV.lit.injEq, Value.int.injEq, true_and]; omega) | (simp; done) | (simp; omega)))⟩, ⟨_, rfl, .p (.of_eq (by first | rfl | (simp only [PV.lit.injEq, Value.int.injEq, true_and]; omega) | (simp; done) | (simp; omega)))⟩, ⟨_, rfl, .fn rfl LeRow.nil.2⟩, ⟨_, rfl, .p (.of_eq (by first | rfl | (simp only [PV.lit.injEq, Value.int.injEq, true_and]; omega) | (simp; done) | (simp; omega)))⟩, ⟨_, rfl, .p (.of_eq (by first | rfl | (simp only [PV.lit.injEq, Value.int.injEq, true_and]; omega) | (simp; done) | (simp; omega)))⟩, ⟨_, rfl, .frz (es := (Pl.totF f l B (Pl.blkN l.length B)).map fun x => [u32V x]) (by rw [htk, Pl.fill_ord hoo]; rfl) (by rfl)⟩, trivial⟩ trivial) ?_
        refine awp_sr [] (by rw [hC]; rfl) fun k hk => ?_
        simp (maxSteps := 4000000) (disch := first | omega | (simp only [lens]; omega)) only [argSl, sm, ↓amb, mark_eq, ↓reduceIte, reduceCtorEq, Int.reduceBEq, Int.reduceBNe, Int.reduceToNat, Nat.reduceEqDiff, Nat.reduceAdd, Nat.reduceSub, Nat.reduceMul, Nat.reduceDiv, Nat.reduceMod, Nat.reduceLeDiff, Nat.reduceBEq, en77, hen, dx]
        (repeat (refine ⟨by first | omega | (simp; done) | assumption | (unfold maxLen; omega) | (simp [maxLen]; omega), ?_⟩))
        refine callK_h (c_scan_ahead false (Pl.totF f l B (Pl.blkN l.length B)) (Pl.totF_w hf hl B (Pl.blkN l.length B)) (by rw [Pl.totF_len]; omega) F hen f hf hF) [] [] (by first | rfl | (simp only [hm]; done)) (by first | rfl | (simp [namesOk, lkp]; done)) ?_ ?_ ?_ ?_ ?_ ?_ ?_
        (iterate 6 (focus (first | trivial | (intro n hn; cases hn; done) | (simp (maxSteps := 4000000) (disch := first | omega | (simp only [lens]; omega)) only [argSl, sm, ↓amb, mark_eq, ↓reduceIte, reduceCtorEq, Int.reduceBEq, Int.reduceBNe, Int.reduceToNat, Nat.reduceEqDiff, Nat.reduceAdd, Nat.reduceSub, Nat.reduceMul, Nat.reduceDiv, Nat.reduceMod, Nat.reduceLeDiff, Nat.reduceBEq, en77, hen, dx, hmx, List.filter_cons, Nat.reduceBNe, imp_self, implies_true]; done))))
        simp (maxSteps := 4000000) (disch := first | omega | (simp only [lens]; omega)) only [argSl, sm, ↓amb, mark_eq, ↓reduceIte, reduceCtorEq, Int.reduceBEq, Int.reduceBNe, Int.reduceToNat, Nat.reduceEqDiff, Nat.reduceAdd, Nat.reduceSub, Nat.reduceMul, Nat.reduceDiv, Nat.reduceMod, Nat.reduceLeDiff, Nat.reduceBEq, en77, hen, dx, hm, List.filter_cons, List.filter_nil, Nat.reduceBNe, Option.map_none]
        (repeat (refine ⟨by first | omega | (simp; done) | assumption | (unfold maxLen; omega) | (simp [maxLen]; omega), ?_⟩)); refine hk _ ?_; clear hk; clear k
        refine awp_le (le_keep [0, 1, 3, 9, 10, 13, 17]) ?_
        simp only [kp, argSl, Nat.reduceEqDiff, ↓reduceIte, reduceCtorEq, Nat.reduceAdd]
        refine awp_sr [] (by rw [hC]; rfl) fun k hk => ?_
        simp (maxSteps := 4000000) (disch := first | omega | (simp only [lens]; omega)) only [argSl, sm, ↓amb, mark_eq, ↓reduceIte, reduceCtorEq, Int.reduceBEq, Int.reduceBNe, Int.reduceToNat, Nat.reduceEqDiff, Nat.reduceAdd, Nat.reduceSub, Nat.reduceMul, Nat.reduceDiv, Nat.reduceMod, Nat.reduceLeDiff, Nat.reduceBEq, el22, by41, vr41, hen, dx]
        (repeat (refine ⟨by first | omega | (simp; done) | assumption | (unfold maxLen; omega) | (simp [maxLen]; omega), ?_⟩)); refine hk _ ?_; clear hk; clear k
        refine awp_seq fun k7 h7 => ?_
        refine awp_le (le_keep [0, 1, 3, 8, 9, 10, 11, 13, 17]) ?_
        simp only [kp, argSl, Nat.reduceEqDiff, ↓reduceIte, reduceCtorEq, Nat.reduceAdd]
        refine awp_sr [] (by rw [hC]; rfl) fun k hk => ?_
        simp (maxSteps := 4000000) (disch := first | omega | (simp only [lens]; omega)) only [argSl, sm, ↓amb, mark_eq, ↓reduceIte, reduceCtorEq, Int.reduceBEq, Int.reduceBNe, Int.reduceToNat, Nat.reduceEqDiff, Nat.reduceAdd, Nat.reduceSub, Nat.reduceMul, Nat.reduceDiv, Nat.reduceMod, Nat.reduceLeDiff, Nat.reduceBEq, el33, hen, dx]
        (repeat (refine ⟨by first | omega | (simp; done) | assumption | (unfold maxLen; omega) | (simp [maxLen]; omega), ?_⟩)); refine hk _ ?_; clear hk; clear k
        refine awp_block ?_
        refine awp_loop (σ := Nat) (fun z => z ≤ (Pl.ordU (Pl.blkN l.length B : Nat) p).length) (fun (z : Nat) => ⟨[(0, (.p (words c l))), (1, (.p (iV B))), (3, (.fn F [])), (8, (.own 0)), (9, (.p (u32V (Pl.allF f l)))), (10, (.p (iV (Pl.ordS (Pl.blkN l.length B) p)))), (17, (.p (words false (Pl.aheadF f (Pl.totF f l B (Pl.blkN l.length B)))))), (76, (.p (ints false (Pl.ordU (Pl.blkN l.length B : Nat) p)))), (77, (.p (iV (Pl.ordU (Pl.blkN l.length B : Nat) p).length))), (78, (.p (iV (z : Int))))], [(0, (.row 1 (lift ((Pl.fillL l.length (((Pl.ordU (Pl.blkN l.length B : Nat) p).take z).flatMap (Pl.blockPl l.length B)) (fun j => Pl.allF f (l.take j))).map fun x => [u32V x]))))], 1⟩) (fun z => (Pl.ordU (Pl.blkN l.length B : Nat) p).length - z) 0 ?_ ?_ fun z hz => ?_
        · exact Nat.zero_le _
        · exact le_of [(0, _)] (by rfl) (by rfl) ⟨⟨_, rfl, .p (.of_eq (by first | rfl | (simp only [PV.lit.injEq, Value.int.injEq, true_and]; omega) | (simp; done) | (simp; omega)))⟩, ⟨_, rfl, .p (.of_eq (by first | rfl | (simp only [PV.lit.injEq, Value.int.injEq, true_and]; omega) | (simp; done) | (simp; omega)))⟩, ⟨_, rfl, .fn rfl LeRow.nil.2⟩, ⟨_, rfl, .own rfl⟩, ⟨_, rfl, .p (.of_eq (by first | rfl | rw [Pl.allF_tots hf hl hB.1]))⟩, ⟨_, rfl, .p (.of_eq (by first | rfl | (simp only [PV.lit.injEq, Value.int.injEq, true_and]; omega) | (simp; done) | (simp; omega)))⟩, ⟨_, rfl, .p (.of_eq (by first | rfl | (simp only [PV.lit.injEq, Value.int.injEq, true_and]; omega) | (simp; done) | (simp; omega)))⟩, ⟨_, rfl, .p (.of_eq (by first | rfl | (simp only [PV.lit.injEq, Value.int.injEq, true_and]; omega) | (simp; done) | (simp; omega)))⟩, ⟨_, rfl, .p (.of_eq (by first | rfl | (simp only [PV.lit.injEq, Value.int.injEq, true_and]; omega) | (simp; done) | (simp; omega)))⟩, ⟨_, rfl, .p (.of_eq (by first | rfl | (simp only [PV.lit.injEq, Value.int.injEq, true_and]; omega) | (simp; done) | (simp; omega)))⟩, trivial⟩ ⟨⟨_, rfl, _, rfl, .liftE (by first | (rw [List.take_zero, List.flatMap_nil, Pl.fillL_nil, List.map_replicate]; done) | (rw [Pl.block_snoc (L := (Pl.ordU (Pl.blkN l.length B : Nat) p)) (z := z) (by omega) hu u1, show y = (Pl.part l B u).length by omega]; done) | trace_state)⟩, trivial⟩
        refine awp_le (le_keep [0, 1, 3, 8, 9, 10, 11, 17, 76, 77, 78]) ?_
        simp only [kp, argSl, Nat.reduceEqDiff, ↓reduceIte, reduceCtorEq, Nat.reduceAdd]
        refine awp_sr [] (by rw [hC]; rfl) fun k hk => ?_
        simp (maxSteps := 4000000) (disch := first | omega | (simp only [lens]; omega)) only [argSl, sm, ↓amb, mark_eq, ↓reduceIte, reduceCtorEq, Int.reduceBEq, Int.reduceBNe, Int.reduceToNat, Nat.reduceEqDiff, Nat.reduceAdd, Nat.reduceSub, Nat.reduceMul, Nat.reduceDiv, Nat.reduceMod, Nat.reduceLeDiff, Nat.reduceBEq, hen, dx]
        (repeat (refine ⟨by first | omega | (simp; done) | assumption | (unfold maxLen; omega) | (simp [maxLen]; omega), ?_⟩)); refine hk _ ?_; clear hk; clear k
        refine awp_seq fun k9 h9 => ?_
        refine awp_cond rfl (fun hb => ?_) (fun hb => ?_)
        · -- branch 7
          try simp only [hbx] at hb
          refine awp_skip ?_
          refine h9 _ ?_; clear h9; clear k9
          refine awp_seq fun k10 h10 => ?_
          refine awp_block ?_
          refine awp_le (le_keep [0, 1, 3, 8, 9, 10, 11, 17, 76, 77, 78]) ?_
          simp only [kp, argSl, Nat.reduceEqDiff, ↓reduceIte, reduceCtorEq, Nat.reduceAdd]
          refine awp_sr [] (by rw [hC]; rfl) fun k hk => ?_
          simp (maxSteps := 4000000) (disch := first | omega | (simp only [lens]; omega)) only [argSl, sm, ↓amb, mark_eq, ↓reduceIte, reduceCtorEq, Int.reduceBEq, Int.reduceBNe, Int.reduceToNat, Nat.reduceEqDiff, Nat.reduceAdd, Nat.reduceSub, Nat.reduceMul, Nat.reduceDiv, Nat.reduceMod, Nat.reduceLeDiff, Nat.reduceBEq, el33, sz3, hen, dx]
          (repeat (refine ⟨by first | omega | (simp; done) | assumption | (unfold maxLen; omega) | (simp [maxLen]; omega), ?_⟩)); refine hk _ ?_; clear hk; clear k
          refine awp_le (le_keep [0, 1, 3, 8, 9, 10, 11, 17, 19, 76, 77, 78]) ?_
          simp only [kp, argSl, Nat.reduceEqDiff, ↓reduceIte, reduceCtorEq, Nat.reduceAdd]
          obtain ⟨u, hu⟩ := Int.eq_ofNat_of_zero_le (hU ((Pl.ordU (Pl.blkN l.length B : Nat) p).getD z 0) (Pl.getD_mem (Pl.ordU (Pl.blkN l.length B : Nat) p) z 0 (by omega))).1
          have hu2 := hU ((Pl.ordU (Pl.blkN l.length B : Nat) p).getD z 0) (Pl.getD_mem (Pl.ordU (Pl.blkN l.length B : Nat) p) z 0 (by omega))
          rw [hu] at hu2
          obtain ⟨u1, u2, u3⟩ := Pl.blk_at hB hn (show u < (Pl.blkN l.length B) by omega)
          rw [hu]
          refine awp_sr [] (by rw [hC]; rfl) fun k hk => ?_
          simp (maxSteps := 4000000) (disch := first | omega | (simp only [lens]; omega)) only [argSl, sm, ↓amb, mark_eq, ↓reduceIte, reduceCtorEq, Int.reduceBEq, Int.reduceBNe, Int.reduceToNat, Nat.reduceEqDiff, Nat.reduceAdd, Nat.reduceSub, Nat.reduceMul, Nat.reduceDiv, Nat.reduceMod, Nat.reduceLeDiff, Nat.reduceBEq, en78, en77, hen, dx]
          (repeat (refine ⟨by first | omega | (simp; done) | assumption | (unfold maxLen; omega) | (simp [maxLen]; omega), ?_⟩))
          refine callK_p (c_scan_part c l u B (by omega) (by omega) (by omega) hn) rfl ?_
          simp (maxSteps := 4000000) (disch := first | omega | (simp only [lens]; omega)) only [argSl, sm, ↓amb, mark_eq, ↓reduceIte, reduceCtorEq, Int.reduceBEq, Int.reduceBNe, Int.reduceToNat, Nat.reduceEqDiff, Nat.reduceAdd, Nat.reduceSub, Nat.reduceMul, Nat.reduceDiv, Nat.reduceMod, Nat.reduceLeDiff, Nat.reduceBEq, en78, en77, hen, dx]
          (repeat (refine ⟨by first | omega | (simp; done) | assumption | (unfold maxLen; omega) | (simp [maxLen]; omega), ?_⟩))
          refine callK_h (c_scan_ahead false (Pl.part l B u) (Pl.part_w hl) (by rw [Pl.part_len]; omega) F hen f hf hF) [] [] (by first | rfl | (simp only [hm]; done)) (by first | rfl | (simp [namesOk, lkp]; done)) ?_ ?_ ?_ ?_ ?_ ?_ ?_
          (iterate 6 (focus (first | trivial | (intro n hn; cases hn; done) | (simp (maxSteps := 4000000) (disch := first | omega | (simp only [lens]; omega)) only [argSl, sm, ↓amb, mark_eq, ↓reduceIte, reduceCtorEq, Int.reduceBEq, Int.reduceBNe, Int.reduceToNat, Nat.reduceEqDiff, Nat.reduceAdd, Nat.reduceSub, Nat.reduceMul, Nat.reduceDiv, Nat.reduceMod, Nat.reduceLeDiff, Nat.reduceBEq, en78, en77, hen, dx, hmx, List.filter_cons, Nat.reduceBNe, imp_self, implies_true]; done))))
          simp (maxSteps := 4000000) (disch := first | omega | (simp only [lens]; omega)) only [argSl, sm, ↓amb, mark_eq, ↓reduceIte, reduceCtorEq, Int.reduceBEq, Int.reduceBNe, Int.reduceToNat, Nat.reduceEqDiff, Nat.reduceAdd, Nat.reduceSub, Nat.reduceMul, Nat.reduceDiv, Nat.reduceMod, Nat.reduceLeDiff, Nat.reduceBEq, en78, en77, hen, dx, hm, List.filter_cons, List.filter_nil, Nat.reduceBNe, Option.map_none]
          (repeat (refine ⟨by first | omega | (simp; done) | assumption | (unfold maxLen; omega) | (simp [maxLen]; omega), ?_⟩)); refine hk _ ?_; clear hk; clear k
          refine awp_le (le_keep [0, 1, 3, 8, 9, 10, 11, 17, 19, 20, 76, 77, 78]) ?_
          simp only [kp, argSl, Nat.reduceEqDiff, ↓reduceIte, reduceCtorEq, Nat.reduceAdd]
          refine awp_sr [] (by rw [hC]; rfl) fun k hk => ?_
          simp (maxSteps := 4000000) (disch := first | omega | (simp only [lens]; omega)) only [argSl, sm, ↓amb, mark_eq, ↓reduceIte, reduceCtorEq, Int.reduceBEq, Int.reduceBNe, Int.reduceToNat, Nat.reduceEqDiff, Nat.reduceAdd, Nat.reduceSub, Nat.reduceMul, Nat.reduceDiv, Nat.reduceMod, Nat.reduceLeDiff, Nat.reduceBEq, el22, hen, dx]
          (repeat (refine ⟨by first | omega | (simp; done) | assumption | (unfold maxLen; omega) | (simp [maxLen]; omega), ?_⟩)); refine hk _ ?_; clear hk; clear k
          refine awp_block ?_
          refine awp_loop (σ := Nat) (fun y => y ≤ (Pl.part l B u).length) (fun (y : Nat) => ⟨[(0, (.p (words c l))), (1, (.p (iV B))), (3, (.fn F [])), (8, (.own 0)), (9, (.p (u32V (Pl.allF f l)))), (10, (.p (iV (Pl.ordS (Pl.blkN l.length B) p)))), (17, (.p (words false (Pl.aheadF f (Pl.totF f l B (Pl.blkN l.length B)))))), (19, (.p (iV ((u : Nat) : Int)))), (76, (.p (ints false (Pl.ordU (Pl.blkN l.length B : Nat) p)))), (77, (.p (iV (Pl.ordU (Pl.blkN l.length B : Nat) p).length))), (78, (.p (iV (z : Int)))), (91, (.p (words false (Pl.aheadF f (Pl.part l B u))))), (92, (.p (iV (Pl.part l B u).length))), (93, (.p (iV (y : Int))))], [(0, (.row 1 (lift ((Pl.fillL l.length ((((Pl.ordU (Pl.blkN l.length B : Nat) p).take z).flatMap (Pl.blockPl l.length B)) ++ Pl.upto (((u : Nat) : Int) * B) (((u : Nat) : Int) * B + ((y : Nat) : Int))) (fun j => Pl.allF f (l.take j))).map fun x => [u32V x]))))], 1⟩) (fun y => (Pl.part l B u).length - y) 0 ?_ ?_ fun y hy => ?_
          · exact Nat.zero_le _
          · exact le_of [(0, _)] (by rfl) (by rfl) ⟨⟨_, rfl, .p (.of_eq (by first | rfl | (simp only [PV.lit.injEq, Value.int.injEq, true_and]; omega) | (simp; done) | (simp; omega)))⟩, ⟨_, rfl, .p (.of_eq (by first | rfl | (simp only [PV.lit.injEq, Value.int.injEq, true_and]; omega) | (simp; done) | (simp; omega)))⟩, ⟨_, rfl, .fn rfl LeRow.nil.2⟩, ⟨_, rfl, .own rfl⟩, ⟨_, rfl, .p (.of_eq (by first | rfl | (simp only [PV.lit.injEq, Value.int.injEq, true_and]; omega) | (simp; done) | (simp; omega)))⟩, ⟨_, rfl, .p (.of_eq (by first | rfl | (simp only [PV.lit.injEq, Value.int.injEq, true_and]; omega) | (simp; done) | (simp; omega)))⟩, ⟨_, rfl, .p (.of_eq (by first | rfl | (simp only [PV.lit.injEq, Value.int.injEq, true_and]; omega) | (simp; done) | (simp; omega)))⟩, ⟨_, rfl, .p (.of_eq (by first | rfl | (simp only [PV.lit.injEq, Value.int.injEq, true_and]; omega) | (simp; done) | (simp; omega)))⟩, ⟨_, rfl, .p (.of_eq (by first | rfl | (simp only [PV.lit.injEq, Value.int.injEq, true_and]; omega) | (simp; done) | (simp; omega)))⟩, ⟨_, rfl, .p (.of_eq (by first | rfl | (simp only [PV.lit.injEq, Value.int.injEq, true_and]; omega) | (simp; done) | (simp; omega)))⟩, ⟨_, rfl, .p (.of_eq (by first | rfl | (simp only [PV.lit.injEq, Value.int.injEq, true_and]; omega) | (simp; done) | (simp; omega)))⟩, ⟨_, rfl, .p (.of_eq (by first | rfl | (simp only [PV.lit.injEq, Value.int.injEq, true_and]; omega) | (simp; done) | (simp; omega)))⟩, ⟨_, rfl, .p (.of_eq (by first | rfl | rw [Pl.aheadF_len]))⟩, ⟨_, rfl, .p (.of_eq (by first | rfl | (simp only [PV.lit.injEq, Value.int.injEq, true_and]; omega) | (simp; done) | (simp; omega)))⟩, trivial⟩ ⟨⟨_, rfl, _, rfl, .liftE (by first | (rw [Pl.upto_nil (by simp), List.append_nil]; done) | (rw [← Pl.upto_snoc, ← List.append_assoc, ← Pl.fillL_set hnn hpl', List.map_set]; first | done | rfl) | trace_state)⟩, trivial⟩
          refine awp_le (le_keep [0, 1, 3, 8, 9, 10, 11, 17, 19, 76, 77, 78, 91, 92, 93]) ?_
          simp only [kp, argSl, Nat.reduceEqDiff, ↓reduceIte, reduceCtorEq, Nat.reduceAdd]
          refine awp_sr [] (by rw [hC]; rfl) fun k hk => ?_
          simp (maxSteps := 4000000) (disch := first | omega | (simp only [lens]; omega)) only [argSl, sm, ↓amb, mark_eq, ↓reduceIte, reduceCtorEq, Int.reduceBEq, Int.reduceBNe, Int.reduceToNat, Nat.reduceEqDiff, Nat.reduceAdd, Nat.reduceSub, Nat.reduceMul, Nat.reduceDiv, Nat.reduceMod, Nat.reduceLeDiff, Nat.reduceBEq, hen, dx]
          (repeat (refine ⟨by first | omega | (simp; done) | assumption | (unfold maxLen; omega) | (simp [maxLen]; omega), ?_⟩)); refine hk _ ?_; clear hk; clear k
          refine awp_seq fun k12 h12 => ?_
          refine awp_cond rfl (fun hb => ?_) (fun hb => ?_)
          · -- branch 8
            try simp only [hbx] at hb
            refine awp_skip ?_
            refine h12 _ ?_; clear h12; clear k12
            refine awp_seq fun k13 h13 => ?_
            refine awp_block ?_
            refine awp_le (le_keep [0, 1, 3, 8, 9, 10, 11, 17, 19, 76, 77, 78, 91, 92, 93]) ?_
            simp only [kp, argSl, Nat.reduceEqDiff, ↓reduceIte, reduceCtorEq, Nat.reduceAdd]
            have hal := Pl.aheadF_len f (Pl.part l B u)
            refine awp_sr [] (by rw [hC]; rfl) fun k hk => ?_
            simp (maxSteps := 4000000) (disch := first | omega | (simp only [lens]; omega)) only [argSl, sm, ↓amb, mark_eq, ↓reduceIte, reduceCtorEq, Int.reduceBEq, Int.reduceBNe, Int.reduceToNat, Nat.reduceEqDiff, Nat.reduceAdd, Nat.reduceSub, Nat.reduceMul, Nat.reduceDiv, Nat.reduceMod, Nat.reduceLeDiff, Nat.reduceBEq, el22, sz41, hen, dx]
            (repeat (refine ⟨by first | omega | (simp; done) | assumption | (unfold maxLen; omega) | (simp [maxLen]; omega), ?_⟩)); refine hk _ ?_; clear hk; clear k
            have hal2 := Pl.aheadF_len f (Pl.totF f l B (Pl.blkN l.length B))
            have hal3 := Pl.totF_len f l B (Pl.blkN l.length B)
            have hfl := Pl.fillL_len l.length ((((Pl.ordU (Pl.blkN l.length B : Nat) p).take z).flatMap (Pl.blockPl l.length B)) ++ Pl.upto (((u : Nat) : Int) * B) (((u : Nat) : Int) * B + ((y : Nat) : Int))) (fun j => Pl.allF f (l.take j))
            obtain ⟨hpl, hpl2⟩ := Pl.ahead_cell hf hl (show u < (Pl.blkN l.length B) by omega) u1 (show y < (Pl.part l B u).length by omega)
            have hw1 := Pl.getD_w (Pl.aheadF_w hf (Pl.part_w (b := B) (i := u) hl)) y
            have hw2 := Pl.getD_w (Pl.aheadF_w hf (Pl.totF_w hf hl B (Pl.blkN l.length B))) u
            have e1 : (u : Int) * (B : Int) = ((u * B : Nat) : Int) := by rw [Int.natCast_mul]
            have hnn : 0 ≤ (u : Int) * (B : Int) + (y : Int) := by rw [e1]; omega
            have hpl' : f ((Pl.aheadF f (Pl.totF f l B (Pl.blkN l.length B))).getD u 0) ((Pl.aheadF f (Pl.part l B u)).getD y 0) = (fun j => Pl.allF f (l.take j)) ((u : Int) * (B : Int) + (y : Int)).toNat := by rw [hpl, e1]; show Pl.allF f (l.take _) = Pl.allF f (l.take _); congr 2
            refine awp_region [] (by rw [hC]; rfl) fun k hk => ?_
            simp (maxSteps := 4000000) (disch := first | omega | (simp only [lens]; omega)) only [argSl, sm, ↓amb, mark_eq, ↓reduceIte, reduceCtorEq, Int.reduceBEq, Int.reduceBNe, Int.reduceToNat, Nat.reduceEqDiff, Nat.reduceAdd, Nat.reduceSub, Nat.reduceMul, Nat.reduceDiv, Nat.reduceMod, Nat.reduceLeDiff, Nat.reduceBEq, el22, sz41, hen, dx]
            (repeat (refine ⟨by first | omega | (simp; done) | assumption | (unfold maxLen; omega) | (simp [maxLen]; omega), ?_⟩))
            refine callK_p (hF _ _ hw2 hw1) rfl ?_
            simp (maxSteps := 4000000) (disch := first | omega | (simp only [lens]; omega)) only [argSl, sm, ↓amb, mark_eq, ↓reduceIte, reduceCtorEq, Int.reduceBEq, Int.reduceBNe, Int.reduceToNat, Nat.reduceEqDiff, Nat.reduceAdd, Nat.reduceSub, Nat.reduceMul, Nat.reduceDiv, Nat.reduceMod, Nat.reduceLeDiff, Nat.reduceBEq, el22, sz41, hen, dx]
            (repeat (refine ⟨by first | omega | (simp; done) | assumption | (unfold maxLen; omega) | (simp [maxLen]; omega), ?_⟩)); refine hk _ ?_; clear hk; clear k
            refine h13 _ ?_; clear h13; clear k13
            refine awp_region [] (by rw [hC]; rfl) fun k hk => ?_
            simp (maxSteps := 4000000) (disch := first | omega | (simp only [lens]; omega)) only [argSl, sm, ↓amb, mark_eq, ↓reduceIte, reduceCtorEq, Int.reduceBEq, Int.reduceBNe, Int.reduceToNat, Nat.reduceEqDiff, Nat.reduceAdd, Nat.reduceSub, Nat.reduceMul, Nat.reduceDiv, Nat.reduceMod, Nat.reduceLeDiff, Nat.reduceBEq, hen, dx]
            (repeat (refine ⟨by first | omega | (simp; done) | assumption | (unfold maxLen; omega) | (simp [maxLen]; omega), ?_⟩)); refine hk _ ?_; clear hk; clear k
            refine ⟨y + 1, by omega, le_of [(0, _)] (by rfl) (by rfl) ⟨⟨_, rfl, .p (.of_eq (by first | rfl | (simp only [PV.lit.injEq, Value.int.injEq, true_and]; omega) | (simp; done) | (simp; omega)))⟩, ⟨_, rfl, .p (.of_eq (by first | rfl | (simp only [PV.lit.injEq, Value.int.injEq, true_and]; omega) | (simp; done) | (simp; omega)))⟩, ⟨_, rfl, .fn rfl LeRow.nil.2⟩, ⟨_, rfl, .own rfl⟩, ⟨_, rfl, .p (.of_eq (by first | rfl | (simp only [PV.lit.injEq, Value.int.injEq, true_and]; omega) | (simp; done) | (simp; omega)))⟩, ⟨_, rfl, .p (.of_eq (by first | rfl | (simp only [PV.lit.injEq, Value.int.injEq, true_and]; omega) | (simp; done) | (simp; omega)))⟩, ⟨_, rfl, .p (.of_eq (by first | rfl | (simp only [PV.lit.injEq, Value.int.injEq, true_and]; omega) | (simp; done) | (simp; omega)))⟩, ⟨_, rfl, .p (.of_eq (by first | rfl | (simp only [PV.lit.injEq, Value.int.injEq, true_and]; omega) | (simp; done) | (simp; omega)))⟩, ⟨_, rfl, .p (.of_eq (by first | rfl | (simp only [PV.lit.injEq, Value.int.injEq, true_and]; omega) | (simp; done) | (simp; omega)))⟩, ⟨_, rfl, .p (.of_eq (by first | rfl | (simp only [PV.lit.injEq, Value.int.injEq, true_and]; omega) | (simp; done) | (simp; omega)))⟩, ⟨_, rfl, .p (.of_eq (by first | rfl | (simp only [PV.lit.injEq, Value.int.injEq, true_and]; omega) | (simp; done) | (simp; omega)))⟩, ⟨_, rfl, .p (.of_eq (by first | rfl | (simp only [PV.lit.injEq, Value.int.injEq, true_and]; omega) | (simp; done) | (simp; omega)))⟩, ⟨_, rfl, .p (.of_eq (by first | rfl | rw [Pl.aheadF_len]))⟩, ⟨_, rfl, .p (.of_eq (by first | rfl | (simp only [PV.lit.injEq, Value.int.injEq, true_and]; omega) | (simp; done) | (simp; omega)))⟩, trivial⟩ ⟨⟨_, rfl, _, rfl, .liftE (by first | (rw [Pl.upto_nil (by simp), List.append_nil]; done) | (rw [← Pl.upto_snoc, ← List.append_assoc, ← Pl.fillL_set hnn hpl', List.map_set]; first | done | rfl) | trace_state)⟩, trivial⟩, by omega⟩
          · -- branch 9
            try simp only [hbx] at hb
            refine awp_exit ((if_pos rfl).mpr ?_)
            refine h10 _ ?_; clear h12; clear k12; clear h10; clear k10
            refine awp_region [] (by rw [hC]; rfl) fun k hk => ?_
            simp (maxSteps := 4000000) (disch := first | omega | (simp only [lens]; omega)) only [argSl, sm, ↓amb, mark_eq, ↓reduceIte, reduceCtorEq, Int.reduceBEq, Int.reduceBNe, Int.reduceToNat, Nat.reduceEqDiff, Nat.reduceAdd, Nat.reduceSub, Nat.reduceMul, Nat.reduceDiv, Nat.reduceMod, Nat.reduceLeDiff, Nat.reduceBEq, hen, dx]
            (repeat (refine ⟨by first | omega | (simp; done) | assumption | (unfold maxLen; omega) | (simp [maxLen]; omega), ?_⟩)); refine hk _ ?_; clear hk; clear k
            refine ⟨z + 1, by omega, le_of [(0, _)] (by rfl) (by rfl) ⟨⟨_, rfl, .p (.of_eq (by first | rfl | (simp only [PV.lit.injEq, Value.int.injEq, true_and]; omega) | (simp; done) | (simp; omega)))⟩, ⟨_, rfl, .p (.of_eq (by first | rfl | (simp only [PV.lit.injEq, Value.int.injEq, true_and]; omega) | (simp; done) | (simp; omega)))⟩, ⟨_, rfl, .fn rfl LeRow.nil.2⟩, ⟨_, rfl, .own rfl⟩, ⟨_, rfl, .p (.of_eq (by first | rfl | rw [Pl.allF_tots hf hl hB.1]))⟩, ⟨_, rfl, .p (.of_eq (by first | rfl | (simp only [PV.lit.injEq, Value.int.injEq, true_and]; omega) | (simp; done) | (simp; omega)))⟩, ⟨_, rfl, .p (.of_eq (by first | rfl | (simp only [PV.lit.injEq, Value.int.injEq, true_and]; omega) | (simp; done) | (simp; omega)))⟩, ⟨_, rfl, .p (.of_eq (by first | rfl | (simp only [PV.lit.injEq, Value.int.injEq, true_and]; omega) | (simp; done) | (simp; omega)))⟩, ⟨_, rfl, .p (.of_eq (by first | rfl | (simp only [PV.lit.injEq, Value.int.injEq, true_and]; omega) | (simp; done) | (simp; omega)))⟩, ⟨_, rfl, .p (.of_eq (by first | rfl | (simp only [PV.lit.injEq, Value.int.injEq, true_and]; omega) | (simp; done) | (simp; omega)))⟩, trivial⟩ ⟨⟨_, rfl, _, rfl, .liftE (by first | (rw [List.take_zero, List.flatMap_nil, Pl.fillL_nil, List.map_replicate]; done) | (rw [Pl.block_snoc (L := (Pl.ordU (Pl.blkN l.length B : Nat) p)) (z := z) (by omega) hu u1, show y = (Pl.part l B u).length by omega]; done) | trace_state)⟩, trivial⟩, by omega⟩
        · -- branch 10
          try simp only [hbx] at hb
          refine awp_exit ((if_pos rfl).mpr ?_)
          refine h7 _ ?_; clear h9; clear k9; clear h7; clear k7
          refine awp_le (le_keep [8, 9, 10]) ?_
          simp only [kp, argSl, Nat.reduceEqDiff, ↓reduceIte, reduceCtorEq, Nat.reduceAdd]
          have htk : (Pl.ordU (Pl.blkN l.length B : Nat) p).take z = (Pl.ordU (Pl.blkN l.length B : Nat) p) := List.take_of_length_le (by omega)
          rw [htk, Pl.fill_blocks hB hn hoo (fun j => Pl.allF f (l.take j))]
          refine awp_sr [] (by rw [hC]; rfl) fun k hk => ?_
          simp (maxSteps := 4000000) (disch := first | omega | (simp only [lens]; omega)) only [argSl, sm, ↓amb, mark_eq, ↓reduceIte, reduceCtorEq, Int.reduceBEq, Int.reduceBNe, Int.reduceToNat, Nat.reduceEqDiff, Nat.reduceAdd, Nat.reduceSub, Nat.reduceMul, Nat.reduceDiv, Nat.reduceMod, Nat.reduceLeDiff, Nat.reduceBEq, hen, dx]
          (repeat (refine ⟨by first | omega | (simp; done) | assumption | (unfold maxLen; omega) | (simp [maxLen]; omega), ?_⟩)); refine hk _ ?_; clear hk; clear k
          refine awp_ret ?_
          rw [(Pl.sc_yes hse).1, (Pl.sc_yes (f := f) hse).2.1, (Pl.sc_yes (f := f) hse).2.2, hse, Pl.blk_nat hB hn]
          refine reth4 rfl rfl rfl rfl rfl ?_
          exact le_of [] (by rfl) (by rfl) ⟨⟨_, rfl, leTup (LeRow.cons (.frz rfl (by rfl)) (LeRow.cons (.p (.refl _)) (LeRow.cons (.p (.refl _)) (LeRow.cons (.p (.refl _)) .nil))))⟩, trivial⟩ trivial
set_option maxHeartbeats 4000000 in
theorem c_scan_Sums (c d : Bool) (l : List Int) (b : Int) (p : Pl.Plan) (hl : ∀ x, x ∈ l → Pl.W32 x) : PCall Try.prog 52 [words c l, iV b, .agg (planC d p)] (.tup [words false (Pl.scL Pl.add32 l b p), u32V (Pl.scT Pl.add32 l b p), iV (Pl.scS l.length b p), iV (Pl.scE l.length b p)]) := by
  refine pcall_of_awp Try.func52 rfl (by simp [Try.ntmps52]) fun C hC => ?_
  refine awp_le (le_keep [0, 1, 2]) ?_
  simp only [kp, argSl, Nat.reduceEqDiff, ↓reduceIte, reduceCtorEq, Nat.reduceAdd]
  refine awp_sr [] (by rw [hC]; rfl) fun k hk => ?_
  simp (maxSteps := 4000000) (disch := first | omega | (simp only [lens]; omega)) only [argSl, sm, ↓amb, mark_eq, ↓reduceIte, reduceCtorEq, Int.reduceBEq, Int.reduceBNe, Int.reduceToNat, Nat.reduceEqDiff, Nat.reduceAdd, Nat.reduceSub, Nat.reduceMul, Nat.reduceDiv, Nat.reduceMod, Nat.reduceLeDiff, Nat.reduceBEq, dx, en66]
  (repeat (refine ⟨by first | omega | (simp; done) | assumption | (unfold maxLen; omega) | (simp [maxLen]; omega), ?_⟩)); refine hk _ ?_; clear hk; clear k
  refine awp_le (le_keep [0, 1, 5]) ?_
  simp only [kp, argSl, Nat.reduceEqDiff, ↓reduceIte, reduceCtorEq, Nat.reduceAdd]
  refine awp_sr [] (by rw [hC]; rfl) fun k hk => ?_
  simp (maxSteps := 4000000) (disch := first | omega | (simp only [lens]; omega)) only [argSl, sm, ↓amb, mark_eq, ↓reduceIte, reduceCtorEq, Int.reduceBEq, Int.reduceBNe, Int.reduceToNat, Nat.reduceEqDiff, Nat.reduceAdd, Nat.reduceSub, Nat.reduceMul, Nat.reduceDiv, Nat.reduceMod, Nat.reduceLeDiff, Nat.reduceBEq, sz26, en65, dx, en66]
  (repeat (refine ⟨by first | omega | (simp; done) | assumption | (unfold maxLen; omega) | (simp [maxLen]; omega), ?_⟩))
  refine callK_h (c_scan_phases c d l b p hl 66 en66 Pl.add32 Pl.rule_add (fun a b ha hb => c_scan_Sums_1 a b ha hb)) [] [] (by first | rfl | (simp only [hm]; done)) (by first | rfl | (simp [namesOk, lkp]; done)) ?_ ?_ ?_ ?_ ?_ ?_ ?_
  (iterate 6 (focus (first | trivial | (intro n hn; cases hn; done) | (simp (maxSteps := 4000000) (disch := first | omega | (simp only [lens]; omega)) only [argSl, sm, ↓amb, mark_eq, ↓reduceIte, reduceCtorEq, Int.reduceBEq, Int.reduceBNe, Int.reduceToNat, Nat.reduceEqDiff, Nat.reduceAdd, Nat.reduceSub, Nat.reduceMul, Nat.reduceDiv, Nat.reduceMod, Nat.reduceLeDiff, Nat.reduceBEq, sz26, en65, dx, en66, hmx, List.filter_cons, Nat.reduceBNe, imp_self, implies_true]; done))))
  simp (maxSteps := 4000000) (disch := first | omega | (simp only [lens]; omega)) only [argSl, sm, ↓amb, mark_eq, ↓reduceIte, reduceCtorEq, Int.reduceBEq, Int.reduceBNe, Int.reduceToNat, Nat.reduceEqDiff, Nat.reduceAdd, Nat.reduceSub, Nat.reduceMul, Nat.reduceDiv, Nat.reduceMod, Nat.reduceLeDiff, Nat.reduceBEq, sz26, en65, dx, en66, hm, List.filter_cons, List.filter_nil, Nat.reduceBNe, Option.map_none]
  (repeat (refine ⟨by first | omega | (simp; done) | assumption | (unfold maxLen; omega) | (simp [maxLen]; omega), ?_⟩)); refine hk _ ?_; clear hk; clear k
  refine awp_ret ?_
  refine ret4 rfl rfl rfl rfl rfl ?_ ?_ ?_ ?_
  · exact .p (LeP.refl _)
  · exact .p (LeP.refl _)
  · exact .p (LeP.refl _)
  · exact .p (LeP.refl _)
end Go.Proofs.Ytbehekmnccoifaa
