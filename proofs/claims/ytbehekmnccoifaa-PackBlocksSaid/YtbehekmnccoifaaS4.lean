/-
  A pass.
-/
import Derived.Test.YtbehekmnccoifaaS3
set_option linter.unusedSimpArgs false
set_option linter.unusedVariables false
set_option maxRecDepth 100000
namespace Go.Proofs.Ytbehekmnccoifaa
open Go.Am Go.Proofs
theorem el22 : tEl Try.prog 22 = some 41 := by kernel_rfl
theorem en74 : enters Try.prog 74 = true := by kernel_rfl
theorem sz41 : tSz Try.prog 41 = some (false, 1) := by kernel_rfl
set_option maxHeartbeats 4000000 in
theorem c_radix_by (c d : Bool) (l o : List Int) (t b : Int) (hl : ∀ x, x ∈ l → Pl.W32 x) (ho : Pl.onceP o l.length) (ht : 0 ≤ t ∧ t < Pl.pas b) (hn : l.length ≤ 1000000) : PCall Try.prog 60 [words c l, ints d o, iV t, iV b] (ints false (Pl.byP l o t b)) := by
  have hol := ho.1
  obtain ⟨p1, p2, p3⟩ := Pl.pas_b ht
  obtain ⟨B, hB⟩ : ∃ B : Nat, B = 2 ^ b.toNat := ⟨_, rfl⟩
  have hBN : 1 ≤ B ∧ B ≤ 65536 := by rw [hB]; exact Pl.pow16n (by omega)
  have hoN := Pl.onceP_nodup ho
  have hdA : ∀ x : Int, 0 ≤ Pl.digA l t b x ∧ Pl.digA l t b x < B := fun x => by rw [hB]; exact Pl.digA_b hl t b x
  have hdB := fun (x : Int) (_ : x ∈ o) => hdA x
  have hby : Pl.byP l o t b = Pl.bucket B (Pl.digA l t b) o := by rw [hB]; rfl
  have hwb : IntKind.i64.wrap (IntKind.i64.wrap (1 * 2 ^ min (b % 18446744073709551616).toNat IntKind.i64.bits) + 1) = ((B + 1 : Nat) : Int) := by
    rw [show (b % 18446744073709551616).toNat = b.toNat by congr 1; omega, Nat.min_eq_left (show b.toNat ≤ IntKind.i64.bits by show b.toNat ≤ 64; omega), Int.one_mul, show (2 : Int) ^ b.toNat = (B : Int) from by rw [hB, Int.natCast_pow]; rfl]
    rw [wrap64_of (x := (B : Int)) (by omega) (by omega), wrap64_of (x := (B : Int) + 1) (by omega) (by omega)]; rfl
  have hmL : B + 1 ≤ maxLen ∧ o.length ≤ maxLen := by unfold maxLen; omega
  rw [hby]
  clear hB hby
  refine pcall_of_awp Try.func60 rfl (by simp [Try.ntmps60]) fun C hC => ?_
  refine awp_le (le_keep [0, 1, 2, 3]) ?_
  simp only [kp, argSl, Nat.reduceEqDiff, ↓reduceIte, reduceCtorEq, Nat.reduceAdd]
  refine awp_sr [] (by rw [hC]; rfl) fun k hk => ?_
  simp (maxSteps := 4000000) (disch := first | omega | (simp only [lens]; omega)) only [argSl, sm, ↓amb, mark_eq, ↓reduceIte, reduceCtorEq, Int.reduceBEq, Int.reduceBNe, Int.reduceToNat, Nat.reduceEqDiff, Nat.reduceAdd, Nat.reduceSub, Nat.reduceMul, Nat.reduceDiv, Nat.reduceMod, Nat.reduceLeDiff, Nat.reduceBEq, wr_u64, wr_u32, hwb, Int.toNat_natCast, dx]
  (repeat (refine ⟨by first | omega | (simp; done) | assumption | (unfold maxLen; omega) | (simp [maxLen]; omega), ?_⟩)); refine hk _ ?_; clear hk; clear k
  refine awp_le (le_keep [0, 1, 2, 3]) ?_
  simp only [kp, argSl, Nat.reduceEqDiff, ↓reduceIte, reduceCtorEq, Nat.reduceAdd]
  refine awp_sr [] (by rw [hC]; rfl) fun k hk => ?_
  simp (maxSteps := 4000000) (disch := first | omega | (simp only [lens]; omega)) only [argSl, sm, ↓amb, mark_eq, ↓reduceIte, reduceCtorEq, Int.reduceBEq, Int.reduceBNe, Int.reduceToNat, Nat.reduceEqDiff, Nat.reduceAdd, Nat.reduceSub, Nat.reduceMul, Nat.reduceDiv, Nat.reduceMod, Nat.reduceLeDiff, Nat.reduceBEq, it81, un3, el33, by3, vr3, wr_u64, wr_u32, hwb, Int.toNat_natCast, dx]
  (repeat (refine ⟨by first | omega | (simp; done) | assumption | (unfold maxLen; omega) | (simp [maxLen]; omega), ?_⟩)); refine hk _ ?_; clear hk; clear k
  refine awp_seq fun k1 h1 => ?_
  refine awp_le (le_keep [0, 1, 2, 3, 8, 9]) ?_
  simp only [kp, argSl, Nat.reduceEqDiff, ↓reduceIte, reduceCtorEq, Nat.reduceAdd]
  refine awp_sr [] (by rw [hC]; rfl) fun k hk => ?_
  simp (maxSteps := 4000000) (disch := first | omega | (simp only [lens]; omega)) only [argSl, sm, ↓amb, mark_eq, ↓reduceIte, reduceCtorEq, Int.reduceBEq, Int.reduceBNe, Int.reduceToNat, Nat.reduceEqDiff, Nat.reduceAdd, Nat.reduceSub, Nat.reduceMul, Nat.reduceDiv, Nat.reduceMod, Nat.reduceLeDiff, Nat.reduceBEq, el33, wr_u64, wr_u32, hwb, Int.toNat_natCast, dx]
  (repeat (refine ⟨by first | omega | (simp; done) | assumption | (unfold maxLen; omega) | (simp [maxLen]; omega), ?_⟩)); refine hk _ ?_; clear hk; clear k
  refine awp_block ?_
  refine awp_loop (σ := Nat) (fun i => i ≤ o.length) (fun (i : Nat) => ⟨[(0, (.p (words c l))), (1, (.p (ints d o))), (2, (.p (iV t))), (3, (.p (iV b))), (9, (.own 0)), (22, (.p (ints d o))), (23, (.p (iV o.length))), (24, (.p (iV (i : Int))))], [(0, (.row 1 (lift ((Pl.tabL (B + 1) (Pl.cntT1 (Pl.digA l t b) o i)).map fun x => [iV x]))))], 1⟩) (fun i => o.length - i) 0 ?_ ?_ fun i hi => ?_
  · exact Nat.zero_le _
  · exact le_of [(0, _)] (by rfl) (by rfl) ⟨⟨_, rfl, .p (.of_eq (by first | rfl | (simp only [PV.lit.injEq, Value.int.injEq, true_and]; omega) | (simp; done) | (simp; omega)))⟩, ⟨_, rfl, .p (.of_eq (by first | rfl | (simp only [PV.lit.injEq, Value.int.injEq, true_and]; omega) | (simp; done) | (simp; omega)))⟩, ⟨_, rfl, .p (.of_eq (by first | rfl | (simp only [PV.lit.injEq, Value.int.injEq, true_and]; omega) | (simp; done) | (simp; omega)))⟩, ⟨_, rfl, .p (.of_eq (by first | rfl | (simp only [PV.lit.injEq, Value.int.injEq, true_and]; omega) | (simp; done) | (simp; omega)))⟩, ⟨_, rfl, .own rfl⟩, ⟨_, rfl, .p (.of_eq (by first | rfl | (simp only [PV.lit.injEq, Value.int.injEq, true_and]; omega) | (simp; done) | (simp; omega)))⟩, ⟨_, rfl, .p (.of_eq (by first | rfl | (simp only [PV.lit.injEq, Value.int.injEq, true_and]; omega) | (simp; done) | (simp; omega)))⟩, ⟨_, rfl, .p (.of_eq (by first | rfl | (simp only [PV.lit.injEq, Value.int.injEq, true_and]; omega) | (simp; done) | (simp; omega)))⟩, trivial⟩ ⟨⟨_, rfl, _, rfl, .liftE (by first | (rw [Pl.cnt1_0, List.map_replicate]; done) | (rw [hdw, ← Pl.cnt1_set (show i < o.length by omega) hdi, List.map_set]; first | done | rfl) | trace_state)⟩, trivial⟩
  refine awp_le (le_keep [0, 1, 2, 3, 8, 9, 22, 23, 24]) ?_
  simp only [kp, argSl, Nat.reduceEqDiff, ↓reduceIte, reduceCtorEq, Nat.reduceAdd]
  refine awp_sr [] (by rw [hC]; rfl) fun k hk => ?_
  simp (maxSteps := 4000000) (disch := first | omega | (simp only [lens]; omega)) only [argSl, sm, ↓amb, mark_eq, ↓reduceIte, reduceCtorEq, Int.reduceBEq, Int.reduceBNe, Int.reduceToNat, Nat.reduceEqDiff, Nat.reduceAdd, Nat.reduceSub, Nat.reduceMul, Nat.reduceDiv, Nat.reduceMod, Nat.reduceLeDiff, Nat.reduceBEq, wr_u64, wr_u32, hwb, Int.toNat_natCast, dx]
  (repeat (refine ⟨by first | omega | (simp; done) | assumption | (unfold maxLen; omega) | (simp [maxLen]; omega), ?_⟩)); refine hk _ ?_; clear hk; clear k
  refine awp_seq fun k3 h3 => ?_
  refine awp_cond rfl (fun hb => ?_) (fun hb => ?_)
  · -- branch 1
    try simp only [hbx] at hb
    refine awp_skip ?_
    refine h3 _ ?_; clear h3; clear k3
    refine awp_seq fun k4 h4 => ?_
    refine awp_block ?_
    refine awp_le (le_keep [0, 1, 2, 3, 8, 9, 22, 23, 24]) ?_
    simp only [kp, argSl, Nat.reduceEqDiff, ↓reduceIte, reduceCtorEq, Nat.reduceAdd]
    refine awp_sr [] (by rw [hC]; rfl) fun k hk => ?_
    simp (maxSteps := 4000000) (disch := first | omega | (simp only [lens]; omega)) only [argSl, sm, ↓amb, mark_eq, ↓reduceIte, reduceCtorEq, Int.reduceBEq, Int.reduceBNe, Int.reduceToNat, Nat.reduceEqDiff, Nat.reduceAdd, Nat.reduceSub, Nat.reduceMul, Nat.reduceDiv, Nat.reduceMod, Nat.reduceLeDiff, Nat.reduceBEq, el33, sz3, wr_u64, wr_u32, hwb, Int.toNat_natCast, dx]
    (repeat (refine ⟨by first | omega | (simp; done) | assumption | (unfold maxLen; omega) | (simp [maxLen]; omega), ?_⟩)); refine hk _ ?_; clear hk; clear k
    have hdi := hdA (o.getD i 0)
    have hdj : 0 ≤ (Pl.digW (l.getD (o.getD i 0).toNat 0) t b) ∧ (Pl.digW (l.getD (o.getD i 0).toNat 0) t b) < B := hdi
    have hdw : (((Pl.digW (l.getD (o.getD i 0).toNat 0) t b) + 1) % 4294967296).toNat = ((Pl.digA l t b) (o.getD i 0) + 1).toNat := by show (((Pl.digA l t b) (o.getD i 0) + 1) % 4294967296).toNat = _; omega
    have hoi := ho.2.1 _ (Pl.getD_mem o i 0 (by omega))
    have hwi := Pl.getD_w hl (o.getD i 0).toNat
    have htl := Pl.tabL_len (B + 1) (Pl.cntT1 (Pl.digA l t b) o i)
    have hgt := Pl.cnt1_up (Pl.digA l t b) o i (((Pl.digW (l.getD (o.getD i 0).toNat 0) t b) + 1) % 4294967296).toNat B (by omega)
    refine awp_region [] (by rw [hC]; rfl) fun k hk => ?_
    simp (maxSteps := 4000000) (disch := first | omega | (simp only [lens]; omega)) only [argSl, sm, ↓amb, mark_eq, ↓reduceIte, reduceCtorEq, Int.reduceBEq, Int.reduceBNe, Int.reduceToNat, Nat.reduceEqDiff, Nat.reduceAdd, Nat.reduceSub, Nat.reduceMul, Nat.reduceDiv, Nat.reduceMod, Nat.reduceLeDiff, Nat.reduceBEq, el22, sz41, en74, el33, sz3, wr_u64, wr_u32, hwb, Int.toNat_natCast, dx]
    (repeat (refine ⟨by first | omega | (simp; done) | assumption | (unfold maxLen; omega) | (simp [maxLen]; omega), ?_⟩))
    refine callK_p (c_radix_Digit _ _ _ hwi) rfl ?_
    simp (maxSteps := 4000000) (disch := first | omega | (simp only [lens]; omega)) only [argSl, sm, ↓amb, mark_eq, ↓reduceIte, reduceCtorEq, Int.reduceBEq, Int.reduceBNe, Int.reduceToNat, Nat.reduceEqDiff, Nat.reduceAdd, Nat.reduceSub, Nat.reduceMul, Nat.reduceDiv, Nat.reduceMod, Nat.reduceLeDiff, Nat.reduceBEq, el22, sz41, en74, el33, sz3, wr_u64, wr_u32, hwb, Int.toNat_natCast, dx]
    (repeat (refine ⟨by first | omega | (simp; done) | assumption | (unfold maxLen; omega) | (simp [maxLen]; omega), ?_⟩)); refine hk _ ?_; clear hk; clear k
    refine h4 _ ?_; clear h4; clear k4
    refine awp_region [] (by rw [hC]; rfl) fun k hk => ?_
    simp (maxSteps := 4000000) (disch := first | omega | (simp only [lens]; omega)) only [argSl, sm, ↓amb, mark_eq, ↓reduceIte, reduceCtorEq, Int.reduceBEq, Int.reduceBNe, Int.reduceToNat, Nat.reduceEqDiff, Nat.reduceAdd, Nat.reduceSub, Nat.reduceMul, Nat.reduceDiv, Nat.reduceMod, Nat.reduceLeDiff, Nat.reduceBEq, wr_u64, wr_u32, hwb, Int.toNat_natCast, dx]
    (repeat (refine ⟨by first | omega | (simp; done) | assumption | (unfold maxLen; omega) | (simp [maxLen]; omega), ?_⟩)); refine hk _ ?_; clear hk; clear k
    refine ⟨i + 1, by omega, le_of [(0, _)] (by rfl) (by rfl) ⟨⟨_, rfl, .p (.of_eq (by first | rfl | (simp only [PV.lit.injEq, Value.int.injEq, true_and]; omega) | (simp; done) | (simp; omega)))⟩, ⟨_, rfl, .p (.of_eq (by first | rfl | (simp only [PV.lit.injEq, Value.int.injEq, true_and]; omega) | (simp; done) | (simp; omega)))⟩, ⟨_, rfl, .p (.of_eq (by first | rfl | (simp only [PV.lit.injEq, Value.int.injEq, true_and]; omega) | (simp; done) | (simp; omega)))⟩, ⟨_, rfl, .p (.of_eq (by first | rfl | (simp only [PV.lit.injEq, Value.int.injEq, true_and]; omega) | (simp; done) | (simp; omega)))⟩, ⟨_, rfl, .own rfl⟩, ⟨_, rfl, .p (.of_eq (by first | rfl | (simp only [PV.lit.injEq, Value.int.injEq, true_and]; omega) | (simp; done) | (simp; omega)))⟩, ⟨_, rfl, .p (.of_eq (by first | rfl | (simp only [PV.lit.injEq, Value.int.injEq, true_and]; omega) | (simp; done) | (simp; omega)))⟩, ⟨_, rfl, .p (.of_eq (by first | rfl | (simp only [PV.lit.injEq, Value.int.injEq, true_and]; omega) | (simp; done) | (simp; omega)))⟩, trivial⟩ ⟨⟨_, rfl, _, rfl, .liftE (by first | (rw [Pl.cnt1_0, List.map_replicate]; done) | (rw [hdw, ← Pl.cnt1_set (show i < o.length by omega) hdi, List.map_set]; first | done | rfl) | trace_state)⟩, trivial⟩, by omega⟩
  · -- branch 2
    try simp only [hbx] at hb
    refine awp_exit ((if_pos rfl).mpr ?_)
    refine h1 _ ?_; clear h3; clear k3; clear h1; clear k1
    refine awp_seq fun k5 h5 => ?_
    refine awp_le (le_keep [0, 1, 2, 3, 8, 9]) ?_
    simp only [kp, argSl, Nat.reduceEqDiff, ↓reduceIte, reduceCtorEq, Nat.reduceAdd]
    obtain rfl : i = o.length := by omega
    rw [Pl.cnt1_2]
    have htl := Pl.tabL_len (B + 1) (Pl.cntT2 (Pl.digA l t b) o 0)
    refine awp_sr [] (by rw [hC]; rfl) fun k hk => ?_
    simp (maxSteps := 4000000) (disch := first | omega | (simp only [lens]; omega)) only [argSl, sm, ↓amb, mark_eq, ↓reduceIte, reduceCtorEq, Int.reduceBEq, Int.reduceBNe, Int.reduceToNat, Nat.reduceEqDiff, Nat.reduceAdd, Nat.reduceSub, Nat.reduceMul, Nat.reduceDiv, Nat.reduceMod, Nat.reduceLeDiff, Nat.reduceBEq, el33, wr_u64, wr_u32, hwb, Int.toNat_natCast, dx]
    (repeat (refine ⟨by first | omega | (simp; done) | assumption | (unfold maxLen; omega) | (simp [maxLen]; omega), ?_⟩)); refine hk _ ?_; clear hk; clear k
    refine awp_block ?_
    refine awp_loop (σ := Nat) (fun v => v ≤ B) (fun (v : Nat) => ⟨[(0, (.p (words c l))), (1, (.p (ints d o))), (2, (.p (iV t))), (3, (.p (iV b))), (9, (.own 0)), (44, (.p (iV ((B : Nat) : Int)))), (45, (.p (iV (v : Int))))], [(0, (.row 1 (lift ((Pl.tabL (B + 1) (Pl.cntT2 (Pl.digA l t b) o v)).map fun x => [iV x]))))], 1⟩) (fun v => B - v) 0 ?_ ?_ fun v hv => ?_
    · exact Nat.zero_le _
    · exact le_of [(0, _)] (by rfl) (by rfl) ⟨⟨_, rfl, .p (.of_eq (by first | rfl | (simp only [PV.lit.injEq, Value.int.injEq, true_and]; omega) | (simp; done) | (simp; omega)))⟩, ⟨_, rfl, .p (.of_eq (by first | rfl | (simp only [PV.lit.injEq, Value.int.injEq, true_and]; omega) | (simp; done) | (simp; omega)))⟩, ⟨_, rfl, .p (.of_eq (by first | rfl | (simp only [PV.lit.injEq, Value.int.injEq, true_and]; omega) | (simp; done) | (simp; omega)))⟩, ⟨_, rfl, .p (.of_eq (by first | rfl | (simp only [PV.lit.injEq, Value.int.injEq, true_and]; omega) | (simp; done) | (simp; omega)))⟩, ⟨_, rfl, .own rfl⟩, ⟨_, rfl, .p (.of_eq (by first | rfl | (simp only [PV.lit.injEq, Value.int.injEq, true_and]; omega) | (simp; done) | (simp; omega)))⟩, ⟨_, rfl, .p (.of_eq (by first | rfl | (simp only [PV.lit.injEq, Value.int.injEq, true_and]; omega) | (simp; done) | (simp; omega)))⟩, trivial⟩ ⟨⟨_, rfl, _, rfl, .liftE (by first | rfl | (rw [← Pl.cnt2_set (by omega), List.map_set]; first | done | rfl) | trace_state)⟩, trivial⟩
    refine awp_le (le_keep [0, 1, 2, 3, 8, 9, 44, 45]) ?_
    simp only [kp, argSl, Nat.reduceEqDiff, ↓reduceIte, reduceCtorEq, Nat.reduceAdd]
    refine awp_sr [] (by rw [hC]; rfl) fun k hk => ?_
    simp (maxSteps := 4000000) (disch := first | omega | (simp only [lens]; omega)) only [argSl, sm, ↓amb, mark_eq, ↓reduceIte, reduceCtorEq, Int.reduceBEq, Int.reduceBNe, Int.reduceToNat, Nat.reduceEqDiff, Nat.reduceAdd, Nat.reduceSub, Nat.reduceMul, Nat.reduceDiv, Nat.reduceMod, Nat.reduceLeDiff, Nat.reduceBEq, wr_u64, wr_u32, hwb, Int.toNat_natCast, dx]
    (repeat (refine ⟨by first | omega | (simp; done) | assumption | (unfold maxLen; omega) | (simp [maxLen]; omega), ?_⟩)); refine hk _ ?_; clear hk; clear k
    refine awp_seq fun k7 h7 => ?_
    refine awp_cond rfl (fun hb => ?_) (fun hb => ?_)
    · -- branch 3
      try simp only [hbx] at hb
      refine awp_skip ?_
      refine h7 _ ?_; clear h7; clear k7
      refine awp_seq fun k8 h8 => ?_
      refine awp_block ?_
      refine awp_le (le_keep [0, 1, 2, 3, 8, 9, 44, 45]) ?_
      simp only [kp, argSl, Nat.reduceEqDiff, ↓reduceIte, reduceCtorEq, Nat.reduceAdd]
      refine awp_sr [] (by rw [hC]; rfl) fun k hk => ?_
      simp (maxSteps := 4000000) (disch := first | omega | (simp only [lens]; omega)) only [argSl, sm, ↓amb, mark_eq, ↓reduceIte, reduceCtorEq, Int.reduceBEq, Int.reduceBNe, Int.reduceToNat, Nat.reduceEqDiff, Nat.reduceAdd, Nat.reduceSub, Nat.reduceMul, Nat.reduceDiv, Nat.reduceMod, Nat.reduceLeDiff, Nat.reduceBEq, wr_u64, wr_u32, hwb, Int.toNat_natCast, dx]
      (repeat (refine ⟨by first | omega | (simp; done) | assumption | (unfold maxLen; omega) | (simp [maxLen]; omega), ?_⟩)); refine hk _ ?_; clear hk; clear k
      have htl := Pl.tabL_len (B + 1) (Pl.cntT2 (Pl.digA l t b) o v)
      have hg1 := Pl.cnt2_up hdB hoN v v (by omega)
      have hg2 := Pl.cnt2_up hdB hoN v (v + 1) (by omega)
      refine awp_draw [] ⟨[0, 0, 2, 7, 15, 0, 0, 96, 224, 511, 1023, 2047], [3, 4, 7, 8, 10], [11], [], some [0]⟩ (by rw [hC]; rfl) (by kernel_rfl) (by kernel_rfl) fun k hk => ?_
      simp (maxSteps := 4000000) (disch := first | omega | (simp only [lens]; omega)) only [argSl, sm, ↓amb, mark_eq, ↓reduceIte, reduceCtorEq, Int.reduceBEq, Int.reduceBNe, Int.reduceToNat, Nat.reduceEqDiff, Nat.reduceAdd, Nat.reduceSub, Nat.reduceMul, Nat.reduceDiv, Nat.reduceMod, Nat.reduceLeDiff, Nat.reduceBEq, el33, sz3, wr_u64, wr_u32, hwb, Int.toNat_natCast, dx]
      (repeat (refine ⟨by first | omega | (simp; done) | assumption | (unfold maxLen; omega) | (simp [maxLen]; omega), ?_⟩)); refine hk _ ?_; clear hk; clear k
      refine h8 _ ?_; clear h8; clear k8
      refine awp_region [] (by rw [hC]; rfl) fun k hk => ?_
      simp (maxSteps := 4000000) (disch := first | omega | (simp only [lens]; omega)) only [argSl, sm, ↓amb, mark_eq, ↓reduceIte, reduceCtorEq, Int.reduceBEq, Int.reduceBNe, Int.reduceToNat, Nat.reduceEqDiff, Nat.reduceAdd, Nat.reduceSub, Nat.reduceMul, Nat.reduceDiv, Nat.reduceMod, Nat.reduceLeDiff, Nat.reduceBEq, wr_u64, wr_u32, hwb, Int.toNat_natCast, dx]
      (repeat (refine ⟨by first | omega | (simp; done) | assumption | (unfold maxLen; omega) | (simp [maxLen]; omega), ?_⟩)); refine hk _ ?_; clear hk; clear k
      refine ⟨v + 1, by omega, le_of [(0, _)] (by rfl) (by rfl) ⟨⟨_, rfl, .p (.of_eq (by first | rfl | (simp only [PV.lit.injEq, Value.int.injEq, true_and]; omega) | (simp; done) | (simp; omega)))⟩, ⟨_, rfl, .p (.of_eq (by first | rfl | (simp only [PV.lit.injEq, Value.int.injEq, true_and]; omega) | (simp; done) | (simp; omega)))⟩, ⟨_, rfl, .p (.of_eq (by first | rfl | (simp only [PV.lit.injEq, Value.int.injEq, true_and]; omega) | (simp; done) | (simp; omega)))⟩, ⟨_, rfl, .p (.of_eq (by first | rfl | (simp only [PV.lit.injEq, Value.int.injEq, true_and]; omega) | (simp; done) | (simp; omega)))⟩, ⟨_, rfl, .own rfl⟩, ⟨_, rfl, .p (.of_eq (by first | rfl | (simp only [PV.lit.injEq, Value.int.injEq, true_and]; omega) | (simp; done) | (simp; omega)))⟩, ⟨_, rfl, .p (.of_eq (by first | rfl | (simp only [PV.lit.injEq, Value.int.injEq, true_and]; omega) | (simp; done) | (simp; omega)))⟩, trivial⟩ ⟨⟨_, rfl, _, rfl, .liftE (by first | rfl | (rw [← Pl.cnt2_set (by omega), List.map_set]; first | done | rfl) | trace_state)⟩, trivial⟩, by omega⟩
    · -- branch 4
      try simp only [hbx] at hb
      refine awp_exit ((if_pos rfl).mpr ?_)
      refine h5 _ ?_; clear h7; clear k7; clear h5; clear k5
      refine awp_le (le_keep [0, 1, 2, 3, 9]) ?_
      simp only [kp, argSl, Nat.reduceEqDiff, ↓reduceIte, reduceCtorEq, Nat.reduceAdd]
      obtain rfl : B = v := by omega
      rw [Pl.cnt2_3]
      refine awp_sr [] (by rw [hC]; rfl) fun k hk => ?_
      simp (maxSteps := 4000000) (disch := first | omega | (simp only [lens]; omega)) only [argSl, sm, ↓amb, mark_eq, ↓reduceIte, reduceCtorEq, Int.reduceBEq, Int.reduceBNe, Int.reduceToNat, Nat.reduceEqDiff, Nat.reduceAdd, Nat.reduceSub, Nat.reduceMul, Nat.reduceDiv, Nat.reduceMod, Nat.reduceLeDiff, Nat.reduceBEq, el33, by3, vr3, wr_u64, wr_u32, hwb, Int.toNat_natCast, dx]
      (repeat (refine ⟨by first | omega | (simp; done) | assumption | (unfold maxLen; omega) | (simp [maxLen]; omega), ?_⟩)); refine hk _ ?_; clear hk; clear k
      refine awp_seq fun k9 h9 => ?_
      refine awp_le (le_keep [0, 1, 2, 3, 8, 9, 13]) ?_
      simp only [kp, argSl, Nat.reduceEqDiff, ↓reduceIte, reduceCtorEq, Nat.reduceAdd]
      refine awp_sr [] (by rw [hC]; rfl) fun k hk => ?_
      simp (maxSteps := 4000000) (disch := first | omega | (simp only [lens]; omega)) only [argSl, sm, ↓amb, mark_eq, ↓reduceIte, reduceCtorEq, Int.reduceBEq, Int.reduceBNe, Int.reduceToNat, Nat.reduceEqDiff, Nat.reduceAdd, Nat.reduceSub, Nat.reduceMul, Nat.reduceDiv, Nat.reduceMod, Nat.reduceLeDiff, Nat.reduceBEq, el33, wr_u64, wr_u32, hwb, Int.toNat_natCast, dx]
      (repeat (refine ⟨by first | omega | (simp; done) | assumption | (unfold maxLen; omega) | (simp [maxLen]; omega), ?_⟩)); refine hk _ ?_; clear hk; clear k
      refine awp_block ?_
      refine awp_loop (σ := Nat) (fun i => i ≤ o.length) (fun (i : Nat) => ⟨[(0, (.p (words c l))), (1, (.p (ints d o))), (2, (.p (iV t))), (3, (.p (iV b))), (9, (.own 0)), (13, (.own 1)), (63, (.p (ints d o))), (64, (.p (iV o.length))), (65, (.p (iV (i : Int))))], [(0, (.row 1 (lift ((Pl.tabL (B + 1) (Pl.cntT3 B (Pl.digA l t b) o i)).map fun x => [iV x])))), (1, (.row 1 (lift ((Pl.fillL o.length (Pl.posL (Pl.digA l t b) o i) (fun j => (Pl.bucket B (Pl.digA l t b) o).getD j 0)).map fun x => [iV x]))))], 1⟩) (fun i => o.length - i) 0 ?_ ?_ fun i hi => ?_
      · exact Nat.zero_le _
      · exact le_of [(0, _), (1, _)] (by rfl) (by rfl) ⟨⟨_, rfl, .p (.of_eq (by first | rfl | (simp only [PV.lit.injEq, Value.int.injEq, true_and]; omega) | (simp; done) | (simp; omega)))⟩, ⟨_, rfl, .p (.of_eq (by first | rfl | (simp only [PV.lit.injEq, Value.int.injEq, true_and]; omega) | (simp; done) | (simp; omega)))⟩, ⟨_, rfl, .p (.of_eq (by first | rfl | (simp only [PV.lit.injEq, Value.int.injEq, true_and]; omega) | (simp; done) | (simp; omega)))⟩, ⟨_, rfl, .p (.of_eq (by first | rfl | (simp only [PV.lit.injEq, Value.int.injEq, true_and]; omega) | (simp; done) | (simp; omega)))⟩, ⟨_, rfl, .own rfl⟩, ⟨_, rfl, .own rfl⟩, ⟨_, rfl, .p (.of_eq (by first | rfl | (simp only [PV.lit.injEq, Value.int.injEq, true_and]; omega) | (simp; done) | (simp; omega)))⟩, ⟨_, rfl, .p (.of_eq (by first | rfl | (simp only [PV.lit.injEq, Value.int.injEq, true_and]; omega) | (simp; done) | (simp; omega)))⟩, ⟨_, rfl, .p (.of_eq (by first | rfl | (simp only [PV.lit.injEq, Value.int.injEq, true_and]; omega) | (simp; done) | (simp; omega)))⟩, trivial⟩ ⟨⟨_, rfl, _, rfl, .liftE (by first | rfl | (rw [hcg, ← Pl.cnt3_set (show i < o.length by omega) hdi, List.map_set]; first | done | rfl) | trace_state)⟩, ⟨_, rfl, _, rfl, .liftE (by first | (rw [show Pl.posL (Pl.digA l t b) o 0 = [] from rfl, Pl.fillL_nil, List.map_replicate]; done) | (rw [hcg, Pl.posL_succ, ← Pl.fillL_set (Int.natCast_nonneg _) (x := o.getD i 0) hpl.2.symm, List.map_set]; first | done | rfl) | trace_state)⟩, trivial⟩
      refine awp_le (le_keep [0, 1, 2, 3, 8, 9, 13, 63, 64, 65]) ?_
      simp only [kp, argSl, Nat.reduceEqDiff, ↓reduceIte, reduceCtorEq, Nat.reduceAdd]
      refine awp_sr [] (by rw [hC]; rfl) fun k hk => ?_
      simp (maxSteps := 4000000) (disch := first | omega | (simp only [lens]; omega)) only [argSl, sm, ↓amb, mark_eq, ↓reduceIte, reduceCtorEq, Int.reduceBEq, Int.reduceBNe, Int.reduceToNat, Nat.reduceEqDiff, Nat.reduceAdd, Nat.reduceSub, Nat.reduceMul, Nat.reduceDiv, Nat.reduceMod, Nat.reduceLeDiff, Nat.reduceBEq, wr_u64, wr_u32, hwb, Int.toNat_natCast, dx]
      (repeat (refine ⟨by first | omega | (simp; done) | assumption | (unfold maxLen; omega) | (simp [maxLen]; omega), ?_⟩)); refine hk _ ?_; clear hk; clear k
      refine awp_seq fun k11 h11 => ?_
      refine awp_cond rfl (fun hb => ?_) (fun hb => ?_)
      · -- branch 5
        try simp only [hbx] at hb
        refine awp_skip ?_
        refine h11 _ ?_; clear h11; clear k11
        refine awp_seq fun k12 h12 => ?_
        refine awp_block ?_
        refine awp_le (le_keep [0, 1, 2, 3, 8, 9, 13, 63, 64, 65]) ?_
        simp only [kp, argSl, Nat.reduceEqDiff, ↓reduceIte, reduceCtorEq, Nat.reduceAdd]
        refine awp_sr [] (by rw [hC]; rfl) fun k hk => ?_
        simp (maxSteps := 4000000) (disch := first | omega | (simp only [lens]; omega)) only [argSl, sm, ↓amb, mark_eq, ↓reduceIte, reduceCtorEq, Int.reduceBEq, Int.reduceBNe, Int.reduceToNat, Nat.reduceEqDiff, Nat.reduceAdd, Nat.reduceSub, Nat.reduceMul, Nat.reduceDiv, Nat.reduceMod, Nat.reduceLeDiff, Nat.reduceBEq, el33, sz3, wr_u64, wr_u32, hwb, Int.toNat_natCast, dx]
        (repeat (refine ⟨by first | omega | (simp; done) | assumption | (unfold maxLen; omega) | (simp [maxLen]; omega), ?_⟩)); refine hk _ ?_; clear hk; clear k
        refine awp_le (le_keep [0, 1, 2, 3, 8, 9, 13, 15, 63, 64, 65]) ?_
        simp only [kp, argSl, Nat.reduceEqDiff, ↓reduceIte, reduceCtorEq, Nat.reduceAdd]
        have hdi := hdA (o.getD i 0)
        have hdj : 0 ≤ (Pl.digW (l.getD (o.getD i 0).toNat 0) t b) ∧ (Pl.digW (l.getD (o.getD i 0).toNat 0) t b) < B := hdi
        have hdw : (((Pl.digW (l.getD (o.getD i 0).toNat 0) t b) + 1) % 4294967296).toNat = ((Pl.digA l t b) (o.getD i 0) + 1).toNat := by show (((Pl.digA l t b) (o.getD i 0) + 1) % 4294967296).toNat = _; omega
        have hoi := ho.2.1 _ (Pl.getD_mem o i 0 (by omega))
        have hwi := Pl.getD_w hl (o.getD i 0).toNat
        refine awp_sr [] (by rw [hC]; rfl) fun k hk => ?_
        simp (maxSteps := 4000000) (disch := first | omega | (simp only [lens]; omega)) only [argSl, sm, ↓amb, mark_eq, ↓reduceIte, reduceCtorEq, Int.reduceBEq, Int.reduceBNe, Int.reduceToNat, Nat.reduceEqDiff, Nat.reduceAdd, Nat.reduceSub, Nat.reduceMul, Nat.reduceDiv, Nat.reduceMod, Nat.reduceLeDiff, Nat.reduceBEq, el22, sz41, en74, wr_u64, wr_u32, hwb, Int.toNat_natCast, dx]
        (repeat (refine ⟨by first | omega | (simp; done) | assumption | (unfold maxLen; omega) | (simp [maxLen]; omega), ?_⟩))
        refine callK_p (c_radix_Digit _ _ _ hwi) rfl ?_
        simp (maxSteps := 4000000) (disch := first | omega | (simp only [lens]; omega)) only [argSl, sm, ↓amb, mark_eq, ↓reduceIte, reduceCtorEq, Int.reduceBEq, Int.reduceBNe, Int.reduceToNat, Nat.reduceEqDiff, Nat.reduceAdd, Nat.reduceSub, Nat.reduceMul, Nat.reduceDiv, Nat.reduceMod, Nat.reduceLeDiff, Nat.reduceBEq, el22, sz41, en74, wr_u64, wr_u32, hwb, Int.toNat_natCast, dx]
        (repeat (refine ⟨by first | omega | (simp; done) | assumption | (unfold maxLen; omega) | (simp [maxLen]; omega), ?_⟩)); refine hk _ ?_; clear hk; clear k
        refine awp_le (le_keep [0, 1, 2, 3, 8, 9, 13, 15, 16, 63, 64, 65]) ?_
        simp only [kp, argSl, Nat.reduceEqDiff, ↓reduceIte, reduceCtorEq, Nat.reduceAdd]
        have htl := Pl.tabL_len (B + 1) (Pl.cntT3 B (Pl.digA l t b) o i)
        have hfl := Pl.fillL_len o.length (Pl.posL (Pl.digA l t b) o i) (fun j => (Pl.bucket B (Pl.digA l t b) o).getD j 0)
        have hcg : (Pl.tabL (B + 1) (Pl.cntT3 B (Pl.digA l t b) o i)).getD (Pl.digW (l.getD (o.getD i 0).toNat 0) t b).toNat 0 = (Pl.posB (Pl.digA l t b) o i : Int) := Pl.cnt3_get (B := B) (show i < o.length by omega) hdi
        have hpl := Pl.posB_lt (show i < o.length by omega) hdB hoN
        refine awp_sr [] (by rw [hC]; rfl) fun k hk => ?_
        simp (maxSteps := 4000000) (disch := first | omega | (simp only [lens]; omega)) only [argSl, sm, ↓amb, mark_eq, ↓reduceIte, reduceCtorEq, Int.reduceBEq, Int.reduceBNe, Int.reduceToNat, Nat.reduceEqDiff, Nat.reduceAdd, Nat.reduceSub, Nat.reduceMul, Nat.reduceDiv, Nat.reduceMod, Nat.reduceLeDiff, Nat.reduceBEq, el33, sz3, wr_u64, wr_u32, hwb, Int.toNat_natCast, dx]
        (repeat (refine ⟨by first | omega | (simp; done) | assumption | (unfold maxLen; omega) | (simp [maxLen]; omega), ?_⟩)); refine hk _ ?_; clear hk; clear k
        refine awp_region [] (by rw [hC]; rfl) fun k hk => ?_
        simp (maxSteps := 4000000) (disch := first | omega | (simp only [lens]; omega)) only [argSl, sm, ↓amb, mark_eq, ↓reduceIte, reduceCtorEq, Int.reduceBEq, Int.reduceBNe, Int.reduceToNat, Nat.reduceEqDiff, Nat.reduceAdd, Nat.reduceSub, Nat.reduceMul, Nat.reduceDiv, Nat.reduceMod, Nat.reduceLeDiff, Nat.reduceBEq, el33, sz3, wr_u64, wr_u32, hwb, Int.toNat_natCast, dx]
        (repeat (refine ⟨by first | omega | (simp; done) | assumption | (unfold maxLen; omega) | (simp [maxLen]; omega), ?_⟩)); refine hk _ ?_; clear hk; clear k
        refine h12 _ ?_; clear h12; clear k12
        refine awp_region [] (by rw [hC]; rfl) fun k hk => ?_
        simp (maxSteps := 4000000) (disch := first | omega | (simp only [lens]; omega)) only [argSl, sm, ↓amb, mark_eq, ↓reduceIte, reduceCtorEq, Int.reduceBEq, Int.reduceBNe, Int.reduceToNat, Nat.reduceEqDiff, Nat.reduceAdd, Nat.reduceSub, Nat.reduceMul, Nat.reduceDiv, Nat.reduceMod, Nat.reduceLeDiff, Nat.reduceBEq, wr_u64, wr_u32, hwb, Int.toNat_natCast, dx]
        (repeat (refine ⟨by first | omega | (simp; done) | assumption | (unfold maxLen; omega) | (simp [maxLen]; omega), ?_⟩)); refine hk _ ?_; clear hk; clear k
        refine ⟨i + 1, by omega, le_of [(0, _), (1, _)] (by rfl) (by rfl) ⟨⟨_, rfl, .p (.of_eq (by first | rfl | (simp only [PV.lit.injEq, Value.int.injEq, true_and]; omega) | (simp; done) | (simp; omega)))⟩, ⟨_, rfl, .p (.of_eq (by first | rfl | (simp only [PV.lit.injEq, Value.int.injEq, true_and]; omega) | (simp; done) | (simp; omega)))⟩, ⟨_, rfl, .p (.of_eq (by first | rfl | (simp only [PV.lit.injEq, Value.int.injEq, true_and]; omega) | (simp; done) | (simp; omega)))⟩, ⟨_, rfl, .p (.of_eq (by first | rfl | (simp only [PV.lit.injEq, Value.int.injEq, true_and]; omega) | (simp; done) | (simp; omega)))⟩, ⟨_, rfl, .own rfl⟩, ⟨_, rfl, .own rfl⟩, ⟨_, rfl, .p (.of_eq (by first | rfl | (simp only [PV.lit.injEq, Value.int.injEq, true_and]; omega) | (simp; done) | (simp; omega)))⟩, ⟨_, rfl, .p (.of_eq (by first | rfl | (simp only [PV.lit.injEq, Value.int.injEq, true_and]; omega) | (simp; done) | (simp; omega)))⟩, ⟨_, rfl, .p (.of_eq (by first | rfl | (simp only [PV.lit.injEq, Value.int.injEq, true_and]; omega) | (simp; done) | (simp; omega)))⟩, trivial⟩ ⟨⟨_, rfl, _, rfl, .liftE (by first | rfl | (rw [hcg, ← Pl.cnt3_set (show i < o.length by omega) hdi, List.map_set]; first | done | rfl) | trace_state)⟩, ⟨_, rfl, _, rfl, .liftE (by first | (rw [show Pl.posL (Pl.digA l t b) o 0 = [] from rfl, Pl.fillL_nil, List.map_replicate]; done) | (rw [hcg, Pl.posL_succ, ← Pl.fillL_set (Int.natCast_nonneg _) (x := o.getD i 0) hpl.2.symm, List.map_set]; first | done | rfl) | trace_state)⟩, trivial⟩, by omega⟩
      · -- branch 6
        try simp only [hbx] at hb
        refine awp_exit ((if_pos rfl).mpr ?_)
        refine h9 _ ?_; clear h11; clear k11; clear h9; clear k9
        refine awp_le (le_keep [13]) ?_
        simp only [kp, argSl, Nat.reduceEqDiff, ↓reduceIte, reduceCtorEq, Nat.reduceAdd]
        obtain rfl : i = o.length := by omega
        rw [show Pl.fillL o.length (Pl.posL (Pl.digA l t b) o o.length) (fun j => (Pl.bucket B (Pl.digA l t b) o).getD j 0) = (Pl.bucket B (Pl.digA l t b) o) from Pl.filled hdB hoN]
        refine awp_sr [] (by rw [hC]; rfl) fun k hk => ?_
        simp (maxSteps := 4000000) (disch := first | omega | (simp only [lens]; omega)) only [argSl, sm, ↓amb, mark_eq, ↓reduceIte, reduceCtorEq, Int.reduceBEq, Int.reduceBNe, Int.reduceToNat, Nat.reduceEqDiff, Nat.reduceAdd, Nat.reduceSub, Nat.reduceMul, Nat.reduceDiv, Nat.reduceMod, Nat.reduceLeDiff, Nat.reduceBEq, wr_u64, wr_u32, hwb, Int.toNat_natCast, dx]
        (repeat (refine ⟨by first | omega | (simp; done) | assumption | (unfold maxLen; omega) | (simp [maxLen]; omega), ?_⟩)); refine hk _ ?_; clear hk; clear k
        refine awp_ret ?_
        refine ret1 rfl rfl ?_
        exact .ownE rfl rfl
end Go.Proofs.Ytbehekmnccoifaa
