/-
  ScanAnswers, part 7 of 7: what the proof that the law holds at whatever arguments stands on; the last part holds the theorem. No condition.
-/
import Derived.Test.YthelnccjcbnjfaaScanAnswersZ6
import Derived.Test.YthelnccjcbnjfaaRows
section
set_option linter.unusedSimpArgs false
set_option linter.unusedVariables false
set_option maxRecDepth 100000
namespace Go.Proofs.Ythelnccjcbnjfaa
open Go.Am Go.Proofs
set_option maxHeartbeats 4000000 in
theorem c_phases_o (c d : Bool) (l : List Int) (b : Int) (p : Pl.Plan) (hl : ∀ x, x ∈ l → Pl.W32 x) (F : FuncId) (hen : enters Try.prog F = true) (f : Int → Int → Int) (hf : Pl.Rule f) (hF : ∀ a b : Int, Pl.W32 a → Pl.W32 b → PCall Try.prog F [u32V a, u32V b] (u32V (f a b))) (hse0 : Pl.scE l.length b p = 0) : HCall Try.prog 63 [.p (words c l), .p (iV b), .p (.agg (planC d p)), .fn F []] [] (.tup [.own 0, .p (u32V (Pl.scT f l b p)), .p (iV (Pl.scS l.length b p)), .p (iV (Pl.scE l.length b p))]) [(0, (.row 1 (lift ((Pl.aheadF f l).map fun x => [u32V x]))))] := by
 refine hcall_of_awp Try.func63 rfl (by simp [Try.ntmps63]) fun C hC => ?_
 refine awp_le (le_keep [0, 1, 2, 3]) ?_
 simp only [kp, argSl, simprocAttr]
 refine awp_sr [] (by rw [hC]; rfl) fun k hk => ?_
 simp (maxSteps := 9^9) (disch := (try simp only [lens]); omega) only [argSl, sm, ↓amb, mark_eq, simprocAttr, hen, dx]
 repeat refine ⟨by first | omega | (simp; done) | (unfold maxLen; omega) | (simp [maxLen]; omega) | assumption, ?_⟩
 refine hk _ ?_; clear hk k
 refine awp_seq fun k1 h1 => ?_
 refine awp_test [] 31 (decide (¬ ((1 ≤ b ∧ b ≤ 100) ∧ l.length ≤ 1000))) [0, 1, 3, 6, 8, 9, 10, 11] (by rw [hC]; rfl) (fun gd hgd k hk => ?_) ?_
 ·have g3 : gd 3 = some 27 := by rw [hgd]; rfl
  clear hgd
  simp (maxSteps := 9^9) (disch := (try simp only [lens]); omega) only [argSl, sm, ↓amb, mark_eq, simprocAttr, en69, el22, gcase_undef, g3, hen, dx]
  repeat' first | refine hk _ _ rfl rfl rfl rfl ?_ | (refine gsplit (fun hg => ?_) (fun hg => ?_) <;> (try simp only [hbx] at hg) <;> simp (maxSteps := 9^9) (disch := (try simp only [lens]); omega) only [argSl, sm, ↓amb, mark_eq, simprocAttr, en69, el22, gcase_undef, g3, hen, dx]) | apply And.intro | (refine callK_p (c_scan_sized _) rfl ?_; (try simp (maxSteps := 9^9) (disch := (try simp only [lens]); omega) only [argSl, sm, ↓amb, mark_eq, simprocAttr, en69, el22, gcase_undef, g3, hen, dx])) | fail
  all_goals first | rfl | omega | exact (decide_eq_true (by omega)).symm | exact (decide_eq_false (by omega)).symm | exact decide_eq_decide.mpr (by omega) | (refine Bool.eq_iff_iff.mpr ?_; simp only [beq_iff_eq, bne_iff_ne, ne_eq, decide_eq_true_eq]; omega) | (refine Bool.eq_iff_iff.mpr ?_; simp only [Bool.not_eq_true', Bool.not_eq_false', decide_eq_false_iff_not, decide_eq_true_eq, beq_iff_eq, bne_iff_ne, ne_eq]; omega) | assumption | (simp; done) | (simp [maxLen]; omega) | skip
 simp only [kp, argSl, simprocAttr, List.length_cons, List.length_nil]
 refine awp_cond rfl (fun hb => ?_) (fun hb => ?_)
 ·try simp only [hbx] at hb
  refine awp_le (le_keep []) ?_
  simp only [kp, argSl, simprocAttr]
  refine awp_sr [] (by rw [hC]; rfl) fun k hk => ?_
  simp (maxSteps := 9^9) (disch := (try simp only [lens]); omega) only [argSl, sm, ↓amb, mark_eq, simprocAttr, hen, dx]
  repeat refine ⟨by first | omega | (simp; done) | (unfold maxLen; omega) | (simp [maxLen]; omega) | assumption, ?_⟩
  refine hk _ ?_; clear hk k
  refine awp_ret ?_
  have hse : ¬ Pl.scE l.length b p = 0 := by unfold Pl.scE; rw [if_neg (by first | exact hb | simpa using hb)]; decide
  exact absurd hse0 hse
 ·try simp only [hbx] at hb
  refine awp_skip ?_
  refine h1 _ ?_; clear h1 k1
  refine awp_le (le_keep [0, 1, 3, 6]) ?_
  simp only [kp, argSl, simprocAttr]
  have hq : (1 ≤ b ∧ b ≤ 100) ∧ l.length ≤ 1000 := by first | exact hb | exact Decidable.not_not.1 hb
  obtain ⟨B, rfl⟩ := Int.eq_ofNat_of_zero_le (show 0 ≤ b by omega)
  have hB : 1 ≤ B ∧ B ≤ 100 := by omega
  have hn := hq.2
  refine awp_sr [] (by rw [hC]; rfl) fun k hk => ?_
  simp (maxSteps := 9^9) (disch := (try simp only [lens]); omega) only [argSl, sm, ↓amb, mark_eq, simprocAttr, el22, en39, hen, dx]
  repeat refine ⟨by first | omega | (simp; done) | (unfold maxLen; omega) | (simp [maxLen]; omega) | assumption, ?_⟩
  refine callK_p (c_scan_Blocks _ _) rfl ?_
  simp (maxSteps := 9^9) (disch := (try simp only [lens]); omega) only [argSl, sm, ↓amb, mark_eq, simprocAttr, el22, en39, hen, dx]
  repeat refine ⟨by first | omega | (simp; done) | (unfold maxLen; omega) | (simp [maxLen]; omega) | assumption, ?_⟩
  refine hk _ ?_; clear hk k
  refine awp_le (le_keep [0, 1, 3, 6, 12]) ?_
  simp only [kp, argSl, simprocAttr]
  rw [Pl.blk_nat hB hn]
  have hNu := Pl.blkN_up hB hn
  refine awp_sr [] (by rw [hC]; rfl) fun k hk => ?_
  simp (maxSteps := 9^9) (disch := (try simp only [lens]); omega) only [argSl, sm, ↓amb, mark_eq, simprocAttr, sz26, en18, hen, dx]
  repeat refine ⟨by first | omega | (simp; done) | (unfold maxLen; omega) | (simp [maxLen]; omega) | assumption, ?_⟩
  refine callK_p (c_fill_Order _ _ p) rfl ?_
  simp (maxSteps := 9^9) (disch := (try simp only [lens]); omega) only [argSl, sm, ↓amb, mark_eq, simprocAttr, sz26, en18, hen, dx]
  repeat refine ⟨by first | omega | (simp; done) | (unfold maxLen; omega) | (simp [maxLen]; omega) | assumption, ?_⟩
  refine hk _ ?_; clear hk k
  refine awp_seq fun k2 h2 => ?_
  refine awp_le (le_keep [0, 1, 3, 8, 9, 10, 11, 12, 13]) ?_
  simp only [kp, argSl, simprocAttr]
  refine awp_sr [] (by rw [hC]; rfl) fun k hk => ?_
  simp (maxSteps := 9^9) (disch := (try simp only [lens]); omega) only [argSl, sm, ↓amb, mark_eq, simprocAttr, hen, dx]
  repeat refine ⟨by first | omega | (simp; done) | (unfold maxLen; omega) | (simp [maxLen]; omega) | assumption, ?_⟩
  refine hk _ ?_; clear hk k
  refine awp_cond rfl (fun hb => ?_) (fun hb => ?_)
  ·try simp only [hbx] at hb
   refine awp_le (le_keep [11]) ?_
   simp only [kp, argSl, simprocAttr]
   have hse : ¬ Pl.scE l.length B p = 0 := by unfold Pl.scE; rw [if_pos hq, Pl.blk_nat hB hn]; exact hb
   refine awp_sr [] (by rw [hC]; rfl) fun k hk => ?_
   simp (maxSteps := 9^9) (disch := (try simp only [lens]); omega) only [argSl, sm, ↓amb, mark_eq, simprocAttr, hen, dx]
   repeat refine ⟨by first | omega | (simp; done) | (unfold maxLen; omega) | (simp [maxLen]; omega) | assumption, ?_⟩
   refine hk _ ?_; clear hk k
   refine awp_ret ?_
   exact absurd hse0 hse
  ·try simp only [hbx] at hb
   refine awp_skip ?_
   refine h2 _ ?_; clear h2 k2
   refine awp_le (le_keep [0, 1, 3, 10, 12, 13]) ?_
   simp only [kp, argSl, simprocAttr]
   have hse : Pl.scE l.length B p = 0 := by unfold Pl.scE; rw [if_pos hq, Pl.blk_nat hB hn]; exact hb
   have hoo := Pl.ordE_iff.1 hb
   have hU : ∀ u, u ∈ (Pl.ordU (Pl.blkN l.length B : Nat) p) → 0 ≤ u ∧ u < ((Pl.blkN l.length B) : Nat) := fun u h => ((Pl.ordU_ok hoo).2.1 u).1 h
   have hUl := (Pl.ordU_ok hoo).2.2
   have hos := (Pl.ord_steps hoo).2.2.2.2.2
   have hos2 : 0 ≤ Pl.ordS (Pl.blkN l.length B : Nat) p := by have := Pl.ord_steps hoo; omega
   refine awp_sr [] (by rw [hC]; rfl) fun k hk => ?_
   simp (maxSteps := 9^9) (disch := (try simp only [lens]); omega) only [argSl, sm, ↓amb, mark_eq, simprocAttr, el22, by28, vr28, hen, dx]
   repeat refine ⟨by first | omega | (simp; done) | (unfold maxLen; omega) | (simp [maxLen]; omega) | assumption, ?_⟩
   refine hk _ ?_; clear hk k
   refine awp_seq fun k3 h3 => ?_
   refine awp_le (le_keep [0, 1, 3, 8, 9, 10, 11, 13, 14]) ?_
   simp only [kp, argSl, simprocAttr]
   refine awp_sr [] (by rw [hC]; rfl) fun k hk => ?_
   simp (maxSteps := 9^9) (disch := (try simp only [lens]); omega) only [argSl, sm, ↓amb, mark_eq, simprocAttr, el32, hen, dx]
   repeat refine ⟨by first | omega | (simp; done) | (unfold maxLen; omega) | (simp [maxLen]; omega) | assumption, ?_⟩
   refine hk _ ?_; clear hk k
   refine awp_block ?_
   refine awp_loop (σ := Nat) (fun z => z ≤ (Pl.ordU (Pl.blkN l.length B : Nat) p).length) (fun (z : Nat) => ⟨[(0, (.p (words c l))), (1, (.p (iV B))), (3, (.fn F [])), (10, (.p (iV (Pl.ordS (Pl.blkN l.length B) p)))), (13, (.p (ints false (Pl.ordU (Pl.blkN l.length B : Nat) p)))), (14, (.own 0)), (48, (.p (ints false (Pl.ordU (Pl.blkN l.length B : Nat) p)))), (49, (.p (iV (Pl.ordU (Pl.blkN l.length B : Nat) p).length))), (50, (.p (iV (z : Int))))], [(0, (.row 1 (lift ((Pl.fillL (Pl.blkN l.length B) ((Pl.ordU (Pl.blkN l.length B : Nat) p).take z) (fun j => Pl.allF f (Pl.part l B j))).map fun x => [u32V x]))))], 1⟩) (fun z => (Pl.ordU (Pl.blkN l.length B : Nat) p).length - z) 0 ?_ ?_ fun z hz => ?_
   ·exact Nat.zero_le _
   ·exact le_of [(0, _)] (by rfl) (by rfl) ⟨⟨_, rfl, .p (.of_eq (by first | rfl | (simp only [PV.lit.injEq, Value.int.injEq, true_and]; omega) | (simp; done) | (simp; omega)))⟩, ⟨_, rfl, .p (.of_eq (by first | rfl | (simp only [PV.lit.injEq, Value.int.injEq, true_and]; omega) | (simp; done) | (simp; omega)))⟩, ⟨_, rfl, .fn rfl LeRow.nil.2⟩, ⟨_, rfl, .p (.of_eq (by first | rfl | (simp only [PV.lit.injEq, Value.int.injEq, true_and]; omega) | (simp; done) | (simp; omega)))⟩, ⟨_, rfl, .p (.of_eq (by first | rfl | (simp only [PV.lit.injEq, Value.int.injEq, true_and]; omega) | (simp; done) | (simp; omega)))⟩, ⟨_, rfl, .own rfl⟩, ⟨_, rfl, .p (.of_eq (by first | rfl | (simp only [PV.lit.injEq, Value.int.injEq, true_and]; omega) | (simp; done) | (simp; omega)))⟩, ⟨_, rfl, .p (.of_eq (by first | rfl | (simp only [PV.lit.injEq, Value.int.injEq, true_and]; omega) | (simp; done) | (simp; omega)))⟩, ⟨_, rfl, .p (.of_eq (by first | rfl | (simp only [PV.lit.injEq, Value.int.injEq, true_and]; omega) | (simp; done) | (simp; omega)))⟩, trivial⟩ ⟨⟨_, rfl, _, rfl, .liftE (by first | (rw [List.take_zero, Pl.fillL_nil, List.map_replicate]; done) | (rw [Pl.take_snoc' (Pl.ordU (Pl.blkN l.length B : Nat) p) z (by omega), hu, ← Pl.fillL_set (i := (u : Int)) (Int.natCast_nonneg u) (x := Pl.allF f (Pl.part l B u)) rfl, Int.toNat_natCast, List.map_set]; first | done | rfl) | trace_state)⟩, trivial⟩
   refine awp_le (le_keep [0, 1, 3, 8, 9, 10, 11, 13, 14, 48, 49, 50]) ?_
   simp only [kp, argSl, simprocAttr]
   refine awp_sr [] (by rw [hC]; rfl) fun k hk => ?_
   simp (maxSteps := 9^9) (disch := (try simp only [lens]); omega) only [argSl, sm, ↓amb, mark_eq, simprocAttr, hen, dx]
   repeat refine ⟨by first | omega | (simp; done) | (unfold maxLen; omega) | (simp [maxLen]; omega) | assumption, ?_⟩
   refine hk _ ?_; clear hk k
   refine awp_seq fun k5 h5 => ?_
   refine awp_cond rfl (fun hb => ?_) (fun hb => ?_)
   ·try simp only [hbx] at hb
    refine awp_skip ?_
    refine h5 _ ?_; clear h5 k5
    refine awp_seq fun k6 h6 => ?_
    refine awp_block ?_
    refine awp_le (le_keep [0, 1, 3, 8, 9, 10, 11, 13, 14, 48, 49, 50]) ?_
    simp only [kp, argSl, simprocAttr]
    refine awp_sr [] (by rw [hC]; rfl) fun k hk => ?_
    simp (maxSteps := 9^9) (disch := (try simp only [lens]); omega) only [argSl, sm, ↓amb, mark_eq, simprocAttr, el32, sz3, hen, dx]
    repeat refine ⟨by first | omega | (simp; done) | (unfold maxLen; omega) | (simp [maxLen]; omega) | assumption, ?_⟩
    refine hk _ ?_; clear hk k
    obtain ⟨u, hu⟩ := Int.eq_ofNat_of_zero_le (hU ((Pl.ordU (Pl.blkN l.length B : Nat) p).getD z 0) (Pl.getD_mem (Pl.ordU (Pl.blkN l.length B : Nat) p) z 0 (by omega))).1
    have hu2 := hU ((Pl.ordU (Pl.blkN l.length B : Nat) p).getD z 0) (Pl.getD_mem (Pl.ordU (Pl.blkN l.length B : Nat) p) z 0 (by omega))
    rw [hu] at hu2
    obtain ⟨u1, u2, u3⟩ := Pl.blk_at hB hn (show u < (Pl.blkN l.length B) by omega)
    rw [hu]
    have hfl := Pl.fillL_len (Pl.blkN l.length B) ((Pl.ordU (Pl.blkN l.length B : Nat) p).take z) (fun j => Pl.allF f (Pl.part l B j))
    refine awp_region [] (by rw [hC]; rfl) fun k hk => ?_
    simp (maxSteps := 9^9) (disch := (try simp only [lens]); omega) only [argSl, sm, ↓amb, mark_eq, simprocAttr, en82, en81, el22, sz28, hen, dx]
    repeat refine ⟨by first | omega | (simp; done) | (unfold maxLen; omega) | (simp [maxLen]; omega) | assumption, ?_⟩
    refine callK_p (c_scan_part c l u B (by omega) (by omega) (by omega) hn) rfl ?_
    simp (maxSteps := 9^9) (disch := (try simp only [lens]); omega) only [argSl, sm, ↓amb, mark_eq, simprocAttr, en82, en81, el22, sz28, hen, dx]
    repeat refine ⟨by first | omega | (simp; done) | (unfold maxLen; omega) | (simp [maxLen]; omega) | assumption, ?_⟩
    refine callK_h (c_scan_ahead false (Pl.part l B u) (Pl.part_w hl) (by rw [Pl.part_len]; omega) F hen f hf hF) [] [] (by first | rfl | (simp only [hm]; done)) (by first | rfl | (simp [namesOk, lkp]; done)) ?_ ?_ ?_ ?_ ?_ ?_ ?_
    (iterate 6 (focus (first | trivial | (intro n hn; cases hn; done) | (simp (maxSteps := 9^9) (disch := (try simp only [lens]); omega) only [argSl, sm, ↓amb, mark_eq, simprocAttr, en82, en81, el22, sz28, hen, dx, hmx, List.filter_cons, Nat.reduceBNe, imp_self, implies_true]; done))))
    simp (maxSteps := 9^9) (disch := (try simp only [lens]); omega) only [argSl, sm, ↓amb, mark_eq, simprocAttr, en82, en81, el22, sz28, hen, dx, hm, List.filter_cons, List.filter_nil, Nat.reduceBNe, Option.map_none]
    repeat refine ⟨by first | omega | (simp; done) | (unfold maxLen; omega) | (simp [maxLen]; omega) | assumption, ?_⟩
    refine hk _ ?_; clear hk k
    refine h6 _ ?_; clear h6 k6
    refine awp_region [] (by rw [hC]; rfl) fun k hk => ?_
    simp (maxSteps := 9^9) (disch := (try simp only [lens]); omega) only [argSl, sm, ↓amb, mark_eq, simprocAttr, hen, dx]
    repeat refine ⟨by first | omega | (simp; done) | (unfold maxLen; omega) | (simp [maxLen]; omega) | assumption, ?_⟩
    refine hk _ ?_; clear hk k
    refine ⟨z + 1, by omega, le_of [(0, _)] (by rfl) (by rfl) ⟨⟨_, rfl, .p (.of_eq (by first | rfl | (simp only [PV.lit.injEq, Value.int.injEq, true_and]; omega) | (simp; done) | (simp; omega)))⟩, ⟨_, rfl, .p (.of_eq (by first | rfl | (simp only [PV.lit.injEq, Value.int.injEq, true_and]; omega) | (simp; done) | (simp; omega)))⟩, ⟨_, rfl, .fn rfl LeRow.nil.2⟩, ⟨_, rfl, .p (.of_eq (by first | rfl | (simp only [PV.lit.injEq, Value.int.injEq, true_and]; omega) | (simp; done) | (simp; omega)))⟩, ⟨_, rfl, .p (.of_eq (by first | rfl | (simp only [PV.lit.injEq, Value.int.injEq, true_and]; omega) | (simp; done) | (simp; omega)))⟩, ⟨_, rfl, .own rfl⟩, ⟨_, rfl, .p (.of_eq (by first | rfl | (simp only [PV.lit.injEq, Value.int.injEq, true_and]; omega) | (simp; done) | (simp; omega)))⟩, ⟨_, rfl, .p (.of_eq (by first | rfl | (simp only [PV.lit.injEq, Value.int.injEq, true_and]; omega) | (simp; done) | (simp; omega)))⟩, ⟨_, rfl, .p (.of_eq (by first | rfl | (simp only [PV.lit.injEq, Value.int.injEq, true_and]; omega) | (simp; done) | (simp; omega)))⟩, trivial⟩ ⟨⟨_, rfl, _, rfl, .liftE (by first | (rw [List.take_zero, Pl.fillL_nil, List.map_replicate]; done) | (rw [Pl.take_snoc' (Pl.ordU (Pl.blkN l.length B : Nat) p) z (by omega), hu, ← Pl.fillL_set (i := (u : Int)) (Int.natCast_nonneg u) (x := Pl.allF f (Pl.part l B u)) rfl, Int.toNat_natCast, List.map_set]; first | done | rfl) | trace_state)⟩, trivial⟩, by omega⟩
   ·try simp only [hbx] at hb
    refine awp_exit ((if_pos rfl).mpr ?_)
    refine h3 _ ?_; clear h5 k5; clear h3 k3
    refine awp_le (le_keep [0, 1, 3, 10, 13, 14]) ?_
    simp only [kp, argSl, simprocAttr]
    have htk : (Pl.ordU (Pl.blkN l.length B : Nat) p).take z = (Pl.ordU (Pl.blkN l.length B : Nat) p) := List.take_of_length_le (by omega)
    refine awp_le (show LE _ (⟨[(0, (.p (words c l))), (1, (.p (iV B))), (3, (.fn F [])), (10, (.p (iV (Pl.ordS (Pl.blkN l.length B) p)))), (13, (.p (ints false (Pl.ordU (Pl.blkN l.length B : Nat) p)))), (14, (.p (words false (Pl.totF f l B (Pl.blkN l.length B)))))], [], 1⟩ : LS) from le_of [] (by rfl) (by rfl) ⟨⟨_, rfl, .p (.of_eq (by first | rfl | (simp only [PV.lit.injEq, Value.int.injEq, true_and]; omega) | (simp; done) | (simp; omega)))⟩, ⟨_, rfl, .p (.of_eq (by first | rfl | (simp only [PV.lit.injEq, Value.int.injEq, true_and]; omega) | (simp; done) | (simp; omega)))⟩, ⟨_, rfl, .fn rfl LeRow.nil.2⟩, ⟨_, rfl, .p (.of_eq (by first | rfl | (simp only [PV.lit.injEq, Value.int.injEq, true_and]; omega) | (simp; done) | (simp; omega)))⟩, ⟨_, rfl, .p (.of_eq (by first | rfl | (simp only [PV.lit.injEq, Value.int.injEq, true_and]; omega) | (simp; done) | (simp; omega)))⟩, ⟨_, rfl, .frz (es := (Pl.totF f l B (Pl.blkN l.length B)).map fun x => [u32V x]) (by rw [htk, Pl.fill_ord hoo]; rfl) (by rfl)⟩, trivial⟩ trivial) ?_
    refine awp_sr [] (by rw [hC]; rfl) fun k hk => ?_
    simp (maxSteps := 9^9) (disch := (try simp only [lens]); omega) only [argSl, sm, ↓amb, mark_eq, simprocAttr, en81, hen, dx]
    repeat refine ⟨by first | omega | (simp; done) | (unfold maxLen; omega) | (simp [maxLen]; omega) | assumption, ?_⟩
    refine callK_h (c_scan_ahead false (Pl.totF f l B (Pl.blkN l.length B)) (Pl.totF_w hf hl B (Pl.blkN l.length B)) (by rw [Pl.totF_len]; omega) F hen f hf hF) [] [] (by first | rfl | (simp only [hm]; done)) (by first | rfl | (simp [namesOk, lkp]; done)) ?_ ?_ ?_ ?_ ?_ ?_ ?_
    (iterate 6 (focus (first | trivial | (intro n hn; cases hn; done) | (simp (maxSteps := 9^9) (disch := (try simp only [lens]); omega) only [argSl, sm, ↓amb, mark_eq, simprocAttr, en81, hen, dx, hmx, List.filter_cons, Nat.reduceBNe, imp_self, implies_true]; done))))
    simp (maxSteps := 9^9) (disch := (try simp only [lens]); omega) only [argSl, sm, ↓amb, mark_eq, simprocAttr, en81, hen, dx, hm, List.filter_cons, List.filter_nil, Nat.reduceBNe, Option.map_none]
    repeat refine ⟨by first | omega | (simp; done) | (unfold maxLen; omega) | (simp [maxLen]; omega) | assumption, ?_⟩
    refine hk _ ?_; clear hk k
    refine awp_le (le_keep [0, 1, 3, 9, 10, 13, 17]) ?_
    simp only [kp, argSl, simprocAttr]
    refine awp_sr [] (by rw [hC]; rfl) fun k hk => ?_
    simp (maxSteps := 9^9) (disch := (try simp only [lens]); omega) only [argSl, sm, ↓amb, mark_eq, simprocAttr, el22, by28, vr28, hen, dx]
    repeat refine ⟨by first | omega | (simp; done) | (unfold maxLen; omega) | (simp [maxLen]; omega) | assumption, ?_⟩
    refine hk _ ?_; clear hk k
    refine awp_seq fun k7 h7 => ?_
    refine awp_le (le_keep [0, 1, 3, 8, 9, 10, 11, 13, 17]) ?_
    simp only [kp, argSl, simprocAttr]
    refine awp_sr [] (by rw [hC]; rfl) fun k hk => ?_
    simp (maxSteps := 9^9) (disch := (try simp only [lens]); omega) only [argSl, sm, ↓amb, mark_eq, simprocAttr, el32, hen, dx]
    repeat refine ⟨by first | omega | (simp; done) | (unfold maxLen; omega) | (simp [maxLen]; omega) | assumption, ?_⟩
    refine hk _ ?_; clear hk k
    refine awp_block ?_
    refine awp_loop (σ := Nat) (fun z => z ≤ (Pl.ordU (Pl.blkN l.length B : Nat) p).length) (fun (z : Nat) => ⟨[(0, (.p (words c l))), (1, (.p (iV B))), (3, (.fn F [])), (8, (.own 0)), (9, (.p (u32V (Pl.allF f l)))), (10, (.p (iV (Pl.ordS (Pl.blkN l.length B) p)))), (17, (.p (words false (Pl.aheadF f (Pl.totF f l B (Pl.blkN l.length B)))))), (76, (.p (ints false (Pl.ordU (Pl.blkN l.length B : Nat) p)))), (77, (.p (iV (Pl.ordU (Pl.blkN l.length B : Nat) p).length))), (78, (.p (iV (z : Int))))], [(0, (.row 1 (lift ((Pl.fillL l.length (((Pl.ordU (Pl.blkN l.length B : Nat) p).take z).flatMap (Pl.blockPl l.length B)) (fun j => Pl.allF f (l.take j))).map fun x => [u32V x]))))], 1⟩) (fun z => (Pl.ordU (Pl.blkN l.length B : Nat) p).length - z) 0 ?_ ?_ fun z hz => ?_
    ·exact Nat.zero_le _
    ·exact le_of [(0, _)] (by rfl) (by rfl) ⟨⟨_, rfl, .p (.of_eq (by first | rfl | (simp only [PV.lit.injEq, Value.int.injEq, true_and]; omega) | (simp; done) | (simp; omega)))⟩, ⟨_, rfl, .p (.of_eq (by first | rfl | (simp only [PV.lit.injEq, Value.int.injEq, true_and]; omega) | (simp; done) | (simp; omega)))⟩, ⟨_, rfl, .fn rfl LeRow.nil.2⟩, ⟨_, rfl, .own rfl⟩, ⟨_, rfl, .p (.of_eq (by first | rfl | rw [Pl.allF_tots hf hl hB.1]))⟩, ⟨_, rfl, .p (.of_eq (by first | rfl | (simp only [PV.lit.injEq, Value.int.injEq, true_and]; omega) | (simp; done) | (simp; omega)))⟩, ⟨_, rfl, .p (.of_eq (by first | rfl | (simp only [PV.lit.injEq, Value.int.injEq, true_and]; omega) | (simp; done) | (simp; omega)))⟩, ⟨_, rfl, .p (.of_eq (by first | rfl | (simp only [PV.lit.injEq, Value.int.injEq, true_and]; omega) | (simp; done) | (simp; omega)))⟩, ⟨_, rfl, .p (.of_eq (by first | rfl | (simp only [PV.lit.injEq, Value.int.injEq, true_and]; omega) | (simp; done) | (simp; omega)))⟩, ⟨_, rfl, .p (.of_eq (by first | rfl | (simp only [PV.lit.injEq, Value.int.injEq, true_and]; omega) | (simp; done) | (simp; omega)))⟩, trivial⟩ ⟨⟨_, rfl, _, rfl, .liftE (by first | (rw [List.take_zero, List.flatMap_nil, Pl.fillL_nil, List.map_replicate]; done) | (rw [Pl.block_snoc (L := (Pl.ordU (Pl.blkN l.length B : Nat) p)) (z := z) (by omega) hu u1, show y = (Pl.part l B u).length by omega]; done) | trace_state)⟩, trivial⟩
    refine awp_le (le_keep [0, 1, 3, 8, 9, 10, 11, 17, 76, 77, 78]) ?_
    simp only [kp, argSl, simprocAttr]
    refine awp_sr [] (by rw [hC]; rfl) fun k hk => ?_
    simp (maxSteps := 9^9) (disch := (try simp only [lens]); omega) only [argSl, sm, ↓amb, mark_eq, simprocAttr, hen, dx]
    repeat refine ⟨by first | omega | (simp; done) | (unfold maxLen; omega) | (simp [maxLen]; omega) | assumption, ?_⟩
    refine hk _ ?_; clear hk k
    refine awp_seq fun k9 h9 => ?_
    refine awp_cond rfl (fun hb => ?_) (fun hb => ?_)
    ·try simp only [hbx] at hb
     refine awp_skip ?_
     refine h9 _ ?_; clear h9 k9
     refine awp_seq fun k10 h10 => ?_
     refine awp_block ?_
     refine awp_le (le_keep [0, 1, 3, 8, 9, 10, 11, 17, 76, 77, 78]) ?_
     simp only [kp, argSl, simprocAttr]
     refine awp_sr [] (by rw [hC]; rfl) fun k hk => ?_
     simp (maxSteps := 9^9) (disch := (try simp only [lens]); omega) only [argSl, sm, ↓amb, mark_eq, simprocAttr, el32, sz3, hen, dx]
     repeat refine ⟨by first | omega | (simp; done) | (unfold maxLen; omega) | (simp [maxLen]; omega) | assumption, ?_⟩
     refine hk _ ?_; clear hk k
     refine awp_le (le_keep [0, 1, 3, 8, 9, 10, 11, 17, 19, 76, 77, 78]) ?_
     simp only [kp, argSl, simprocAttr]
     obtain ⟨u, hu⟩ := Int.eq_ofNat_of_zero_le (hU ((Pl.ordU (Pl.blkN l.length B : Nat) p).getD z 0) (Pl.getD_mem (Pl.ordU (Pl.blkN l.length B : Nat) p) z 0 (by omega))).1
     have hu2 := hU ((Pl.ordU (Pl.blkN l.length B : Nat) p).getD z 0) (Pl.getD_mem (Pl.ordU (Pl.blkN l.length B : Nat) p) z 0 (by omega))
     rw [hu] at hu2
     obtain ⟨u1, u2, u3⟩ := Pl.blk_at hB hn (show u < (Pl.blkN l.length B) by omega)
     rw [hu]
     refine awp_sr [] (by rw [hC]; rfl) fun k hk => ?_
     simp (maxSteps := 9^9) (disch := (try simp only [lens]); omega) only [argSl, sm, ↓amb, mark_eq, simprocAttr, en82, en81, hen, dx]
     repeat refine ⟨by first | omega | (simp; done) | (unfold maxLen; omega) | (simp [maxLen]; omega) | assumption, ?_⟩
     refine callK_p (c_scan_part c l u B (by omega) (by omega) (by omega) hn) rfl ?_
     simp (maxSteps := 9^9) (disch := (try simp only [lens]); omega) only [argSl, sm, ↓amb, mark_eq, simprocAttr, en82, en81, hen, dx]
     repeat refine ⟨by first | omega | (simp; done) | (unfold maxLen; omega) | (simp [maxLen]; omega) | assumption, ?_⟩
     refine callK_h (c_scan_ahead false (Pl.part l B u) (Pl.part_w hl) (by rw [Pl.part_len]; omega) F hen f hf hF) [] [] (by first | rfl | (simp only [hm]; done)) (by first | rfl | (simp [namesOk, lkp]; done)) ?_ ?_ ?_ ?_ ?_ ?_ ?_
     (iterate 6 (focus (first | trivial | (intro n hn; cases hn; done) | (simp (maxSteps := 9^9) (disch := (try simp only [lens]); omega) only [argSl, sm, ↓amb, mark_eq, simprocAttr, en82, en81, hen, dx, hmx, List.filter_cons, Nat.reduceBNe, imp_self, implies_true]; done))))
     simp (maxSteps := 9^9) (disch := (try simp only [lens]); omega) only [argSl, sm, ↓amb, mark_eq, simprocAttr, en82, en81, hen, dx, hm, List.filter_cons, List.filter_nil, Nat.reduceBNe, Option.map_none]
     repeat refine ⟨by first | omega | (simp; done) | (unfold maxLen; omega) | (simp [maxLen]; omega) | assumption, ?_⟩
     refine hk _ ?_; clear hk k
     refine awp_le (le_keep [0, 1, 3, 8, 9, 10, 11, 17, 19, 20, 76, 77, 78]) ?_
     simp only [kp, argSl, simprocAttr]
     refine awp_sr [] (by rw [hC]; rfl) fun k hk => ?_
     simp (maxSteps := 9^9) (disch := (try simp only [lens]); omega) only [argSl, sm, ↓amb, mark_eq, simprocAttr, el22, hen, dx]
     repeat refine ⟨by first | omega | (simp; done) | (unfold maxLen; omega) | (simp [maxLen]; omega) | assumption, ?_⟩
     refine hk _ ?_; clear hk k
     refine awp_block ?_
     refine awp_loop (σ := Nat) (fun y => y ≤ (Pl.part l B u).length) (fun (y : Nat) => ⟨[(0, (.p (words c l))), (1, (.p (iV B))), (3, (.fn F [])), (8, (.own 0)), (9, (.p (u32V (Pl.allF f l)))), (10, (.p (iV (Pl.ordS (Pl.blkN l.length B) p)))), (17, (.p (words false (Pl.aheadF f (Pl.totF f l B (Pl.blkN l.length B)))))), (19, (.p (iV ((u : Nat) : Int)))), (76, (.p (ints false (Pl.ordU (Pl.blkN l.length B : Nat) p)))), (77, (.p (iV (Pl.ordU (Pl.blkN l.length B : Nat) p).length))), (78, (.p (iV (z : Int)))), (91, (.p (words false (Pl.aheadF f (Pl.part l B u))))), (92, (.p (iV (Pl.part l B u).length))), (93, (.p (iV (y : Int))))], [(0, (.row 1 (lift ((Pl.fillL l.length ((((Pl.ordU (Pl.blkN l.length B : Nat) p).take z).flatMap (Pl.blockPl l.length B)) ++ Pl.upto (((u : Nat) : Int) * B) (((u : Nat) : Int) * B + ((y : Nat) : Int))) (fun j => Pl.allF f (l.take j))).map fun x => [u32V x]))))], 1⟩) (fun y => (Pl.part l B u).length - y) 0 ?_ ?_ fun y hy => ?_
     ·exact Nat.zero_le _
     ·exact le_of [(0, _)] (by rfl) (by rfl) ⟨⟨_, rfl, .p (.of_eq (by first | rfl | (simp only [PV.lit.injEq, Value.int.injEq, true_and]; omega) | (simp; done) | (simp; omega)))⟩, ⟨_, rfl, .p (.of_eq (by first | rfl | (simp only [PV.lit.injEq, Value.int.injEq, true_and]; omega) | (simp; done) | (simp; omega)))⟩, ⟨_, rfl, .fn rfl LeRow.nil.2⟩, ⟨_, rfl, .own rfl⟩, ⟨_, rfl, .p (.of_eq (by first | rfl | (simp only [PV.lit.injEq, Value.int.injEq, true_and]; omega) | (simp; done) | (simp; omega)))⟩, ⟨_, rfl, .p (.of_eq (by first | rfl | (simp only [PV.lit.injEq, Value.int.injEq, true_and]; omega) | (simp; done) | (simp; omega)))⟩, ⟨_, rfl, .p (.of_eq (by first | rfl | (simp only [PV.lit.injEq, Value.int.injEq, true_and]; omega) | (simp; done) | (simp; omega)))⟩, ⟨_, rfl, .p (.of_eq (by first | rfl | (simp only [PV.lit.injEq, Value.int.injEq, true_and]; omega) | (simp; done) | (simp; omega)))⟩, ⟨_, rfl, .p (.of_eq (by first | rfl | (simp only [PV.lit.injEq, Value.int.injEq, true_and]; omega) | (simp; done) | (simp; omega)))⟩, ⟨_, rfl, .p (.of_eq (by first | rfl | (simp only [PV.lit.injEq, Value.int.injEq, true_and]; omega) | (simp; done) | (simp; omega)))⟩, ⟨_, rfl, .p (.of_eq (by first | rfl | (simp only [PV.lit.injEq, Value.int.injEq, true_and]; omega) | (simp; done) | (simp; omega)))⟩, ⟨_, rfl, .p (.of_eq (by first | rfl | (simp only [PV.lit.injEq, Value.int.injEq, true_and]; omega) | (simp; done) | (simp; omega)))⟩, ⟨_, rfl, .p (.of_eq (by first | rfl | rw [Pl.aheadF_len]))⟩, ⟨_, rfl, .p (.of_eq (by first | rfl | (simp only [PV.lit.injEq, Value.int.injEq, true_and]; omega) | (simp; done) | (simp; omega)))⟩, trivial⟩ ⟨⟨_, rfl, _, rfl, .liftE (by first | (rw [Pl.upto_nil (by simp), List.append_nil]; done) | (rw [← Pl.upto_snoc, ← List.append_assoc, ← Pl.fillL_set hnn hpl', List.map_set]; first | done | rfl) | trace_state)⟩, trivial⟩
     refine awp_le (le_keep [0, 1, 3, 8, 9, 10, 11, 17, 19, 76, 77, 78, 91, 92, 93]) ?_
     simp only [kp, argSl, simprocAttr]
     refine awp_sr [] (by rw [hC]; rfl) fun k hk => ?_
     simp (maxSteps := 9^9) (disch := (try simp only [lens]); omega) only [argSl, sm, ↓amb, mark_eq, simprocAttr, hen, dx]
     repeat refine ⟨by first | omega | (simp; done) | (unfold maxLen; omega) | (simp [maxLen]; omega) | assumption, ?_⟩
     refine hk _ ?_; clear hk k
     refine awp_seq fun k12 h12 => ?_
     refine awp_cond rfl (fun hb => ?_) (fun hb => ?_)
     ·try simp only [hbx] at hb
      refine awp_skip ?_
      refine h12 _ ?_; clear h12 k12
      refine awp_seq fun k13 h13 => ?_
      refine awp_block ?_
      refine awp_le (le_keep [0, 1, 3, 8, 9, 10, 11, 17, 19, 76, 77, 78, 91, 92, 93]) ?_
      simp only [kp, argSl, simprocAttr]
      have hal := Pl.aheadF_len f (Pl.part l B u)
      refine awp_sr [] (by rw [hC]; rfl) fun k hk => ?_
      simp (maxSteps := 9^9) (disch := (try simp only [lens]); omega) only [argSl, sm, ↓amb, mark_eq, simprocAttr, el22, sz28, hen, dx]
      repeat refine ⟨by first | omega | (simp; done) | (unfold maxLen; omega) | (simp [maxLen]; omega) | assumption, ?_⟩
      refine hk _ ?_; clear hk k
      have hal2 := Pl.aheadF_len f (Pl.totF f l B (Pl.blkN l.length B))
      have hal3 := Pl.totF_len f l B (Pl.blkN l.length B)
      have hfl := Pl.fillL_len l.length ((((Pl.ordU (Pl.blkN l.length B : Nat) p).take z).flatMap (Pl.blockPl l.length B)) ++ Pl.upto (((u : Nat) : Int) * B) (((u : Nat) : Int) * B + ((y : Nat) : Int))) (fun j => Pl.allF f (l.take j))
      obtain ⟨hpl, hpl2⟩ := Pl.ahead_cell hf hl (show u < (Pl.blkN l.length B) by omega) u1 (show y < (Pl.part l B u).length by omega)
      have hw1 := Pl.getD_w (Pl.aheadF_w hf (Pl.part_w (b := B) (i := u) hl)) y
      have hw2 := Pl.getD_w (Pl.aheadF_w hf (Pl.totF_w hf hl B (Pl.blkN l.length B))) u
      have e1 : (u : Int) * (B : Int) = ((u * B : Nat) : Int) := by rw [Int.natCast_mul]
      have hnn : 0 ≤ (u : Int) * (B : Int) + (y : Int) := by rw [e1]; omega
      have hpl' : f ((Pl.aheadF f (Pl.totF f l B (Pl.blkN l.length B))).getD u 0) ((Pl.aheadF f (Pl.part l B u)).getD y 0) = (fun j => Pl.allF f (l.take j)) ((u : Int) * (B : Int) + (y : Int)).toNat := by rw [hpl, e1]; show Pl.allF f (l.take _) = Pl.allF f (l.take _); congr 2
      refine awp_region [] (by rw [hC]; rfl) fun k hk => ?_
      simp (maxSteps := 9^9) (disch := (try simp only [lens]); omega) only [argSl, sm, ↓amb, mark_eq, simprocAttr, el22, sz28, hen, dx]
      repeat refine ⟨by first | omega | (simp; done) | (unfold maxLen; omega) | (simp [maxLen]; omega) | assumption, ?_⟩
      refine callK_p (hF _ _ hw2 hw1) rfl ?_
      simp (maxSteps := 9^9) (disch := (try simp only [lens]); omega) only [argSl, sm, ↓amb, mark_eq, simprocAttr, el22, sz28, hen, dx]
      repeat refine ⟨by first | omega | (simp; done) | (unfold maxLen; omega) | (simp [maxLen]; omega) | assumption, ?_⟩
      refine hk _ ?_; clear hk k
      refine h13 _ ?_; clear h13 k13
      refine awp_region [] (by rw [hC]; rfl) fun k hk => ?_
      simp (maxSteps := 9^9) (disch := (try simp only [lens]); omega) only [argSl, sm, ↓amb, mark_eq, simprocAttr, hen, dx]
      repeat refine ⟨by first | omega | (simp; done) | (unfold maxLen; omega) | (simp [maxLen]; omega) | assumption, ?_⟩
      refine hk _ ?_; clear hk k
      refine ⟨y + 1, by omega, le_of [(0, _)] (by rfl) (by rfl) ⟨⟨_, rfl, .p (.of_eq (by first | rfl | (simp only [PV.lit.injEq, Value.int.injEq, true_and]; omega) | (simp; done) | (simp; omega)))⟩, ⟨_, rfl, .p (.of_eq (by first | rfl | (simp only [PV.lit.injEq, Value.int.injEq, true_and]; omega) | (simp; done) | (simp; omega)))⟩, ⟨_, rfl, .fn rfl LeRow.nil.2⟩, ⟨_, rfl, .own rfl⟩, ⟨_, rfl, .p (.of_eq (by first | rfl | (simp only [PV.lit.injEq, Value.int.injEq, true_and]; omega) | (simp; done) | (simp; omega)))⟩, ⟨_, rfl, .p (.of_eq (by first | rfl | (simp only [PV.lit.injEq, Value.int.injEq, true_and]; omega) | (simp; done) | (simp; omega)))⟩, ⟨_, rfl, .p (.of_eq (by first | rfl | (simp only [PV.lit.injEq, Value.int.injEq, true_and]; omega) | (simp; done) | (simp; omega)))⟩, ⟨_, rfl, .p (.of_eq (by first | rfl | (simp only [PV.lit.injEq, Value.int.injEq, true_and]; omega) | (simp; done) | (simp; omega)))⟩, ⟨_, rfl, .p (.of_eq (by first | rfl | (simp only [PV.lit.injEq, Value.int.injEq, true_and]; omega) | (simp; done) | (simp; omega)))⟩, ⟨_, rfl, .p (.of_eq (by first | rfl | (simp only [PV.lit.injEq, Value.int.injEq, true_and]; omega) | (simp; done) | (simp; omega)))⟩, ⟨_, rfl, .p (.of_eq (by first | rfl | (simp only [PV.lit.injEq, Value.int.injEq, true_and]; omega) | (simp; done) | (simp; omega)))⟩, ⟨_, rfl, .p (.of_eq (by first | rfl | (simp only [PV.lit.injEq, Value.int.injEq, true_and]; omega) | (simp; done) | (simp; omega)))⟩, ⟨_, rfl, .p (.of_eq (by first | rfl | rw [Pl.aheadF_len]))⟩, ⟨_, rfl, .p (.of_eq (by first | rfl | (simp only [PV.lit.injEq, Value.int.injEq, true_and]; omega) | (simp; done) | (simp; omega)))⟩, trivial⟩ ⟨⟨_, rfl, _, rfl, .liftE (by first | (rw [Pl.upto_nil (by simp), List.append_nil]; done) | (rw [← Pl.upto_snoc, ← List.append_assoc, ← Pl.fillL_set hnn hpl', List.map_set]; first | done | rfl) | trace_state)⟩, trivial⟩, by omega⟩
     ·try simp only [hbx] at hb
      refine awp_exit ((if_pos rfl).mpr ?_)
      refine h10 _ ?_; clear h12 k12; clear h10 k10
      refine awp_region [] (by rw [hC]; rfl) fun k hk => ?_
      simp (maxSteps := 9^9) (disch := (try simp only [lens]); omega) only [argSl, sm, ↓amb, mark_eq, simprocAttr, hen, dx]
      repeat refine ⟨by first | omega | (simp; done) | (unfold maxLen; omega) | (simp [maxLen]; omega) | assumption, ?_⟩
      refine hk _ ?_; clear hk k
      refine ⟨z + 1, by omega, le_of [(0, _)] (by rfl) (by rfl) ⟨⟨_, rfl, .p (.of_eq (by first | rfl | (simp only [PV.lit.injEq, Value.int.injEq, true_and]; omega) | (simp; done) | (simp; omega)))⟩, ⟨_, rfl, .p (.of_eq (by first | rfl | (simp only [PV.lit.injEq, Value.int.injEq, true_and]; omega) | (simp; done) | (simp; omega)))⟩, ⟨_, rfl, .fn rfl LeRow.nil.2⟩, ⟨_, rfl, .own rfl⟩, ⟨_, rfl, .p (.of_eq (by first | rfl | rw [Pl.allF_tots hf hl hB.1]))⟩, ⟨_, rfl, .p (.of_eq (by first | rfl | (simp only [PV.lit.injEq, Value.int.injEq, true_and]; omega) | (simp; done) | (simp; omega)))⟩, ⟨_, rfl, .p (.of_eq (by first | rfl | (simp only [PV.lit.injEq, Value.int.injEq, true_and]; omega) | (simp; done) | (simp; omega)))⟩, ⟨_, rfl, .p (.of_eq (by first | rfl | (simp only [PV.lit.injEq, Value.int.injEq, true_and]; omega) | (simp; done) | (simp; omega)))⟩, ⟨_, rfl, .p (.of_eq (by first | rfl | (simp only [PV.lit.injEq, Value.int.injEq, true_and]; omega) | (simp; done) | (simp; omega)))⟩, ⟨_, rfl, .p (.of_eq (by first | rfl | (simp only [PV.lit.injEq, Value.int.injEq, true_and]; omega) | (simp; done) | (simp; omega)))⟩, trivial⟩ ⟨⟨_, rfl, _, rfl, .liftE (by first | (rw [List.take_zero, List.flatMap_nil, Pl.fillL_nil, List.map_replicate]; done) | (rw [Pl.block_snoc (L := (Pl.ordU (Pl.blkN l.length B : Nat) p)) (z := z) (by omega) hu u1, show y = (Pl.part l B u).length by omega]; done) | trace_state)⟩, trivial⟩, by omega⟩
    ·try simp only [hbx] at hb
     refine awp_exit ((if_pos rfl).mpr ?_)
     refine h7 _ ?_; clear h9 k9; clear h7 k7
     refine awp_le (le_keep [8, 9, 10]) ?_
     simp only [kp, argSl, simprocAttr]
     have htk : (Pl.ordU (Pl.blkN l.length B : Nat) p).take z = (Pl.ordU (Pl.blkN l.length B : Nat) p) := List.take_of_length_le (by omega)
     rw [htk, Pl.fill_blocks hB hn hoo (fun j => Pl.allF f (l.take j))]
     refine awp_sr [] (by rw [hC]; rfl) fun k hk => ?_
     simp (maxSteps := 9^9) (disch := (try simp only [lens]); omega) only [argSl, sm, ↓amb, mark_eq, simprocAttr, hen, dx]
     repeat refine ⟨by first | omega | (simp; done) | (unfold maxLen; omega) | (simp [maxLen]; omega) | assumption, ?_⟩
     refine hk _ ?_; clear hk k
     refine awp_ret ?_
     rw [(Pl.sc_yes (f := f) hse).2.1, (Pl.sc_yes (f := f) hse).2.2, hse, Pl.blk_nat hB hn]
     refine reth4 rfl rfl rfl rfl rfl ?_
     exact le_of [(0, _)] (by rfl) (by rfl) ⟨⟨_, rfl, leTup (LeRow.cons (.own rfl) (LeRow.cons (.p (.refl _)) (LeRow.cons (.p (.refl _)) (LeRow.cons (.p (.refl _)) .nil))))⟩, trivial⟩ ⟨⟨_, rfl, _, rfl, .liftE (by first | rfl | trace_state)⟩, trivial⟩
end Go.Proofs.Ythelnccjcbnjfaa
end
section
set_option linter.unusedSimpArgs false
set_option linter.unusedVariables false
set_option maxRecDepth 100000
namespace Go.Proofs.Ythelnccjcbnjfaa
open Go.Am Go.Proofs
theorem en66 : enters Try.prog 66 = true := by kernel_rfl
set_option maxHeartbeats 4000000 in
theorem c_Highest_o (c d : Bool) (l : List Int) (b : Int) (p : Pl.Plan) (hl : ∀ x, x ∈ l → Pl.W32 x) (hn : l.length ≤ 1000000) (hse0 : Pl.scE l.length b p = 0) : PCall Try.prog 33 [words c l, iV b, .agg (planC d p)] (.tup [words false (Pl.highF l l.length), iV (Pl.scS l.length b p), iV (Pl.scE l.length b p)]) := by
 refine pcall_of_awp Try.func33 rfl (by simp [Try.ntmps33]) fun C hC => ?_
 refine awp_le (le_keep [0, 1, 2]) ?_
 simp only [kp, argSl, simprocAttr]
 refine awp_sr [] (by rw [hC]; rfl) fun k hk => ?_
 simp (maxSteps := 9^9) (disch := (try simp only [lens]); omega) only [argSl, sm, ↓amb, mark_eq, simprocAttr, dx, en66]
 repeat refine ⟨by first | omega | (simp; done) | (unfold maxLen; omega) | (simp [maxLen]; omega) | assumption, ?_⟩
 refine hk _ ?_; clear hk k
 refine awp_le (le_keep [0, 1, 5]) ?_
 simp only [kp, argSl, simprocAttr]
 refine awp_sr [] (by rw [hC]; rfl) fun k hk => ?_
 simp (maxSteps := 9^9) (disch := (try simp only [lens]); omega) only [argSl, sm, ↓amb, mark_eq, simprocAttr, sz26, en63, dx, en66]
 repeat refine ⟨by first | omega | (simp; done) | (unfold maxLen; omega) | (simp [maxLen]; omega) | assumption, ?_⟩
 refine callK_h (c_phases_o c d l b p hl 66 en66 (fun a b => max a b) Pl.rule_max (fun a b ha hb => c_scan_Highest_1 a b ha hb) hse0) [] [] (by first | rfl | (simp only [hm]; done)) (by first | rfl | (simp [namesOk, lkp]; done)) ?_ ?_ ?_ ?_ ?_ ?_ ?_
 (iterate 6 (focus (first | trivial | (intro n hn; cases hn; done) | (simp (maxSteps := 9^9) (disch := (try simp only [lens]); omega) only [argSl, sm, ↓amb, mark_eq, simprocAttr, sz26, en63, dx, en66, hmx, List.filter_cons, Nat.reduceBNe, imp_self, implies_true]; done))))
 simp (maxSteps := 9^9) (disch := (try simp only [lens]); omega) only [argSl, sm, ↓amb, mark_eq, simprocAttr, sz26, en63, dx, en66, hm, List.filter_cons, List.filter_nil, Nat.reduceBNe, Option.map_none]
 repeat refine ⟨by first | omega | (simp; done) | (unfold maxLen; omega) | (simp [maxLen]; omega) | assumption, ?_⟩
 refine hk _ ?_; clear hk k
 refine awp_seq fun k1 h1 => ?_
 refine awp_le (le_keep [0, 6, 7, 8, 9, 11, 12]) ?_
 simp only [kp, argSl, simprocAttr]
 have hal := Pl.aheadF_len (fun a b => max a b) l
 refine awp_sr [] (by rw [hC]; rfl) fun k hk => ?_
 simp (maxSteps := 9^9) (disch := (try simp only [lens]); omega) only [argSl, sm, ↓amb, mark_eq, simprocAttr, el22, dx, en66]
 repeat refine ⟨by first | omega | (simp; done) | (unfold maxLen; omega) | (simp [maxLen]; omega) | assumption, ?_⟩
 refine hk _ ?_; clear hk k
 refine awp_block ?_
 refine awp_loop (σ := Nat) (fun i => i ≤ l.length) (fun (i : Nat) => ⟨[(0, (.p (words c l))), (9, (.own 0)), (11, (.p (iV (Pl.scS l.length b p)))), (12, (.p (iV (Pl.scE l.length b p)))), (24, (.p (iV l.length))), (25, (.p (iV (i : Int))))], [(0, (.row 1 (lift ((Pl.tabL l.length (Pl.hiT l i)).map fun x => [u32V x]))))], 1⟩) (fun i => l.length - i) 0 ?_ ?_ fun i hi => ?_
 ·exact Nat.zero_le _
 ·exact le_of [(0, _)] (by rfl) (by rfl) ⟨⟨_, rfl, .p (.of_eq (by first | rfl | (simp only [PV.lit.injEq, Value.int.injEq, true_and]; omega) | (simp; done) | (simp; omega)))⟩, ⟨_, rfl, .own rfl⟩, ⟨_, rfl, .p (.of_eq (by first | rfl | (simp only [PV.lit.injEq, Value.int.injEq, true_and]; omega) | (simp; done) | (simp; omega)))⟩, ⟨_, rfl, .p (.of_eq (by first | rfl | (simp only [PV.lit.injEq, Value.int.injEq, true_and]; omega) | (simp; done) | (simp; omega)))⟩, ⟨_, rfl, .p (.of_eq (by first | rfl | rw [hal] | trace_state))⟩, ⟨_, rfl, .p (.of_eq (by first | rfl | (simp only [PV.lit.injEq, Value.int.injEq, true_and]; omega) | (simp; done) | (simp; omega)))⟩, trivial⟩ ⟨⟨_, rfl, _, rfl, .liftE (by first | (rw [Pl.hiT_0]; done) | (rw [hgt, ← Pl.hiT_set (show i < l.length by omega), List.map_set]; first | done | rfl) | trace_state)⟩, trivial⟩
 refine awp_le (le_keep [0, 6, 7, 8, 9, 11, 12, 24, 25]) ?_
 simp only [kp, argSl, simprocAttr]
 refine awp_sr [] (by rw [hC]; rfl) fun k hk => ?_
 simp (maxSteps := 9^9) (disch := (try simp only [lens]); omega) only [argSl, sm, ↓amb, mark_eq, simprocAttr, dx, en66]
 repeat refine ⟨by first | omega | (simp; done) | (unfold maxLen; omega) | (simp [maxLen]; omega) | assumption, ?_⟩
 refine hk _ ?_; clear hk k
 refine awp_seq fun k3 h3 => ?_
 refine awp_cond rfl (fun hb => ?_) (fun hb => ?_)
 ·try simp only [hbx] at hb
  refine awp_skip ?_
  refine h3 _ ?_; clear h3 k3
  refine awp_seq fun k4 h4 => ?_
  refine awp_block ?_
  refine awp_le (le_keep [0, 6, 7, 8, 9, 11, 12, 24, 25]) ?_
  simp only [kp, argSl, simprocAttr]
  refine awp_sr [] (by rw [hC]; rfl) fun k hk => ?_
  simp (maxSteps := 9^9) (disch := (try simp only [lens]); omega) only [argSl, sm, ↓amb, mark_eq, simprocAttr, dx, en66]
  repeat refine ⟨by first | omega | (simp; done) | (unfold maxLen; omega) | (simp [maxLen]; omega) | assumption, ?_⟩
  refine hk _ ?_; clear hk k
  have htl := Pl.tabL_len l.length (Pl.hiT l i)
  have hgt := Pl.tabL_get (n := l.length) (g := Pl.hiT l i) (show i < l.length by omega)
  refine awp_draw [] ⟨[0, 0, 0, 0, 12, 28, 0, 0, 192, 448, 1020, 2047, 4095], [4, 5, 11], [12], [], some [0]⟩ (by rw [hC]; rfl) (by kernel_rfl) (by kernel_rfl) fun k hk => ?_
  simp (maxSteps := 9^9) (disch := (try simp only [lens]); omega) only [argSl, sm, ↓amb, mark_eq, simprocAttr, el22, sz28, dx, en66]
  repeat refine ⟨by first | omega | (simp; done) | (unfold maxLen; omega) | (simp [maxLen]; omega) | assumption, ?_⟩
  refine hk _ ?_; clear hk k
  refine h4 _ ?_; clear h4 k4
  refine awp_region [] (by rw [hC]; rfl) fun k hk => ?_
  simp (maxSteps := 9^9) (disch := (try simp only [lens]); omega) only [argSl, sm, ↓amb, mark_eq, simprocAttr, dx, en66]
  repeat refine ⟨by first | omega | (simp; done) | (unfold maxLen; omega) | (simp [maxLen]; omega) | assumption, ?_⟩
  refine hk _ ?_; clear hk k
  refine ⟨i + 1, by omega, le_of [(0, _)] (by rfl) (by rfl) ⟨⟨_, rfl, .p (.of_eq (by first | rfl | (simp only [PV.lit.injEq, Value.int.injEq, true_and]; omega) | (simp; done) | (simp; omega)))⟩, ⟨_, rfl, .own rfl⟩, ⟨_, rfl, .p (.of_eq (by first | rfl | (simp only [PV.lit.injEq, Value.int.injEq, true_and]; omega) | (simp; done) | (simp; omega)))⟩, ⟨_, rfl, .p (.of_eq (by first | rfl | (simp only [PV.lit.injEq, Value.int.injEq, true_and]; omega) | (simp; done) | (simp; omega)))⟩, ⟨_, rfl, .p (.of_eq (by first | rfl | rw [hal] | trace_state))⟩, ⟨_, rfl, .p (.of_eq (by first | rfl | (simp only [PV.lit.injEq, Value.int.injEq, true_and]; omega) | (simp; done) | (simp; omega)))⟩, trivial⟩ ⟨⟨_, rfl, _, rfl, .liftE (by first | (rw [Pl.hiT_0]; done) | (rw [hgt, ← Pl.hiT_set (show i < l.length by omega), List.map_set]; first | done | rfl) | trace_state)⟩, trivial⟩, by omega⟩
 ·try simp only [hbx] at hb
  refine awp_exit ((if_pos rfl).mpr ?_)
  refine h1 _ ?_; clear h3 k3; clear h1 k1
  refine awp_le (le_keep [9, 11, 12]) ?_
  simp only [kp, argSl, simprocAttr]
  obtain rfl : i = l.length := by omega
  rw [Pl.hiT_end]
  refine awp_sr [] (by rw [hC]; rfl) fun k hk => ?_
  simp (maxSteps := 9^9) (disch := (try simp only [lens]); omega) only [argSl, sm, ↓amb, mark_eq, simprocAttr, dx, en66]
  repeat refine ⟨by first | omega | (simp; done) | (unfold maxLen; omega) | (simp [maxLen]; omega) | assumption, ?_⟩
  refine hk _ ?_; clear hk k
  refine awp_ret ?_
  refine ret3 rfl rfl rfl rfl ?_ ?_ ?_
  ·exact .ownE rfl rfl
  ·exact .p (LeP.refl _)
  ·exact .p (LeP.refl _)
set_option maxHeartbeats 4000000 in
theorem c_Highest_e (c d : Bool) (l : List Int) (b : Int) (p : Pl.Plan) (hl : ∀ x, x ∈ l → Pl.W32 x) (hse0 : ¬ Pl.scE l.length b p = 0) : PCall Try.prog 33 [words c l, iV b, .agg (planC d p)] (.tup [words false [], iV (Pl.scS l.length b p), iV (Pl.scE l.length b p)]) := by
 refine pcall_of_awp Try.func33 rfl (by simp [Try.ntmps33]) fun C hC => ?_
 refine awp_le (le_keep [0, 1, 2]) ?_
 simp only [kp, argSl, simprocAttr]
 refine awp_sr [] (by rw [hC]; rfl) fun k hk => ?_
 simp (maxSteps := 9^9) (disch := (try simp only [lens]); omega) only [argSl, sm, ↓amb, mark_eq, simprocAttr, dx, en66]
 repeat refine ⟨by first | omega | (simp; done) | (unfold maxLen; omega) | (simp [maxLen]; omega) | assumption, ?_⟩
 refine hk _ ?_; clear hk k
 refine awp_le (le_keep [0, 1, 5]) ?_
 simp only [kp, argSl, simprocAttr]
 refine awp_sr [] (by rw [hC]; rfl) fun k hk => ?_
 simp (maxSteps := 9^9) (disch := (try simp only [lens]); omega) only [argSl, sm, ↓amb, mark_eq, simprocAttr, sz26, en63, dx, en66]
 repeat refine ⟨by first | omega | (simp; done) | (unfold maxLen; omega) | (simp [maxLen]; omega) | assumption, ?_⟩
 refine callK_h (c_scan_phases c d l b p hl 66 en66 (fun a b => max a b) Pl.rule_max (fun a b ha hb => c_scan_Highest_1 a b ha hb)) [] [] (by first | rfl | (simp only [hm]; done)) (by first | rfl | (simp [namesOk, lkp]; done)) ?_ ?_ ?_ ?_ ?_ ?_ ?_
 (iterate 6 (focus (first | trivial | (intro n hn; cases hn; done) | (simp (maxSteps := 9^9) (disch := (try simp only [lens]); omega) only [argSl, sm, ↓amb, mark_eq, simprocAttr, sz26, en63, dx, en66, hmx, List.filter_cons, Nat.reduceBNe, imp_self, implies_true]; done))))
 simp (maxSteps := 9^9) (disch := (try simp only [lens]); omega) only [argSl, sm, ↓amb, mark_eq, simprocAttr, sz26, en63, dx, en66, hm, List.filter_cons, List.filter_nil, Nat.reduceBNe, Option.map_none]
 repeat refine ⟨by first | omega | (simp; done) | (unfold maxLen; omega) | (simp [maxLen]; omega) | assumption, ?_⟩
 refine hk _ ?_; clear hk k
 refine awp_seq fun k1 h1 => ?_
 refine awp_le (le_keep [0, 6, 7, 8, 9, 11, 12]) ?_
 simp only [kp, argSl, simprocAttr]
 rw [(Pl.sc_no (f := (fun a b => max a b)) hse0).1]
 refine awp_sr [] (by rw [hC]; rfl) fun k hk => ?_
 simp (maxSteps := 9^9) (disch := (try simp only [lens]); omega) only [argSl, sm, ↓amb, mark_eq, simprocAttr, el22, dx, en66]
 repeat refine ⟨by first | omega | (simp; done) | (unfold maxLen; omega) | (simp [maxLen]; omega) | assumption, ?_⟩
 refine hk _ ?_; clear hk k
 refine awp_block ?_
 refine awp_loop (σ := Nat) (fun i => i ≤ 0) (fun (i : Nat) => ⟨[(9, (.p (words false []))), (11, (.p (iV (Pl.scS l.length b p)))), (12, (.p (iV (Pl.scE l.length b p)))), (24, (.p (iV 0))), (25, (.p (iV (i : Int))))], [], 1⟩) (fun i => 0 - i) 0 ?_ ?_ fun i hi => ?_
 ·exact Nat.zero_le _
 ·exact le_of [] (by rfl) (by rfl) ⟨⟨_, rfl, .p (.of_eq (by first | rfl | (simp only [PV.lit.injEq, Value.int.injEq, true_and]; omega) | (simp; done) | (simp; omega)))⟩, ⟨_, rfl, .p (.of_eq (by first | rfl | (simp only [PV.lit.injEq, Value.int.injEq, true_and]; omega) | (simp; done) | (simp; omega)))⟩, ⟨_, rfl, .p (.of_eq (by first | rfl | (simp only [PV.lit.injEq, Value.int.injEq, true_and]; omega) | (simp; done) | (simp; omega)))⟩, ⟨_, rfl, .p (.of_eq (by first | rfl | (simp only [PV.lit.injEq, Value.int.injEq, true_and]; omega) | (simp; done) | (simp; omega)))⟩, ⟨_, rfl, .p (.of_eq (by first | rfl | (simp only [PV.lit.injEq, Value.int.injEq, true_and]; omega) | (simp; done) | (simp; omega)))⟩, trivial⟩ trivial
 refine awp_le (le_keep [0, 6, 7, 8, 9, 11, 12, 24, 25]) ?_
 simp only [kp, argSl, simprocAttr]
 refine awp_sr [] (by rw [hC]; rfl) fun k hk => ?_
 simp (maxSteps := 9^9) (disch := (try simp only [lens]); omega) only [argSl, sm, ↓amb, mark_eq, simprocAttr, dx, en66]
 repeat refine ⟨by first | omega | (simp; done) | (unfold maxLen; omega) | (simp [maxLen]; omega) | assumption, ?_⟩
 refine hk _ ?_; clear hk k
 refine awp_seq fun k3 h3 => ?_
 refine awp_cond rfl (fun hb => ?_) (fun hb => ?_)
 ·exact absurd hb (by simp)
 ·try simp only [hbx] at hb
  refine awp_exit ((if_pos rfl).mpr ?_)
  refine h1 _ ?_; clear h3 k3; clear h1 k1
  refine awp_le (le_keep [9, 11, 12]) ?_
  simp only [kp, argSl, simprocAttr]
  refine awp_sr [] (by rw [hC]; rfl) fun k hk => ?_
  simp (maxSteps := 9^9) (disch := (try simp only [lens]); omega) only [argSl, sm, ↓amb, mark_eq, simprocAttr, dx, en66]
  repeat refine ⟨by first | omega | (simp; done) | (unfold maxLen; omega) | (simp [maxLen]; omega) | assumption, ?_⟩
  refine hk _ ?_; clear hk k
  refine awp_ret ?_
  refine ret3 rfl rfl rfl rfl ?_ ?_ ?_
  ·exact .p (LeP.refl _)
  ·exact .p (LeP.refl _)
  ·exact .p (LeP.refl _)
end Go.Proofs.Ythelnccjcbnjfaa
end
section
set_option linter.unusedSimpArgs false
set_option linter.unusedVariables false
set_option maxRecDepth 100000
namespace Go.Proofs.Ythelnccjcbnjfaa
open Go.Am Go.Proofs
theorem c_scan_Highest (c d : Bool) (l : List Int) (b : Int) (p : Pl.Plan) (hl : ∀ x, x ∈ l → Pl.W32 x) (hn : l.length ≤ 1000000) : PCall Try.prog 33 [words c l, iV b, .agg (planC d p)] (.tup [words false (Pl.hiL l b p), iV (Pl.scS l.length b p), iV (Pl.scE l.length b p)]) := by
  by_cases h : Pl.scE l.length b p = 0
  · rw [show Pl.hiL l b p = Pl.highF l l.length from if_pos h]; exact c_Highest_o c d l b p hl hn h
  · rw [show Pl.hiL l b p = [] from if_neg h]; exact c_Highest_e c d l b p hl h
end Go.Proofs.Ythelnccjcbnjfaa
end
section
set_option linter.unusedSimpArgs false
set_option linter.unusedVariables false
set_option maxRecDepth 100000
namespace Go.Proofs.Ythelnccjcbnjfaa
open Go.Am Go.Proofs
set_option maxHeartbeats 4000000 in
theorem c_ref08_Totals (c : Bool) (l : List Int) (b : Int) (hl : ∀ x, x ∈ l → Pl.W32 x) : PCall Try.prog 36 [words c l, iV b] (words false (Pl.totR l b)) := by
 refine pcall_of_awp Try.func36 rfl (by simp [Try.ntmps36]) fun C hC => ?_
 refine awp_le (le_keep [0, 1]) ?_
 simp only [kp, argSl, simprocAttr]
 refine awp_sr [42] (by rw [hC]; rfl) fun k hk => ?_
 simp (maxSteps := 9^9) (disch := (try simp only [lens]); omega) only [argSl, sm, ↓amb, mark_eq, simprocAttr, wr_u32, dx]
 repeat refine ⟨by first | omega | (simp; done) | (unfold maxLen; omega) | (simp [maxLen]; omega) | assumption, ?_⟩
 refine hk _ ?_; clear hk k
 refine awp_le (le_keep [0, 1]) ?_
 simp only [kp, argSl, simprocAttr]
 refine awp_sr [42] (by rw [hC]; rfl) fun k hk => ?_
 simp (maxSteps := 9^9) (disch := (try simp only [lens]); omega) only [argSl, sm, ↓amb, mark_eq, simprocAttr, wr_u32, dx]
 repeat refine ⟨by first | omega | (simp; done) | (unfold maxLen; omega) | (simp [maxLen]; omega) | assumption, ?_⟩
 refine hk _ ?_; clear hk k
 refine awp_le (le_keep [0, 1, 5]) ?_
 simp only [kp, argSl, simprocAttr]
 refine awp_sr [42] (by rw [hC]; rfl) fun k hk => ?_
 simp (maxSteps := 9^9) (disch := (try simp only [lens]); omega) only [argSl, sm, ↓amb, mark_eq, simprocAttr, el22, en40, wr_u32, dx]
 repeat refine ⟨by first | omega | (simp; done) | (unfold maxLen; omega) | (simp [maxLen]; omega) | assumption, ?_⟩
 refine callK_p (c_ref08_Blocks _ _) rfl ?_
 simp (maxSteps := 9^9) (disch := (try simp only [lens]); omega) only [argSl, sm, ↓amb, mark_eq, simprocAttr, el22, en40, wr_u32, dx]
 repeat refine ⟨by first | omega | (simp; done) | (unfold maxLen; omega) | (simp [maxLen]; omega) | assumption, ?_⟩
 refine hk _ ?_; clear hk k
 refine awp_seq fun k1 h1 => ?_
 refine awp_le (le_keep [0, 1, 4, 5, 6]) ?_
 simp only [kp, argSl, simprocAttr]
 refine awp_own' 5 1 rfl ?_
 have hbn := Pl.blk_nn l.length b
 refine awp_sr [42] (by rw [hC]; rfl) fun k hk => ?_
 simp (maxSteps := 9^9) (disch := (try simp only [lens]); omega) only [argSl, sm, ↓amb, mark_eq, simprocAttr, wr_u32, dx]
 repeat refine ⟨by first | omega | (simp; done) | (unfold maxLen; omega) | (simp [maxLen]; omega) | assumption, ?_⟩
 refine hk _ ?_; clear hk k
 refine awp_block ?_
 refine awp_loop (σ := Nat) (fun u => (u : Int) ≤ Pl.blk l.length b) (fun (u : Nat) => ⟨[(0, (.p (words c l))), (1, (.p (iV b))), (5, (.own 0)), (6, (.p (iV (Pl.blk l.length b)))), (7, (.p (iV (u : Int))))], [(0, (.row 1 (lift ((Pl.totF Pl.add32 l b.toNat u).map fun x => [u32V x]))))], 1⟩) (fun u => (Pl.blk l.length b).toNat - u) 0 ?_ ?_ fun u hu => ?_
 ·exact hbn.1
 ·exact le_of [(0, _)] (by rfl) (by rfl) ⟨⟨_, rfl, .p (.of_eq (by first | rfl | (simp only [PV.lit.injEq, Value.int.injEq, true_and]; omega) | (simp; done) | (simp; omega)))⟩, ⟨_, rfl, .p (.of_eq (by first | rfl | (simp only [PV.lit.injEq, Value.int.injEq, true_and]; omega) | (simp; done) | (simp; omega)))⟩, ⟨_, rfl, .own rfl⟩, ⟨_, rfl, .p (.of_eq (by first | rfl | (simp only [PV.lit.injEq, Value.int.injEq, true_and]; omega) | (simp; done) | (simp; omega)))⟩, ⟨_, rfl, .p (.of_eq (by first | rfl | (simp only [PV.lit.injEq, Value.int.injEq, true_and]; omega) | (simp; done) | (simp; omega)))⟩, trivial⟩ ⟨⟨_, rfl, _, rfl, .liftE (by first | rfl | (rw [Int.toNat_natCast, Pl.totF_snoc, List.map_append]; first | done | rfl) | trace_state)⟩, trivial⟩
 refine awp_seq fun k3 h3 => ?_
 refine awp_le (le_keep [0, 1, 4, 5, 6, 7]) ?_
 simp only [kp, argSl, simprocAttr]
 refine awp_sr [42] (by rw [hC]; rfl) fun k hk => ?_
 simp (maxSteps := 9^9) (disch := (try simp only [lens]); omega) only [argSl, sm, ↓amb, mark_eq, simprocAttr, wr_u32, dx]
 repeat refine ⟨by first | omega | (simp; done) | (unfold maxLen; omega) | (simp [maxLen]; omega) | assumption, ?_⟩
 refine hk _ ?_; clear hk k
 refine awp_cond rfl (fun hb => ?_) (fun hb => ?_)
 ·try simp only [hbx] at hb
  refine awp_skip ?_
  refine h3 _ ?_; clear h3 k3
  refine awp_seq fun k4 h4 => ?_
  refine awp_block ?_
  refine awp_le (le_keep [0, 1, 4, 5, 6, 7]) ?_
  simp only [kp, argSl, simprocAttr]
  obtain ⟨B, rfl, hB, hn, u1, u2, u3⟩ := Pl.blk_in hb
  have hpl := Pl.part_len l B u
  rw [u2] at hpl
  have e1 : (u : Int) * (B : Int) = ((u * B : Nat) : Int) := by rw [Int.natCast_mul]
  have e2 : ((u : Int) + 1) * (B : Int) = ((u * B + B : Nat) : Int) := by rw [← u2, Int.natCast_mul]; rfl
  have htl := Pl.totF_len Pl.add32 l B u
  refine awp_sr [42] (by rw [hC]; rfl) fun k hk => ?_
  simp (maxSteps := 9^9) (disch := (try simp only [lens]); omega) only [argSl, sm, ↓amb, mark_eq, simprocAttr, wr_u32, dx]
  repeat refine ⟨by first | omega | (simp; done) | (unfold maxLen; omega) | (simp [maxLen]; omega) | assumption, ?_⟩
  refine hk _ ?_; clear hk k
  refine awp_seq fun k5 h5 => ?_
  refine awp_le (le_keep [0, 1, 4, 5, 6, 7, 8]) ?_
  simp only [kp, argSl, simprocAttr]
  refine awp_sr [42] (by rw [hC]; rfl) fun k hk => ?_
  simp (maxSteps := 9^9) (disch := (try simp only [lens]); omega) only [argSl, sm, ↓amb, mark_eq, simprocAttr, wr_u32, dx]
  repeat refine ⟨by first | omega | (simp; done) | (unfold maxLen; omega) | (simp [maxLen]; omega) | assumption, ?_⟩
  refine hk _ ?_; clear hk k
  refine awp_block ?_
  refine awp_loop (σ := Nat) (fun y => y ≤ (Pl.part l B u).length) (fun (y : Nat) => ⟨[(0, (.p (words c l))), (1, (.p (iV B))), (5, (.own 0)), (6, (.p (iV (Pl.blk l.length B)))), (7, (.p (iV (u : Int)))), (8, (.p (u32V (Pl.allF Pl.add32 ((Pl.part l B u).take y))))), (9, (.p (iV ((u : Int) * (B : Int) + ((y : Nat) : Int)))))], [(0, (.row 1 (lift ((Pl.totF Pl.add32 l B u).map fun x => [u32V x]))))], 1⟩) (fun y => (Pl.part l B u).length - y) 0 ?_ ?_ fun y hy => ?_
  ·exact Nat.zero_le _
  ·exact le_of [(0, _)] (by rfl) (by rfl) ⟨⟨_, rfl, .p (.of_eq (by first | rfl | (simp only [PV.lit.injEq, Value.int.injEq, true_and]; omega) | (simp; done) | (simp; omega)))⟩, ⟨_, rfl, .p (.of_eq (by first | rfl | (simp only [PV.lit.injEq, Value.int.injEq, true_and]; omega) | (simp; done) | (simp; omega)))⟩, ⟨_, rfl, .own rfl⟩, ⟨_, rfl, .p (.of_eq (by first | rfl | (simp only [PV.lit.injEq, Value.int.injEq, true_and]; omega) | (simp; done) | (simp; omega)))⟩, ⟨_, rfl, .p (.of_eq (by first | rfl | (simp only [PV.lit.injEq, Value.int.injEq, true_and]; omega) | (simp; done) | (simp; omega)))⟩, ⟨_, rfl, .p (.of_eq (by first | rfl | (rw [Pl.allF_take _ _ y (by omega), hpg, ← e3]; first | done | rfl) | trace_state))⟩, ⟨_, rfl, .p (.of_eq (by first | rfl | (show PV.lit (.int .i64 _) = PV.lit (.int .i64 _); congr 2; omega) | trace_state))⟩, trivial⟩ ⟨⟨_, rfl, _, rfl, .liftE (by first | rfl | (rw [Int.toNat_natCast]; done) | trace_state)⟩, trivial⟩
  refine awp_seq fun k7 h7 => ?_
  refine awp_le (le_keep [0, 1, 4, 5, 6, 7, 8, 9]) ?_
  simp only [kp, argSl, simprocAttr]
  refine awp_sr [42] (by rw [hC]; rfl) fun k hk => ?_
  simp (maxSteps := 9^9) (disch := (try simp only [lens]); omega) only [argSl, sm, ↓amb, mark_eq, simprocAttr, el22, wr_u32, dx]
  repeat refine ⟨by first | omega | (simp; done) | (unfold maxLen; omega) | (simp [maxLen]; omega) | assumption, ?_⟩
  refine hk _ ?_; clear hk k
  refine awp_cond rfl (fun hb => ?_) (fun hb => ?_)
  ·try simp only [hbx] at hb
   refine awp_skip ?_
   refine h7 _ ?_; clear h7 k7
   refine awp_seq fun k8 h8 => ?_
   refine awp_block ?_
   have e3 : ((u : Int) * (B : Int) + (y : Int)).toNat = u * B + y := by rw [e1]; omega
   have hpg := Pl.part_get (l := l) (b := B) (i := u) (j := y) (by omega)
   refine awp_region [42] (by rw [hC]; rfl) fun k hk => ?_
   simp (maxSteps := 9^9) (disch := (try simp only [lens]); omega) only [argSl, sm, ↓amb, mark_eq, simprocAttr, el22, sz28, wr_u32, dx]
   repeat refine ⟨by first | omega | (simp; done) | (unfold maxLen; omega) | (simp [maxLen]; omega) | assumption, ?_⟩
   refine hk _ ?_; clear hk k
   refine h8 _ ?_; clear h8 k8
   refine awp_region [42] (by rw [hC]; rfl) fun k hk => ?_
   simp (maxSteps := 9^9) (disch := (try simp only [lens]); omega) only [argSl, sm, ↓amb, mark_eq, simprocAttr, wr_u32, dx]
   repeat refine ⟨by first | omega | (simp; done) | (unfold maxLen; omega) | (simp [maxLen]; omega) | assumption, ?_⟩
   refine hk _ ?_; clear hk k
   refine ⟨y + 1, by omega, le_of [(0, _)] (by rfl) (by rfl) ⟨⟨_, rfl, .p (.of_eq (by first | rfl | (simp only [PV.lit.injEq, Value.int.injEq, true_and]; omega) | (simp; done) | (simp; omega)))⟩, ⟨_, rfl, .p (.of_eq (by first | rfl | (simp only [PV.lit.injEq, Value.int.injEq, true_and]; omega) | (simp; done) | (simp; omega)))⟩, ⟨_, rfl, .own rfl⟩, ⟨_, rfl, .p (.of_eq (by first | rfl | (simp only [PV.lit.injEq, Value.int.injEq, true_and]; omega) | (simp; done) | (simp; omega)))⟩, ⟨_, rfl, .p (.of_eq (by first | rfl | (simp only [PV.lit.injEq, Value.int.injEq, true_and]; omega) | (simp; done) | (simp; omega)))⟩, ⟨_, rfl, .p (.of_eq (by first | rfl | (rw [Pl.allF_take _ _ y (by omega), hpg, ← e3]; first | done | rfl) | trace_state))⟩, ⟨_, rfl, .p (.of_eq (by first | rfl | (show PV.lit (.int .i64 _) = PV.lit (.int .i64 _); congr 2; omega) | trace_state))⟩, trivial⟩ ⟨⟨_, rfl, _, rfl, .liftE (by first | rfl | (rw [Int.toNat_natCast]; done) | trace_state)⟩, trivial⟩, by omega⟩
  ·try simp only [hbx] at hb
   refine awp_exit ((if_pos rfl).mpr ?_)
   refine h5 _ ?_; clear h7 k7; clear h5 k5
   obtain rfl : y = (Pl.part l B u).length := by omega
   rw [List.take_of_length_le (Nat.le_refl _)]
   refine awp_region [42] (by rw [hC]; rfl) fun k hk => ?_
   simp (maxSteps := 9^9) (disch := (try simp only [lens]); omega) only [argSl, sm, ↓amb, mark_eq, simprocAttr, el22, vr28, by28, wr_u32, dx]
   repeat refine ⟨by first | omega | (simp; done) | (unfold maxLen; omega) | (simp [maxLen]; omega) | assumption, ?_⟩
   refine hk _ ?_; clear hk k
   refine h4 _ ?_; clear h4 k4
   refine awp_region [42] (by rw [hC]; rfl) fun k hk => ?_
   simp (maxSteps := 9^9) (disch := (try simp only [lens]); omega) only [argSl, sm, ↓amb, mark_eq, simprocAttr, wr_u32, dx]
   repeat refine ⟨by first | omega | (simp; done) | (unfold maxLen; omega) | (simp [maxLen]; omega) | assumption, ?_⟩
   refine hk _ ?_; clear hk k
   refine ⟨u + 1, by omega, le_of [(0, _)] (by rfl) (by rfl) ⟨⟨_, rfl, .p (.of_eq (by first | rfl | (simp only [PV.lit.injEq, Value.int.injEq, true_and]; omega) | (simp; done) | (simp; omega)))⟩, ⟨_, rfl, .p (.of_eq (by first | rfl | (simp only [PV.lit.injEq, Value.int.injEq, true_and]; omega) | (simp; done) | (simp; omega)))⟩, ⟨_, rfl, .own rfl⟩, ⟨_, rfl, .p (.of_eq (by first | rfl | (simp only [PV.lit.injEq, Value.int.injEq, true_and]; omega) | (simp; done) | (simp; omega)))⟩, ⟨_, rfl, .p (.of_eq (by first | rfl | (simp only [PV.lit.injEq, Value.int.injEq, true_and]; omega) | (simp; done) | (simp; omega)))⟩, trivial⟩ ⟨⟨_, rfl, _, rfl, .liftE (by first | rfl | (rw [Int.toNat_natCast, Pl.totF_snoc, List.map_append]; first | done | rfl) | trace_state)⟩, trivial⟩, by omega⟩
 ·try simp only [hbx] at hb
  refine awp_exit ((if_pos rfl).mpr ?_)
  refine h1 _ ?_; clear h3 k3; clear h1 k1
  refine awp_le (le_keep [5]) ?_
  simp only [kp, argSl, simprocAttr]
  rw [Pl.totR_eq (by omega) hu]
  refine awp_sr [42] (by rw [hC]; rfl) fun k hk => ?_
  simp (maxSteps := 9^9) (disch := (try simp only [lens]); omega) only [argSl, sm, ↓amb, mark_eq, simprocAttr, wr_u32, dx]
  repeat refine ⟨by first | omega | (simp; done) | (unfold maxLen; omega) | (simp [maxLen]; omega) | assumption, ?_⟩
  refine hk _ ?_; clear hk k
  refine awp_ret ?_
  refine ret1 rfl rfl ?_
  exact .ownE rfl rfl
end Go.Proofs.Ythelnccjcbnjfaa
end
section
set_option linter.unusedSimpArgs false
set_option linter.unusedVariables false
namespace Go.Proofs.Ythelnccjcbnjfaa
open Go.RowKit Go.Shelf Go.Proofs
attribute [local go_sem] Oper.semAt_some
def KB (Bs Bn : Nat) (W W' : World) : Prop := (∀ v, Boxed W Bs 22 v → Boxed W' Bs 22 v) ∧ (∀ v, Boxed W Bn 3 v → Boxed W' Bn 3 v)
theorem KB.trans {Bs Bn : Nat} {A B C : World} (h : KB Bs Bn A B) (k : KB Bs Bn B C) : KB Bs Bn A C := ⟨fun v q => k.1 v (h.1 v q), fun v q => k.2 v (h.2 v q)⟩
theorem boxed_ne {W : World} {B : Nat} {t : TypeId} {v : Value} (h : Boxed W B t v) {l : Nat} {o : Obj} (hl : W.heap[l]? = some o) (ho : o.isCells = false) : B ≠ l := by
  rintro rfl
  rw [show W.heap[B]? = _ from h] at hl; cases hl; cases ho
theorem KB.put {Bs Bn : Nat} (W : World) (l : Nat) (o o' : Obj) (hl : W.heap[l]? = some o) (ho : o.isCells = false) : KB Bs Bn W (W.putObj l o') :=
  ⟨fun v h => h.kept (grownBy_putObj' W l o') (fun e => boxed_ne h hl ho (by simpa using e)), fun v h => h.kept (grownBy_putObj' W l o') (fun e => boxed_ne h hl ho (by simpa using e))⟩
def chunkV (b off len B k : Nat) : Value := .slice (some ⟨b, off + k * B, none⟩) (min B (len - k * B)) (min B (len - k * B))
set_option maxRecDepth 100000 in
set_option maxHeartbeats 4000000 in
theorem chunk1_in (F : Fence) (n : Nat) (h83 : F.fn 83) (hro : F.round = none) (hn : 1 ≤ n) (l wz Bs Bn b off len cap B nb : Nat) (hB : 1 ≤ B ∧ B ≤ 100) (hlen : len ≤ 1000) (hcap : len ≤ cap) (hnb : ∀ k, k < nb ↔ k * B < len)
    (J Jx : List Nat → World → Prop) (hJ : AbidesFrom wz J)
    (hY : ∀ pre x W, J pre W → pre.length < nb → YieldAt F (n - 1) Try.prog l #[chunkV b off len B x] W fun e W' =>
      (e = .returned (.bool true) ∧ J (pre ++ [x]) W' ∧ KB Bs Bn W W') ∨ (e = .returned (.bool false) ∧ Jx (pre ++ [x]) W'))
    (W : World) (hBs' : Boxed W Bs 22 (.slice (some ⟨b, off, none⟩) len cap)) (hBn' : Boxed W Bn 3 (.int .i64 B)) (h0 : J [] W) :
    CallsIn F n Try.prog 83 #[.func (.yield l) #[] #[], .pointer (some ⟨Bs, 0, none⟩), .pointer (some ⟨Bn, 0, none⟩)] W fun e W' => (∃ v, e = .returned v) ∧
      ((∃ ys, ys = List.range nb ∧ J ys W') ∨ (∃ pre, pre <+: List.range nb ∧ Jx pre W')) := by
  refine callsIn_of_wp Try.func83 rfl h83 ?_ hro
  simp only [Try.ntmps83, List.size_toArray, List.length_cons, List.length_nil, Nat.reduceAdd, Nat.reduceSub, Array.replicate_succ, Array.replicate_zero, List.push_toArray, List.append_toArray, List.nil_append, List.cons_append]
  have hBs := hBs'.cell
  have hBn := hBn'.cell
  gi_wp2
  gi_loopw [4] (fun i wr => ∃ k : Nat, k ≤ nb ∧ i = .int .i64 ((k * B : Nat) : Int) ∧ J (List.range k) wr ∧ Boxed wr Bs 22 (.slice (some ⟨b, off, none⟩) len cap) ∧ Boxed wr Bn 3 (.int .i64 B))
    (fun i _ => len + B - (intOf i).toNat)
  case atStart => exact ⟨0, Nat.zero_le _, by simp, h0, hBs', hBn'⟩
  case round =>
    obtain ⟨k, hk, rfl, hJs, hq1, hq2⟩ := hrel
    have hs1 : wr.cell? ⟨Bs, 0, none⟩ = some (.slice (some ⟨b, off, none⟩) len cap) := hq1.cell
    have hn1 : wr.cell? ⟨Bn, 0, none⟩ = some (.int .i64 B) := hq2.cell
    have hJd : J (List.range k) wr.drew := hJ _ wr wr.drew none hJs ⟨rfl, rfl, rfl, Nat.le_refl _, fun _ _ _ => rfl⟩ (fun r e => by cases e)
    by_cases hlt : k * B < len
    · have hk1 : k + 1 ≤ nb := (hnb k).2 hlt
      have hkk : (k + 1) * B = k * B + B := by rw [Nat.add_mul, Nat.one_mul]
      obtain ⟨fn, tmps, assign, body, hy, hR⟩ := hY _ k wr.drew hJd (by rw [List.length_range]; exact hk1)
      have fin : ∀ (m : Nat), m = min B (len - k * B) → (Instr.yield l #[.slice (some ⟨b, off + k * B, none⟩) m m]).run Try.prog wr.drew = .ok (.round l fn tmps assign body) wr.drew := by
        intro m hm
        rw [← hy]; unfold chunkV
        rw [hm]
      by_cases hm : len - k * B < B
      · have hy2 := fin (len - k * B) (by omega)
        gi_wp2
        gi_region
        all_goals (try simp only [if_pos hm])
        all_goals gi_wp2
        all_goals (refine hR.mono ?_; rintro e W3 (⟨rfl, hJ3, hk3⟩ | ⟨rfl, hJx3⟩))
        all_goals first
          | (have hn3 : W3.cell? ⟨Bn, 0, none⟩ = some (.int .i64 B) := (hk3.2 _ hq2).cell
             gi_wp2
             go_roundw
             case rel => exact ⟨k + 1, hk1, by rw [hkk]; simp, by rw [List.range_succ]; exact hJ3, hk3.1 _ hq1, hk3.2 _ hq2⟩
             case measure => simp [intOf]; omega)
          | (gi_wp2
             exact bodyPost_ret (results_none rfl _ _ _) rfl ⟨⟨_, rfl⟩, .inr ⟨List.range k ++ [k], by rw [← List.range_succ, show List.range (k + 1) = (List.range nb).take (k + 1) from by rw [List.take_range, Nat.min_eq_left hk1]]; exact List.take_prefix _ _, hJx3⟩⟩)
          | trace_state
      · have hy2 := fin B (by omega)
        gi_wp2
        gi_region
        all_goals (try simp only [if_neg hm])
        all_goals gi_wp2
        all_goals (refine hR.mono ?_; rintro e W3 (⟨rfl, hJ3, hk3⟩ | ⟨rfl, hJx3⟩))
        all_goals first
          | (have hn3 : W3.cell? ⟨Bn, 0, none⟩ = some (.int .i64 B) := (hk3.2 _ hq2).cell
             gi_wp2
             go_roundw
             case rel => exact ⟨k + 1, hk1, by rw [hkk]; simp, by rw [List.range_succ]; exact hJ3, hk3.1 _ hq1, hk3.2 _ hq2⟩
             case measure => simp [intOf]; omega)
          | (gi_wp2
             exact bodyPost_ret (results_none rfl _ _ _) rfl ⟨⟨_, rfl⟩, .inr ⟨List.range k ++ [k], by rw [← List.range_succ, show List.range (k + 1) = (List.range nb).take (k + 1) from by rw [List.take_range, Nat.min_eq_left hk1]]; exact List.take_prefix _ _, hJx3⟩⟩)
          | trace_state
    · obtain rfl : k = nb := by
        have h9 : ¬ k < nb := fun h => hlt ((hnb k).1 h)
        omega
      gi_wp2
      go_end0
      exact ⟨⟨_, rfl⟩, .inl ⟨_, rfl, hJs⟩⟩
end Go.Proofs.Ythelnccjcbnjfaa
end
section
set_option linter.unusedSimpArgs false
set_option linter.unusedVariables false
namespace Go.Proofs.Ythelnccjcbnjfaa
open Go.RowKit Go.Shelf Go.Proofs
attribute [local go_sem] Oper.semAt_some
set_option maxRecDepth 100000 in
set_option maxHeartbeats 1000000 in
theorem chunk_in (F : Fence) (n : Nat) (h67 : F.fn 67) (hro : F.round = none) (a : Option Addr) (len cap B : Nat) (hB : 1 ≤ B ∧ B ≤ 100) (w : World) :
    CallsIn F n Try.prog 67 #[.slice a len cap, .int .i64 B] w fun e w' => e = .returned (.func (.func 83) #[] #[.pointer (some ⟨w.heap.size, 0, none⟩), .pointer (some ⟨w.heap.size + 1, 0, none⟩)]) ∧ w' = (w.alloc (.cells #[.slice a len cap] 22)).alloc (.cells #[.int .i64 B] 3) := by
  refine callsIn_of_wp Try.func67 rfl h67 ?_ hro
  simp only [Try.ntmps67, List.size_toArray, List.length_cons, List.length_nil, Nat.reduceAdd, Nat.reduceSub, Array.replicate_succ, Array.replicate_zero, List.push_toArray, List.append_toArray, List.nil_append, List.cons_append]
  have hnB : ¬ ((B : Int) < 1) := by omega
  gi_wp2
  go_ret
  exact ⟨rfl, rfl⟩
theorem chunk_stops (F : Fence) (n : Nat) (h83 : F.fn 83) (hro : F.round = none) (hn : 1 ≤ n) (Bs Bn b off len cap B nb : Nat) (hB : 1 ≤ B ∧ B ≤ 100) (hlen : len ≤ 1000) (hcap : len ≤ cap) (hnb : ∀ k, k < nb ↔ k * B < len) (w : World)
    (hBs : Boxed w Bs 22 (.slice (some ⟨b, off, none⟩) len cap)) (hBn : Boxed w Bn 3 (.int .i64 B)) :
    SeqStopsK F n Try.prog 83 #[.pointer (some ⟨Bs, 0, none⟩), .pointer (some ⟨Bn, 0, none⟩)] (fun x : Nat => #[chunkV b off len B x]) (KB Bs Bn) (fun ys => ys = List.range nb) (fun pre => pre <+: List.range nb) nb w := fun l J Jx W hW hJ _ hY h0 =>
  chunk1_in F n h83 hro hn l W.heap.size Bs Bn b off len cap B nb hB hlen hcap hnb J Jx hJ hY W ((hW.block Bs hBs.lt).trans hBs) ((hW.block Bn hBn.lt).trans hBn) h0
end Go.Proofs.Ythelnccjcbnjfaa
end
section
set_option linter.unusedSimpArgs false
set_option linter.unusedVariables false
namespace Go.Proofs.Ythelnccjcbnjfaa
open Go.RowKit Go.Shelf Go.Proofs Go.Am
attribute [local go_sem] Oper.semAt_some
theorem blocks_in (n : Nat) (w : World) (x y : Int) : CallsIn Fence.wide n Try.prog 39 #[.int .i64 x, .int .i64 y] w fun e w' => e = .returned (.int .i64 (Pl.blk x y)) ∧ Below w.heap.size w w' := by
  refine callsIn_wide.2 ((c_scan_Blocks x y (fun _ => False) w #[.int .i64 x, .int .i64 y] (fun b h => h.elim) rfl ?_).mono ?_)
  · intro i z hz
    match i, hz with
    | 0, hz => cases hz; exact .lit _
    | 1, hz => cases hz; exact .lit _
  · rintro e w' ⟨v, rfl, hv, hb⟩
    cases hv
    exact ⟨rfl, hb⟩
theorem sum_in (n : Nat) (w : World) (v : Value) (c : Bool) (xs : List Int) (hl : ∀ x, x ∈ xs → Pl.W32 x) (hn : xs.length ≤ 1000000) (h : RepP (fun _ => False) w (words c xs) v) : CallsIn Fence.wide n Try.prog 68 #[v] w fun e w' => e = .returned (.int .u32 (Pl.allF Pl.add32 xs)) ∧ Below w.heap.size w w' := by
  refine callsIn_wide.2 ((c_scan_sum c xs hl hn (fun _ => False) w #[v] (fun b h => h.elim) rfl ?_).mono ?_)
  · intro i z hz
    match i, hz with
    | 0, hz => cases hz; exact h
  · rintro e w' ⟨v, rfl, hv, hb⟩
    cases hv
    exact ⟨rfl, hb⟩
theorem und22 : Try.prog.underlying 22 = some (.slice 28) := by kernel_rfl
theorem inf28 : (Try.prog.info? 28).map (fun i => (i.zero, i.size, i.bytes)) = some (some (.int .u32 0), 1, 4) := by kernel_rfl
theorem words_open {O : Nat → Prop} {w : World} {c : Bool} {l : List Int} {v : Value} (h : RepP O w (words c l) v) :
    ∃ a cap, v = .slice a l.length cap ∧ (0 < l.length → ∃ b off, a = some ⟨b, off, none⟩ ∧ l.length ≤ cap ∧ ∀ j, j < l.length → w.cell? ⟨b, off + j, none⟩ = some (.int .u32 (l.getD j 0))) := by
  obtain ⟨es, he⟩ : ∃ es, es = l.map fun x => [u32V x] := ⟨_, rfl⟩
  unfold words at h
  rw [← he] at h
  have hlen : es.length = l.length := by rw [he]; simp
  have hfl : es.flatten = l.map u32V := by
    rw [he]; clear he hlen h
    induction l with
    | nil => rfl
    | cons x l ih => simp only [List.map_cons, List.flatten_cons, ih]; rfl
  cases h with
  | nilseq _ a cap hc =>
    rw [← hlen]
    exact ⟨a, cap, rfl, fun h => absurd h (by simp)⟩
  | seq _ _ sz b off cap f h1 h2 h3 h4 h5 =>
    rw [← hlen]
    refine ⟨_, cap, rfl, fun _ => ⟨b, off, rfl, h2, fun j hj => ?_⟩⟩
    have hj' : j < l.length := by omega
    rw [(h4 j (by rw [hfl]; simpa using hj')).2.1]
    have hx := h5 j (u32V (l.getD j 0)) (by rw [hfl]; simp [List.getD_eq_getElem?_getD, hj'])
    obtain ⟨q, hq⟩ : ∃ q, q = f j := ⟨_, rfl⟩
    rw [← hq] at hx ⊢
    cases hx; rfl
theorem words_shut {O : Nat → Prop} {w : World} {l : List Int} {b off cap : Nat} (hO : 0 < l.length → ¬ O b) (hcap : l.length ≤ cap) (hc : ∀ j, j < l.length → w.cell? ⟨b, off + j, none⟩ = some (.int .u32 (l.getD j 0))) : RepP O w (words false l) (.slice (some ⟨b, off, none⟩) l.length cap) := by
  have hfl : (l.map fun x => [u32V x]).flatten = l.map u32V := by
    clear hO hcap hc
    induction l with
    | nil => rfl
    | cons x l ih => simp only [List.map_cons, List.flatten_cons, ih]; rfl
  have hq := RepP.seq (O := O) (w := w) false (l.map fun x => [u32V x]) 1 b off cap (fun j => .int .u32 (l.getD j 0)) (fun e he => by obtain ⟨x, _, rfl⟩ := List.mem_map.1 he; rfl) (by simpa using hcap) (fun h => by cases h)
    (fun j hj => by rw [hfl] at hj; simp only [List.length_map] at hj; exact ⟨hO (by omega), hc j hj, rfl⟩)
    (fun j x hx => by
      rw [hfl] at hx
      rw [List.getElem?_map] at hx
      cases hlj : l[j]? with
      | none => rw [hlj] at hx; cases hx
      | some y => rw [hlj] at hx; cases hx; rw [show l.getD j 0 = y from by rw [List.getD_eq_getElem?_getD, hlj]; rfl]; exact .lit _)
  rw [List.length_map] at hq
  exact hq
theorem row_below {W W' : World} {base e size k : Nat} {v : Value} {xs : List Value} (h : W.ownsRow base e size v k xs) (hb : Below W.heap.size W W') : W'.ownsRow base e size v k xs := by
  refine ⟨h.1, ?_⟩
  rcases h.2 with q | ⟨g, cap, cur, h1, h2, h3, h4⟩
  · exact .inl q
  · exact .inr ⟨g, cap, cur, h1, h2, (hb.block g (Array.getElem?_eq_some_iff.1 h3).1).trans h3, h4⟩
theorem blkN_iff {n b : Nat} (hb : 1 ≤ b) (k : Nat) : k < Pl.blkN n b ↔ k * b < n := by
  unfold Pl.blkN
  rw [Nat.lt_div_iff_mul_lt (by omega)]; omega
theorem row_rep {O : Nat → Prop} {W : World} {base k : Nat} {v : Value} {xs : List Int} (h : W.ownsRow base 28 1 v k (xs.map (Value.int .u32))) (hO : ∀ b, O b → b < base) : RepP O W (words false xs) v := by
  obtain ⟨h1, h2⟩ := h
  rw [List.length_map, Nat.mul_one] at h1
  subst h1
  rcases h2 with ⟨rfl, h0⟩ | ⟨g, cap, cur, rfl, hg, hgb, hcap, _, hsz, ht⟩
  · rw [List.eq_nil_of_length_eq_zero h0]
    exact .nilseq _ _ _ (fun h => by cases h)
  · refine words_shut (fun _ h => by have := hO g h; omega) hcap fun j hj => ?_
    have e1 := congrArg (fun z => z[j]?) ht
    simp only [List.getElem?_map] at e1
    rw [List.getElem?_take_of_lt (by omega), Array.getElem?_toList] at e1
    simp [World.cell?, hgb]
    rw [e1]
    simp [hj]
theorem boxed_below {W W' : World} {B : Nat} {t : TypeId} {v : Value} (h : Boxed W B t v) (hb : Below W.heap.size W W') : Boxed W' B t v := (hb.block B h.lt).trans h
theorem oper_append_own {F : Fence} {n : Nat} {P : Program} (w : World) {o : Oper} {a : Act} {K : Act → World → Prop} {Q : Exit → Act → World → Prop} {y : Nat → Option Bool} {X : Prop}
    (hw : Region.wanted o y = true) (s x : Operand) (t : TypeId) (hop : o.op = Op.call { callee := Callee.builtin Builtin.append, args := #[s, x], argTypes := #[t, t] })
    (base : Nat) (e : TypeId) (i : TypeInfo) (z : Value) (size bytes : Nat) (h1 : P.underlying t = some (.slice e)) (h2 : P.info? e = some i) (h3 : i.zero = some z) (h4 : i.size = size) (h5 : i.bytes = bytes) (h6 : z.cells.size = size) (h7 : 0 < size)
    (v : Value) (k : Nat) (xs : List Value) (hs : a.eval s = v) (hown : w.ownsRow base e size v k xs) (ad : Addr) (m c : Nat) (news : List Value) (hx : a.eval x = .slice (some ad) m c) (hn : news.length = m * size)
    (hc : ∀ j u, news[j]? = some u → w.cell? (ad.add j) = some u) (h1c : ∀ u ∈ news, u.oneCell' = true) (b1 : k + m ≤ maxLen) (b2 : (k + m) * bytes ≤ 140737488355328) (b3 : base ≤ w.heap.size)
    (hK : ∀ v' w', w'.ownsRow base e size v' (k + m) (xs ++ news) → w.grownBy w' v.ownBlock → K (a.put o.dst v') w') :
    if Region.wanted o y = true then o.wpIn F n P a w K Q else X := by
  rw [if_pos hw]
  obtain ⟨v', w', hrun, r1, r2, r3⟩ := run_append_own (P := P) w base t o.type e i z size bytes h1 h2 h3 h4 h5 h6 h7 v k xs hown ad m c news hn hc h1c b1 b2 b3
  unfold Oper.wpIn
  refine ⟨?_, ?_⟩
  · simp [Oper.about, hop, resolve, Target.leads, Sem.run_pure]
  · rw [Oper.semAt_plain F _ _ (by rw [hop]; intro c hc'; cases hc')]
    simp [execOp, hop, resolve, invoke, builtin, hs, hx, hrun, Result.andThen]
    exact hK v' w' r1 r2
theorem KB.of_below {Bs Bn : Nat} {W W' : World} (hb : Below W.heap.size W W') : KB Bs Bn W W' := ⟨fun v h => boxed_below h hb, fun v h => boxed_below h hb⟩
theorem KB.appended {Bs Bn Bt n₀ k : Nat} {W w1 : World} {v v' : Value} {xs : List Value} {tmp : Obj} (hrow : W.ownsRow n₀ 28 1 v k xs) (hgrow : (W.alloc tmp).grownBy w1 v.ownBlock) (h1 : Bs ≠ Bt) (h2 : Bn ≠ Bt) : KB Bs Bn W (w1.setCell ⟨Bt, 0, none⟩ v') :=
  ⟨fun u h => ((h.alloc tmp).kept hgrow (h.not_row (by decide) hrow)).kept (grownBy_setCell' w1 Bt v') (by simpa using h1),
   fun u h => ((h.alloc tmp).kept hgrow (h.not_row (by decide) hrow)).kept (grownBy_setCell' w1 Bt v') (by simpa using h2)⟩
set_option maxRecDepth 100000 in
set_option maxHeartbeats 4000000 in
theorem totals_in (O : Nat → Prop) (w : World) (hO : ∀ b, O b → b < w.heap.size) (a : Option Addr) (len cap : Nat) (b : Int) (l : List Int) (hl : ∀ x, x ∈ l → Pl.W32 x) (hlen : l.length = len)
    (hrep : 0 < len → ∃ b off, a = some ⟨b, off, none⟩ ∧ len ≤ cap ∧ ∀ j, j < len → w.cell? ⟨b, off + j, none⟩ = some (.int .u32 (l.getD j 0))) :
    CallsIn Fence.wide 9 Try.prog 35 #[.slice a len cap, .int .i64 b] w fun e w' => ∃ v, e = .returned v ∧ RepP O w' (words false (Pl.totR l b)) v ∧ Below w.heap.size w w' := by
  refine callsIn_of_wp_marks Try.func35 rfl trivial ?_ rfl
  simp only [Try.ntmps35, List.size_toArray, List.length_cons, List.length_nil, Nat.reduceAdd, Nat.reduceSub, Array.replicate_succ, Array.replicate_zero, List.push_toArray, List.append_toArray, List.nil_append, List.cons_append]
  have hbn := Pl.blk_nn len b
  gi_wp2_with (refine ⟨trivial, ?_⟩; gi_at_call 39; refine (blocks_in _ _ _ _).mono ?_; rintro e w1 ⟨rfl, hbw⟩)
  · have hz : Pl.blk len b = 0 := by rename_i h; simpa using h
    have hn0 : Pl.totR l b = [] := by rw [← Pl.totR_eq (l := l) (b := b) (u := 0) (by rw [hlen, hz]; exact Int.lt_irrefl 0) (by rw [hlen]; exact hbn.1)]; rfl
    rw [hn0]
    exact ⟨_, results_tmp rfl _ _ _, _, rfl, .nilseq _ _ _ (fun h => by cases h), (((Below.refl _ w).alloc (Nat.le_refl _) _).trans (hbw.mono (by simp)))⟩
  · have hz : ¬ Pl.blk len b = 0 := by
      have q : (Pl.blk len b == 0) = false := by assumption
      simpa using q
    obtain ⟨B, rfl, hB, hn, hlt, -, -⟩ := Pl.blk_in (n := len) (u := 0) (b := b) (by omega)
    obtain ⟨b0, off, rfl, hcap, hcell⟩ := hrep (by omega)
    refine ⟨trivial, ?_⟩
    gi_at_call 67
    refine (chunk_in Fence.wide _ trivial rfl _ len cap B hB w1).mono ?_
    rintro e w2 ⟨rfl, rfl⟩
    gi_wp2
    have bT : Boxed w1 w.heap.size 22 (.slice none 0 0) := (hbw.block _ (by simp)).trans (Boxed.new w 22 (.slice none 0 0))
    have bS : Boxed ((w1.alloc (.cells #[.slice (some ⟨b0, off, none⟩) len cap] 22)).alloc (.cells #[.int .i64 B] 3)) w1.heap.size 22 (.slice (some ⟨b0, off, none⟩) len cap) := (Boxed.new w1 22 _).alloc _
    have bN : Boxed ((w1.alloc (.cells #[.slice (some ⟨b0, off, none⟩) len cap] 22)).alloc (.cells #[.int .i64 B] 3)) (w1.heap.size + 1) 3 (.int .i64 B) := by have := Boxed.new (w1.alloc (.cells #[.slice (some ⟨b0, off, none⟩) len cap] 22)) 3 (.int .i64 B); rwa [World.size_alloc] at this
    have hw1 : w.heap.size < w1.heap.size := by have := hbw.size; simp at this; omega
    have hbe : Below w.heap.size w w1 := ((Below.refl _ w).alloc (Nat.le_refl _) _).trans (hbw.mono (by simp))
    have hB0 : Below w.heap.size w ((w1.alloc (.cells #[.slice (some ⟨b0, off, none⟩) len cap] 22)).alloc (.cells #[.int .i64 B] 3)) := (hbe.alloc (by omega) _).alloc (by simp; omega) _
    have hN : Pl.blkN len B ≤ 1000 := Pl.blkN_up hB hn
    obtain ⟨i0, hi, hz0, hz1, hz2⟩ := info_parts inf28
    have hmL : (1001 : Nat) ≤ maxLen := by unfold maxLen; omega
    have hpr : ∀ (x : Nat) (W' : World), Below w.heap.size w W' → RepP (fun _ => False) W' (words false (Pl.part l B x)) (chunkV b0 off len B x) := by
      intro x W' hW
      have hpl := Pl.part_len l B x
      have e1 : (x + 1) * B = x * B + B := by rw [Nat.add_mul, Nat.one_mul]
      have e2 : min B (len - x * B) = (Pl.part l B x).length := by rw [hpl, e1, hlen]; omega
      unfold chunkV
      rw [e2]
      refine words_shut (fun _ h => h) (Nat.le_refl _) fun j hj => ?_
      have hj2 : x * B + j < len := by rw [← e2] at hj; omega
      rw [Pl.part_get hj, Nat.add_assoc]
      have hc := hcell (x * B + j) hj2
      exact (World.cell?_of_block (w := w) (a := ⟨b0, off + (x * B + j), none⟩) (hW.block b0 (World.block_lt_of_cell? w ⟨b0, off + (x * B + j), none⟩ hc))).trans hc
    refine wpIn_rangeFunc_ownG rfl (by omega) (gf := 83) (lb := #[.pointer (some ⟨w1.heap.size, 0, none⟩), .pointer (some ⟨w1.heap.size + 1, 0, none⟩)]) rfl trivial (enters_of Try.func83 (by kernel_rfl) rfl)
      (chunk_stops Fence.wide _ trivial rfl (by omega) w1.heap.size (w1.heap.size + 1) b0 off len cap B (Pl.blkN len B) hB hn hcap (blkN_iff hB.1) _ bS bN) (fun h k => h.trans k) (fun W l o o' _ h1 h2 _ => KB.put W l o o' h1 h2) (Below.refl _ _) (fun _ => rfl)
      (fun pre W => (∃ v, Boxed W w.heap.size 22 v ∧ W.ownsRow w.heap.size 28 1 v pre.length ((pre.map fun k => Pl.allF Pl.add32 (Pl.part l B k)).map (Value.int .u32)) ∧ True) ∧ Below w.heap.size w W)
      (fun _ _ _ => False)
      (OwnFrom.and (Own.from (holdsRow_own w.heap.size w.heap.size 22 28 1 (fun pre : List Nat => pre.length) (fun pre => (pre.map fun k => Pl.allF Pl.add32 (Pl.part l B k)).map (Value.int .u32)) (fun _ _ => True)) _) (ownFrom_below (Nat.le_refl _) (by simp; omega)))
      (fun _ _ _ _ _ hs _ _ => hs)
      ⟨⟨_, (bT.alloc _).alloc _, World.ownsRow_nil _ _ _ _, trivial⟩, hB0⟩
      (fun x => { tmps := #[.slice (some ⟨b0, off, none⟩) len cap, .int .i64 B, undef, undef, .slice none 0 0, .pointer (some ⟨w.heap.size, 0, none⟩), chunkV b0 off len B x, .slice (some ⟨b0, off, none⟩) len cap, .int .i64 len, .int .i64 B, .int .i64 (Pl.blk len B), .bool false, .slice (some ⟨b0, off, none⟩) len cap, .int .i64 B, .func (.func 83) #[] #[.pointer (some ⟨w1.heap.size, 0, none⟩), .pointer (some ⟨w1.heap.size + 1, 0, none⟩)], chunkV b0 off len B x, undef, undef, undef, undef, undef, undef], defers := [] }) ?assign ?body ?done ?stop
    case assign =>
      intro l x W K hK
      unfold chunkV at *
      gi_wp2
      exact hK
    case body =>
      rintro lp pre x W ⟨⟨v, hv, hrow, -⟩, hb⟩ hlt
      have hc := hv.cell
      have hmx : Try.prog.follows .mixedOrders = true := by kernel_rfl
      have hpw : ∀ z, z ∈ Pl.part l B x → Pl.W32 z := Pl.part_w hl
      have hpn : (Pl.part l B x).length ≤ 1000000 := by rw [Pl.part_len, hlen]; omega
      gi_wp2
      refine wpIn_region_any (by assumption) ?_
      try (change wpAnyIn _ _ _ _ _ _ _ _ _ (World.drew _))
      iterate 6
        all_goals first
          | refine wpAnyIn_ready (rs := [0, 1]) (by decide +kernel) (by decide) (AllReadyIn.cons rfl (fun K hK => ?_) (AllReadyIn.cons rfl (fun K hK => ?_) AllReadyIn.nil))
          | refine wpAnyIn_ready (rs := [0, 2]) (by decide +kernel) (by decide) (AllReadyIn.cons rfl (fun K hK => ?_) (AllReadyIn.cons rfl (fun K hK => ?_) AllReadyIn.nil))
          | refine wpAnyIn_ready (rs := [0, 3]) (by decide +kernel) (by decide) (AllReadyIn.cons rfl (fun K hK => ?_) (AllReadyIn.cons rfl (fun K hK => ?_) AllReadyIn.nil))
          | refine wpAnyIn_ready (rs := [0]) (by decide +kernel) (by decide) (AllReadyIn.cons rfl (fun K hK => ?_) AllReadyIn.nil)
          | refine wpAnyIn_ready (rs := [1]) (by decide +kernel) (by decide) (AllReadyIn.cons rfl (fun K hK => ?_) AllReadyIn.nil)
          | refine wpAnyIn_ready (rs := [2]) (by decide +kernel) (by decide) (AllReadyIn.cons rfl (fun K hK => ?_) AllReadyIn.nil)
          | refine wpAnyIn_ready (rs := [3]) (by decide +kernel) (by decide) (AllReadyIn.cons rfl (fun K hK => ?_) AllReadyIn.nil)
          | refine wpAnyIn_ready (rs := [4]) (by decide +kernel) (by decide) (AllReadyIn.cons rfl (fun K hK => ?_) AllReadyIn.nil)
          | refine wpAnyIn_ready (rs := [5]) (by decide +kernel) (by decide) (AllReadyIn.cons rfl (fun K hK => ?_) AllReadyIn.nil)
        all_goals first
          | (refine oper_append_own _ rfl _ _ 22 rfl w.heap.size 28 i0 (.int .u32 0) 1 4 und22 hi hz0 hz1 hz2 rfl (by decide) _ _ _ rfl (hrow3.alloc _) ⟨w3.heap.size, 0, none⟩ 1 1 [.int .u32 (Pl.allF Pl.add32 (Pl.part l B x))] rfl rfl (cell_one_new _ _ _) (by simp [Value.oneCell']) (by omega) (by omega) (by have := hb4.size; simp; omega) ?_; intro v' w5 hown' hgrow; obtain ⟨g', cap', rfl⟩ := ownsRow_succ hown'; obtain ⟨hv1, hv2, hr2, hk2, hb2⟩ := hv3.appended (by decide) hrow3 hb4.size (Nat.le_refl _) hown' hgrow; have hc1 := hv1.cell; have hf1 := hv1.frozen; have hkb := KB.appended (Bs := w1.heap.size) (Bn := w1.heap.size + 1) (Bt := w.heap.size) (v' := .slice (some ⟨g', 0, none⟩) (pre.length + 1) cap') hrow3 hgrow (by omega) (by omega))
          | (go_simp; (refine ⟨trivial, ?_⟩; gi_at_call 68; refine (CallsIn.inRound lp (sum_in _ _ _ false (Pl.part l B x) hpw hpn (hpr x _ (by first | exact hb | exact hb.drew)))).mono ?_; rintro e w3 ⟨rfl, hb3⟩; have hv3 : Boxed w3 w.heap.size 22 v := boxed_below (W := W.drew) hv hb3; have hrow3 := row_below (W := W.drew) hrow hb3; have hc3 := hv3.cell; have hc4 := (hv3.alloc (.cells #[.int .u32 (Pl.allF Pl.add32 (Pl.part l B x))] 28)).cell; have hb4 : Below w.heap.size w w3 := hb.drew.trans (hb3.mono hb.size); dsimp only))
          | go_simp
        all_goals (refine hK _ _ ?_; clear hK K)
      all_goals refine wpAnyIn_done (by decide +kernel) ?_ _
      all_goals gi_wp2
      all_goals exact ⟨(show KeepsFrom _ W w3 from ⟨hb3.size, fun i o _ ho _ => (hb3.block i (Array.getElem?_eq_some_iff.1 ho).1).trans ho⟩).trans (hk2.from _), (show KB _ _ W w3 from KB.of_below (W := W.drew) hb3).trans hkb, ⟨_, hv2, by simpa using hr2, trivial⟩, hb4.trans hb2⟩
    case done =>
      rintro D ys W hD rfl ⟨⟨v, hv, hrow, -⟩, hb⟩ hK
      have hc := hv.cell
      gi_wp2
      refine ⟨by simp, .inl ⟨_, _, rfl, run_takeDeferred hK, ?_⟩⟩
      have htot : Pl.totR l (B : Int) = (List.range (Pl.blkN len B)).map fun k => Pl.allF Pl.add32 (Pl.part l B k) := by
        unfold Pl.totR
        rw [if_pos ⟨by omega, by omega, by omega, by omega⟩, Int.toNat_natCast, hlen]; rfl
      rw [htot]
      exact ⟨_, results_tmp rfl _ _ _, v, rfl, row_rep (ownsRow_putObj hrow _ hK rfl) hO, hb.trans (belowK_b (w := w) (Nat.le_refl _) W D _ _ (by simp at hD; omega) hK rfl rfl)⟩
    case stop =>
      rintro D c pre W _ _ h _
      exact h.elim
theorem c_scan_Totals (c : Bool) (l : List Int) (b : Int) (hl : ∀ x, x ∈ l → Pl.W32 x) : PCall Try.prog 35 [words c l, iV b] (words false (Pl.totR l b)) := by
  intro O w vs hO hsz hr
  have r0 := hr 0 _ rfl
  have r1 := hr 1 _ rfl
  obtain ⟨v0, v1, rfl⟩ : ∃ v0 v1, vs = #[v0, v1] := by
    rcases vs with ⟨_ | ⟨a, _ | ⟨b, _ | _⟩⟩⟩ <;> simp at hsz
    exact ⟨a, b, rfl⟩
  obtain ⟨a, cap, h1, h2⟩ := words_open (show RepP O w (words c l) v0 from r0)
  have h3 : v1 = .int .i64 b := by
    obtain ⟨q, hq⟩ : ∃ q, q = v1 := ⟨_, rfl⟩
    have r1' : RepP O w (iV b) v1 := r1
    rw [← hq] at r1' ⊢
    cases r1'; rfl
  subst h1 h3
  exact (callsIn_wide (n := 9)).1 (totals_in O w hO a l.length cap b l hl rfl h2)
end Go.Proofs.Ythelnccjcbnjfaa
end
section
set_option linter.unusedSimpArgs false
set_option linter.unusedVariables false
set_option maxRecDepth 100000
namespace Go.Proofs.Ythelnccjcbnjfaa
open Go.Am Go.Proofs
set_option maxHeartbeats 4000000 in
theorem c_ref07_Words (c d : Bool) (a b : List Int) (ha : a.length ≤ 1000000) : PCall Try.prog 22 [words c a, words d b] (bV (decide (a = b))) := by
 refine pcall_of_awp Try.func22 rfl (by simp [Try.ntmps22]) fun C hC => ?_
 refine awp_le (le_keep [0, 1]) ?_
 simp only [kp, argSl, simprocAttr]
 refine awp_sr [] (by rw [hC]; rfl) fun k hk => ?_
 simp (maxSteps := 9^9) (disch := (try simp only [lens]); omega) only [argSl, sm, ↓amb, mark_eq, simprocAttr, dx]
 repeat refine ⟨by first | omega | (simp; done) | (unfold maxLen; omega) | (simp [maxLen]; omega) | assumption, ?_⟩
 refine hk _ ?_; clear hk k
 refine awp_seq fun k1 h1 => ?_
 refine awp_le (le_keep [0, 1, 4]) ?_
 simp only [kp, argSl, simprocAttr]
 refine awp_sr [] (by rw [hC]; rfl) fun k hk => ?_
 simp (maxSteps := 9^9) (disch := (try simp only [lens]); omega) only [argSl, sm, ↓amb, mark_eq, simprocAttr, el22, dx]
 repeat refine ⟨by first | omega | (simp; done) | (unfold maxLen; omega) | (simp [maxLen]; omega) | assumption, ?_⟩
 refine hk _ ?_; clear hk k
 refine awp_cond rfl (fun hb => ?_) (fun hb => ?_)
 ·try simp only [hbx] at hb
  refine awp_le (le_keep []) ?_
  simp only [kp, argSl, simprocAttr]
  refine awp_sr [] (by rw [hC]; rfl) fun k hk => ?_
  simp (maxSteps := 9^9) (disch := (try simp only [lens]); omega) only [argSl, sm, ↓amb, mark_eq, simprocAttr, dx]
  repeat refine ⟨by first | omega | (simp; done) | (unfold maxLen; omega) | (simp [maxLen]; omega) | assumption, ?_⟩
  refine hk _ ?_; clear hk k
  refine awp_ret ?_
  refine ret1 rfl rfl ?_
  exact .p (LeP.of_eq (by rw [decide_eq_false (fun e => hb (by rw [e]))]))
 ·try simp only [hbx] at hb
  refine awp_skip ?_
  refine h1 _ ?_; clear h1 k1
  refine awp_seq fun k2 h2 => ?_
  refine awp_le (le_keep [0, 1, 4]) ?_
  simp only [kp, argSl, simprocAttr]
  have hab : a.length = b.length := by omega
  refine awp_sr [] (by rw [hC]; rfl) fun k hk => ?_
  simp (maxSteps := 9^9) (disch := (try simp only [lens]); omega) only [argSl, sm, ↓amb, mark_eq, simprocAttr, dx]
  repeat refine ⟨by first | omega | (simp; done) | (unfold maxLen; omega) | (simp [maxLen]; omega) | assumption, ?_⟩
  refine hk _ ?_; clear hk k
  refine awp_block ?_
  refine awp_loop (σ := Nat) (fun i => i ≤ a.length ∧ ∀ j, j < i → a.getD j 0 = b.getD j 0) (fun (i : Nat) => ⟨[(0, (.p (words c a))), (1, (.p (words d b))), (5, (.p (iV i)))], [], 1⟩) (fun i => a.length - i) 0 ?_ ?_ fun i hi => ?_
  ·exact ⟨Nat.zero_le _, fun j hj => by omega⟩
  ·exact le_of [] (by rfl) (by rfl) ⟨⟨_, rfl, .p (.of_eq (by first | rfl | (simp only [PV.lit.injEq, Value.int.injEq, true_and]; omega) | (simp; done) | (simp; omega)))⟩, ⟨_, rfl, .p (.of_eq (by first | rfl | (simp only [PV.lit.injEq, Value.int.injEq, true_and]; omega) | (simp; done) | (simp; omega)))⟩, ⟨_, rfl, .p (.of_eq (by first | rfl | (simp only [PV.lit.injEq, Value.int.injEq, true_and]; omega) | (simp; done) | (simp; omega)))⟩, trivial⟩ trivial
  obtain ⟨hi1, hi2⟩ := hi
  refine awp_seq fun k4 h4 => ?_
  refine awp_le (le_keep [0, 1, 4, 5]) ?_
  simp only [kp, argSl, simprocAttr]
  refine awp_sr [] (by rw [hC]; rfl) fun k hk => ?_
  simp (maxSteps := 9^9) (disch := (try simp only [lens]); omega) only [argSl, sm, ↓amb, mark_eq, simprocAttr, el22, dx]
  repeat refine ⟨by first | omega | (simp; done) | (unfold maxLen; omega) | (simp [maxLen]; omega) | assumption, ?_⟩
  refine hk _ ?_; clear hk k
  refine awp_cond rfl (fun hb => ?_) (fun hb => ?_)
  ·try simp only [hbx] at hb
   refine awp_skip ?_
   refine h4 _ ?_; clear h4 k4
   refine awp_seq fun k5 h5 => ?_
   refine awp_block ?_
   refine awp_le (le_keep [0, 1, 4, 5]) ?_
   simp only [kp, argSl, simprocAttr]
   refine awp_sd [] ⟨[0, 0, 3, 7, 0, 0, 48, 112, 255], [3, 7], [], [], some []⟩ (by rw [hC]; rfl) (by kernel_rfl) (by kernel_rfl) fun k hk => ?_
   simp (maxSteps := 9^9) (disch := (try simp only [lens]); omega) only [argSl, sm, ↓amb, mark_eq, simprocAttr, el22, sz28, dx]
   repeat refine ⟨by first | omega | (simp; done) | (unfold maxLen; omega) | (simp [maxLen]; omega) | assumption, ?_⟩
   refine hk _ ?_; clear hk k
   refine awp_cond rfl (fun hb => ?_) (fun hb => ?_)
   ·try simp only [hbx] at hb
    refine awp_le (le_keep []) ?_
    simp only [kp, argSl, simprocAttr]
    refine awp_sr [] (by rw [hC]; rfl) fun k hk => ?_
    simp (maxSteps := 9^9) (disch := (try simp only [lens]); omega) only [argSl, sm, ↓amb, mark_eq, simprocAttr, dx]
    repeat refine ⟨by first | omega | (simp; done) | (unfold maxLen; omega) | (simp [maxLen]; omega) | assumption, ?_⟩
    refine hk _ ?_; clear hk k
    refine awp_ret ?_
    refine ret1 rfl rfl ?_
    exact .p (LeP.of_eq (by rw [decide_eq_false (fun e => hb (by rw [e]))]))
   ·try simp only [hbx] at hb
    refine awp_skip ?_
    refine h5 _ ?_; clear h5 k5
    refine awp_region [] (by rw [hC]; rfl) fun k hk => ?_
    simp (maxSteps := 9^9) (disch := (try simp only [lens]); omega) only [argSl, sm, ↓amb, mark_eq, simprocAttr, dx]
    repeat refine ⟨by first | omega | (simp; done) | (unfold maxLen; omega) | (simp [maxLen]; omega) | assumption, ?_⟩
    refine hk _ ?_; clear hk k
    refine ⟨i + 1, ⟨by omega, fun j hj => by by_cases e : j = i; subst e; exact hb; exact hi2 j (by omega)⟩, le_of [] (by rfl) (by rfl) ⟨⟨_, rfl, .p (.of_eq (by first | rfl | (simp only [PV.lit.injEq, Value.int.injEq, true_and]; omega) | (simp; done) | (simp; omega)))⟩, ⟨_, rfl, .p (.of_eq (by first | rfl | (simp only [PV.lit.injEq, Value.int.injEq, true_and]; omega) | (simp; done) | (simp; omega)))⟩, ⟨_, rfl, .p (.of_eq (by first | rfl | (simp only [PV.lit.injEq, Value.int.injEq, true_and]; omega) | (simp; done) | (simp; omega)))⟩, trivial⟩ trivial, by omega⟩
  ·try simp only [hbx] at hb
   refine awp_exit ((if_pos rfl).mpr ?_)
   refine h2 _ ?_; clear h4 k4; clear h2 k2
   refine awp_le (le_keep []) ?_
   simp only [kp, argSl, simprocAttr]
   refine awp_sr [] (by rw [hC]; rfl) fun k hk => ?_
   simp (maxSteps := 9^9) (disch := (try simp only [lens]); omega) only [argSl, sm, ↓amb, mark_eq, simprocAttr, dx]
   repeat refine ⟨by first | omega | (simp; done) | (unfold maxLen; omega) | (simp [maxLen]; omega) | assumption, ?_⟩
   refine hk _ ?_; clear hk k
   refine awp_ret ?_
   refine ret1 rfl rfl ?_
   exact .p (LeP.of_eq (by rw [decide_eq_true (Pl.list_of hab (by omega) hi2)]))
end Go.Proofs.Ythelnccjcbnjfaa
end
section
set_option linter.unusedSimpArgs false
set_option linter.unusedVariables false
set_option maxRecDepth 100000
namespace Go.Proofs.Ythelnccjcbnjfaa
open Go.Am Go.Proofs
set_option maxHeartbeats 4000000 in
theorem c23 (c d : Bool) (a b : List Int) (ha : a.length ≤ 1000000) : PCall Try.prog 23 [ints c a, ints d b] (bV (decide (a = b))) := by
 refine pcall_of_awp Try.func23 rfl (by simp [Try.ntmps23]) fun C hC => ?_
 refine awp_sr [] (by rw [hC]; rfl) fun k hk => ?_
 simp (maxSteps := 9^9) (disch := (try simp only [lens]); omega) only [argSl, sm, ↓amb, mark_eq, simprocAttr, dx]
 repeat refine ⟨by first | omega | (simp; done) | (unfold maxLen; omega) | (simp [maxLen]; omega) | assumption, ?_⟩
 refine hk _ ?_; clear hk k
 refine awp_seq fun k1 h1 => ?_
 refine awp_sr [] (by rw [hC]; rfl) fun k hk => ?_
 simp (maxSteps := 9^9) (disch := (try simp only [lens]); omega) only [argSl, sm, ↓amb, mark_eq, simprocAttr, el32, dx]
 repeat refine ⟨by first | omega | (simp; done) | (unfold maxLen; omega) | (simp [maxLen]; omega) | assumption, ?_⟩
 refine hk _ ?_; clear hk k
 refine awp_cond rfl (fun hb => ?_) (fun hb => ?_)
 ·try simp only [hbx] at hb
  refine awp_sr [] (by rw [hC]; rfl) fun k hk => ?_
  simp (maxSteps := 9^9) (disch := (try simp only [lens]); omega) only [argSl, sm, ↓amb, mark_eq, simprocAttr, dx]
  repeat refine ⟨by first | omega | (simp; done) | (unfold maxLen; omega) | (simp [maxLen]; omega) | assumption, ?_⟩
  refine hk _ ?_; clear hk k
  refine awp_ret ?_
  refine ret1 rfl rfl ?_
  exact .p (LeP.of_eq (by rw [decide_eq_false (fun e => hb (by rw [e]))]))
 ·try simp only [hbx] at hb
  refine awp_skip ?_
  refine h1 _ ?_; clear h1 k1
  refine awp_seq fun k2 h2 => ?_
  refine awp_sr [] (by rw [hC]; rfl) fun k hk => ?_
  simp (maxSteps := 9^9) (disch := (try simp only [lens]); omega) only [argSl, sm, ↓amb, mark_eq, simprocAttr, dx]
  repeat refine ⟨by first | omega | (simp; done) | (unfold maxLen; omega) | (simp [maxLen]; omega) | assumption, ?_⟩
  refine hk _ ?_; clear hk k
  refine awp_block ?_
  refine awp_loop (σ := Nat) (fun i => i ≤ a.length ∧ a.take i = b.take i) (fun (i : Nat) => ⟨[(0, (.p (ints c a))), (1, (.p (ints d b))), (5, (.p (iV i)))], [], 1⟩) (fun i => a.length - i) 0 ?_ ?_ fun x hx => ?_
  ·exact ⟨Nat.zero_le _, rfl⟩
  ·exact le_of [] (by rfl) (by rfl) ⟨⟨_, rfl, .p (.of_eq (by first | rfl | (simp only [PV.lit.injEq, Value.int.injEq, true_and]; omega) | (simp; done) | (simp; omega)))⟩, ⟨_, rfl, .p (.of_eq (by first | rfl | (simp only [PV.lit.injEq, Value.int.injEq, true_and]; omega) | (simp; done) | (simp; omega)))⟩, ⟨_, rfl, .p (.of_eq (by first | rfl | (simp only [PV.lit.injEq, Value.int.injEq, true_and]; omega) | (simp; done) | (simp; omega)))⟩, trivial⟩ trivial
  obtain ⟨hx1, hx2⟩ := hx
  refine awp_seq fun k4 h4 => ?_
  refine awp_sr [] (by rw [hC]; rfl) fun k hk => ?_
  simp (maxSteps := 9^9) (disch := (try simp only [lens]); omega) only [argSl, sm, ↓amb, mark_eq, simprocAttr, el32, dx]
  repeat refine ⟨by first | omega | (simp; done) | (unfold maxLen; omega) | (simp [maxLen]; omega) | assumption, ?_⟩
  refine hk _ ?_; clear hk k
  refine awp_cond rfl (fun hb => ?_) (fun hb => ?_)
  ·try simp only [hbx] at hb
   refine awp_skip ?_
   refine h4 _ ?_; clear h4 k4
   refine awp_seq fun k5 h5 => ?_
   refine awp_block ?_
   refine awp_sd [] ⟨[0, 0, 3, 7, 0, 0, 48, 112, 255], [3, 7], [], [], some []⟩ (by rw [hC]; rfl) (by kernel_rfl) (by kernel_rfl) fun k hk => ?_
   simp (maxSteps := 9^9) (disch := (try simp only [lens]); omega) only [argSl, sm, ↓amb, mark_eq, simprocAttr, el32, sz3, dx]
   repeat refine ⟨by first | omega | (simp; done) | (unfold maxLen; omega) | (simp [maxLen]; omega) | assumption, ?_⟩
   refine hk _ ?_; clear hk k
   refine awp_cond rfl (fun hb => ?_) (fun hb => ?_)
   ·try simp only [hbx] at hb
    refine awp_sr [] (by rw [hC]; rfl) fun k hk => ?_
    simp (maxSteps := 9^9) (disch := (try simp only [lens]); omega) only [argSl, sm, ↓amb, mark_eq, simprocAttr, dx]
    repeat refine ⟨by first | omega | (simp; done) | (unfold maxLen; omega) | (simp [maxLen]; omega) | assumption, ?_⟩
    refine hk _ ?_; clear hk k
    refine awp_ret ?_
    refine ret1 rfl rfl ?_
    exact .p (LeP.of_eq (by rw [decide_eq_false (fun e => hb (by rw [e]))]))
   ·try simp only [hbx] at hb
    refine awp_skip ?_
    refine h5 _ ?_; clear h5 k5
    refine awp_region [] (by rw [hC]; rfl) fun k hk => ?_
    simp (maxSteps := 9^9) (disch := (try simp only [lens]); omega) only [argSl, sm, ↓amb, mark_eq, simprocAttr, dx]
    repeat refine ⟨by first | omega | (simp; done) | (unfold maxLen; omega) | (simp [maxLen]; omega) | assumption, ?_⟩
    refine hk _ ?_; clear hk k
    refine ⟨x + 1, ⟨by omega, take_next hx2 (by omega) (by omega) hb⟩, le_of [] (by rfl) (by rfl) ⟨⟨_, rfl, .p (.of_eq (by first | rfl | (simp only [PV.lit.injEq, Value.int.injEq, true_and]; omega) | (simp; done) | (simp; omega)))⟩, ⟨_, rfl, .p (.of_eq (by first | rfl | (simp only [PV.lit.injEq, Value.int.injEq, true_and]; omega) | (simp; done) | (simp; omega)))⟩, ⟨_, rfl, .p (.of_eq (by first | rfl | (simp only [PV.lit.injEq, Value.int.injEq, true_and]; omega) | (simp; done) | (simp; omega)))⟩, trivial⟩ trivial, by omega⟩
  ·try simp only [hbx] at hb
   refine awp_exit ((if_pos rfl).mpr ?_)
   refine h2 _ ?_; clear h4 k4; clear h2 k2
   refine awp_sr [] (by rw [hC]; rfl) fun k hk => ?_
   simp (maxSteps := 9^9) (disch := (try simp only [lens]); omega) only [argSl, sm, ↓amb, mark_eq, simprocAttr, dx]
   repeat refine ⟨by first | omega | (simp; done) | (unfold maxLen; omega) | (simp [maxLen]; omega) | assumption, ?_⟩
   refine hk _ ?_; clear hk k
   refine awp_ret ?_
   refine ret1 rfl rfl ?_
   exact .p (LeP.of_eq (by rw [decide_eq_true (by rwa [List.take_of_length_le (by omega), List.take_of_length_le (by omega)] at hx2)]))
end Go.Proofs.Ythelnccjcbnjfaa
end
section
set_option linter.unusedSimpArgs false
set_option linter.unusedVariables false
set_option maxRecDepth 100000
namespace Go.Proofs.Ythelnccjcbnjfaa
open Go.Am Go.Proofs
theorem bt26 : tBuilt Try.prog 26 = true := by kernel_rfl
theorem en22 : enters Try.prog 22 = true := by kernel_rfl
theorem en31 : enters Try.prog 31 = true := by kernel_rfl
theorem en33 : enters Try.prog 33 = true := by kernel_rfl
theorem en35 : enters Try.prog 35 = true := by kernel_rfl
theorem en37 : enters Try.prog 37 = true := by kernel_rfl
theorem pl26_0 : tPlace Try.prog 26 0 = some (0, 1) := by kernel_rfl
theorem pl26_1 : tPlace Try.prog 26 1 = some (1, 1) := by kernel_rfl
theorem vr26 : tVar Try.prog 26 = some (true, [.lit (.int .i64 0), .lit (.int .i64 0), .seq true []]) := by kernel_rfl
set_option maxHeartbeats 4000000 in
theorem c_law08_alive : PCall Try.prog 30 [] (bV true) := by
 refine pcall_of_awp Try.func30 rfl (by simp [Try.ntmps30]) fun C hC => ?_
 refine awp_le (le_keep []) ?_
 simp only [kp, argSl, simprocAttr]
 have a1 := c_scan_Sums true true ([3, 1, 2, 4294967295] : List Int) 2 (⟨1, 1, []⟩ : Pl.Plan) (by decide)
 rw [show Pl.scL Pl.add32 ([3, 1, 2, 4294967295] : List Int) 2 (⟨1, 1, []⟩ : Pl.Plan) = ([0, 3, 4, 6] : List Int) from by decide +kernel] at a1
 rw [show Pl.scT Pl.add32 ([3, 1, 2, 4294967295] : List Int) 2 (⟨1, 1, []⟩ : Pl.Plan) = 5 from by decide +kernel] at a1
 rw [show Pl.scS ([3, 1, 2, 4294967295] : List Int).length 2 (⟨1, 1, []⟩ : Pl.Plan) = 6 from by decide +kernel] at a1
 rw [show Pl.scE ([3, 1, 2, 4294967295] : List Int).length 2 (⟨1, 1, []⟩ : Pl.Plan) = 0 from by decide +kernel] at a1
 have a2 := c_scan_Highest true true ([2, 5, 1, 7] : List Int) 3 (⟨1, 1, []⟩ : Pl.Plan) (by decide) (by decide)
 rw [show Pl.hiL ([2, 5, 1, 7] : List Int) 3 (⟨1, 1, []⟩ : Pl.Plan) = ([2, 5, 5, 7] : List Int) from by decide +kernel] at a2
 rw [show Pl.scS ([2, 5, 1, 7] : List Int).length 3 (⟨1, 1, []⟩ : Pl.Plan) = 6 from by decide +kernel] at a2
 rw [show Pl.scE ([2, 5, 1, 7] : List Int).length 3 (⟨1, 1, []⟩ : Pl.Plan) = 0 from by decide +kernel] at a2
 have a3 := c_scan_Sums true true ([3, 1, 2, 4294967295] : List Int) 0 (⟨1, 1, []⟩ : Pl.Plan) (by decide)
 rw [show Pl.scL Pl.add32 ([3, 1, 2, 4294967295] : List Int) 0 (⟨1, 1, []⟩ : Pl.Plan) = ([] : List Int) from by decide +kernel] at a3
 rw [show Pl.scT Pl.add32 ([3, 1, 2, 4294967295] : List Int) 0 (⟨1, 1, []⟩ : Pl.Plan) = 0 from by decide +kernel] at a3
 rw [show Pl.scS ([3, 1, 2, 4294967295] : List Int).length 0 (⟨1, 1, []⟩ : Pl.Plan) = 0 from by decide +kernel] at a3
 rw [show Pl.scE ([3, 1, 2, 4294967295] : List Int).length 0 (⟨1, 1, []⟩ : Pl.Plan) = 1 from by decide +kernel] at a3
 have a4 := c_ref07_Words false true ([0, 3, 4, 6] : List Int) ([0, 3, 4, 6] : List Int) (by decide)
 have a5 := c_ref07_Words false true ([2, 5, 5, 7] : List Int) ([2, 5, 5, 7] : List Int) (by decide)
 have a6 := c_scan_Blocks 7 3
 rw [show Pl.blk 7 3 = 3 from by decide +kernel] at a6
 have a7 := c_scan_Totals true ([3, 1, 2, 4294967295] : List Int) 3 (by decide)
 rw [show Pl.totR ([3, 1, 2, 4294967295] : List Int) 3 = ([6, 4294967295] : List Int) from by decide +kernel] at a7
 have a8 := c_ref07_Words false true ([6, 4294967295] : List Int) ([6, 4294967295] : List Int) (by decide)
 have a9 := c_scan_Back false ([0, 3, 4, 6] : List Int) 5 (by decide) ⟨by decide, by decide⟩ (by decide)
 rw [show Pl.backL ([0, 3, 4, 6] : List Int) 5 ([0, 3, 4, 6] : List Int).length = ([3, 1, 2, 4294967295] : List Int) from by decide +kernel] at a9
 have a10 := c_ref07_Words false true ([3, 1, 2, 4294967295] : List Int) ([3, 1, 2, 4294967295] : List Int) (by decide)
 refine awp_sr [] (by rw [hC]; rfl) fun k hk => ?_
 simp (maxSteps := 9^9) (disch := (try simp only [lens]); omega) only [argSl, sm, ↓amb, mark_eq, simprocAttr, dx]
 repeat refine ⟨by first | omega | (simp; done) | (unfold maxLen; omega) | (simp [maxLen]; omega) | assumption, ?_⟩
 refine hk _ ?_; clear hk k
 refine awp_le (le_keep []) ?_
 simp only [kp, argSl, simprocAttr]
 refine awp_sr [] (by rw [hC]; rfl) fun k hk => ?_
 simp (maxSteps := 9^9) (disch := (try simp only [lens]); omega) only [argSl, sm, ↓amb, mark_eq, simprocAttr, vr26, bt26, pl26_0, pl26_1, sz26, dx]
 repeat refine ⟨by first | omega | (simp; done) | (unfold maxLen; omega) | (simp [maxLen]; omega) | assumption, ?_⟩
 refine hk _ ?_; clear hk k
 refine awp_le (le_keep [1]) ?_
 simp only [kp, argSl, simprocAttr]
 refine awp_sr [] (by rw [hC]; rfl) fun k hk => ?_
 simp (maxSteps := 9^9) (disch := (try simp only [lens]); omega) only [argSl, sm, ↓amb, mark_eq, simprocAttr, el22, vr28, dx]
 repeat refine ⟨by first | omega | (simp; done) | (unfold maxLen; omega) | (simp [maxLen]; omega) | assumption, ?_⟩
 refine hk _ ?_; clear hk k
 refine awp_le (le_keep [1, 2]) ?_
 simp only [kp, argSl, simprocAttr]
 refine awp_sr [] (by rw [hC]; rfl) fun k hk => ?_
 simp (maxSteps := 9^9) (disch := (try simp only [lens]); omega) only [argSl, sm, ↓amb, mark_eq, simprocAttr, sz26, en31, dx]
 repeat refine ⟨by first | omega | (simp; done) | (unfold maxLen; omega) | (simp [maxLen]; omega) | assumption, ?_⟩
 refine callK_p (a1) rfl ?_
 simp (maxSteps := 9^9) (disch := (try simp only [lens]); omega) only [argSl, sm, ↓amb, mark_eq, simprocAttr, sz26, en31, dx]
 repeat refine ⟨by first | omega | (simp; done) | (unfold maxLen; omega) | (simp [maxLen]; omega) | assumption, ?_⟩
 refine hk _ ?_; clear hk k
 refine awp_le (le_keep [1, 2, 3, 4, 5, 6]) ?_
 simp only [kp, argSl, simprocAttr]
 refine awp_sr [] (by rw [hC]; rfl) fun k hk => ?_
 simp (maxSteps := 9^9) (disch := (try simp only [lens]); omega) only [argSl, sm, ↓amb, mark_eq, simprocAttr, el22, vr28, sz26, en33, dx]
 repeat refine ⟨by first | omega | (simp; done) | (unfold maxLen; omega) | (simp [maxLen]; omega) | assumption, ?_⟩
 refine callK_p (a2) rfl ?_
 simp (maxSteps := 9^9) (disch := (try simp only [lens]); omega) only [argSl, sm, ↓amb, mark_eq, simprocAttr, el22, vr28, sz26, en33, dx]
 repeat refine ⟨by first | omega | (simp; done) | (unfold maxLen; omega) | (simp [maxLen]; omega) | assumption, ?_⟩
 refine hk _ ?_; clear hk k
 refine awp_le (le_keep [1, 2, 3, 4, 5, 6, 7, 8, 9]) ?_
 simp only [kp, argSl, simprocAttr]
 refine awp_sr [] (by rw [hC]; rfl) fun k hk => ?_
 simp (maxSteps := 9^9) (disch := (try simp only [lens]); omega) only [argSl, sm, ↓amb, mark_eq, simprocAttr, sz26, en31, dx]
 repeat refine ⟨by first | omega | (simp; done) | (unfold maxLen; omega) | (simp [maxLen]; omega) | assumption, ?_⟩
 refine callK_p (a3) rfl ?_
 simp (maxSteps := 9^9) (disch := (try simp only [lens]); omega) only [argSl, sm, ↓amb, mark_eq, simprocAttr, sz26, en31, dx]
 repeat refine ⟨by first | omega | (simp; done) | (unfold maxLen; omega) | (simp [maxLen]; omega) | assumption, ?_⟩
 refine hk _ ?_; clear hk k
 refine awp_test [] 0 (decide (True)) [] (by rw [hC]; rfl) (fun gd hgd k hk => ?_) ?_
 ·have g2 : gd 2 = some 41 := by rw [hgd]; rfl
  have g6 : gd 6 = some 45 := by rw [hgd]; rfl
  have g10 : gd 10 = some 49 := by rw [hgd]; rfl
  have g14 : gd 14 = some 53 := by rw [hgd]; rfl
  have g18 : gd 18 = some 57 := by rw [hgd]; rfl
  have g22 : gd 22 = some 61 := by rw [hgd]; rfl
  have g27 : gd 27 = some 66 := by rw [hgd]; rfl
  have g32 : gd 32 = some 71 := by rw [hgd]; rfl
  have g36 : gd 36 = some 75 := by rw [hgd]; rfl
  have g42 : gd 42 = some 81 := by rw [hgd]; rfl
  clear hgd
  simp (maxSteps := 9^9) (disch := (try simp only [lens]); omega) only [argSl, sm, ↓amb, mark_eq, simprocAttr, el22, vr28, en22, en39, en35, en37, gcase_undef, g2, g6, g10, g14, g18, g22, g27, g32, g36, g42, dx]
  repeat' first | refine hk _ _ rfl rfl rfl rfl ?_ | (refine gsplit (fun hg => ?_) (fun hg => ?_) <;> (try simp only [hbx] at hg) <;> simp (maxSteps := 9^9) (disch := (try simp only [lens]); omega) only [argSl, sm, ↓amb, mark_eq, simprocAttr, el22, vr28, en22, en39, en35, en37, gcase_undef, g2, g6, g10, g14, g18, g22, g27, g32, g36, g42, dx]) | apply And.intro | (refine callK_p (a4) rfl ?_; (try simp (maxSteps := 9^9) (disch := (try simp only [lens]); omega) only [argSl, sm, ↓amb, mark_eq, simprocAttr, el22, vr28, en22, en39, en35, en37, gcase_undef, g2, g6, g10, g14, g18, g22, g27, g32, g36, g42, dx])) | (refine callK_p (a5) rfl ?_; (try simp (maxSteps := 9^9) (disch := (try simp only [lens]); omega) only [argSl, sm, ↓amb, mark_eq, simprocAttr, el22, vr28, en22, en39, en35, en37, gcase_undef, g2, g6, g10, g14, g18, g22, g27, g32, g36, g42, dx])) | (refine callK_p (a6) rfl ?_; (try simp (maxSteps := 9^9) (disch := (try simp only [lens]); omega) only [argSl, sm, ↓amb, mark_eq, simprocAttr, el22, vr28, en22, en39, en35, en37, gcase_undef, g2, g6, g10, g14, g18, g22, g27, g32, g36, g42, dx])) | (refine callK_p (a7) rfl ?_; (try simp (maxSteps := 9^9) (disch := (try simp only [lens]); omega) only [argSl, sm, ↓amb, mark_eq, simprocAttr, el22, vr28, en22, en39, en35, en37, gcase_undef, g2, g6, g10, g14, g18, g22, g27, g32, g36, g42, dx])) | (refine callK_p (a8) rfl ?_; (try simp (maxSteps := 9^9) (disch := (try simp only [lens]); omega) only [argSl, sm, ↓amb, mark_eq, simprocAttr, el22, vr28, en22, en39, en35, en37, gcase_undef, g2, g6, g10, g14, g18, g22, g27, g32, g36, g42, dx])) | (refine callK_p (a9) rfl ?_; (try simp (maxSteps := 9^9) (disch := (try simp only [lens]); omega) only [argSl, sm, ↓amb, mark_eq, simprocAttr, el22, vr28, en22, en39, en35, en37, gcase_undef, g2, g6, g10, g14, g18, g22, g27, g32, g36, g42, dx])) | (refine callK_p (a10) rfl ?_; (try simp (maxSteps := 9^9) (disch := (try simp only [lens]); omega) only [argSl, sm, ↓amb, mark_eq, simprocAttr, el22, vr28, en22, en39, en35, en37, gcase_undef, g2, g6, g10, g14, g18, g22, g27, g32, g36, g42, dx])) | fail
  all_goals first | rfl | omega | exact (decide_eq_true (by omega)).symm | exact (decide_eq_false (by omega)).symm | exact decide_eq_decide.mpr (by omega) | (refine Bool.eq_iff_iff.mpr ?_; simp only [beq_iff_eq, bne_iff_ne, ne_eq, decide_eq_true_eq]; omega) | (refine Bool.eq_iff_iff.mpr ?_; simp only [Bool.not_eq_true', Bool.not_eq_false', decide_eq_false_iff_not, decide_eq_true_eq, beq_iff_eq, bne_iff_ne, ne_eq]; omega) | assumption | (simp; done) | (simp [maxLen]; omega) | skip
 simp only [kp, argSl, simprocAttr, List.length_cons, List.length_nil]
 refine awp_ret ?_
 refine ret1 rfl rfl ?_
 exact .p (LeP.refl _)
end Go.Proofs.Ythelnccjcbnjfaa
end
section
set_option linter.unusedSimpArgs false
set_option linter.unusedVariables false
set_option maxRecDepth 100000
namespace Go.Proofs.Ythelnccjcbnjfaa
open Go.Am Go.Proofs
theorem en30 : enters Try.prog 30 = true := by kernel_rfl
theorem en32 : enters Try.prog 32 = true := by kernel_rfl
theorem en34 : enters Try.prog 34 = true := by kernel_rfl
theorem en36 : enters Try.prog 36 = true := by kernel_rfl
theorem en38 : enters Try.prog 38 = true := by kernel_rfl
set_option maxHeartbeats 4000000 in
theorem c_law08_ScanAnswers (l : List Int) (b : Int) (p : Pl.Plan) (hl : ∀ x, x ∈ l → Pl.W32 x) : PCall Try.prog 7 [words false l, iV b, .agg (planC false p)] (bV true) := by
 refine pcall_of_awp Try.func7 rfl (by simp [Try.ntmps7]) fun C hC => ?_
 refine awp_le (le_keep [0, 1, 2]) ?_
 simp only [kp, argSl, simprocAttr]
 refine awp_sr [] (by rw [hC]; rfl) fun k hk => ?_
 simp (maxSteps := 9^9) (disch := (try simp only [lens]); omega) only [argSl, sm, ↓amb, mark_eq, simprocAttr, dx]
 repeat refine ⟨by first | omega | (simp; done) | (unfold maxLen; omega) | (simp [maxLen]; omega) | assumption, ?_⟩
 refine hk _ ?_; clear hk k
 refine awp_seq fun k1 h1 => ?_
 refine awp_le (le_keep [0, 1, 5, 6]) ?_
 simp only [kp, argSl, simprocAttr]
 refine awp_sr [] (by rw [hC]; rfl) fun k hk => ?_
 simp (maxSteps := 9^9) (disch := (try simp only [lens]); omega) only [argSl, sm, ↓amb, mark_eq, simprocAttr, en30, dx]
 repeat refine ⟨by first | omega | (simp; done) | (unfold maxLen; omega) | (simp [maxLen]; omega) | assumption, ?_⟩
 refine callK_p (c_law08_alive) rfl ?_
 simp (maxSteps := 9^9) (disch := (try simp only [lens]); omega) only [argSl, sm, ↓amb, mark_eq, simprocAttr, en30, dx]
 repeat refine ⟨by first | omega | (simp; done) | (unfold maxLen; omega) | (simp [maxLen]; omega) | assumption, ?_⟩
 refine hk _ ?_; clear hk k
 refine awp_cond rfl (fun hb => ?_) (fun hb => ?_)
 ·try simp only [hbx] at hb
  refine awp_le (le_keep []) ?_
  simp only [kp, argSl, simprocAttr]
  refine awp_sr [] (by rw [hC]; rfl) fun k hk => ?_
  simp (maxSteps := 9^9) (disch := (try simp only [lens]); omega) only [argSl, sm, ↓amb, mark_eq, simprocAttr, dx]
  repeat refine ⟨by first | omega | (simp; done) | (unfold maxLen; omega) | (simp [maxLen]; omega) | assumption, ?_⟩
  refine hk _ ?_; clear hk k
  refine awp_ret ?_
  exact absurd hb (by simp)
 ·try simp only [hbx] at hb
  refine awp_skip ?_
  refine h1 _ ?_; clear h1 k1
  refine awp_seq fun k2 h2 => ?_
  refine awp_test [] 31 (decide (60 < l.length ∨ 200 < p.picks.length)) [0, 1, 5, 6] (by rw [hC]; rfl) (fun gd hgd k hk => ?_) ?_
  ·have g3 : gd 3 = some 26 := by rw [hgd]; rfl
   clear hgd
   simp (maxSteps := 9^9) (disch := (try simp only [lens]); omega) only [argSl, sm, ↓amb, mark_eq, simprocAttr, el22, fl26_2, sz24, el24, gcase_undef, g3, dx]
   repeat' first | refine hk _ _ rfl rfl rfl rfl ?_ | (refine gsplit (fun hg => ?_) (fun hg => ?_) <;> (try simp only [hbx] at hg) <;> simp (maxSteps := 9^9) (disch := (try simp only [lens]); omega) only [argSl, sm, ↓amb, mark_eq, simprocAttr, el22, fl26_2, sz24, el24, gcase_undef, g3, dx]) | apply And.intro | fail
   all_goals first | rfl | omega | exact (decide_eq_true (by omega)).symm | exact (decide_eq_false (by omega)).symm | exact decide_eq_decide.mpr (by omega) | (refine Bool.eq_iff_iff.mpr ?_; simp only [beq_iff_eq, bne_iff_ne, ne_eq, decide_eq_true_eq]; omega) | (refine Bool.eq_iff_iff.mpr ?_; simp only [Bool.not_eq_true', Bool.not_eq_false', decide_eq_false_iff_not, decide_eq_true_eq, beq_iff_eq, bne_iff_ne, ne_eq]; omega) | assumption | (simp; done) | (simp [maxLen]; omega) | skip
  simp only [kp, argSl, simprocAttr, List.length_cons, List.length_nil]
  refine awp_cond rfl (fun hb => ?_) (fun hb => ?_)
  ·try simp only [hbx] at hb
   refine awp_le (le_keep []) ?_
   simp only [kp, argSl, simprocAttr]
   refine awp_sr [] (by rw [hC]; rfl) fun k hk => ?_
   simp (maxSteps := 9^9) (disch := (try simp only [lens]); omega) only [argSl, sm, ↓amb, mark_eq, simprocAttr, dx]
   repeat refine ⟨by first | omega | (simp; done) | (unfold maxLen; omega) | (simp [maxLen]; omega) | assumption, ?_⟩
   refine hk _ ?_; clear hk k
   refine awp_ret ?_
   refine ret1 rfl rfl ?_
   exact .p (LeP.refl _)
  ·try simp only [hbx] at hb
   refine awp_skip ?_
   refine h2 _ ?_; clear h2 k2
   refine awp_le (le_keep [0, 1, 5]) ?_
   simp only [kp, argSl, simprocAttr]
   have hsl : (Pl.scL Pl.add32 l b p).length ≤ 1000000 := by
    unfold Pl.scL; split
    ·rw [Pl.aheadF_len]; omega
    ·exact Nat.zero_le _
   have hhl : (Pl.hiL l b p).length ≤ 1000000 := by
    unfold Pl.hiL; split
    ·rw [Pl.highF_len]; omega
    ·exact Nat.zero_le _
   have htl : (Pl.totR l b).length ≤ 1000000 := by have := Pl.totR_len l b; omega
   have hbl : (Pl.backL l (Pl.scT Pl.add32 l b p) l.length).length ≤ 1000000 := by rw [Pl.backL_len]; omega
   have hT : Pl.W32 (Pl.scT Pl.add32 l b p) := by
    unfold Pl.scT; split
    ·exact Pl.allF_w Pl.rule_add hl
    ·exact ⟨by decide, by decide⟩
   refine awp_sr [] (by rw [hC]; rfl) fun k hk => ?_
   simp (maxSteps := 9^9) (disch := (try simp only [lens]); omega) only [argSl, sm, ↓amb, mark_eq, simprocAttr, sz26, en31, dx]
   repeat refine ⟨by first | omega | (simp; done) | (unfold maxLen; omega) | (simp [maxLen]; omega) | assumption, ?_⟩
   refine callK_p (c_scan_Sums false false l b p hl) rfl ?_
   simp (maxSteps := 9^9) (disch := (try simp only [lens]); omega) only [argSl, sm, ↓amb, mark_eq, simprocAttr, sz26, en31, dx]
   repeat refine ⟨by first | omega | (simp; done) | (unfold maxLen; omega) | (simp [maxLen]; omega) | assumption, ?_⟩
   refine hk _ ?_; clear hk k
   refine awp_le (le_keep [0, 1, 5, 7, 8, 9, 10]) ?_
   simp only [kp, argSl, simprocAttr]
   refine awp_sr [] (by rw [hC]; rfl) fun k hk => ?_
   simp (maxSteps := 9^9) (disch := (try simp only [lens]); omega) only [argSl, sm, ↓amb, mark_eq, simprocAttr, sz26, en32, dx]
   repeat refine ⟨by first | omega | (simp; done) | (unfold maxLen; omega) | (simp [maxLen]; omega) | assumption, ?_⟩
   refine callK_p (c_ref08_Sums false false l b p hl (by omega)) rfl ?_
   simp (maxSteps := 9^9) (disch := (try simp only [lens]); omega) only [argSl, sm, ↓amb, mark_eq, simprocAttr, sz26, en32, dx]
   repeat refine ⟨by first | omega | (simp; done) | (unfold maxLen; omega) | (simp [maxLen]; omega) | assumption, ?_⟩
   refine hk _ ?_; clear hk k
   refine awp_le (le_keep [0, 1, 5, 7, 8, 9, 10, 11, 12, 13, 14]) ?_
   simp only [kp, argSl, simprocAttr]
   refine awp_sr [] (by rw [hC]; rfl) fun k hk => ?_
   simp (maxSteps := 9^9) (disch := (try simp only [lens]); omega) only [argSl, sm, ↓amb, mark_eq, simprocAttr, sz26, en33, dx]
   repeat refine ⟨by first | omega | (simp; done) | (unfold maxLen; omega) | (simp [maxLen]; omega) | assumption, ?_⟩
   refine callK_p (c_scan_Highest false false l b p hl (by omega)) rfl ?_
   simp (maxSteps := 9^9) (disch := (try simp only [lens]); omega) only [argSl, sm, ↓amb, mark_eq, simprocAttr, sz26, en33, dx]
   repeat refine ⟨by first | omega | (simp; done) | (unfold maxLen; omega) | (simp [maxLen]; omega) | assumption, ?_⟩
   refine hk _ ?_; clear hk k
   refine awp_le (le_keep [0, 1, 5, 7, 8, 9, 10, 11, 12, 13, 14, 15, 16, 17]) ?_
   simp only [kp, argSl, simprocAttr]
   refine awp_sr [] (by rw [hC]; rfl) fun k hk => ?_
   simp (maxSteps := 9^9) (disch := (try simp only [lens]); omega) only [argSl, sm, ↓amb, mark_eq, simprocAttr, sz26, en34, dx]
   repeat refine ⟨by first | omega | (simp; done) | (unfold maxLen; omega) | (simp [maxLen]; omega) | assumption, ?_⟩
   refine callK_p (c_ref08_Highest false false l b p hl (by omega)) rfl ?_
   simp (maxSteps := 9^9) (disch := (try simp only [lens]); omega) only [argSl, sm, ↓amb, mark_eq, simprocAttr, sz26, en34, dx]
   repeat refine ⟨by first | omega | (simp; done) | (unfold maxLen; omega) | (simp [maxLen]; omega) | assumption, ?_⟩
   refine hk _ ?_; clear hk k
   refine awp_test [] 6 (decide (True)) [] (by rw [hC]; rfl) (fun gd hgd k hk => ?_) ?_
   ·have g3 : gd 3 = some 69 := by rw [hgd]; rfl
    have g8 : gd 8 = some 74 := by rw [hgd]; rfl
    have g13 : gd 13 = some 79 := by rw [hgd]; rfl
    have g18 : gd 18 = some 84 := by rw [hgd]; rfl
    have g23 : gd 23 = some 89 := by rw [hgd]; rfl
    have g28 : gd 28 = some 94 := by rw [hgd]; rfl
    have g33 : gd 33 = some 99 := by rw [hgd]; rfl
    have g42 : gd 42 = some 108 := by rw [hgd]; rfl
    have g51 : gd 51 = some 117 := by rw [hgd]; rfl
    clear hgd
    simp (maxSteps := 9^9) (disch := (try simp only [lens]); omega) only [argSl, sm, ↓amb, mark_eq, simprocAttr, en22, en35, en36, en37, en38, el22, en39, en40, gcase_undef, g3, g8, g13, g18, g23, g28, g33, g42, g51, dx]
    repeat' first | refine hk _ _ rfl rfl rfl rfl ?_ | (refine gsplit (fun hg => ?_) (fun hg => ?_) <;> (try simp only [hbx] at hg) <;> simp (maxSteps := 9^9) (disch := (try simp only [lens]); omega) only [argSl, sm, ↓amb, mark_eq, simprocAttr, en22, en35, en36, en37, en38, el22, en39, en40, gcase_undef, g3, g8, g13, g18, g23, g28, g33, g42, g51, dx]) | apply And.intro | (refine callK_p (c_ref07_Words false false (Pl.scL Pl.add32 l b p) (Pl.scL Pl.add32 l b p) hsl) rfl ?_; (try simp (maxSteps := 9^9) (disch := (try simp only [lens]); omega) only [argSl, sm, ↓amb, mark_eq, simprocAttr, en22, en35, en36, en37, en38, el22, en39, en40, gcase_undef, g3, g8, g13, g18, g23, g28, g33, g42, g51, dx])) | (refine callK_p (c_ref07_Words false false (Pl.hiL l b p) (Pl.hiL l b p) hhl) rfl ?_; (try simp (maxSteps := 9^9) (disch := (try simp only [lens]); omega) only [argSl, sm, ↓amb, mark_eq, simprocAttr, en22, en35, en36, en37, en38, el22, en39, en40, gcase_undef, g3, g8, g13, g18, g23, g28, g33, g42, g51, dx])) | (refine callK_p (c_scan_Totals false l b hl) rfl ?_; (try simp (maxSteps := 9^9) (disch := (try simp only [lens]); omega) only [argSl, sm, ↓amb, mark_eq, simprocAttr, en22, en35, en36, en37, en38, el22, en39, en40, gcase_undef, g3, g8, g13, g18, g23, g28, g33, g42, g51, dx])) | (refine callK_p (c_ref08_Totals false l b hl) rfl ?_; (try simp (maxSteps := 9^9) (disch := (try simp only [lens]); omega) only [argSl, sm, ↓amb, mark_eq, simprocAttr, en22, en35, en36, en37, en38, el22, en39, en40, gcase_undef, g3, g8, g13, g18, g23, g28, g33, g42, g51, dx])) | (refine callK_p (c_ref07_Words false false (Pl.totR l b) (Pl.totR l b) htl) rfl ?_; (try simp (maxSteps := 9^9) (disch := (try simp only [lens]); omega) only [argSl, sm, ↓amb, mark_eq, simprocAttr, en22, en35, en36, en37, en38, el22, en39, en40, gcase_undef, g3, g8, g13, g18, g23, g28, g33, g42, g51, dx])) | (refine callK_p (c_scan_Back false l (Pl.scT Pl.add32 l b p) hl hT (by omega)) rfl ?_; (try simp (maxSteps := 9^9) (disch := (try simp only [lens]); omega) only [argSl, sm, ↓amb, mark_eq, simprocAttr, en22, en35, en36, en37, en38, el22, en39, en40, gcase_undef, g3, g8, g13, g18, g23, g28, g33, g42, g51, dx])) | (refine callK_p (c_ref08_Back false l (Pl.scT Pl.add32 l b p) hl hT (by omega)) rfl ?_; (try simp (maxSteps := 9^9) (disch := (try simp only [lens]); omega) only [argSl, sm, ↓amb, mark_eq, simprocAttr, en22, en35, en36, en37, en38, el22, en39, en40, gcase_undef, g3, g8, g13, g18, g23, g28, g33, g42, g51, dx])) | (refine callK_p (c_ref07_Words false false (Pl.backL l (Pl.scT Pl.add32 l b p) l.length) (Pl.backL l (Pl.scT Pl.add32 l b p) l.length) hbl) rfl ?_; (try simp (maxSteps := 9^9) (disch := (try simp only [lens]); omega) only [argSl, sm, ↓amb, mark_eq, simprocAttr, en22, en35, en36, en37, en38, el22, en39, en40, gcase_undef, g3, g8, g13, g18, g23, g28, g33, g42, g51, dx])) | (refine callK_p (c_scan_Blocks _ _) rfl ?_; (try simp (maxSteps := 9^9) (disch := (try simp only [lens]); omega) only [argSl, sm, ↓amb, mark_eq, simprocAttr, en22, en35, en36, en37, en38, el22, en39, en40, gcase_undef, g3, g8, g13, g18, g23, g28, g33, g42, g51, dx])) | (refine callK_p (c_ref08_Blocks _ _) rfl ?_; (try simp (maxSteps := 9^9) (disch := (try simp only [lens]); omega) only [argSl, sm, ↓amb, mark_eq, simprocAttr, en22, en35, en36, en37, en38, el22, en39, en40, gcase_undef, g3, g8, g13, g18, g23, g28, g33, g42, g51, dx])) | fail
    all_goals first | rfl | omega | exact (decide_eq_true (by omega)).symm | exact (decide_eq_false (by omega)).symm | exact decide_eq_decide.mpr (by omega) | (refine Bool.eq_iff_iff.mpr ?_; simp only [beq_iff_eq, bne_iff_ne, ne_eq, decide_eq_true_eq]; omega) | (refine Bool.eq_iff_iff.mpr ?_; simp only [Bool.not_eq_true', Bool.not_eq_false', decide_eq_false_iff_not, decide_eq_true_eq, beq_iff_eq, bne_iff_ne, ne_eq]; omega) | assumption | (simp; done) | (simp [maxLen]; omega) | skip
    all_goals first | (exfalso; omega) | rfl | (exfalso; exact absurd rfl (by assumption)) | (simp; done) | (simp_all; done) | trace_state
   simp only [kp, argSl, simprocAttr, List.length_cons, List.length_nil]
   refine awp_ret ?_
   refine ret1 rfl rfl ?_
   exact .p (LeP.refl _)
end Go.Proofs.Ythelnccjcbnjfaa
end
section
namespace Go.Proofs.Ythelnccjcbnjfaa
open Go.Am Go.Proofs
theorem Try.own : ownKnob Try.prog.godebug = none := by kernel_rfl
theorem Try.laidOut : laidOutB Try.prog = true := by kernel_rfl
abbrev W64 (n : Int) : Prop := (Lit.int .i64 n).wf = true
theorem wf32 {n : Int} (h : (Lit.int .u32 n).wf = true) : 0 ≤ n ∧ n ≤ 4294967295 := by
  simp only [Lit.wf, Bool.and_eq_true, decide_eq_true_eq, show IntKind.u32.min = 0 from rfl, show IntKind.u32.max = 4294967295 from rfl] at h; exact h
theorem op_int : Opens Try.prog 3 Int (fun n => (Lit.int .i64 n).wf = true) (fun n => [.lit (.int .i64 n)]) := opens_int Try.underlying3
theorem op_pair : Opens Try.prog 23 (Int × Int) (fun p => W64 p.1 ∧ W64 p.2) (fun p => [iV p.1, iV p.2]) := (opens_agg (ts := [3, 3]) (by kernel_rfl) (.cons op_int (.cons op_int .nil))).map (fun p => (p.1, p.2.1)) (fun _ h => ⟨⟨h.1, h.2.1⟩, rfl⟩)
theorem op_u32 : Opens Try.prog 28 Int (fun n => (Lit.int .u32 n).wf = true) (fun n => [.lit (.int .u32 n)]) := opens_int Try.underlying28
theorem op_words : Opens Try.prog 22 (List Int) (fun l => l.length ≤ maxLen ∧ ∀ a, a ∈ l → (Lit.int .u32 a).wf = true) (fun l => [words false l]) := opens_slice Try.underlying22 (of_decide_eq_true (by kernel_rfl)) op_u32
theorem op_picks : Opens Try.prog 24 (List (Int × Int)) (fun l => l.length ≤ maxLen ∧ ∀ p, p ∈ l → W64 p.1 ∧ W64 p.2) (fun l => [picksV false l]) := opens_slice Try.underlying24 (of_decide_eq_true (by kernel_rfl)) op_pair
theorem op_plan : Opens Try.prog 26 Pl.Plan (fun p => W64 p.grain ∧ W64 p.workers ∧ p.picks.length ≤ maxLen ∧ ∀ q, q ∈ p.picks → W64 q.1 ∧ W64 q.2) (planC false) := (opens_agg (ts := [3, 3, 24]) (by kernel_rfl) (.cons op_int (.cons op_int (.cons op_picks .nil)))).map (fun p => ⟨p.1, p.2.1, p.2.2.1⟩) (fun _ h => ⟨⟨h.1, h.2.1, h.2.2.1.1, h.2.2.1.2⟩, rfl⟩)
end Go.Proofs.Ythelnccjcbnjfaa
end
section
namespace Go.Proofs.Ythelnccjcbnjfaa
open Go.ChangeShapes Go.WideShapes Go.ChangeAt Go.RowKit Go.Am
set_option maxRecDepth 100000 in
theorem scanAnswers_lifted (os : Os) (started : os.Started) (H : Type) (enc : TypeId × Value → H) :
    ReturnsInHanded {} Try.checked os 7 .any (Rows.scanAnswersSpec.pre6 enc Try.prog Try.f7 Rows.scanAnswersRow.domain false) (Rows.scanAnswersSpec.post enc Try.prog Try.f7 false true false false) := by
  refine returnsInHanded_of_change (C := Try.checked) Try.own started (by kernel_rfl) Try.func7
    (ChangeSpec.witness6 (enc := enc) (C := Try.checked) false ⟨#[], #[.slice none 0 0, .int .i64 0, .agg #[.int .i64 0, .int .i64 0, .slice none 0 0]], []⟩ 20 (by kernel_rfl) (by kernel_rfl) (by kernel_rfl) (by kernel_rfl)) ?_
  intro W base args ds gs before hval0 hW hcnd _
  have hval : ∀ (j : Nat) t v, Try.f7.params[j]? = some t → args[j]? = some v → Value.okWide Try.prog W .any base t v := hval0
  have hW' := hW
  have hlt := hW.lt
  obtain ⟨p, q, hA0, hV, rfl, hfz, hnd⟩ := hW
  have hA : DataW.TrodAll enc Try.prog W 0 (fun _ => true) true Try.f7.params.toList args.toList ds p := hA0
  rw [Try.params7] at hA hval
  obtain ⟨v0, v1, v2, d0, d1, d2, p0, p1, p2, rfl, rfl, rfl, h0, h1, h2⟩ := trodAll_three hA
  obtain ⟨rfl, rfl⟩ := trodVars_none hV
  obtain ⟨a0, k0, r0⟩ := arg_one op_words (okWide_one_s Try.underlying22 (hval 0 22 _ rfl rfl)) h0
  obtain ⟨a1, k1, r1⟩ := arg_one op_int (okWide_one Try.underlying3 (hval 1 3 _ rfl rfl)) h1
  obtain ⟨cs2, rfl⟩ := okWide_agg (by kernel_rfl) (hval 2 26 _ rfl rfl)
  obtain ⟨a2, k2, r2⟩ := arg_agg op_plan h2
  clear hA0 hval0
  simp only [List.append_nil] at hW' hlt
  refine (law_calls (c_law08_ScanAnswers a0 a1 a2 (fun x hx => wf32 (k0.2 x hx))) rfl ?_).mono fun e W' ⟨he, hB⟩ => ?_
  · intro i x hx
    match i, hx with
    | 0, hx => simp only [List.getElem?_cons_zero, Option.some.injEq] at hx; subst hx; exact r0
    | 1, hx => simp only [List.getElem?_cons_succ, List.getElem?_cons_zero, Option.some.injEq] at hx; subst hx; exact r1
    | 2, hx => simp only [List.getElem?_cons_succ, List.getElem?_cons_zero, Option.some.injEq] at hx; subst hx; exact r2
    | i + 3, hx => simp at hx
  subst he
  exact ⟨_, rfl, law_post (pv := []) hW' (fun _ _ _ => trodAll_mk1 (shut_bool Try.underlying4 _))
    (fun sp hs => trodAll_mk3 (WideElems.Trod_stays Try.laidOut (by kernel_rfl) (of_decide_eq_true (by kernel_rfl)) h0 (fun x hx => hB.same (hlt x (by simp [hx]))) (fun x hx => hs x (by simp [hx]))) (WideElems.Trod_stays Try.laidOut (by kernel_rfl) (of_decide_eq_true (by kernel_rfl)) h1 (fun x hx => hB.same (hlt x (by simp [hx]))) (fun x hx => hs x (by simp [hx]))) (WideElems.Trod_stays Try.laidOut (by kernel_rfl) (of_decide_eq_true (by kernel_rfl)) h2 (fun x hx => hB.same (hlt x (by simp [hx]))) (fun x hx => hs x (by simp [hx]))))
    (fun _ _ => rfl) (by simp) hB (ok_one (by kernel_rfl) rfl (okWide_bool_mk Try.underlying4 _))⟩
theorem scanAnswers_holds : Rows.ScanAnswersSaid :=
  OpenClaim.holds_of_wide 7 Try.f7 rfl rfl rfl rfl rfl rfl rfl ⟨rfl, rfl, rfl, rfl, rfl⟩ rfl rfl rfl rfl rfl (by kernel_rfl) Try.func7 (by kernel_rfl)
    (of_decide_eq_true (by kernel_rfl)) (by unfold Func.isWrapper; first | (rw [if_pos (by decide +kernel)]; kernel_rfl) | (rw [if_neg (by decide +kernel)]; exact ⟨rfl, rfl⟩))
    (fun os started H enc _ => scanAnswers_lifted os started H enc)
#print axioms scanAnswers_holds
end Go.Proofs.Ythelnccjcbnjfaa
end
