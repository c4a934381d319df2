/-
  DedupOnce, part 6 of 7: what the proof that the law holds at whatever arguments stands on; the last part holds the theorem. No condition.
-/
import Derived.Test.YtbehekmnccoifaaDedupOnceZ5
import Derived.Test.YtbehekmnccoifaaRows
section
set_option linter.unusedSimpArgs false
set_option linter.unusedVariables false
set_option maxRecDepth 100000
namespace Go.Proofs.Ytbehekmnccoifaa
open Go.Am Go.Proofs
set_option maxHeartbeats 4000000 in
theorem c_pack_places (c d : Bool) (m : List Int) (bl : Int) (p : Pl.Plan) (h01 : Pl.bits m) (hn : m.length ≤ 1000000) : PCall Try.prog 36 [words c m, iV bl, .agg (planC d p)] (.tup [ints false (if (Pl.scE m.length bl p) = 0 then Pl.onesL m else []), iV (if (Pl.scE m.length bl p) = 0 then Pl.scS m.length bl p + Pl.ordS m.length p else 0), iV (Pl.scE m.length bl p)]) := by
 refine pcall_of_awp Try.func36 rfl (by simp [Try.ntmps36]) fun C hC => ?_
 refine awp_le (le_keep [0, 1, 2]) ?_
 simp only [kp, argSl, simprocAttr]
 refine awp_sr [] (by rw [hC]; rfl) fun k hk => ?_
 simp (maxSteps := 9^9) (disch := (try simp only [lens]); omega) only [argSl, sm, ↓amb, mark_eq, simprocAttr, dx]
 repeat refine ⟨by first | omega | (simp; done) | (unfold maxLen; omega) | (simp [maxLen]; omega) | assumption, ?_⟩
 refine hk _ ?_; clear hk k
 refine awp_le (le_keep [0, 1, 5]) ?_
 simp only [kp, argSl, simprocAttr]
 refine awp_sr [] (by rw [hC]; rfl) fun k hk => ?_
 simp (maxSteps := 9^9) (disch := (try simp only [lens]); omega) only [argSl, sm, ↓amb, mark_eq, simprocAttr, sz26, en52, dx]
 repeat refine ⟨by first | omega | (simp; done) | (unfold maxLen; omega) | (simp [maxLen]; omega) | assumption, ?_⟩
 refine callK_p (c_scan_Sums c d m bl p (Pl.bits_w h01)) rfl ?_
 simp (maxSteps := 9^9) (disch := (try simp only [lens]); omega) only [argSl, sm, ↓amb, mark_eq, simprocAttr, sz26, en52, dx]
 repeat refine ⟨by first | omega | (simp; done) | (unfold maxLen; omega) | (simp [maxLen]; omega) | assumption, ?_⟩
 refine hk _ ?_; clear hk k
 refine awp_seq fun k1 h1 => ?_
 refine awp_le (le_keep [0, 5, 6, 7, 8, 9, 10, 11, 12]) ?_
 simp only [kp, argSl, simprocAttr]
 refine awp_sr [] (by rw [hC]; rfl) fun k hk => ?_
 simp (maxSteps := 9^9) (disch := (try simp only [lens]); omega) only [argSl, sm, ↓amb, mark_eq, simprocAttr, dx]
 repeat refine ⟨by first | omega | (simp; done) | (unfold maxLen; omega) | (simp [maxLen]; omega) | assumption, ?_⟩
 refine hk _ ?_; clear hk k
 refine awp_cond rfl (fun hb => ?_) (fun hb => ?_)
 ·try simp only [hbx] at hb
  refine awp_le (le_keep [12]) ?_
  simp only [kp, argSl, simprocAttr]
  have hse := hb
  refine awp_sr [] (by rw [hC]; rfl) fun k hk => ?_
  simp (maxSteps := 9^9) (disch := (try simp only [lens]); omega) only [argSl, sm, ↓amb, mark_eq, simprocAttr, dx]
  repeat refine ⟨by first | omega | (simp; done) | (unfold maxLen; omega) | (simp [maxLen]; omega) | assumption, ?_⟩
  refine hk _ ?_; clear hk k
  refine awp_ret ?_
  rw [if_neg hse, if_neg hse]
  refine ret3 rfl rfl rfl rfl ?_ ?_ ?_
  ·exact .p (LeP.seq _ _)
  ·exact .p (LeP.refl _)
  ·exact .p (LeP.refl _)
 ·try simp only [hbx] at hb
  refine awp_skip ?_
  refine h1 _ ?_; clear h1 k1
  refine awp_le (le_keep [0, 5, 9, 10, 11]) ?_
  simp only [kp, argSl, simprocAttr]
  have hse : (Pl.scE m.length bl p) = 0 := hb
  obtain ⟨q1, q2, q3⟩ := Pl.sc_iff.1 hse
  have hoo : Pl.ordOk m.length p := ⟨by omega, by omega, q3.2.2⟩
  have hoe := Pl.ordE0 hoo
  rw [(Pl.sc_yes (f := Pl.add32) hse).1, (Pl.sc_yes (f := Pl.add32) hse).2.1]
  have ht : Pl.allF Pl.add32 m = (Pl.onesL m).length := by
   have := Pl.all_ones h01 hn m.length (Nat.le_refl _)
   rw [List.take_of_length_le (Nat.le_refl _)] at this; rw [this, Pl.onesL_len]
  have hon := Pl.onesN_le m m.length
  rw [← Pl.onesL_len] at hon
  rw [ht]
  have hul := (Pl.ordU_ok hoo).2.2
  have hal := Pl.aheadF_len Pl.add32 m
  have hsn := Pl.scS_nn m.length bl p
  have hos := Pl.ord_steps hoo
  refine awp_sr [] (by rw [hC]; rfl) fun k hk => ?_
  simp (maxSteps := 9^9) (disch := (try simp only [lens]); omega) only [argSl, sm, ↓amb, mark_eq, simprocAttr, el22, sz26, en53, dx]
  repeat refine ⟨by first | omega | (simp; done) | (unfold maxLen; omega) | (simp [maxLen]; omega) | assumption, ?_⟩
  refine callK_p (c_fill_Order _ _ p) rfl ?_
  simp (maxSteps := 9^9) (disch := (try simp only [lens]); omega) only [argSl, sm, ↓amb, mark_eq, simprocAttr, el22, sz26, en53, dx]
  repeat refine ⟨by first | omega | (simp; done) | (unfold maxLen; omega) | (simp [maxLen]; omega) | assumption, ?_⟩
  refine hk _ ?_; clear hk k
  refine awp_seq fun k2 h2 => ?_
  refine awp_le (le_keep [0, 6, 7, 8, 9, 10, 11, 12, 13, 14]) ?_
  simp only [kp, argSl, simprocAttr]
  refine awp_sr [] (by rw [hC]; rfl) fun k hk => ?_
  simp (maxSteps := 9^9) (disch := (try simp only [lens]); omega) only [argSl, sm, ↓amb, mark_eq, simprocAttr, dx]
  repeat refine ⟨by first | omega | (simp; done) | (unfold maxLen; omega) | (simp [maxLen]; omega) | assumption, ?_⟩
  refine hk _ ?_; clear hk k
  refine awp_cond rfl (fun hb => ?_) (fun hb => ?_)
  ·try simp only [hbx] at hb
   refine awp_le (le_keep [12]) ?_
   simp only [kp, argSl, simprocAttr]
   refine awp_sr [] (by rw [hC]; rfl) fun k hk => ?_
   simp (maxSteps := 9^9) (disch := (try simp only [lens]); omega) only [argSl, sm, ↓amb, mark_eq, simprocAttr, dx]
   repeat refine ⟨by first | omega | (simp; done) | (unfold maxLen; omega) | (simp [maxLen]; omega) | assumption, ?_⟩
   refine hk _ ?_; clear hk k
   refine awp_ret ?_
   exact absurd hoe hb
  ·try simp only [hbx] at hb
   refine awp_skip ?_
   refine h2 _ ?_; clear h2 k2
   refine awp_le (le_keep [0, 9, 10, 11, 13, 14]) ?_
   simp only [kp, argSl, simprocAttr]
   refine awp_sr [] (by rw [hC]; rfl) fun k hk => ?_
   simp (maxSteps := 9^9) (disch := (try simp only [lens]); omega) only [argSl, sm, ↓amb, mark_eq, simprocAttr, el33, by3, vr3, dx]
   repeat refine ⟨by first | omega | (simp; done) | (unfold maxLen; omega) | (simp [maxLen]; omega) | assumption, ?_⟩
   refine hk _ ?_; clear hk k
   refine awp_seq fun k3 h3 => ?_
   refine awp_le (le_keep [0, 6, 7, 8, 9, 11, 13, 14, 15]) ?_
   simp only [kp, argSl, simprocAttr]
   refine awp_sr [] (by rw [hC]; rfl) fun k hk => ?_
   simp (maxSteps := 9^9) (disch := (try simp only [lens]); omega) only [argSl, sm, ↓amb, mark_eq, simprocAttr, el33, dx]
   repeat refine ⟨by first | omega | (simp; done) | (unfold maxLen; omega) | (simp [maxLen]; omega) | assumption, ?_⟩
   refine hk _ ?_; clear hk k
   refine awp_block ?_
   refine awp_loop (σ := Nat) (fun z => z ≤ (Pl.ordU m.length p).length) (fun (z : Nat) => ⟨[(0, (.p (words c m))), (9, (.p (words false (Pl.aheadF Pl.add32 m)))), (11, (.p (iV (Pl.scS m.length bl p)))), (14, (.p (iV (Pl.ordS m.length p)))), (15, (.own 0)), (43, (.p (ints false (Pl.ordU m.length p)))), (44, (.p (iV (Pl.ordU m.length p).length))), (45, (.p (iV (z : Int))))], [(0, (.row 1 (lift ((Pl.fillL (Pl.onesL m).length (Pl.onesS m ((Pl.ordU m.length p).take z)) (fun j => (Pl.onesL m).getD j 0)).map fun x => [iV x]))))], 1⟩) (fun z => (Pl.ordU m.length p).length - z) 0 ?_ ?_ fun z hz => ?_
   ·exact Nat.zero_le _
   ·exact le_of [(0, _)] (by rfl) (by rfl) ⟨⟨_, rfl, .p (.of_eq (by first | rfl | (simp only [PV.lit.injEq, Value.int.injEq, true_and]; omega) | (simp; done) | (simp; omega)))⟩, ⟨_, rfl, .p (.of_eq (by first | rfl | (simp only [PV.lit.injEq, Value.int.injEq, true_and]; omega) | (simp; done) | (simp; omega)))⟩, ⟨_, rfl, .p (.of_eq (by first | rfl | (simp only [PV.lit.injEq, Value.int.injEq, true_and]; omega) | (simp; done) | (simp; omega)))⟩, ⟨_, rfl, .p (.of_eq (by first | rfl | (simp only [PV.lit.injEq, Value.int.injEq, true_and]; omega) | (simp; done) | (simp; omega)))⟩, ⟨_, rfl, .own rfl⟩, ⟨_, rfl, .p (.of_eq (by first | rfl | (simp only [PV.lit.injEq, Value.int.injEq, true_and]; omega) | (simp; done) | (simp; omega)))⟩, ⟨_, rfl, .p (.of_eq (by first | rfl | (simp only [PV.lit.injEq, Value.int.injEq, true_and]; omega) | (simp; done) | (simp; omega)))⟩, ⟨_, rfl, .p (.of_eq (by first | rfl | (simp only [PV.lit.injEq, Value.int.injEq, true_and]; omega) | (simp; done) | (simp; omega)))⟩, trivial⟩ ⟨⟨_, rfl, _, rfl, .liftE (by first | (rw [List.take_zero, show Pl.onesS m [] = [] from rfl, Pl.fillL_nil, List.map_replicate]; done) | (rw [Pl.onesS_yes (by omega) hb, hag, ← Pl.fillL_set (Int.natCast_nonneg _) (x := (Pl.ordU m.length p).getD z 0) (by rw [Int.toNat_natCast, w1]; omega), List.map_set]; first | done | rfl) | (rw [Pl.onesS_no (by omega) hb]; done) | trace_state)⟩, trivial⟩
   refine awp_le (le_keep [0, 6, 7, 8, 9, 11, 14, 15, 43, 44, 45]) ?_
   simp only [kp, argSl, simprocAttr]
   refine awp_sr [] (by rw [hC]; rfl) fun k hk => ?_
   simp (maxSteps := 9^9) (disch := (try simp only [lens]); omega) only [argSl, sm, ↓amb, mark_eq, simprocAttr, dx]
   repeat refine ⟨by first | omega | (simp; done) | (unfold maxLen; omega) | (simp [maxLen]; omega) | assumption, ?_⟩
   refine hk _ ?_; clear hk k
   refine awp_seq fun k5 h5 => ?_
   refine awp_cond rfl (fun hb => ?_) (fun hb => ?_)
   ·try simp only [hbx] at hb
    refine awp_skip ?_
    refine h5 _ ?_; clear h5 k5
    refine awp_seq fun k6 h6 => ?_
    refine awp_block ?_
    refine awp_le (le_keep [0, 6, 7, 8, 9, 11, 14, 15, 43, 44, 45]) ?_
    simp only [kp, argSl, simprocAttr]
    refine awp_sr [] (by rw [hC]; rfl) fun k hk => ?_
    simp (maxSteps := 9^9) (disch := (try simp only [lens]); omega) only [argSl, sm, ↓amb, mark_eq, simprocAttr, el33, sz3, dx]
    repeat refine ⟨by first | omega | (simp; done) | (unfold maxLen; omega) | (simp [maxLen]; omega) | assumption, ?_⟩
    refine hk _ ?_; clear hk k
    refine awp_le (le_keep [0, 6, 7, 8, 9, 11, 14, 15, 17, 43, 44, 45]) ?_
    simp only [kp, argSl, simprocAttr]
    have hki := ((Pl.ordU_ok hoo).2.1 _).1 (Pl.getD_mem (Pl.ordU m.length p) z 0 (by omega))
    refine awp_sr [] (by rw [hC]; rfl) fun k hk => ?_
    simp (maxSteps := 9^9) (disch := (try simp only [lens]); omega) only [argSl, sm, ↓amb, mark_eq, simprocAttr, el22, sz41, dx]
    repeat refine ⟨by first | omega | (simp; done) | (unfold maxLen; omega) | (simp [maxLen]; omega) | assumption, ?_⟩
    refine hk _ ?_; clear hk k
    refine awp_cond rfl (fun hb => ?_) (fun hb => ?_)
    ·try simp only [hbx] at hb
     obtain ⟨w1, w2⟩ := Pl.onesL_at (m := m) (u := ((Pl.ordU m.length p).getD z 0).toNat) (by omega) hb
     have hag : (Pl.aheadF Pl.add32 m).getD ((Pl.ordU m.length p).getD z 0).toNat 0 = (Pl.onesN m ((Pl.ordU m.length p).getD z 0).toNat : Int) := (Pl.aheadF_get _ m (by omega)).trans (Pl.all_ones h01 hn _ (by omega))
     have hfl := Pl.fillL_len (Pl.onesL m).length (Pl.onesS m ((Pl.ordU m.length p).take z)) (fun j => (Pl.onesL m).getD j 0)
     refine awp_region [] (by rw [hC]; rfl) fun k hk => ?_
     simp (maxSteps := 9^9) (disch := (try simp only [lens]); omega) only [argSl, sm, ↓amb, mark_eq, simprocAttr, el22, sz41, el33, sz3, dx]
     repeat refine ⟨by first | omega | (simp; done) | (unfold maxLen; omega) | (simp [maxLen]; omega) | assumption, ?_⟩
     refine hk _ ?_; clear hk k
     refine h6 _ ?_; clear h6 k6
     refine awp_region [] (by rw [hC]; rfl) fun k hk => ?_
     simp (maxSteps := 9^9) (disch := (try simp only [lens]); omega) only [argSl, sm, ↓amb, mark_eq, simprocAttr, dx]
     repeat refine ⟨by first | omega | (simp; done) | (unfold maxLen; omega) | (simp [maxLen]; omega) | assumption, ?_⟩
     refine hk _ ?_; clear hk k
     refine ⟨z + 1, by omega, le_of [(0, _)] (by rfl) (by rfl) ⟨⟨_, rfl, .p (.of_eq (by first | rfl | (simp only [PV.lit.injEq, Value.int.injEq, true_and]; omega) | (simp; done) | (simp; omega)))⟩, ⟨_, rfl, .p (.of_eq (by first | rfl | (simp only [PV.lit.injEq, Value.int.injEq, true_and]; omega) | (simp; done) | (simp; omega)))⟩, ⟨_, rfl, .p (.of_eq (by first | rfl | (simp only [PV.lit.injEq, Value.int.injEq, true_and]; omega) | (simp; done) | (simp; omega)))⟩, ⟨_, rfl, .p (.of_eq (by first | rfl | (simp only [PV.lit.injEq, Value.int.injEq, true_and]; omega) | (simp; done) | (simp; omega)))⟩, ⟨_, rfl, .own rfl⟩, ⟨_, rfl, .p (.of_eq (by first | rfl | (simp only [PV.lit.injEq, Value.int.injEq, true_and]; omega) | (simp; done) | (simp; omega)))⟩, ⟨_, rfl, .p (.of_eq (by first | rfl | (simp only [PV.lit.injEq, Value.int.injEq, true_and]; omega) | (simp; done) | (simp; omega)))⟩, ⟨_, rfl, .p (.of_eq (by first | rfl | (simp only [PV.lit.injEq, Value.int.injEq, true_and]; omega) | (simp; done) | (simp; omega)))⟩, trivial⟩ ⟨⟨_, rfl, _, rfl, .liftE (by first | (rw [List.take_zero, show Pl.onesS m [] = [] from rfl, Pl.fillL_nil, List.map_replicate]; done) | (rw [Pl.onesS_yes (by omega) hb, hag, ← Pl.fillL_set (Int.natCast_nonneg _) (x := (Pl.ordU m.length p).getD z 0) (by rw [Int.toNat_natCast, w1]; omega), List.map_set]; first | done | rfl) | (rw [Pl.onesS_no (by omega) hb]; done) | trace_state)⟩, trivial⟩, by omega⟩
    ·try simp only [hbx] at hb
     refine awp_skip ?_
     refine h6 _ ?_; clear h6 k6
     refine awp_region [] (by rw [hC]; rfl) fun k hk => ?_
     simp (maxSteps := 9^9) (disch := (try simp only [lens]); omega) only [argSl, sm, ↓amb, mark_eq, simprocAttr, dx]
     repeat refine ⟨by first | omega | (simp; done) | (unfold maxLen; omega) | (simp [maxLen]; omega) | assumption, ?_⟩
     refine hk _ ?_; clear hk k
     refine ⟨z + 1, by omega, le_of [(0, _)] (by rfl) (by rfl) ⟨⟨_, rfl, .p (.of_eq (by first | rfl | (simp only [PV.lit.injEq, Value.int.injEq, true_and]; omega) | (simp; done) | (simp; omega)))⟩, ⟨_, rfl, .p (.of_eq (by first | rfl | (simp only [PV.lit.injEq, Value.int.injEq, true_and]; omega) | (simp; done) | (simp; omega)))⟩, ⟨_, rfl, .p (.of_eq (by first | rfl | (simp only [PV.lit.injEq, Value.int.injEq, true_and]; omega) | (simp; done) | (simp; omega)))⟩, ⟨_, rfl, .p (.of_eq (by first | rfl | (simp only [PV.lit.injEq, Value.int.injEq, true_and]; omega) | (simp; done) | (simp; omega)))⟩, ⟨_, rfl, .own rfl⟩, ⟨_, rfl, .p (.of_eq (by first | rfl | (simp only [PV.lit.injEq, Value.int.injEq, true_and]; omega) | (simp; done) | (simp; omega)))⟩, ⟨_, rfl, .p (.of_eq (by first | rfl | (simp only [PV.lit.injEq, Value.int.injEq, true_and]; omega) | (simp; done) | (simp; omega)))⟩, ⟨_, rfl, .p (.of_eq (by first | rfl | (simp only [PV.lit.injEq, Value.int.injEq, true_and]; omega) | (simp; done) | (simp; omega)))⟩, trivial⟩ ⟨⟨_, rfl, _, rfl, .liftE (by first | (rw [List.take_zero, show Pl.onesS m [] = [] from rfl, Pl.fillL_nil, List.map_replicate]; done) | (rw [Pl.onesS_yes (by omega) hb, hag, ← Pl.fillL_set (Int.natCast_nonneg _) (x := (Pl.ordU m.length p).getD z 0) (by rw [Int.toNat_natCast, w1]; omega), List.map_set]; first | done | rfl) | (rw [Pl.onesS_no (by omega) hb]; done) | trace_state)⟩, trivial⟩, by omega⟩
   ·try simp only [hbx] at hb
    refine awp_exit ((if_pos rfl).mpr ?_)
    refine h3 _ ?_; clear h5 k5; clear h3 k3
    refine awp_le (le_keep [11, 14, 15]) ?_
    simp only [kp, argSl, simprocAttr]
    have htk : (Pl.ordU m.length p).take z = (Pl.ordU m.length p) := List.take_of_length_le (by omega)
    rw [htk, Pl.ones_fill (fun u => (Pl.ordU_ok hoo).2.1 u)]
    refine awp_sr [] (by rw [hC]; rfl) fun k hk => ?_
    simp (maxSteps := 9^9) (disch := (try simp only [lens]); omega) only [argSl, sm, ↓amb, mark_eq, simprocAttr, dx]
    repeat refine ⟨by first | omega | (simp; done) | (unfold maxLen; omega) | (simp [maxLen]; omega) | assumption, ?_⟩
    refine hk _ ?_; clear hk k
    refine awp_ret ?_
    rw [if_pos hse, if_pos hse, hse]
    refine ret3 rfl rfl rfl rfl ?_ ?_ ?_
    ·exact .ownE rfl rfl
    ·exact .p (LeP.refl _)
    ·exact .p (LeP.refl _)
end Go.Proofs.Ytbehekmnccoifaa
end
section
set_option linter.unusedSimpArgs false
set_option linter.unusedVariables false
set_option maxRecDepth 100000
namespace Go.Proofs.Ytbehekmnccoifaa
open Go.Am Go.Proofs
theorem en14 : enters Try.prog 14 = true := by kernel_rfl
theorem en36 : enters Try.prog 36 = true := by kernel_rfl
theorem en37 : enters Try.prog 37 = true := by kernel_rfl
set_option maxHeartbeats 4000000 in
theorem c_pack_Where (c d : Bool) (fl : List Bool) (bl : Int) (p : Pl.Plan) (hn : fl.length ≤ 1000000) : PCall Try.prog 14 [.seq c (fl.map fun q => [bV q]), iV bl, .agg (planC d p)] (.tup [ints false (Pl.whL fl false bl p), iV (Pl.whS fl.length bl p), iV (Pl.scE fl.length bl p)]) := by
 have hpl := fun (c d : Bool) => c_pack_places c d (Pl.marksL fl false) bl p (Pl.marks_bits fl false) (by rw [Pl.marksL_len]; exact hn)
 rw [Pl.marksL_len] at hpl
 refine pcall_of_awp Try.func14 rfl (by simp [Try.ntmps14]) fun C hC => ?_
 refine awp_le (le_keep [0, 1, 2]) ?_
 simp only [kp, argSl, simprocAttr]
 refine awp_sr [] (by rw [hC]; rfl) fun k hk => ?_
 simp (maxSteps := 9^9) (disch := (try simp only [lens]); omega) only [argSl, sm, ↓amb, mark_eq, simprocAttr, dx]
 repeat refine ⟨by first | omega | (simp; done) | (unfold maxLen; omega) | (simp [maxLen]; omega) | assumption, ?_⟩
 refine hk _ ?_; clear hk k
 refine awp_le (le_keep [0, 1, 5]) ?_
 simp only [kp, argSl, simprocAttr]
 refine awp_sd [] ⟨[0, 1, 0, 0, 15, 31, 31, 31, 255, 511, 1023], [3], [], [], some []⟩ (by rw [hC]; rfl) (by kernel_rfl) (by kernel_rfl) fun k hk => ?_
 simp (maxSteps := 9^9) (disch := (try simp only [lens]); omega) only [argSl, sm, ↓amb, mark_eq, simprocAttr, en37, sz26, en36, dx]
 repeat refine ⟨by first | omega | (simp; done) | (unfold maxLen; omega) | (simp [maxLen]; omega) | assumption, ?_⟩
 refine callK_p (c_pack_marks _ _ _ hn) rfl ?_
 simp (maxSteps := 9^9) (disch := (try simp only [lens]); omega) only [argSl, sm, ↓amb, mark_eq, simprocAttr, en37, sz26, en36, dx]
 repeat refine ⟨by first | omega | (simp; done) | (unfold maxLen; omega) | (simp [maxLen]; omega) | assumption, ?_⟩
 refine callK_p (hpl _ _) rfl ?_
 simp (maxSteps := 9^9) (disch := (try simp only [lens]); omega) only [argSl, sm, ↓amb, mark_eq, simprocAttr, en37, sz26, en36, dx]
 repeat refine ⟨by first | omega | (simp; done) | (unfold maxLen; omega) | (simp [maxLen]; omega) | assumption, ?_⟩
 refine hk _ ?_; clear hk k
 refine awp_ret ?_
 refine ret3 rfl rfl rfl rfl ?_ ?_ ?_
 ·exact .p (LeP.refl _)
 ·exact .p (LeP.refl _)
 ·exact .p (LeP.refl _)
end Go.Proofs.Ytbehekmnccoifaa
end
section
set_option linter.unusedSimpArgs false
set_option linter.unusedVariables false
namespace Go.Pl
theorem emod_two {w m q : Int} (hm : 0 < m) (hq : 0 < q) : w / m % q * m + w % m = w % (q * m) := by
  have e1 := Int.ediv_mul_add_emod w m
  have e2 := Int.ediv_mul_add_emod (w / m) q
  have b1 := Int.emod_nonneg w (show m ≠ 0 by omega)
  have b2 := Int.emod_lt_of_pos w hm
  have b3 := Int.emod_nonneg (w / m) (show q ≠ 0 by omega)
  have b4 := Int.emod_lt_of_pos (w / m) hq
  have c1 : w = (w / m % q * m + w % m) + w / m / q * (q * m) := by
    rw [← Int.mul_assoc]
    have : (w / m / q * q + w / m % q) * m = w / m * m := by rw [e2]
    rw [Int.add_mul] at this
    omega
  have c2 : w / m % q * m ≤ (q - 1) * m := Int.mul_le_mul_of_nonneg_right (by omega) (by omega)
  have c3 : 0 ≤ w / m % q * m := Int.mul_nonneg b3 (by omega)
  have c4 : (q - 1) * m = q * m - m := by rw [Int.sub_mul, Int.one_mul]
  have c5 : w % (q * m) = ((w / m % q * m + w % m) + w / m / q * (q * m)) % (q * m) := by rw [← c1]
  rw [c5, Int.add_mul_emod_self_right]
  exact (Int.emod_eq_of_lt (by omega) (by omega)).symm
theorem passes_bucket {l : List Int} {b : Int} (hb : 1 ≤ b ∧ b ≤ 16) : ∀ k : Nat, (k : Int) ≤ pas b →
    passes l b k = bucket (2 ^ (k * b.toNat)) (fun i => l.getD i.toNat 0 % 2 ^ (k * b.toNat)) (upto 0 l.length)
  | 0, _ => by
    show upto 0 l.length = _
    rw [Nat.zero_mul]
    refine (bucket_one (d := fun i => l.getD i.toNat 0 % 2 ^ 0) fun x _ => ?_).symm
    show _ % (2 : Int) ^ 0 = 0
    rw [Int.pow_zero]; omega
  | k + 1, h => by
    show bucket (2 ^ b.toNat) (digA l k b) (passes l b k) = _
    have hp : (0 : Int) < 2 ^ (k * b.toNat) := Int.pow_pos (by decide)
    have hq : (0 : Int) < 2 ^ b.toNat := Int.pow_pos (by decide)
    have ec : ((2 ^ (k * b.toNat) : Nat) : Int) = 2 ^ (k * b.toNat) := by rw [Int.natCast_pow]; rfl
    rw [passes_bucket hb k (by omega), ← bucket_two (2 ^ (k * b.toNat)) (2 ^ b.toNat) (fun i => l.getD i.toNat 0 % 2 ^ (k * b.toNat)) (digA l k b) (upto 0 l.length) (fun x _ => by
      rw [ec]; exact ⟨Int.emod_nonneg _ (by omega), Int.emod_lt_of_pos _ hp⟩)]
    have e1 : (k + 1) * b.toNat = b.toNat + k * b.toNat := by rw [Nat.add_mul, Nat.one_mul, Nat.add_comm]
    rw [e1, Nat.pow_add]
    refine bucket_congr fun x _ => ?_
    have et : ((k : Int) * b).toNat = k * b.toNat := by
      have : (k : Int) * b = ((k * b.toNat : Nat) : Int) := by rw [Int.natCast_mul]; congr 1; omega
      rw [this, Int.toNat_natCast]
    show digA l k b x * ((2 ^ (k * b.toNat) : Nat) : Int) + l.getD x.toNat 0 % 2 ^ (k * b.toNat) = l.getD x.toNat 0 % 2 ^ (b.toNat + k * b.toNat)
    rw [ec, Int.pow_add]
    unfold digA digW
    rw [if_pos ⟨by omega, by omega⟩, et]
    exact emod_two hp hq
theorem upto_rises (a b : Int) : (upto a b).Pairwise fun x y => x < y := by
  unfold upto
  rw [List.pairwise_map]
  exact List.pairwise_lt_range.imp fun {x y} h => by omega
theorem passes_rises {l : List Int} (hl : ∀ x, x ∈ l → W32 x) {b : Int} (hb : 1 ≤ b ∧ b ≤ 16) :
    (passes l b (pas b).toNat).Pairwise fun x y => l.getD x.toNat 0 < l.getD y.toNat 0 ∨ (l.getD x.toNat 0 = l.getD y.toNat 0 ∧ x < y) := by
  have h1 := pas_x hb
  have h2 : (((pas b).toNat * b.toNat : Nat) : Int) = pas b * b := by rw [Int.natCast_mul]; congr 1 <;> omega
  have h3 : (2 : Nat) ^ 32 ≤ 2 ^ ((pas b).toNat * b.toNat) := Nat.pow_le_pow_right (by omega) (by omega)
  have h4 : (4294967296 : Int) ≤ 2 ^ ((pas b).toNat * b.toNat) := by
    have : ((2 ^ 32 : Nat) : Int) ≤ ((2 ^ ((pas b).toNat * b.toNat) : Nat) : Int) := Int.ofNat_le.2 h3
    rw [Int.natCast_pow] at this; exact this
  rw [passes_bucket hb _ (by omega)]
  rw [bucket_congr (e := fun i => l.getD i.toNat 0) fun x _ => by
    have := getD_w hl x.toNat
    exact Int.emod_eq_of_lt this.1 (by omega)]
  exact bucket_rises (upto_rises _ _)
theorem pair_at {R : Int → Int → Prop} {L : List Int} (h : L.Pairwise R) {i : Nat} (h1 : 1 ≤ i) (h2 : i < L.length) : R (L.getD (i - 1) 0) (L.getD i 0) := by
  rw [List.getD_eq_getElem?_getD, List.getElem?_eq_getElem (show i - 1 < L.length by omega), List.getD_eq_getElem?_getD, List.getElem?_eq_getElem h2]
  exact List.pairwise_iff_getElem.1 h (i - 1) i (by omega) h2 (by omega)
theorem ra_ok {n : Nat} {b bl : Int} {p : Plan} (hb : 1 ≤ b ∧ b ≤ 16) (h1 : 1 ≤ bl ∧ bl ≤ 100) (hn : n ≤ 1000) (hp : planRight p) : raE n b bl p = 0 := by
  have h := pas_x hb
  have hbk := blk_up (b := bl) (show (0 : Int) ≤ n by omega) (Int.le_refl _) (by omega)
  unfold raE
  rw [if_neg (by omega)]
  exact sc_iff.2 ⟨h1, hn, by omega, by omega, hp⟩
end Go.Pl
end
section
set_option linter.unusedSimpArgs false
set_option linter.unusedVariables false
namespace Go.Pl
theorem ordS_up (n : Int) (p : Plan) : 0 ≤ ordS n p ∧ ordS n p ≤ 20000 := by
  by_cases h : ordOk n p
  · have := ord_steps h
    have := h.1
    have h2 : 0 ≤ leB n p := by unfold leB; split; have := cntT_pos (phOk_cnt ‹_›); omega; exact Int.le_refl _
    omega
  · rw [(ord_no h).2.2]; omega
theorem raL_len {l : List Int} (hl : ∀ x, x ∈ l → W32 x) (b bl : Int) (p : Plan) : (raL l b bl p).length ≤ l.length := by
  unfold raL
  split
  · have := (passes_once hl b (pas b).toNat).1; omega
  · exact Nat.zero_le _
def onesT (m : List Int) (i : Nat) : List Int := (upto 0 (i : Int)).filter (onesP m)
theorem onesT_0 (m : List Int) : onesT m 0 = [] := by unfold onesT; rw [upto_nil (by simp)]; rfl
theorem onesT_end (m : List Int) : onesT m m.length = onesL m := rfl
theorem onesT_yes {m : List Int} {i : Nat} (h : m.getD i 0 = 1) : onesT m (i + 1) = onesT m i ++ [(i : Int)] := by
  unfold onesT
  rw [← upto_snoc', List.filter_append, List.filter_cons_of_pos (by unfold onesP; simpa using h)]; rfl
theorem onesT_no {m : List Int} {i : Nat} (h : ¬ m.getD i 0 = 1) : onesT m (i + 1) = onesT m i := by
  unfold onesT
  rw [← upto_snoc', List.filter_append, List.filter_cons_of_neg (by unfold onesP; simpa using h), List.filter_nil, List.append_nil]
end Go.Pl
end
section
set_option linter.unusedSimpArgs false
set_option linter.unusedVariables false
namespace Go.Pl
theorem onesN_at {m : List Int} {j : Nat} (hj : j < (onesL m).length) : onesN m ((onesL m).getD j 0).toNat = j ∧ m.getD ((onesL m).getD j 0).toNat 0 = 1 ∧ 0 ≤ (onesL m).getD j 0 ∧ (onesL m).getD j 0 < m.length := by
  have hx : (onesL m).getD j 0 ∈ onesL m := getD_mem _ _ _ hj
  have hx2 := List.mem_filter.1 hx
  have hr := mem_upto.1 hx2.1
  have h1 : m.getD ((onesL m).getD j 0).toNat 0 = 1 := by have := hx2.2; unfold onesP at this; simpa using this
  have q := onesL_at (u := ((onesL m).getD j 0).toNat) (by omega) h1
  have hd : (onesL m).Nodup := (nodup_upto _ _).filter _
  refine ⟨?_, h1, hr.1, hr.2⟩
  have e : (onesL m)[onesN m ((onesL m).getD j 0).toNat]'q.2 = (onesL m)[j] := by
    have q1 := q.1
    rw [List.getD_eq_getElem?_getD, List.getElem?_eq_getElem q.2] at q1
    simp only [Option.getD_some] at q1
    rw [q1]
    rw [List.getD_eq_getElem?_getD, List.getElem?_eq_getElem hj] at hr ⊢
    simp only [Option.getD_some] at hr ⊢
    omega
  exact nodup_inj hd q.2 hj e
theorem cntB_ones {fl : List Bool} : ∀ i, i ≤ fl.length → onesN (marksL fl false) i = cntB fl i
  | 0, _ => by unfold onesN cntB; rw [upto_nil (by simp)]; rfl
  | i + 1, h => by
    rw [onesN_s, cntB_ones i (by omega), cntB_s (by omega), marksL_get (by omega)]
    congr 1
    cases fl.getD i false <;> simp
theorem ones_len (fl : List Bool) : (onesL (marksL fl false)).length = fl.count true := by
  rw [onesL_len, marksL_len, cntB_ones _ (Nat.le_refl _), cntB_end]
theorem sortedL_get {l o : List Int} {j : Nat} (h : j < o.length) : (sortedL l o).getD j 0 = l.getD (o.getD j 0).toNat 0 := by
  unfold sortedL
  rw [List.getD_eq_getElem?_getD, List.getElem?_map, List.getElem?_eq_getElem h, List.getD_eq_getElem?_getD (l := o), List.getElem?_eq_getElem h]; rfl
theorem scE_ok {n : Nat} {bl : Int} {p : Plan} (h1 : 1 ≤ bl ∧ bl ≤ 100) (hn : n ≤ 1000) (hp : planRight p) : scE n bl p = 0 := by
  have hbk := blk_up (b := bl) (show (0 : Int) ≤ n by omega) (Int.le_refl _) (by omega)
  exact sc_iff.2 ⟨h1, hn, by omega, by omega, hp⟩
theorem list_ext {a b : List Int} (hl : a.length = b.length) (h : ∀ j, j < a.length → a.getD j 0 = b.getD j 0) : a = b := by
  apply List.ext_getElem hl
  intro j h1 h2
  have := h j h1
  rwa [List.getD_eq_getElem?_getD, List.getElem?_eq_getElem h1, List.getD_eq_getElem?_getD, List.getElem?_eq_getElem h2] at this
def notL (fl : List Bool) (i : Nat) : List Bool := (fl.take i).map fun q => !q
theorem notL_len (fl : List Bool) {i : Nat} (h : i ≤ fl.length) : (notL fl i).length = i := by unfold notL; rw [List.length_map, List.length_take]; omega
theorem cnt_not : ∀ fl : List Bool, fl.count true + (fl.map fun q => !q).count true = fl.length
  | [] => rfl
  | b :: fl => by
    have := cnt_not fl
    cases b <;> simp only [List.map_cons, List.count_cons, List.length_cons] <;> simp <;> omega
theorem marks_not (fl : List Bool) : marksL (notL fl fl.length) false = marksL fl true := by
  unfold marksL
  rw [notL_len fl (Nat.le_refl _)]
  refine tabL_congr fun j hj => ?_
  have e : (notL fl fl.length).getD j false = !(fl.getD j false) := by
    unfold notL
    rw [List.take_of_length_le (Nat.le_refl _), List.getD_eq_getElem?_getD, List.getElem?_map, List.getElem?_eq_getElem hj, List.getD_eq_getElem?_getD, List.getElem?_eq_getElem hj]; rfl
  rw [e]
  cases fl.getD j false <;> simp
theorem parts {l : List Int} {fl : List Bool} {bl : Int} {p : Plan} (hl : l.length = fl.length) (h1 : 1 ≤ bl ∧ bl ≤ 100) (hn : fl.length ≤ 1000) (hp : planRight p) :
    paE l fl bl p = 0 ∧ paE l (notL fl fl.length) bl p = 0 ∧ scE fl.length bl p = 0 ∧ ptL l fl bl p = paL l fl false bl p ++ paL l (notL fl fl.length) false bl p ∧
    ptN l fl bl p = (paL l fl false bl p).length ∧ (whL fl false bl p).length = (paL l fl false bl p).length ∧ (paL l fl false bl p).length + (paL l (notL fl fl.length) false bl p).length = l.length ∧
    ∀ i, i < (whL fl false bl p).length → (0 ≤ (whL fl false bl p).getD i 0 ∧ (whL fl false bl p).getD i 0 < fl.length) ∧ fl.getD ((whL fl false bl p).getD i 0).toNat false = true ∧ (paL l fl false bl p).getD i 0 = l.getD ((whL fl false bl p).getD i 0).toNat 0 ∧ (1 ≤ i → (whL fl false bl p).getD (i - 1) 0 < (whL fl false bl p).getD i 0) := by
  have e3 := scE_ok (p := p) h1 hn hp
  have hnl := notL_len fl (Nat.le_refl _)
  have e3' : scE (notL fl fl.length).length bl p = 0 := by rw [hnl]; exact e3
  have hl' : l.length = (notL fl fl.length).length := by rw [hnl]; exact hl
  have w1 : whL fl false bl p = onesL (marksL fl false) := if_pos e3
  have w2 : whL fl true bl p = onesL (marksL fl true) := if_pos e3
  have w3 : whL (notL fl fl.length) false bl p = onesL (marksL fl true) := by rw [← marks_not]; exact if_pos e3'
  have p1 : paL l fl false bl p = sortedL l (onesL (marksL fl false)) := by rw [← w1]; exact if_pos hl
  have p2 : paL l (notL fl fl.length) false bl p = sortedL l (onesL (marksL fl true)) := by rw [← w3]; exact if_pos hl'
  have pe : paE l fl bl p = 0 := (if_pos hl).trans e3
  refine ⟨pe, (if_pos hl').trans e3', e3, ?_, if_pos pe, by rw [w1, p1, sortedL_len], ?_, fun i hi => ?_⟩
  · rw [p2, ← w2]; exact if_pos pe
  · rw [p1, p2, sortedL_len, sortedL_len, ← marks_not, ones_len, ones_len]
    have := cnt_not fl
    unfold notL
    rw [List.take_of_length_le (Nat.le_refl _)]; omega
  · rw [w1] at hi ⊢
    obtain ⟨a, b, c, d⟩ := onesN_at hi
    rw [marksL_len] at d
    refine ⟨⟨c, d⟩, ?_, by rw [p1, sortedL_get hi], fun h1 => ?_⟩
    · rw [marksL_get (by omega)] at b
      cases hq : fl.getD ((onesL (marksL fl false)).getD i 0).toNat false
      · rw [hq] at b; simp at b
      · rfl
    · have hs : (onesL (marksL fl false)).Pairwise fun x y => x < y := by
        have hu : (upto 0 ((marksL fl false).length : Int)).Pairwise fun x y => x < y := by
          unfold upto
          rw [List.pairwise_map]
          exact List.pairwise_lt_range.imp fun {x y} h => by omega
        exact hu.filter _
      rw [List.getD_eq_getElem?_getD, List.getElem?_eq_getElem (show i - 1 < (onesL (marksL fl false)).length by omega), List.getD_eq_getElem?_getD, List.getElem?_eq_getElem hi]
      exact List.pairwise_iff_getElem.1 hs (i - 1) i (by omega) hi (by omega)
end Go.Pl
end
section
set_option linter.unusedSimpArgs false
set_option linter.unusedVariables false
namespace Go.Pl
def tabB (n : Nat) (g : Nat → Bool) : List Bool := (List.range n).map g
theorem tabB_len (n : Nat) (g : Nat → Bool) : (tabB n g).length = n := by simp [tabB]
theorem tabB_set {n : Nat} {g g' : Nat → Bool} {i : Nat} {x : Bool} (h1 : x = g' i) (h2 : ∀ j, j < n → j ≠ i → g j = g' j) : (tabB n g).set i x = tabB n g' := by
  subst h1
  refine List.ext_getElem (by simp [tabB]) fun j p q => ?_
  simp only [tabB, List.getElem_set, List.getElem_map, List.getElem_range]
  split
  · rename_i e; rw [e]
  · rename_i e; exact h2 j (by simpa [tabB] using q) (fun z => e z.symm)
def firB (l : List Int) (j : Nat) : Bool := decide (j = 0) || (l.getD (j - 1) 0 != l.getD j 0)
def firstsL (l : List Int) : List Bool := tabB l.length (firB l)
def firT (l : List Int) (i : Nat) : List Bool := tabB l.length (fun j => decide (j < i) && firB l j)
theorem firstsL_len (l : List Int) : (firstsL l).length = l.length := tabB_len _ _
theorem firT_len (l : List Int) (i : Nat) : (firT l i).length = l.length := tabB_len _ _
theorem firT_0 (l : List Int) : firT l 0 = List.replicate l.length false := by
  unfold firT tabB
  simp only [Nat.not_lt_zero, decide_false, Bool.false_and]
  rw [List.map_const']; simp
theorem firT_end (l : List Int) : firT l l.length = firstsL l := by
  unfold firT firstsL tabB
  refine List.map_congr_left fun j hj => ?_
  have := List.mem_range.1 hj
  simp [this]
theorem firT_set {l : List Int} {i : Nat} : (firT l i).set i (firB l i) = firT l (i + 1) := by
  refine tabB_set (by simp) fun j _ hj => ?_
  congr 1
  exact decide_eq_decide.mpr ⟨fun _ => by omega, fun _ => by omega⟩
theorem firB_0 {l : List Int} {i : Nat} (h : i = 0) : firB l i = true := by unfold firB; simp [h]
theorem firB_1 {l : List Int} {i : Nat} (h : i ≠ 0) : firB l i = (l.getD (i - 1) 0 != l.getD i 0) := by unfold firB; simp [h]
def grS (l : List Int) (w : Way) : List Int := sortedL l (raL l w.bits w.block w.plan)
def grW (l : List Int) (w : Way) : List Int := whL (firstsL (grS l w)) false w.block w.plan
def cntG (n : Nat) (W : List Int) (i : Nat) : List Int := (List.range i).map fun j => (if j + 1 < W.length then W.getD (j + 1) 0 else (n : Int)) - W.getD j 0
theorem cntG_snoc (n : Nat) (W : List Int) (i : Nat) : cntG n W (i + 1) = cntG n W i ++ [(if i + 1 < W.length then W.getD (i + 1) 0 else (n : Int)) - W.getD i 0] := by
  unfold cntG; rw [List.range_succ, List.map_append]; rfl
theorem cntG_len (n : Nat) (W : List Int) (i : Nat) : (cntG n W i).length = i := by simp [cntG]
def grE (n : Nat) (w : Way) : Int := raE n w.bits w.block w.plan
def grK (l : List Int) (w : Way) : List Int := if grE l.length w = 0 then sortedL (grS l w) (grW l w) else []
def grC (l : List Int) (w : Way) : List Int := if grE l.length w = 0 then cntG l.length (grW l w) (grW l w).length else []
def grT (n : Nat) (w : Way) : Int := if grE n w = 0 then raS n w.bits w.block w.plan + whS n w.block w.plan else 0
end Go.Pl
end
section
set_option linter.unusedSimpArgs false
set_option linter.unusedVariables false
namespace Go.Pl
def keyE (e : Edge) : Int := if (0 ≤ e.u ∧ e.u < 65536) ∧ 0 ≤ e.v ∧ e.v < 65536 then min e.u e.v * 65536 + max e.u e.v else 0
def unkey (k : Int) : Edge := ⟨k / 65536, k % 65536⟩
theorem or_key {a b : Int} (ha : 0 ≤ a ∧ a < 65536) (hb : 0 ≤ b ∧ b < 65536) : ((BitVec.ofInt 32 (a % 4294967296 * 2 ^ min 16 32 % 4294967296) ||| BitVec.ofInt 32 (b % 4294967296)).toNat : Int) % 4294967296 = a * 65536 + b := by
  obtain ⟨A, rfl⟩ := Int.eq_ofNat_of_zero_le ha.1
  obtain ⟨B, rfl⟩ := Int.eq_ofNat_of_zero_le hb.1
  have e0 : ((A : Int) % 4294967296 * 2 ^ min 16 32 % 4294967296) = ((65536 * A : Nat) : Int) := by
    have : (2 : Int) ^ min 16 32 = 65536 := by decide
    rw [this]; omega
  have e1 : ((B : Int) % 4294967296) = ((B : Nat) : Int) := by omega
  rw [e0, e1, BitVec.toNat_or, BitVec.toNat_ofInt, BitVec.toNat_ofInt]
  have e2 : (((65536 * A : Nat) : Int) % ((2 ^ 32 : Nat) : Int)).toNat = 2 ^ 16 * A := by omega
  have e3 : (((B : Nat) : Int) % ((2 ^ 32 : Nat) : Int)).toNat = B := by omega
  rw [e2, e3, ← Nat.two_pow_add_eq_or_of_lt (by omega)]
  omega
theorem edges_of {a b : List Edge} (h : a.length = b.length) {i : Nat} (hi : a.length ≤ i) (h2 : ∀ j, j < i → a.getD j default = b.getD j default) : a = b := by
  refine List.ext_getElem h fun j h1 h3 => ?_
  have := h2 j (by omega)
  simpa [List.getD_eq_getElem?_getD, List.getElem?_eq_getElem h1, List.getElem?_eq_getElem h3] using this
theorem edge_ne (a b : Edge) : (!(a.u == b.u && a.v == b.v)) = decide ¬ a = b := by
  rw [Bool.eq_iff_iff]
  cases a; cases b
  simp
def fitE (e : Edge) : Prop := (0 ≤ e.u ∧ e.u < 65536) ∧ 0 ≤ e.v ∧ e.v < 65536
instance (e : Edge) : Decidable (fitE e) := by unfold fitE; infer_instance
theorem take_snocE {α : Type} [Inhabited α] (l : List α) (i : Nat) (h : i < l.length) : l.take (i + 1) = l.take i ++ [l.getD i default] := by
  rw [List.take_add_one, List.getD_eq_getElem?_getD, List.getElem?_eq_getElem h]; rfl
def ksE (l : List Edge) : List Int := (l.filter fun e => e.u != e.v).map keyE
theorem ksE_yes {l : List Edge} {i : Nat} (h : i < l.length) (hn : (l.getD i default).u ≠ (l.getD i default).v) : ksE (l.take (i + 1)) = ksE (l.take i) ++ [keyE (l.getD i default)] := by
  unfold ksE
  rw [take_snocE l i h, List.filter_append, List.map_append, List.filter_cons_of_pos (by simpa using hn)]; rfl
theorem ksE_no {l : List Edge} {i : Nat} (h : i < l.length) (hn : (l.getD i default).u = (l.getD i default).v) : ksE (l.take (i + 1)) = ksE (l.take i) := by
  unfold ksE
  rw [take_snocE l i h, List.filter_append, List.filter_cons_of_neg (by simpa using hn), List.filter_nil, List.append_nil]
theorem ksE_len (l : List Edge) : (ksE l).length ≤ l.length := by unfold ksE; rw [List.length_map]; exact List.length_filter_le _ _
theorem keyE_w (e : Edge) : W32 (keyE e) := by unfold keyE; split <;> unfold W32 <;> omega
theorem ksE_w (l : List Edge) : ∀ x, x ∈ ksE l → W32 x := fun x hx => by
  unfold ksE at hx
  obtain ⟨e, _, rfl⟩ := List.mem_map.1 hx
  exact keyE_w e
theorem grK_w {l : List Int} (hl : ∀ x, x ∈ l → W32 x) (w : Way) : ∀ x, x ∈ grK l w → W32 x := by
  unfold grK
  split
  · intro x hx
    unfold sortedL at hx
    obtain ⟨j, _, rfl⟩ := List.mem_map.1 hx
    refine getD_w ?_ _
    intro y hy
    unfold grS sortedL at hy
    obtain ⟨k, _, rfl⟩ := List.mem_map.1 hy
    exact getD_w hl _
  · intro x hx; cases hx
theorem grK_len {l : List Int} (hl : ∀ x, x ∈ l → W32 x) (w : Way) : (grK l w).length ≤ l.length := by
  unfold grK
  split
  · rw [sortedL_len]
    have h1 := wh_len (firstsL (grS l w)) false w.block w.plan
    rw [firstsL_len] at h1
    unfold grW
    refine Nat.le_trans h1 ?_
    unfold grS
    rw [sortedL_len]
    exact raL_len hl _ _ _
  · exact Nat.zero_le _
def hasL (l : List Int) (x : Int) : Bool := decide (x ∈ l)
def woL (l ban : List Int) : List Int := l.filter fun x => !hasL ban x
end Go.Pl
end
section
set_option linter.unusedSimpArgs false
set_option linter.unusedVariables false
set_option maxRecDepth 100000
namespace Go.Proofs.Ytbehekmnccoifaa
open Go.Am Go.Proofs
theorem en51 : enters Try.prog 51 = true := by kernel_rfl
theorem fl59_0 : tFld Try.prog 59 0 = some (0, 1, false) := by kernel_rfl
theorem fl59_1 : tFld Try.prog 59 1 = some (1, 1, false) := by kernel_rfl
theorem it41 : tInt Try.prog 41 = some .u32 := by kernel_rfl
set_option maxHeartbeats 4000000 in
theorem c_dedup_fits (n : Int) : PCall Try.prog 51 [iV n] (bV (decide (0 ≤ n ∧ n < 65536))) := by
 refine pcall_of_awp Try.func51 rfl (by simp [Try.ntmps51]) fun C hC => ?_
 refine awp_le (le_keep [0]) ?_
 simp only [kp, argSl, simprocAttr]
 refine awp_sr [] (by rw [hC]; rfl) fun k hk => ?_
 simp (maxSteps := 9^9) (disch := (try simp only [lens]); omega) only [argSl, sm, ↓amb, mark_eq, simprocAttr, dx]
 repeat refine ⟨by first | omega | (simp; done) | (unfold maxLen; omega) | (simp [maxLen]; omega) | assumption, ?_⟩
 refine hk _ ?_; clear hk k
 refine awp_test [] 2 (decide (0 ≤ n ∧ n < 65536)) [] (by rw [hC]; rfl) (fun gd hgd k hk => ?_) ?_
 ·have g2 : gd 2 = some 5 := by rw [hgd]; rfl
  clear hgd
  simp (maxSteps := 9^9) (disch := (try simp only [lens]); omega) only [argSl, sm, ↓amb, mark_eq, simprocAttr, gcase_undef, g2, dx]
  repeat' first | refine hk _ _ rfl rfl rfl rfl ?_ | (refine gsplit (fun hg => ?_) (fun hg => ?_) <;> (try simp only [hbx] at hg) <;> simp (maxSteps := 9^9) (disch := (try simp only [lens]); omega) only [argSl, sm, ↓amb, mark_eq, simprocAttr, gcase_undef, g2, dx]) | apply And.intro | fail
  all_goals first | rfl | omega | exact (decide_eq_true (by omega)).symm | exact (decide_eq_false (by omega)).symm | exact decide_eq_decide.mpr (by omega) | (refine Bool.eq_iff_iff.mpr ?_; simp only [beq_iff_eq, bne_iff_ne, ne_eq, decide_eq_true_eq]; omega) | (refine Bool.eq_iff_iff.mpr ?_; simp only [Bool.not_eq_true', Bool.not_eq_false', decide_eq_false_iff_not, decide_eq_true_eq, beq_iff_eq, bne_iff_ne, ne_eq]; omega) | assumption | (simp; done) | (simp [maxLen]; omega) | skip
 simp only [kp, argSl, simprocAttr, List.length_cons, List.length_nil]
 refine awp_ret ?_
 refine ret1 rfl rfl ?_
 exact .p (LeP.refl _)
set_option maxHeartbeats 4000000 in
theorem c_dedup_Key (e : Pl.Edge) : PCall Try.prog 30 [.agg (edgeC e)] (.tup [u32V (Pl.keyE e), bV (decide ((0 ≤ e.u ∧ e.u < 65536) ∧ 0 ≤ e.v ∧ e.v < 65536))]) := by
 refine pcall_of_awp Try.func30 rfl (by simp [Try.ntmps30]) fun C hC => ?_
 refine awp_le (le_keep [0]) ?_
 simp only [kp, argSl, simprocAttr]
 refine awp_sr [] (by rw [hC]; rfl) fun k hk => ?_
 simp (maxSteps := 9^9) (disch := (try simp only [lens]); omega) only [argSl, sm, ↓amb, mark_eq, simprocAttr, wr_u32, dx]
 repeat refine ⟨by first | omega | (simp; done) | (unfold maxLen; omega) | (simp [maxLen]; omega) | assumption, ?_⟩
 refine hk _ ?_; clear hk k
 refine awp_seq fun k1 h1 => ?_
 refine awp_test [] 13 (decide (¬ ((0 ≤ e.u ∧ e.u < 65536) ∧ 0 ≤ e.v ∧ e.v < 65536))) [1, 2, 3] (by rw [hC]; rfl) (fun gd hgd k hk => ?_) ?_
 ·have g4 : gd 4 = some 8 := by rw [hgd]; rfl
  clear hgd
  simp (maxSteps := 9^9) (disch := (try simp only [lens]); omega) only [argSl, sm, ↓amb, mark_eq, simprocAttr, fl59_0, sz3, en51, fl59_1, gcase_undef, g4, wr_u32, dx]
  repeat' first | refine hk _ _ rfl rfl rfl rfl ?_ | (refine gsplit (fun hg => ?_) (fun hg => ?_) <;> (try simp only [hbx] at hg) <;> simp (maxSteps := 9^9) (disch := (try simp only [lens]); omega) only [argSl, sm, ↓amb, mark_eq, simprocAttr, fl59_0, sz3, en51, fl59_1, gcase_undef, g4, wr_u32, dx]) | apply And.intro | (refine callK_p (c_dedup_fits _) rfl ?_; (try simp (maxSteps := 9^9) (disch := (try simp only [lens]); omega) only [argSl, sm, ↓amb, mark_eq, simprocAttr, fl59_0, sz3, en51, fl59_1, gcase_undef, g4, wr_u32, dx])) | (refine callK_p (c_dedup_fits _) rfl ?_; (try simp (maxSteps := 9^9) (disch := (try simp only [lens]); omega) only [argSl, sm, ↓amb, mark_eq, simprocAttr, fl59_0, sz3, en51, fl59_1, gcase_undef, g4, wr_u32, dx])) | fail
  all_goals first | rfl | omega | exact (decide_eq_true (by omega)).symm | exact (decide_eq_false (by omega)).symm | exact decide_eq_decide.mpr (by omega) | (refine Bool.eq_iff_iff.mpr ?_; simp only [beq_iff_eq, bne_iff_ne, ne_eq, decide_eq_true_eq]; omega) | (refine Bool.eq_iff_iff.mpr ?_; simp only [Bool.not_eq_true', Bool.not_eq_false', decide_eq_false_iff_not, decide_eq_true_eq, beq_iff_eq, bne_iff_ne, ne_eq]; omega) | assumption | (simp; done) | (simp [maxLen]; omega) | skip
 simp only [kp, argSl, simprocAttr, List.length_cons, List.length_nil]
 refine awp_cond rfl (fun hb => ?_) (fun hb => ?_)
 ·try simp only [hbx] at hb
  refine awp_le (le_keep []) ?_
  simp only [kp, argSl, simprocAttr]
  refine awp_sr [] (by rw [hC]; rfl) fun k hk => ?_
  simp (maxSteps := 9^9) (disch := (try simp only [lens]); omega) only [argSl, sm, ↓amb, mark_eq, simprocAttr, wr_u32, dx]
  repeat refine ⟨by first | omega | (simp; done) | (unfold maxLen; omega) | (simp [maxLen]; omega) | assumption, ?_⟩
  refine hk _ ?_; clear hk k
  refine awp_ret ?_
  have hk0 : ¬ ((0 ≤ e.u ∧ e.u < 65536) ∧ 0 ≤ e.v ∧ e.v < 65536) := by first | exact hb | simpa using hb
  rw [show Pl.keyE e = 0 from if_neg hk0, decide_eq_false hk0]
  refine ret2 rfl rfl rfl ?_ ?_
  ·exact .p (LeP.refl _)
  ·exact .p (LeP.refl _)
 ·try simp only [hbx] at hb
  refine awp_skip ?_
  refine h1 _ ?_; clear h1 k1
  refine awp_le (le_keep [1]) ?_
  simp only [kp, argSl, simprocAttr]
  have hk0 : ((0 ≤ e.u ∧ e.u < 65536) ∧ 0 ≤ e.v ∧ e.v < 65536) := by first | exact hb | exact Decidable.not_not.1 hb
  refine awp_sr [] (by rw [hC]; rfl) fun k hk => ?_
  simp (maxSteps := 9^9) (disch := (try simp only [lens]); omega) only [argSl, sm, ↓amb, mark_eq, simprocAttr, fl59_0, sz3, fl59_1, it41, un3, wr_u32, dx]
  repeat refine ⟨by first | omega | (simp; done) | (unfold maxLen; omega) | (simp [maxLen]; omega) | assumption, ?_⟩
  refine hk _ ?_; clear hk k
  refine awp_ret ?_
  rw [show Pl.keyE e = min e.u e.v * 65536 + max e.u e.v from if_pos hk0, decide_eq_true hk0]
  refine ret2 rfl rfl rfl ?_ ?_
  ·exact .p (LeP.of_eq (by show PV.lit (.int .u32 _) = PV.lit (.int .u32 _); congr 2; exact Pl.or_key (by omega) (by omega)))
  ·exact .p (LeP.refl _)
end Go.Proofs.Ytbehekmnccoifaa
end
section
set_option linter.unusedSimpArgs false
set_option linter.unusedVariables false
namespace Go.Pl
section
variable {α : Type} [Inhabited α]
def cntD (p : α → Bool) (l : List α) (j : Nat) : Nat := ((l.take j).filter fun x => !p x).length
structure DelI (p : α → Bool) (l r : List α) (j : Nat) : Prop where
  len : r.length = l.length
  pre : r.take (cntD p l j) = (l.take j).filter fun x => !p x
  suf : r.drop j = l.drop j
  lt : cntD p l j < j
theorem cntD_yes {p : α → Bool} {l : List α} {j : Nat} (hj : j < l.length) (hp : p (l.getD j default) = false) : (l.take (j + 1)).filter (fun x => !p x) = (l.take j).filter (fun x => !p x) ++ [l.getD j default] := by
  rw [take_snocE l j hj, List.filter_append, List.filter_cons_of_pos (by rw [hp]; rfl), List.filter_nil]
theorem cntD_no {p : α → Bool} {l : List α} {j : Nat} (hj : j < l.length) (hp : p (l.getD j default) = true) : (l.take (j + 1)).filter (fun x => !p x) = (l.take j).filter (fun x => !p x) := by
  rw [take_snocE l j hj, List.filter_append, List.filter_cons_of_neg (by rw [hp]; decide), List.filter_nil, List.append_nil]
theorem firstB_spec {p : α → Bool} {l : List α} {i : Nat} (h : firstB p l = (i : Int)) : i < l.length ∧ p (l.getD i default) = true ∧ ∀ j, j < i → p (l.getD j default) = false := by
  unfold firstB at h
  split at h
  · rename_i k hk
    rw [List.findIdx?_eq_some_iff_getElem] at hk
    obtain ⟨h1, h2, h3⟩ := hk
    obtain rfl : k = i := by omega
    refine ⟨h1, by rw [List.getD_eq_getElem?_getD, List.getElem?_eq_getElem h1]; exact h2, fun j hj => ?_⟩
    have := h3 j hj
    rw [List.getD_eq_getElem?_getD, List.getElem?_eq_getElem (by omega)]
    simpa using this
  · omega
theorem filter_take {p : α → Bool} {l : List α} {i : Nat} (hi : i ≤ l.length) (h : ∀ j, j < i → p (l.getD j default) = false) : (l.take i).filter (fun x => !p x) = l.take i := by
  rw [List.filter_eq_self]
  intro x hx
  obtain ⟨k, hk, rfl⟩ := List.getElem_of_mem hx
  rw [List.length_take] at hk
  have := h k (by omega)
  rw [List.getD_eq_getElem?_getD, List.getElem?_eq_getElem (by omega)] at this
  rw [List.getElem_take]
  simpa using this
theorem del_start {p : α → Bool} {l : List α} {i : Nat} (h : firstB p l = (i : Int)) : DelI p l l (i + 1) ∧ cntD p l (i + 1) = i := by
  obtain ⟨h1, h2, h3⟩ := firstB_spec h
  have e := cntD_no h1 h2
  have e2 := filter_take (Nat.le_of_lt h1) h3
  have e3 : cntD p l (i + 1) = i := by unfold cntD; rw [e, e2, List.length_take]; omega
  exact ⟨⟨rfl, by rw [e3, e, e2], rfl, by omega⟩, e3⟩
theorem del_none {p : α → Bool} {l : List α} (h : firstB p l = -1) : l.filter (fun x => !p x) = l := by
  rw [List.filter_eq_self]
  intro x hx
  have := mt (firstB_iff p l).mpr (by omega)
  cases hp : p x with
  | false => rfl
  | true => exact absurd ⟨x, hx, hp⟩ this
variable {p : α → Bool} {l r : List α} {j : Nat}
theorem DelI.get (h : DelI p l r j) (hj : j < l.length) : r.getD j default = l.getD j default := by
  have e : (r.drop j)[0]? = (l.drop j)[0]? := by rw [h.suf]
  rw [List.getElem?_drop, List.getElem?_drop] at e
  rw [List.getD_eq_getElem?_getD, List.getD_eq_getElem?_getD]
  simpa using congrArg (fun o => o.getD default) e
theorem DelI.keep (h : DelI p l r j) (hj : j < l.length) (hp : p (l.getD j default) = false) : DelI p l (r.set (cntD p l j) (l.getD j default)) (j + 1) ∧ cntD p l (j + 1) = cntD p l j + 1 := by
  have e := cntD_yes hj hp
  have e2 : cntD p l (j + 1) = cntD p l j + 1 := by unfold cntD; rw [e, List.length_append]; rfl
  have hl := h.len
  have hlt := h.lt
  refine ⟨⟨by rw [List.length_set]; exact h.len, ?_, ?_, by omega⟩, e2⟩
  · rw [e2, e, ← h.pre, List.take_set, List.take_add_one, List.getElem?_eq_getElem (by omega)]
    rw [List.set_append_right _ _ (by rw [List.length_take]; omega), List.length_take, Nat.min_eq_left (by omega), Nat.sub_self]
    rfl
  · rw [List.drop_set_of_lt (by omega)]
    have := congrArg (List.drop 1) h.suf
    rwa [List.drop_drop, List.drop_drop] at this
theorem DelI.skip (h : DelI p l r j) (hj : j < l.length) (hp : p (l.getD j default) = true) : DelI p l r (j + 1) ∧ cntD p l (j + 1) = cntD p l j := by
  have e := cntD_no hj hp
  have e2 : cntD p l (j + 1) = cntD p l j := by unfold cntD; rw [e]
  have hlt := h.lt
  refine ⟨⟨h.len, by rw [e2, e]; exact h.pre, ?_, by omega⟩, e2⟩
  have := congrArg (List.drop 1) h.suf
  rwa [List.drop_drop, List.drop_drop] at this
theorem DelI.all (h : DelI p l r l.length) : r.take (cntD p l l.length) = l.filter fun x => !p x := by
  have := h.pre
  rwa [List.take_length] at this
theorem cntD_le (p : α → Bool) (l : List α) (j : Nat) : cntD p l j ≤ l.length := by
  unfold cntD
  refine Nat.le_trans (List.length_filter_le _ _) ?_
  rw [List.length_take]; omega
end
theorem DelI.keepI {p : Int → Bool} {l r : List Int} {j : Nat} (h : DelI p l r j) (hj : j < l.length) (hp : p (r.getD j 0) = false) : DelI p l (r.set (cntD p l j) (r.getD j 0)) (j + 1) ∧ cntD p l (j + 1) = cntD p l j + 1 := by
  have e := h.get hj
  have e2 : r.getD j 0 = l.getD j default := e
  rw [e2] at hp ⊢
  exact h.keep hj hp
theorem DelI.skipI {p : Int → Bool} {l r : List Int} {j : Nat} (h : DelI p l r j) (hj : j < l.length) (hp : p (r.getD j 0) = true) : DelI p l r (j + 1) ∧ cntD p l (j + 1) = cntD p l j := by
  have e := h.get hj
  have e2 : r.getD j 0 = l.getD j default := e
  rw [e2] at hp
  exact h.skip hj hp
theorem hasL_first (l : List Int) (x : Int) : decide (0 ≤ firstB (fun y => decide (x = y)) l) = hasL l x := by
  unfold hasL
  refine decide_eq_decide.mpr ?_
  rw [firstB_iff]
  constructor
  · rintro ⟨y, h1, h2⟩
    rw [decide_eq_true_eq] at h2
    exact h2 ▸ h1
  · exact fun h => ⟨x, h, decide_eq_true rfl⟩
end Go.Pl
end
section
set_option linter.unusedSimpArgs false
set_option linter.unusedVariables false
set_option maxRecDepth 100000
namespace Go.Proofs.Ytbehekmnccoifaa
open Go.Am Go.Proofs
theorem take_liftA {n : Nat} {A B : List (List PV)} (h : A.length = n) : List.take n (lift (A ++ B)) = lift A := by
  subst h
  simp [lift]
theorem en45 : enters Try.prog 45 = true := by kernel_rfl
theorem en46 : enters Try.prog 46 = true := by kernel_rfl
theorem en47 : enters Try.prog 47 = true := by kernel_rfl
theorem en48 : enters Try.prog 48 = true := by kernel_rfl
theorem en63 : enters Try.prog 63 = true := by kernel_rfl
theorem en64 : enters Try.prog 64 = true := by kernel_rfl
theorem sz22 : tSz Try.prog 22 = some (false, 1) := by kernel_rfl
set_option maxHeartbeats 4000000 in
theorem c_IndexW (c : Bool) (l : List Int) (x : Int) (hn : l.length ≤ 1000000) : PCall Try.prog 64 [words c l, u32V x] (iV (Pl.firstB (fun y => decide (x = y)) l)) := by
 refine pcall_of_awp Try.func64 rfl (by simp [Try.ntmps64]) fun C hC => ?_
 refine awp_le (le_keep [0, 1]) ?_
 simp only [kp, argSl, simprocAttr]
 refine awp_sr [] (by rw [hC]; rfl) fun k hk => ?_
 simp (maxSteps := 9^9) (disch := (try simp only [lens]); omega) only [argSl, sm, ↓amb, mark_eq, simprocAttr, dx]
 repeat refine ⟨by first | omega | (simp; done) | (unfold maxLen; omega) | (simp [maxLen]; omega) | assumption, ?_⟩
 refine hk _ ?_; clear hk k
 refine awp_seq fun k1 h1 => ?_
 refine awp_le (le_keep [0, 1, 4]) ?_
 simp only [kp, argSl, simprocAttr]
 refine awp_sr [] (by rw [hC]; rfl) fun k hk => ?_
 simp (maxSteps := 9^9) (disch := (try simp only [lens]); omega) only [argSl, sm, ↓amb, mark_eq, simprocAttr, el22, dx]
 repeat refine ⟨by first | omega | (simp; done) | (unfold maxLen; omega) | (simp [maxLen]; omega) | assumption, ?_⟩
 refine hk _ ?_; clear hk k
 refine awp_block ?_
 refine awp_loop (σ := Nat) (fun i => i ≤ l.length ∧ ∀ j, j < i → ¬ x = l.getD j 0) (fun (i : Nat) => ⟨[(0, (.p (words c l))), (1, (.p (u32V x))), (7, (.p (iV l.length))), (8, (.p (iV (i : Int))))], [], 1⟩) (fun i => l.length - i) 0 ?_ ?_ fun i hi => ?_
 ·exact ⟨Nat.zero_le _, fun j hj => by omega⟩
 ·exact le_of [] (by rfl) (by rfl) ⟨⟨_, rfl, .p (.of_eq (by first | rfl | (simp only [PV.lit.injEq, Value.int.injEq, true_and]; omega) | (simp; done) | (simp; omega)))⟩, ⟨_, rfl, .p (.of_eq (by first | rfl | (simp only [PV.lit.injEq, Value.int.injEq, true_and]; omega) | (simp; done) | (simp; omega)))⟩, ⟨_, rfl, .p (.of_eq (by first | rfl | (simp only [PV.lit.injEq, Value.int.injEq, true_and]; omega) | (simp; done) | (simp; omega)))⟩, ⟨_, rfl, .p (.of_eq (by first | rfl | (simp only [PV.lit.injEq, Value.int.injEq, true_and]; omega) | (simp; done) | (simp; omega)))⟩, trivial⟩ trivial
 obtain ⟨hi1, hi2⟩ := hi
 refine awp_le (le_keep [0, 1, 4, 7, 8]) ?_
 simp only [kp, argSl, simprocAttr]
 refine awp_sr [] (by rw [hC]; rfl) fun k hk => ?_
 simp (maxSteps := 9^9) (disch := (try simp only [lens]); omega) only [argSl, sm, ↓amb, mark_eq, simprocAttr, dx]
 repeat refine ⟨by first | omega | (simp; done) | (unfold maxLen; omega) | (simp [maxLen]; omega) | assumption, ?_⟩
 refine hk _ ?_; clear hk k
 refine awp_seq fun k3 h3 => ?_
 refine awp_cond rfl (fun hb => ?_) (fun hb => ?_)
 ·try simp only [hbx] at hb
  refine awp_skip ?_
  refine h3 _ ?_; clear h3 k3
  refine awp_seq fun k4 h4 => ?_
  refine awp_block ?_
  refine awp_le (le_keep [0, 1, 4, 7, 8]) ?_
  simp only [kp, argSl, simprocAttr]
  refine awp_sr [] (by rw [hC]; rfl) fun k hk => ?_
  simp (maxSteps := 9^9) (disch := (try simp only [lens]); omega) only [argSl, sm, ↓amb, mark_eq, simprocAttr, dx]
  repeat refine ⟨by first | omega | (simp; done) | (unfold maxLen; omega) | (simp [maxLen]; omega) | assumption, ?_⟩
  refine hk _ ?_; clear hk k
  refine awp_le (le_keep [0, 1, 4, 5, 7, 8]) ?_
  simp only [kp, argSl, simprocAttr]
  refine awp_sr [] (by rw [hC]; rfl) fun k hk => ?_
  simp (maxSteps := 9^9) (disch := (try simp only [lens]); omega) only [argSl, sm, ↓amb, mark_eq, simprocAttr, el22, sz41, dx]
  repeat refine ⟨by first | omega | (simp; done) | (unfold maxLen; omega) | (simp [maxLen]; omega) | assumption, ?_⟩
  refine hk _ ?_; clear hk k
  refine awp_cond rfl (fun hb => ?_) (fun hb => ?_)
  ·try simp only [hbx] at hb
   refine awp_le (le_keep [5]) ?_
   simp only [kp, argSl, simprocAttr]
   refine awp_sr [] (by rw [hC]; rfl) fun k hk => ?_
   simp (maxSteps := 9^9) (disch := (try simp only [lens]); omega) only [argSl, sm, ↓amb, mark_eq, simprocAttr, dx]
   repeat refine ⟨by first | omega | (simp; done) | (unfold maxLen; omega) | (simp [maxLen]; omega) | assumption, ?_⟩
   refine hk _ ?_; clear hk k
   refine awp_ret ?_
   rw [Pl.firstB_at (p := (fun y => decide (x = y))) (i := i) (by omega) (fun j hj => decide_eq_false (hi2 j hj)) (decide_eq_true hb)]
   refine ret1 rfl rfl ?_
   exact .p (LeP.refl _)
  ·try simp only [hbx] at hb
   refine awp_skip ?_
   refine h4 _ ?_; clear h4 k4
   refine awp_region [] (by rw [hC]; rfl) fun k hk => ?_
   simp (maxSteps := 9^9) (disch := (try simp only [lens]); omega) only [argSl, sm, ↓amb, mark_eq, simprocAttr, dx]
   repeat refine ⟨by first | omega | (simp; done) | (unfold maxLen; omega) | (simp [maxLen]; omega) | assumption, ?_⟩
   refine hk _ ?_; clear hk k
   refine ⟨i + 1, ⟨by omega, fun j hj => by by_cases e : j = i; (subst e; exact hb); exact hi2 j (by omega)⟩, le_of [] (by rfl) (by rfl) ⟨⟨_, rfl, .p (.of_eq (by first | rfl | (simp only [PV.lit.injEq, Value.int.injEq, true_and]; omega) | (simp; done) | (simp; omega)))⟩, ⟨_, rfl, .p (.of_eq (by first | rfl | (simp only [PV.lit.injEq, Value.int.injEq, true_and]; omega) | (simp; done) | (simp; omega)))⟩, ⟨_, rfl, .p (.of_eq (by first | rfl | (simp only [PV.lit.injEq, Value.int.injEq, true_and]; omega) | (simp; done) | (simp; omega)))⟩, ⟨_, rfl, .p (.of_eq (by first | rfl | (simp only [PV.lit.injEq, Value.int.injEq, true_and]; omega) | (simp; done) | (simp; omega)))⟩, trivial⟩ trivial, by omega⟩
 ·try simp only [hbx] at hb
  refine awp_exit ((if_pos rfl).mpr ?_)
  refine h1 _ ?_; clear h3 k3; clear h1 k1
  refine awp_le (le_keep []) ?_
  simp only [kp, argSl, simprocAttr]
  refine awp_sr [] (by rw [hC]; rfl) fun k hk => ?_
  simp (maxSteps := 9^9) (disch := (try simp only [lens]); omega) only [argSl, sm, ↓amb, mark_eq, simprocAttr, dx]
  repeat refine ⟨by first | omega | (simp; done) | (unfold maxLen; omega) | (simp [maxLen]; omega) | assumption, ?_⟩
  refine hk _ ?_; clear hk k
  refine awp_ret ?_
  rw [Pl.firstB_no (p := (fun y => decide (x = y))) (i := i) (by omega) (fun j hj _ => decide_eq_false (hi2 j hj))]
  refine ret1 rfl rfl ?_
  exact .p (LeP.refl _)
set_option maxHeartbeats 4000000 in
theorem c_ContainsW (c : Bool) (l : List Int) (x : Int) (hn : l.length ≤ 1000000) : PCall Try.prog 48 [words c l, u32V x] (bV (Pl.hasL l x)) := by
 refine pcall_of_awp Try.func48 rfl (by simp [Try.ntmps48]) fun C hC => ?_
 refine awp_le (le_keep [0, 1]) ?_
 simp only [kp, argSl, simprocAttr]
 refine awp_sr [] (by rw [hC]; rfl) fun k hk => ?_
 simp (maxSteps := 9^9) (disch := (try simp only [lens]); omega) only [argSl, sm, ↓amb, mark_eq, simprocAttr, dx]
 repeat refine ⟨by first | omega | (simp; done) | (unfold maxLen; omega) | (simp [maxLen]; omega) | assumption, ?_⟩
 refine hk _ ?_; clear hk k
 refine awp_le (le_keep [0, 1]) ?_
 simp only [kp, argSl, simprocAttr]
 refine awp_sr [] (by rw [hC]; rfl) fun k hk => ?_
 simp (maxSteps := 9^9) (disch := (try simp only [lens]); omega) only [argSl, sm, ↓amb, mark_eq, simprocAttr, en64, dx]
 repeat refine ⟨by first | omega | (simp; done) | (unfold maxLen; omega) | (simp [maxLen]; omega) | assumption, ?_⟩
 refine callK_p (c_IndexW _ _ _ hn) rfl ?_
 simp (maxSteps := 9^9) (disch := (try simp only [lens]); omega) only [argSl, sm, ↓amb, mark_eq, simprocAttr, en64, dx]
 repeat refine ⟨by first | omega | (simp; done) | (unfold maxLen; omega) | (simp [maxLen]; omega) | assumption, ?_⟩
 refine hk _ ?_; clear hk k
 refine awp_ret ?_
 rw [← Pl.hasL_first]
 refine ret1 rfl rfl ?_
 exact .p (LeP.refl _)
set_option maxHeartbeats 4000000 in
theorem c_Without1 (d : Bool) (ban : List Int) (x : Int) (hn : ban.length ≤ 1000000) : HCall Try.prog 47 [.p (u32V x), .ptr 7 1 0 0] [(7, (.row 1 [[.p (words d ban)]]))] (.p (bV (Pl.hasL ban x))) [(7, (.row 1 [[.p (words d ban)]]))] := by
 refine hcall_of_awp Try.func47 rfl (by simp [Try.ntmps47]) fun C hC => ?_
 refine awp_le (le_keep [0, 1]) ?_
 simp only [kp, argSl, simprocAttr]
 refine awp_sr [] (by rw [hC]; rfl) fun k hk => ?_
 simp (maxSteps := 9^9) (disch := (try simp only [lens]); omega) only [argSl, sm, ↓amb, mark_eq, simprocAttr, dx]
 repeat refine ⟨by first | omega | (simp; done) | (unfold maxLen; omega) | (simp [maxLen]; omega) | assumption, ?_⟩
 refine hk _ ?_; clear hk k
 refine awp_le (le_keep [0, 1]) ?_
 simp only [kp, argSl, simprocAttr]
 refine awp_sr [] (by rw [hC]; rfl) fun k hk => ?_
 simp (maxSteps := 9^9) (disch := (try simp only [lens]); omega) only [argSl, sm, ↓amb, mark_eq, simprocAttr, sz22, en48, dx]
 repeat refine ⟨by first | omega | (simp; done) | (unfold maxLen; omega) | (simp [maxLen]; omega) | assumption, ?_⟩
 refine callK_p (c_ContainsW _ _ _ hn) rfl ?_
 simp (maxSteps := 9^9) (disch := (try simp only [lens]); omega) only [argSl, sm, ↓amb, mark_eq, simprocAttr, sz22, en48, dx]
 repeat refine ⟨by first | omega | (simp; done) | (unfold maxLen; omega) | (simp [maxLen]; omega) | assumption, ?_⟩
 refine hk _ ?_; clear hk k
 refine awp_ret ?_
 refine reth1 rfl rfl ?_
 exact le_of [] (by rfl) (by rfl) ⟨⟨_, rfl, .p (.refl _)⟩, trivial⟩ ⟨⟨_, rfl, _, rfl, .one (.cons (.p (.refl _)) (.nil))⟩, trivial⟩
set_option maxHeartbeats 4000000 in
theorem c_IndexFuncW (d : Bool) (l ban : List Int) (hl : l.length ≤ 1000000) (hn : ban.length ≤ 1000000) : HCall Try.prog 63 [.own 7, (.fn 47 [.ptr 15 1 0 0])] [(7, (.row 1 (lift (l.map fun x => [u32V x])))), (15, (.row 1 [[.p (words d ban)]]))] (.p (iV (Pl.firstB (Pl.hasL ban) l))) [(7, (.row 1 (lift (l.map fun x => [u32V x])))), (15, (.row 1 [[.p (words d ban)]]))] := by
 refine hcall_of_awp Try.func63 rfl (by simp [Try.ntmps63]) fun C hC => ?_
 refine awp_le (le_keep [0, 1]) ?_
 simp only [kp, argSl, simprocAttr]
 refine awp_sr [] (by rw [hC]; rfl) fun k hk => ?_
 simp (maxSteps := 9^9) (disch := (try simp only [lens]); omega) only [argSl, sm, ↓amb, mark_eq, simprocAttr, dx, en47]
 repeat refine ⟨by first | omega | (simp; done) | (unfold maxLen; omega) | (simp [maxLen]; omega) | assumption, ?_⟩
 refine hk _ ?_; clear hk k
 refine awp_seq fun k1 h1 => ?_
 refine awp_le (le_keep [0, 1, 4]) ?_
 simp only [kp, argSl, simprocAttr]
 refine awp_sr [] (by rw [hC]; rfl) fun k hk => ?_
 simp (maxSteps := 9^9) (disch := (try simp only [lens]); omega) only [argSl, sm, ↓amb, mark_eq, simprocAttr, el22, dx, en47]
 repeat refine ⟨by first | omega | (simp; done) | (unfold maxLen; omega) | (simp [maxLen]; omega) | assumption, ?_⟩
 refine hk _ ?_; clear hk k
 refine awp_block ?_
 refine awp_loop (σ := Nat) (fun i => i ≤ l.length ∧ ∀ j, j < i → Pl.hasL ban (l.getD j 0) = false) (fun (i : Nat) => ⟨[(0, (.own 7)), (1, (.fn 47 [.ptr 15 1 0 0])), (7, (.p (iV l.length))), (8, (.p (iV (i : Int))))], [(7, (.row 1 (lift (l.map fun x => [u32V x])))), (15, (.row 1 [[.p (words d ban)]]))], 1⟩) (fun i => l.length - i) 0 ?_ ?_ fun i hi => ?_
 ·exact ⟨Nat.zero_le _, fun j hj => by omega⟩
 ·exact le_of [] (by rfl) (by rfl) ⟨⟨_, rfl, .own rfl⟩, ⟨_, rfl, .fn rfl (LeRow.cons (.ptr rfl) .nil).2⟩, ⟨_, rfl, .p (.of_eq (by first | rfl | (simp only [PV.lit.injEq, Value.int.injEq, true_and]; omega) | (simp; done) | (simp; omega)))⟩, ⟨_, rfl, .p (.of_eq (by first | rfl | (simp only [PV.lit.injEq, Value.int.injEq, true_and]; omega) | (simp; done) | (simp; omega)))⟩, trivial⟩ ⟨⟨_, rfl, _, rfl, .liftE rfl⟩, ⟨_, rfl, _, rfl, .one (.cons (.p (.refl _)) (.nil))⟩, trivial⟩
 obtain ⟨hi1, hi2⟩ := hi
 refine awp_le (le_keep [0, 1, 4, 7, 8, 15]) ?_
 simp only [kp, argSl, simprocAttr]
 refine awp_sr [] (by rw [hC]; rfl) fun k hk => ?_
 simp (maxSteps := 9^9) (disch := (try simp only [lens]); omega) only [argSl, sm, ↓amb, mark_eq, simprocAttr, dx, en47]
 repeat refine ⟨by first | omega | (simp; done) | (unfold maxLen; omega) | (simp [maxLen]; omega) | assumption, ?_⟩
 refine hk _ ?_; clear hk k
 refine awp_seq fun k3 h3 => ?_
 refine awp_cond rfl (fun hb => ?_) (fun hb => ?_)
 ·try simp only [hbx] at hb
  refine awp_skip ?_
  refine h3 _ ?_; clear h3 k3
  refine awp_seq fun k4 h4 => ?_
  refine awp_block ?_
  refine awp_le (le_keep [0, 1, 4, 7, 8]) ?_
  simp only [kp, argSl, simprocAttr]
  refine awp_sr [] (by rw [hC]; rfl) fun k hk => ?_
  simp (maxSteps := 9^9) (disch := (try simp only [lens]); omega) only [argSl, sm, ↓amb, mark_eq, simprocAttr, dx, en47]
  repeat refine ⟨by first | omega | (simp; done) | (unfold maxLen; omega) | (simp [maxLen]; omega) | assumption, ?_⟩
  refine hk _ ?_; clear hk k
  refine awp_le (le_keep [0, 1, 4, 5, 7, 8]) ?_
  simp only [kp, argSl, simprocAttr]
  refine awp_sr [] (by rw [hC]; rfl) fun k hk => ?_
  simp (maxSteps := 9^9) (disch := (try simp only [lens]); omega) only [argSl, sm, ↓amb, mark_eq, simprocAttr, el22, sz41, dx, en47]
  repeat refine ⟨by first | omega | (simp; done) | (unfold maxLen; omega) | (simp [maxLen]; omega) | assumption, ?_⟩
  refine callK_h (c_Without1 d ban _ hn) [15] [7] (by first | rfl | (simp only [hm]; done)) (by first | rfl | (simp [namesOk, lkp]; done)) ?_ ?_ ?_ ?_ ?_ ?_ ?_
  (iterate 6 (focus (first | trivial | (intro n hn; cases hn; done) | (simp (maxSteps := 9^9) (disch := (try simp only [lens]); omega) only [argSl, sm, ↓amb, mark_eq, simprocAttr, el22, sz41, dx, en47, hmx, List.filter_cons, Nat.reduceBNe, imp_self, implies_true]; done))))
  simp (maxSteps := 9^9) (disch := (try simp only [lens]); omega) only [argSl, sm, ↓amb, mark_eq, simprocAttr, el22, sz41, dx, en47, hm, List.filter_cons, List.filter_nil, Nat.reduceBNe, Option.map_none]
  repeat refine ⟨by first | omega | (simp; done) | (unfold maxLen; omega) | (simp [maxLen]; omega) | assumption, ?_⟩
  refine hk _ ?_; clear hk k
  refine awp_cond rfl (fun hb => ?_) (fun hb => ?_)
  ·try simp only [hbx] at hb
   refine awp_le (le_keep [5]) ?_
   simp only [kp, argSl, simprocAttr]
   refine awp_sr [] (by rw [hC]; rfl) fun k hk => ?_
   simp (maxSteps := 9^9) (disch := (try simp only [lens]); omega) only [argSl, sm, ↓amb, mark_eq, simprocAttr, dx, en47]
   repeat refine ⟨by first | omega | (simp; done) | (unfold maxLen; omega) | (simp [maxLen]; omega) | assumption, ?_⟩
   refine hk _ ?_; clear hk k
   refine awp_ret ?_
   rw [Pl.firstB_at (p := Pl.hasL ban) (i := i) (by omega) hi2 hb]
   refine reth1 rfl rfl ?_
   exact le_of [] (by rfl) (by rfl) ⟨⟨_, rfl, .p (.refl _)⟩, trivial⟩ ⟨⟨_, rfl, _, rfl, .liftE (rfl)⟩, ⟨_, rfl, _, rfl, .one (.cons (.p (.refl _)) (.nil))⟩, trivial⟩
  ·try simp only [hbx] at hb
   refine awp_skip ?_
   refine h4 _ ?_; clear h4 k4
   refine awp_region [] (by rw [hC]; rfl) fun k hk => ?_
   simp (maxSteps := 9^9) (disch := (try simp only [lens]); omega) only [argSl, sm, ↓amb, mark_eq, simprocAttr, dx, en47]
   repeat refine ⟨by first | omega | (simp; done) | (unfold maxLen; omega) | (simp [maxLen]; omega) | assumption, ?_⟩
   refine hk _ ?_; clear hk k
   refine ⟨i + 1, ⟨by omega, fun j hj => by by_cases e : j = i; (subst e; exact hb); exact hi2 j (by omega)⟩, le_of [] (by rfl) (by rfl) ⟨⟨_, rfl, .own rfl⟩, ⟨_, rfl, .fn rfl (LeRow.cons (.ptr rfl) .nil).2⟩, ⟨_, rfl, .p (.of_eq (by first | rfl | (simp only [PV.lit.injEq, Value.int.injEq, true_and]; omega) | (simp; done) | (simp; omega)))⟩, ⟨_, rfl, .p (.of_eq (by first | rfl | (simp only [PV.lit.injEq, Value.int.injEq, true_and]; omega) | (simp; done) | (simp; omega)))⟩, trivial⟩ ⟨⟨_, rfl, _, rfl, .liftE rfl⟩, ⟨_, rfl, _, rfl, .one (.cons (.p (.refl _)) (.nil))⟩, trivial⟩, by omega⟩
 ·try simp only [hbx] at hb
  refine awp_exit ((if_pos rfl).mpr ?_)
  refine h1 _ ?_; clear h3 k3; clear h1 k1
  refine awp_le (le_keep []) ?_
  simp only [kp, argSl, simprocAttr]
  refine awp_sr [] (by rw [hC]; rfl) fun k hk => ?_
  simp (maxSteps := 9^9) (disch := (try simp only [lens]); omega) only [argSl, sm, ↓amb, mark_eq, simprocAttr, dx, en47]
  repeat refine ⟨by first | omega | (simp; done) | (unfold maxLen; omega) | (simp [maxLen]; omega) | assumption, ?_⟩
  refine hk _ ?_; clear hk k
  refine awp_ret ?_
  rw [Pl.firstB_no (p := Pl.hasL ban) (i := i) (by omega) (fun j hj _ => hi2 j hj)]
  refine reth1 rfl rfl ?_
  exact le_of [] (by rfl) (by rfl) ⟨⟨_, rfl, .p (.refl _)⟩, trivial⟩ ⟨⟨_, rfl, _, rfl, .liftE (rfl)⟩, ⟨_, rfl, _, rfl, .one (.cons (.p (.refl _)) (.nil))⟩, trivial⟩
set_option maxHeartbeats 4000000 in
theorem c_DeleteFuncW (d : Bool) (l ban : List Int) (hl : l.length ≤ 1000000) (hn : ban.length ≤ 1000000) : HCall Try.prog 45 [.own 7, (.fn 47 [.ptr 15 1 0 0])] [(7, (.row 1 (lift (l.map fun x => [u32V x])))), (15, (.row 1 [[.p (words d ban)]]))] (.own 0) [(0, (.row 1 (lift ((Pl.woL l ban).map fun x => [u32V x])))), (15, (.row 1 [[.p (words d ban)]]))] := by
 refine hcall_of_awp Try.func45 rfl (by simp [Try.ntmps45]) fun C hC => ?_
 refine awp_le (le_keep [0, 1]) ?_
 simp only [kp, argSl, simprocAttr]
 refine awp_sr [41] (by rw [hC]; rfl) fun k hk => ?_
 simp (maxSteps := 9^9) (disch := (try simp only [lens]); omega) only [argSl, sm, ↓amb, mark_eq, simprocAttr, dx, en47]
 repeat refine ⟨by first | omega | (simp; done) | (unfold maxLen; omega) | (simp [maxLen]; omega) | assumption, ?_⟩
 refine hk _ ?_; clear hk k
 refine awp_le (le_keep [0, 1]) ?_
 simp only [kp, argSl, simprocAttr]
 refine awp_sr [41] (by rw [hC]; rfl) fun k hk => ?_
 simp (maxSteps := 9^9) (disch := (try simp only [lens]); omega) only [argSl, sm, ↓amb, mark_eq, simprocAttr, en63, dx, en47]
 repeat refine ⟨by first | omega | (simp; done) | (unfold maxLen; omega) | (simp [maxLen]; omega) | assumption, ?_⟩
 refine callK_h (c_IndexFuncW d l ban hl hn) [7, 15] [7, 15] (by first | rfl | (simp only [hm]; done)) (by first | rfl | (simp [namesOk, lkp]; done)) ?_ ?_ ?_ ?_ ?_ ?_ ?_
 (iterate 6 (focus (first | trivial | (intro n hn; cases hn; done) | (simp (maxSteps := 9^9) (disch := (try simp only [lens]); omega) only [argSl, sm, ↓amb, mark_eq, simprocAttr, en63, dx, en47, hmx, List.filter_cons, Nat.reduceBNe, imp_self, implies_true]; done))))
 simp (maxSteps := 9^9) (disch := (try simp only [lens]); omega) only [argSl, sm, ↓amb, mark_eq, simprocAttr, en63, dx, en47, hm, List.filter_cons, List.filter_nil, Nat.reduceBNe, Option.map_none]
 repeat refine ⟨by first | omega | (simp; done) | (unfold maxLen; omega) | (simp [maxLen]; omega) | assumption, ?_⟩
 refine hk _ ?_; clear hk k
 refine awp_seq fun k1 h1 => ?_
 refine awp_le (le_keep [0, 1, 4, 5]) ?_
 simp only [kp, argSl, simprocAttr]
 refine awp_sr [41] (by rw [hC]; rfl) fun k hk => ?_
 simp (maxSteps := 9^9) (disch := (try simp only [lens]); omega) only [argSl, sm, ↓amb, mark_eq, simprocAttr, dx, en47]
 repeat refine ⟨by first | omega | (simp; done) | (unfold maxLen; omega) | (simp [maxLen]; omega) | assumption, ?_⟩
 refine hk _ ?_; clear hk k
 refine awp_cond rfl (fun hb => ?_) (fun hb => ?_)
 ·try simp only [hbx] at hb
  refine awp_le (le_keep [0]) ?_
  simp only [kp, argSl, simprocAttr]
  refine awp_sr [41] (by rw [hC]; rfl) fun k hk => ?_
  simp (maxSteps := 9^9) (disch := (try simp only [lens]); omega) only [argSl, sm, ↓amb, mark_eq, simprocAttr, dx, en47]
  repeat refine ⟨by first | omega | (simp; done) | (unfold maxLen; omega) | (simp [maxLen]; omega) | assumption, ?_⟩
  refine hk _ ?_; clear hk k
  refine awp_ret ?_
  have he : Pl.woL l ban = l := Pl.del_none hb
  rw [he]
  refine reth1 rfl rfl ?_
  exact le_of2 [(0, 7)] (by rfl) (by rfl) ⟨⟨_, rfl, .own rfl⟩, trivial⟩ ⟨⟨_, rfl, _, rfl, .liftE (rfl)⟩, ⟨_, rfl, _, rfl, .one (.cons (.p (.refl _)) (.nil))⟩, trivial⟩
 ·try simp only [hbx] at hb
  refine awp_skip ?_
  refine h1 _ ?_; clear h1 k1
  refine awp_seq fun k2 h2 => ?_
  refine awp_le (le_keep [0, 1, 4, 5]) ?_
  simp only [kp, argSl, simprocAttr]
  have hg := Pl.firstB_ge (Pl.hasL ban) l
  obtain ⟨i, hi⟩ : ∃ i : Nat, (Pl.firstB (Pl.hasL ban) l) = i := ⟨(Pl.firstB (Pl.hasL ban) l).toNat, by omega⟩
  obtain ⟨hs1, hs2⟩ := Pl.del_start hi
  rw [hi]
  refine awp_sr [41] (by rw [hC]; rfl) fun k hk => ?_
  simp (maxSteps := 9^9) (disch := (try simp only [lens]); omega) only [argSl, sm, ↓amb, mark_eq, simprocAttr, dx, en47]
  repeat refine ⟨by first | omega | (simp; done) | (unfold maxLen; omega) | (simp [maxLen]; omega) | assumption, ?_⟩
  refine hk _ ?_; clear hk k
  refine awp_block ?_
  refine awp_loop (σ := Nat × List Int) (fun x => x.1 ≤ l.length ∧ Pl.DelI (Pl.hasL ban) l x.2 x.1) (fun x => ⟨[(0, (.own 7)), (1, (.fn 47 [.ptr 15 1 0 0])), (5, (.p (iV ((Pl.cntD (Pl.hasL ban) l x.1) : Nat)))), (6, (.p (iV (x.1 : Nat))))], [(7, (.row 1 (lift (x.2.map fun x => [u32V x])))), (15, (.row 1 [[.p (words d ban)]]))], 1⟩) (fun x => l.length - x.1) (i + 1, l) ?_ ?_ fun x hx => ?_
  ·exact ⟨by have := (Pl.firstB_spec hi).1; dsimp only; omega, hs1⟩
  ·exact le_of [] (by rfl) (by rfl) ⟨⟨_, rfl, .own rfl⟩, ⟨_, rfl, .fn rfl (LeRow.cons (.ptr rfl) .nil).2⟩, ⟨_, rfl, .p (.of_eq (by first | rfl | (simp only [PV.lit.injEq, Value.int.injEq, true_and]; omega) | (simp; done) | (simp; omega)))⟩, ⟨_, rfl, .p (.of_eq (by first | rfl | (simp only [PV.lit.injEq, Value.int.injEq, true_and]; omega) | (simp; done) | (simp; omega)))⟩, trivial⟩ ⟨⟨_, rfl, _, rfl, .liftE (by first | rfl | (dsimp only; rw [List.map_set]; done) | trace_state)⟩, ⟨_, rfl, _, rfl, .one (.cons (.p (.refl _)) (.nil))⟩, trivial⟩
  obtain ⟨j, r⟩ := x
  obtain ⟨hx1, hx2⟩ := hx
  dsimp only at hx1 hx2 ⊢
  refine awp_seq fun k4 h4 => ?_
  refine awp_le (le_keep [0, 1, 4, 5, 6, 7, 15]) ?_
  simp only [kp, argSl, simprocAttr]
  refine awp_sr [41] (by rw [hC]; rfl) fun k hk => ?_
  simp (maxSteps := 9^9) (disch := (try simp only [lens]); omega) only [argSl, sm, ↓amb, mark_eq, simprocAttr, el22, dx, en47]
  repeat refine ⟨by first | omega | (simp; done) | (unfold maxLen; omega) | (simp [maxLen]; omega) | assumption, ?_⟩
  refine hk _ ?_; clear hk k
  refine awp_cond rfl (fun hb => ?_) (fun hb => ?_)
  ·try simp only [hbx] at hb
   refine awp_skip ?_
   refine h4 _ ?_; clear h4 k4
   refine awp_seq fun k5 h5 => ?_
   refine awp_block ?_
   refine awp_le (le_keep [0, 1, 4, 5, 6, 15]) ?_
   simp only [kp, argSl, simprocAttr]
   have hlt := hx2.lt
   have hlen := hx2.len
   refine awp_sr [41] (by rw [hC]; rfl) fun k hk => ?_
   simp (maxSteps := 9^9) (disch := (try simp only [lens]); omega) only [argSl, sm, ↓amb, mark_eq, simprocAttr, el22, sz41, dx, en47]
   repeat refine ⟨by first | omega | (simp; done) | (unfold maxLen; omega) | (simp [maxLen]; omega) | assumption, ?_⟩
   refine hk _ ?_; clear hk k
   refine awp_le (le_keep [0, 1, 4, 5, 6, 7, 15]) ?_
   simp only [kp, argSl, simprocAttr]
   refine awp_sr [41] (by rw [hC]; rfl) fun k hk => ?_
   simp (maxSteps := 9^9) (disch := (try simp only [lens]); omega) only [argSl, sm, ↓amb, mark_eq, simprocAttr, dx, en47]
   repeat refine ⟨by first | omega | (simp; done) | (unfold maxLen; omega) | (simp [maxLen]; omega) | assumption, ?_⟩
   refine callK_h (c_Without1 d ban _ hn) [15] [7] (by first | rfl | (simp only [hm]; done)) (by first | rfl | (simp [namesOk, lkp]; done)) ?_ ?_ ?_ ?_ ?_ ?_ ?_
   (iterate 6 (focus (first | trivial | (intro n hn; cases hn; done) | (simp (maxSteps := 9^9) (disch := (try simp only [lens]); omega) only [argSl, sm, ↓amb, mark_eq, simprocAttr, dx, en47, hmx, List.filter_cons, Nat.reduceBNe, imp_self, implies_true]; done))))
   simp (maxSteps := 9^9) (disch := (try simp only [lens]); omega) only [argSl, sm, ↓amb, mark_eq, simprocAttr, dx, en47, hm, List.filter_cons, List.filter_nil, Nat.reduceBNe, Option.map_none]
   repeat refine ⟨by first | omega | (simp; done) | (unfold maxLen; omega) | (simp [maxLen]; omega) | assumption, ?_⟩
   refine hk _ ?_; clear hk k
   refine awp_cond rfl (fun hb => ?_) (fun hb => ?_)
   ·try simp only [hbx] at hb
    refine awp_le (le_keep [0, 1, 4, 5, 6, 7, 15]) ?_
    simp only [kp, argSl, simprocAttr]
    have hlt := hx2.lt
    have hlen := hx2.len
    refine awp_sr [41] (by rw [hC]; rfl) fun k hk => ?_
    simp (maxSteps := 9^9) (disch := (try simp only [lens]); omega) only [argSl, sm, ↓amb, mark_eq, simprocAttr, el22, sz41, dx, en47]
    repeat refine ⟨by first | omega | (simp; done) | (unfold maxLen; omega) | (simp [maxLen]; omega) | assumption, ?_⟩
    refine hk _ ?_; clear hk k
    refine awp_region [41] (by rw [hC]; rfl) fun k hk => ?_
    simp (maxSteps := 9^9) (disch := (try simp only [lens]); omega) only [argSl, sm, ↓amb, mark_eq, simprocAttr, dx, en47]
    repeat refine ⟨by first | omega | (simp; done) | (unfold maxLen; omega) | (simp [maxLen]; omega) | assumption, ?_⟩
    refine hk _ ?_; clear hk k
    refine h5 _ ?_; clear h5 k5
    obtain ⟨hk1, hk2⟩ := hx2.keepI (by omega) hb
    refine awp_region [41] (by rw [hC]; rfl) fun k hk => ?_
    simp (maxSteps := 9^9) (disch := (try simp only [lens]); omega) only [argSl, sm, ↓amb, mark_eq, simprocAttr, dx, en47]
    repeat refine ⟨by first | omega | (simp; done) | (unfold maxLen; omega) | (simp [maxLen]; omega) | assumption, ?_⟩
    refine hk _ ?_; clear hk k
    refine ⟨(j + 1, r.set (Pl.cntD (Pl.hasL ban) l j) (r.getD j 0)), ⟨by dsimp only; omega, hk1⟩, le_of [] (by rfl) (by rfl) ⟨⟨_, rfl, .own rfl⟩, ⟨_, rfl, .fn rfl (LeRow.cons (.ptr rfl) .nil).2⟩, ⟨_, rfl, .p (.of_eq (by first | rfl | (simp only [PV.lit.injEq, Value.int.injEq, true_and]; omega) | (simp; done) | (simp; omega)))⟩, ⟨_, rfl, .p (.of_eq (by first | rfl | (simp only [PV.lit.injEq, Value.int.injEq, true_and]; omega) | (simp; done) | (simp; omega)))⟩, trivial⟩ ⟨⟨_, rfl, _, rfl, .liftE (by first | rfl | (dsimp only; rw [List.map_set]; done) | trace_state)⟩, ⟨_, rfl, _, rfl, .one (.cons (.p (.refl _)) (.nil))⟩, trivial⟩, (by dsimp only; omega)⟩
   ·try simp only [hbx] at hb
    refine awp_skip ?_
    refine h5 _ ?_; clear h5 k5
    obtain ⟨hk1, hk2⟩ := hx2.skipI (by omega) hb
    refine awp_region [41] (by rw [hC]; rfl) fun k hk => ?_
    simp (maxSteps := 9^9) (disch := (try simp only [lens]); omega) only [argSl, sm, ↓amb, mark_eq, simprocAttr, dx, en47]
    repeat refine ⟨by first | omega | (simp; done) | (unfold maxLen; omega) | (simp [maxLen]; omega) | assumption, ?_⟩
    refine hk _ ?_; clear hk k
    refine ⟨(j + 1, r), ⟨by dsimp only; omega, hk1⟩, le_of [] (by rfl) (by rfl) ⟨⟨_, rfl, .own rfl⟩, ⟨_, rfl, .fn rfl (LeRow.cons (.ptr rfl) .nil).2⟩, ⟨_, rfl, .p (.of_eq (by first | rfl | (simp only [PV.lit.injEq, Value.int.injEq, true_and]; omega) | (simp; done) | (simp; omega)))⟩, ⟨_, rfl, .p (.of_eq (by first | rfl | (simp only [PV.lit.injEq, Value.int.injEq, true_and]; omega) | (simp; done) | (simp; omega)))⟩, trivial⟩ ⟨⟨_, rfl, _, rfl, .liftE (by first | rfl | (dsimp only; rw [List.map_set]; done) | trace_state)⟩, ⟨_, rfl, _, rfl, .one (.cons (.p (.refl _)) (.nil))⟩, trivial⟩, (by dsimp only; omega)⟩
  ·try simp only [hbx] at hb
   refine awp_exit ((if_pos rfl).mpr ?_)
   refine h2 _ ?_; clear h4 k4; clear h2 k2
   refine awp_le (le_keep [0, 5]) ?_
   simp only [kp, argSl, simprocAttr]
   have hlen := hx2.len
   obtain rfl : j = l.length := by omega
   have hcl := Pl.cntD_le (Pl.hasL ban) l l.length
   refine awp_sr [41] (by rw [hC]; rfl) fun k hk => ?_
   simp (maxSteps := 9^9) (disch := (try simp only [lens]); omega) only [argSl, sm, ↓amb, mark_eq, simprocAttr, el22, sz41, vr41, dx, en47]
   repeat refine ⟨by first | omega | (simp; done) | (unfold maxLen; omega) | (simp [maxLen]; omega) | assumption, ?_⟩
   refine hk _ ?_; clear hk k
   refine awp_le (le_keep [0, 5]) ?_
   simp only [kp, argSl, simprocAttr]
   refine awp_sr [41] (by rw [hC]; rfl) fun k hk => ?_
   simp (maxSteps := 9^9) (disch := (try simp only [lens]); omega) only [argSl, sm, ↓amb, mark_eq, simprocAttr, el22, sz41, dx, en47]
   repeat refine ⟨by first | omega | (simp; done) | (unfold maxLen; omega) | (simp [maxLen]; omega) | assumption, ?_⟩
   refine hk _ ?_; clear hk k
   refine awp_ret ?_
   have he := hx2.all
   rw [show Pl.woL l ban = _ from he.symm]
   refine reth1 rfl rfl ?_
   exact le_of2 [(0, _)] (by rfl) (by rfl) ⟨⟨_, rfl, .own rfl⟩, trivial⟩ ⟨⟨_, rfl, _, rfl, (by rw [take_liftA (by rw [List.length_map, List.length_take]; omega)]; exact .liftE rfl)⟩, ⟨_, rfl, _, rfl, .one (.cons (.p (.refl _)) (.nil))⟩, trivial⟩
set_option maxHeartbeats 4000000 in
theorem c_CloneW (c : Bool) (l : List Int) (hl : l.length ≤ 1000000) : OCall Try.prog 46 [words c l] 1 (l.map fun x => [u32V x]) := by
 refine ocall_of_awp Try.func46 rfl (by simp [Try.ntmps46]) fun C hC => ?_
 refine awp_sr [7] (by rw [hC]; rfl) fun k hk => ?_
 simp (maxSteps := 9^9) (disch := (try simp only [lens]); omega) only [argSl, sm, ↓amb, mark_eq, simprocAttr, dx]
 repeat refine ⟨by first | omega | (simp; done) | (unfold maxLen; omega) | (simp [maxLen]; omega) | assumption, ?_⟩
 refine hk _ ?_; clear hk k
 refine awp_seq fun k1 h1 => ?_
 refine awp_nil 41 (of_decide_eq_true (by rw [hC]; rfl)) (of_decide_eq_true (by rw [hC]; rfl)) el22 rfl fun bq1 hq1 => ?_
 refine awp_cond rfl (fun hb => ?_) (fun hb => ?_)
 ·try simp only [hbx] at hb
  have he := hq1 hb
  refine awp_sr [7] (by rw [hC]; rfl) fun k hk => ?_
  simp (maxSteps := 9^9) (disch := (try simp only [lens]); omega) only [argSl, sm, ↓amb, mark_eq, simprocAttr, dx]
  repeat refine ⟨by first | omega | (simp; done) | (unfold maxLen; omega) | (simp [maxLen]; omega) | assumption, ?_⟩
  refine hk _ ?_; clear hk k
  refine awp_ret ?_
  exact reton (by rw [he]) rfl rfl
 ·try simp only [hbx] at hb
  refine awp_skip ?_
  refine h1 _ ?_; clear h1 k1
  refine awp_sr [7] (by rw [hC]; rfl) fun k hk => ?_
  simp (maxSteps := 9^9) (disch := (try simp only [lens]); omega) only [argSl, sm, ↓amb, mark_eq, simprocAttr, el22, vr41, by41, dx]
  repeat refine ⟨by first | omega | (simp; done) | (unfold maxLen; omega) | (simp [maxLen]; omega) | assumption, ?_⟩
  refine hk _ ?_; clear hk k
  refine awp_ret ?_
  refine reto1 rfl rfl ?_
  rfl
set_option maxHeartbeats 4000000 in
theorem c_dedup_Without (c d : Bool) (l ban : List Int) (hl : l.length ≤ 1000000) (hn : ban.length ≤ 1000000) : PCall Try.prog 26 [words c l, words d ban] (words false (Pl.woL l ban)) := by
 refine pcall_of_awp Try.func26 rfl (by simp [Try.ntmps26]) fun C hC => ?_
 refine awp_le (le_keep [0, 1]) ?_
 simp only [kp, argSl, simprocAttr]
 refine awp_sr [] (by rw [hC]; rfl) fun k hk => ?_
 simp (maxSteps := 9^9) (disch := (try simp only [lens]); omega) only [argSl, sm, ↓amb, mark_eq, simprocAttr, dx]
 repeat refine ⟨by first | omega | (simp; done) | (unfold maxLen; omega) | (simp [maxLen]; omega) | assumption, ?_⟩
 refine hk _ ?_; clear hk k
 refine awp_le (le_keep [0, 3]) ?_
 simp only [kp, argSl, simprocAttr]
 refine awp_sr [] (by rw [hC]; rfl) fun k hk => ?_
 simp (maxSteps := 9^9) (disch := (try simp only [lens]); omega) only [argSl, sm, ↓amb, mark_eq, simprocAttr, en46, en45, dx]
 repeat refine ⟨by first | omega | (simp; done) | (unfold maxLen; omega) | (simp [maxLen]; omega) | assumption, ?_⟩
 refine callK_o (c_CloneW c l hl) rfl ?_
 simp (maxSteps := 9^9) (disch := (try simp only [lens]); omega) only [argSl, sm, ↓amb, mark_eq, simprocAttr, en46, en45, dx]
 repeat refine ⟨by first | omega | (simp; done) | (unfold maxLen; omega) | (simp [maxLen]; omega) | assumption, ?_⟩
 refine callK_h (c_DeleteFuncW d l ban hl hn) [24, 0] [15] (by first | rfl | (simp only [hm]; done)) (by first | rfl | (simp [namesOk, lkp]; done)) ?_ ?_ ?_ ?_ ?_ ?_ ?_
 (iterate 6 (focus (first | trivial | (intro n hn; cases hn; done) | (simp (maxSteps := 9^9) (disch := (try simp only [lens]); omega) only [argSl, sm, ↓amb, mark_eq, simprocAttr, en46, en45, dx, hmx, List.filter_cons, Nat.reduceBNe, imp_self, implies_true]; done))))
 simp (maxSteps := 9^9) (disch := (try simp only [lens]); omega) only [argSl, sm, ↓amb, mark_eq, simprocAttr, en46, en45, dx, hm, List.filter_cons, List.filter_nil, Nat.reduceBNe, Option.map_none]
 repeat refine ⟨by first | omega | (simp; done) | (unfold maxLen; omega) | (simp [maxLen]; omega) | assumption, ?_⟩
 refine hk _ ?_; clear hk k
 refine awp_ret ?_
 refine ret1 rfl rfl ?_
 exact .ownE rfl rfl
end Go.Proofs.Ytbehekmnccoifaa
end
section
set_option linter.unusedSimpArgs false
set_option linter.unusedVariables false
set_option maxRecDepth 100000
namespace Go.Proofs.Ytbehekmnccoifaa
open Go.Am Go.Proofs
theorem bt59 : tBuilt Try.prog 59 = true := by kernel_rfl
theorem it3 : tInt Try.prog 3 = some .i64 := by kernel_rfl
theorem it82 : tInt Try.prog 82 = some .u16 := by kernel_rfl
theorem pl59_0 : tPlace Try.prog 59 0 = some (0, 1) := by kernel_rfl
theorem pl59_1 : tPlace Try.prog 59 1 = some (1, 1) := by kernel_rfl
theorem sz59 : tSz Try.prog 59 = some (true, 2) := by kernel_rfl
theorem un41 : (Try.prog.underlying 41).isSome = true := by kernel_rfl
theorem un82 : (Try.prog.underlying 82).isSome = true := by kernel_rfl
theorem vr59 : tVar Try.prog 59 = some (true, [.lit (.int .i64 0), .lit (.int .i64 0)]) := by kernel_rfl
set_option maxHeartbeats 4000000 in
theorem c_dedup_Edge (k : Int) (hk' : Pl.W32 k) : PCall Try.prog 32 [u32V k] (.agg (edgeC (Pl.unkey k))) := by
 refine pcall_of_awp Try.func32 rfl (by simp [Try.ntmps32]) fun C hC => ?_
 refine awp_le (le_keep [0]) ?_
 simp only [kp, argSl, simprocAttr]
 refine awp_sr [] (by rw [hC]; rfl) fun k hk => ?_
 simp (maxSteps := 9^9) (disch := (try simp only [lens]); omega) only [argSl, sm, ↓amb, mark_eq, simprocAttr, vr59, wr_u32, dx]
 repeat refine ⟨by first | omega | (simp; done) | (unfold maxLen; omega) | (simp [maxLen]; omega) | assumption, ?_⟩
 refine hk _ ?_; clear hk k
 refine awp_le (le_keep [0, 2]) ?_
 simp only [kp, argSl, simprocAttr]
 refine awp_sr [] (by rw [hC]; rfl) fun k hk => ?_
 simp (maxSteps := 9^9) (disch := (try simp only [lens]); omega) only [argSl, sm, ↓amb, mark_eq, simprocAttr, it3, un41, it82, un82, vr59, bt59, pl59_0, pl59_1, sz59, wr_u32, dx]
 repeat refine ⟨by first | omega | (simp; done) | (unfold maxLen; omega) | (simp [maxLen]; omega) | assumption, ?_⟩
 refine hk _ ?_; clear hk k
 refine awp_ret ?_
 have u1 : (2 : Int) ^ min 16 IntKind.u32.bits = 65536 := by decide
 have u2 := wrap64_of (x := k / 65536) (by omega) (by omega)
 have u3 := wrap64_of (x := k % 65536) (by omega) (by omega)
 refine retone rfl (retc rfl sz59 ?_)
 simp (maxSteps := 9^9) (disch := (try simp only [lens]); omega) only [argSl, sm, ↓amb, mark_eq, simprocAttr, sz59, wr_u32, dx]
 refine .p (LeP.of_eq ?_)
 first | (rw [u1, u2]; first | done | rfl | (rw [wr_u16, u3]; rfl)) | (show PV.agg [iV _, iV _] = PV.agg [iV (k / 65536), iV (k % 65536)]; rw [show k / 65536 % 4294967296 = k / 65536 from by omega]) | trace_state
end Go.Proofs.Ytbehekmnccoifaa
end
section
set_option linter.unusedSimpArgs false
set_option linter.unusedVariables false
set_option maxRecDepth 100000
namespace Go.Proofs.Ytbehekmnccoifaa
open Go.Am Go.Proofs
theorem el53 : tEl Try.prog 53 = some 59 := by kernel_rfl
theorem ff59 : tFlat Try.prog 59 = some [some .i64, some .i64] := by kernel_rfl
set_option maxHeartbeats 4000000 in
theorem c_ref11_Same (c d : Bool) (a b : List Pl.Edge) (ha : a.length ≤ 1000000) : PCall Try.prog 34 [.seq c (a.map edgeC), .seq d (b.map edgeC)] (bV (decide (a = b))) := by
 refine pcall_of_awp Try.func34 rfl (by simp [Try.ntmps34]) fun C hC => ?_
 refine awp_le (le_keep [0, 1]) ?_
 simp only [kp, argSl, simprocAttr]
 refine awp_sr [] (by rw [hC]; rfl) fun k hk => ?_
 simp (maxSteps := 9^9) (disch := (try simp only [lens]); omega) only [argSl, sm, ↓amb, mark_eq, simprocAttr, dx]
 repeat refine ⟨by first | omega | (simp; done) | (unfold maxLen; omega) | (simp [maxLen]; omega) | assumption, ?_⟩
 refine hk _ ?_; clear hk k
 refine awp_seq fun k1 h1 => ?_
 refine awp_le (le_keep [0, 1, 4]) ?_
 simp only [kp, argSl, simprocAttr]
 refine awp_sr [] (by rw [hC]; rfl) fun k hk => ?_
 simp (maxSteps := 9^9) (disch := (try simp only [lens]); omega) only [argSl, sm, ↓amb, mark_eq, simprocAttr, el53, dx]
 repeat refine ⟨by first | omega | (simp; done) | (unfold maxLen; omega) | (simp [maxLen]; omega) | assumption, ?_⟩
 refine hk _ ?_; clear hk k
 refine awp_cond rfl (fun hb => ?_) (fun hb => ?_)
 ·try simp only [hbx] at hb
  refine awp_le (le_keep []) ?_
  simp only [kp, argSl, simprocAttr]
  refine awp_sr [] (by rw [hC]; rfl) fun k hk => ?_
  simp (maxSteps := 9^9) (disch := (try simp only [lens]); omega) only [argSl, sm, ↓amb, mark_eq, simprocAttr, dx]
  repeat refine ⟨by first | omega | (simp; done) | (unfold maxLen; omega) | (simp [maxLen]; omega) | assumption, ?_⟩
  refine hk _ ?_; clear hk k
  refine awp_ret ?_
  refine ret1 rfl rfl ?_
  exact .p (LeP.of_eq (by rw [decide_eq_false (fun e => hb (by rw [e]))]))
 ·try simp only [hbx] at hb
  refine awp_skip ?_
  refine h1 _ ?_; clear h1 k1
  refine awp_seq fun k2 h2 => ?_
  refine awp_le (le_keep [0, 1, 4]) ?_
  simp only [kp, argSl, simprocAttr]
  have hab : a.length = b.length := by omega
  refine awp_sr [] (by rw [hC]; rfl) fun k hk => ?_
  simp (maxSteps := 9^9) (disch := (try simp only [lens]); omega) only [argSl, sm, ↓amb, mark_eq, simprocAttr, dx]
  repeat refine ⟨by first | omega | (simp; done) | (unfold maxLen; omega) | (simp [maxLen]; omega) | assumption, ?_⟩
  refine hk _ ?_; clear hk k
  refine awp_block ?_
  refine awp_loop (σ := Nat) (fun i => i ≤ a.length ∧ ∀ j, j < i → a.getD j default = b.getD j default) (fun (i : Nat) => ⟨[(0, (.p (.seq c (a.map edgeC)))), (1, (.p (.seq d (b.map edgeC)))), (5, (.p (iV i)))], [], 1⟩) (fun i => a.length - i) 0 ?_ ?_ fun i hi => ?_
  ·exact ⟨Nat.zero_le _, fun j hj => by omega⟩
  ·exact le_of [] (by rfl) (by rfl) ⟨⟨_, rfl, .p (.of_eq (by first | rfl | (simp only [PV.lit.injEq, Value.int.injEq, true_and]; omega) | (simp; done) | (simp; omega)))⟩, ⟨_, rfl, .p (.of_eq (by first | rfl | (simp only [PV.lit.injEq, Value.int.injEq, true_and]; omega) | (simp; done) | (simp; omega)))⟩, ⟨_, rfl, .p (.of_eq (by first | rfl | (simp only [PV.lit.injEq, Value.int.injEq, true_and]; omega) | (simp; done) | (simp; omega)))⟩, trivial⟩ trivial
  obtain ⟨hi1, hi2⟩ := hi
  refine awp_seq fun k4 h4 => ?_
  refine awp_le (le_keep [0, 1, 4, 5]) ?_
  simp only [kp, argSl, simprocAttr]
  refine awp_sr [] (by rw [hC]; rfl) fun k hk => ?_
  simp (maxSteps := 9^9) (disch := (try simp only [lens]); omega) only [argSl, sm, ↓amb, mark_eq, simprocAttr, el53, dx]
  repeat refine ⟨by first | omega | (simp; done) | (unfold maxLen; omega) | (simp [maxLen]; omega) | assumption, ?_⟩
  refine hk _ ?_; clear hk k
  refine awp_cond rfl (fun hb => ?_) (fun hb => ?_)
  ·try simp only [hbx] at hb
   refine awp_skip ?_
   refine h4 _ ?_; clear h4 k4
   refine awp_seq fun k5 h5 => ?_
   refine awp_block ?_
   refine awp_testD [] ⟨[0, 0, 3, 7, 0, 0, 48, 112, 255], [3, 7], [], [], some []⟩ 25 (decide (¬ a.getD i default = b.getD i default)) [0, 1, 4, 5] (by rw [hC]; rfl) (by kernel_rfl) (by kernel_rfl) (fun gd hgd k hk => ?_) ?_
   ·clear hgd
    simp (maxSteps := 9^9) (disch := (try simp only [lens]); omega) only [argSl, sm, ↓amb, mark_eq, simprocAttr, el53, sz59, ff59, gcase_undef, dx]
    repeat' first | refine hk _ _ rfl rfl rfl rfl ?_ | (refine gsplit (fun hg => ?_) (fun hg => ?_) <;> (try simp only [hbx] at hg) <;> simp (maxSteps := 9^9) (disch := (try simp only [lens]); omega) only [argSl, sm, ↓amb, mark_eq, simprocAttr, el53, sz59, ff59, gcase_undef, dx]) | apply And.intro | fail
    all_goals first | rfl | omega | exact (decide_eq_true (by omega)).symm | exact (decide_eq_false (by omega)).symm | exact decide_eq_decide.mpr (by omega) | (refine Bool.eq_iff_iff.mpr ?_; simp only [beq_iff_eq, bne_iff_ne, ne_eq, decide_eq_true_eq]; omega) | (refine Bool.eq_iff_iff.mpr ?_; simp only [Bool.not_eq_true', Bool.not_eq_false', decide_eq_false_iff_not, decide_eq_true_eq, beq_iff_eq, bne_iff_ne, ne_eq]; omega) | assumption | (simp; done) | (simp [maxLen]; omega) | skip
    all_goals exact Pl.edge_ne _ _
   simp only [kp, argSl, simprocAttr, List.length_cons, List.length_nil]
   refine awp_cond rfl (fun hb => ?_) (fun hb => ?_)
   ·try simp only [hbx] at hb
    refine awp_le (le_keep []) ?_
    simp only [kp, argSl, simprocAttr]
    refine awp_sr [] (by rw [hC]; rfl) fun k hk => ?_
    simp (maxSteps := 9^9) (disch := (try simp only [lens]); omega) only [argSl, sm, ↓amb, mark_eq, simprocAttr, dx]
    repeat refine ⟨by first | omega | (simp; done) | (unfold maxLen; omega) | (simp [maxLen]; omega) | assumption, ?_⟩
    refine hk _ ?_; clear hk k
    refine awp_ret ?_
    refine ret1 rfl rfl ?_
    exact .p (LeP.of_eq (by rw [decide_eq_false (fun e => hb (by rw [e]))]))
   ·try simp only [hbx] at hb
    refine awp_skip ?_
    refine h5 _ ?_; clear h5 k5
    refine awp_region [] (by rw [hC]; rfl) fun k hk => ?_
    simp (maxSteps := 9^9) (disch := (try simp only [lens]); omega) only [argSl, sm, ↓amb, mark_eq, simprocAttr, dx]
    repeat refine ⟨by first | omega | (simp; done) | (unfold maxLen; omega) | (simp [maxLen]; omega) | assumption, ?_⟩
    refine hk _ ?_; clear hk k
    refine ⟨i + 1, ⟨by omega, fun j hj => by by_cases e : j = i; (subst e; first | exact hb | exact Decidable.not_not.1 hb); exact hi2 j (by omega)⟩, le_of [] (by rfl) (by rfl) ⟨⟨_, rfl, .p (.of_eq (by first | rfl | (simp only [PV.lit.injEq, Value.int.injEq, true_and]; omega) | (simp; done) | (simp; omega)))⟩, ⟨_, rfl, .p (.of_eq (by first | rfl | (simp only [PV.lit.injEq, Value.int.injEq, true_and]; omega) | (simp; done) | (simp; omega)))⟩, ⟨_, rfl, .p (.of_eq (by first | rfl | (simp only [PV.lit.injEq, Value.int.injEq, true_and]; omega) | (simp; done) | (simp; omega)))⟩, trivial⟩ trivial, by omega⟩
  ·try simp only [hbx] at hb
   refine awp_exit ((if_pos rfl).mpr ?_)
   refine h2 _ ?_; clear h4 k4; clear h2 k2
   refine awp_le (le_keep []) ?_
   simp only [kp, argSl, simprocAttr]
   refine awp_sr [] (by rw [hC]; rfl) fun k hk => ?_
   simp (maxSteps := 9^9) (disch := (try simp only [lens]); omega) only [argSl, sm, ↓amb, mark_eq, simprocAttr, dx]
   repeat refine ⟨by first | omega | (simp; done) | (unfold maxLen; omega) | (simp [maxLen]; omega) | assumption, ?_⟩
   refine hk _ ?_; clear hk k
   refine awp_ret ?_
   refine ret1 rfl rfl ?_
   exact .p (LeP.of_eq (by rw [decide_eq_true (Pl.edges_of hab (by omega) hi2)]))
end Go.Proofs.Ytbehekmnccoifaa
end
section
set_option linter.unusedSimpArgs false
set_option linter.unusedVariables false
set_option maxRecDepth 100000
namespace Go.Proofs.Ytbehekmnccoifaa
open Go.Am Go.Proofs
theorem awp_regiong {P : Program} {C : Ctx} {K : Exit → LS → Prop} {s : LS} {id : Nat} {l : List Oper} (H : List Nat) (hf : inFrame C.n l.toArray = true)
    (h : ∀ gd, gd = gdOf l.toArray → ∀ k : LS → Prop, (∀ s', K .normal s' → k s') → aops P H gd (fun s' => k ⟨s'.sl, s'.hp, s'.nx + l.length⟩) 0 l s) : Awp P C (.region id l.toArray false) K s := awp_region H hf (h _ rfl)
set_option maxHeartbeats 4000000 in
theorem c_dedup_firsts (c : Bool) (l : List Int) (hl : ∀ x, x ∈ l → Pl.W32 x) (hn : l.length ≤ 1000000) : PCall Try.prog 43 [words c l] (.seq false ((Pl.firstsL l).map fun q => [bV q])) := by
 refine pcall_of_awp Try.func43 rfl (by simp [Try.ntmps43]) fun C hC => ?_
 refine awp_le (le_keep [0]) ?_
 simp only [kp, argSl, simprocAttr]
 refine awp_sr [] (by rw [hC]; rfl) fun k hk => ?_
 simp (maxSteps := 9^9) (disch := (try simp only [lens]); omega) only [argSl, sm, ↓amb, mark_eq, simprocAttr, dx]
 repeat refine ⟨by first | omega | (simp; done) | (unfold maxLen; omega) | (simp [maxLen]; omega) | assumption, ?_⟩
 refine hk _ ?_; clear hk k
 refine awp_le (le_keep [0]) ?_
 simp only [kp, argSl, simprocAttr]
 refine awp_sr [] (by rw [hC]; rfl) fun k hk => ?_
 simp (maxSteps := 9^9) (disch := (try simp only [lens]); omega) only [argSl, sm, ↓amb, mark_eq, simprocAttr, el22, el23, by4, vr4, dx]
 repeat refine ⟨by first | omega | (simp; done) | (unfold maxLen; omega) | (simp [maxLen]; omega) | assumption, ?_⟩
 refine hk _ ?_; clear hk k
 refine awp_seq fun k1 h1 => ?_
 refine awp_le (le_keep [0, 2, 3]) ?_
 simp only [kp, argSl, simprocAttr]
 refine awp_sr [] (by rw [hC]; rfl) fun k hk => ?_
 simp (maxSteps := 9^9) (disch := (try simp only [lens]); omega) only [argSl, sm, ↓amb, mark_eq, simprocAttr, el22, dx]
 repeat refine ⟨by first | omega | (simp; done) | (unfold maxLen; omega) | (simp [maxLen]; omega) | assumption, ?_⟩
 refine hk _ ?_; clear hk k
 refine awp_block ?_
 refine awp_loop (σ := Nat) (fun i => i ≤ l.length) (fun (i : Nat) => ⟨[(0, (.p (words c l))), (3, (.own 0)), (9, (.p (words c l))), (10, (.p (iV l.length))), (11, (.p (iV (i : Int))))], [(0, (.row 1 (lift ((Pl.firT l i).map fun q => [bV q]))))], 1⟩) (fun i => l.length - i) 0 ?_ ?_ fun i hi => ?_
 ·exact Nat.zero_le _
 ·exact le_of [(0, _)] (by rfl) (by rfl) ⟨⟨_, rfl, .p (.of_eq (by first | rfl | (simp only [PV.lit.injEq, Value.int.injEq, true_and]; omega) | (simp; done) | (simp; omega)))⟩, ⟨_, rfl, .own rfl⟩, ⟨_, rfl, .p (.of_eq (by first | rfl | (simp only [PV.lit.injEq, Value.int.injEq, true_and]; omega) | (simp; done) | (simp; omega)))⟩, ⟨_, rfl, .p (.of_eq (by first | rfl | (simp only [PV.lit.injEq, Value.int.injEq, true_and]; omega) | (simp; done) | (simp; omega)))⟩, ⟨_, rfl, .p (.of_eq (by first | rfl | (simp only [PV.lit.injEq, Value.int.injEq, true_and]; omega) | (simp; done) | (simp; omega)))⟩, trivial⟩ ⟨⟨_, rfl, _, rfl, .liftE (by first | (rw [Pl.firT_0, List.map_replicate]; done) | (rw [← Pl.firT_set, List.map_set, z1 (by omega)]; first | done | rfl) | (rw [← Pl.firT_set, List.map_set, z2 (by omega), ← z3]; first | done | rfl) | trace_state)⟩, trivial⟩
 refine awp_le (le_keep [0, 2, 3, 9, 10, 11]) ?_
 simp only [kp, argSl, simprocAttr]
 refine awp_sr [] (by rw [hC]; rfl) fun k hk => ?_
 simp (maxSteps := 9^9) (disch := (try simp only [lens]); omega) only [argSl, sm, ↓amb, mark_eq, simprocAttr, dx]
 repeat refine ⟨by first | omega | (simp; done) | (unfold maxLen; omega) | (simp [maxLen]; omega) | assumption, ?_⟩
 refine hk _ ?_; clear hk k
 refine awp_seq fun k3 h3 => ?_
 refine awp_cond rfl (fun hb => ?_) (fun hb => ?_)
 ·try simp only [hbx] at hb
  refine awp_skip ?_
  refine h3 _ ?_; clear h3 k3
  refine awp_seq fun k4 h4 => ?_
  refine awp_block ?_
  refine awp_le (le_keep [0, 2, 3, 9, 10, 11]) ?_
  simp only [kp, argSl, simprocAttr]
  refine awp_sr [] (by rw [hC]; rfl) fun k hk => ?_
  simp (maxSteps := 9^9) (disch := (try simp only [lens]); omega) only [argSl, sm, ↓amb, mark_eq, simprocAttr, el22, sz41, dx]
  repeat refine ⟨by first | omega | (simp; done) | (unfold maxLen; omega) | (simp [maxLen]; omega) | assumption, ?_⟩
  refine hk _ ?_; clear hk k
  have zl := Pl.firT_len l i
  have z1 := fun h => Pl.firB_0 (l := l) (i := i) h
  have z2 := fun h => Pl.firB_1 (l := l) (i := i) h
  have z3 : ((i : Int) - 1).toNat = i - 1 := by omega
  refine awp_regiong [] (by rw [hC]; rfl) fun gd hgd k hk => ?_
  have g4 : gd 4 = some 20 := by rw [hgd]; rfl
  clear hgd
  simp (maxSteps := 9^9) (disch := (try simp only [lens]); omega) only [argSl, sm, ↓amb, mark_eq, simprocAttr, el22, sz41, el23, sz4, g4, a07, dx]
  repeat refine ⟨by first | omega | (simp; done) | (unfold maxLen; omega) | (simp [maxLen]; omega) | assumption, ?_⟩
  refine ⟨fun hg => ?_, fun hg => ?_⟩
  ·try simp only [hbx] at hg
   repeat refine ⟨by first | omega | (simp; done) | (unfold maxLen; omega) | (simp [maxLen]; omega) | assumption, ?_⟩
   refine hk _ ?_; clear hk k
   refine h4 _ ?_; clear h4 k4
   refine awp_region [] (by rw [hC]; rfl) fun k hk => ?_
   simp (maxSteps := 9^9) (disch := (try simp only [lens]); omega) only [argSl, sm, ↓amb, mark_eq, simprocAttr, dx]
   repeat refine ⟨by first | omega | (simp; done) | (unfold maxLen; omega) | (simp [maxLen]; omega) | assumption, ?_⟩
   refine hk _ ?_; clear hk k
   refine ⟨i + 1, by omega, le_of [(0, _)] (by rfl) (by rfl) ⟨⟨_, rfl, .p (.of_eq (by first | rfl | (simp only [PV.lit.injEq, Value.int.injEq, true_and]; omega) | (simp; done) | (simp; omega)))⟩, ⟨_, rfl, .own rfl⟩, ⟨_, rfl, .p (.of_eq (by first | rfl | (simp only [PV.lit.injEq, Value.int.injEq, true_and]; omega) | (simp; done) | (simp; omega)))⟩, ⟨_, rfl, .p (.of_eq (by first | rfl | (simp only [PV.lit.injEq, Value.int.injEq, true_and]; omega) | (simp; done) | (simp; omega)))⟩, ⟨_, rfl, .p (.of_eq (by first | rfl | (simp only [PV.lit.injEq, Value.int.injEq, true_and]; omega) | (simp; done) | (simp; omega)))⟩, trivial⟩ ⟨⟨_, rfl, _, rfl, .liftE (by first | (rw [Pl.firT_0, List.map_replicate]; done) | (rw [← Pl.firT_set, List.map_set, z1 (by omega)]; first | done | rfl) | (rw [← Pl.firT_set, List.map_set, z2 (by omega), ← z3]; first | done | rfl) | trace_state)⟩, trivial⟩, by omega⟩
  ·try simp only [hbx] at hg
   repeat refine ⟨by first | omega | (simp; done) | (unfold maxLen; omega) | (simp [maxLen]; omega) | assumption, ?_⟩
   refine hk _ ?_; clear hk k
   refine h4 _ ?_; clear h4 k4
   refine awp_region [] (by rw [hC]; rfl) fun k hk => ?_
   simp (maxSteps := 9^9) (disch := (try simp only [lens]); omega) only [argSl, sm, ↓amb, mark_eq, simprocAttr, dx]
   repeat refine ⟨by first | omega | (simp; done) | (unfold maxLen; omega) | (simp [maxLen]; omega) | assumption, ?_⟩
   refine hk _ ?_; clear hk k
   refine ⟨i + 1, by omega, le_of [(0, _)] (by rfl) (by rfl) ⟨⟨_, rfl, .p (.of_eq (by first | rfl | (simp only [PV.lit.injEq, Value.int.injEq, true_and]; omega) | (simp; done) | (simp; omega)))⟩, ⟨_, rfl, .own rfl⟩, ⟨_, rfl, .p (.of_eq (by first | rfl | (simp only [PV.lit.injEq, Value.int.injEq, true_and]; omega) | (simp; done) | (simp; omega)))⟩, ⟨_, rfl, .p (.of_eq (by first | rfl | (simp only [PV.lit.injEq, Value.int.injEq, true_and]; omega) | (simp; done) | (simp; omega)))⟩, ⟨_, rfl, .p (.of_eq (by first | rfl | (simp only [PV.lit.injEq, Value.int.injEq, true_and]; omega) | (simp; done) | (simp; omega)))⟩, trivial⟩ ⟨⟨_, rfl, _, rfl, .liftE (by first | (rw [Pl.firT_0, List.map_replicate]; done) | (rw [← Pl.firT_set, List.map_set, z1 (by omega)]; first | done | rfl) | (rw [← Pl.firT_set, List.map_set, z2 (by omega), ← z3]; first | done | rfl) | trace_state)⟩, trivial⟩, by omega⟩
 ·try simp only [hbx] at hb
  refine awp_exit ((if_pos rfl).mpr ?_)
  refine h1 _ ?_; clear h3 k3; clear h1 k1
  refine awp_le (le_keep [3]) ?_
  simp only [kp, argSl, simprocAttr]
  obtain rfl : i = l.length := by omega
  rw [Pl.firT_end]
  refine awp_sr [] (by rw [hC]; rfl) fun k hk => ?_
  simp (maxSteps := 9^9) (disch := (try simp only [lens]); omega) only [argSl, sm, ↓amb, mark_eq, simprocAttr, dx]
  repeat refine ⟨by first | omega | (simp; done) | (unfold maxLen; omega) | (simp [maxLen]; omega) | assumption, ?_⟩
  refine hk _ ?_; clear hk k
  refine awp_ret ?_
  refine ret1 rfl rfl ?_
  exact .ownE rfl rfl
end Go.Proofs.Ytbehekmnccoifaa
end
section
set_option linter.unusedSimpArgs false
set_option linter.unusedVariables false
set_option maxRecDepth 100000
namespace Go.Proofs.Ytbehekmnccoifaa
open Go.Am Go.Proofs
theorem en23 : enters Try.prog 23 = true := by kernel_rfl
theorem en41 : enters Try.prog 41 = true := by kernel_rfl
theorem en42 : enters Try.prog 42 = true := by kernel_rfl
theorem en43 : enters Try.prog 43 = true := by kernel_rfl
theorem fl47_0 : tFld Try.prog 47 0 = some (0, 1, false) := by kernel_rfl
theorem fl47_1 : tFld Try.prog 47 1 = some (1, 1, false) := by kernel_rfl
theorem fl47_2 : tFld Try.prog 47 2 = some (2, 3, true) := by kernel_rfl
theorem sz47 : tSz Try.prog 47 = some (true, 5) := by kernel_rfl
set_option maxHeartbeats 4000000 in
theorem c_dedup_Groups (c d : Bool) (l : List Int) (w : Pl.Way) (hl : ∀ x, x ∈ l → Pl.W32 x) (hn : l.length ≤ 1000000) : PCall Try.prog 23 [words c l, .agg (wayC d w)] (.tup [words false (Pl.grK l w), ints false (Pl.grC l w), iV (Pl.grT l.length w), iV (Pl.grE l.length w)]) := by
 have f1 := c_radix_Sort c d l w.bits w.block w.plan hl hn
 refine pcall_of_awp Try.func23 rfl (by simp [Try.ntmps23]) fun C hC => ?_
 refine awp_le (le_keep [0, 1]) ?_
 simp only [kp, argSl, simprocAttr]
 refine awp_sr [80, 86] (by rw [hC]; rfl) fun k hk => ?_
 simp (maxSteps := 9^9) (disch := (try simp only [lens]); omega) only [argSl, sm, ↓amb, mark_eq, simprocAttr, dx]
 repeat refine ⟨by first | omega | (simp; done) | (unfold maxLen; omega) | (simp [maxLen]; omega) | assumption, ?_⟩
 refine hk _ ?_; clear hk k
 refine awp_le (le_keep [0, 3]) ?_
 simp only [kp, argSl, simprocAttr]
 refine awp_sr [80, 86] (by rw [hC]; rfl) fun k hk => ?_
 simp (maxSteps := 9^9) (disch := (try simp only [lens]); omega) only [argSl, sm, ↓amb, mark_eq, simprocAttr, fl47_0, sz3, fl47_1, fl47_2, sz26, en41, dx]
 repeat refine ⟨by first | omega | (simp; done) | (unfold maxLen; omega) | (simp [maxLen]; omega) | assumption, ?_⟩
 refine callK_p (f1) rfl ?_
 simp (maxSteps := 9^9) (disch := (try simp only [lens]); omega) only [argSl, sm, ↓amb, mark_eq, simprocAttr, fl47_0, sz3, fl47_1, fl47_2, sz26, en41, dx]
 repeat refine ⟨by first | omega | (simp; done) | (unfold maxLen; omega) | (simp [maxLen]; omega) | assumption, ?_⟩
 refine hk _ ?_; clear hk k
 refine awp_seq fun k1 h1 => ?_
 refine awp_le (le_keep [0, 3, 4, 5, 6, 7, 8, 9, 10]) ?_
 simp only [kp, argSl, simprocAttr]
 refine awp_sr [80, 86] (by rw [hC]; rfl) fun k hk => ?_
 simp (maxSteps := 9^9) (disch := (try simp only [lens]); omega) only [argSl, sm, ↓amb, mark_eq, simprocAttr, dx]
 repeat refine ⟨by first | omega | (simp; done) | (unfold maxLen; omega) | (simp [maxLen]; omega) | assumption, ?_⟩
 refine hk _ ?_; clear hk k
 refine awp_cond rfl (fun hb => ?_) (fun hb => ?_)
 ·try simp only [hbx] at hb
  refine awp_le (le_keep [10]) ?_
  simp only [kp, argSl, simprocAttr]
  refine awp_sr [80, 86] (by rw [hC]; rfl) fun k hk => ?_
  simp (maxSteps := 9^9) (disch := (try simp only [lens]); omega) only [argSl, sm, ↓amb, mark_eq, simprocAttr, dx]
  repeat refine ⟨by first | omega | (simp; done) | (unfold maxLen; omega) | (simp [maxLen]; omega) | assumption, ?_⟩
  refine hk _ ?_; clear hk k
  refine awp_ret ?_
  rw [show Pl.grK l w = [] from if_neg hb, show Pl.grC l w = [] from if_neg hb, show Pl.grT l.length w = 0 from if_neg hb]
  refine ret4 rfl rfl rfl rfl rfl ?_ ?_ ?_ ?_
  ·exact .p (LeP.seq _ _)
  ·exact .p (LeP.seq _ _)
  ·exact .p (LeP.refl _)
  ·exact .p (LeP.refl _)
 ·try simp only [hbx] at hb
  refine awp_skip ?_
  refine h1 _ ?_; clear h1 k1
  refine awp_le (le_keep [0, 3, 8, 9]) ?_
  simp only [kp, argSl, simprocAttr]
  have he0 : Pl.grE l.length w = 0 := hb
  have hra : Pl.raE l.length w.bits w.block w.plan = 0 := he0
  have hs0 : Pl.scE l.length w.block w.plan = 0 := by
   unfold Pl.raE at hra; split at hra
   ·exact absurd hra (by decide)
   ·exact hra
  have ho : Pl.onceP (Pl.raL l w.bits w.block w.plan) l.length := by unfold Pl.raL; rw [if_pos hra]; exact Pl.passes_once hl _ _
  have f2 := c_radix_Sorted c false l (Pl.raL l w.bits w.block w.plan) hl (fun x hx => by have := ho.2.1 x hx; omega) hn (by have := ho.1; omega)
  rw [if_pos ho, decide_eq_true ho, show Pl.sortedL l (Pl.raL l w.bits w.block w.plan) = Pl.grS l w from rfl] at f2
  have hsl : (Pl.grS l w).length = l.length := by unfold Pl.grS; rw [Pl.sortedL_len]; exact ho.1
  have hgs : ∀ x, x ∈ Pl.grS l w → Pl.W32 x := fun x hx => by
   unfold Pl.grS Pl.sortedL at hx
   obtain ⟨j, _, rfl⟩ := List.mem_map.1 hx
   exact Pl.getD_w hl _
  have hfl := Pl.firstsL_len (Pl.grS l w)
  have f3 := c_pack_Where false d (Pl.firstsL (Pl.grS l w)) w.block w.plan (by omega)
  rw [show Pl.whL (Pl.firstsL (Pl.grS l w)) false w.block w.plan = Pl.grW l w from rfl, hfl, hsl, hs0] at f3
  have hwm : ∀ x, x ∈ Pl.grW l w → 0 ≤ x ∧ x < l.length := fun x hx => by have := Pl.wh_mem x hx; rwa [hfl, hsl] at this
  have hwn : (Pl.grW l w).length ≤ l.length := by have := Pl.wh_len (Pl.firstsL (Pl.grS l w)) false w.block w.plan; rwa [hfl, hsl] at this
  refine awp_sr [80, 86] (by rw [hC]; rfl) fun k hk => ?_
  simp (maxSteps := 9^9) (disch := (try simp only [lens]); omega) only [argSl, sm, ↓amb, mark_eq, simprocAttr, en42, dx]
  repeat refine ⟨by first | omega | (simp; done) | (unfold maxLen; omega) | (simp [maxLen]; omega) | assumption, ?_⟩
  refine callK_p (f2) rfl ?_
  simp (maxSteps := 9^9) (disch := (try simp only [lens]); omega) only [argSl, sm, ↓amb, mark_eq, simprocAttr, en42, dx]
  repeat refine ⟨by first | omega | (simp; done) | (unfold maxLen; omega) | (simp [maxLen]; omega) | assumption, ?_⟩
  refine hk _ ?_; clear hk k
  refine awp_le (le_keep [3, 9, 11]) ?_
  simp only [kp, argSl, simprocAttr]
  refine awp_sd [80, 86] ⟨[0, 1, 0, 4, 0, 16, 63, 127, 255, 255, 255, 511, 3071, 8191], [3, 5], [], [], some []⟩ (by rw [hC]; rfl) (by kernel_rfl) (by kernel_rfl) fun k hk => ?_
  simp (maxSteps := 9^9) (disch := (try simp only [lens]); omega) only [argSl, sm, ↓amb, mark_eq, simprocAttr, en43, fl47_1, sz3, fl47_2, sz26, en14, dx]
  repeat refine ⟨by first | omega | (simp; done) | (unfold maxLen; omega) | (simp [maxLen]; omega) | assumption, ?_⟩
  refine callK_p (c_dedup_firsts false (Pl.grS l w) hgs (by omega)) rfl ?_
  simp (maxSteps := 9^9) (disch := (try simp only [lens]); omega) only [argSl, sm, ↓amb, mark_eq, simprocAttr, en43, fl47_1, sz3, fl47_2, sz26, en14, dx]
  repeat refine ⟨by first | omega | (simp; done) | (unfold maxLen; omega) | (simp [maxLen]; omega) | assumption, ?_⟩
  refine callK_p (f3) rfl ?_
  simp (maxSteps := 9^9) (disch := (try simp only [lens]); omega) only [argSl, sm, ↓amb, mark_eq, simprocAttr, en43, fl47_1, sz3, fl47_2, sz26, en14, dx]
  repeat refine ⟨by first | omega | (simp; done) | (unfold maxLen; omega) | (simp [maxLen]; omega) | assumption, ?_⟩
  refine hk _ ?_; clear hk k
  refine awp_seq fun k2 h2 => ?_
  refine awp_le (le_keep [4, 5, 6, 7, 9, 10, 11, 13, 14]) ?_
  simp only [kp, argSl, simprocAttr]
  refine awp_sr [80, 86] (by rw [hC]; rfl) fun k hk => ?_
  simp (maxSteps := 9^9) (disch := (try simp only [lens]); omega) only [argSl, sm, ↓amb, mark_eq, simprocAttr, dx]
  repeat refine ⟨by first | omega | (simp; done) | (unfold maxLen; omega) | (simp [maxLen]; omega) | assumption, ?_⟩
  refine hk _ ?_; clear hk k
  refine awp_cond rfl (fun hb => ?_) (fun hb => ?_)
  ·exact absurd hb (by simp)
  ·try simp only [hbx] at hb
   refine awp_skip ?_
   refine h2 _ ?_; clear h2 k2
   refine awp_le (le_keep [9, 11, 13, 14]) ?_
   simp only [kp, argSl, simprocAttr]
   refine awp_sr [80, 86] (by rw [hC]; rfl) fun k hk => ?_
   simp (maxSteps := 9^9) (disch := (try simp only [lens]); omega) only [argSl, sm, ↓amb, mark_eq, simprocAttr, dx]
   repeat refine ⟨by first | omega | (simp; done) | (unfold maxLen; omega) | (simp [maxLen]; omega) | assumption, ?_⟩
   refine hk _ ?_; clear hk k
   refine awp_le (le_keep [9, 11, 13, 14, 15]) ?_
   simp only [kp, argSl, simprocAttr]
   refine awp_sr [80, 86] (by rw [hC]; rfl) fun k hk => ?_
   simp (maxSteps := 9^9) (disch := (try simp only [lens]); omega) only [argSl, sm, ↓amb, mark_eq, simprocAttr, dx]
   repeat refine ⟨by first | omega | (simp; done) | (unfold maxLen; omega) | (simp [maxLen]; omega) | assumption, ?_⟩
   refine hk _ ?_; clear hk k
   refine awp_seq fun k3 h3 => ?_
   refine awp_le (le_keep [4, 5, 6, 7, 9, 11, 13, 14, 15, 16]) ?_
   simp only [kp, argSl, simprocAttr]
   refine awp_own' 15 1 rfl ?_
   simp only [am, List.set_cons_succ, List.set_cons_zero, Nat.reduceEqDiff, ↓reduceIte, reduceCtorEq, Nat.reduceAdd, Nat.reduceMul]
   refine awp_own' 16 1 rfl ?_
   refine awp_sr [80, 86] (by rw [hC]; rfl) fun k hk => ?_
   simp (maxSteps := 9^9) (disch := (try simp only [lens]); omega) only [argSl, sm, ↓amb, mark_eq, simprocAttr, el33, dx]
   repeat refine ⟨by first | omega | (simp; done) | (unfold maxLen; omega) | (simp [maxLen]; omega) | assumption, ?_⟩
   refine hk _ ?_; clear hk k
   refine awp_block ?_
   refine awp_loop (σ := Nat) (fun i => i ≤ (Pl.grW l w).length) (fun (i : Nat) => ⟨[(9, (.p (iV (Pl.raS l.length w.bits w.block w.plan)))), (11, (.p (words false (Pl.grS l w)))), (13, (.p (ints false (Pl.grW l w)))), (14, (.p (iV (Pl.whS l.length w.block w.plan)))), (15, (.own 0)), (16, (.own 1)), (55, (.p (ints false (Pl.grW l w)))), (56, (.p (iV (Pl.grW l w).length))), (57, (.p (iV (i : Int))))], [(0, (.row 1 (lift ((Pl.sortedL (Pl.grS l w) ((Pl.grW l w).take i)).map fun x => [u32V x])))), (1, (.row 1 (lift ((Pl.cntG l.length (Pl.grW l w) i).map fun x => [iV x]))))], 1⟩) (fun i => (Pl.grW l w).length - i) 0 ?_ ?_ fun i hi => ?_
   ·exact Nat.zero_le _
   ·exact le_of [(0, _), (1, _)] (by rfl) (by rfl) ⟨⟨_, rfl, .p (.of_eq (by first | rfl | (simp only [PV.lit.injEq, Value.int.injEq, true_and]; omega) | (simp; done) | (simp; omega)))⟩, ⟨_, rfl, .p (.of_eq (by first | rfl | (simp only [PV.lit.injEq, Value.int.injEq, true_and]; omega) | (simp; done) | (simp; omega)))⟩, ⟨_, rfl, .p (.of_eq (by first | rfl | (simp only [PV.lit.injEq, Value.int.injEq, true_and]; omega) | (simp; done) | (simp; omega)))⟩, ⟨_, rfl, .p (.of_eq (by first | rfl | (simp only [PV.lit.injEq, Value.int.injEq, true_and]; omega) | (simp; done) | (simp; omega)))⟩, ⟨_, rfl, .own rfl⟩, ⟨_, rfl, .own rfl⟩, ⟨_, rfl, .p (.of_eq (by first | rfl | (simp only [PV.lit.injEq, Value.int.injEq, true_and]; omega) | (simp; done) | (simp; omega)))⟩, ⟨_, rfl, .p (.of_eq (by first | rfl | (simp only [PV.lit.injEq, Value.int.injEq, true_and]; omega) | (simp; done) | (simp; omega)))⟩, ⟨_, rfl, .p (.of_eq (by first | rfl | (simp only [PV.lit.injEq, Value.int.injEq, true_and]; omega) | (simp; done) | (simp; omega)))⟩, trivial⟩ ⟨⟨_, rfl, _, rfl, .liftE (by first | rfl | (rw [Pl.take_snoc' (Pl.grW l w) i (by omega), Pl.sortedL_snoc, List.map_append]; first | done | rfl) | trace_state)⟩, ⟨_, rfl, _, rfl, .liftE (by first | rfl | (rw [Pl.cntG_snoc, List.map_append, if_pos (by omega)]; first | done | rfl) | (rw [Pl.cntG_snoc, List.map_append, if_neg (by omega)]; first | done | rfl | (rw [hsl]; rfl)) | trace_state)⟩, trivial⟩
   refine awp_le (le_keep [0, 1, 4, 5, 6, 7, 9, 11, 13, 14, 15, 16, 55, 56, 57]) ?_
   simp only [kp, argSl, simprocAttr]
   refine awp_sr [80, 86] (by rw [hC]; rfl) fun k hk => ?_
   simp (maxSteps := 9^9) (disch := (try simp only [lens]); omega) only [argSl, sm, ↓amb, mark_eq, simprocAttr, dx]
   repeat refine ⟨by first | omega | (simp; done) | (unfold maxLen; omega) | (simp [maxLen]; omega) | assumption, ?_⟩
   refine hk _ ?_; clear hk k
   refine awp_seq fun k5 h5 => ?_
   refine awp_cond rfl (fun hb => ?_) (fun hb => ?_)
   ·try simp only [hbx] at hb
    refine awp_skip ?_
    refine h5 _ ?_; clear h5 k5
    refine awp_seq fun k6 h6 => ?_
    refine awp_block ?_
    refine awp_le (le_keep [0, 1, 4, 5, 6, 7, 9, 11, 13, 14, 15, 16, 55, 56, 57]) ?_
    simp only [kp, argSl, simprocAttr]
    have hx := hwm _ (Pl.getD_mem (Pl.grW l w) i 0 (by omega))
    refine awp_sr [80, 86] (by rw [hC]; rfl) fun k hk => ?_
    simp (maxSteps := 9^9) (disch := (try simp only [lens]); omega) only [argSl, sm, ↓amb, mark_eq, simprocAttr, el33, sz3, dx]
    repeat refine ⟨by first | omega | (simp; done) | (unfold maxLen; omega) | (simp [maxLen]; omega) | assumption, ?_⟩
    refine hk _ ?_; clear hk k
    refine awp_le (le_keep [0, 1, 4, 5, 6, 7, 9, 11, 13, 14, 15, 16, 17, 18, 55, 56, 57]) ?_
    simp only [kp, argSl, simprocAttr]
    refine awp_sr [80, 86] (by rw [hC]; rfl) fun k hk => ?_
    simp (maxSteps := 9^9) (disch := (try simp only [lens]); omega) only [argSl, sm, ↓amb, mark_eq, simprocAttr, el22, dx]
    repeat refine ⟨by first | omega | (simp; done) | (unfold maxLen; omega) | (simp [maxLen]; omega) | assumption, ?_⟩
    refine hk _ ?_; clear hk k
    refine awp_seq fun k7 h7 => ?_
    refine awp_le (le_keep [0, 1, 4, 5, 6, 7, 9, 11, 13, 14, 15, 16, 17, 18, 19, 55, 56, 57]) ?_
    simp only [kp, argSl, simprocAttr]
    have hcl := Pl.cntG_len l.length (Pl.grW l w) i
    have hkl : (Pl.sortedL (Pl.grS l w) ((Pl.grW l w).take i)).length = i := by rw [Pl.sortedL_len, List.length_take]; omega
    refine awp_sr [80, 86] (by rw [hC]; rfl) fun k hk => ?_
    simp (maxSteps := 9^9) (disch := (try simp only [lens]); omega) only [argSl, sm, ↓amb, mark_eq, simprocAttr, el33, dx]
    repeat refine ⟨by first | omega | (simp; done) | (unfold maxLen; omega) | (simp [maxLen]; omega) | assumption, ?_⟩
    refine hk _ ?_; clear hk k
    refine awp_cond rfl (fun hb => ?_) (fun hb => ?_)
    ·try simp only [hbx] at hb
     have hy := hwm _ (Pl.getD_mem (Pl.grW l w) (i + 1) 0 (by omega))
     refine awp_region [80, 86] (by rw [hC]; rfl) fun k hk => ?_
     simp (maxSteps := 9^9) (disch := (try simp only [lens]); omega) only [argSl, sm, ↓amb, mark_eq, simprocAttr, el33, sz3, dx]
     repeat refine ⟨by first | omega | (simp; done) | (unfold maxLen; omega) | (simp [maxLen]; omega) | assumption, ?_⟩
     refine hk _ ?_; clear hk k
     refine h7 _ ?_; clear h7 k7
     refine awp_region [80, 86] (by rw [hC]; rfl) fun k hk => ?_
     simp (maxSteps := 9^9) (disch := (try simp only [lens]); omega) only [argSl, sm, ↓amb, mark_eq, simprocAttr, el22, sz41, vr41, by41, el33, vr3, by3, dx]
     repeat refine ⟨by first | omega | (simp; done) | (unfold maxLen; omega) | (simp [maxLen]; omega) | assumption, ?_⟩
     refine hk _ ?_; clear hk k
     refine h6 _ ?_; clear h6 k6
     refine awp_region [80, 86] (by rw [hC]; rfl) fun k hk => ?_
     simp (maxSteps := 9^9) (disch := (try simp only [lens]); omega) only [argSl, sm, ↓amb, mark_eq, simprocAttr, dx]
     repeat refine ⟨by first | omega | (simp; done) | (unfold maxLen; omega) | (simp [maxLen]; omega) | assumption, ?_⟩
     refine hk _ ?_; clear hk k
     refine ⟨i + 1, by omega, le_of [(0, _), (1, _)] (by rfl) (by rfl) ⟨⟨_, rfl, .p (.of_eq (by first | rfl | (simp only [PV.lit.injEq, Value.int.injEq, true_and]; omega) | (simp; done) | (simp; omega)))⟩, ⟨_, rfl, .p (.of_eq (by first | rfl | (simp only [PV.lit.injEq, Value.int.injEq, true_and]; omega) | (simp; done) | (simp; omega)))⟩, ⟨_, rfl, .p (.of_eq (by first | rfl | (simp only [PV.lit.injEq, Value.int.injEq, true_and]; omega) | (simp; done) | (simp; omega)))⟩, ⟨_, rfl, .p (.of_eq (by first | rfl | (simp only [PV.lit.injEq, Value.int.injEq, true_and]; omega) | (simp; done) | (simp; omega)))⟩, ⟨_, rfl, .own rfl⟩, ⟨_, rfl, .own rfl⟩, ⟨_, rfl, .p (.of_eq (by first | rfl | (simp only [PV.lit.injEq, Value.int.injEq, true_and]; omega) | (simp; done) | (simp; omega)))⟩, ⟨_, rfl, .p (.of_eq (by first | rfl | (simp only [PV.lit.injEq, Value.int.injEq, true_and]; omega) | (simp; done) | (simp; omega)))⟩, ⟨_, rfl, .p (.of_eq (by first | rfl | (simp only [PV.lit.injEq, Value.int.injEq, true_and]; omega) | (simp; done) | (simp; omega)))⟩, trivial⟩ ⟨⟨_, rfl, _, rfl, .liftE (by first | rfl | (rw [Pl.take_snoc' (Pl.grW l w) i (by omega), Pl.sortedL_snoc, List.map_append]; first | done | rfl) | trace_state)⟩, ⟨_, rfl, _, rfl, .liftE (by first | rfl | (rw [Pl.cntG_snoc, List.map_append, if_pos (by omega)]; first | done | rfl) | (rw [Pl.cntG_snoc, List.map_append, if_neg (by omega)]; first | done | rfl | (rw [hsl]; rfl)) | trace_state)⟩, trivial⟩, by omega⟩
    ·try simp only [hbx] at hb
     refine awp_skip ?_
     refine h7 _ ?_; clear h7 k7
     refine awp_region [80, 86] (by rw [hC]; rfl) fun k hk => ?_
     simp (maxSteps := 9^9) (disch := (try simp only [lens]); omega) only [argSl, sm, ↓amb, mark_eq, simprocAttr, el22, sz41, vr41, by41, el33, vr3, by3, dx]
     repeat refine ⟨by first | omega | (simp; done) | (unfold maxLen; omega) | (simp [maxLen]; omega) | assumption, ?_⟩
     refine hk _ ?_; clear hk k
     refine h6 _ ?_; clear h6 k6
     refine awp_region [80, 86] (by rw [hC]; rfl) fun k hk => ?_
     simp (maxSteps := 9^9) (disch := (try simp only [lens]); omega) only [argSl, sm, ↓amb, mark_eq, simprocAttr, dx]
     repeat refine ⟨by first | omega | (simp; done) | (unfold maxLen; omega) | (simp [maxLen]; omega) | assumption, ?_⟩
     refine hk _ ?_; clear hk k
     refine ⟨i + 1, by omega, le_of [(0, _), (1, _)] (by rfl) (by rfl) ⟨⟨_, rfl, .p (.of_eq (by first | rfl | (simp only [PV.lit.injEq, Value.int.injEq, true_and]; omega) | (simp; done) | (simp; omega)))⟩, ⟨_, rfl, .p (.of_eq (by first | rfl | (simp only [PV.lit.injEq, Value.int.injEq, true_and]; omega) | (simp; done) | (simp; omega)))⟩, ⟨_, rfl, .p (.of_eq (by first | rfl | (simp only [PV.lit.injEq, Value.int.injEq, true_and]; omega) | (simp; done) | (simp; omega)))⟩, ⟨_, rfl, .p (.of_eq (by first | rfl | (simp only [PV.lit.injEq, Value.int.injEq, true_and]; omega) | (simp; done) | (simp; omega)))⟩, ⟨_, rfl, .own rfl⟩, ⟨_, rfl, .own rfl⟩, ⟨_, rfl, .p (.of_eq (by first | rfl | (simp only [PV.lit.injEq, Value.int.injEq, true_and]; omega) | (simp; done) | (simp; omega)))⟩, ⟨_, rfl, .p (.of_eq (by first | rfl | (simp only [PV.lit.injEq, Value.int.injEq, true_and]; omega) | (simp; done) | (simp; omega)))⟩, ⟨_, rfl, .p (.of_eq (by first | rfl | (simp only [PV.lit.injEq, Value.int.injEq, true_and]; omega) | (simp; done) | (simp; omega)))⟩, trivial⟩ ⟨⟨_, rfl, _, rfl, .liftE (by first | rfl | (rw [Pl.take_snoc' (Pl.grW l w) i (by omega), Pl.sortedL_snoc, List.map_append]; first | done | rfl) | trace_state)⟩, ⟨_, rfl, _, rfl, .liftE (by first | rfl | (rw [Pl.cntG_snoc, List.map_append, if_pos (by omega)]; first | done | rfl) | (rw [Pl.cntG_snoc, List.map_append, if_neg (by omega)]; first | done | rfl | (rw [hsl]; rfl)) | trace_state)⟩, trivial⟩, by omega⟩
   ·try simp only [hbx] at hb
    refine awp_exit ((if_pos rfl).mpr ?_)
    refine h3 _ ?_; clear h5 k5; clear h3 k3
    refine awp_le (le_keep [9, 14, 15, 16]) ?_
    simp only [kp, argSl, simprocAttr]
    obtain rfl : i = (Pl.grW l w).length := by omega
    rw [List.take_of_length_le (Nat.le_refl _)]
    have r1 := Pl.scS_nn l.length w.block w.plan
    have r2 := Pl.pas_nn w.bits
    have r3 : 0 ≤ Pl.raS l.length w.bits w.block w.plan ∧ Pl.raS l.length w.bits w.block w.plan ≤ 40000 * 33 := by
     unfold Pl.raS; split
     ·exact ⟨Int.mul_nonneg r1.1 r2.1, Pl.mul_up r1.2 (by omega) r2.1 (by omega)⟩
     ·omega
    have r4 := Pl.ordS_up l.length w.plan
    have r5 : 0 ≤ Pl.whS l.length w.block w.plan ∧ Pl.whS l.length w.block w.plan ≤ 60000 := by unfold Pl.whS; split <;> omega
    refine awp_sr [80, 86] (by rw [hC]; rfl) fun k hk => ?_
    simp (maxSteps := 9^9) (disch := (try simp only [lens]); omega) only [argSl, sm, ↓amb, mark_eq, simprocAttr, dx]
    repeat refine ⟨by first | omega | (simp; done) | (unfold maxLen; omega) | (simp [maxLen]; omega) | assumption, ?_⟩
    refine hk _ ?_; clear hk k
    refine awp_ret ?_
    rw [show Pl.grK l w = Pl.sortedL (Pl.grS l w) (Pl.grW l w) from if_pos he0, show Pl.grC l w = Pl.cntG l.length (Pl.grW l w) (Pl.grW l w).length from if_pos he0, show Pl.grT l.length w = Pl.raS l.length w.bits w.block w.plan + Pl.whS l.length w.block w.plan from if_pos he0, he0]
    refine ret4 rfl rfl rfl rfl rfl ?_ ?_ ?_ ?_
    ·exact .ownE rfl rfl
    ·exact .ownE rfl rfl
    ·exact .p (LeP.refl _)
    ·exact .p (LeP.refl _)
set_option maxHeartbeats 4000000 in
theorem c_dedup_Once (c d : Bool) (l : List Int) (w : Pl.Way) (hl : ∀ x, x ∈ l → Pl.W32 x) (hn : l.length ≤ 1000000) : PCall Try.prog 25 [words c l, .agg (wayC d w)] (.tup [words false (Pl.grK l w), iV (Pl.grT l.length w), iV (Pl.grE l.length w)]) := by
 refine pcall_of_awp Try.func25 rfl (by simp [Try.ntmps25]) fun C hC => ?_
 refine awp_le (le_keep [0, 1]) ?_
 simp only [kp, argSl, simprocAttr]
 refine awp_sr [] (by rw [hC]; rfl) fun k hk => ?_
 simp (maxSteps := 9^9) (disch := (try simp only [lens]); omega) only [argSl, sm, ↓amb, mark_eq, simprocAttr, dx]
 repeat refine ⟨by first | omega | (simp; done) | (unfold maxLen; omega) | (simp [maxLen]; omega) | assumption, ?_⟩
 refine hk _ ?_; clear hk k
 refine awp_le (le_keep [0, 3]) ?_
 simp only [kp, argSl, simprocAttr]
 refine awp_sr [] (by rw [hC]; rfl) fun k hk => ?_
 simp (maxSteps := 9^9) (disch := (try simp only [lens]); omega) only [argSl, sm, ↓amb, mark_eq, simprocAttr, sz47, en23, dx]
 repeat refine ⟨by first | omega | (simp; done) | (unfold maxLen; omega) | (simp [maxLen]; omega) | assumption, ?_⟩
 refine callK_p (c_dedup_Groups c d l w hl hn) rfl ?_
 simp (maxSteps := 9^9) (disch := (try simp only [lens]); omega) only [argSl, sm, ↓amb, mark_eq, simprocAttr, sz47, en23, dx]
 repeat refine ⟨by first | omega | (simp; done) | (unfold maxLen; omega) | (simp [maxLen]; omega) | assumption, ?_⟩
 refine hk _ ?_; clear hk k
 refine awp_le (le_keep [7, 9, 10]) ?_
 simp only [kp, argSl, simprocAttr]
 refine awp_sr [] (by rw [hC]; rfl) fun k hk => ?_
 simp (maxSteps := 9^9) (disch := (try simp only [lens]); omega) only [argSl, sm, ↓amb, mark_eq, simprocAttr, dx]
 repeat refine ⟨by first | omega | (simp; done) | (unfold maxLen; omega) | (simp [maxLen]; omega) | assumption, ?_⟩
 refine hk _ ?_; clear hk k
 refine awp_ret ?_
 refine ret3 rfl rfl rfl rfl ?_ ?_ ?_
 ·exact .p (LeP.refl _)
 ·exact .p (LeP.refl _)
 ·exact .p (LeP.refl _)
end Go.Proofs.Ytbehekmnccoifaa
end
section
set_option linter.unusedSimpArgs false
set_option linter.unusedVariables false
set_option maxRecDepth 100000
namespace Go.Proofs.Ytbehekmnccoifaa
open Go.Am Go.Proofs
theorem by59 : tBytes Try.prog 59 = some 16 := by kernel_rfl
theorem en25 : enters Try.prog 25 = true := by kernel_rfl
theorem en30 : enters Try.prog 30 = true := by kernel_rfl
theorem en32 : enters Try.prog 32 = true := by kernel_rfl
set_option maxHeartbeats 4000000 in
theorem c_dedup_Edges (c d : Bool) (l : List Pl.Edge) (w : Pl.Way) (hn : l.length ≤ 1000000) : PCall Try.prog 28 [.seq c (l.map edgeC), .agg (wayC d w)] (.tup [if (∀ e, e ∈ l → Pl.fitE e) then (.seq false (((Pl.grK (Pl.ksE l) w).map Pl.unkey).map edgeC)) else .seq false [], iV (if (∀ e, e ∈ l → Pl.fitE e) then Pl.grT (Pl.ksE l).length w else 0), iV (if (∀ e, e ∈ l → Pl.fitE e) then Pl.grE (Pl.ksE l).length w else 10)]) := by
 refine pcall_of_awp Try.func28 rfl (by simp [Try.ntmps28]) fun C hC => ?_
 refine awp_le (le_keep [0, 1]) ?_
 simp only [kp, argSl, simprocAttr]
 refine awp_sr [39, 58] (by rw [hC]; rfl) fun k hk => ?_
 simp (maxSteps := 9^9) (disch := (try simp only [lens]); omega) only [argSl, sm, ↓amb, mark_eq, simprocAttr, dx]
 repeat refine ⟨by first | omega | (simp; done) | (unfold maxLen; omega) | (simp [maxLen]; omega) | assumption, ?_⟩
 refine hk _ ?_; clear hk k
 refine awp_le (le_keep [0, 3]) ?_
 simp only [kp, argSl, simprocAttr]
 refine awp_sr [39, 58] (by rw [hC]; rfl) fun k hk => ?_
 simp (maxSteps := 9^9) (disch := (try simp only [lens]); omega) only [argSl, sm, ↓amb, mark_eq, simprocAttr, dx]
 repeat refine ⟨by first | omega | (simp; done) | (unfold maxLen; omega) | (simp [maxLen]; omega) | assumption, ?_⟩
 refine hk _ ?_; clear hk k
 refine awp_seq fun k1 h1 => ?_
 refine awp_le (le_keep [0, 3, 4, 5, 6, 7]) ?_
 simp only [kp, argSl, simprocAttr]
 refine awp_own' 7 1 rfl ?_
 refine awp_sr [39, 58] (by rw [hC]; rfl) fun k hk => ?_
 simp (maxSteps := 9^9) (disch := (try simp only [lens]); omega) only [argSl, sm, ↓amb, mark_eq, simprocAttr, el53, dx]
 repeat refine ⟨by first | omega | (simp; done) | (unfold maxLen; omega) | (simp [maxLen]; omega) | assumption, ?_⟩
 refine hk _ ?_; clear hk k
 refine awp_block ?_
 refine awp_loop (σ := Nat) (fun i => i ≤ l.length ∧ ∀ j, j < i → Pl.fitE (l.getD j default)) (fun (i : Nat) => ⟨[(3, (.ptr 0 5 0 0)), (7, (.own 1)), (18, (.p (.seq c (l.map edgeC)))), (19, (.p (iV l.length))), (20, (.p (iV (i : Int))))], [(0, (.row 5 [[.p (iV w.bits), .p (iV w.block), .p (iV w.plan.grain), .p (iV w.plan.workers), .p (picksV d w.plan.picks)]])), (1, (.row 1 (lift ((Pl.ksE (l.take i)).map fun x => [u32V x]))))], 1⟩) (fun i => l.length - i) 0 ?_ ?_ fun i hi => ?_
 ·exact ⟨Nat.zero_le _, fun j hj => by omega⟩
 ·exact le_of [(0, _), (1, _)] (by rfl) (by rfl) ⟨⟨_, rfl, .ptr rfl⟩, ⟨_, rfl, .own rfl⟩, ⟨_, rfl, .p (.of_eq (by first | rfl | (simp only [PV.lit.injEq, Value.int.injEq, true_and]; omega) | (simp; done) | (simp; omega)))⟩, ⟨_, rfl, .p (.of_eq (by first | rfl | (simp only [PV.lit.injEq, Value.int.injEq, true_and]; omega) | (simp; done) | (simp; omega)))⟩, ⟨_, rfl, .p (.of_eq (by first | rfl | (simp only [PV.lit.injEq, Value.int.injEq, true_and]; omega) | (simp; done) | (simp; omega)))⟩, trivial⟩ ⟨⟨_, rfl, _, rfl, .one (.cons (.p (.refl _)) (.cons (.p (.refl _)) (.cons (.p (.refl _)) (.cons (.p (.refl _)) (.cons (.p (.refl _)) (.nil))))))⟩, ⟨_, rfl, _, rfl, .liftE (by first | rfl | (rw [Pl.ksE_yes (by omega) (by assumption), List.map_append]; rfl) | (rw [Pl.ksE_no (by omega) (by first | assumption | omega)]) | trace_state)⟩, trivial⟩
 obtain ⟨hi1, hi2⟩ := hi
 refine awp_le (le_keep [0, 1, 3, 4, 5, 6, 7, 18, 19, 20]) ?_
 simp only [kp, argSl, simprocAttr]
 refine awp_sr [39, 58] (by rw [hC]; rfl) fun k hk => ?_
 simp (maxSteps := 9^9) (disch := (try simp only [lens]); omega) only [argSl, sm, ↓amb, mark_eq, simprocAttr, dx]
 repeat refine ⟨by first | omega | (simp; done) | (unfold maxLen; omega) | (simp [maxLen]; omega) | assumption, ?_⟩
 refine hk _ ?_; clear hk k
 refine awp_seq fun k3 h3 => ?_
 refine awp_cond rfl (fun hb => ?_) (fun hb => ?_)
 ·try simp only [hbx] at hb
  refine awp_skip ?_
  refine h3 _ ?_; clear h3 k3
  refine awp_seq fun k4 h4 => ?_
  refine awp_block ?_
  refine awp_le (le_keep [0, 1, 3, 4, 5, 6, 7, 18, 19, 20]) ?_
  simp only [kp, argSl, simprocAttr]
  have hkl1 := Pl.ksE_len (l.take i)
  rw [List.length_take] at hkl1
  refine awp_sr [39, 58] (by rw [hC]; rfl) fun k hk => ?_
  simp (maxSteps := 9^9) (disch := (try simp only [lens]); omega) only [argSl, sm, ↓amb, mark_eq, simprocAttr, el53, sz59, vr59, dx]
  repeat refine ⟨by first | omega | (simp; done) | (unfold maxLen; omega) | (simp [maxLen]; omega) | assumption, ?_⟩
  refine hk _ ?_; clear hk k
  refine awp_le (le_keep [0, 1, 3, 4, 5, 6, 7, 9, 18, 19, 20]) ?_
  simp only [kp, argSl, simprocAttr]
  refine awp_sr [39, 58] (by rw [hC]; rfl) fun k hk => ?_
  simp (maxSteps := 9^9) (disch := (try simp only [lens]); omega) only [argSl, sm, ↓amb, mark_eq, simprocAttr, sz59, en30, dx]
  repeat refine ⟨by first | omega | (simp; done) | (unfold maxLen; omega) | (simp [maxLen]; omega) | assumption, ?_⟩
  refine callK_p (c_dedup_Key _) rfl ?_
  simp (maxSteps := 9^9) (disch := (try simp only [lens]); omega) only [argSl, sm, ↓amb, mark_eq, simprocAttr, sz59, en30, dx]
  repeat refine ⟨by first | omega | (simp; done) | (unfold maxLen; omega) | (simp [maxLen]; omega) | assumption, ?_⟩
  refine hk _ ?_; clear hk k
  refine awp_seq fun k5 h5 => ?_
  refine awp_le (le_keep [0, 1, 3, 4, 5, 6, 7, 9, 10, 11, 18, 19, 20]) ?_
  simp only [kp, argSl, simprocAttr]
  refine awp_sr [39, 58] (by rw [hC]; rfl) fun k hk => ?_
  simp (maxSteps := 9^9) (disch := (try simp only [lens]); omega) only [argSl, sm, ↓amb, mark_eq, simprocAttr, dx]
  repeat refine ⟨by first | omega | (simp; done) | (unfold maxLen; omega) | (simp [maxLen]; omega) | assumption, ?_⟩
  refine hk _ ?_; clear hk k
  refine awp_cond rfl (fun hb => ?_) (fun hb => ?_)
  ·try simp only [hbx] at hb
   refine awp_le (le_keep []) ?_
   simp only [kp, argSl, simprocAttr]
   refine awp_sr [39, 58] (by rw [hC]; rfl) fun k hk => ?_
   simp (maxSteps := 9^9) (disch := (try simp only [lens]); omega) only [argSl, sm, ↓amb, mark_eq, simprocAttr, dx]
   repeat refine ⟨by first | omega | (simp; done) | (unfold maxLen; omega) | (simp [maxLen]; omega) | assumption, ?_⟩
   refine hk _ ?_; clear hk k
   refine awp_ret ?_
   have ho : ¬ (∀ e, e ∈ l → Pl.fitE e) := fun z => hb (by have := z _ (Pl.getD_mem l i default (by omega)); unfold Pl.fitE at this; omega)
   rw [if_neg ho, if_neg ho, if_neg ho]
   refine ret3 rfl rfl rfl rfl ?_ ?_ ?_
   ·exact .p (LeP.seq _ _)
   ·exact .p (LeP.refl _)
   ·exact .p (LeP.refl _)
  ·try simp only [hbx] at hb
   refine awp_skip ?_
   refine h5 _ ?_; clear h5 k5
   refine awp_le (le_keep [0, 1, 3, 4, 5, 6, 7, 9, 10, 18, 19, 20]) ?_
   simp only [kp, argSl, simprocAttr]
   refine awp_sr [39, 58] (by rw [hC]; rfl) fun k hk => ?_
   simp (maxSteps := 9^9) (disch := (try simp only [lens]); omega) only [argSl, sm, ↓amb, mark_eq, simprocAttr, fl59_0, sz3, fl59_1, dx]
   repeat refine ⟨by first | omega | (simp; done) | (unfold maxLen; omega) | (simp [maxLen]; omega) | assumption, ?_⟩
   refine hk _ ?_; clear hk k
   refine awp_cond rfl (fun hb => ?_) (fun hb => ?_)
   ·try simp only [hbx] at hb
    refine awp_region [39, 58] (by rw [hC]; rfl) fun k hk => ?_
    simp (maxSteps := 9^9) (disch := (try simp only [lens]); omega) only [argSl, sm, ↓amb, mark_eq, simprocAttr, el22, vr41, by41, dx]
    repeat refine ⟨by first | omega | (simp; done) | (unfold maxLen; omega) | (simp [maxLen]; omega) | assumption, ?_⟩
    refine hk _ ?_; clear hk k
    refine h4 _ ?_; clear h4 k4
    refine awp_region [39, 58] (by rw [hC]; rfl) fun k hk => ?_
    simp (maxSteps := 9^9) (disch := (try simp only [lens]); omega) only [argSl, sm, ↓amb, mark_eq, simprocAttr, dx]
    repeat refine ⟨by first | omega | (simp; done) | (unfold maxLen; omega) | (simp [maxLen]; omega) | assumption, ?_⟩
    refine hk _ ?_; clear hk k
    refine ⟨i + 1, ⟨by omega, fun j hj => by by_cases e : j = i; (subst e; unfold Pl.fitE; omega); exact hi2 j (by omega)⟩, le_of [(0, _), (1, _)] (by rfl) (by rfl) ⟨⟨_, rfl, .ptr rfl⟩, ⟨_, rfl, .own rfl⟩, ⟨_, rfl, .p (.of_eq (by first | rfl | (simp only [PV.lit.injEq, Value.int.injEq, true_and]; omega) | (simp; done) | (simp; omega)))⟩, ⟨_, rfl, .p (.of_eq (by first | rfl | (simp only [PV.lit.injEq, Value.int.injEq, true_and]; omega) | (simp; done) | (simp; omega)))⟩, ⟨_, rfl, .p (.of_eq (by first | rfl | (simp only [PV.lit.injEq, Value.int.injEq, true_and]; omega) | (simp; done) | (simp; omega)))⟩, trivial⟩ ⟨⟨_, rfl, _, rfl, .one (.cons (.p (.refl _)) (.cons (.p (.refl _)) (.cons (.p (.refl _)) (.cons (.p (.refl _)) (.cons (.p (.refl _)) (.nil))))))⟩, ⟨_, rfl, _, rfl, .liftE (by first | rfl | (rw [Pl.ksE_yes (by omega) (by assumption), List.map_append]; rfl) | (rw [Pl.ksE_no (by omega) (by first | assumption | omega)]) | trace_state)⟩, trivial⟩, by omega⟩
   ·try simp only [hbx] at hb
    refine awp_skip ?_
    refine h4 _ ?_; clear h4 k4
    refine awp_region [39, 58] (by rw [hC]; rfl) fun k hk => ?_
    simp (maxSteps := 9^9) (disch := (try simp only [lens]); omega) only [argSl, sm, ↓amb, mark_eq, simprocAttr, dx]
    repeat refine ⟨by first | omega | (simp; done) | (unfold maxLen; omega) | (simp [maxLen]; omega) | assumption, ?_⟩
    refine hk _ ?_; clear hk k
    refine ⟨i + 1, ⟨by omega, fun j hj => by by_cases e : j = i; (subst e; unfold Pl.fitE; omega); exact hi2 j (by omega)⟩, le_of [(0, _), (1, _)] (by rfl) (by rfl) ⟨⟨_, rfl, .ptr rfl⟩, ⟨_, rfl, .own rfl⟩, ⟨_, rfl, .p (.of_eq (by first | rfl | (simp only [PV.lit.injEq, Value.int.injEq, true_and]; omega) | (simp; done) | (simp; omega)))⟩, ⟨_, rfl, .p (.of_eq (by first | rfl | (simp only [PV.lit.injEq, Value.int.injEq, true_and]; omega) | (simp; done) | (simp; omega)))⟩, ⟨_, rfl, .p (.of_eq (by first | rfl | (simp only [PV.lit.injEq, Value.int.injEq, true_and]; omega) | (simp; done) | (simp; omega)))⟩, trivial⟩ ⟨⟨_, rfl, _, rfl, .one (.cons (.p (.refl _)) (.cons (.p (.refl _)) (.cons (.p (.refl _)) (.cons (.p (.refl _)) (.cons (.p (.refl _)) (.nil))))))⟩, ⟨_, rfl, _, rfl, .liftE (by first | rfl | (rw [Pl.ksE_yes (by omega) (by assumption), List.map_append]; rfl) | (rw [Pl.ksE_no (by omega) (by first | assumption | omega)]) | trace_state)⟩, trivial⟩, by omega⟩
 ·try simp only [hbx] at hb
  refine awp_exit ((if_pos rfl).mpr ?_)
  refine h1 _ ?_; clear h3 k3; clear h1 k1
  refine awp_le (le_keep [3, 7]) ?_
  simp only [kp, argSl, simprocAttr]
  obtain rfl : i = l.length := by omega
  rw [List.take_of_length_le (Nat.le_refl _)]
  have hkl : (Pl.ksE l).length ≤ 1000000 := by have := Pl.ksE_len l; omega
  refine awp_le (show LE _ (⟨[(3, (.ptr 0 5 0 0)), (7, (.p (words false (Pl.ksE l))))], [(0, (.row 5 [[.p (iV w.bits), .p (iV w.block), .p (iV w.plan.grain), .p (iV w.plan.workers), .p (picksV d w.plan.picks)]]))], 2⟩ : LS) from le_of [(0, _)] (by rfl) (by rfl) ⟨⟨_, rfl, .ptr rfl⟩, ⟨_, rfl, .frz (es := (Pl.ksE l).map fun x => [u32V x]) rfl (by rfl)⟩, trivial⟩ ⟨⟨_, rfl, _, rfl, .one (.cons (.p (.refl _)) (.cons (.p (.refl _)) (.cons (.p (.refl _)) (.cons (.p (.refl _)) (.cons (.p (.refl _)) (.nil))))))⟩, trivial⟩) ?_
  refine awp_sr [39, 58] (by rw [hC]; rfl) fun k hk => ?_
  simp (maxSteps := 9^9) (disch := (try simp only [lens]); omega) only [argSl, sm, ↓amb, mark_eq, simprocAttr, sz47, en25, dx]
  repeat refine ⟨by first | omega | (simp; done) | (unfold maxLen; omega) | (simp [maxLen]; omega) | assumption, ?_⟩
  refine callK_p (c_dedup_Once false d (Pl.ksE l) w (Pl.ksE_w l) hkl) rfl ?_
  simp (maxSteps := 9^9) (disch := (try simp only [lens]); omega) only [argSl, sm, ↓amb, mark_eq, simprocAttr, sz47, en25, dx]
  repeat refine ⟨by first | omega | (simp; done) | (unfold maxLen; omega) | (simp [maxLen]; omega) | assumption, ?_⟩
  refine hk _ ?_; clear hk k
  refine awp_le (le_keep [12, 13, 14]) ?_
  simp only [kp, argSl, simprocAttr]
  refine awp_sr [39, 58] (by rw [hC]; rfl) fun k hk => ?_
  simp (maxSteps := 9^9) (disch := (try simp only [lens]); omega) only [argSl, sm, ↓amb, mark_eq, simprocAttr, dx]
  repeat refine ⟨by first | omega | (simp; done) | (unfold maxLen; omega) | (simp [maxLen]; omega) | assumption, ?_⟩
  refine hk _ ?_; clear hk k
  refine awp_seq fun k6 h6 => ?_
  refine awp_le (le_keep [4, 5, 6, 12, 13, 14, 15]) ?_
  simp only [kp, argSl, simprocAttr]
  refine awp_own' 15 2 rfl ?_
  have hgl := Pl.grK_len (Pl.ksE_w l) w
  refine awp_sr [39, 58] (by rw [hC]; rfl) fun k hk => ?_
  simp (maxSteps := 9^9) (disch := (try simp only [lens]); omega) only [argSl, sm, ↓amb, mark_eq, simprocAttr, el22, dx]
  repeat refine ⟨by first | omega | (simp; done) | (unfold maxLen; omega) | (simp [maxLen]; omega) | assumption, ?_⟩
  refine hk _ ?_; clear hk k
  refine awp_block ?_
  refine awp_loop (σ := Nat) (fun i => i ≤ (Pl.grK (Pl.ksE l) w).length) (fun (i : Nat) => ⟨[(13, (.p (iV (Pl.grT (Pl.ksE l).length w)))), (14, (.p (iV (Pl.grE (Pl.ksE l).length w)))), (15, (.own 0)), (48, (.p (words false (Pl.grK (Pl.ksE l) w)))), (49, (.p (iV (Pl.grK (Pl.ksE l) w).length))), (50, (.p (iV (i : Int))))], [(0, (.row 2 (lift ((((Pl.grK (Pl.ksE l) w).take i).map Pl.unkey).map edgeC))))], 1⟩) (fun i => (Pl.grK (Pl.ksE l) w).length - i) 0 ?_ ?_ fun i hi => ?_
  ·exact Nat.zero_le _
  ·exact le_of [(0, _)] (by rfl) (by rfl) ⟨⟨_, rfl, .p (.of_eq (by first | rfl | (simp only [PV.lit.injEq, Value.int.injEq, true_and]; omega) | (simp; done) | (simp; omega)))⟩, ⟨_, rfl, .p (.of_eq (by first | rfl | (simp only [PV.lit.injEq, Value.int.injEq, true_and]; omega) | (simp; done) | (simp; omega)))⟩, ⟨_, rfl, .own rfl⟩, ⟨_, rfl, .p (.of_eq (by first | rfl | (simp only [PV.lit.injEq, Value.int.injEq, true_and]; omega) | (simp; done) | (simp; omega)))⟩, ⟨_, rfl, .p (.of_eq (by first | rfl | (simp only [PV.lit.injEq, Value.int.injEq, true_and]; omega) | (simp; done) | (simp; omega)))⟩, ⟨_, rfl, .p (.of_eq (by first | rfl | (simp only [PV.lit.injEq, Value.int.injEq, true_and]; omega) | (simp; done) | (simp; omega)))⟩, trivial⟩ ⟨⟨_, rfl, _, rfl, .liftE (by first | rfl | (rw [Pl.take_snoc' (Pl.grK (Pl.ksE l) w) i (by omega), List.map_append, List.map_append]; rfl) | trace_state)⟩, trivial⟩
  refine awp_le (le_keep [0, 4, 5, 6, 13, 14, 15, 48, 49, 50]) ?_
  simp only [kp, argSl, simprocAttr]
  refine awp_sr [39, 58] (by rw [hC]; rfl) fun k hk => ?_
  simp (maxSteps := 9^9) (disch := (try simp only [lens]); omega) only [argSl, sm, ↓amb, mark_eq, simprocAttr, dx]
  repeat refine ⟨by first | omega | (simp; done) | (unfold maxLen; omega) | (simp [maxLen]; omega) | assumption, ?_⟩
  refine hk _ ?_; clear hk k
  refine awp_seq fun k8 h8 => ?_
  refine awp_cond rfl (fun hb => ?_) (fun hb => ?_)
  ·try simp only [hbx] at hb
   refine awp_skip ?_
   refine h8 _ ?_; clear h8 k8
   refine awp_seq fun k9 h9 => ?_
   refine awp_block ?_
   refine awp_le (le_keep [0, 4, 5, 6, 13, 14, 15, 48, 49, 50]) ?_
   simp only [kp, argSl, simprocAttr]
   refine awp_sr [39, 58] (by rw [hC]; rfl) fun k hk => ?_
   simp (maxSteps := 9^9) (disch := (try simp only [lens]); omega) only [argSl, sm, ↓amb, mark_eq, simprocAttr, el22, sz41, dx]
   repeat refine ⟨by first | omega | (simp; done) | (unfold maxLen; omega) | (simp [maxLen]; omega) | assumption, ?_⟩
   refine hk _ ?_; clear hk k
   have hw1 := Pl.grK_w (Pl.ksE_w l) w _ (Pl.getD_mem (Pl.grK (Pl.ksE l) w) i 0 (by omega))
   refine awp_region [39, 58] (by rw [hC]; rfl) fun k hk => ?_
   simp (maxSteps := 9^9) (disch := (try simp only [lens]); omega) only [argSl, sm, ↓amb, mark_eq, simprocAttr, en32, el53, vr59, by59, dx]
   repeat refine ⟨by first | omega | (simp; done) | (unfold maxLen; omega) | (simp [maxLen]; omega) | assumption, ?_⟩
   refine callK_p (c_dedup_Edge _ hw1) rfl ?_
   simp (maxSteps := 9^9) (disch := (try simp only [lens]); omega) only [argSl, sm, ↓amb, mark_eq, simprocAttr, en32, el53, vr59, by59, dx]
   repeat refine ⟨by first | omega | (simp; done) | (unfold maxLen; omega) | (simp [maxLen]; omega) | assumption, ?_⟩
   refine hk _ ?_; clear hk k
   refine h9 _ ?_; clear h9 k9
   refine awp_region [39, 58] (by rw [hC]; rfl) fun k hk => ?_
   simp (maxSteps := 9^9) (disch := (try simp only [lens]); omega) only [argSl, sm, ↓amb, mark_eq, simprocAttr, dx]
   repeat refine ⟨by first | omega | (simp; done) | (unfold maxLen; omega) | (simp [maxLen]; omega) | assumption, ?_⟩
   refine hk _ ?_; clear hk k
   refine ⟨i + 1, by omega, le_of [(0, _)] (by rfl) (by rfl) ⟨⟨_, rfl, .p (.of_eq (by first | rfl | (simp only [PV.lit.injEq, Value.int.injEq, true_and]; omega) | (simp; done) | (simp; omega)))⟩, ⟨_, rfl, .p (.of_eq (by first | rfl | (simp only [PV.lit.injEq, Value.int.injEq, true_and]; omega) | (simp; done) | (simp; omega)))⟩, ⟨_, rfl, .own rfl⟩, ⟨_, rfl, .p (.of_eq (by first | rfl | (simp only [PV.lit.injEq, Value.int.injEq, true_and]; omega) | (simp; done) | (simp; omega)))⟩, ⟨_, rfl, .p (.of_eq (by first | rfl | (simp only [PV.lit.injEq, Value.int.injEq, true_and]; omega) | (simp; done) | (simp; omega)))⟩, ⟨_, rfl, .p (.of_eq (by first | rfl | (simp only [PV.lit.injEq, Value.int.injEq, true_and]; omega) | (simp; done) | (simp; omega)))⟩, trivial⟩ ⟨⟨_, rfl, _, rfl, .liftE (by first | rfl | (rw [Pl.take_snoc' (Pl.grK (Pl.ksE l) w) i (by omega), List.map_append, List.map_append]; rfl) | trace_state)⟩, trivial⟩, by omega⟩
  ·try simp only [hbx] at hb
   refine awp_exit ((if_pos rfl).mpr ?_)
   refine h6 _ ?_; clear h8 k8; clear h6 k6
   refine awp_le (le_keep [13, 14, 15]) ?_
   simp only [kp, argSl, simprocAttr]
   obtain rfl : i = (Pl.grK (Pl.ksE l) w).length := by omega
   rw [List.take_of_length_le (Nat.le_refl _)]
   refine awp_sr [39, 58] (by rw [hC]; rfl) fun k hk => ?_
   simp (maxSteps := 9^9) (disch := (try simp only [lens]); omega) only [argSl, sm, ↓amb, mark_eq, simprocAttr, dx]
   repeat refine ⟨by first | omega | (simp; done) | (unfold maxLen; omega) | (simp [maxLen]; omega) | assumption, ?_⟩
   refine hk _ ?_; clear hk k
   refine awp_ret ?_
   have ho : (∀ e, e ∈ l → Pl.fitE e) := fun e he => by
    obtain ⟨j, hj, rfl⟩ := List.getElem_of_mem he
    have := hi2 j hj
    rwa [List.getD_eq_getElem?_getD, List.getElem?_eq_getElem hj] at this
   rw [if_pos ho, if_pos ho, if_pos ho]
   refine ret3 rfl rfl rfl rfl ?_ ?_ ?_
   ·exact .ownE rfl rfl
   ·exact .p (LeP.refl _)
   ·exact .p (LeP.refl _)
end Go.Proofs.Ytbehekmnccoifaa
end
section
set_option linter.unusedSimpArgs false
set_option linter.unusedVariables false
namespace Go.Pl
open Go.Am
def heldOk (w : Work) (l : List Int) (t : Int) : Prop := 0 ≤ t ∧ t < w.ts.length ∧ t ∉ l ∧ (w.ts.getD t.toNat default).wait = 0 ∧ (great w t ∨ ¬ w.done.getD (w.ts.getD t.toNat default).low.toNat default = true)
instance (w : Work) (l : List Int) (t : Int) : Decidable (heldOk w l t) := by unfold heldOk; infer_instance
end Go.Pl
namespace Go.Pl
open Go.Am
end Go.Pl
namespace Go.Pl
end Go.Pl
end
section
set_option linter.unusedSimpArgs false
set_option linter.unusedVariables false
set_option maxRecDepth 100000
namespace Go.Proofs.Ytbehekmnccoifaa
open Go.Am Go.Proofs
theorem en88 : enters Try.prog 88 = true := by kernel_rfl
theorem en96 : enters Try.prog 96 = true := by kernel_rfl
theorem en97 : enters Try.prog 97 = true := by kernel_rfl
theorem en98 : enters Try.prog 98 = true := by kernel_rfl
set_option maxHeartbeats 4000000 in
theorem c38 (c d : Bool) (w : Pl.Work) : PCall Try.prog 96 [workV c d w] (bV (decide (Pl.right w))) := by
 refine pcall_of_awp Try.func96 rfl (by simp [Try.ntmps96]) fun C hC => ?_
 refine awp_le (le_keep [0]) ?_
 simp only [kp, argSl, simprocAttr]
 refine awp_sr [] (by rw [hC]; rfl) fun k hk => ?_
 simp (maxSteps := 9^9) (disch := (try simp only [lens]); omega) only [argSl, sm, ↓amb, mark_eq, simprocAttr, dx]
 repeat refine ⟨by first | omega | (simp; done) | (unfold maxLen; omega) | (simp [maxLen]; omega) | assumption, ?_⟩
 refine hk _ ?_; clear hk k
 refine awp_le (le_keep [1]) ?_
 simp only [kp, argSl, simprocAttr]
 refine awp_sr [] (by rw [hC]; rfl) fun k hk => ?_
 simp (maxSteps := 9^9) (disch := (try simp only [lens]); omega) only [argSl, sm, ↓amb, mark_eq, simprocAttr, fl88_2, sz23, el23, dx]
 repeat refine ⟨by first | omega | (simp; done) | (unfold maxLen; omega) | (simp [maxLen]; omega) | assumption, ?_⟩
 refine hk _ ?_; clear hk k
 refine awp_seq fun k1 h1 => ?_
 refine awp_test [] 36 (decide (¬ (Pl.cnt w.done.length w.grain ∧ 1 ≤ w.ts.length ∧ w.ts.length ≤ 2000))) [1, 2, 3] (by rw [hC]; rfl) (fun gd hgd k hk => ?_) ?_
 ·have g3 : gd 3 = some 12 := by rw [hgd]; rfl
  have g8 : gd 8 = some 17 := by rw [hgd]; rfl
  have g12 : gd 12 = some 21 := by rw [hgd]; rfl
  have g16 : gd 16 = some 25 := by rw [hgd]; rfl
  have g22 : gd 22 = some 31 := by rw [hgd]; rfl
  clear hgd
  simp (maxSteps := 9^9) (disch := (try simp only [lens]); omega) only [argSl, sm, ↓amb, mark_eq, simprocAttr, fl88_1, sz3, fl88_0, sz86, el86, gcase_undef, g3, g8, g12, g16, g22, dx]
  repeat' first | refine hk _ _ rfl rfl rfl rfl ?_ | (refine gsplit (fun hg => ?_) (fun hg => ?_) <;> (try simp only [hbx] at hg) <;> simp (maxSteps := 9^9) (disch := (try simp only [lens]); omega) only [argSl, sm, ↓amb, mark_eq, simprocAttr, fl88_1, sz3, fl88_0, sz86, el86, gcase_undef, g3, g8, g12, g16, g22, dx]) | apply And.intro | fail
  all_goals first | rfl | omega | exact (decide_eq_true (by (try simp only [Pl.right, Pl.cnt, Pl.okT] at *); omega)).symm | exact (decide_eq_false (by (try simp only [Pl.right, Pl.cnt, Pl.okT] at *); omega)).symm | exact decide_eq_decide.mpr (by (try simp only [Pl.right, Pl.cnt, Pl.okT] at *); omega) | (refine Bool.eq_iff_iff.mpr ?_; (try simp only [Pl.right, Pl.cnt, Pl.okT] at *); simp only [beq_iff_eq, bne_iff_ne, ne_eq, decide_eq_true_eq]; omega) | (refine Bool.eq_iff_iff.mpr ?_; simp only [Bool.not_eq_true', Bool.not_eq_false', decide_eq_false_iff_not, decide_eq_true_eq, beq_iff_eq, bne_iff_ne, ne_eq]; (try simp only [Pl.right, Pl.cnt, Pl.okT] at *); omega) | assumption | (simp; done) | (simp [maxLen]; omega) | skip
 simp only [kp, argSl, simprocAttr, List.length_cons, List.length_nil]
 refine awp_cond rfl (fun hb => ?_) (fun hb => ?_)
 ·try simp only [hbx] at hb
  refine awp_le (le_keep []) ?_
  simp only [kp, argSl, simprocAttr]
  refine awp_sr [] (by rw [hC]; rfl) fun k hk => ?_
  simp (maxSteps := 9^9) (disch := (try simp only [lens]); omega) only [argSl, sm, ↓amb, mark_eq, simprocAttr, dx]
  repeat refine ⟨by first | omega | (simp; done) | (unfold maxLen; omega) | (simp [maxLen]; omega) | assumption, ?_⟩
  refine hk _ ?_; clear hk k
  refine awp_ret ?_
  refine ret1 rfl rfl ?_
  exact .p (LeP.of_eq (by rw [decide_eq_false (by intro h; simp only [Pl.right, Pl.cnt] at h hb; omega)]))
 ·try simp only [hbx] at hb
  refine awp_skip ?_
  refine h1 _ ?_; clear h1 k1
  refine awp_seq fun k2 h2 => ?_
  refine awp_le (le_keep [1, 2, 3]) ?_
  simp only [kp, argSl, simprocAttr]
  have hb0 := hb
  refine awp_sr [] (by rw [hC]; rfl) fun k hk => ?_
  simp (maxSteps := 9^9) (disch := (try simp only [lens]); omega) only [argSl, sm, ↓amb, mark_eq, simprocAttr, dx]
  repeat refine ⟨by first | omega | (simp; done) | (unfold maxLen; omega) | (simp [maxLen]; omega) | assumption, ?_⟩
  refine hk _ ?_; clear hk k
  refine awp_block ?_
  refine awp_loop (σ := Nat) (fun (i : Nat) => i ≤ w.ts.length ∧ ∀ j, j < i → Pl.okT w.done.length j (w.ts.getD j default)) (fun (i : Nat) => ⟨[(1, (.ptr 0 3 0 0)), (3, (.p (iV w.done.length))), (4, (.p (iV i)))], [(0, (.row 3 [[.p (.seq c (w.ts.map taskC)), .p (iV w.grain), .p (.seq d (w.done.map fun b => [bV b]))]]))], 1⟩) (fun i => w.ts.length - i) 0 ?_ ?_ fun x hx => ?_
  ·exact ⟨Nat.zero_le _, fun j hj => by omega⟩
  ·exact le_of [(0, _)] (by rfl) (by rfl) ⟨⟨_, rfl, .ptr rfl⟩, ⟨_, rfl, .p (.of_eq (by first | rfl | (simp only [PV.lit.injEq, Value.int.injEq, true_and]; omega) | (simp; done) | (simp; omega)))⟩, ⟨_, rfl, .p (.of_eq (by first | rfl | (simp only [PV.lit.injEq, Value.int.injEq, true_and]; omega) | (simp; done) | (simp; omega)))⟩, trivial⟩ ⟨⟨_, rfl, _, rfl, .one (.cons (.p (.refl _)) (.cons (.p (.refl _)) (.cons (.p (.refl _)) .nil)))⟩, trivial⟩
  obtain ⟨hx1, hx2⟩ := hx
  refine awp_seq fun k4 h4 => ?_
  refine awp_le (le_keep [0, 1, 2, 3, 4]) ?_
  simp only [kp, argSl, simprocAttr]
  refine awp_sr [] (by rw [hC]; rfl) fun k hk => ?_
  simp (maxSteps := 9^9) (disch := (try simp only [lens]); omega) only [argSl, sm, ↓amb, mark_eq, simprocAttr, fl88_0, sz86, el86, dx]
  repeat refine ⟨by first | omega | (simp; done) | (unfold maxLen; omega) | (simp [maxLen]; omega) | assumption, ?_⟩
  refine hk _ ?_; clear hk k
  refine awp_cond rfl (fun hb => ?_) (fun hb => ?_)
  ·try simp only [hbx] at hb
   refine awp_skip ?_
   refine h4 _ ?_; clear h4 k4
   refine awp_seq fun k5 h5 => ?_
   refine awp_block ?_
   refine awp_le (le_keep [0, 1, 2, 3, 4]) ?_
   simp only [kp, argSl, simprocAttr]
   refine awp_sr [] (by rw [hC]; rfl) fun k hk => ?_
   simp (maxSteps := 9^9) (disch := (try simp only [lens]); omega) only [argSl, sm, ↓amb, mark_eq, simprocAttr, fl88_0, sz86, el86, sz118, vr118, dx]
   repeat refine ⟨by first | omega | (simp; done) | (unfold maxLen; omega) | (simp [maxLen]; omega) | assumption, ?_⟩
   refine hk _ ?_; clear hk k
   refine awp_test [] 85 (decide (¬ Pl.okT w.done.length x (w.ts.getD x default))) [0, 1, 2, 3, 4] (by rw [hC]; rfl) (fun gd hgd k hk => ?_) ?_
   ·have g3 : gd 3 = some 52 := by rw [hgd]; rfl
    have g10 : gd 10 = some 59 := by rw [hgd]; rfl
    have g16 : gd 16 = some 65 := by rw [hgd]; rfl
    have g21 : gd 21 = some 70 := by rw [hgd]; rfl
    have g27 : gd 27 = some 76 := by rw [hgd]; rfl
    have g32 : gd 32 = some 81 := by rw [hgd]; rfl
    clear hgd
    simp (maxSteps := 9^9) (disch := (try simp only [lens]); omega) only [argSl, sm, ↓amb, mark_eq, simprocAttr, fl118_0, sz3, fl118_1, fl118_2, fl118_3, gcase_undef, g3, g10, g16, g21, g27, g32, dx]
    repeat' first | refine hk _ _ rfl rfl rfl rfl ?_ | (refine gsplit (fun hg => ?_) (fun hg => ?_) <;> (try simp only [hbx] at hg) <;> simp (maxSteps := 9^9) (disch := (try simp only [lens]); omega) only [argSl, sm, ↓amb, mark_eq, simprocAttr, fl118_0, sz3, fl118_1, fl118_2, fl118_3, gcase_undef, g3, g10, g16, g21, g27, g32, dx]) | apply And.intro | fail
    all_goals first | rfl | omega | exact (decide_eq_true (by (try simp only [Pl.right, Pl.cnt, Pl.okT] at *); omega)).symm | exact (decide_eq_false (by (try simp only [Pl.right, Pl.cnt, Pl.okT] at *); omega)).symm | exact decide_eq_decide.mpr (by (try simp only [Pl.right, Pl.cnt, Pl.okT] at *); omega) | (refine Bool.eq_iff_iff.mpr ?_; (try simp only [Pl.right, Pl.cnt, Pl.okT] at *); simp only [beq_iff_eq, bne_iff_ne, ne_eq, decide_eq_true_eq]; omega) | (refine Bool.eq_iff_iff.mpr ?_; simp only [Bool.not_eq_true', Bool.not_eq_false', decide_eq_false_iff_not, decide_eq_true_eq, beq_iff_eq, bne_iff_ne, ne_eq]; (try simp only [Pl.right, Pl.cnt, Pl.okT] at *); omega) | assumption | (simp; done) | (simp [maxLen]; omega) | skip
   simp only [kp, argSl, simprocAttr, List.length_cons, List.length_nil]
   refine awp_cond rfl (fun hb => ?_) (fun hb => ?_)
   ·try simp only [hbx] at hb
    refine awp_le (le_keep []) ?_
    simp only [kp, argSl, simprocAttr]
    refine awp_sr [] (by rw [hC]; rfl) fun k hk => ?_
    simp (maxSteps := 9^9) (disch := (try simp only [lens]); omega) only [argSl, sm, ↓amb, mark_eq, simprocAttr, dx]
    repeat refine ⟨by first | omega | (simp; done) | (unfold maxLen; omega) | (simp [maxLen]; omega) | assumption, ?_⟩
    refine hk _ ?_; clear hk k
    refine awp_ret ?_
    refine ret1 rfl rfl ?_
    exact .p (LeP.of_eq (by rw [decide_eq_false (fun h => by have h2 := h.2.2.2 x (by omega); have h3 := h.1; simp only [Pl.okT] at h2 hb; omega)]))
   ·try simp only [hbx] at hb
    refine awp_skip ?_
    refine h5 _ ?_; clear h5 k5
    refine awp_region [] (by rw [hC]; rfl) fun k hk => ?_
    simp (maxSteps := 9^9) (disch := (try simp only [lens]); omega) only [argSl, sm, ↓amb, mark_eq, simprocAttr, dx]
    repeat refine ⟨by first | omega | (simp; done) | (unfold maxLen; omega) | (simp [maxLen]; omega) | assumption, ?_⟩
    refine hk _ ?_; clear hk k
    refine ⟨x + 1, ⟨by omega, fun j hj => by by_cases e : j = x; subst e; exact hb; exact hx2 j (by omega)⟩, le_of [(0, _)] (by rfl) (by rfl) ⟨⟨_, rfl, .ptr rfl⟩, ⟨_, rfl, .p (.of_eq (by first | rfl | (simp only [PV.lit.injEq, Value.int.injEq, true_and]; omega) | (simp; done) | (simp; omega)))⟩, ⟨_, rfl, .p (.of_eq (by first | rfl | (simp only [PV.lit.injEq, Value.int.injEq, true_and]; omega) | (simp; done) | (simp; omega)))⟩, trivial⟩ ⟨⟨_, rfl, _, rfl, .one (.cons (.p (.refl _)) (.cons (.p (.refl _)) (.cons (.p (.refl _)) .nil)))⟩, trivial⟩, by omega⟩
  ·try simp only [hbx] at hb
   refine awp_exit ((if_pos rfl).mpr ?_)
   refine h2 _ ?_; clear h4 k4; clear h2 k2
   refine awp_le (le_keep []) ?_
   simp only [kp, argSl, simprocAttr]
   refine awp_sr [] (by rw [hC]; rfl) fun k hk => ?_
   simp (maxSteps := 9^9) (disch := (try simp only [lens]); omega) only [argSl, sm, ↓amb, mark_eq, simprocAttr, dx]
   repeat refine ⟨by first | omega | (simp; done) | (unfold maxLen; omega) | (simp [maxLen]; omega) | assumption, ?_⟩
   refine hk _ ?_; clear hk k
   refine awp_ret ?_
   refine ret1 rfl rfl ?_
   exact .p (LeP.of_eq (by rw [decide_eq_true (Pl.right_of (by omega) hb0 hx2)]))
set_option maxHeartbeats 4000000 in
theorem c52 (c d : Bool) (w : Pl.Work) (i : Int) : PCall Try.prog 98 [workV c d w, iV i] (bV (decide (0 ≤ i ∧ i < w.ts.length))) := by
 refine pcall_of_awp Try.func98 rfl (by simp [Try.ntmps98]) fun C hC => ?_
 refine awp_sr [] (by rw [hC]; rfl) fun k hk => ?_
 simp (maxSteps := 9^9) (disch := (try simp only [lens]); omega) only [argSl, sm, ↓amb, mark_eq, simprocAttr, dx]
 repeat refine ⟨by first | omega | (simp; done) | (unfold maxLen; omega) | (simp [maxLen]; omega) | assumption, ?_⟩
 refine hk _ ?_; clear hk k
 refine awp_test [] 4 (decide (0 ≤ i ∧ i < w.ts.length)) [] (by rw [hC]; rfl) (fun gd hgd k hk => ?_) ?_
 ·have g2 : gd 2 = some 7 := by rw [hgd]; rfl
  clear hgd
  simp (maxSteps := 9^9) (disch := (try simp only [lens]); omega) only [argSl, sm, ↓amb, mark_eq, simprocAttr, fl88_0, sz86, el86, gcase_undef, g2, dx]
  repeat' first | refine hk _ _ rfl rfl rfl rfl ?_ | (refine gsplit (fun hg => ?_) (fun hg => ?_) <;> (try simp only [hbx] at hg) <;> simp (maxSteps := 9^9) (disch := (try simp only [lens]); omega) only [argSl, sm, ↓amb, mark_eq, simprocAttr, fl88_0, sz86, el86, gcase_undef, g2, dx]) | apply And.intro | fail
  all_goals first | rfl | omega | exact (decide_eq_true (by omega)).symm | exact (decide_eq_false (by omega)).symm | exact decide_eq_decide.mpr (by omega) | (refine Bool.eq_iff_iff.mpr ?_; simp only [beq_iff_eq, bne_iff_ne, ne_eq, decide_eq_true_eq]; omega) | (refine Bool.eq_iff_iff.mpr ?_; simp only [Bool.not_eq_true', Bool.not_eq_false', decide_eq_false_iff_not, decide_eq_true_eq, beq_iff_eq, bne_iff_ne, ne_eq]; omega) | assumption | (simp; done) | (simp [maxLen]; omega) | skip
 simp only [kp, argSl, simprocAttr, List.length_cons, List.length_nil]
 refine awp_ret ?_
 refine ret1 rfl rfl ?_
 exact .p (LeP.refl _)
set_option maxHeartbeats 4000000 in
theorem c40 (c d : Bool) (w : Pl.Work) (i : Int) : PCall Try.prog 88 [workV c d w, iV i] (bV (decide (Pl.great w i))) := by
 refine pcall_of_awp Try.func88 rfl (by simp [Try.ntmps88]) fun C hC => ?_
 refine awp_sr [] (by rw [hC]; rfl) fun k hk => ?_
 simp (maxSteps := 9^9) (disch := (try simp only [lens]); omega) only [argSl, sm, ↓amb, mark_eq, simprocAttr, dx]
 repeat refine ⟨by first | omega | (simp; done) | (unfold maxLen; omega) | (simp [maxLen]; omega) | assumption, ?_⟩
 refine hk _ ?_; clear hk k
 refine awp_testD [] ⟨[0, 1, 3, 7, 7, 31, 63, 127, 255, 511, 255, 2047, 4095, 8191, 255, 16639, 255, 114943, 246015, 508159, 1048575, 255, 2097407, 8388607, 16777215, 33554431], [0, 3, 9, 13, 15, 19, 22], [], [(1, 3), (1, 9), (5, 9), (1, 13), (5, 13), (1, 15), (5, 15), (1, 19), (5, 19), (1, 22), (5, 22)], some []⟩ 4 (decide (Pl.great w i)) [] (by rw [hC]; rfl) (by kernel_rfl) (by kernel_rfl) (fun gd hgd k hk => ?_) ?_
 ·have g2 : gd 2 = some 7 := by rw [hgd]; rfl
  have g7 : gd 7 = some 12 := by rw [hgd]; rfl
  clear hgd
  simp (maxSteps := 9^9) (disch := (try simp only [lens]); omega) only [argSl, sm, ↓amb, mark_eq, simprocAttr, sz88, en96, en98, fl88_0, sz86, el86, sz118, fl118_1, sz3, fl118_0, fl88_1, gcase_undef, g2, g7, dx]
  repeat' first | refine hk _ _ rfl rfl rfl rfl ?_ | (refine gsplit (fun hg => ?_) (fun hg => ?_) <;> (try simp only [hbx] at hg) <;> (try (have hth := Pl.there_of (by assumption) hg; have q := Pl.ok_of hth; obtain ⟨_, hi0, hi1, hok, _, _, _, _⟩ := q; simp only [Pl.okT, Pl.task] at hok)) <;> simp (maxSteps := 9^9) (disch := (try simp only [lens]); omega) only [argSl, sm, ↓amb, mark_eq, simprocAttr, sz88, en96, en98, fl88_0, sz86, el86, sz118, fl118_1, sz3, fl118_0, fl88_1, gcase_undef, g2, g7, dx]) | apply And.intro | (refine callK_p (c38 _ _ _) rfl ?_; (try simp (maxSteps := 9^9) (disch := (try simp only [lens]); omega) only [argSl, sm, ↓amb, mark_eq, simprocAttr, sz88, en96, en98, fl88_0, sz86, el86, sz118, fl118_1, sz3, fl118_0, fl88_1, gcase_undef, g2, g7, dx])) | (refine callK_p (c52 _ _ _ _) rfl ?_; (try simp (maxSteps := 9^9) (disch := (try simp only [lens]); omega) only [argSl, sm, ↓amb, mark_eq, simprocAttr, sz88, en96, en98, fl88_0, sz86, el86, sz118, fl118_1, sz3, fl118_0, fl88_1, gcase_undef, g2, g7, dx])) | fail
  all_goals first | rfl | omega | exact (decide_eq_true (by (try simp only [Pl.great] at *); omega)).symm | exact (decide_eq_false (by (try simp only [Pl.great] at *); omega)).symm | exact decide_eq_decide.mpr (by (try simp only [Pl.great] at *); omega) | (refine Bool.eq_iff_iff.mpr ?_; (try simp only [Pl.great] at *); simp only [beq_iff_eq, bne_iff_ne, ne_eq, decide_eq_true_eq]; omega) | (refine Bool.eq_iff_iff.mpr ?_; simp only [Bool.not_eq_true', Bool.not_eq_false', decide_eq_false_iff_not, decide_eq_true_eq, beq_iff_eq, bne_iff_ne, ne_eq]; (try simp only [Pl.great] at *); omega) | assumption | (simp; done) | (simp [maxLen]; omega) | skip
  all_goals first | exact decide_eq_decide.mpr ⟨fun h => ⟨hth, h⟩, fun h => h.2⟩ | exact (decide_eq_false (p := Pl.great w i) (by intro h; obtain ⟨a, b, e, _⟩ := Pl.ok_of h.1; first | exact hg a | exact hg ⟨b, e⟩ | omega)).symm
 simp only [kp, argSl, simprocAttr, List.length_cons, List.length_nil]
 refine awp_ret ?_
 refine ret1 rfl rfl ?_
 exact .p (LeP.refl _)
set_option maxHeartbeats 4000000 in
theorem c27 (c d : Bool) (w : Pl.Work) (h1 : w.ts.length ≤ 1000000) (h2 : w.done.length ≤ 1000000) : HCall Try.prog 97 [.p (workV c d w)] [] (.agg [.own 0, .p (iV w.grain), .own 1]) [(0, .row 4 (lift (w.ts.map taskC))), (1, .row 1 (lift (w.done.map fun b => [bV b])))] := by
 refine hcall_of_awp Try.func97 rfl (by simp [Try.ntmps97]) fun C hC => ?_
 refine awp_sr [6, 12] (by rw [hC]; rfl) fun k hk => ?_
 simp (maxSteps := 9^9) (disch := (try simp only [lens]); omega) only [argSl, sm, ↓amb, mark_eq, simprocAttr, vr88, dx]
 repeat refine ⟨by first | omega | (simp; done) | (unfold maxLen; omega) | (simp [maxLen]; omega) | assumption, ?_⟩
 refine hk _ ?_; clear hk k
 refine awp_sd [6, 12] ⟨[0, 0, 2, 7, 0, 16, 0, 0, 128, 463, 1023, 2047], [2, 3, 5, 8, 9], [11], [(3, 9), (3, 11), (9, 11)], none⟩ (by rw [hC]; rfl) (by kernel_rfl) (by kernel_rfl) fun k hk => ?_
 simp (maxSteps := 9^9) (disch := (try simp only [lens]); omega) only [argSl, sm, ↓amb, mark_eq, simprocAttr, el86, vr118, fl88_0, sz86, by118, fl88_1, sz3, el23, vr4, fl88_2, sz23, by4, vr88, bt88, pl88_0, pl88_1, pl88_2, sz88, dx]
 repeat refine ⟨by first | omega | (simp; done) | (unfold maxLen; omega) | (simp [maxLen]; omega) | assumption, ?_⟩
 refine hk _ ?_; clear hk k
 refine awp_ret ?_
 refine rethc rfl rfl sz88 ?_
 simp (maxSteps := 9^9) (disch := (try simp only [lens]); omega) only [argSl, sm, ↓amb, mark_eq, simprocAttr, sz88, dx]
 exact le_of [(0, _), (1, _)] (by rfl) (by rfl) ⟨⟨_, rfl, .agg rfl (LeRow.cons (.own rfl) (LeRow.cons (.p (.refl _)) (LeRow.cons (.own rfl) .nil))).2⟩, trivial⟩ ⟨⟨_, rfl, _, rfl, .lift _⟩, ⟨_, rfl, _, rfl, .lift _⟩, trivial⟩
set_option maxHeartbeats 4000000 in
theorem c29 (c d : Bool) (w : Pl.Work) (i : Int) : PCall Try.prog 89 [workV c d w, iV i] (.tup [workV false false (Pl.partW w i), iV (Pl.partA w i), iV (Pl.partB w i), iV (Pl.partE w i)]) := by
 refine pcall_of_awp Try.func89 rfl (by simp [Try.ntmps89]) fun C hC => ?_
 refine awp_sr [] (by rw [hC]; rfl) fun k hk => ?_
 simp (maxSteps := 9^9) (disch := (try simp only [lens]); omega) only [argSl, sm, ↓amb, mark_eq, simprocAttr, vr88, dx]
 repeat refine ⟨by first | omega | (simp; done) | (unfold maxLen; omega) | (simp [maxLen]; omega) | assumption, ?_⟩
 refine hk _ ?_; clear hk k
 refine awp_seq fun k1 h1 => ?_
 refine awp_block ?_
 refine awp_sr [] (by rw [hC]; rfl) fun k hk => ?_
 simp (maxSteps := 9^9) (disch := (try simp only [lens]); omega) only [argSl, sm, ↓amb, mark_eq, simprocAttr, sz88, en96, dx]
 repeat refine ⟨by first | omega | (simp; done) | (unfold maxLen; omega) | (simp [maxLen]; omega) | assumption, ?_⟩
 refine callK_p (c38 _ _ _) rfl ?_
 simp (maxSteps := 9^9) (disch := (try simp only [lens]); omega) only [argSl, sm, ↓amb, mark_eq, simprocAttr, sz88, en96, dx]
 repeat refine ⟨by first | omega | (simp; done) | (unfold maxLen; omega) | (simp [maxLen]; omega) | assumption, ?_⟩
 refine hk _ ?_; clear hk k
 refine awp_cond rfl (fun hb => ?_) (fun hb => ?_)
 ·try simp only [hbx] at hb
  refine awp_sr [] (by rw [hC]; rfl) fun k hk => ?_
  simp (maxSteps := 9^9) (disch := (try simp only [lens]); omega) only [argSl, sm, ↓amb, mark_eq, simprocAttr, sz88, dx]
  repeat refine ⟨by first | omega | (simp; done) | (unfold maxLen; omega) | (simp [maxLen]; omega) | assumption, ?_⟩
  refine hk _ ?_; clear hk k
  refine awp_ret ?_
  obtain ⟨e1, e2, e3, e4⟩ := Pl.part_err (w := w) (i := i) ((Pl.partE1 (by rw [Pl.there, if_pos hb]; decide)).trans (by rw [Pl.there, if_pos hb])) (by decide)
  rw [e1, e2, e3, e4]
  refine retl rfl rfl ⟨retc rfl sz88 ?_, rett rfl ?_, rett rfl ?_, rett rfl ?_, trivial⟩
  simp (maxSteps := 9^9) (disch := (try simp only [lens]); omega) only [argSl, sm, ↓amb, mark_eq, simprocAttr, sz88, dx]
  ·exact .p (LeP.agg (.cons (LeP.seq _ _) (.cons (LeP.refl _) (.cons (LeP.seq _ _) .nil))))
  ·exact .p (LeP.refl _)
  ·exact .p (LeP.refl _)
  ·exact .p (LeP.refl _)
 ·try simp only [hbx] at hb
  have hR := hb
  refine awp_sr [] (by rw [hC]; rfl) fun k hk => ?_
  simp (maxSteps := 9^9) (disch := (try simp only [lens]); omega) only [argSl, sm, ↓amb, mark_eq, simprocAttr, sz88, en98, dx]
  repeat refine ⟨by first | omega | (simp; done) | (unfold maxLen; omega) | (simp [maxLen]; omega) | assumption, ?_⟩
  refine callK_p (c52 _ _ _ _) rfl ?_
  simp (maxSteps := 9^9) (disch := (try simp only [lens]); omega) only [argSl, sm, ↓amb, mark_eq, simprocAttr, sz88, en98, dx]
  repeat refine ⟨by first | omega | (simp; done) | (unfold maxLen; omega) | (simp [maxLen]; omega) | assumption, ?_⟩
  refine hk _ ?_; clear hk k
  refine awp_cond rfl (fun hb => ?_) (fun hb => ?_)
  ·try simp only [hbx] at hb
   refine awp_sr [] (by rw [hC]; rfl) fun k hk => ?_
   simp (maxSteps := 9^9) (disch := (try simp only [lens]); omega) only [argSl, sm, ↓amb, mark_eq, simprocAttr, sz88, dx]
   repeat refine ⟨by first | omega | (simp; done) | (unfold maxLen; omega) | (simp [maxLen]; omega) | assumption, ?_⟩
   refine hk _ ?_; clear hk k
   refine awp_ret ?_
   obtain ⟨e1, e2, e3, e4⟩ := Pl.part_err (w := w) (i := i) ((Pl.partE1 (by rw [Pl.there, if_neg (by simpa using hR), if_pos (by omega)]; decide)).trans (by rw [Pl.there, if_neg (by simpa using hR), if_pos (by omega)])) (by decide)
   rw [e1, e2, e3, e4]
   refine retl rfl rfl ⟨retc rfl sz88 ?_, rett rfl ?_, rett rfl ?_, rett rfl ?_, trivial⟩
   simp (maxSteps := 9^9) (disch := (try simp only [lens]); omega) only [argSl, sm, ↓amb, mark_eq, simprocAttr, sz88, dx]
   ·exact .p (LeP.agg (.cons (LeP.seq _ _) (.cons (LeP.refl _) (.cons (LeP.seq _ _) .nil))))
   ·exact .p (LeP.refl _)
   ·exact .p (LeP.refl _)
   ·exact .p (LeP.refl _)
  ·try simp only [hbx] at hb
   have hth := Pl.there_of hR (by assumption)
   obtain ⟨_, hi0, hi1, hok, hd1, hg1, hg2, ht1⟩ := Pl.ok_of hth
   simp only [Pl.okT, Pl.task] at hok
   have hin : i.toNat < w.ts.length := by omega
   refine awp_test [] 23 (decide (¬ Pl.great w i ∨ ¬ (w.ts.getD i.toNat default).wait = 0)) [1, 2, 4, 5, 6, 7] (by rw [hC]; rfl) (fun gd hgd k hk => ?_) ?_
   ·have g4 : gd 4 = some 28 := by rw [hgd]; rfl
    clear hgd
    simp (maxSteps := 9^9) (disch := (try simp only [lens]); omega) only [argSl, sm, ↓amb, mark_eq, simprocAttr, sz88, en88, fl88_0, sz86, el86, sz118, fl118_3, sz3, gcase_undef, g4, dx]
    repeat' first | refine hk _ _ rfl rfl rfl rfl ?_ | (refine gsplit (fun hg => ?_) (fun hg => ?_) <;> (try simp only [hbx] at hg) <;> simp (maxSteps := 9^9) (disch := (try simp only [lens]); omega) only [argSl, sm, ↓amb, mark_eq, simprocAttr, sz88, en88, fl88_0, sz86, el86, sz118, fl118_3, sz3, gcase_undef, g4, dx]) | apply And.intro | (refine callK_p (c40 _ _ _ _) rfl ?_; (try simp (maxSteps := 9^9) (disch := (try simp only [lens]); omega) only [argSl, sm, ↓amb, mark_eq, simprocAttr, sz88, en88, fl88_0, sz86, el86, sz118, fl118_3, sz3, gcase_undef, g4, dx])) | fail
    all_goals first | rfl | omega | exact (decide_eq_true (by (try simp only [Pl.great, Pl.task] at *); omega)).symm | exact (decide_eq_false (by (try simp only [Pl.great, Pl.task] at *); omega)).symm | exact decide_eq_decide.mpr (by (try simp only [Pl.great, Pl.task] at *); omega) | (refine Bool.eq_iff_iff.mpr ?_; (try simp only [Pl.great, Pl.task] at *); simp only [beq_iff_eq, bne_iff_ne, ne_eq, decide_eq_true_eq]; omega) | (refine Bool.eq_iff_iff.mpr ?_; simp only [Bool.not_eq_true', Bool.not_eq_false', decide_eq_false_iff_not, decide_eq_true_eq, beq_iff_eq, bne_iff_ne, ne_eq]; (try simp only [Pl.great, Pl.task] at *); omega) | assumption | (simp; done) | (simp [maxLen]; omega) | skip
    all_goals first | (simp only [hg, not_true_eq_false, false_or]; exact Pl.int_ne _) | (simp [hg]; done)
   simp only [kp, argSl, simprocAttr, List.length_cons, List.length_nil]
   refine awp_cond rfl (fun hb => ?_) (fun hb => ?_)
   ·try simp only [hbx] at hb
    refine awp_sr [] (by rw [hC]; rfl) fun k hk => ?_
    simp (maxSteps := 9^9) (disch := (try simp only [lens]); omega) only [argSl, sm, ↓amb, mark_eq, simprocAttr, sz88, dx]
    repeat refine ⟨by first | omega | (simp; done) | (unfold maxLen; omega) | (simp [maxLen]; omega) | assumption, ?_⟩
    refine hk _ ?_; clear hk k
    refine awp_ret ?_
    obtain ⟨e1, e2, e3, e4⟩ := Pl.part_err (w := w) (i := i) (Pl.partE2 hth (by simp only [Pl.great, Pl.task] at *; omega)) (by decide)
    rw [e1, e2, e3, e4]
    refine retl rfl rfl ⟨retc rfl sz88 ?_, rett rfl ?_, rett rfl ?_, rett rfl ?_, trivial⟩
    simp (maxSteps := 9^9) (disch := (try simp only [lens]); omega) only [argSl, sm, ↓amb, mark_eq, simprocAttr, sz88, dx]
    ·exact .p (LeP.agg (.cons (LeP.seq _ _) (.cons (LeP.refl _) (.cons (LeP.seq _ _) .nil))))
    ·exact .p (LeP.refl _)
    ·exact .p (LeP.refl _)
    ·exact .p (LeP.refl _)
   ·try simp only [hbx] at hb
    have hgr := hb
    refine awp_sr [] (by rw [hC]; rfl) fun k hk => ?_
    simp (maxSteps := 9^9) (disch := (try simp only [lens]); omega) only [argSl, sm, ↓amb, mark_eq, simprocAttr, fl88_0, sz86, el86, dx]
    repeat refine ⟨by first | omega | (simp; done) | (unfold maxLen; omega) | (simp [maxLen]; omega) | assumption, ?_⟩
    refine hk _ ?_; clear hk k
    refine awp_cond rfl (fun hb => ?_) (fun hb => ?_)
    ·try simp only [hbx] at hb
     refine awp_sr [] (by rw [hC]; rfl) fun k hk => ?_
     simp (maxSteps := 9^9) (disch := (try simp only [lens]); omega) only [argSl, sm, ↓amb, mark_eq, simprocAttr, sz88, dx]
     repeat refine ⟨by first | omega | (simp; done) | (unfold maxLen; omega) | (simp [maxLen]; omega) | assumption, ?_⟩
     refine hk _ ?_; clear hk k
     refine awp_ret ?_
     obtain ⟨e1, e2, e3, e4⟩ := Pl.part_err (w := w) (i := i) (Pl.partE3 hth (by simp only [Pl.great, Pl.task] at *; omega) (by omega)) (by decide)
     rw [e1, e2, e3, e4]
     refine retl rfl rfl ⟨retc rfl sz88 ?_, rett rfl ?_, rett rfl ?_, rett rfl ?_, trivial⟩
     simp (maxSteps := 9^9) (disch := (try simp only [lens]); omega) only [argSl, sm, ↓amb, mark_eq, simprocAttr, sz88, dx]
     ·exact .p (LeP.agg (.cons (LeP.seq _ _) (.cons (LeP.refl _) (.cons (LeP.seq _ _) .nil))))
     ·exact .p (LeP.refl _)
     ·exact .p (LeP.refl _)
     ·exact .p (LeP.refl _)
    ·try simp only [hbx] at hb
     refine awp_skip ?_
     refine h1 _ ?_; clear h1 k1
     have h0 := Pl.partE0 hth (by simp only [Pl.great, Pl.task] at *; omega) (by omega)
     refine awp_sr [] (by rw [hC]; rfl) fun k hk => ?_
     simp (maxSteps := 9^9) (disch := (try simp only [lens]); omega) only [argSl, sm, ↓amb, mark_eq, simprocAttr, sz88, en97, vr88, dx]
     repeat refine ⟨by first | omega | (simp; done) | (unfold maxLen; omega) | (simp [maxLen]; omega) | assumption, ?_⟩
     refine callK_h (c27 c d w (by omega) (by omega)) [] [] (by first | rfl | (simp only [hm]; done)) (by first | rfl | (simp [namesOk, lkp]; done)) ?_ ?_ ?_ ?_ ?_ ?_ ?_
     (iterate 6 (focus (first | trivial | (intro n hn; cases hn; done) | (simp (maxSteps := 9^9) (disch := (try simp only [lens]); omega) only [argSl, sm, ↓amb, mark_eq, simprocAttr, sz88, en97, vr88, dx, hmx, List.filter_cons, Nat.reduceBNe, imp_self, implies_true]; done))))
     simp (maxSteps := 9^9) (disch := (try simp only [lens]); omega) only [argSl, sm, ↓amb, mark_eq, simprocAttr, sz88, en97, vr88, dx, hm, List.filter_cons, List.filter_nil, Nat.reduceBNe, Option.map_none]
     repeat refine ⟨by first | omega | (simp; done) | (unfold maxLen; omega) | (simp [maxLen]; omega) | assumption, ?_⟩
     refine hk _ ?_; clear hk k
     refine awp_sr [] (by rw [hC]; rfl) fun k hk => ?_
     simp (maxSteps := 9^9) (disch := (try simp only [lens]); omega) only [argSl, sm, ↓amb, mark_eq, simprocAttr, fl88_0, sz86, el86, dx]
     repeat refine ⟨by first | omega | (simp; done) | (unfold maxLen; omega) | (simp [maxLen]; omega) | assumption, ?_⟩
     refine hk _ ?_; clear hk k
     refine awp_sr [] (by rw [hC]; rfl) fun k hk => ?_
     simp (maxSteps := 9^9) (disch := (try simp only [lens]); omega) only [argSl, sm, ↓amb, mark_eq, simprocAttr, fl88_0, sz86, el86, sz118, vr118, dx]
     repeat refine ⟨by first | omega | (simp; done) | (unfold maxLen; omega) | (simp [maxLen]; omega) | assumption, ?_⟩
     refine hk _ ?_; clear hk k
     refine awp_sr [] (by rw [hC]; rfl) fun k hk => ?_
     simp (maxSteps := 9^9) (disch := (try simp only [lens]); omega) only [argSl, sm, ↓amb, mark_eq, simprocAttr, fl118_0, sz3, fl118_1, dx]
     repeat refine ⟨by first | omega | (simp; done) | (unfold maxLen; omega) | (simp [maxLen]; omega) | assumption, ?_⟩
     refine hk _ ?_; clear hk k
     refine awp_sr [] (by rw [hC]; rfl) fun k hk => ?_
     simp (maxSteps := 9^9) (disch := (try simp only [lens]); omega) only [argSl, sm, ↓amb, mark_eq, simprocAttr, fl88_0, sz86, el86, sz118, fl118_3, sz3, dx]
     repeat refine ⟨by first | omega | (simp; done) | (unfold maxLen; omega) | (simp [maxLen]; omega) | assumption, ?_⟩
     refine hk _ ?_; clear hk k
     refine awp_sr [] (by rw [hC]; rfl) fun k hk => ?_
     simp (maxSteps := 9^9) (disch := (try simp only [lens]); omega) only [argSl, sm, ↓amb, mark_eq, simprocAttr, fl88_0, sz86, fl118_0, sz3, vr118, bt118, pl118_0, pl118_1, pl118_2, fl118_1, el86, by118, dx]
     repeat refine ⟨by first | omega | (simp; done) | (unfold maxLen; omega) | (simp [maxLen]; omega) | assumption, ?_⟩
     refine hk _ ?_; clear hk k
     refine awp_sr [] (by rw [hC]; rfl) fun k hk => ?_
     simp (maxSteps := 9^9) (disch := (try simp only [lens]); omega) only [argSl, sm, ↓amb, mark_eq, simprocAttr, sz88, dx]
     repeat refine ⟨by first | omega | (simp; done) | (unfold maxLen; omega) | (simp [maxLen]; omega) | assumption, ?_⟩
     refine hk _ ?_; clear hk k
     refine awp_ret ?_
     obtain ⟨e1, e2, e3, e4⟩ := Pl.part_ok h0
     rw [e1, e2, e3, e4]
     refine retl rfl rfl ⟨retc rfl sz88 ?_, rett rfl ?_, rett rfl ?_, rett rfl ?_, trivial⟩
     simp (maxSteps := 9^9) (disch := (try simp only [lens]); omega) only [argSl, sm, ↓amb, mark_eq, simprocAttr, sz88, dx]
     ·exact .agg_cons (.p (LeP.sq (by simp [Pl.parted, Pl.mid, List.map_set]))) (.agg_cons (.p (LeP.refl _)) (.agg_cons (.ownE rfl rfl) (.agg_nil)))
     ·exact .p (LeP.refl _)
     ·exact .p (LeP.refl _)
     ·exact .p (LeP.refl _)
set_option maxHeartbeats 4000000 in
theorem c18 (c : Bool) (l : List Int) (hl : l.length ≤ 1000000) : PCall Try.prog 86 [ints c l] (popS l) := by
 refine pcall_of_awp Try.func86 rfl (by simp [Try.ntmps86]) fun C hC => ?_
 refine awp_sr [] (by rw [hC]; rfl) fun k hk => ?_
 simp (maxSteps := 9^9) (disch := (try simp only [lens]); omega) only [argSl, sm, ↓amb, mark_eq, simprocAttr, dx]
 repeat refine ⟨by first | omega | (simp; done) | (unfold maxLen; omega) | (simp [maxLen]; omega) | assumption, ?_⟩
 refine hk _ ?_; clear hk k
 refine awp_seq fun k1 h1 => ?_
 refine awp_sr [] (by rw [hC]; rfl) fun k hk => ?_
 simp (maxSteps := 9^9) (disch := (try simp only [lens]); omega) only [argSl, sm, ↓amb, mark_eq, simprocAttr, el33, dx]
 repeat refine ⟨by first | omega | (simp; done) | (unfold maxLen; omega) | (simp [maxLen]; omega) | assumption, ?_⟩
 refine hk _ ?_; clear hk k
 refine awp_cond rfl (fun hb => ?_) (fun hb => ?_)
 ·try simp only [hbx] at hb
  refine awp_sr [] (by rw [hC]; rfl) fun k hk => ?_
  simp (maxSteps := 9^9) (disch := (try simp only [lens]); omega) only [argSl, sm, ↓amb, mark_eq, simprocAttr, dx]
  repeat refine ⟨by first | omega | (simp; done) | (unfold maxLen; omega) | (simp [maxLen]; omega) | assumption, ?_⟩
  refine hk _ ?_; clear hk k
  refine awp_ret ?_
  obtain rfl : l = [] := List.eq_nil_of_length_eq_zero (by omega)
  refine ret3 rfl rfl rfl rfl ?_ ?_ ?_
  ·exact .p (LeP.seq _ _)
  ·exact .p (LeP.refl _)
  ·exact .p (LeP.refl _)
 ·try simp only [hbx] at hb
  refine awp_skip ?_
  refine h1 _ ?_; clear h1 k1
  refine awp_sr [] (by rw [hC]; rfl) fun k hk => ?_
  simp (maxSteps := 9^9) (disch := (try simp only [lens]); omega) only [argSl, sm, ↓amb, mark_eq, simprocAttr, el33, dx]
  repeat refine ⟨by first | omega | (simp; done) | (unfold maxLen; omega) | (simp [maxLen]; omega) | assumption, ?_⟩
  refine hk _ ?_; clear hk k
  refine awp_sd [] ⟨[0, 0, 0, 6, 15, 0, 0, 96, 224, 31, 1023, 2047], [4, 8], [], [], some []⟩ (by rw [hC]; rfl) (by kernel_rfl) (by kernel_rfl) fun k hk => ?_
  simp (maxSteps := 9^9) (disch := (try simp only [lens]); omega) only [argSl, sm, ↓amb, mark_eq, simprocAttr, el33, vr3, sz3, by3, dx]
  repeat refine ⟨by first | omega | (simp; done) | (unfold maxLen; omega) | (simp [maxLen]; omega) | assumption, ?_⟩
  refine hk _ ?_; clear hk k
  refine awp_ret ?_
  refine ret3 rfl rfl rfl rfl ?_ ?_ ?_
  ·exact .p (LeP.sq (by simp [List.dropLast_eq_take]))
  ·exact .p (LeP.refl _)
  ·exact .p (LeP.of_eq (by rw [if_neg (by omega)]))
set_option maxHeartbeats 4000000 in
theorem c20 (c : Bool) (l : List Int) (hl : l.length ≤ 1000000) : PCall Try.prog 87 [ints c l] (stealS l) := by
 refine pcall_of_awp Try.func87 rfl (by simp [Try.ntmps87]) fun C hC => ?_
 refine awp_sr [] (by rw [hC]; rfl) fun k hk => ?_
 simp (maxSteps := 9^9) (disch := (try simp only [lens]); omega) only [argSl, sm, ↓amb, mark_eq, simprocAttr, dx]
 repeat refine ⟨by first | omega | (simp; done) | (unfold maxLen; omega) | (simp [maxLen]; omega) | assumption, ?_⟩
 refine hk _ ?_; clear hk k
 refine awp_seq fun k1 h1 => ?_
 refine awp_sr [] (by rw [hC]; rfl) fun k hk => ?_
 simp (maxSteps := 9^9) (disch := (try simp only [lens]); omega) only [argSl, sm, ↓amb, mark_eq, simprocAttr, el33, dx]
 repeat refine ⟨by first | omega | (simp; done) | (unfold maxLen; omega) | (simp [maxLen]; omega) | assumption, ?_⟩
 refine hk _ ?_; clear hk k
 refine awp_cond rfl (fun hb => ?_) (fun hb => ?_)
 ·try simp only [hbx] at hb
  refine awp_sr [] (by rw [hC]; rfl) fun k hk => ?_
  simp (maxSteps := 9^9) (disch := (try simp only [lens]); omega) only [argSl, sm, ↓amb, mark_eq, simprocAttr, dx]
  repeat refine ⟨by first | omega | (simp; done) | (unfold maxLen; omega) | (simp [maxLen]; omega) | assumption, ?_⟩
  refine hk _ ?_; clear hk k
  refine awp_ret ?_
  obtain rfl : l = [] := List.eq_nil_of_length_eq_zero (by omega)
  refine ret3 rfl rfl rfl rfl ?_ ?_ ?_
  ·exact .p (LeP.seq _ _)
  ·exact .p (LeP.refl _)
  ·exact .p (LeP.refl _)
 ·try simp only [hbx] at hb
  refine awp_skip ?_
  refine h1 _ ?_; clear h1 k1
  refine awp_sd [] ⟨[0, 0, 2, 7, 0, 16, 48, 15, 255, 511], [3, 6], [], [], some []⟩ (by rw [hC]; rfl) (by kernel_rfl) (by kernel_rfl) fun k hk => ?_
  simp (maxSteps := 9^9) (disch := (try simp only [lens]); omega) only [argSl, sm, ↓amb, mark_eq, simprocAttr, el33, vr3, sz3, by3, dx]
  repeat refine ⟨by first | omega | (simp; done) | (unfold maxLen; omega) | (simp [maxLen]; omega) | assumption, ?_⟩
  refine hk _ ?_; clear hk k
  refine awp_ret ?_
  refine ret3 rfl rfl rfl rfl ?_ ?_ ?_
  ·exact .p (LeP.sq (by simp))
  ·exact .p (LeP.refl _)
  ·exact .p (LeP.of_eq (by rw [if_neg (by omega)]))
end Go.Proofs.Ytbehekmnccoifaa
end
section
set_option linter.unusedSimpArgs false
set_option linter.unusedVariables false
set_option maxRecDepth 100000
namespace Go.Proofs.Ytbehekmnccoifaa
open Go.Am Go.Proofs
theorem mx1 (es : List (List PV)) (id sz k off : Nat) (vs : List AV) (K : Upd → Prop) : storeL none es id sz k off vs K = K ⟨.p (.lit undef), [(id, some (.row sz ((lift es).set k (splice ((es.getD k []).map .p) off vs))))]⟩ := rfl
theorem mx2 (es : List (List PV)) (sz k off n : Nat) (cs : List AV) (K : AV → Prop) : loadB (some (.row sz ((lift es).set k cs))) sz k off false n K = (k < es.length ∧ onE cs[off]? K) := by
  have hl : (lift es).length = es.length := by simp [lift]
  refine propext ⟨?_, ?_⟩
  · rintro ⟨_, h, ds, hd, hk⟩
    injection h with h; injection h with h1 h2; subst h2
    rw [List.getElem?_set] at hd
    split at hd
    · split at hd
      · injection hd with hd; subst hd; exact ⟨by omega, by simpa [onE] using hk⟩
      · cases hd
    · exact absurd rfl ‹_›
  · rintro ⟨h1, x, h2, h3⟩
    exact ⟨_, rfl, cs, List.getElem?_set_self (by omega), by simpa using ⟨x, h2, h3⟩⟩
theorem mx3 (es : List (List PV)) (id sz k off : Nat) (cs vs : List AV) (K : Upd → Prop) : storeB (some (.row sz ((lift es).set k cs))) id sz k off vs K = (k < es.length ∧ off + vs.length ≤ cs.length ∧ K ⟨.p (.lit undef), [(id, some (.row sz ((lift es).set k (splice cs off vs))))]⟩) := by
  have hl : (lift es).length = es.length := by simp [lift]
  refine propext ⟨?_, ?_⟩
  · rintro ⟨_, h, ds, hd, h4, hk⟩
    injection h with h; injection h with h1 h2; subst h2
    rw [List.getElem?_set] at hd
    split at hd
    · split at hd
      · injection hd with hd; subst hd
        rw [List.set_set] at hk
        exact ⟨by omega, h4, hk⟩
      · cases hd
    · exact absurd rfl ‹_›
  · rintro ⟨h1, h2, h3⟩
    exact ⟨_, rfl, cs, List.getElem?_set_self (by omega), h2, by rw [List.set_set]; exact h3⟩
theorem mx4 (es : List (List PV)) (k : Nat) (cs : List AV) : ((lift es).set k cs).length = es.length := by simp [lift]
theorem mx : type_of% (And.intro (And.intro @mx1 @mx2) (And.intro @mx3 @mx4)) := And.intro (And.intro @mx1 @mx2) (And.intro @mx3 @mx4)
end Go.Proofs.Ytbehekmnccoifaa
end
section
set_option linter.unusedSimpArgs false
set_option linter.unusedVariables false
set_option maxRecDepth 100000
namespace Go.Proofs.Ytbehekmnccoifaa
open Go.Am Go.Proofs
end Go.Proofs.Ytbehekmnccoifaa
end
section
set_option linter.unusedSimpArgs false
set_option linter.unusedVariables false
set_option maxRecDepth 100000
namespace Go.Proofs.Ytbehekmnccoifaa
open Go.Am Go.Proofs
end Go.Proofs.Ytbehekmnccoifaa
end
section
set_option linter.unusedSimpArgs false
set_option linter.unusedVariables false
set_option maxRecDepth 100000
namespace Go.Proofs.Ytbehekmnccoifaa
open Go.Am Go.Proofs
end Go.Proofs.Ytbehekmnccoifaa
end
section
set_option linter.unusedSimpArgs false
set_option linter.unusedVariables false
namespace Go.Pl
def frm (s : List Int) : List Int := marksL (firstsL s) false
theorem firstsL_get {s : List Int} {i : Nat} (h : i < s.length) : (firstsL s).getD i false = firB s i := by
  unfold firstsL tabB
  rw [List.getD_eq_getElem?_getD, List.getElem?_map, List.getElem?_range h]; rfl
theorem frm_get {s : List Int} {i : Nat} (h : i < s.length) : (frm s).getD i 0 = if firB s i = true then 1 else 0 := by
  unfold frm
  rw [marksL_get (by rw [firstsL_len]; exact h), firstsL_get h]
  cases firB s i <;> rfl
def grWi (s : List Int) (i : Nat) : List Int := onesT (frm s) i
theorem grWi_0 (s : List Int) : grWi s 0 = [] := onesT_0 _
theorem grWi_yes {s : List Int} {i : Nat} (h : i < s.length) (hf : firB s i = true) : grWi s (i + 1) = grWi s i ++ [(i : Int)] := onesT_yes (by rw [frm_get h, if_pos hf])
theorem grWi_no {s : List Int} {i : Nat} (h : i < s.length) (hf : firB s i = false) : grWi s (i + 1) = grWi s i := onesT_no (by rw [frm_get h, if_neg (by rw [hf]; decide)]; decide)
theorem grW_end {l : List Int} {w : Way} (h : grE l.length w = 0) (hs : (grS l w).length = l.length) : grW l w = grWi (grS l w) (grS l w).length := by
  have h0 : raE l.length w.bits w.block w.plan = 0 := h
  have h1 : scE (firstsL (grS l w)).length w.block w.plan = 0 := by
    rw [firstsL_len, hs]
    unfold raE at h0; split at h0
    · exact absurd h0 (by decide)
    · exact h0
  unfold grW
  rw [show whL (firstsL (grS l w)) false w.block w.plan = onesL (marksL (firstsL (grS l w)) false) from if_pos h1, ← onesT_end, marksL_len, firstsL_len]
  rfl
def rgK (s : List Int) (i : Nat) : List Int := sortedL s (grWi s i)
def rgC (s : List Int) (i : Nat) : List Int := cntG i (grWi s i) (grWi s i).length
theorem rgK_len (s : List Int) (i : Nat) : (rgK s i).length = (grWi s i).length := sortedL_len _ _
theorem rgC_len (s : List Int) (i : Nat) : (rgC s i).length = (grWi s i).length := cntG_len _ _ _
theorem rgK_0 (s : List Int) : rgK s 0 = [] := by unfold rgK; rw [grWi_0]; rfl
theorem rgC_0 (s : List Int) : rgC s 0 = [] := by unfold rgC; rw [grWi_0]; rfl
theorem rgK_yes {s : List Int} {i : Nat} (h : i < s.length) (hf : firB s i = true) : rgK s (i + 1) = rgK s i ++ [s.getD i 0] := by
  unfold rgK; rw [grWi_yes h hf, sortedL_snoc, Int.toNat_natCast]
theorem rgK_no {s : List Int} {i : Nat} (h : i < s.length) (hf : firB s i = false) : rgK s (i + 1) = rgK s i := by
  unfold rgK; rw [grWi_no h hf]
theorem cntG_get {n : Nat} {W : List Int} {k j : Nat} (h : j < k) : (cntG n W k).getD j 0 = (if j + 1 < W.length then W.getD (j + 1) 0 else (n : Int)) - W.getD j 0 := by
  unfold cntG
  rw [List.getD_eq_getElem?_getD, List.getElem?_map, List.getElem?_range h]; rfl
theorem rgC_yes {s : List Int} {i : Nat} (h : i < s.length) (hf : firB s i = true) : rgC s (i + 1) = rgC s i ++ [1] := by
  unfold rgC
  rw [grWi_yes h hf]
  generalize grWi s i = W
  rw [List.length_append, List.length_singleton, cntG_snoc]
  congr 1
  · unfold cntG
    refine List.map_congr_left fun j hj => ?_
    have hj := List.mem_range.1 hj
    rw [List.length_append, List.length_singleton, if_pos (by omega)]
    congr 1
    · split
      · rename_i q; rw [List.getD_eq_getElem?_getD, List.getD_eq_getElem?_getD, List.getElem?_append_left q]
      · rename_i q
        rw [List.getD_eq_getElem?_getD, List.getElem?_append_right (by omega), show j + 1 - W.length = 0 by omega]; rfl
    · rw [List.getD_eq_getElem?_getD, List.getD_eq_getElem?_getD, List.getElem?_append_left hj]
  · rw [List.length_append, List.length_singleton, if_neg (by omega), List.getD_eq_getElem?_getD, List.getElem?_append_right (by omega), Nat.sub_self]
    simp only [List.getElem?_cons_zero, Option.getD_some]
    congr 1; omega
theorem rgC_no {s : List Int} {i : Nat} (h : i < s.length) (hf : firB s i = false) : rgC s (i + 1) = (rgC s i).set ((rgK s i).length - 1) ((rgC s i).getD ((rgK s i).length - 1) 0 + 1) := by
  rw [rgK_len]
  unfold rgC
  rw [grWi_no h hf]
  generalize grWi s i = W
  refine list_ext (by rw [List.length_set, cntG_len, cntG_len]) fun j hj => ?_
  rw [cntG_len] at hj
  rw [List.getD_eq_getElem?_getD (l := List.set _ _ _), List.getElem?_set]
  by_cases e : W.length - 1 = j
  · rw [if_pos e, if_pos (by rw [cntG_len]; omega), Option.getD_some, e, cntG_get hj, cntG_get hj, if_neg (by omega), if_neg (by omega)]; omega
  · rw [if_neg e, ← List.getD_eq_getElem?_getD, cntG_get hj, cntG_get hj, if_pos (by omega), if_pos (by omega)]
theorem rg_last {s : List Int} : ∀ i, 0 < i → i ≤ s.length → 0 < (rgK s i).length ∧ (rgK s i).getD ((rgK s i).length - 1) 0 = s.getD (i - 1) 0
  | 0, h, _ => absurd h (by omega)
  | i + 1, _, h => by
    cases hf : firB s i with
    | true =>
      rw [rgK_yes (by omega) hf, List.length_append, List.length_singleton, Nat.add_sub_cancel, Nat.add_sub_cancel, List.getD_eq_getElem?_getD, List.getElem?_append_right (by omega), Nat.sub_self]
      exact ⟨by omega, rfl⟩
    | false =>
      have hi : 0 < i := by
        rcases Nat.eq_zero_or_pos i with e | e
        · rw [firB_0 e] at hf; cases hf
        · exact e
      obtain ⟨q1, q2⟩ := rg_last (s := s) i hi (by omega)
      rw [rgK_no (by omega) hf, Nat.add_sub_cancel]
      refine ⟨q1, q2.trans ?_⟩
      rw [firB_1 (by omega)] at hf
      simpa using hf
theorem rg_test {s : List Int} {i : Nat} (h : i < s.length) : firB s i = false ↔ (0 < (rgK s i).length ∧ (rgK s i).getD ((rgK s i).length - 1) 0 = s.getD i 0) := by
  rcases Nat.eq_zero_or_pos i with e | e
  · subst e
    rw [firB_0 rfl, rgK_0]
    exact ⟨fun z => (by cases z), fun z => absurd z.1 (by decide)⟩
  · obtain ⟨q1, q2⟩ := rg_last (s := s) i e (by omega)
    rw [firB_1 (by omega), q2]
    exact ⟨fun z => ⟨q1, by simpa using z⟩, fun z => by simpa using z.2⟩
theorem rgK_end {l : List Int} {w : Way} (h : grE l.length w = 0) (hs : (grS l w).length = l.length) : grK l w = rgK (grS l w) (grS l w).length ∧ grC l w = rgC (grS l w) (grS l w).length := by
  unfold grK grC rgK rgC
  rw [if_pos h, if_pos h, grW_end h hs, hs]
  exact ⟨rfl, rfl⟩
structure RgI (s : List Int) (i : Nat) : Prop where
  rises : (rgK s i).Pairwise fun x y => x < y
  cnt : ∀ j, j < (rgK s i).length → (rgC s i).getD j 0 = ((s.take i).count ((rgK s i).getD j 0) : Nat) ∧ 0 < (rgC s i).getD j 0
  mem : ∀ x, x ∈ s.take i ↔ x ∈ rgK s i
  sum : (rgC s i).sum = i
theorem sum_set1 : ∀ (l : List Int) (k : Nat), k < l.length → (l.set k (l.getD k 0 + 1)).sum = l.sum + 1
  | [], k, h => absurd h (by simp)
  | x :: l, 0, _ => by simp; omega
  | x :: l, k + 1, h => by
    have ih := sum_set1 l k (by simpa using h)
    simp only [List.set_cons_succ, List.sum_cons, List.getD_cons_succ]
    rw [ih]; omega
theorem rg_inv {s : List Int} (hs : s.Pairwise fun x y => x ≤ y) : ∀ i, i ≤ s.length → RgI s i
  | 0, _ => ⟨by rw [rgK_0]; exact List.Pairwise.nil, fun j hj => by rw [rgK_0] at hj; exact absurd hj (by simp), fun x => by rw [rgK_0, List.take_zero], by rw [rgC_0]; rfl⟩
  | i + 1, hi => by
    have ih := rg_inv hs i (by omega)
    have hlt : i < s.length := by omega
    have hts := take_snoc' s i hlt
    have hle : ∀ x, x ∈ s.take i → x ≤ s.getD i 0 := fun x hx => by
      obtain ⟨j, hj, rfl⟩ := List.getElem_of_mem hx
      rw [List.length_take] at hj
      rw [List.getElem_take, List.getD_eq_getElem?_getD, List.getElem?_eq_getElem hlt]
      exact List.pairwise_iff_getElem.1 hs j i (by omega) hlt (by omega)
    cases hf : firB s i with
    | true =>
      have hno : s.getD i 0 ∉ rgK s i := fun z => by
        have hi0 : 0 < i := by
          rcases Nat.eq_zero_or_pos i with e | e
          · subst e; rw [rgK_0] at z; cases z
          · exact e
        obtain ⟨q1, q2⟩ := rg_last (s := s) i hi0 (by omega)
        have h1 : s.getD (i - 1) 0 ≠ s.getD i 0 := by rw [firB_1 (by omega)] at hf; simpa using hf
        -- the last one is the greatest
        obtain ⟨j, hj, e⟩ := List.getElem_of_mem z
        have h2 : s.getD (i - 1) 0 ≤ s.getD i 0 := hle _ ((ih.mem _).2 (q2 ▸ getD_mem _ _ _ (by omega)))
        rcases Nat.lt_or_ge j ((rgK s i).length - 1) with c | c
        · have h3 := List.pairwise_iff_getElem.1 ih.rises j ((rgK s i).length - 1) hj (by omega) c
          rw [List.getD_eq_getElem?_getD, List.getElem?_eq_getElem (by omega), Option.getD_some] at q2
          rw [e, q2] at h3; omega
        · have : j = (rgK s i).length - 1 := by omega
          subst this
          rw [List.getD_eq_getElem?_getD, List.getElem?_eq_getElem (by omega), Option.getD_some, e] at q2
          exact h1 q2.symm
      refine ⟨?_, fun j hj => ?_, fun x => ?_, ?_⟩
      · rw [rgK_yes hlt hf, List.pairwise_append]
        refine ⟨ih.rises, List.pairwise_singleton _ _, fun a ha b hb => ?_⟩
        rw [List.mem_singleton] at hb; subst hb
        have h1 := hle a ((ih.mem a).2 ha)
        have h2 : a ≠ s.getD i 0 := fun z => hno (z ▸ ha)
        omega
      · rw [rgK_yes hlt hf] at hj ⊢
        rw [rgC_yes hlt hf, hts, List.count_append]
        rw [List.length_append, List.length_singleton] at hj
        rcases Nat.lt_or_ge j (rgK s i).length with c | c
        · have hx := getD_mem (rgK s i) j 0 c
          have hne : s.getD i 0 ≠ (rgK s i).getD j 0 := fun z => hno (z ▸ hx)
          rw [List.getD_eq_getElem?_getD, List.getElem?_append_left (by rw [rgC_len, ← rgK_len]; exact c), List.getD_eq_getElem?_getD (l := rgK s i ++ _), List.getElem?_append_left c, ← List.getD_eq_getElem?_getD, ← List.getD_eq_getElem?_getD]
          rw [List.count_singleton, if_neg (by simpa using hne)]
          exact ih.cnt j c
        · have e : j = (rgK s i).length := by omega
          subst e
          rw [List.getD_eq_getElem?_getD, List.getElem?_append_right (by rw [rgC_len, ← rgK_len]; omega), rgC_len, ← rgK_len, Nat.sub_self, List.getD_eq_getElem?_getD (l := rgK s i ++ _), List.getElem?_append_right (by omega), Nat.sub_self]
          simp only [List.getElem?_cons_zero, Option.getD_some]
          have h0 : (s.take i).count (s.getD i 0) = 0 := List.count_eq_zero.2 fun z => hno ((ih.mem _).1 z)
          rw [h0, List.count_singleton_self]
          exact ⟨rfl, by omega⟩
      · rw [hts, rgK_yes hlt hf, List.mem_append, List.mem_append, ih.mem]
      · rw [rgC_yes hlt hf, List.sum_append, ih.sum]; simp
    | false =>
      obtain ⟨t1, t2⟩ := (rg_test hlt).1 hf
      have hlen : (rgC s i).length = (rgK s i).length := by rw [rgC_len, rgK_len]
      have hmem : s.getD i 0 ∈ rgK s i := t2 ▸ getD_mem _ _ _ (by omega)
      refine ⟨by rw [rgK_no hlt hf]; exact ih.rises, fun j hj => ?_, fun x => ?_, ?_⟩
      · rw [rgK_no hlt hf] at hj ⊢
        rw [rgC_no hlt hf, hts, List.count_append, List.getD_eq_getElem?_getD, List.getElem?_set]
        have q := ih.cnt j hj
        by_cases e : (rgK s i).length - 1 = j
        · rw [if_pos e, if_pos (by omega), Option.getD_some, e, ← t2, e, List.count_singleton_self, q.1]
          exact ⟨by omega, by omega⟩
        · have hne : s.getD i 0 ≠ (rgK s i).getD j 0 := fun z => by
            have h3 := List.pairwise_iff_getElem.1 ih.rises j ((rgK s i).length - 1) hj (by omega) (by omega)
            rw [← t2, List.getD_eq_getElem?_getD, List.getD_eq_getElem?_getD, List.getElem?_eq_getElem hj, List.getElem?_eq_getElem (by omega), Option.getD_some, Option.getD_some] at z
            omega
          rw [if_neg e, ← List.getD_eq_getElem?_getD, List.count_singleton, if_neg (by simpa using hne)]
          exact q
      · rw [hts, rgK_no hlt hf, List.mem_append, ih.mem, List.mem_singleton]
        exact ⟨fun z => by rcases z with z | rfl; exact z; exact hmem, .inl⟩
      · rw [rgC_no hlt hf, sum_set1 _ _ (by omega), ih.sum]; omega
theorem sorted_perm {l o : List Int} (ho : onceP o l.length) : (sortedL l o).Perm l := by
  have hp : (upto 0 (l.length : Int)).Perm o := by
    refine perm_of (nodup_upto _ _) (fun x hx => ?_) (by rw [upto_len, ho.1]; omega) |>.symm
    have := mem_upto.1 hx
    have := ho.2.2 x.toNat (by omega)
    rwa [show ((x.toNat : Nat) : Int) = x by omega] at this
  have h2 := (hp.map fun i => l.getD i.toNat 0).symm
  have e : (upto 0 (l.length : Int)).map (fun i => l.getD i.toNat 0) = l := by
    refine list_ext (by rw [List.length_map, upto_len]; omega) fun j hj => ?_
    rw [List.length_map, upto_len] at hj
    rw [List.getD_eq_getElem?_getD, List.getElem?_map]
    have := upto_get (n := l.length) (u := j) (by omega)
    rw [List.getD_eq_getElem?_getD] at this
    rw [List.getElem?_eq_getElem (by rw [upto_len]; omega)] at this ⊢
    simp only [Option.getD_some, Option.map_some] at this ⊢
    rw [this, Int.toNat_natCast]
  rw [e] at h2
  exact h2
end Go.Pl
end
section
set_option linter.unusedSimpArgs false
set_option linter.unusedVariables false
set_option maxRecDepth 100000
namespace Go.Proofs.Ytbehekmnccoifaa
open Go.Am Go.Proofs
end Go.Proofs.Ytbehekmnccoifaa
end
section
set_option linter.unusedSimpArgs false
set_option linter.unusedVariables false
set_option maxRecDepth 100000
namespace Go.Proofs.Ytbehekmnccoifaa
open Go.Am Go.Proofs
theorem bt26 : tBuilt Try.prog 26 = true := by kernel_rfl
theorem bt47 : tBuilt Try.prog 47 = true := by kernel_rfl
theorem en18 : enters Try.prog 18 = true := by kernel_rfl
theorem en19 : enters Try.prog 19 = true := by kernel_rfl
theorem en26 : enters Try.prog 26 = true := by kernel_rfl
theorem en28 : enters Try.prog 28 = true := by kernel_rfl
theorem en34 : enters Try.prog 34 = true := by kernel_rfl
theorem pl26_0 : tPlace Try.prog 26 0 = some (0, 1) := by kernel_rfl
theorem pl26_1 : tPlace Try.prog 26 1 = some (1, 1) := by kernel_rfl
theorem pl47_0 : tPlace Try.prog 47 0 = some (0, 1) := by kernel_rfl
theorem pl47_1 : tPlace Try.prog 47 1 = some (1, 1) := by kernel_rfl
theorem pl47_2 : tPlace Try.prog 47 2 = some (2, 3) := by kernel_rfl
theorem vr26 : tVar Try.prog 26 = some (true, [.lit (.int .i64 0), .lit (.int .i64 0), .seq true []]) := by kernel_rfl
theorem vr47 : tVar Try.prog 47 = some (true, [.lit (.int .i64 0), .lit (.int .i64 0), .lit (.int .i64 0), .lit (.int .i64 0), .seq true []]) := by kernel_rfl
set_option maxHeartbeats 4000000 in
theorem c_law11_alive : PCall Try.prog 22 [] (bV true) := by
 refine pcall_of_awp Try.func22 rfl (by simp [Try.ntmps22]) fun C hC => ?_
 refine awp_le (le_keep []) ?_
 simp only [kp, argSl, simprocAttr]
 have a1 := c_dedup_Edges true true ([⟨2, 1⟩, ⟨1, 2⟩, ⟨3, 3⟩, ⟨0, 7⟩] : List Pl.Edge) (⟨8, 2, ⟨1, 1, []⟩⟩ : Pl.Way) (by decide)
 rw [if_pos (show (∀ e, e ∈ ([⟨2, 1⟩, ⟨1, 2⟩, ⟨3, 3⟩, ⟨0, 7⟩] : List Pl.Edge) → Pl.fitE e) by decide), if_pos (show (∀ e, e ∈ ([⟨2, 1⟩, ⟨1, 2⟩, ⟨3, 3⟩, ⟨0, 7⟩] : List Pl.Edge) → Pl.fitE e) by decide), if_pos (show (∀ e, e ∈ ([⟨2, 1⟩, ⟨1, 2⟩, ⟨3, 3⟩, ⟨0, 7⟩] : List Pl.Edge) → Pl.fitE e) by decide), show (Pl.grK (Pl.ksE ([⟨2, 1⟩, ⟨1, 2⟩, ⟨3, 3⟩, ⟨0, 7⟩] : List Pl.Edge)) (⟨8, 2, ⟨1, 1, []⟩⟩ : Pl.Way)).map Pl.unkey = ([⟨0, 7⟩, ⟨1, 2⟩] : List Pl.Edge) from by decide +kernel, show Pl.grT (Pl.ksE ([⟨2, 1⟩, ⟨1, 2⟩, ⟨3, 3⟩, ⟨0, 7⟩] : List Pl.Edge)).length (⟨8, 2, ⟨1, 1, []⟩⟩ : Pl.Way) = 35 from by decide +kernel, show Pl.grE (Pl.ksE ([⟨2, 1⟩, ⟨1, 2⟩, ⟨3, 3⟩, ⟨0, 7⟩] : List Pl.Edge)).length (⟨8, 2, ⟨1, 1, []⟩⟩ : Pl.Way) = 0 from by decide +kernel] at a1
 have a2 := c_dedup_Groups true true ([9, 2, 9] : List Int) (⟨8, 2, ⟨1, 1, []⟩⟩ : Pl.Way) (by decide) (by decide)
 rw [show Pl.grK ([9, 2, 9] : List Int) (⟨8, 2, ⟨1, 1, []⟩⟩ : Pl.Way) = ([2, 9] : List Int) from by decide +kernel] at a2
 rw [show Pl.grC ([9, 2, 9] : List Int) (⟨8, 2, ⟨1, 1, []⟩⟩ : Pl.Way) = ([1, 2] : List Int) from by decide +kernel] at a2
 rw [show Pl.grT ([9, 2, 9] : List Int).length (⟨8, 2, ⟨1, 1, []⟩⟩ : Pl.Way) = 35 from by decide +kernel] at a2
 rw [show Pl.grE ([9, 2, 9] : List Int).length (⟨8, 2, ⟨1, 1, []⟩⟩ : Pl.Way) = 0 from by decide +kernel] at a2
 have a3 := c_dedup_Once true true ([9, 2, 9] : List Int) (⟨8, 2, ⟨1, 1, []⟩⟩ : Pl.Way) (by decide) (by decide)
 rw [show Pl.grK ([9, 2, 9] : List Int) (⟨8, 2, ⟨1, 1, []⟩⟩ : Pl.Way) = ([2, 9] : List Int) from by decide +kernel] at a3
 rw [show Pl.grT ([9, 2, 9] : List Int).length (⟨8, 2, ⟨1, 1, []⟩⟩ : Pl.Way) = 35 from by decide +kernel] at a3
 rw [show Pl.grE ([9, 2, 9] : List Int).length (⟨8, 2, ⟨1, 1, []⟩⟩ : Pl.Way) = 0 from by decide +kernel] at a3
 have a4 := c_dedup_Edges true true ([⟨-1, 0⟩] : List Pl.Edge) (⟨8, 2, ⟨1, 1, []⟩⟩ : Pl.Way) (by decide)
 rw [if_neg (show ¬ (∀ e, e ∈ ([⟨-1, 0⟩] : List Pl.Edge) → Pl.fitE e) by decide), if_neg (show ¬ (∀ e, e ∈ ([⟨-1, 0⟩] : List Pl.Edge) → Pl.fitE e) by decide), if_neg (show ¬ (∀ e, e ∈ ([⟨-1, 0⟩] : List Pl.Edge) → Pl.fitE e) by decide)] at a4
 have a5 := c_dedup_Key ⟨5, 3⟩
 rw [show Pl.keyE ⟨5, 3⟩ = 196613 from by decide, decide_eq_true (by decide)] at a5
 have b1 := c_ref11_Same false true ([⟨0, 7⟩, ⟨1, 2⟩] : List Pl.Edge) ([⟨0, 7⟩, ⟨1, 2⟩] : List Pl.Edge) (by decide)
 have b2 := c_ref07_Words false true ([2, 9] : List Int) ([2, 9] : List Int) (by decide)
 have b3 := c23 false true ([1, 2] : List Int) ([1, 2] : List Int) (by decide)
 have b4 := c_ref07_Words false false ([2, 9] : List Int) ([2, 9] : List Int) (by decide)
 have a6 := c_dedup_Edge 196613 (by decide)
 rw [show Pl.unkey 196613 = ⟨3, 5⟩ from by decide] at a6
 have b5 := c_dedup_Without true true ([1, 2, 3] : List Int) ([2] : List Int) (by decide) (by decide)
 rw [show Pl.woL ([1, 2, 3] : List Int) ([2] : List Int) = ([1, 3] : List Int) from by decide] at b5
 have b6 := c_ref07_Words false true ([1, 3] : List Int) ([1, 3] : List Int) (by decide)
 refine awp_sr [] (by rw [hC]; rfl) fun k hk => ?_
 simp (maxSteps := 9^9) (disch := (try simp only [lens]); omega) only [argSl, sm, ↓amb, mark_eq, simprocAttr, dx]
 repeat refine ⟨by first | omega | (simp; done) | (unfold maxLen; omega) | (simp [maxLen]; omega) | assumption, ?_⟩
 refine hk _ ?_; clear hk k
 refine awp_le (le_keep []) ?_
 simp only [kp, argSl, simprocAttr]
 refine awp_sr [] (by rw [hC]; rfl) fun k hk => ?_
 simp (maxSteps := 9^9) (disch := (try simp only [lens]); omega) only [argSl, sm, ↓amb, mark_eq, simprocAttr, vr26, bt26, pl26_0, pl26_1, vr47, bt47, pl47_0, pl47_1, pl47_2, sz47, dx]
 repeat refine ⟨by first | omega | (simp; done) | (unfold maxLen; omega) | (simp [maxLen]; omega) | assumption, ?_⟩
 refine hk _ ?_; clear hk k
 refine awp_le (le_keep [1]) ?_
 simp only [kp, argSl, simprocAttr]
 refine awp_sr [] (by rw [hC]; rfl) fun k hk => ?_
 simp (maxSteps := 9^9) (disch := (try simp only [lens]); omega) only [argSl, sm, ↓amb, mark_eq, simprocAttr, vr59, bt59, pl59_0, pl59_1, el53, sz47, en28, dx]
 repeat refine ⟨by first | omega | (simp; done) | (unfold maxLen; omega) | (simp [maxLen]; omega) | assumption, ?_⟩
 refine callK_p (a1) rfl ?_
 simp (maxSteps := 9^9) (disch := (try simp only [lens]); omega) only [argSl, sm, ↓amb, mark_eq, simprocAttr, vr59, bt59, pl59_0, pl59_1, el53, sz47, en28, dx]
 repeat refine ⟨by first | omega | (simp; done) | (unfold maxLen; omega) | (simp [maxLen]; omega) | assumption, ?_⟩
 refine hk _ ?_; clear hk k
 refine awp_le (le_keep [1, 2, 3, 4]) ?_
 simp only [kp, argSl, simprocAttr]
 refine awp_sr [] (by rw [hC]; rfl) fun k hk => ?_
 simp (maxSteps := 9^9) (disch := (try simp only [lens]); omega) only [argSl, sm, ↓amb, mark_eq, simprocAttr, el22, vr41, sz47, en23, dx]
 repeat refine ⟨by first | omega | (simp; done) | (unfold maxLen; omega) | (simp [maxLen]; omega) | assumption, ?_⟩
 refine callK_p (a2) rfl ?_
 simp (maxSteps := 9^9) (disch := (try simp only [lens]); omega) only [argSl, sm, ↓amb, mark_eq, simprocAttr, el22, vr41, sz47, en23, dx]
 repeat refine ⟨by first | omega | (simp; done) | (unfold maxLen; omega) | (simp [maxLen]; omega) | assumption, ?_⟩
 refine hk _ ?_; clear hk k
 refine awp_le (le_keep [1, 2, 3, 4, 5, 6, 7, 8]) ?_
 simp only [kp, argSl, simprocAttr]
 refine awp_sr [] (by rw [hC]; rfl) fun k hk => ?_
 simp (maxSteps := 9^9) (disch := (try simp only [lens]); omega) only [argSl, sm, ↓amb, mark_eq, simprocAttr, el22, vr41, sz47, en25, dx]
 repeat refine ⟨by first | omega | (simp; done) | (unfold maxLen; omega) | (simp [maxLen]; omega) | assumption, ?_⟩
 refine callK_p (a3) rfl ?_
 simp (maxSteps := 9^9) (disch := (try simp only [lens]); omega) only [argSl, sm, ↓amb, mark_eq, simprocAttr, el22, vr41, sz47, en25, dx]
 repeat refine ⟨by first | omega | (simp; done) | (unfold maxLen; omega) | (simp [maxLen]; omega) | assumption, ?_⟩
 refine hk _ ?_; clear hk k
 refine awp_le (le_keep [1, 2, 3, 4, 5, 6, 7, 8, 9, 10, 11]) ?_
 simp only [kp, argSl, simprocAttr]
 refine awp_sr [] (by rw [hC]; rfl) fun k hk => ?_
 simp (maxSteps := 9^9) (disch := (try simp only [lens]); omega) only [argSl, sm, ↓amb, mark_eq, simprocAttr, vr59, bt59, pl59_0, el53, sz47, en28, dx]
 repeat refine ⟨by first | omega | (simp; done) | (unfold maxLen; omega) | (simp [maxLen]; omega) | assumption, ?_⟩
 refine callK_p (a4) rfl ?_
 simp (maxSteps := 9^9) (disch := (try simp only [lens]); omega) only [argSl, sm, ↓amb, mark_eq, simprocAttr, vr59, bt59, pl59_0, el53, sz47, en28, dx]
 repeat refine ⟨by first | omega | (simp; done) | (unfold maxLen; omega) | (simp [maxLen]; omega) | assumption, ?_⟩
 refine hk _ ?_; clear hk k
 refine awp_le (le_keep [2, 3, 4, 5, 6, 7, 8, 9, 10, 11, 14]) ?_
 simp only [kp, argSl, simprocAttr]
 refine awp_sr [] (by rw [hC]; rfl) fun k hk => ?_
 simp (maxSteps := 9^9) (disch := (try simp only [lens]); omega) only [argSl, sm, ↓amb, mark_eq, simprocAttr, vr59, bt59, pl59_0, pl59_1, en30, dx]
 repeat refine ⟨by first | omega | (simp; done) | (unfold maxLen; omega) | (simp [maxLen]; omega) | assumption, ?_⟩
 refine callK_p (a5) rfl ?_
 simp (maxSteps := 9^9) (disch := (try simp only [lens]); omega) only [argSl, sm, ↓amb, mark_eq, simprocAttr, vr59, bt59, pl59_0, pl59_1, en30, dx]
 repeat refine ⟨by first | omega | (simp; done) | (unfold maxLen; omega) | (simp [maxLen]; omega) | assumption, ?_⟩
 refine hk _ ?_; clear hk k
 refine awp_test [] 0 (decide (True)) [] (by rw [hC]; rfl) (fun gd hgd k hk => ?_) ?_
 ·have g2 : gd 2 = some 60 := by rw [hgd]; rfl
  have g6 : gd 6 = some 64 := by rw [hgd]; rfl
  have g10 : gd 10 = some 68 := by rw [hgd]; rfl
  have g14 : gd 14 = some 72 := by rw [hgd]; rfl
  have g21 : gd 21 = some 79 := by rw [hgd]; rfl
  have g25 : gd 25 = some 83 := by rw [hgd]; rfl
  have g30 : gd 30 = some 88 := by rw [hgd]; rfl
  have g35 : gd 35 = some 93 := by rw [hgd]; rfl
  have g40 : gd 40 = some 98 := by rw [hgd]; rfl
  have g45 : gd 45 = some 103 := by rw [hgd]; rfl
  have g50 : gd 50 = some 108 := by rw [hgd]; rfl
  have g54 : gd 54 = some 112 := by rw [hgd]; rfl
  have g57 : gd 57 = some 115 := by rw [hgd]; rfl
  have g63 : gd 63 = some 121 := by rw [hgd]; rfl
  clear hgd
  simp (maxSteps := 9^9) (disch := (try simp only [lens]); omega) only [argSl, sm, ↓amb, mark_eq, simprocAttr, vr59, bt59, pl59_1, pl59_0, el53, en34, el22, vr41, en18, el33, vr3, en19, en32, ff59, en26, gcase_undef, g2, g6, g10, g14, g21, g25, g30, g35, g40, g45, g50, g54, g57, g63, dx]
  repeat' first | refine hk _ _ rfl rfl rfl rfl ?_ | (refine gsplit (fun hg => ?_) (fun hg => ?_) <;> (try simp only [hbx] at hg) <;> simp (maxSteps := 9^9) (disch := (try simp only [lens]); omega) only [argSl, sm, ↓amb, mark_eq, simprocAttr, vr59, bt59, pl59_1, pl59_0, el53, en34, el22, vr41, en18, el33, vr3, en19, en32, ff59, en26, gcase_undef, g2, g6, g10, g14, g21, g25, g30, g35, g40, g45, g50, g54, g57, g63, dx]) | apply And.intro | (refine callK_p (b1) rfl ?_; (try simp (maxSteps := 9^9) (disch := (try simp only [lens]); omega) only [argSl, sm, ↓amb, mark_eq, simprocAttr, vr59, bt59, pl59_1, pl59_0, el53, en34, el22, vr41, en18, el33, vr3, en19, en32, ff59, en26, gcase_undef, g2, g6, g10, g14, g21, g25, g30, g35, g40, g45, g50, g54, g57, g63, dx])) | (refine callK_p (b2) rfl ?_; (try simp (maxSteps := 9^9) (disch := (try simp only [lens]); omega) only [argSl, sm, ↓amb, mark_eq, simprocAttr, vr59, bt59, pl59_1, pl59_0, el53, en34, el22, vr41, en18, el33, vr3, en19, en32, ff59, en26, gcase_undef, g2, g6, g10, g14, g21, g25, g30, g35, g40, g45, g50, g54, g57, g63, dx])) | (refine callK_p (b3) rfl ?_; (try simp (maxSteps := 9^9) (disch := (try simp only [lens]); omega) only [argSl, sm, ↓amb, mark_eq, simprocAttr, vr59, bt59, pl59_1, pl59_0, el53, en34, el22, vr41, en18, el33, vr3, en19, en32, ff59, en26, gcase_undef, g2, g6, g10, g14, g21, g25, g30, g35, g40, g45, g50, g54, g57, g63, dx])) | (refine callK_p (b4) rfl ?_; (try simp (maxSteps := 9^9) (disch := (try simp only [lens]); omega) only [argSl, sm, ↓amb, mark_eq, simprocAttr, vr59, bt59, pl59_1, pl59_0, el53, en34, el22, vr41, en18, el33, vr3, en19, en32, ff59, en26, gcase_undef, g2, g6, g10, g14, g21, g25, g30, g35, g40, g45, g50, g54, g57, g63, dx])) | (refine callK_p (a6) rfl ?_; (try simp (maxSteps := 9^9) (disch := (try simp only [lens]); omega) only [argSl, sm, ↓amb, mark_eq, simprocAttr, vr59, bt59, pl59_1, pl59_0, el53, en34, el22, vr41, en18, el33, vr3, en19, en32, ff59, en26, gcase_undef, g2, g6, g10, g14, g21, g25, g30, g35, g40, g45, g50, g54, g57, g63, dx])) | (refine callK_p (b5) rfl ?_; (try simp (maxSteps := 9^9) (disch := (try simp only [lens]); omega) only [argSl, sm, ↓amb, mark_eq, simprocAttr, vr59, bt59, pl59_1, pl59_0, el53, en34, el22, vr41, en18, el33, vr3, en19, en32, ff59, en26, gcase_undef, g2, g6, g10, g14, g21, g25, g30, g35, g40, g45, g50, g54, g57, g63, dx])) | (refine callK_p (b6) rfl ?_; (try simp (maxSteps := 9^9) (disch := (try simp only [lens]); omega) only [argSl, sm, ↓amb, mark_eq, simprocAttr, vr59, bt59, pl59_1, pl59_0, el53, en34, el22, vr41, en18, el33, vr3, en19, en32, ff59, en26, gcase_undef, g2, g6, g10, g14, g21, g25, g30, g35, g40, g45, g50, g54, g57, g63, dx])) | fail
  all_goals first | rfl | omega | exact (decide_eq_true (by omega)).symm | exact (decide_eq_false (by omega)).symm | exact decide_eq_decide.mpr (by omega) | (refine Bool.eq_iff_iff.mpr ?_; simp only [beq_iff_eq, bne_iff_ne, ne_eq, decide_eq_true_eq]; omega) | (refine Bool.eq_iff_iff.mpr ?_; simp only [Bool.not_eq_true', Bool.not_eq_false', decide_eq_false_iff_not, decide_eq_true_eq, beq_iff_eq, bne_iff_ne, ne_eq]; omega) | assumption | (simp; done) | (simp [maxLen]; omega) | skip
 simp only [kp, argSl, simprocAttr, List.length_cons, List.length_nil]
 refine awp_ret ?_
 refine ret1 rfl rfl ?_
 exact .p (LeP.refl _)
end Go.Proofs.Ytbehekmnccoifaa
end
section
set_option linter.unusedSimpArgs false
set_option linter.unusedVariables false
namespace Go.Pl
theorem gr_once {l : List Int} {w : Way} (hl : ∀ x, x ∈ l → W32 x) (hb : 1 ≤ w.bits ∧ w.bits ≤ 16) (h1 : 1 ≤ w.block ∧ w.block ≤ 100) (hn : l.length ≤ 1000) (hp : planRight w.plan) :
    grE l.length w = 0 ∧ (grC l w).length = (grK l w).length ∧ (grK l w).Pairwise (fun x y => x < y) ∧ (∀ j, j < (grK l w).length → (grC l w).getD j 0 = (l.count ((grK l w).getD j 0) : Nat) ∧ 0 < (grC l w).getD j 0) ∧
      (∀ x, x ∈ l ↔ x ∈ grK l w) ∧ (grC l w).sum = l.length := by
  have hE : grE l.length w = 0 := ra_ok hb h1 hn hp
  have hE' : raE l.length w.bits w.block w.plan = 0 := hE
  have ho : onceP (raL l w.bits w.block w.plan) l.length := by unfold raL; rw [if_pos hE']; exact passes_once hl _ _
  have hsl : (grS l w).length = l.length := by unfold grS; rw [sortedL_len]; exact ho.1
  have hperm : (grS l w).Perm l := sorted_perm ho
  have hr := passes_rises hl hb
  have hso : (grS l w).Pairwise fun x y => x ≤ y := by
    unfold grS sortedL raL
    rw [if_pos hE', List.pairwise_map]
    exact hr.imp fun {x y} h => by omega
  obtain ⟨k1, k2⟩ := rgK_end hE hsl
  have I := rg_inv hso (grS l w).length (Nat.le_refl _)
  rw [k1, k2]
  refine ⟨hE, by rw [rgC_len, rgK_len], I.rises, fun j hj => ?_, fun x => ?_, by rw [I.sum, hsl]⟩
  · have q := I.cnt j hj
    rw [List.take_length, hperm.count_eq] at q
    exact q
  · rw [← I.mem, List.take_length, hperm.mem_iff]
theorem count_yes {l : List Int} {k : Nat} {x : Int} (h : k < l.length) (e : l.getD k 0 = x) : ((l.take (k + 1)).count x : Int) = (l.take k).count x + 1 := by
  rw [take_snoc' l k h, List.count_append, e, List.count_singleton_self]; omega
theorem count_no {l : List Int} {k : Nat} {x : Int} (h : k < l.length) (e : ¬ l.getD k 0 = x) : ((l.take (k + 1)).count x : Int) = (l.take k).count x := by
  rw [take_snoc' l k h, List.count_append, List.count_singleton, if_neg (by simpa using e)]; omega
theorem count_le (l : List Int) (k : Nat) (x : Int) : ((l.take k).count x : Int) ≤ l.length := by
  have h1 := List.count_le_length (a := x) (l := l.take k)
  rw [List.length_take] at h1; omega
theorem sum_take {C : List Int} {i : Nat} (h : i < C.length) : (C.take (i + 1)).sum = (C.take i).sum + C.getD i 0 := by
  rw [take_snoc' C i h, List.sum_append]; simp
theorem sum_nn : ∀ (C : List Int), (∀ x, x ∈ C → 0 ≤ x) → 0 ≤ C.sum
  | [], _ => by simp
  | x :: C, h => by
    have := sum_nn C fun y hy => h y (List.mem_cons_of_mem _ hy)
    have := h x List.mem_cons_self
    rw [List.sum_cons]; omega
theorem sum_bd {C : List Int} (h : ∀ j, j < C.length → 0 < C.getD j 0) (i : Nat) : 0 ≤ (C.take i).sum ∧ (C.take i).sum ≤ C.sum := by
  have h0 : ∀ x, x ∈ C → 0 ≤ x := fun x hx => by
    obtain ⟨j, hj, rfl⟩ := List.getElem_of_mem hx
    have := h j hj
    rw [List.getD_eq_getElem?_getD, List.getElem?_eq_getElem hj, Option.getD_some] at this; omega
  have h1 := sum_nn (C.take i) fun x hx => h0 x (List.mem_of_mem_take hx)
  have h2 := sum_nn (C.drop i) fun x hx => h0 x (List.mem_of_mem_drop hx)
  have h3 : C.sum = (C.take i).sum + (C.drop i).sum := by rw [← List.sum_append, List.take_append_drop]
  omega
theorem woL_nil (l : List Int) : woL l [] = l := by
  unfold woL hasL
  rw [List.filter_eq_self]
  intro x _; simp
theorem woL_all {l ban : List Int} (h : ∀ x, x ∈ l → x ∈ ban) : woL l ban = [] := by
  unfold woL hasL
  rw [List.filter_eq_nil_iff]
  intro x hx
  simp [h x hx]
theorem edge_iff (a b : Edge) : a = b ↔ a.u = b.u ∧ a.v = b.v := by cases a; cases b; simp
end Go.Pl
end
