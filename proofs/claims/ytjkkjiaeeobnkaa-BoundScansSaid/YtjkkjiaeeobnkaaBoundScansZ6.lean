/-
  BoundScans, part 6 of 7: what the proof that the law holds at whatever arguments stands on; the last part holds the theorem. No condition.
-/
import Derived.Test.YtjkkjiaeeobnkaaBoundScansZ5
import Derived.Test.YtjkkjiaeeobnkaaRows
section
set_option linter.unusedSimpArgs false
set_option linter.unusedVariables false
set_option maxRecDepth 100000
namespace Go.Proofs.Ytjkkjiaeeobnkaa
open Go.Am Go.Proofs
theorem en110 : enters Try.prog 110 = true := by kernel_rfl
theorem en111 : enters Try.prog 111 = true := by kernel_rfl
theorem en42 : enters Try.prog 42 = true := by kernel_rfl
set_option maxHeartbeats 4000000 in
theorem c_radix_Sort (c d : Bool) (l : List Int) (b bl : Int) (p : Pl.Plan) (hl : ∀ x, x ∈ l → Pl.W32 x) (hn : l.length ≤ 1000000) : PCall Try.prog 99 [words c l, iV b, iV bl, .agg (planC d p)] (.tup [ints false (Pl.raL l b bl p), iV (Pl.raS l.length b bl p), iV (Pl.raE l.length b bl p)]) := by
 refine yV Try.func99 rfl (by simp [Try.ntmps99]) fun C hC => ?_
 refine zW (zV [0, 1, 2, 3]) ?_
 simp only [kp, zJ, simprocAttr]
 refine zK [43] (by rw [hC]; rfl) fun k hk => ?_
 simp (maxSteps := 9^9) (disch := (try simp only [lens]); omega) only [zJ, sm, ↓amb, zQ, simprocAttr, dx]
 repeat refine ⟨by first | omega | (simp; done) | (unfold maxLen; omega) | (simp [maxLen]; omega) | assumption, ?_⟩
 refine hk _ ?_; clear hk k
 refine zW (zV [0, 1, 2, 7]) ?_
 simp only [kp, zJ, simprocAttr]
 have hp1 := Pl.pas_nn b
 refine zK [43] (by rw [hC]; rfl) fun k hk => ?_
 simp (maxSteps := 9^9) (disch := (try simp only [lens]); omega) only [zJ, sm, ↓amb, zQ, simprocAttr, en68, dx]
 repeat refine ⟨by first | omega | (simp; done) | (unfold maxLen; omega) | (simp [maxLen]; omega) | assumption, ?_⟩
 refine yW (c_radix_Passes _) rfl ?_
 simp (maxSteps := 9^9) (disch := (try simp only [lens]); omega) only [zJ, sm, ↓amb, zQ, simprocAttr, en68, dx]
 repeat refine ⟨by first | omega | (simp; done) | (unfold maxLen; omega) | (simp [maxLen]; omega) | assumption, ?_⟩
 refine hk _ ?_; clear hk k
 refine zY fun k1 h1 => ?_
 refine zW (zV [0, 1, 2, 7, 8, 9, 10, 11]) ?_
 simp only [kp, zJ, simprocAttr]
 refine zK [43] (by rw [hC]; rfl) fun k hk => ?_
 simp (maxSteps := 9^9) (disch := (try simp only [lens]); omega) only [zJ, sm, ↓amb, zQ, simprocAttr, dx]
 repeat refine ⟨by first | omega | (simp; done) | (unfold maxLen; omega) | (simp [maxLen]; omega) | assumption, ?_⟩
 refine hk _ ?_; clear hk k
 refine zX rfl (fun hb => ?_) (fun hb => ?_)
 ·try simp only [hbx] at hb
  refine zW (zV []) ?_
  simp only [kp, zJ, simprocAttr]
  refine zK [43] (by rw [hC]; rfl) fun k hk => ?_
  simp (maxSteps := 9^9) (disch := (try simp only [lens]); omega) only [zJ, sm, ↓amb, zQ, simprocAttr, dx]
  repeat refine ⟨by first | omega | (simp; done) | (unfold maxLen; omega) | (simp [maxLen]; omega) | assumption, ?_⟩
  refine hk _ ?_; clear hk k
  refine yQ ?_
  have e1 : (Pl.raE l.length b bl p) = 1 := if_pos hb
  have e2 : Pl.raL l b bl p = [] := if_neg (by rw [e1]; decide)
  have e3 : Pl.raS l.length b bl p = 0 := if_neg (by rw [e1]; decide)
  rw [e1, e2, e3]
  refine ret3 rfl rfl rfl rfl ?_ ?_ ?_
  ·exact .p (LeP.seq _ _)
  ·exact .p (LeP.refl _)
  ·exact .p (LeP.refl _)
 ·try simp only [hbx] at hb
  refine yJ ?_
  refine h1 _ ?_; clear h1 k1
  refine zW (zV [0, 1, 2, 7, 11]) ?_
  simp only [kp, zJ, simprocAttr]
  have hp0 := hb
  refine zK [43] (by rw [hC]; rfl) fun k hk => ?_
  simp (maxSteps := 9^9) (disch := (try simp only [lens]); omega) only [zJ, sm, ↓amb, zQ, simprocAttr, sz51, en42, dx]
  repeat refine ⟨by first | omega | (simp; done) | (unfold maxLen; omega) | (simp [maxLen]; omega) | assumption, ?_⟩
  refine yW (c_scan_Sums c d l bl p hl) rfl ?_
  simp (maxSteps := 9^9) (disch := (try simp only [lens]); omega) only [zJ, sm, ↓amb, zQ, simprocAttr, sz51, en42, dx]
  repeat refine ⟨by first | omega | (simp; done) | (unfold maxLen; omega) | (simp [maxLen]; omega) | assumption, ?_⟩
  refine hk _ ?_; clear hk k
  refine zY fun k2 h2 => ?_
  refine zW (zV [0, 1, 8, 9, 10, 11, 14, 15]) ?_
  simp only [kp, zJ, simprocAttr]
  refine zK [43] (by rw [hC]; rfl) fun k hk => ?_
  simp (maxSteps := 9^9) (disch := (try simp only [lens]); omega) only [zJ, sm, ↓amb, zQ, simprocAttr, dx]
  repeat refine ⟨by first | omega | (simp; done) | (unfold maxLen; omega) | (simp [maxLen]; omega) | assumption, ?_⟩
  refine hk _ ?_; clear hk k
  refine zX rfl (fun hb => ?_) (fun hb => ?_)
  ·try simp only [hbx] at hb
   refine zW (zV [15]) ?_
   simp only [kp, zJ, simprocAttr]
   have hse := hb
   refine zK [43] (by rw [hC]; rfl) fun k hk => ?_
   simp (maxSteps := 9^9) (disch := (try simp only [lens]); omega) only [zJ, sm, ↓amb, zQ, simprocAttr, dx]
   repeat refine ⟨by first | omega | (simp; done) | (unfold maxLen; omega) | (simp [maxLen]; omega) | assumption, ?_⟩
   refine hk _ ?_; clear hk k
   refine yQ ?_
   have e1 : (Pl.raE l.length b bl p) = Pl.scE l.length bl p := if_neg hp0
   have e2 : Pl.raL l b bl p = [] := if_neg (by rw [e1]; exact hse)
   have e3 : Pl.raS l.length b bl p = 0 := if_neg (by rw [e1]; exact hse)
   rw [e1, e2, e3]
   refine ret3 rfl rfl rfl rfl ?_ ?_ ?_
   ·exact .p (LeP.seq _ _)
   ·exact .p (LeP.refl _)
   ·exact .p (LeP.refl _)
  ·try simp only [hbx] at hb
   refine yJ ?_
   refine h2 _ ?_; clear h2 k2
   refine zW (zV [0, 1, 11, 14]) ?_
   simp only [kp, zJ, simprocAttr]
   refine zK [43] (by rw [hC]; rfl) fun k hk => ?_
   simp (maxSteps := 9^9) (disch := (try simp only [lens]); omega) only [zJ, sm, ↓amb, zQ, simprocAttr, dx]
   repeat refine ⟨by first | omega | (simp; done) | (unfold maxLen; omega) | (simp [maxLen]; omega) | assumption, ?_⟩
   refine hk _ ?_; clear hk k
   refine zY fun k3 h3 => ?_
   refine zW (zV [0, 1, 8, 9, 10, 11, 14, 16]) ?_
   simp only [kp, zJ, simprocAttr]
   have hse := hb
   refine awp_own' 16 1 rfl ?_
   refine zK [43] (by rw [hC]; rfl) fun k hk => ?_
   simp (maxSteps := 9^9) (disch := (try simp only [lens]); omega) only [zJ, sm, ↓amb, zQ, simprocAttr, el63, dx]
   repeat refine ⟨by first | omega | (simp; done) | (unfold maxLen; omega) | (simp [maxLen]; omega) | assumption, ?_⟩
   refine hk _ ?_; clear hk k
   refine yK ?_
   refine yY (σ := Nat) (fun i => i ≤ l.length) (fun (i : Nat) => ⟨[(0, (.p (words c l))), (1, (.p (iV b))), (11, (.p (iV (Pl.pas b)))), (14, (.p (iV (Pl.scS l.length bl p)))), (16, (.own 0)), (36, (.p (iV l.length))), (37, (.p (iV (i : Int))))], [(0, (.row 1 (lift ((Pl.upto 0 ((i : Nat) : Int)).map fun x => [iV x]))))], 1⟩) (fun i => l.length - i) 0 ?_ ?_ fun i hi => ?_
   ·exact Nat.zero_le _
   ·exact le_of [(0, _)] (by rfl) (by rfl) ⟨⟨_, rfl, .p (.of_eq (by first | rfl | (simp only [PV.lit.injEq, Value.int.injEq, true_and]; omega) | (simp; done) | (simp; omega)))⟩, ⟨_, rfl, .p (.of_eq (by first | rfl | (simp only [PV.lit.injEq, Value.int.injEq, true_and]; omega) | (simp; done) | (simp; omega)))⟩, ⟨_, rfl, .p (.of_eq (by first | rfl | (simp only [PV.lit.injEq, Value.int.injEq, true_and]; omega) | (simp; done) | (simp; omega)))⟩, ⟨_, rfl, .p (.of_eq (by first | rfl | (simp only [PV.lit.injEq, Value.int.injEq, true_and]; omega) | (simp; done) | (simp; omega)))⟩, ⟨_, rfl, .own rfl⟩, ⟨_, rfl, .p (.of_eq (by first | rfl | (simp only [PV.lit.injEq, Value.int.injEq, true_and]; omega) | (simp; done) | (simp; omega)))⟩, ⟨_, rfl, .p (.of_eq (by first | rfl | (simp only [PV.lit.injEq, Value.int.injEq, true_and]; omega) | (simp; done) | (simp; omega)))⟩, trivial⟩ ⟨⟨_, rfl, _, rfl, .liftE (by first | (rw [Pl.upto_nil (by simp)]; rfl) | (rw [← Pl.upto_snoc' i, List.map_append]; rfl) | trace_state)⟩, trivial⟩
   refine zW (zV [0, 1, 8, 9, 10, 11, 14, 16, 36, 37]) ?_
   simp only [kp, zJ, simprocAttr]
   refine zK [43] (by rw [hC]; rfl) fun k hk => ?_
   simp (maxSteps := 9^9) (disch := (try simp only [lens]); omega) only [zJ, sm, ↓amb, zQ, simprocAttr, dx]
   repeat refine ⟨by first | omega | (simp; done) | (unfold maxLen; omega) | (simp [maxLen]; omega) | assumption, ?_⟩
   refine hk _ ?_; clear hk k
   refine zY fun k5 h5 => ?_
   refine zX rfl (fun hb => ?_) (fun hb => ?_)
   ·try simp only [hbx] at hb
    refine yJ ?_
    refine h5 _ ?_; clear h5 k5
    refine zY fun k6 h6 => ?_
    refine yK ?_
    refine zW (zV [0, 1, 8, 9, 10, 11, 14, 16, 36, 37]) ?_
    simp only [kp, zJ, simprocAttr]
    refine zK [43] (by rw [hC]; rfl) fun k hk => ?_
    simp (maxSteps := 9^9) (disch := (try simp only [lens]); omega) only [zJ, sm, ↓amb, zQ, simprocAttr, dx]
    repeat refine ⟨by first | omega | (simp; done) | (unfold maxLen; omega) | (simp [maxLen]; omega) | assumption, ?_⟩
    refine hk _ ?_; clear hk k
    have hul : (Pl.upto 0 (i : Int)).length = i := by rw [Pl.upto_len]; omega
    refine yZ [43] (by rw [hC]; rfl) fun k hk => ?_
    simp (maxSteps := 9^9) (disch := (try simp only [lens]); omega) only [zJ, sm, ↓amb, zQ, simprocAttr, el67, vr3, by3, dx]
    repeat refine ⟨by first | omega | (simp; done) | (unfold maxLen; omega) | (simp [maxLen]; omega) | assumption, ?_⟩
    refine hk _ ?_; clear hk k
    refine h6 _ ?_; clear h6 k6
    refine yZ [43] (by rw [hC]; rfl) fun k hk => ?_
    simp (maxSteps := 9^9) (disch := (try simp only [lens]); omega) only [zJ, sm, ↓amb, zQ, simprocAttr, dx]
    repeat refine ⟨by first | omega | (simp; done) | (unfold maxLen; omega) | (simp [maxLen]; omega) | assumption, ?_⟩
    refine hk _ ?_; clear hk k
    refine ⟨i + 1, by omega, le_of [(0, _)] (by rfl) (by rfl) ⟨⟨_, rfl, .p (.of_eq (by first | rfl | (simp only [PV.lit.injEq, Value.int.injEq, true_and]; omega) | (simp; done) | (simp; omega)))⟩, ⟨_, rfl, .p (.of_eq (by first | rfl | (simp only [PV.lit.injEq, Value.int.injEq, true_and]; omega) | (simp; done) | (simp; omega)))⟩, ⟨_, rfl, .p (.of_eq (by first | rfl | (simp only [PV.lit.injEq, Value.int.injEq, true_and]; omega) | (simp; done) | (simp; omega)))⟩, ⟨_, rfl, .p (.of_eq (by first | rfl | (simp only [PV.lit.injEq, Value.int.injEq, true_and]; omega) | (simp; done) | (simp; omega)))⟩, ⟨_, rfl, .own rfl⟩, ⟨_, rfl, .p (.of_eq (by first | rfl | (simp only [PV.lit.injEq, Value.int.injEq, true_and]; omega) | (simp; done) | (simp; omega)))⟩, ⟨_, rfl, .p (.of_eq (by first | rfl | (simp only [PV.lit.injEq, Value.int.injEq, true_and]; omega) | (simp; done) | (simp; omega)))⟩, trivial⟩ ⟨⟨_, rfl, _, rfl, .liftE (by first | (rw [Pl.upto_nil (by simp)]; rfl) | (rw [← Pl.upto_snoc' i, List.map_append]; rfl) | trace_state)⟩, trivial⟩, by omega⟩
   ·try simp only [hbx] at hb
    refine yX ((if_pos rfl).mpr ?_)
    refine h3 _ ?_; clear h5 k5; clear h3 k3
    refine zY fun k7 h7 => ?_
    refine zW (zV [0, 1, 8, 9, 10, 11, 14, 16]) ?_
    simp only [kp, zJ, simprocAttr]
    obtain rfl : i = l.length := by omega
    refine zK [43] (by rw [hC]; rfl) fun k hk => ?_
    simp (maxSteps := 9^9) (disch := (try simp only [lens]); omega) only [zJ, sm, ↓amb, zQ, simprocAttr, dx]
    repeat refine ⟨by first | omega | (simp; done) | (unfold maxLen; omega) | (simp [maxLen]; omega) | assumption, ?_⟩
    refine hk _ ?_; clear hk k
    refine yK ?_
    refine yY (σ := Nat) (fun v => (v : Int) ≤ Pl.pas b) (fun (v : Nat) => ⟨[(0, (.p (words c l))), (1, (.p (iV b))), (11, (.p (iV (Pl.pas b)))), (14, (.p (iV (Pl.scS l.length bl p)))), (16, (.p (ints false (Pl.passes l b v)))), (45, (.p (iV (Pl.pas b)))), (46, (.p (iV (v : Int))))], [], 1⟩) (fun v => (Pl.pas b).toNat - v) 0 ?_ ?_ fun v hv => ?_
    ·show ((0 : Nat) : Int) ≤ _; omega
    ·exact le_of [] (by rfl) (by rfl) ⟨⟨_, rfl, .p (.of_eq (by first | rfl | (simp only [PV.lit.injEq, Value.int.injEq, true_and]; omega) | (simp; done) | (simp; omega)))⟩, ⟨_, rfl, .p (.of_eq (by first | rfl | (simp only [PV.lit.injEq, Value.int.injEq, true_and]; omega) | (simp; done) | (simp; omega)))⟩, ⟨_, rfl, .p (.of_eq (by first | rfl | (simp only [PV.lit.injEq, Value.int.injEq, true_and]; omega) | (simp; done) | (simp; omega)))⟩, ⟨_, rfl, .p (.of_eq (by first | rfl | (simp only [PV.lit.injEq, Value.int.injEq, true_and]; omega) | (simp; done) | (simp; omega)))⟩, ⟨_, rfl, (by first | exact LeA.frz rfl (by rfl) | exact LeA.p (LeP.refl _))⟩, ⟨_, rfl, .p (.of_eq (by first | rfl | (simp only [PV.lit.injEq, Value.int.injEq, true_and]; omega) | (simp; done) | (simp; omega)))⟩, ⟨_, rfl, .p (.of_eq (by first | rfl | (simp only [PV.lit.injEq, Value.int.injEq, true_and]; omega) | (simp; done) | (simp; omega)))⟩, trivial⟩ trivial
    refine zW (zV [0, 1, 8, 9, 10, 11, 14, 16, 45, 46]) ?_
    simp only [kp, zJ, simprocAttr]
    refine zK [43] (by rw [hC]; rfl) fun k hk => ?_
    simp (maxSteps := 9^9) (disch := (try simp only [lens]); omega) only [zJ, sm, ↓amb, zQ, simprocAttr, dx]
    repeat refine ⟨by first | omega | (simp; done) | (unfold maxLen; omega) | (simp [maxLen]; omega) | assumption, ?_⟩
    refine hk _ ?_; clear hk k
    refine zY fun k9 h9 => ?_
    refine zX rfl (fun hb => ?_) (fun hb => ?_)
    ·try simp only [hbx] at hb
     refine yJ ?_
     refine h9 _ ?_; clear h9 k9
     refine zY fun k10 h10 => ?_
     refine yK ?_
     refine zW (zV [0, 1, 8, 9, 10, 11, 14, 16, 45, 46]) ?_
     simp only [kp, zJ, simprocAttr]
     refine zK [43] (by rw [hC]; rfl) fun k hk => ?_
     simp (maxSteps := 9^9) (disch := (try simp only [lens]); omega) only [zJ, sm, ↓amb, zQ, simprocAttr, dx]
     repeat refine ⟨by first | omega | (simp; done) | (unfold maxLen; omega) | (simp [maxLen]; omega) | assumption, ?_⟩
     refine hk _ ?_; clear hk k
     refine yZ [43] (by rw [hC]; rfl) fun k hk => ?_
     simp (maxSteps := 9^9) (disch := (try simp only [lens]); omega) only [zJ, sm, ↓amb, zQ, simprocAttr, en110, dx]
     repeat refine ⟨by first | omega | (simp; done) | (unfold maxLen; omega) | (simp [maxLen]; omega) | assumption, ?_⟩
     refine yW (c_radix_by c false l (Pl.passes l b v) v b hl (Pl.passes_once hl b v) ⟨by omega, by omega⟩ hn) rfl ?_
     simp (maxSteps := 9^9) (disch := (try simp only [lens]); omega) only [zJ, sm, ↓amb, zQ, simprocAttr, en110, dx]
     repeat refine ⟨by first | omega | (simp; done) | (unfold maxLen; omega) | (simp [maxLen]; omega) | assumption, ?_⟩
     refine hk _ ?_; clear hk k
     refine h10 _ ?_; clear h10 k10
     refine yZ [43] (by rw [hC]; rfl) fun k hk => ?_
     simp (maxSteps := 9^9) (disch := (try simp only [lens]); omega) only [zJ, sm, ↓amb, zQ, simprocAttr, dx]
     repeat refine ⟨by first | omega | (simp; done) | (unfold maxLen; omega) | (simp [maxLen]; omega) | assumption, ?_⟩
     refine hk _ ?_; clear hk k
     refine ⟨v + 1, by omega, le_of [] (by rfl) (by rfl) ⟨⟨_, rfl, .p (.of_eq (by first | rfl | (simp only [PV.lit.injEq, Value.int.injEq, true_and]; omega) | (simp; done) | (simp; omega)))⟩, ⟨_, rfl, .p (.of_eq (by first | rfl | (simp only [PV.lit.injEq, Value.int.injEq, true_and]; omega) | (simp; done) | (simp; omega)))⟩, ⟨_, rfl, .p (.of_eq (by first | rfl | (simp only [PV.lit.injEq, Value.int.injEq, true_and]; omega) | (simp; done) | (simp; omega)))⟩, ⟨_, rfl, .p (.of_eq (by first | rfl | (simp only [PV.lit.injEq, Value.int.injEq, true_and]; omega) | (simp; done) | (simp; omega)))⟩, ⟨_, rfl, (by first | exact LeA.frz rfl (by rfl) | exact LeA.p (LeP.refl _))⟩, ⟨_, rfl, .p (.of_eq (by first | rfl | (simp only [PV.lit.injEq, Value.int.injEq, true_and]; omega) | (simp; done) | (simp; omega)))⟩, ⟨_, rfl, .p (.of_eq (by first | rfl | (simp only [PV.lit.injEq, Value.int.injEq, true_and]; omega) | (simp; done) | (simp; omega)))⟩, trivial⟩ trivial, by omega⟩
    ·try simp only [hbx] at hb
     refine yX ((if_pos rfl).mpr ?_)
     refine h7 _ ?_; clear h9 k9; clear h7 k7
     refine zW (zV [11, 14, 16]) ?_
     simp only [kp, zJ, simprocAttr]
     obtain rfl : v = (Pl.pas b).toNat := by omega
     have hs1 := Pl.scS_nn l.length bl p
     have hs2 : 0 ≤ Pl.scS l.length bl p * Pl.pas b := Int.mul_nonneg hs1.1 (by omega)
     have hs3 : Pl.scS l.length bl p * Pl.pas b ≤ 40000 * 33 := Pl.mul_up hs1.2 (by omega) (by omega) (by omega)
     refine zK [43] (by rw [hC]; rfl) fun k hk => ?_
     simp (maxSteps := 9^9) (disch := (try simp only [lens]); omega) only [zJ, sm, ↓amb, zQ, simprocAttr, dx]
     repeat refine ⟨by first | omega | (simp; done) | (unfold maxLen; omega) | (simp [maxLen]; omega) | assumption, ?_⟩
     refine hk _ ?_; clear hk k
     refine yQ ?_
     have e1 : (Pl.raE l.length b bl p) = 0 := (if_neg hp0).trans hse
     have e2 : Pl.raL l b bl p = Pl.passes l b (Pl.pas b).toNat := if_pos e1
     have e3 : Pl.raS l.length b bl p = Pl.scS l.length bl p * Pl.pas b := if_pos e1
     rw [e1, e2, e3]
     refine ret3 rfl rfl rfl rfl ?_ ?_ ?_
     ·exact .p (LeP.refl _)
     ·exact .p (LeP.refl _)
     ·exact .p (LeP.refl _)
set_option maxHeartbeats 4000000 in
theorem c_radix_Sorted (c d : Bool) (l o : List Int) (hl : ∀ x, x ∈ l → Pl.W32 x) (hol : ∀ x, x ∈ o → -9223372036854775808 ≤ x ∧ x ≤ 9223372036854775807) (hn : l.length ≤ 1000000) (hn2 : o.length ≤ 1000000) : PCall Try.prog 100 [words c l, ints d o] (.tup [words false (if Pl.onceP o l.length then Pl.sortedL l o else []), bV (decide (Pl.onceP o l.length))]) := by
 refine yV Try.func100 rfl (by simp [Try.ntmps100]) fun C hC => ?_
 refine zW (zV [0, 1]) ?_
 simp only [kp, zJ, simprocAttr]
 refine zK [26] (by rw [hC]; rfl) fun k hk => ?_
 simp (maxSteps := 9^9) (disch := (try simp only [lens]); omega) only [zJ, sm, ↓amb, zQ, simprocAttr, dx]
 repeat refine ⟨by first | omega | (simp; done) | (unfold maxLen; omega) | (simp [maxLen]; omega) | assumption, ?_⟩
 refine hk _ ?_; clear hk k
 refine zY fun k1 h1 => ?_
 refine zW (zV [0, 1, 4, 5]) ?_
 simp only [kp, zJ, simprocAttr]
 refine zK [26] (by rw [hC]; rfl) fun k hk => ?_
 simp (maxSteps := 9^9) (disch := (try simp only [lens]); omega) only [zJ, sm, ↓amb, zQ, simprocAttr, el63, en111, dx]
 repeat refine ⟨by first | omega | (simp; done) | (unfold maxLen; omega) | (simp [maxLen]; omega) | assumption, ?_⟩
 refine yW (c_radix_once _ _ _ hol hn2) rfl ?_
 simp (maxSteps := 9^9) (disch := (try simp only [lens]); omega) only [zJ, sm, ↓amb, zQ, simprocAttr, el63, en111, dx]
 repeat refine ⟨by first | omega | (simp; done) | (unfold maxLen; omega) | (simp [maxLen]; omega) | assumption, ?_⟩
 refine hk _ ?_; clear hk k
 refine zX rfl (fun hb => ?_) (fun hb => ?_)
 ·try simp only [hbx] at hb
  refine zW (zV []) ?_
  simp only [kp, zJ, simprocAttr]
  refine zK [26] (by rw [hC]; rfl) fun k hk => ?_
  simp (maxSteps := 9^9) (disch := (try simp only [lens]); omega) only [zJ, sm, ↓amb, zQ, simprocAttr, dx]
  repeat refine ⟨by first | omega | (simp; done) | (unfold maxLen; omega) | (simp [maxLen]; omega) | assumption, ?_⟩
  refine hk _ ?_; clear hk k
  refine yQ ?_
  have ho : ¬ Pl.onceP o l.length := by first | exact hb | simpa using hb
  rw [if_neg ho, decide_eq_false ho]
  refine ret2 rfl rfl rfl ?_ ?_
  ·exact .p (LeP.seq _ _)
  ·exact .p (LeP.refl _)
 ·try simp only [hbx] at hb
  refine yJ ?_
  refine h1 _ ?_; clear h1 k1
  refine zW (zV [0, 1]) ?_
  simp only [kp, zJ, simprocAttr]
  have ho : Pl.onceP o l.length := by first | exact hb | simpa using hb
  refine zK [26] (by rw [hC]; rfl) fun k hk => ?_
  simp (maxSteps := 9^9) (disch := (try simp only [lens]); omega) only [zJ, sm, ↓amb, zQ, simprocAttr, dx]
  repeat refine ⟨by first | omega | (simp; done) | (unfold maxLen; omega) | (simp [maxLen]; omega) | assumption, ?_⟩
  refine hk _ ?_; clear hk k
  refine zY fun k2 h2 => ?_
  refine zW (zV [0, 1, 4, 5, 6]) ?_
  simp only [kp, zJ, simprocAttr]
  refine awp_own' 6 1 rfl ?_
  refine zK [26] (by rw [hC]; rfl) fun k hk => ?_
  simp (maxSteps := 9^9) (disch := (try simp only [lens]); omega) only [zJ, sm, ↓amb, zQ, simprocAttr, el67, dx]
  repeat refine ⟨by first | omega | (simp; done) | (unfold maxLen; omega) | (simp [maxLen]; omega) | assumption, ?_⟩
  refine hk _ ?_; clear hk k
  refine yK ?_
  refine yY (σ := Nat) (fun i => i ≤ o.length) (fun (i : Nat) => ⟨[(0, (.p (words c l))), (6, (.own 0)), (14, (.p (ints d o))), (15, (.p (iV o.length))), (16, (.p (iV (i : Int))))], [(0, (.row 1 (lift ((Pl.sortedL l (o.take i)).map fun x => [u32V x]))))], 1⟩) (fun i => o.length - i) 0 ?_ ?_ fun i hi => ?_
  ·exact Nat.zero_le _
  ·exact le_of [(0, _)] (by rfl) (by rfl) ⟨⟨_, rfl, .p (.of_eq (by first | rfl | (simp only [PV.lit.injEq, Value.int.injEq, true_and]; omega) | (simp; done) | (simp; omega)))⟩, ⟨_, rfl, .own rfl⟩, ⟨_, rfl, .p (.of_eq (by first | rfl | (simp only [PV.lit.injEq, Value.int.injEq, true_and]; omega) | (simp; done) | (simp; omega)))⟩, ⟨_, rfl, .p (.of_eq (by first | rfl | (simp only [PV.lit.injEq, Value.int.injEq, true_and]; omega) | (simp; done) | (simp; omega)))⟩, ⟨_, rfl, .p (.of_eq (by first | rfl | (simp only [PV.lit.injEq, Value.int.injEq, true_and]; omega) | (simp; done) | (simp; omega)))⟩, trivial⟩ ⟨⟨_, rfl, _, rfl, .liftE (by first | rfl | (rw [Pl.take_snoc' o i (by omega), Pl.sortedL_snoc, List.map_append]; first | done | rfl) | trace_state)⟩, trivial⟩
  refine zW (zV [0, 4, 5, 6, 14, 15, 16]) ?_
  simp only [kp, zJ, simprocAttr]
  refine zK [26] (by rw [hC]; rfl) fun k hk => ?_
  simp (maxSteps := 9^9) (disch := (try simp only [lens]); omega) only [zJ, sm, ↓amb, zQ, simprocAttr, dx]
  repeat refine ⟨by first | omega | (simp; done) | (unfold maxLen; omega) | (simp [maxLen]; omega) | assumption, ?_⟩
  refine hk _ ?_; clear hk k
  refine zY fun k4 h4 => ?_
  refine zX rfl (fun hb => ?_) (fun hb => ?_)
  ·try simp only [hbx] at hb
   refine yJ ?_
   refine h4 _ ?_; clear h4 k4
   refine zY fun k5 h5 => ?_
   refine yK ?_
   refine zW (zV [0, 4, 5, 6, 14, 15, 16]) ?_
   simp only [kp, zJ, simprocAttr]
   refine zK [26] (by rw [hC]; rfl) fun k hk => ?_
   simp (maxSteps := 9^9) (disch := (try simp only [lens]); omega) only [zJ, sm, ↓amb, zQ, simprocAttr, el67, sz3, dx]
   repeat refine ⟨by first | omega | (simp; done) | (unfold maxLen; omega) | (simp [maxLen]; omega) | assumption, ?_⟩
   refine hk _ ?_; clear hk k
   have hoi := ho.2.1 _ (Pl.getD_mem o i 0 (by omega))
   have hsl : (Pl.sortedL l (o.take i)).length = i := by rw [Pl.sortedL_len, List.length_take]; omega
   refine yZ [26] (by rw [hC]; rfl) fun k hk => ?_
   simp (maxSteps := 9^9) (disch := (try simp only [lens]); omega) only [zJ, sm, ↓amb, zQ, simprocAttr, el63, sz71, vr71, by71, dx]
   repeat refine ⟨by first | omega | (simp; done) | (unfold maxLen; omega) | (simp [maxLen]; omega) | assumption, ?_⟩
   refine hk _ ?_; clear hk k
   refine h5 _ ?_; clear h5 k5
   refine yZ [26] (by rw [hC]; rfl) fun k hk => ?_
   simp (maxSteps := 9^9) (disch := (try simp only [lens]); omega) only [zJ, sm, ↓amb, zQ, simprocAttr, dx]
   repeat refine ⟨by first | omega | (simp; done) | (unfold maxLen; omega) | (simp [maxLen]; omega) | assumption, ?_⟩
   refine hk _ ?_; clear hk k
   refine ⟨i + 1, by omega, le_of [(0, _)] (by rfl) (by rfl) ⟨⟨_, rfl, .p (.of_eq (by first | rfl | (simp only [PV.lit.injEq, Value.int.injEq, true_and]; omega) | (simp; done) | (simp; omega)))⟩, ⟨_, rfl, .own rfl⟩, ⟨_, rfl, .p (.of_eq (by first | rfl | (simp only [PV.lit.injEq, Value.int.injEq, true_and]; omega) | (simp; done) | (simp; omega)))⟩, ⟨_, rfl, .p (.of_eq (by first | rfl | (simp only [PV.lit.injEq, Value.int.injEq, true_and]; omega) | (simp; done) | (simp; omega)))⟩, ⟨_, rfl, .p (.of_eq (by first | rfl | (simp only [PV.lit.injEq, Value.int.injEq, true_and]; omega) | (simp; done) | (simp; omega)))⟩, trivial⟩ ⟨⟨_, rfl, _, rfl, .liftE (by first | rfl | (rw [Pl.take_snoc' o i (by omega), Pl.sortedL_snoc, List.map_append]; first | done | rfl) | trace_state)⟩, trivial⟩, by omega⟩
  ·try simp only [hbx] at hb
   refine yX ((if_pos rfl).mpr ?_)
   refine h2 _ ?_; clear h4 k4; clear h2 k2
   refine zW (zV [6]) ?_
   simp only [kp, zJ, simprocAttr]
   have htk : o.take i = o := List.take_of_length_le (by omega)
   rw [htk]
   refine zK [26] (by rw [hC]; rfl) fun k hk => ?_
   simp (maxSteps := 9^9) (disch := (try simp only [lens]); omega) only [zJ, sm, ↓amb, zQ, simprocAttr, dx]
   repeat refine ⟨by first | omega | (simp; done) | (unfold maxLen; omega) | (simp [maxLen]; omega) | assumption, ?_⟩
   refine hk _ ?_; clear hk k
   refine yQ ?_
   rw [if_pos ho, decide_eq_true ho]
   refine ret2 rfl rfl rfl ?_ ?_
   ·exact .ownE rfl rfl
   ·exact .p (LeP.refl _)
end Go.Proofs.Ytjkkjiaeeobnkaa
end
section
set_option linter.unusedSimpArgs false
set_option linter.unusedVariables false
namespace Go.Pl
def marksL (fl : List Bool) (w : Bool) : List Int := tabL fl.length fun j => if fl.getD j false = w then 0 else 1
def marksT (fl : List Bool) (w : Bool) (i : Nat) : List Int := tabL fl.length fun j => if j < i then (if fl.getD j false = w then 0 else 1) else 0
theorem marks_0 (fl : List Bool) (w : Bool) : marksT fl w 0 = List.replicate fl.length 0 := by
  rw [← tabL_0]; exact tabL_congr fun j _ => by simp
theorem marks_set {fl : List Bool} {w : Bool} {i : Nat} (h : fl.getD i false ≠ w) : (marksT fl w i).set i 1 = marksT fl w (i + 1) :=
  tabL_set (by rw [if_pos (by omega), if_neg h]) fun j _ hne => by
    by_cases c : j < i
    · rw [if_pos c, if_pos (show j < i + 1 by omega)]
    · rw [if_neg c, if_neg (show ¬ j < i + 1 by omega)]
theorem marks_keep {fl : List Bool} {w : Bool} {i : Nat} (h : fl.getD i false = w) : marksT fl w i = marksT fl w (i + 1) :=
  tabL_congr fun j _ => by
    by_cases c : j < i
    · rw [if_pos c, if_pos (show j < i + 1 by omega)]
    · by_cases e : j = i
      · subst e; rw [if_neg c, if_pos (show j < j + 1 by omega), if_pos h]
      · rw [if_neg c, if_neg (show ¬ j < i + 1 by omega)]
theorem marks_end (fl : List Bool) (w : Bool) : marksT fl w fl.length = marksL fl w := tabL_congr fun j hj => by rw [if_pos hj]
theorem marksL_len (fl : List Bool) (w : Bool) : (marksL fl w).length = fl.length := tabL_len _ _
theorem marksL_get {fl : List Bool} {w : Bool} {i : Nat} (h : i < fl.length) : (marksL fl w).getD i 0 = if fl.getD i false = w then 0 else 1 := tabL_get h
def onesP (m : List Int) (x : Int) : Bool := decide (m.getD x.toNat 0 = 1)
def onesL (m : List Int) : List Int := (upto 0 m.length).filter (onesP m)
def onesN (m : List Int) (i : Nat) : Nat := ((upto 0 (i : Int)).filter (onesP m)).length
def bits (m : List Int) : Prop := ∀ x, x ∈ m → x = 0 ∨ x = 1
theorem bits_w {m : List Int} (h : bits m) : ∀ x, x ∈ m → W32 x := fun x hx => by rcases h x hx with q | q <;> subst q <;> decide
theorem marks_bits (fl : List Bool) (w : Bool) : bits (marksL fl w) := fun x hx => by
  unfold marksL tabL at hx
  obtain ⟨j, _, rfl⟩ := List.mem_map.1 hx
  split <;> simp
theorem onesN_s {m : List Int} {i : Nat} : onesN m (i + 1) = onesN m i + if m.getD i 0 = 1 then 1 else 0 := by
  unfold onesN
  rw [← upto_snoc', List.filter_append, List.length_append]
  congr 1
  by_cases h : m.getD i 0 = 1
  · rw [if_pos h, List.filter_cons_of_pos (by unfold onesP; simpa using h)]; rfl
  · rw [if_neg h, List.filter_cons_of_neg (by unfold onesP; simpa using h)]; rfl
theorem onesN_le (m : List Int) : ∀ i, onesN m i ≤ i
  | 0 => by unfold onesN; rw [upto_nil (by simp)]; exact Nat.le_refl _
  | i + 1 => by rw [onesN_s]; have := onesN_le m i; split <;> omega
theorem all_ones {m : List Int} (h : bits m) (hn : m.length ≤ 1000000) : ∀ i, i ≤ m.length → allF add32 (m.take i) = onesN m i
  | 0, _ => by unfold onesN; rw [List.take_zero, upto_nil (by simp)]; rfl
  | i + 1, hi => by
    rw [allF_take add32 m i (by omega), all_ones h hn i (by omega), onesN_s]
    have h1 := onesN_le m i
    have h2 := h _ (getD_mem m i 0 (by omega))
    unfold add32
    rcases h2 with q | q
    · rw [q, if_neg (by decide)]; omega
    · rw [q, if_pos rfl]; omega
theorem onesL_len (m : List Int) : (onesL m).length = onesN m m.length := rfl
theorem upto_get {n u : Nat} (h : u < n) : (upto 0 (n : Int)).getD u 0 = u := by
  unfold upto
  rw [List.getD_eq_getElem?_getD, List.getElem?_map, List.getElem?_range (by omega)]
  simp
theorem upto_take {n u : Nat} (h : u ≤ n) : (upto 0 (n : Int)).take u = upto 0 (u : Int) := by
  unfold upto
  rw [← List.map_take, List.take_range]
  congr 2; omega
theorem onesL_at {m : List Int} {u : Nat} (h : u < m.length) (h1 : m.getD u 0 = 1) : (onesL m).getD (onesN m u) 0 = u ∧ onesN m u < (onesL m).length := by
  have hl : (upto 0 (m.length : Int)).length = m.length := by rw [upto_len]; omega
  have q := filter_at (onesP m) (upto 0 m.length) u (by omega) (by rw [upto_get h]; unfold onesP; simpa using h1)
  rw [upto_take (by omega), upto_get h] at q
  obtain ⟨hlt, _⟩ := List.getElem?_eq_some_iff.1 q
  exact ⟨by unfold onesL onesN; rw [List.getD_eq_getElem?_getD, q]; rfl, hlt⟩
def onesS (m U : List Int) : List Int := (U.filter (onesP m)).map fun u => (onesN m u.toNat : Int)
theorem onesS_yes {m U : List Int} {z : Nat} (hz : z < U.length) (h : m.getD (U.getD z 0).toNat 0 = 1) : onesS m (U.take (z + 1)) = onesS m (U.take z) ++ [(onesN m (U.getD z 0).toNat : Int)] := by
  unfold onesS
  rw [take_snoc' U z hz, List.filter_append, List.filter_cons_of_pos (by unfold onesP; simpa using h), List.map_append]; rfl
theorem onesS_no {m U : List Int} {z : Nat} (hz : z < U.length) (h : ¬ m.getD (U.getD z 0).toNat 0 = 1) : onesS m (U.take (z + 1)) = onesS m (U.take z) := by
  unfold onesS
  rw [take_snoc' U z hz, List.filter_append, List.filter_cons_of_neg (by unfold onesP; simpa using h), List.filter_nil, List.append_nil]
theorem ones_fill {m U : List Int} (hU : ∀ u, u ∈ U ↔ (0 ≤ u ∧ u < m.length)) : fillL (onesL m).length (onesS m U) (fun j => (onesL m).getD j 0) = onesL m := by
  rw [fillL_all, range_getD]
  intro j hj
  have hx : (onesL m)[j] ∈ onesL m := List.getElem_mem _
  have hx2 := List.mem_filter.1 hx
  have hr := mem_upto.1 hx2.1
  have h1 : m.getD ((onesL m)[j]).toNat 0 = 1 := by have := hx2.2; unfold onesP at this; simpa using this
  refine List.mem_map.2 ⟨(onesL m)[j], List.mem_filter.2 ⟨(hU _).2 ⟨hr.1, hr.2⟩, hx2.2⟩, ?_⟩
  have q := onesL_at (u := ((onesL m)[j]).toNat) (by omega) h1
  have hd : (onesL m).Nodup := (nodup_upto _ _).filter _
  have e : (onesL m)[onesN m ((onesL m)[j]).toNat]'q.2 = (onesL m)[j] := by
    have := q.1
    rw [List.getD_eq_getElem?_getD, List.getElem?_eq_getElem q.2] at this
    simp only [Option.getD_some] at this
    omega
  have := nodup_inj hd q.2 hj e
  omega
def whL (fl : List Bool) (w : Bool) (bl : Int) (p : Plan) : List Int := if scE fl.length bl p = 0 then onesL (marksL fl w) else []
def whS (n : Nat) (bl : Int) (p : Plan) : Int := if scE n bl p = 0 then scS n bl p + ordS n p else 0
theorem wh_mem {fl : List Bool} {w : Bool} {bl : Int} {p : Plan} : ∀ x, x ∈ whL fl w bl p → 0 ≤ x ∧ x < fl.length := fun x hx => by
  unfold whL at hx
  split at hx
  · have := mem_upto.1 (List.mem_filter.1 hx).1
    rw [marksL_len] at this; exact this
  · cases hx
theorem wh_len (fl : List Bool) (w : Bool) (bl : Int) (p : Plan) : (whL fl w bl p).length ≤ fl.length := by
  unfold whL
  split
  · rw [onesL_len]; have := onesN_le (marksL fl w) (marksL fl w).length; rw [marksL_len] at this ⊢; exact this
  · exact Nat.zero_le _
def paE (l : List Int) (fl : List Bool) (bl : Int) (p : Plan) : Int := if l.length = fl.length then scE fl.length bl p else 1
def paL (l : List Int) (fl : List Bool) (w : Bool) (bl : Int) (p : Plan) : List Int := if l.length = fl.length then sortedL l (whL fl w bl p) else []
def ptL (l : List Int) (fl : List Bool) (bl : Int) (p : Plan) : List Int := if paE l fl bl p = 0 then paL l fl false bl p ++ sortedL l (whL fl true bl p) else []
def ptN (l : List Int) (fl : List Bool) (bl : Int) (p : Plan) : Int := if paE l fl bl p = 0 then (paL l fl false bl p).length else 0
def cntB (fl : List Bool) (i : Nat) : Nat := (fl.take i).count true
theorem cntB_s {fl : List Bool} {i : Nat} (h : i < fl.length) : cntB fl (i + 1) = cntB fl i + if fl.getD i false = true then 1 else 0 := by
  unfold cntB
  rw [List.take_add_one, List.count_append, List.getD_eq_getElem?_getD, List.getElem?_eq_getElem h]
  cases fl[i] <;> simp
theorem cntB_end (fl : List Bool) : cntB fl fl.length = fl.count true := by unfold cntB; rw [List.take_of_length_le (Nat.le_refl _)]
def spOk (l : List Int) (fl : List Bool) : Prop := fl.count true = l.length
instance (l : List Int) (fl : List Bool) : Decidable (spOk l fl) := by unfold spOk; infer_instance
end Go.Pl
end
section
set_option linter.unusedSimpArgs false
set_option linter.unusedVariables false
set_option maxRecDepth 100000
namespace Go.Proofs.Ytjkkjiaeeobnkaa
open Go.Am Go.Proofs
set_option maxHeartbeats 4000000 in
theorem c_pack_marks (c : Bool) (fl : List Bool) (w : Bool) (hn : fl.length ≤ 1000000) : PCall Try.prog 113 [.seq c (fl.map fun q => [bV q]), bV w] (words false (Pl.marksL fl w)) := by
 refine yV Try.func113 rfl (by simp [Try.ntmps113]) fun C hC => ?_
 refine zW (zV [0, 1]) ?_
 simp only [kp, zJ, simprocAttr]
 refine zK [] (by rw [hC]; rfl) fun k hk => ?_
 simp (maxSteps := 9^9) (disch := (try simp only [lens]); omega) only [zJ, sm, ↓amb, zQ, simprocAttr, dx]
 repeat refine ⟨by first | omega | (simp; done) | (unfold maxLen; omega) | (simp [maxLen]; omega) | assumption, ?_⟩
 refine hk _ ?_; clear hk k
 refine zW (zV [0, 1]) ?_
 simp only [kp, zJ, simprocAttr]
 refine zK [] (by rw [hC]; rfl) fun k hk => ?_
 simp (maxSteps := 9^9) (disch := (try simp only [lens]); omega) only [zJ, sm, ↓amb, zQ, simprocAttr, el105, el63, by71, vr71, dx]
 repeat refine ⟨by first | omega | (simp; done) | (unfold maxLen; omega) | (simp [maxLen]; omega) | assumption, ?_⟩
 refine hk _ ?_; clear hk k
 refine zY fun k1 h1 => ?_
 refine zW (zV [0, 1, 4, 5]) ?_
 simp only [kp, zJ, simprocAttr]
 refine zK [] (by rw [hC]; rfl) fun k hk => ?_
 simp (maxSteps := 9^9) (disch := (try simp only [lens]); omega) only [zJ, sm, ↓amb, zQ, simprocAttr, el105, dx]
 repeat refine ⟨by first | omega | (simp; done) | (unfold maxLen; omega) | (simp [maxLen]; omega) | assumption, ?_⟩
 refine hk _ ?_; clear hk k
 refine yK ?_
 refine yY (σ := Nat) (fun i => i ≤ fl.length) (fun (i : Nat) => ⟨[(1, (.p (bV w))), (5, (.own 0)), (11, (.p (.seq c (fl.map fun q => [bV q])))), (12, (.p (iV fl.length))), (13, (.p (iV (i : Int))))], [(0, (.row 1 (lift ((Pl.marksT fl w i).map fun x => [u32V x]))))], 1⟩) (fun i => fl.length - i) 0 ?_ ?_ fun i hi => ?_
 ·exact Nat.zero_le _
 ·exact le_of [(0, _)] (by rfl) (by rfl) ⟨⟨_, rfl, .p (.of_eq (by first | rfl | (simp only [PV.lit.injEq, Value.int.injEq, true_and]; omega) | (simp; done) | (simp; omega)))⟩, ⟨_, rfl, .own rfl⟩, ⟨_, rfl, .p (.of_eq (by first | rfl | (simp only [PV.lit.injEq, Value.int.injEq, true_and]; omega) | (simp; done) | (simp; omega)))⟩, ⟨_, rfl, .p (.of_eq (by first | rfl | (simp only [PV.lit.injEq, Value.int.injEq, true_and]; omega) | (simp; done) | (simp; omega)))⟩, ⟨_, rfl, .p (.of_eq (by first | rfl | (simp only [PV.lit.injEq, Value.int.injEq, true_and]; omega) | (simp; done) | (simp; omega)))⟩, trivial⟩ ⟨⟨_, rfl, _, rfl, .liftE (by first | (rw [Pl.marks_0, List.map_replicate]; done) | (rw [← Pl.marks_set (by simpa using hb), List.map_set]; first | done | rfl) | (rw [Pl.marks_keep (by simpa using hb)]; done) | trace_state)⟩, trivial⟩
 refine zW (zV [0, 1, 4, 5, 11, 12, 13]) ?_
 simp only [kp, zJ, simprocAttr]
 refine zK [] (by rw [hC]; rfl) fun k hk => ?_
 simp (maxSteps := 9^9) (disch := (try simp only [lens]); omega) only [zJ, sm, ↓amb, zQ, simprocAttr, dx]
 repeat refine ⟨by first | omega | (simp; done) | (unfold maxLen; omega) | (simp [maxLen]; omega) | assumption, ?_⟩
 refine hk _ ?_; clear hk k
 refine zY fun k3 h3 => ?_
 refine zX rfl (fun hb => ?_) (fun hb => ?_)
 ·try simp only [hbx] at hb
  refine yJ ?_
  refine h3 _ ?_; clear h3 k3
  refine zY fun k4 h4 => ?_
  refine yK ?_
  refine zW (zV [0, 1, 4, 5, 11, 12, 13]) ?_
  simp only [kp, zJ, simprocAttr]
  refine zK [] (by rw [hC]; rfl) fun k hk => ?_
  simp (maxSteps := 9^9) (disch := (try simp only [lens]); omega) only [zJ, sm, ↓amb, zQ, simprocAttr, el105, sz4, dx]
  repeat refine ⟨by first | omega | (simp; done) | (unfold maxLen; omega) | (simp [maxLen]; omega) | assumption, ?_⟩
  refine hk _ ?_; clear hk k
  refine zW (zV [0, 1, 4, 5, 6, 7, 11, 12, 13]) ?_
  simp only [kp, zJ, simprocAttr]
  refine zK [] (by rw [hC]; rfl) fun k hk => ?_
  simp (maxSteps := 9^9) (disch := (try simp only [lens]); omega) only [zJ, sm, ↓amb, zQ, simprocAttr, dx]
  repeat refine ⟨by first | omega | (simp; done) | (unfold maxLen; omega) | (simp [maxLen]; omega) | assumption, ?_⟩
  refine hk _ ?_; clear hk k
  refine zX rfl (fun hb => ?_) (fun hb => ?_)
  ·try simp only [hbx] at hb
   have hfl := Pl.tabL_len fl.length (fun j => if j < i then (if fl.getD j false = w then 0 else 1) else 0)
   have hfl2 : (Pl.marksT fl w i).length = fl.length := hfl
   refine yZ [] (by rw [hC]; rfl) fun k hk => ?_
   simp (maxSteps := 9^9) (disch := (try simp only [lens]); omega) only [zJ, sm, ↓amb, zQ, simprocAttr, el63, sz71, dx]
   repeat refine ⟨by first | omega | (simp; done) | (unfold maxLen; omega) | (simp [maxLen]; omega) | assumption, ?_⟩
   refine hk _ ?_; clear hk k
   refine h4 _ ?_; clear h4 k4
   refine yZ [] (by rw [hC]; rfl) fun k hk => ?_
   simp (maxSteps := 9^9) (disch := (try simp only [lens]); omega) only [zJ, sm, ↓amb, zQ, simprocAttr, dx]
   repeat refine ⟨by first | omega | (simp; done) | (unfold maxLen; omega) | (simp [maxLen]; omega) | assumption, ?_⟩
   refine hk _ ?_; clear hk k
   refine ⟨i + 1, by omega, le_of [(0, _)] (by rfl) (by rfl) ⟨⟨_, rfl, .p (.of_eq (by first | rfl | (simp only [PV.lit.injEq, Value.int.injEq, true_and]; omega) | (simp; done) | (simp; omega)))⟩, ⟨_, rfl, .own rfl⟩, ⟨_, rfl, .p (.of_eq (by first | rfl | (simp only [PV.lit.injEq, Value.int.injEq, true_and]; omega) | (simp; done) | (simp; omega)))⟩, ⟨_, rfl, .p (.of_eq (by first | rfl | (simp only [PV.lit.injEq, Value.int.injEq, true_and]; omega) | (simp; done) | (simp; omega)))⟩, ⟨_, rfl, .p (.of_eq (by first | rfl | (simp only [PV.lit.injEq, Value.int.injEq, true_and]; omega) | (simp; done) | (simp; omega)))⟩, trivial⟩ ⟨⟨_, rfl, _, rfl, .liftE (by first | (rw [Pl.marks_0, List.map_replicate]; done) | (rw [← Pl.marks_set (by simpa using hb), List.map_set]; first | done | rfl) | (rw [Pl.marks_keep (by simpa using hb)]; done) | trace_state)⟩, trivial⟩, by omega⟩
  ·try simp only [hbx] at hb
   refine yJ ?_
   refine h4 _ ?_; clear h4 k4
   refine yZ [] (by rw [hC]; rfl) fun k hk => ?_
   simp (maxSteps := 9^9) (disch := (try simp only [lens]); omega) only [zJ, sm, ↓amb, zQ, simprocAttr, dx]
   repeat refine ⟨by first | omega | (simp; done) | (unfold maxLen; omega) | (simp [maxLen]; omega) | assumption, ?_⟩
   refine hk _ ?_; clear hk k
   refine ⟨i + 1, by omega, le_of [(0, _)] (by rfl) (by rfl) ⟨⟨_, rfl, .p (.of_eq (by first | rfl | (simp only [PV.lit.injEq, Value.int.injEq, true_and]; omega) | (simp; done) | (simp; omega)))⟩, ⟨_, rfl, .own rfl⟩, ⟨_, rfl, .p (.of_eq (by first | rfl | (simp only [PV.lit.injEq, Value.int.injEq, true_and]; omega) | (simp; done) | (simp; omega)))⟩, ⟨_, rfl, .p (.of_eq (by first | rfl | (simp only [PV.lit.injEq, Value.int.injEq, true_and]; omega) | (simp; done) | (simp; omega)))⟩, ⟨_, rfl, .p (.of_eq (by first | rfl | (simp only [PV.lit.injEq, Value.int.injEq, true_and]; omega) | (simp; done) | (simp; omega)))⟩, trivial⟩ ⟨⟨_, rfl, _, rfl, .liftE (by first | (rw [Pl.marks_0, List.map_replicate]; done) | (rw [← Pl.marks_set (by simpa using hb), List.map_set]; first | done | rfl) | (rw [Pl.marks_keep (by simpa using hb)]; done) | trace_state)⟩, trivial⟩, by omega⟩
 ·try simp only [hbx] at hb
  refine yX ((if_pos rfl).mpr ?_)
  refine h1 _ ?_; clear h3 k3; clear h1 k1
  refine zW (zV [5]) ?_
  simp only [kp, zJ, simprocAttr]
  obtain rfl : i = fl.length := by omega
  rw [Pl.marks_end]
  refine zK [] (by rw [hC]; rfl) fun k hk => ?_
  simp (maxSteps := 9^9) (disch := (try simp only [lens]); omega) only [zJ, sm, ↓amb, zQ, simprocAttr, dx]
  repeat refine ⟨by first | omega | (simp; done) | (unfold maxLen; omega) | (simp [maxLen]; omega) | assumption, ?_⟩
  refine hk _ ?_; clear hk k
  refine yQ ?_
  refine ret1 rfl rfl ?_
  exact .ownE rfl rfl
end Go.Proofs.Ytjkkjiaeeobnkaa
end
section
set_option linter.unusedSimpArgs false
set_option linter.unusedVariables false
set_option maxRecDepth 100000
namespace Go.Proofs.Ytjkkjiaeeobnkaa
open Go.Am Go.Proofs
set_option maxHeartbeats 4000000 in
theorem c_pack_places (c d : Bool) (m : List Int) (bl : Int) (p : Pl.Plan) (h01 : Pl.bits m) (hn : m.length ≤ 1000000) : PCall Try.prog 112 [words c m, iV bl, .agg (planC d p)] (.tup [ints false (if (Pl.scE m.length bl p) = 0 then Pl.onesL m else []), iV (if (Pl.scE m.length bl p) = 0 then Pl.scS m.length bl p + Pl.ordS m.length p else 0), iV (Pl.scE m.length bl p)]) := by
 refine yV Try.func112 rfl (by simp [Try.ntmps112]) fun C hC => ?_
 refine zW (zV [0, 1, 2]) ?_
 simp only [kp, zJ, simprocAttr]
 refine zK [] (by rw [hC]; rfl) fun k hk => ?_
 simp (maxSteps := 9^9) (disch := (try simp only [lens]); omega) only [zJ, sm, ↓amb, zQ, simprocAttr, dx]
 repeat refine ⟨by first | omega | (simp; done) | (unfold maxLen; omega) | (simp [maxLen]; omega) | assumption, ?_⟩
 refine hk _ ?_; clear hk k
 refine zW (zV [0, 1, 5]) ?_
 simp only [kp, zJ, simprocAttr]
 refine zK [] (by rw [hC]; rfl) fun k hk => ?_
 simp (maxSteps := 9^9) (disch := (try simp only [lens]); omega) only [zJ, sm, ↓amb, zQ, simprocAttr, sz51, en42, dx]
 repeat refine ⟨by first | omega | (simp; done) | (unfold maxLen; omega) | (simp [maxLen]; omega) | assumption, ?_⟩
 refine yW (c_scan_Sums c d m bl p (Pl.bits_w h01)) rfl ?_
 simp (maxSteps := 9^9) (disch := (try simp only [lens]); omega) only [zJ, sm, ↓amb, zQ, simprocAttr, sz51, en42, dx]
 repeat refine ⟨by first | omega | (simp; done) | (unfold maxLen; omega) | (simp [maxLen]; omega) | assumption, ?_⟩
 refine hk _ ?_; clear hk k
 refine zY fun k1 h1 => ?_
 refine zW (zV [0, 5, 6, 7, 8, 9, 10, 11, 12]) ?_
 simp only [kp, zJ, simprocAttr]
 refine zK [] (by rw [hC]; rfl) fun k hk => ?_
 simp (maxSteps := 9^9) (disch := (try simp only [lens]); omega) only [zJ, sm, ↓amb, zQ, simprocAttr, dx]
 repeat refine ⟨by first | omega | (simp; done) | (unfold maxLen; omega) | (simp [maxLen]; omega) | assumption, ?_⟩
 refine hk _ ?_; clear hk k
 refine zX rfl (fun hb => ?_) (fun hb => ?_)
 ·try simp only [hbx] at hb
  refine zW (zV [12]) ?_
  simp only [kp, zJ, simprocAttr]
  have hse := hb
  refine zK [] (by rw [hC]; rfl) fun k hk => ?_
  simp (maxSteps := 9^9) (disch := (try simp only [lens]); omega) only [zJ, sm, ↓amb, zQ, simprocAttr, dx]
  repeat refine ⟨by first | omega | (simp; done) | (unfold maxLen; omega) | (simp [maxLen]; omega) | assumption, ?_⟩
  refine hk _ ?_; clear hk k
  refine yQ ?_
  rw [if_neg hse, if_neg hse]
  refine ret3 rfl rfl rfl rfl ?_ ?_ ?_
  ·exact .p (LeP.seq _ _)
  ·exact .p (LeP.refl _)
  ·exact .p (LeP.refl _)
 ·try simp only [hbx] at hb
  refine yJ ?_
  refine h1 _ ?_; clear h1 k1
  refine zW (zV [0, 5, 9, 10, 11]) ?_
  simp only [kp, zJ, simprocAttr]
  have hse : (Pl.scE m.length bl p) = 0 := hb
  obtain ⟨q1, q2, q3⟩ := Pl.sc_iff.1 hse
  have hoo : Pl.ordOk m.length p := ⟨by omega, by omega, q3.2.2⟩
  have hoe := Pl.ordE0 hoo
  rw [(Pl.sc_yes (f := Pl.add32) hse).1, (Pl.sc_yes (f := Pl.add32) hse).2.1]
  have ht : Pl.allF Pl.add32 m = (Pl.onesL m).length := by
   have := Pl.all_ones h01 hn m.length (Nat.le_refl _)
   rw [List.take_of_length_le (Nat.le_refl _)] at this; rw [this, Pl.onesL_len]
  have hon := Pl.onesN_le m m.length
  rw [← Pl.onesL_len] at hon
  rw [ht]
  have hul := (Pl.ordU_ok hoo).2.2
  have hal := Pl.aheadF_len Pl.add32 m
  have hsn := Pl.scS_nn m.length bl p
  have hos := Pl.ord_steps hoo
  refine zK [] (by rw [hC]; rfl) fun k hk => ?_
  simp (maxSteps := 9^9) (disch := (try simp only [lens]); omega) only [zJ, sm, ↓amb, zQ, simprocAttr, el63, sz51, en41, dx]
  repeat refine ⟨by first | omega | (simp; done) | (unfold maxLen; omega) | (simp [maxLen]; omega) | assumption, ?_⟩
  refine yW (c_fill_Order _ _ p) rfl ?_
  simp (maxSteps := 9^9) (disch := (try simp only [lens]); omega) only [zJ, sm, ↓amb, zQ, simprocAttr, el63, sz51, en41, dx]
  repeat refine ⟨by first | omega | (simp; done) | (unfold maxLen; omega) | (simp [maxLen]; omega) | assumption, ?_⟩
  refine hk _ ?_; clear hk k
  refine zY fun k2 h2 => ?_
  refine zW (zV [0, 6, 7, 8, 9, 10, 11, 12, 13, 14]) ?_
  simp only [kp, zJ, simprocAttr]
  refine zK [] (by rw [hC]; rfl) fun k hk => ?_
  simp (maxSteps := 9^9) (disch := (try simp only [lens]); omega) only [zJ, sm, ↓amb, zQ, simprocAttr, dx]
  repeat refine ⟨by first | omega | (simp; done) | (unfold maxLen; omega) | (simp [maxLen]; omega) | assumption, ?_⟩
  refine hk _ ?_; clear hk k
  refine zX rfl (fun hb => ?_) (fun hb => ?_)
  ·try simp only [hbx] at hb
   refine zW (zV [12]) ?_
   simp only [kp, zJ, simprocAttr]
   refine zK [] (by rw [hC]; rfl) fun k hk => ?_
   simp (maxSteps := 9^9) (disch := (try simp only [lens]); omega) only [zJ, sm, ↓amb, zQ, simprocAttr, dx]
   repeat refine ⟨by first | omega | (simp; done) | (unfold maxLen; omega) | (simp [maxLen]; omega) | assumption, ?_⟩
   refine hk _ ?_; clear hk k
   refine yQ ?_
   exact absurd hoe hb
  ·try simp only [hbx] at hb
   refine yJ ?_
   refine h2 _ ?_; clear h2 k2
   refine zW (zV [0, 9, 10, 11, 13, 14]) ?_
   simp only [kp, zJ, simprocAttr]
   refine zK [] (by rw [hC]; rfl) fun k hk => ?_
   simp (maxSteps := 9^9) (disch := (try simp only [lens]); omega) only [zJ, sm, ↓amb, zQ, simprocAttr, el67, by3, vr3, dx]
   repeat refine ⟨by first | omega | (simp; done) | (unfold maxLen; omega) | (simp [maxLen]; omega) | assumption, ?_⟩
   refine hk _ ?_; clear hk k
   refine zY fun k3 h3 => ?_
   refine zW (zV [0, 6, 7, 8, 9, 11, 13, 14, 15]) ?_
   simp only [kp, zJ, simprocAttr]
   refine zK [] (by rw [hC]; rfl) fun k hk => ?_
   simp (maxSteps := 9^9) (disch := (try simp only [lens]); omega) only [zJ, sm, ↓amb, zQ, simprocAttr, el67, dx]
   repeat refine ⟨by first | omega | (simp; done) | (unfold maxLen; omega) | (simp [maxLen]; omega) | assumption, ?_⟩
   refine hk _ ?_; clear hk k
   refine yK ?_
   refine yY (σ := Nat) (fun z => z ≤ (Pl.ordU m.length p).length) (fun (z : Nat) => ⟨[(0, (.p (words c m))), (9, (.p (words false (Pl.aheadF Pl.add32 m)))), (11, (.p (iV (Pl.scS m.length bl p)))), (14, (.p (iV (Pl.ordS m.length p)))), (15, (.own 0)), (43, (.p (ints false (Pl.ordU m.length p)))), (44, (.p (iV (Pl.ordU m.length p).length))), (45, (.p (iV (z : Int))))], [(0, (.row 1 (lift ((Pl.fillL (Pl.onesL m).length (Pl.onesS m ((Pl.ordU m.length p).take z)) (fun j => (Pl.onesL m).getD j 0)).map fun x => [iV x]))))], 1⟩) (fun z => (Pl.ordU m.length p).length - z) 0 ?_ ?_ fun z hz => ?_
   ·exact Nat.zero_le _
   ·exact le_of [(0, _)] (by rfl) (by rfl) ⟨⟨_, rfl, .p (.of_eq (by first | rfl | (simp only [PV.lit.injEq, Value.int.injEq, true_and]; omega) | (simp; done) | (simp; omega)))⟩, ⟨_, rfl, .p (.of_eq (by first | rfl | (simp only [PV.lit.injEq, Value.int.injEq, true_and]; omega) | (simp; done) | (simp; omega)))⟩, ⟨_, rfl, .p (.of_eq (by first | rfl | (simp only [PV.lit.injEq, Value.int.injEq, true_and]; omega) | (simp; done) | (simp; omega)))⟩, ⟨_, rfl, .p (.of_eq (by first | rfl | (simp only [PV.lit.injEq, Value.int.injEq, true_and]; omega) | (simp; done) | (simp; omega)))⟩, ⟨_, rfl, .own rfl⟩, ⟨_, rfl, .p (.of_eq (by first | rfl | (simp only [PV.lit.injEq, Value.int.injEq, true_and]; omega) | (simp; done) | (simp; omega)))⟩, ⟨_, rfl, .p (.of_eq (by first | rfl | (simp only [PV.lit.injEq, Value.int.injEq, true_and]; omega) | (simp; done) | (simp; omega)))⟩, ⟨_, rfl, .p (.of_eq (by first | rfl | (simp only [PV.lit.injEq, Value.int.injEq, true_and]; omega) | (simp; done) | (simp; omega)))⟩, trivial⟩ ⟨⟨_, rfl, _, rfl, .liftE (by first | (rw [List.take_zero, show Pl.onesS m [] = [] from rfl, Pl.fillL_nil, List.map_replicate]; done) | (rw [Pl.onesS_yes (by omega) hb, hag, ← Pl.fillL_set (Int.natCast_nonneg _) (x := (Pl.ordU m.length p).getD z 0) (by rw [Int.toNat_natCast, w1]; omega), List.map_set]; first | done | rfl) | (rw [Pl.onesS_no (by omega) hb]; done) | trace_state)⟩, trivial⟩
   refine zW (zV [0, 6, 7, 8, 9, 11, 14, 15, 43, 44, 45]) ?_
   simp only [kp, zJ, simprocAttr]
   refine zK [] (by rw [hC]; rfl) fun k hk => ?_
   simp (maxSteps := 9^9) (disch := (try simp only [lens]); omega) only [zJ, sm, ↓amb, zQ, simprocAttr, dx]
   repeat refine ⟨by first | omega | (simp; done) | (unfold maxLen; omega) | (simp [maxLen]; omega) | assumption, ?_⟩
   refine hk _ ?_; clear hk k
   refine zY fun k5 h5 => ?_
   refine zX rfl (fun hb => ?_) (fun hb => ?_)
   ·try simp only [hbx] at hb
    refine yJ ?_
    refine h5 _ ?_; clear h5 k5
    refine zY fun k6 h6 => ?_
    refine yK ?_
    refine zW (zV [0, 6, 7, 8, 9, 11, 14, 15, 43, 44, 45]) ?_
    simp only [kp, zJ, simprocAttr]
    refine zK [] (by rw [hC]; rfl) fun k hk => ?_
    simp (maxSteps := 9^9) (disch := (try simp only [lens]); omega) only [zJ, sm, ↓amb, zQ, simprocAttr, el67, sz3, dx]
    repeat refine ⟨by first | omega | (simp; done) | (unfold maxLen; omega) | (simp [maxLen]; omega) | assumption, ?_⟩
    refine hk _ ?_; clear hk k
    refine zW (zV [0, 6, 7, 8, 9, 11, 14, 15, 17, 43, 44, 45]) ?_
    simp only [kp, zJ, simprocAttr]
    have hki := ((Pl.ordU_ok hoo).2.1 _).1 (Pl.getD_mem (Pl.ordU m.length p) z 0 (by omega))
    refine zK [] (by rw [hC]; rfl) fun k hk => ?_
    simp (maxSteps := 9^9) (disch := (try simp only [lens]); omega) only [zJ, sm, ↓amb, zQ, simprocAttr, el63, sz71, dx]
    repeat refine ⟨by first | omega | (simp; done) | (unfold maxLen; omega) | (simp [maxLen]; omega) | assumption, ?_⟩
    refine hk _ ?_; clear hk k
    refine zX rfl (fun hb => ?_) (fun hb => ?_)
    ·try simp only [hbx] at hb
     obtain ⟨w1, w2⟩ := Pl.onesL_at (m := m) (u := ((Pl.ordU m.length p).getD z 0).toNat) (by omega) hb
     have hag : (Pl.aheadF Pl.add32 m).getD ((Pl.ordU m.length p).getD z 0).toNat 0 = (Pl.onesN m ((Pl.ordU m.length p).getD z 0).toNat : Int) := (Pl.aheadF_get _ m (by omega)).trans (Pl.all_ones h01 hn _ (by omega))
     have hfl := Pl.fillL_len (Pl.onesL m).length (Pl.onesS m ((Pl.ordU m.length p).take z)) (fun j => (Pl.onesL m).getD j 0)
     refine yZ [] (by rw [hC]; rfl) fun k hk => ?_
     simp (maxSteps := 9^9) (disch := (try simp only [lens]); omega) only [zJ, sm, ↓amb, zQ, simprocAttr, el63, sz71, el67, sz3, dx]
     repeat refine ⟨by first | omega | (simp; done) | (unfold maxLen; omega) | (simp [maxLen]; omega) | assumption, ?_⟩
     refine hk _ ?_; clear hk k
     refine h6 _ ?_; clear h6 k6
     refine yZ [] (by rw [hC]; rfl) fun k hk => ?_
     simp (maxSteps := 9^9) (disch := (try simp only [lens]); omega) only [zJ, sm, ↓amb, zQ, simprocAttr, dx]
     repeat refine ⟨by first | omega | (simp; done) | (unfold maxLen; omega) | (simp [maxLen]; omega) | assumption, ?_⟩
     refine hk _ ?_; clear hk k
     refine ⟨z + 1, by omega, le_of [(0, _)] (by rfl) (by rfl) ⟨⟨_, rfl, .p (.of_eq (by first | rfl | (simp only [PV.lit.injEq, Value.int.injEq, true_and]; omega) | (simp; done) | (simp; omega)))⟩, ⟨_, rfl, .p (.of_eq (by first | rfl | (simp only [PV.lit.injEq, Value.int.injEq, true_and]; omega) | (simp; done) | (simp; omega)))⟩, ⟨_, rfl, .p (.of_eq (by first | rfl | (simp only [PV.lit.injEq, Value.int.injEq, true_and]; omega) | (simp; done) | (simp; omega)))⟩, ⟨_, rfl, .p (.of_eq (by first | rfl | (simp only [PV.lit.injEq, Value.int.injEq, true_and]; omega) | (simp; done) | (simp; omega)))⟩, ⟨_, rfl, .own rfl⟩, ⟨_, rfl, .p (.of_eq (by first | rfl | (simp only [PV.lit.injEq, Value.int.injEq, true_and]; omega) | (simp; done) | (simp; omega)))⟩, ⟨_, rfl, .p (.of_eq (by first | rfl | (simp only [PV.lit.injEq, Value.int.injEq, true_and]; omega) | (simp; done) | (simp; omega)))⟩, ⟨_, rfl, .p (.of_eq (by first | rfl | (simp only [PV.lit.injEq, Value.int.injEq, true_and]; omega) | (simp; done) | (simp; omega)))⟩, trivial⟩ ⟨⟨_, rfl, _, rfl, .liftE (by first | (rw [List.take_zero, show Pl.onesS m [] = [] from rfl, Pl.fillL_nil, List.map_replicate]; done) | (rw [Pl.onesS_yes (by omega) hb, hag, ← Pl.fillL_set (Int.natCast_nonneg _) (x := (Pl.ordU m.length p).getD z 0) (by rw [Int.toNat_natCast, w1]; omega), List.map_set]; first | done | rfl) | (rw [Pl.onesS_no (by omega) hb]; done) | trace_state)⟩, trivial⟩, by omega⟩
    ·try simp only [hbx] at hb
     refine yJ ?_
     refine h6 _ ?_; clear h6 k6
     refine yZ [] (by rw [hC]; rfl) fun k hk => ?_
     simp (maxSteps := 9^9) (disch := (try simp only [lens]); omega) only [zJ, sm, ↓amb, zQ, simprocAttr, dx]
     repeat refine ⟨by first | omega | (simp; done) | (unfold maxLen; omega) | (simp [maxLen]; omega) | assumption, ?_⟩
     refine hk _ ?_; clear hk k
     refine ⟨z + 1, by omega, le_of [(0, _)] (by rfl) (by rfl) ⟨⟨_, rfl, .p (.of_eq (by first | rfl | (simp only [PV.lit.injEq, Value.int.injEq, true_and]; omega) | (simp; done) | (simp; omega)))⟩, ⟨_, rfl, .p (.of_eq (by first | rfl | (simp only [PV.lit.injEq, Value.int.injEq, true_and]; omega) | (simp; done) | (simp; omega)))⟩, ⟨_, rfl, .p (.of_eq (by first | rfl | (simp only [PV.lit.injEq, Value.int.injEq, true_and]; omega) | (simp; done) | (simp; omega)))⟩, ⟨_, rfl, .p (.of_eq (by first | rfl | (simp only [PV.lit.injEq, Value.int.injEq, true_and]; omega) | (simp; done) | (simp; omega)))⟩, ⟨_, rfl, .own rfl⟩, ⟨_, rfl, .p (.of_eq (by first | rfl | (simp only [PV.lit.injEq, Value.int.injEq, true_and]; omega) | (simp; done) | (simp; omega)))⟩, ⟨_, rfl, .p (.of_eq (by first | rfl | (simp only [PV.lit.injEq, Value.int.injEq, true_and]; omega) | (simp; done) | (simp; omega)))⟩, ⟨_, rfl, .p (.of_eq (by first | rfl | (simp only [PV.lit.injEq, Value.int.injEq, true_and]; omega) | (simp; done) | (simp; omega)))⟩, trivial⟩ ⟨⟨_, rfl, _, rfl, .liftE (by first | (rw [List.take_zero, show Pl.onesS m [] = [] from rfl, Pl.fillL_nil, List.map_replicate]; done) | (rw [Pl.onesS_yes (by omega) hb, hag, ← Pl.fillL_set (Int.natCast_nonneg _) (x := (Pl.ordU m.length p).getD z 0) (by rw [Int.toNat_natCast, w1]; omega), List.map_set]; first | done | rfl) | (rw [Pl.onesS_no (by omega) hb]; done) | trace_state)⟩, trivial⟩, by omega⟩
   ·try simp only [hbx] at hb
    refine yX ((if_pos rfl).mpr ?_)
    refine h3 _ ?_; clear h5 k5; clear h3 k3
    refine zW (zV [11, 14, 15]) ?_
    simp only [kp, zJ, simprocAttr]
    have htk : (Pl.ordU m.length p).take z = (Pl.ordU m.length p) := List.take_of_length_le (by omega)
    rw [htk, Pl.ones_fill (fun u => (Pl.ordU_ok hoo).2.1 u)]
    refine zK [] (by rw [hC]; rfl) fun k hk => ?_
    simp (maxSteps := 9^9) (disch := (try simp only [lens]); omega) only [zJ, sm, ↓amb, zQ, simprocAttr, dx]
    repeat refine ⟨by first | omega | (simp; done) | (unfold maxLen; omega) | (simp [maxLen]; omega) | assumption, ?_⟩
    refine hk _ ?_; clear hk k
    refine yQ ?_
    rw [if_pos hse, if_pos hse, hse]
    refine ret3 rfl rfl rfl rfl ?_ ?_ ?_
    ·exact .ownE rfl rfl
    ·exact .p (LeP.refl _)
    ·exact .p (LeP.refl _)
end Go.Proofs.Ytjkkjiaeeobnkaa
end
section
set_option linter.unusedSimpArgs false
set_option linter.unusedVariables false
set_option maxRecDepth 100000
namespace Go.Proofs.Ytjkkjiaeeobnkaa
open Go.Am Go.Proofs
theorem en112 : enters Try.prog 112 = true := by kernel_rfl
theorem en113 : enters Try.prog 113 = true := by kernel_rfl
set_option maxHeartbeats 4000000 in
theorem c_pack_Where (c d : Bool) (fl : List Bool) (bl : Int) (p : Pl.Plan) (hn : fl.length ≤ 1000000) : PCall Try.prog 101 [.seq c (fl.map fun q => [bV q]), iV bl, .agg (planC d p)] (.tup [ints false (Pl.whL fl false bl p), iV (Pl.whS fl.length bl p), iV (Pl.scE fl.length bl p)]) := by
 have hpl := fun (c d : Bool) => c_pack_places c d (Pl.marksL fl false) bl p (Pl.marks_bits fl false) (by rw [Pl.marksL_len]; exact hn)
 rw [Pl.marksL_len] at hpl
 refine yV Try.func101 rfl (by simp [Try.ntmps101]) fun C hC => ?_
 refine zW (zV [0, 1, 2]) ?_
 simp only [kp, zJ, simprocAttr]
 refine zK [] (by rw [hC]; rfl) fun k hk => ?_
 simp (maxSteps := 9^9) (disch := (try simp only [lens]); omega) only [zJ, sm, ↓amb, zQ, simprocAttr, dx]
 repeat refine ⟨by first | omega | (simp; done) | (unfold maxLen; omega) | (simp [maxLen]; omega) | assumption, ?_⟩
 refine hk _ ?_; clear hk k
 refine zW (zV [0, 1, 5]) ?_
 simp only [kp, zJ, simprocAttr]
 refine awp_sd [] ⟨[0, 1, 0, 0, 15, 31, 31, 31, 255, 511, 1023], [3], [], [], some []⟩ (by rw [hC]; rfl) (by kernel_rfl) (by kernel_rfl) fun k hk => ?_
 simp (maxSteps := 9^9) (disch := (try simp only [lens]); omega) only [zJ, sm, ↓amb, zQ, simprocAttr, en113, sz51, en112, dx]
 repeat refine ⟨by first | omega | (simp; done) | (unfold maxLen; omega) | (simp [maxLen]; omega) | assumption, ?_⟩
 refine yW (c_pack_marks _ _ _ hn) rfl ?_
 simp (maxSteps := 9^9) (disch := (try simp only [lens]); omega) only [zJ, sm, ↓amb, zQ, simprocAttr, en113, sz51, en112, dx]
 repeat refine ⟨by first | omega | (simp; done) | (unfold maxLen; omega) | (simp [maxLen]; omega) | assumption, ?_⟩
 refine yW (hpl _ _) rfl ?_
 simp (maxSteps := 9^9) (disch := (try simp only [lens]); omega) only [zJ, sm, ↓amb, zQ, simprocAttr, en113, sz51, en112, dx]
 repeat refine ⟨by first | omega | (simp; done) | (unfold maxLen; omega) | (simp [maxLen]; omega) | assumption, ?_⟩
 refine hk _ ?_; clear hk k
 refine yQ ?_
 refine ret3 rfl rfl rfl rfl ?_ ?_ ?_
 ·exact .p (LeP.refl _)
 ·exact .p (LeP.refl _)
 ·exact .p (LeP.refl _)
end Go.Proofs.Ytjkkjiaeeobnkaa
end
section
set_option linter.unusedSimpArgs false
set_option linter.unusedVariables false
namespace Go.Pl
theorem ordS_up (n : Int) (p : Plan) : 0 ≤ ordS n p ∧ ordS n p ≤ 20000 := by
  by_cases h : ordOk n p
  · have := ord_steps h
    have := h.1
    have h2 : 0 ≤ leB n p := by unfold leB; split; have := cntT_pos (phOk_cnt ‹_›); omega; exact Int.le_refl _
    omega
  · rw [(ord_no h).2.2]; omega
end Go.Pl
end
section
set_option linter.unusedSimpArgs false
set_option linter.unusedVariables false
namespace Go.Pl
theorem blk_nn (n : Nat) (b : Int) : 0 ≤ blk n b ∧ blk n b ≤ 1000 := by
  by_cases h : blkOk' n b
  · exact ⟨(blk_up (b := b) h.1 (Int.le_refl _) h.2.1).1, (blk_up (b := b) h.1 (Int.le_refl _) h.2.1).2.2⟩
  · unfold blk; rw [if_neg h]; omega
end Go.Pl
end
section
set_option linter.unusedSimpArgs false
set_option linter.unusedVariables false
namespace Go.Pl
theorem scE_yes {n : Nat} {bl : Int} {p : Plan} (h1 : 1 ≤ bl ∧ bl ≤ 100) (hn : n ≤ 1000) (hp : planRight p) : scE n bl p = 0 := by
  have := blk_nn n bl
  exact sc_iff.2 ⟨h1, hn, this.1, this.2, hp⟩
end Go.Pl
end
section
set_option linter.unusedSimpArgs false
set_option linter.unusedVariables false
namespace Go.Pl
theorem onesN_at {m : List Int} {j : Nat} (hj : j < (onesL m).length) : onesN m ((onesL m).getD j 0).toNat = j ∧ m.getD ((onesL m).getD j 0).toNat 0 = 1 ∧ 0 ≤ (onesL m).getD j 0 ∧ (onesL m).getD j 0 < m.length := by
  have hx : (onesL m).getD j 0 ∈ onesL m := getD_mem _ _ _ hj
  have hx2 := List.mem_filter.1 hx
  have hr := mem_upto.1 hx2.1
  have h1 : m.getD ((onesL m).getD j 0).toNat 0 = 1 := by have := hx2.2; unfold onesP at this; simpa using this
  have q := onesL_at (u := ((onesL m).getD j 0).toNat) (by omega) h1
  have hd : (onesL m).Nodup := (nodup_upto _ _).filter _
  refine ⟨?_, h1, hr.1, hr.2⟩
  have e : (onesL m)[onesN m ((onesL m).getD j 0).toNat]'q.2 = (onesL m)[j] := by
    have q1 := q.1
    rw [List.getD_eq_getElem?_getD, List.getElem?_eq_getElem q.2] at q1
    simp only [Option.getD_some] at q1
    rw [q1]
    rw [List.getD_eq_getElem?_getD, List.getElem?_eq_getElem hj] at hr ⊢
    simp only [Option.getD_some] at hr ⊢
    omega
  exact nodup_inj hd q.2 hj e
theorem cntB_ones {fl : List Bool} : ∀ i, i ≤ fl.length → onesN (marksL fl false) i = cntB fl i
  | 0, _ => by unfold onesN cntB; rw [upto_nil (by simp)]; rfl
  | i + 1, h => by
    rw [onesN_s, cntB_ones i (by omega), cntB_s (by omega), marksL_get (by omega)]
    congr 1
    cases fl.getD i false <;> simp
theorem ones_len (fl : List Bool) : (onesL (marksL fl false)).length = fl.count true := by
  rw [onesL_len, marksL_len, cntB_ones _ (Nat.le_refl _), cntB_end]
theorem sortedL_get {l o : List Int} {j : Nat} (h : j < o.length) : (sortedL l o).getD j 0 = l.getD (o.getD j 0).toNat 0 := by
  unfold sortedL
  rw [List.getD_eq_getElem?_getD, List.getElem?_map, List.getElem?_eq_getElem h, List.getD_eq_getElem?_getD (l := o), List.getElem?_eq_getElem h]; rfl
theorem scE_ok {n : Nat} {bl : Int} {p : Plan} (h1 : 1 ≤ bl ∧ bl ≤ 100) (hn : n ≤ 1000) (hp : planRight p) : scE n bl p = 0 := by
  have hbk := blk_up (b := bl) (show (0 : Int) ≤ n by omega) (Int.le_refl _) (by omega)
  exact sc_iff.2 ⟨h1, hn, by omega, by omega, hp⟩
def notL (fl : List Bool) (i : Nat) : List Bool := (fl.take i).map fun q => !q
theorem notL_len (fl : List Bool) {i : Nat} (h : i ≤ fl.length) : (notL fl i).length = i := by unfold notL; rw [List.length_map, List.length_take]; omega
theorem cnt_not : ∀ fl : List Bool, fl.count true + (fl.map fun q => !q).count true = fl.length
  | [] => rfl
  | b :: fl => by
    have := cnt_not fl
    cases b <;> simp only [List.map_cons, List.count_cons, List.length_cons] <;> simp <;> omega
theorem marks_not (fl : List Bool) : marksL (notL fl fl.length) false = marksL fl true := by
  unfold marksL
  rw [notL_len fl (Nat.le_refl _)]
  refine tabL_congr fun j hj => ?_
  have e : (notL fl fl.length).getD j false = !(fl.getD j false) := by
    unfold notL
    rw [List.take_of_length_le (Nat.le_refl _), List.getD_eq_getElem?_getD, List.getElem?_map, List.getElem?_eq_getElem hj, List.getD_eq_getElem?_getD, List.getElem?_eq_getElem hj]; rfl
  rw [e]
  cases fl.getD j false <;> simp
theorem parts {l : List Int} {fl : List Bool} {bl : Int} {p : Plan} (hl : l.length = fl.length) (h1 : 1 ≤ bl ∧ bl ≤ 100) (hn : fl.length ≤ 1000) (hp : planRight p) :
    paE l fl bl p = 0 ∧ paE l (notL fl fl.length) bl p = 0 ∧ scE fl.length bl p = 0 ∧ ptL l fl bl p = paL l fl false bl p ++ paL l (notL fl fl.length) false bl p ∧
    ptN l fl bl p = (paL l fl false bl p).length ∧ (whL fl false bl p).length = (paL l fl false bl p).length ∧ (paL l fl false bl p).length + (paL l (notL fl fl.length) false bl p).length = l.length ∧
    ∀ i, i < (whL fl false bl p).length → (0 ≤ (whL fl false bl p).getD i 0 ∧ (whL fl false bl p).getD i 0 < fl.length) ∧ fl.getD ((whL fl false bl p).getD i 0).toNat false = true ∧ (paL l fl false bl p).getD i 0 = l.getD ((whL fl false bl p).getD i 0).toNat 0 ∧ (1 ≤ i → (whL fl false bl p).getD (i - 1) 0 < (whL fl false bl p).getD i 0) := by
  have e3 := scE_ok (p := p) h1 hn hp
  have hnl := notL_len fl (Nat.le_refl _)
  have e3' : scE (notL fl fl.length).length bl p = 0 := by rw [hnl]; exact e3
  have hl' : l.length = (notL fl fl.length).length := by rw [hnl]; exact hl
  have w1 : whL fl false bl p = onesL (marksL fl false) := if_pos e3
  have w2 : whL fl true bl p = onesL (marksL fl true) := if_pos e3
  have w3 : whL (notL fl fl.length) false bl p = onesL (marksL fl true) := by rw [← marks_not]; exact if_pos e3'
  have p1 : paL l fl false bl p = sortedL l (onesL (marksL fl false)) := by rw [← w1]; exact if_pos hl
  have p2 : paL l (notL fl fl.length) false bl p = sortedL l (onesL (marksL fl true)) := by rw [← w3]; exact if_pos hl'
  have pe : paE l fl bl p = 0 := (if_pos hl).trans e3
  refine ⟨pe, (if_pos hl').trans e3', e3, ?_, if_pos pe, by rw [w1, p1, sortedL_len], ?_, fun i hi => ?_⟩
  · rw [p2, ← w2]; exact if_pos pe
  · rw [p1, p2, sortedL_len, sortedL_len, ← marks_not, ones_len, ones_len]
    have := cnt_not fl
    unfold notL
    rw [List.take_of_length_le (Nat.le_refl _)]; omega
  · rw [w1] at hi ⊢
    obtain ⟨a, b, c, d⟩ := onesN_at hi
    rw [marksL_len] at d
    refine ⟨⟨c, d⟩, ?_, by rw [p1, sortedL_get hi], fun h1 => ?_⟩
    · rw [marksL_get (by omega)] at b
      cases hq : fl.getD ((onesL (marksL fl false)).getD i 0).toNat false
      · rw [hq] at b; simp at b
      · rfl
    · have hs : (onesL (marksL fl false)).Pairwise fun x y => x < y := by
        have hu : (upto 0 ((marksL fl false).length : Int)).Pairwise fun x y => x < y := by
          unfold upto
          rw [List.pairwise_map]
          exact List.pairwise_lt_range.imp fun {x y} h => by omega
        exact hu.filter _
      rw [List.getD_eq_getElem?_getD, List.getElem?_eq_getElem (show i - 1 < (onesL (marksL fl false)).length by omega), List.getD_eq_getElem?_getD, List.getElem?_eq_getElem hi]
      exact List.pairwise_iff_getElem.1 hs (i - 1) i (by omega) hi (by omega)
end Go.Pl
end
section
set_option linter.unusedSimpArgs false
set_option linter.unusedVariables false
namespace Go.Pl
def tabB (n : Nat) (g : Nat → Bool) : List Bool := (List.range n).map g
theorem tabB_len (n : Nat) (g : Nat → Bool) : (tabB n g).length = n := by simp [tabB]
theorem tabB_set {n : Nat} {g g' : Nat → Bool} {i : Nat} {x : Bool} (h1 : x = g' i) (h2 : ∀ j, j < n → j ≠ i → g j = g' j) : (tabB n g).set i x = tabB n g' := by
  subst h1
  refine List.ext_getElem (by simp [tabB]) fun j p q => ?_
  simp only [tabB, List.getElem_set, List.getElem_map, List.getElem_range]
  split
  · rename_i e; rw [e]
  · rename_i e; exact h2 j (by simpa [tabB] using q) (fun z => e z.symm)
def firB (l : List Int) (j : Nat) : Bool := decide (j = 0) || (l.getD (j - 1) 0 != l.getD j 0)
def firstsL (l : List Int) : List Bool := tabB l.length (firB l)
def firT (l : List Int) (i : Nat) : List Bool := tabB l.length (fun j => decide (j < i) && firB l j)
theorem firstsL_len (l : List Int) : (firstsL l).length = l.length := tabB_len _ _
theorem firT_len (l : List Int) (i : Nat) : (firT l i).length = l.length := tabB_len _ _
theorem firT_0 (l : List Int) : firT l 0 = List.replicate l.length false := by
  unfold firT tabB
  simp only [Nat.not_lt_zero, decide_false, Bool.false_and]
  rw [List.map_const']; simp
theorem firT_end (l : List Int) : firT l l.length = firstsL l := by
  unfold firT firstsL tabB
  refine List.map_congr_left fun j hj => ?_
  have := List.mem_range.1 hj
  simp [this]
theorem firT_set {l : List Int} {i : Nat} : (firT l i).set i (firB l i) = firT l (i + 1) := by
  refine tabB_set (by simp) fun j _ hj => ?_
  congr 1
  exact decide_eq_decide.mpr ⟨fun _ => by omega, fun _ => by omega⟩
theorem firB_0 {l : List Int} {i : Nat} (h : i = 0) : firB l i = true := by unfold firB; simp [h]
theorem firB_1 {l : List Int} {i : Nat} (h : i ≠ 0) : firB l i = (l.getD (i - 1) 0 != l.getD i 0) := by unfold firB; simp [h]
def grS (l : List Int) (w : Way) : List Int := sortedL l (raL l w.bits w.block w.plan)
def grW (l : List Int) (w : Way) : List Int := whL (firstsL (grS l w)) false w.block w.plan
def cntG (n : Nat) (W : List Int) (i : Nat) : List Int := (List.range i).map fun j => (if j + 1 < W.length then W.getD (j + 1) 0 else (n : Int)) - W.getD j 0
theorem cntG_snoc (n : Nat) (W : List Int) (i : Nat) : cntG n W (i + 1) = cntG n W i ++ [(if i + 1 < W.length then W.getD (i + 1) 0 else (n : Int)) - W.getD i 0] := by
  unfold cntG; rw [List.range_succ, List.map_append]; rfl
theorem cntG_len (n : Nat) (W : List Int) (i : Nat) : (cntG n W i).length = i := by simp [cntG]
def grE (n : Nat) (w : Way) : Int := raE n w.bits w.block w.plan
def grK (l : List Int) (w : Way) : List Int := if grE l.length w = 0 then sortedL (grS l w) (grW l w) else []
def grC (l : List Int) (w : Way) : List Int := if grE l.length w = 0 then cntG l.length (grW l w) (grW l w).length else []
def grT (n : Nat) (w : Way) : Int := if grE n w = 0 then raS n w.bits w.block w.plan + whS n w.block w.plan else 0
theorem scan_bad {n : Nat} {b : Int} {p : Plan} (hn : n ≤ 1000) (h : ¬ scE n b p = 0) : scB n b p = 0 ∧ ¬ ((1 ≤ b ∧ b ≤ 100) ∧ planRight p) := by
  have hno : ¬ ((1 ≤ b ∧ b ≤ 100) ∧ planRight p) := fun q => h (scE_yes q.1 hn q.2)
  refine ⟨?_, hno⟩
  have e : phB (blk n b) p = 0 := by
    unfold phB
    refine if_neg fun q => hno ⟨?_, q.2.2⟩
    have q1 := q.1
    unfold blk at q1
    split at q1
    · rename_i z; exact ⟨z.2.2.1, z.2.2.2⟩
    · omega
  unfold scB; rw [e]; rfl
theorem sc_steps {n : Nat} {b : Int} {p : Plan} (h : scE n b p = 0) : scS n b p = 2 * ordS (blk n b) p ∧ scS n b p ≤ scB n b p := by
  have h1 : scS n b p = 2 * ordS (blk n b) p := if_pos h
  have h2 := (ord_steps (sc_iff.1 h).2.2).2.1
  refine ⟨h1, ?_⟩
  unfold scB; omega
theorem gr_steps {n : Nat} {w : Way} (h : grE n w = 0) : grT n w ≤ soB n w ∧ ordS n w.plan ≤ grT n w ∧ (n = 0 → grT n w = 0) ∧ ordE n w.plan = 0 := by
  have h0 : raE n w.bits w.block w.plan = 0 := h
  have hp : pas w.bits ≠ 0 ∧ scE n w.block w.plan = 0 := by
    unfold raE at h0; split at h0
    · exact absurd h0 (by decide)
    · exact ⟨by assumption, h0⟩
  obtain ⟨s1, s2⟩ := sc_steps hp.2
  obtain ⟨q1, q2, q3⟩ := sc_iff.1 hp.2
  have ho : ordOk n w.plan := ⟨by omega, by omega, q3.2.2⟩
  have o1 := (ord_steps ho).2.1
  have o2 := ordS_up n w.plan
  have o3 := ordS_up (blk n w.block) w.plan
  have p1 := pas_nn w.bits
  have eT : grT n w = scS n w.block w.plan * pas w.bits + (scS n w.block w.plan + ordS n w.plan) := by
    unfold grT
    rw [if_pos h]
    unfold raS whS
    rw [if_pos h0, if_pos hp.2]
  have eS : soB n w = pas w.bits * scB n w.block w.plan + scB n w.block w.plan + phB n w.plan := by
    rw [soB_ref, if_neg]
    rintro (z | z)
    · exact hp.1 z
    · exact z ⟨by omega, by omega, q1.1, q1.2⟩
  have m1 := Int.mul_le_mul_of_nonneg_left s2 p1.1
  have m2 : 0 ≤ scS n w.block w.plan * pas w.bits := Int.mul_nonneg (by omega) p1.1
  have m3 : scS n w.block w.plan * pas w.bits = pas w.bits * scS n w.block w.plan := Int.mul_comm _ _
  refine ⟨by omega, by omega, fun hn => ?_, if_pos ho⟩
  subst hn
  have z1 : blk ((0 : Nat) : Int) w.block = 0 := blk_0 _
  have z2 := (ord_zero w.plan).2
  rw [z1, z2] at s1
  have z3 : ordS ((0 : Nat) : Int) w.plan = 0 := z2
  rw [eT, s1, z3]; omega
end Go.Pl
end
section
set_option linter.unusedSimpArgs false
set_option linter.unusedVariables false
set_option maxRecDepth 100000
namespace Go.Proofs.Ytjkkjiaeeobnkaa
open Go.Am Go.Proofs
theorem awp_regiong {P : Program} {C : Ctx} {K : Exit → LS → Prop} {s : LS} {id : Nat} {l : List Oper} (H : List Nat) (hf : inFrame C.n l.toArray = true)
    (h : ∀ gd, gd = gdOf l.toArray → ∀ k : LS → Prop, (∀ s', K .normal s' → k s') → aops P H gd (fun s' => k ⟨s'.sl, s'.hp, s'.nx + l.length⟩) 0 l s) : Awp P C (.region id l.toArray false) K s := yZ H hf (h _ rfl)
set_option maxHeartbeats 4000000 in
theorem c_dedup_firsts (c : Bool) (l : List Int) (hl : ∀ x, x ∈ l → Pl.W32 x) (hn : l.length ≤ 1000000) : PCall Try.prog 102 [words c l] (.seq false ((Pl.firstsL l).map fun q => [bV q])) := by
 refine yV Try.func102 rfl (by simp [Try.ntmps102]) fun C hC => ?_
 refine zW (zV [0]) ?_
 simp only [kp, zJ, simprocAttr]
 refine zK [] (by rw [hC]; rfl) fun k hk => ?_
 simp (maxSteps := 9^9) (disch := (try simp only [lens]); omega) only [zJ, sm, ↓amb, zQ, simprocAttr, dx]
 repeat refine ⟨by first | omega | (simp; done) | (unfold maxLen; omega) | (simp [maxLen]; omega) | assumption, ?_⟩
 refine hk _ ?_; clear hk k
 refine zW (zV [0]) ?_
 simp only [kp, zJ, simprocAttr]
 refine zK [] (by rw [hC]; rfl) fun k hk => ?_
 simp (maxSteps := 9^9) (disch := (try simp only [lens]); omega) only [zJ, sm, ↓amb, zQ, simprocAttr, el63, el105, by4, vr4, dx]
 repeat refine ⟨by first | omega | (simp; done) | (unfold maxLen; omega) | (simp [maxLen]; omega) | assumption, ?_⟩
 refine hk _ ?_; clear hk k
 refine zY fun k1 h1 => ?_
 refine zW (zV [0, 2, 3]) ?_
 simp only [kp, zJ, simprocAttr]
 refine zK [] (by rw [hC]; rfl) fun k hk => ?_
 simp (maxSteps := 9^9) (disch := (try simp only [lens]); omega) only [zJ, sm, ↓amb, zQ, simprocAttr, el63, dx]
 repeat refine ⟨by first | omega | (simp; done) | (unfold maxLen; omega) | (simp [maxLen]; omega) | assumption, ?_⟩
 refine hk _ ?_; clear hk k
 refine yK ?_
 refine yY (σ := Nat) (fun i => i ≤ l.length) (fun (i : Nat) => ⟨[(0, (.p (words c l))), (3, (.own 0)), (9, (.p (words c l))), (10, (.p (iV l.length))), (11, (.p (iV (i : Int))))], [(0, (.row 1 (lift ((Pl.firT l i).map fun q => [bV q]))))], 1⟩) (fun i => l.length - i) 0 ?_ ?_ fun i hi => ?_
 ·exact Nat.zero_le _
 ·exact le_of [(0, _)] (by rfl) (by rfl) ⟨⟨_, rfl, .p (.of_eq (by first | rfl | (simp only [PV.lit.injEq, Value.int.injEq, true_and]; omega) | (simp; done) | (simp; omega)))⟩, ⟨_, rfl, .own rfl⟩, ⟨_, rfl, .p (.of_eq (by first | rfl | (simp only [PV.lit.injEq, Value.int.injEq, true_and]; omega) | (simp; done) | (simp; omega)))⟩, ⟨_, rfl, .p (.of_eq (by first | rfl | (simp only [PV.lit.injEq, Value.int.injEq, true_and]; omega) | (simp; done) | (simp; omega)))⟩, ⟨_, rfl, .p (.of_eq (by first | rfl | (simp only [PV.lit.injEq, Value.int.injEq, true_and]; omega) | (simp; done) | (simp; omega)))⟩, trivial⟩ ⟨⟨_, rfl, _, rfl, .liftE (by first | (rw [Pl.firT_0, List.map_replicate]; done) | (rw [← Pl.firT_set, List.map_set, z1 (by omega)]; first | done | rfl) | (rw [← Pl.firT_set, List.map_set, z2 (by omega), ← z3]; first | done | rfl) | trace_state)⟩, trivial⟩
 refine zW (zV [0, 2, 3, 9, 10, 11]) ?_
 simp only [kp, zJ, simprocAttr]
 refine zK [] (by rw [hC]; rfl) fun k hk => ?_
 simp (maxSteps := 9^9) (disch := (try simp only [lens]); omega) only [zJ, sm, ↓amb, zQ, simprocAttr, dx]
 repeat refine ⟨by first | omega | (simp; done) | (unfold maxLen; omega) | (simp [maxLen]; omega) | assumption, ?_⟩
 refine hk _ ?_; clear hk k
 refine zY fun k3 h3 => ?_
 refine zX rfl (fun hb => ?_) (fun hb => ?_)
 ·try simp only [hbx] at hb
  refine yJ ?_
  refine h3 _ ?_; clear h3 k3
  refine zY fun k4 h4 => ?_
  refine yK ?_
  refine zW (zV [0, 2, 3, 9, 10, 11]) ?_
  simp only [kp, zJ, simprocAttr]
  refine zK [] (by rw [hC]; rfl) fun k hk => ?_
  simp (maxSteps := 9^9) (disch := (try simp only [lens]); omega) only [zJ, sm, ↓amb, zQ, simprocAttr, el63, sz71, dx]
  repeat refine ⟨by first | omega | (simp; done) | (unfold maxLen; omega) | (simp [maxLen]; omega) | assumption, ?_⟩
  refine hk _ ?_; clear hk k
  have zl := Pl.firT_len l i
  have z1 := fun h => Pl.firB_0 (l := l) (i := i) h
  have z2 := fun h => Pl.firB_1 (l := l) (i := i) h
  have z3 : ((i : Int) - 1).toNat = i - 1 := by omega
  refine awp_regiong [] (by rw [hC]; rfl) fun gd hgd k hk => ?_
  have g4 : gd 4 = some 20 := by rw [hgd]; rfl
  clear hgd
  simp (maxSteps := 9^9) (disch := (try simp only [lens]); omega) only [zJ, sm, ↓amb, zQ, simprocAttr, el63, sz71, el105, sz4, g4, a07, dx]
  repeat refine ⟨by first | omega | (simp; done) | (unfold maxLen; omega) | (simp [maxLen]; omega) | assumption, ?_⟩
  refine ⟨fun hg => ?_, fun hg => ?_⟩
  ·try simp only [hbx] at hg
   repeat refine ⟨by first | omega | (simp; done) | (unfold maxLen; omega) | (simp [maxLen]; omega) | assumption, ?_⟩
   refine hk _ ?_; clear hk k
   refine h4 _ ?_; clear h4 k4
   refine yZ [] (by rw [hC]; rfl) fun k hk => ?_
   simp (maxSteps := 9^9) (disch := (try simp only [lens]); omega) only [zJ, sm, ↓amb, zQ, simprocAttr, dx]
   repeat refine ⟨by first | omega | (simp; done) | (unfold maxLen; omega) | (simp [maxLen]; omega) | assumption, ?_⟩
   refine hk _ ?_; clear hk k
   refine ⟨i + 1, by omega, le_of [(0, _)] (by rfl) (by rfl) ⟨⟨_, rfl, .p (.of_eq (by first | rfl | (simp only [PV.lit.injEq, Value.int.injEq, true_and]; omega) | (simp; done) | (simp; omega)))⟩, ⟨_, rfl, .own rfl⟩, ⟨_, rfl, .p (.of_eq (by first | rfl | (simp only [PV.lit.injEq, Value.int.injEq, true_and]; omega) | (simp; done) | (simp; omega)))⟩, ⟨_, rfl, .p (.of_eq (by first | rfl | (simp only [PV.lit.injEq, Value.int.injEq, true_and]; omega) | (simp; done) | (simp; omega)))⟩, ⟨_, rfl, .p (.of_eq (by first | rfl | (simp only [PV.lit.injEq, Value.int.injEq, true_and]; omega) | (simp; done) | (simp; omega)))⟩, trivial⟩ ⟨⟨_, rfl, _, rfl, .liftE (by first | (rw [Pl.firT_0, List.map_replicate]; done) | (rw [← Pl.firT_set, List.map_set, z1 (by omega)]; first | done | rfl) | (rw [← Pl.firT_set, List.map_set, z2 (by omega), ← z3]; first | done | rfl) | trace_state)⟩, trivial⟩, by omega⟩
  ·try simp only [hbx] at hg
   repeat refine ⟨by first | omega | (simp; done) | (unfold maxLen; omega) | (simp [maxLen]; omega) | assumption, ?_⟩
   refine hk _ ?_; clear hk k
   refine h4 _ ?_; clear h4 k4
   refine yZ [] (by rw [hC]; rfl) fun k hk => ?_
   simp (maxSteps := 9^9) (disch := (try simp only [lens]); omega) only [zJ, sm, ↓amb, zQ, simprocAttr, dx]
   repeat refine ⟨by first | omega | (simp; done) | (unfold maxLen; omega) | (simp [maxLen]; omega) | assumption, ?_⟩
   refine hk _ ?_; clear hk k
   refine ⟨i + 1, by omega, le_of [(0, _)] (by rfl) (by rfl) ⟨⟨_, rfl, .p (.of_eq (by first | rfl | (simp only [PV.lit.injEq, Value.int.injEq, true_and]; omega) | (simp; done) | (simp; omega)))⟩, ⟨_, rfl, .own rfl⟩, ⟨_, rfl, .p (.of_eq (by first | rfl | (simp only [PV.lit.injEq, Value.int.injEq, true_and]; omega) | (simp; done) | (simp; omega)))⟩, ⟨_, rfl, .p (.of_eq (by first | rfl | (simp only [PV.lit.injEq, Value.int.injEq, true_and]; omega) | (simp; done) | (simp; omega)))⟩, ⟨_, rfl, .p (.of_eq (by first | rfl | (simp only [PV.lit.injEq, Value.int.injEq, true_and]; omega) | (simp; done) | (simp; omega)))⟩, trivial⟩ ⟨⟨_, rfl, _, rfl, .liftE (by first | (rw [Pl.firT_0, List.map_replicate]; done) | (rw [← Pl.firT_set, List.map_set, z1 (by omega)]; first | done | rfl) | (rw [← Pl.firT_set, List.map_set, z2 (by omega), ← z3]; first | done | rfl) | trace_state)⟩, trivial⟩, by omega⟩
 ·try simp only [hbx] at hb
  refine yX ((if_pos rfl).mpr ?_)
  refine h1 _ ?_; clear h3 k3; clear h1 k1
  refine zW (zV [3]) ?_
  simp only [kp, zJ, simprocAttr]
  obtain rfl : i = l.length := by omega
  rw [Pl.firT_end]
  refine zK [] (by rw [hC]; rfl) fun k hk => ?_
  simp (maxSteps := 9^9) (disch := (try simp only [lens]); omega) only [zJ, sm, ↓amb, zQ, simprocAttr, dx]
  repeat refine ⟨by first | omega | (simp; done) | (unfold maxLen; omega) | (simp [maxLen]; omega) | assumption, ?_⟩
  refine hk _ ?_; clear hk k
  refine yQ ?_
  refine ret1 rfl rfl ?_
  exact .ownE rfl rfl
end Go.Proofs.Ytjkkjiaeeobnkaa
end
section
set_option linter.unusedSimpArgs false
set_option linter.unusedVariables false
set_option maxRecDepth 100000
namespace Go.Proofs.Ytjkkjiaeeobnkaa
open Go.Am Go.Proofs
theorem en100 : enters Try.prog 100 = true := by kernel_rfl
theorem en101 : enters Try.prog 101 = true := by kernel_rfl
theorem en102 : enters Try.prog 102 = true := by kernel_rfl
theorem en79 : enters Try.prog 79 = true := by kernel_rfl
theorem en99 : enters Try.prog 99 = true := by kernel_rfl
set_option maxHeartbeats 4000000 in
theorem c_dedup_Groups (c d : Bool) (l : List Int) (w : Pl.Way) (hl : ∀ x, x ∈ l → Pl.W32 x) (hn : l.length ≤ 1000000) : PCall Try.prog 79 [words c l, .agg (wayC d w)] (.tup [words false (Pl.grK l w), ints false (Pl.grC l w), iV (Pl.grT l.length w), iV (Pl.grE l.length w)]) := by
 have f1 := c_radix_Sort c d l w.bits w.block w.plan hl hn
 refine yV Try.func79 rfl (by simp [Try.ntmps79]) fun C hC => ?_
 refine zW (zV [0, 1]) ?_
 simp only [kp, zJ, simprocAttr]
 refine zK [80, 86] (by rw [hC]; rfl) fun k hk => ?_
 simp (maxSteps := 9^9) (disch := (try simp only [lens]); omega) only [zJ, sm, ↓amb, zQ, simprocAttr, dx]
 repeat refine ⟨by first | omega | (simp; done) | (unfold maxLen; omega) | (simp [maxLen]; omega) | assumption, ?_⟩
 refine hk _ ?_; clear hk k
 refine zW (zV [0, 3]) ?_
 simp only [kp, zJ, simprocAttr]
 refine zK [80, 86] (by rw [hC]; rfl) fun k hk => ?_
 simp (maxSteps := 9^9) (disch := (try simp only [lens]); omega) only [zJ, sm, ↓amb, zQ, simprocAttr, fl53_0, sz3, fl53_1, fl53_2, sz51, en99, dx]
 repeat refine ⟨by first | omega | (simp; done) | (unfold maxLen; omega) | (simp [maxLen]; omega) | assumption, ?_⟩
 refine yW (f1) rfl ?_
 simp (maxSteps := 9^9) (disch := (try simp only [lens]); omega) only [zJ, sm, ↓amb, zQ, simprocAttr, fl53_0, sz3, fl53_1, fl53_2, sz51, en99, dx]
 repeat refine ⟨by first | omega | (simp; done) | (unfold maxLen; omega) | (simp [maxLen]; omega) | assumption, ?_⟩
 refine hk _ ?_; clear hk k
 refine zY fun k1 h1 => ?_
 refine zW (zV [0, 3, 4, 5, 6, 7, 8, 9, 10]) ?_
 simp only [kp, zJ, simprocAttr]
 refine zK [80, 86] (by rw [hC]; rfl) fun k hk => ?_
 simp (maxSteps := 9^9) (disch := (try simp only [lens]); omega) only [zJ, sm, ↓amb, zQ, simprocAttr, dx]
 repeat refine ⟨by first | omega | (simp; done) | (unfold maxLen; omega) | (simp [maxLen]; omega) | assumption, ?_⟩
 refine hk _ ?_; clear hk k
 refine zX rfl (fun hb => ?_) (fun hb => ?_)
 ·try simp only [hbx] at hb
  refine zW (zV [10]) ?_
  simp only [kp, zJ, simprocAttr]
  refine zK [80, 86] (by rw [hC]; rfl) fun k hk => ?_
  simp (maxSteps := 9^9) (disch := (try simp only [lens]); omega) only [zJ, sm, ↓amb, zQ, simprocAttr, dx]
  repeat refine ⟨by first | omega | (simp; done) | (unfold maxLen; omega) | (simp [maxLen]; omega) | assumption, ?_⟩
  refine hk _ ?_; clear hk k
  refine yQ ?_
  rw [show Pl.grK l w = [] from if_neg hb, show Pl.grC l w = [] from if_neg hb, show Pl.grT l.length w = 0 from if_neg hb]
  refine ret4 rfl rfl rfl rfl rfl ?_ ?_ ?_ ?_
  ·exact .p (LeP.seq _ _)
  ·exact .p (LeP.seq _ _)
  ·exact .p (LeP.refl _)
  ·exact .p (LeP.refl _)
 ·try simp only [hbx] at hb
  refine yJ ?_
  refine h1 _ ?_; clear h1 k1
  refine zW (zV [0, 3, 8, 9]) ?_
  simp only [kp, zJ, simprocAttr]
  have he0 : Pl.grE l.length w = 0 := hb
  have hra : Pl.raE l.length w.bits w.block w.plan = 0 := he0
  have hs0 : Pl.scE l.length w.block w.plan = 0 := by
   unfold Pl.raE at hra; split at hra
   ·exact absurd hra (by decide)
   ·exact hra
  have ho : Pl.onceP (Pl.raL l w.bits w.block w.plan) l.length := by unfold Pl.raL; rw [if_pos hra]; exact Pl.passes_once hl _ _
  have f2 := c_radix_Sorted c false l (Pl.raL l w.bits w.block w.plan) hl (fun x hx => by have := ho.2.1 x hx; omega) hn (by have := ho.1; omega)
  rw [if_pos ho, decide_eq_true ho, show Pl.sortedL l (Pl.raL l w.bits w.block w.plan) = Pl.grS l w from rfl] at f2
  have hsl : (Pl.grS l w).length = l.length := by unfold Pl.grS; rw [Pl.sortedL_len]; exact ho.1
  have hgs : ∀ x, x ∈ Pl.grS l w → Pl.W32 x := fun x hx => by
   unfold Pl.grS Pl.sortedL at hx
   obtain ⟨j, _, rfl⟩ := List.mem_map.1 hx
   exact Pl.getD_w hl _
  have hfl := Pl.firstsL_len (Pl.grS l w)
  have f3 := c_pack_Where false d (Pl.firstsL (Pl.grS l w)) w.block w.plan (by omega)
  rw [show Pl.whL (Pl.firstsL (Pl.grS l w)) false w.block w.plan = Pl.grW l w from rfl, hfl, hsl, hs0] at f3
  have hwm : ∀ x, x ∈ Pl.grW l w → 0 ≤ x ∧ x < l.length := fun x hx => by have := Pl.wh_mem x hx; rwa [hfl, hsl] at this
  have hwn : (Pl.grW l w).length ≤ l.length := by have := Pl.wh_len (Pl.firstsL (Pl.grS l w)) false w.block w.plan; rwa [hfl, hsl] at this
  refine zK [80, 86] (by rw [hC]; rfl) fun k hk => ?_
  simp (maxSteps := 9^9) (disch := (try simp only [lens]); omega) only [zJ, sm, ↓amb, zQ, simprocAttr, en100, dx]
  repeat refine ⟨by first | omega | (simp; done) | (unfold maxLen; omega) | (simp [maxLen]; omega) | assumption, ?_⟩
  refine yW (f2) rfl ?_
  simp (maxSteps := 9^9) (disch := (try simp only [lens]); omega) only [zJ, sm, ↓amb, zQ, simprocAttr, en100, dx]
  repeat refine ⟨by first | omega | (simp; done) | (unfold maxLen; omega) | (simp [maxLen]; omega) | assumption, ?_⟩
  refine hk _ ?_; clear hk k
  refine zW (zV [3, 9, 11]) ?_
  simp only [kp, zJ, simprocAttr]
  refine awp_sd [80, 86] ⟨[0, 1, 0, 4, 0, 16, 63, 127, 255, 255, 255, 511, 3071, 8191], [3, 5], [], [], some []⟩ (by rw [hC]; rfl) (by kernel_rfl) (by kernel_rfl) fun k hk => ?_
  simp (maxSteps := 9^9) (disch := (try simp only [lens]); omega) only [zJ, sm, ↓amb, zQ, simprocAttr, en102, fl53_1, sz3, fl53_2, sz51, en101, dx]
  repeat refine ⟨by first | omega | (simp; done) | (unfold maxLen; omega) | (simp [maxLen]; omega) | assumption, ?_⟩
  refine yW (c_dedup_firsts false (Pl.grS l w) hgs (by omega)) rfl ?_
  simp (maxSteps := 9^9) (disch := (try simp only [lens]); omega) only [zJ, sm, ↓amb, zQ, simprocAttr, en102, fl53_1, sz3, fl53_2, sz51, en101, dx]
  repeat refine ⟨by first | omega | (simp; done) | (unfold maxLen; omega) | (simp [maxLen]; omega) | assumption, ?_⟩
  refine yW (f3) rfl ?_
  simp (maxSteps := 9^9) (disch := (try simp only [lens]); omega) only [zJ, sm, ↓amb, zQ, simprocAttr, en102, fl53_1, sz3, fl53_2, sz51, en101, dx]
  repeat refine ⟨by first | omega | (simp; done) | (unfold maxLen; omega) | (simp [maxLen]; omega) | assumption, ?_⟩
  refine hk _ ?_; clear hk k
  refine zY fun k2 h2 => ?_
  refine zW (zV [4, 5, 6, 7, 9, 10, 11, 13, 14]) ?_
  simp only [kp, zJ, simprocAttr]
  refine zK [80, 86] (by rw [hC]; rfl) fun k hk => ?_
  simp (maxSteps := 9^9) (disch := (try simp only [lens]); omega) only [zJ, sm, ↓amb, zQ, simprocAttr, dx]
  repeat refine ⟨by first | omega | (simp; done) | (unfold maxLen; omega) | (simp [maxLen]; omega) | assumption, ?_⟩
  refine hk _ ?_; clear hk k
  refine zX rfl (fun hb => ?_) (fun hb => ?_)
  ·exact absurd hb (by simp)
  ·try simp only [hbx] at hb
   refine yJ ?_
   refine h2 _ ?_; clear h2 k2
   refine zW (zV [9, 11, 13, 14]) ?_
   simp only [kp, zJ, simprocAttr]
   refine zK [80, 86] (by rw [hC]; rfl) fun k hk => ?_
   simp (maxSteps := 9^9) (disch := (try simp only [lens]); omega) only [zJ, sm, ↓amb, zQ, simprocAttr, dx]
   repeat refine ⟨by first | omega | (simp; done) | (unfold maxLen; omega) | (simp [maxLen]; omega) | assumption, ?_⟩
   refine hk _ ?_; clear hk k
   refine zW (zV [9, 11, 13, 14, 15]) ?_
   simp only [kp, zJ, simprocAttr]
   refine zK [80, 86] (by rw [hC]; rfl) fun k hk => ?_
   simp (maxSteps := 9^9) (disch := (try simp only [lens]); omega) only [zJ, sm, ↓amb, zQ, simprocAttr, dx]
   repeat refine ⟨by first | omega | (simp; done) | (unfold maxLen; omega) | (simp [maxLen]; omega) | assumption, ?_⟩
   refine hk _ ?_; clear hk k
   refine zY fun k3 h3 => ?_
   refine zW (zV [4, 5, 6, 7, 9, 11, 13, 14, 15, 16]) ?_
   simp only [kp, zJ, simprocAttr]
   refine awp_own' 15 1 rfl ?_
   simp only [am, List.set_cons_succ, List.set_cons_zero, Nat.reduceEqDiff, ↓reduceIte, reduceCtorEq, Nat.reduceAdd, Nat.reduceMul]
   refine awp_own' 16 1 rfl ?_
   refine zK [80, 86] (by rw [hC]; rfl) fun k hk => ?_
   simp (maxSteps := 9^9) (disch := (try simp only [lens]); omega) only [zJ, sm, ↓amb, zQ, simprocAttr, el67, dx]
   repeat refine ⟨by first | omega | (simp; done) | (unfold maxLen; omega) | (simp [maxLen]; omega) | assumption, ?_⟩
   refine hk _ ?_; clear hk k
   refine yK ?_
   refine yY (σ := Nat) (fun i => i ≤ (Pl.grW l w).length) (fun (i : Nat) => ⟨[(9, (.p (iV (Pl.raS l.length w.bits w.block w.plan)))), (11, (.p (words false (Pl.grS l w)))), (13, (.p (ints false (Pl.grW l w)))), (14, (.p (iV (Pl.whS l.length w.block w.plan)))), (15, (.own 0)), (16, (.own 1)), (55, (.p (ints false (Pl.grW l w)))), (56, (.p (iV (Pl.grW l w).length))), (57, (.p (iV (i : Int))))], [(0, (.row 1 (lift ((Pl.sortedL (Pl.grS l w) ((Pl.grW l w).take i)).map fun x => [u32V x])))), (1, (.row 1 (lift ((Pl.cntG l.length (Pl.grW l w) i).map fun x => [iV x]))))], 1⟩) (fun i => (Pl.grW l w).length - i) 0 ?_ ?_ fun i hi => ?_
   ·exact Nat.zero_le _
   ·exact le_of [(0, _), (1, _)] (by rfl) (by rfl) ⟨⟨_, rfl, .p (.of_eq (by first | rfl | (simp only [PV.lit.injEq, Value.int.injEq, true_and]; omega) | (simp; done) | (simp; omega)))⟩, ⟨_, rfl, .p (.of_eq (by first | rfl | (simp only [PV.lit.injEq, Value.int.injEq, true_and]; omega) | (simp; done) | (simp; omega)))⟩, ⟨_, rfl, .p (.of_eq (by first | rfl | (simp only [PV.lit.injEq, Value.int.injEq, true_and]; omega) | (simp; done) | (simp; omega)))⟩, ⟨_, rfl, .p (.of_eq (by first | rfl | (simp only [PV.lit.injEq, Value.int.injEq, true_and]; omega) | (simp; done) | (simp; omega)))⟩, ⟨_, rfl, .own rfl⟩, ⟨_, rfl, .own rfl⟩, ⟨_, rfl, .p (.of_eq (by first | rfl | (simp only [PV.lit.injEq, Value.int.injEq, true_and]; omega) | (simp; done) | (simp; omega)))⟩, ⟨_, rfl, .p (.of_eq (by first | rfl | (simp only [PV.lit.injEq, Value.int.injEq, true_and]; omega) | (simp; done) | (simp; omega)))⟩, ⟨_, rfl, .p (.of_eq (by first | rfl | (simp only [PV.lit.injEq, Value.int.injEq, true_and]; omega) | (simp; done) | (simp; omega)))⟩, trivial⟩ ⟨⟨_, rfl, _, rfl, .liftE (by first | rfl | (rw [Pl.take_snoc' (Pl.grW l w) i (by omega), Pl.sortedL_snoc, List.map_append]; first | done | rfl) | trace_state)⟩, ⟨_, rfl, _, rfl, .liftE (by first | rfl | (rw [Pl.cntG_snoc, List.map_append, if_pos (by omega)]; first | done | rfl) | (rw [Pl.cntG_snoc, List.map_append, if_neg (by omega)]; first | done | rfl | (rw [hsl]; rfl)) | trace_state)⟩, trivial⟩
   refine zW (zV [0, 1, 4, 5, 6, 7, 9, 11, 13, 14, 15, 16, 55, 56, 57]) ?_
   simp only [kp, zJ, simprocAttr]
   refine zK [80, 86] (by rw [hC]; rfl) fun k hk => ?_
   simp (maxSteps := 9^9) (disch := (try simp only [lens]); omega) only [zJ, sm, ↓amb, zQ, simprocAttr, dx]
   repeat refine ⟨by first | omega | (simp; done) | (unfold maxLen; omega) | (simp [maxLen]; omega) | assumption, ?_⟩
   refine hk _ ?_; clear hk k
   refine zY fun k5 h5 => ?_
   refine zX rfl (fun hb => ?_) (fun hb => ?_)
   ·try simp only [hbx] at hb
    refine yJ ?_
    refine h5 _ ?_; clear h5 k5
    refine zY fun k6 h6 => ?_
    refine yK ?_
    refine zW (zV [0, 1, 4, 5, 6, 7, 9, 11, 13, 14, 15, 16, 55, 56, 57]) ?_
    simp only [kp, zJ, simprocAttr]
    have hx := hwm _ (Pl.getD_mem (Pl.grW l w) i 0 (by omega))
    refine zK [80, 86] (by rw [hC]; rfl) fun k hk => ?_
    simp (maxSteps := 9^9) (disch := (try simp only [lens]); omega) only [zJ, sm, ↓amb, zQ, simprocAttr, el67, sz3, dx]
    repeat refine ⟨by first | omega | (simp; done) | (unfold maxLen; omega) | (simp [maxLen]; omega) | assumption, ?_⟩
    refine hk _ ?_; clear hk k
    refine zW (zV [0, 1, 4, 5, 6, 7, 9, 11, 13, 14, 15, 16, 17, 18, 55, 56, 57]) ?_
    simp only [kp, zJ, simprocAttr]
    refine zK [80, 86] (by rw [hC]; rfl) fun k hk => ?_
    simp (maxSteps := 9^9) (disch := (try simp only [lens]); omega) only [zJ, sm, ↓amb, zQ, simprocAttr, el63, dx]
    repeat refine ⟨by first | omega | (simp; done) | (unfold maxLen; omega) | (simp [maxLen]; omega) | assumption, ?_⟩
    refine hk _ ?_; clear hk k
    refine zY fun k7 h7 => ?_
    refine zW (zV [0, 1, 4, 5, 6, 7, 9, 11, 13, 14, 15, 16, 17, 18, 19, 55, 56, 57]) ?_
    simp only [kp, zJ, simprocAttr]
    have hcl := Pl.cntG_len l.length (Pl.grW l w) i
    have hkl : (Pl.sortedL (Pl.grS l w) ((Pl.grW l w).take i)).length = i := by rw [Pl.sortedL_len, List.length_take]; omega
    refine zK [80, 86] (by rw [hC]; rfl) fun k hk => ?_
    simp (maxSteps := 9^9) (disch := (try simp only [lens]); omega) only [zJ, sm, ↓amb, zQ, simprocAttr, el67, dx]
    repeat refine ⟨by first | omega | (simp; done) | (unfold maxLen; omega) | (simp [maxLen]; omega) | assumption, ?_⟩
    refine hk _ ?_; clear hk k
    refine zX rfl (fun hb => ?_) (fun hb => ?_)
    ·try simp only [hbx] at hb
     have hy := hwm _ (Pl.getD_mem (Pl.grW l w) (i + 1) 0 (by omega))
     refine yZ [80, 86] (by rw [hC]; rfl) fun k hk => ?_
     simp (maxSteps := 9^9) (disch := (try simp only [lens]); omega) only [zJ, sm, ↓amb, zQ, simprocAttr, el67, sz3, dx]
     repeat refine ⟨by first | omega | (simp; done) | (unfold maxLen; omega) | (simp [maxLen]; omega) | assumption, ?_⟩
     refine hk _ ?_; clear hk k
     refine h7 _ ?_; clear h7 k7
     refine yZ [80, 86] (by rw [hC]; rfl) fun k hk => ?_
     simp (maxSteps := 9^9) (disch := (try simp only [lens]); omega) only [zJ, sm, ↓amb, zQ, simprocAttr, el63, sz71, vr71, by71, el67, vr3, by3, dx]
     repeat refine ⟨by first | omega | (simp; done) | (unfold maxLen; omega) | (simp [maxLen]; omega) | assumption, ?_⟩
     refine hk _ ?_; clear hk k
     refine h6 _ ?_; clear h6 k6
     refine yZ [80, 86] (by rw [hC]; rfl) fun k hk => ?_
     simp (maxSteps := 9^9) (disch := (try simp only [lens]); omega) only [zJ, sm, ↓amb, zQ, simprocAttr, dx]
     repeat refine ⟨by first | omega | (simp; done) | (unfold maxLen; omega) | (simp [maxLen]; omega) | assumption, ?_⟩
     refine hk _ ?_; clear hk k
     refine ⟨i + 1, by omega, le_of [(0, _), (1, _)] (by rfl) (by rfl) ⟨⟨_, rfl, .p (.of_eq (by first | rfl | (simp only [PV.lit.injEq, Value.int.injEq, true_and]; omega) | (simp; done) | (simp; omega)))⟩, ⟨_, rfl, .p (.of_eq (by first | rfl | (simp only [PV.lit.injEq, Value.int.injEq, true_and]; omega) | (simp; done) | (simp; omega)))⟩, ⟨_, rfl, .p (.of_eq (by first | rfl | (simp only [PV.lit.injEq, Value.int.injEq, true_and]; omega) | (simp; done) | (simp; omega)))⟩, ⟨_, rfl, .p (.of_eq (by first | rfl | (simp only [PV.lit.injEq, Value.int.injEq, true_and]; omega) | (simp; done) | (simp; omega)))⟩, ⟨_, rfl, .own rfl⟩, ⟨_, rfl, .own rfl⟩, ⟨_, rfl, .p (.of_eq (by first | rfl | (simp only [PV.lit.injEq, Value.int.injEq, true_and]; omega) | (simp; done) | (simp; omega)))⟩, ⟨_, rfl, .p (.of_eq (by first | rfl | (simp only [PV.lit.injEq, Value.int.injEq, true_and]; omega) | (simp; done) | (simp; omega)))⟩, ⟨_, rfl, .p (.of_eq (by first | rfl | (simp only [PV.lit.injEq, Value.int.injEq, true_and]; omega) | (simp; done) | (simp; omega)))⟩, trivial⟩ ⟨⟨_, rfl, _, rfl, .liftE (by first | rfl | (rw [Pl.take_snoc' (Pl.grW l w) i (by omega), Pl.sortedL_snoc, List.map_append]; first | done | rfl) | trace_state)⟩, ⟨_, rfl, _, rfl, .liftE (by first | rfl | (rw [Pl.cntG_snoc, List.map_append, if_pos (by omega)]; first | done | rfl) | (rw [Pl.cntG_snoc, List.map_append, if_neg (by omega)]; first | done | rfl | (rw [hsl]; rfl)) | trace_state)⟩, trivial⟩, by omega⟩
    ·try simp only [hbx] at hb
     refine yJ ?_
     refine h7 _ ?_; clear h7 k7
     refine yZ [80, 86] (by rw [hC]; rfl) fun k hk => ?_
     simp (maxSteps := 9^9) (disch := (try simp only [lens]); omega) only [zJ, sm, ↓amb, zQ, simprocAttr, el63, sz71, vr71, by71, el67, vr3, by3, dx]
     repeat refine ⟨by first | omega | (simp; done) | (unfold maxLen; omega) | (simp [maxLen]; omega) | assumption, ?_⟩
     refine hk _ ?_; clear hk k
     refine h6 _ ?_; clear h6 k6
     refine yZ [80, 86] (by rw [hC]; rfl) fun k hk => ?_
     simp (maxSteps := 9^9) (disch := (try simp only [lens]); omega) only [zJ, sm, ↓amb, zQ, simprocAttr, dx]
     repeat refine ⟨by first | omega | (simp; done) | (unfold maxLen; omega) | (simp [maxLen]; omega) | assumption, ?_⟩
     refine hk _ ?_; clear hk k
     refine ⟨i + 1, by omega, le_of [(0, _), (1, _)] (by rfl) (by rfl) ⟨⟨_, rfl, .p (.of_eq (by first | rfl | (simp only [PV.lit.injEq, Value.int.injEq, true_and]; omega) | (simp; done) | (simp; omega)))⟩, ⟨_, rfl, .p (.of_eq (by first | rfl | (simp only [PV.lit.injEq, Value.int.injEq, true_and]; omega) | (simp; done) | (simp; omega)))⟩, ⟨_, rfl, .p (.of_eq (by first | rfl | (simp only [PV.lit.injEq, Value.int.injEq, true_and]; omega) | (simp; done) | (simp; omega)))⟩, ⟨_, rfl, .p (.of_eq (by first | rfl | (simp only [PV.lit.injEq, Value.int.injEq, true_and]; omega) | (simp; done) | (simp; omega)))⟩, ⟨_, rfl, .own rfl⟩, ⟨_, rfl, .own rfl⟩, ⟨_, rfl, .p (.of_eq (by first | rfl | (simp only [PV.lit.injEq, Value.int.injEq, true_and]; omega) | (simp; done) | (simp; omega)))⟩, ⟨_, rfl, .p (.of_eq (by first | rfl | (simp only [PV.lit.injEq, Value.int.injEq, true_and]; omega) | (simp; done) | (simp; omega)))⟩, ⟨_, rfl, .p (.of_eq (by first | rfl | (simp only [PV.lit.injEq, Value.int.injEq, true_and]; omega) | (simp; done) | (simp; omega)))⟩, trivial⟩ ⟨⟨_, rfl, _, rfl, .liftE (by first | rfl | (rw [Pl.take_snoc' (Pl.grW l w) i (by omega), Pl.sortedL_snoc, List.map_append]; first | done | rfl) | trace_state)⟩, ⟨_, rfl, _, rfl, .liftE (by first | rfl | (rw [Pl.cntG_snoc, List.map_append, if_pos (by omega)]; first | done | rfl) | (rw [Pl.cntG_snoc, List.map_append, if_neg (by omega)]; first | done | rfl | (rw [hsl]; rfl)) | trace_state)⟩, trivial⟩, by omega⟩
   ·try simp only [hbx] at hb
    refine yX ((if_pos rfl).mpr ?_)
    refine h3 _ ?_; clear h5 k5; clear h3 k3
    refine zW (zV [9, 14, 15, 16]) ?_
    simp only [kp, zJ, simprocAttr]
    obtain rfl : i = (Pl.grW l w).length := by omega
    rw [List.take_of_length_le (Nat.le_refl _)]
    have r1 := Pl.scS_nn l.length w.block w.plan
    have r2 := Pl.pas_nn w.bits
    have r3 : 0 ≤ Pl.raS l.length w.bits w.block w.plan ∧ Pl.raS l.length w.bits w.block w.plan ≤ 40000 * 33 := by
     unfold Pl.raS; split
     ·exact ⟨Int.mul_nonneg r1.1 r2.1, Pl.mul_up r1.2 (by omega) r2.1 (by omega)⟩
     ·omega
    have r4 := Pl.ordS_up l.length w.plan
    have r5 : 0 ≤ Pl.whS l.length w.block w.plan ∧ Pl.whS l.length w.block w.plan ≤ 60000 := by unfold Pl.whS; split <;> omega
    refine zK [80, 86] (by rw [hC]; rfl) fun k hk => ?_
    simp (maxSteps := 9^9) (disch := (try simp only [lens]); omega) only [zJ, sm, ↓amb, zQ, simprocAttr, dx]
    repeat refine ⟨by first | omega | (simp; done) | (unfold maxLen; omega) | (simp [maxLen]; omega) | assumption, ?_⟩
    refine hk _ ?_; clear hk k
    refine yQ ?_
    rw [show Pl.grK l w = Pl.sortedL (Pl.grS l w) (Pl.grW l w) from if_pos he0, show Pl.grC l w = Pl.cntG l.length (Pl.grW l w) (Pl.grW l w).length from if_pos he0, show Pl.grT l.length w = Pl.raS l.length w.bits w.block w.plan + Pl.whS l.length w.block w.plan from if_pos he0, he0]
    refine ret4 rfl rfl rfl rfl rfl ?_ ?_ ?_ ?_
    ·exact .ownE rfl rfl
    ·exact .ownE rfl rfl
    ·exact .p (LeP.refl _)
    ·exact .p (LeP.refl _)
set_option maxHeartbeats 4000000 in
theorem c_dedup_Once (c d : Bool) (l : List Int) (w : Pl.Way) (hl : ∀ x, x ∈ l → Pl.W32 x) (hn : l.length ≤ 1000000) : PCall Try.prog 43 [words c l, .agg (wayC d w)] (.tup [words false (Pl.grK l w), iV (Pl.grT l.length w), iV (Pl.grE l.length w)]) := by
 refine yV Try.func43 rfl (by simp [Try.ntmps43]) fun C hC => ?_
 refine zW (zV [0, 1]) ?_
 simp only [kp, zJ, simprocAttr]
 refine zK [] (by rw [hC]; rfl) fun k hk => ?_
 simp (maxSteps := 9^9) (disch := (try simp only [lens]); omega) only [zJ, sm, ↓amb, zQ, simprocAttr, dx]
 repeat refine ⟨by first | omega | (simp; done) | (unfold maxLen; omega) | (simp [maxLen]; omega) | assumption, ?_⟩
 refine hk _ ?_; clear hk k
 refine zW (zV [0, 3]) ?_
 simp only [kp, zJ, simprocAttr]
 refine zK [] (by rw [hC]; rfl) fun k hk => ?_
 simp (maxSteps := 9^9) (disch := (try simp only [lens]); omega) only [zJ, sm, ↓amb, zQ, simprocAttr, sz53, en79, dx]
 repeat refine ⟨by first | omega | (simp; done) | (unfold maxLen; omega) | (simp [maxLen]; omega) | assumption, ?_⟩
 refine yW (c_dedup_Groups c d l w hl hn) rfl ?_
 simp (maxSteps := 9^9) (disch := (try simp only [lens]); omega) only [zJ, sm, ↓amb, zQ, simprocAttr, sz53, en79, dx]
 repeat refine ⟨by first | omega | (simp; done) | (unfold maxLen; omega) | (simp [maxLen]; omega) | assumption, ?_⟩
 refine hk _ ?_; clear hk k
 refine zW (zV [7, 9, 10]) ?_
 simp only [kp, zJ, simprocAttr]
 refine zK [] (by rw [hC]; rfl) fun k hk => ?_
 simp (maxSteps := 9^9) (disch := (try simp only [lens]); omega) only [zJ, sm, ↓amb, zQ, simprocAttr, dx]
 repeat refine ⟨by first | omega | (simp; done) | (unfold maxLen; omega) | (simp [maxLen]; omega) | assumption, ?_⟩
 refine hk _ ?_; clear hk k
 refine yQ ?_
 refine ret3 rfl rfl rfl rfl ?_ ?_ ?_
 ·exact .p (LeP.refl _)
 ·exact .p (LeP.refl _)
 ·exact .p (LeP.refl _)
end Go.Proofs.Ytjkkjiaeeobnkaa
end
section
set_option linter.unusedSimpArgs false
set_option linter.unusedVariables false
namespace Go.Pl
open Go.Am
theorem cut_eq {n w : Int} (h : 0 < w) : (n.tmod w < 0 → n.tmod w + w = n % w) ∧ (¬ n.tmod w < 0 → n.tmod w = n % w) := by
  obtain ⟨h1, h2⟩ := tmod_bound n h
  have h3 := Int.mul_tdiv_add_tmod n w
  constructor
  · intro h0
    have e : n = (n.tmod w + w) + w * (n.tdiv w - 1) := by rw [Int.mul_sub]; omega
    conv => rhs; rw [e]
    rw [Int.add_mul_emod_self_left, Int.emod_eq_of_lt (by omega) (by omega)]
  · intro h0
    have e : n = n.tmod w + w * n.tdiv w := by omega
    conv => rhs; rw [e]
    rw [Int.add_mul_emod_self_left, Int.emod_eq_of_lt (by omega) (by omega)]
theorem num_eq (d : List (List Int)) (n : Int) (h : 1 ≤ d.length) : num d n = n % (d.length : Int) := by
  have hw : (0 : Int) < (d.length : Int) := by omega
  obtain ⟨h1, h2⟩ := tmod_bound n hw
  obtain ⟨c1, c2⟩ := cut_eq (n := n) hw
  unfold num
  by_cases h0 : n.tmod (d.length : Int) < 0
  · rw [← c1 h0, Int.emod_eq_of_lt (by omega) (by omega)]
  · rw [← c2 h0, Int.add_emod_right, Int.emod_eq_of_lt (by omega) (by omega)]
theorem metL_at {n : Nat} {l : List Int} {t : Int} (h0 : 0 ≤ t) (h1 : t < n) : (metL n l).getD t.toNat default = decide (t ∈ l) := by
  unfold metL
  rw [List.getD_eq_getElem?_getD, List.getElem?_map, List.getElem?_range (by omega)]
  simp [Int.toNat_of_nonneg h0]
theorem metL_in {n : Nat} {l : List Int} {t : Int} (h0 : 0 ≤ t) (h1 : t < n) (h : (metL n l).getD t.toNat default = true) : t ∈ l := by
  rw [metL_at h0 h1] at h; exact of_decide_eq_true h
theorem metL_out {n : Nat} {l : List Int} {t : Int} (h0 : 0 ≤ t) (h1 : t < n) (h : (metL n l).getD t.toNat default = false) : t ∉ l := by
  rw [metL_at h0 h1] at h; exact of_decide_eq_false h
def heldOk (w : Work) (l : List Int) (t : Int) : Prop := 0 ≤ t ∧ t < w.ts.length ∧ t ∉ l ∧ (w.ts.getD t.toNat default).wait = 0 ∧ (great w t ∨ ¬ w.done.getD (w.ts.getD t.toNat default).low.toNat default = true)
instance (w : Work) (l : List Int) (t : Int) : Decidable (heldOk w l t) := by unfold heldOk; infer_instance
theorem heldOk_iff (w : Work) (l : List Int) (t : Int) : heldOk w l t ↔ t ∉ l ∧ holds w t := by
  unfold heldOk holds task
  simp only [Bool.not_eq_true]
  exact ⟨fun ⟨a, b, c, d⟩ => ⟨c, a, b, d⟩, fun ⟨c, a, b, d⟩ => ⟨a, b, c, d⟩⟩
theorem held_last {w : Work} {l : List Int} {t : Int} (h0 : 0 ≤ t) (h1 : t < w.ts.length) (h2 : t ∉ l) (h3 : (w.ts.getD t.toNat default).wait = 0) (h4 : ¬ great w t) :
    w.done.getD (w.ts.getD t.toNat default).low.toNat default = decide (¬ heldOk w l t) := by
  refine Bool.eq_iff_iff.mpr ?_
  simp only [decide_eq_true_eq]
  exact ⟨fun h q => q.2.2.2.2.elim (fun z => h4 z) (fun z => z h), fun h => Decidable.byContradiction fun z => h ⟨h0, h1, h2, h3, .inr z⟩⟩
theorem metOk_more {w : Work} {l : List Int} {t : Int} (h : metOk w l) (h2 : heldOk w l t) : metOk w (l ++ [t]) := by
  obtain ⟨h3, h4⟩ := (heldOk_iff w l t).1 h2
  refine ⟨?_, fun u hu => ?_⟩
  · rw [List.nodup_append]
    refine ⟨h.1, by simp, fun a ha b hb => ?_⟩
    simp at hb; subst hb
    intro e; subst e; exact h3 ha
  · rcases List.mem_append.1 hu with q | q
    · exact h.2 u q
    · simp at q; subst q; exact h4
theorem crewRight_not {c : Crew} {l r : List Int} {t : Int} (h2 : ¬ heldOk c.work l t) (e : c.dq.flatten = (l ++ [t]) ++ r) : ¬ crewRight c := by
  intro ⟨_, _, _, _, _, hn, hh⟩
  refine h2 ((heldOk_iff _ _ _).2 ⟨fun hm => ?_, hh t (by rw [e]; simp)⟩)
  rw [e] at hn
  have h3 := (List.nodup_append.1 (List.nodup_append.1 hn).1).2.2 t hm t (by simp)
  exact h3 rfl
end Go.Pl
namespace Go.Pl
open Go.Am
theorem step_at {c : Crew} {p v : Int} (h0 : (step c p v).2.2 = 0) : ∃ P V : Nat, p % (c.dq.length : Int) = (P : Int) ∧ v % (c.dq.length : Int) = (V : Int) ∧ (num c.dq p).toNat = P ∧ (num c.dq v).toNat = V ∧ num c.dq p = (P : Int) ∧ P < c.dq.length ∧ V < c.dq.length ∧ crewRight c ∧ ¬ c.steps = 100000 := by
  obtain ⟨hr, hst, _⟩ := step_cases c p v h0
  have n1 := num_bound c.dq p hr.2.1
  have n2 := num_bound c.dq v hr.2.1
  have e1 := num_eq c.dq p hr.2.1
  have e2 := num_eq c.dq v hr.2.1
  exact ⟨(num c.dq p).toNat, (num c.dq v).toNat, by omega, by omega, rfl, rfl, by omega, by omega, by omega, hr, hst⟩
theorem step_own {c : Crew} {p v : Int} {P V : Nat} (h0 : (step c p v).2.2 = 0) (hP : (num c.dq p).toNat = P) (hN : num c.dq p = (P : Int)) (hV : (num c.dq v).toNat = V) (hp : 0 < (c.dq.getD P default).length) {t : Int} (ht : t = (c.dq.getD P default).getD ((c.dq.getD P default).length - 1) 0) :
    (great c.work t → partE c.work t = 0 ∧ step c p v = (⟨partW c.work t, c.dq.set P ((c.dq.getD P default).take ((c.dq.getD P default).length - 1) ++ [partB c.work t, partA c.work t]), c.over, c.steps + 1, c.idle⟩, ⟨P, P, t, true⟩, 0)) ∧
    (¬ great c.work t → doE c.work t = 0 ∧ step c p v = (⟨doW c.work t, c.dq.set P ((c.dq.getD P default).take ((c.dq.getD P default).length - 1)), c.over || doO c.work t, c.steps + 1, c.idle⟩, ⟨P, P, t, false⟩, 0)) := by
  obtain ⟨hr, hst, hc⟩ := step_cases c p v h0
  have n1 := num_bound c.dq p hr.2.1
  have hPl : P < c.dq.length := by omega
  have fb : foundB c.dq P V = true := decide_eq_true (.inl hp)
  have fe : evF c.dq p v = ⟨P, P, t, false⟩ := by
    unfold evF evN foundE; rw [hP, if_pos hp, hN, ← ht]
  have fd : dqF c.dq p v = c.dq.set P ((c.dq.getD P default).take ((c.dq.getD P default).length - 1)) := by
    unfold dqF foundD; rw [hP, if_pos hp]
  rw [hP, hV, fb, fe, fd] at hc
  rcases hc with ⟨_, h1, h2⟩ | ⟨h1, _⟩
  · dsimp only at h1 h2
    constructor
    · intro hg
      have hpe : partE c.work t = 0 := by rw [goE, if_pos hg] at h1; exact h1
      obtain ⟨e1, e2, e3, e4, e5⟩ := go_part (t := t) (d := c.dq.set P ((c.dq.getD P default).take ((c.dq.getD P default).length - 1))) (p := P) (o := c.over) (e := (⟨P, P, t, false⟩ : Event)) rfl hg hpe
      rw [e2, e3, e4, e5] at h2
      refine ⟨hpe, h2.trans ?_⟩
      rw [List.set_set, show (c.dq.set P ((c.dq.getD P default).take ((c.dq.getD P default).length - 1))).getD P default = (c.dq.getD P default).take ((c.dq.getD P default).length - 1) from getD_set _ _ _ _ hPl]
    · intro hg
      obtain ⟨e1, e2, e3, e4, e5⟩ := go_do (t := t) (d := c.dq.set P ((c.dq.getD P default).take ((c.dq.getD P default).length - 1))) (p := P) (o := c.over) (e := (⟨P, P, t, false⟩ : Event)) rfl hg
      rw [e1] at h1
      rw [e2, e3, e4, e5] at h2
      exact ⟨h1, h2⟩
  · cases h1
theorem step_steal {c : Crew} {p v : Int} {P V : Nat} (h0 : (step c p v).2.2 = 0) (hP : (num c.dq p).toNat = P) (hN : num c.dq p = (P : Int)) (hV : (num c.dq v).toNat = V) (hp : ¬ 0 < (c.dq.getD P default).length) (hv : 0 < (c.dq.getD V default).length) {t : Int} (ht : t = (c.dq.getD V default).getD 0 0) :
    (great c.work t → partE c.work t = 0 ∧ step c p v = (⟨partW c.work t, (c.dq.set V ((c.dq.getD V default).drop 1)).set P [partB c.work t, partA c.work t], c.over, c.steps + 1, c.idle⟩, ⟨P, V, t, true⟩, 0)) ∧
    (¬ great c.work t → doE c.work t = 0 ∧ step c p v = (⟨doW c.work t, c.dq.set V ((c.dq.getD V default).drop 1), c.over || doO c.work t, c.steps + 1, c.idle⟩, ⟨P, V, t, false⟩, 0)) := by
  obtain ⟨hr, hst, hc⟩ := step_cases c p v h0
  have n1 := num_bound c.dq p hr.2.1
  have n2 := num_bound c.dq v hr.2.1
  have hPl : P < c.dq.length := by omega
  have hne : V ≠ P := fun e => hp (e ▸ hv)
  have fb : foundB c.dq P V = true := decide_eq_true (.inr hv)
  have fe : evF c.dq p v = ⟨P, V, t, false⟩ := by
    unfold evF evN foundE; rw [hP, hV, if_neg hp, if_pos hv, hN, ← ht]
  have fd : dqF c.dq p v = c.dq.set V ((c.dq.getD V default).drop 1) := by
    unfold dqF foundD; rw [hP, hV, if_neg hp, if_pos hv]
  rw [hP, hV, fb, fe, fd] at hc
  rcases hc with ⟨_, h1, h2⟩ | ⟨h1, _⟩
  · dsimp only at h1 h2
    constructor
    · intro hg
      have hpe : partE c.work t = 0 := by rw [goE, if_pos hg] at h1; exact h1
      obtain ⟨e1, e2, e3, e4, e5⟩ := go_part (t := t) (d := c.dq.set V ((c.dq.getD V default).drop 1)) (p := P) (o := c.over) (e := (⟨P, V, t, false⟩ : Event)) rfl hg hpe
      rw [e2, e3, e4, e5] at h2
      refine ⟨hpe, h2.trans ?_⟩
      have hnil : (c.dq.set V ((c.dq.getD V default).drop 1)).getD P default = [] := by
        rw [List.getD_eq_getElem?_getD, List.getElem?_set_ne hne, ← List.getD_eq_getElem?_getD]
        exact List.eq_nil_of_length_eq_zero (by omega)
      rw [hnil, List.nil_append]
    · intro hg
      obtain ⟨e1, e2, e3, e4, e5⟩ := go_do (t := t) (d := c.dq.set V ((c.dq.getD V default).drop 1)) (p := P) (o := c.over) (e := (⟨P, V, t, false⟩ : Event)) rfl hg
      rw [e1] at h1
      rw [e2, e3, e4, e5] at h2
      exact ⟨h1, h2⟩
  · cases h1
theorem step_idle' {c : Crew} {p v : Int} {P V : Nat} (h0 : (step c p v).2.2 = 0) (hP : (num c.dq p).toNat = P) (hN : num c.dq p = (P : Int)) (hV : (num c.dq v).toNat = V) (hp : ¬ 0 < (c.dq.getD P default).length) (hv : ¬ 0 < (c.dq.getD V default).length) :
    ¬ c.idle = 100000 ∧ step c p v = (⟨c.work, c.dq, c.over, c.steps + 1, c.idle + 1⟩, ⟨P, -1, -1, false⟩, 0) := by
  obtain ⟨hr, hst, hc⟩ := step_cases c p v h0
  have fb : foundB c.dq P V = false := decide_eq_false (fun q => q.elim hp hv)
  rw [hP, hV, fb] at hc
  rcases hc with ⟨h1, _⟩ | ⟨_, h1, h2⟩
  · cases h1
  · refine ⟨h1, h2.trans ?_⟩
    unfold evN; rw [hN]
end Go.Pl
namespace Go.Pl
theorem rounds_pre : ∀ (f k : Nat) (c : Crew) (ev : List Event), ∃ m, (rounds f k c ev).2.1 = ev ++ m
  | 0, k, c, ev => ⟨[], by simp [rounds]⟩
  | f + 1, k, c, ev => by
    simp only [rounds]
    split
    · exact ⟨[], by simp⟩
    · split
      · exact ⟨[], by simp⟩
      · split
        · exact ⟨[], by simp⟩
        · obtain ⟨m, hm⟩ := rounds_pre f (k + 1) (step c (rp c k) (rv c k)).1 (ev ++ [(step c (rp c k) (rv c k)).2.1])
          exact ⟨[(step c (rp c k) (rv c k)).2.1] ++ m, by rw [hm, List.append_assoc]⟩
theorem rounds_rest (f k : Nat) (c : Crew) (ev : List Event) : ev ++ (rounds f k c ev).2.1.drop ev.length = (rounds f k c ev).2.1 := by
  obtain ⟨m, hm⟩ := rounds_pre f k c ev
  rw [hm, List.drop_left]
end Go.Pl
end
section
set_option linter.unusedSimpArgs false
set_option linter.unusedVariables false
set_option maxRecDepth 100000
namespace Go.Proofs.Ytjkkjiaeeobnkaa
open Go.Am Go.Proofs
theorem en119 : enters Try.prog 119 = true := by kernel_rfl
theorem en130 : enters Try.prog 130 = true := by kernel_rfl
theorem en131 : enters Try.prog 131 = true := by kernel_rfl
theorem en132 : enters Try.prog 132 = true := by kernel_rfl
set_option maxHeartbeats 4000000 in
theorem c38 (c d : Bool) (w : Pl.Work) : PCall Try.prog 130 [workV c d w] (bV (decide (Pl.right w))) := by
 refine yV Try.func130 rfl (by simp [Try.ntmps130]) fun C hC => ?_
 refine zW (zV [0]) ?_
 simp only [kp, zJ, simprocAttr]
 refine zK [] (by rw [hC]; rfl) fun k hk => ?_
 simp (maxSteps := 9^9) (disch := (try simp only [lens]); omega) only [zJ, sm, ↓amb, zQ, simprocAttr, dx]
 repeat refine ⟨by first | omega | (simp; done) | (unfold maxLen; omega) | (simp [maxLen]; omega) | assumption, ?_⟩
 refine hk _ ?_; clear hk k
 refine zW (zV [1]) ?_
 simp only [kp, zJ, simprocAttr]
 refine zK [] (by rw [hC]; rfl) fun k hk => ?_
 simp (maxSteps := 9^9) (disch := (try simp only [lens]); omega) only [zJ, sm, ↓amb, zQ, simprocAttr, fl107_2, sz105, el105, dx]
 repeat refine ⟨by first | omega | (simp; done) | (unfold maxLen; omega) | (simp [maxLen]; omega) | assumption, ?_⟩
 refine hk _ ?_; clear hk k
 refine zY fun k1 h1 => ?_
 refine xQ [] 36 (decide (¬ (Pl.cnt w.done.length w.grain ∧ 1 ≤ w.ts.length ∧ w.ts.length ≤ 2000))) [1, 2, 3] (by rw [hC]; rfl) (fun gd hgd k hk => ?_) ?_
 ·have g3 : gd 3 = some 12 := by rw [hgd]; rfl
  have g8 : gd 8 = some 17 := by rw [hgd]; rfl
  have g12 : gd 12 = some 21 := by rw [hgd]; rfl
  have g16 : gd 16 = some 25 := by rw [hgd]; rfl
  have g22 : gd 22 = some 31 := by rw [hgd]; rfl
  clear hgd
  simp (maxSteps := 9^9) (disch := (try simp only [lens]); omega) only [zJ, sm, ↓amb, zQ, simprocAttr, fl107_1, sz3, fl107_0, sz104, el104, zZ, g3, g8, g12, g16, g22, dx]
  repeat' first | refine hk _ _ rfl rfl rfl rfl ?_ | (refine gsplit (fun hg => ?_) (fun hg => ?_) <;> (try simp only [hbx] at hg) <;> simp (maxSteps := 9^9) (disch := (try simp only [lens]); omega) only [zJ, sm, ↓amb, zQ, simprocAttr, fl107_1, sz3, fl107_0, sz104, el104, zZ, g3, g8, g12, g16, g22, dx]) | apply And.intro | fail
  all_goals first | rfl | omega | exact (decide_eq_true (by (try simp only [Pl.right, Pl.cnt, Pl.okT] at *); omega)).symm | exact (decide_eq_false (by (try simp only [Pl.right, Pl.cnt, Pl.okT] at *); omega)).symm | exact decide_eq_decide.mpr (by (try simp only [Pl.right, Pl.cnt, Pl.okT] at *); omega) | (refine Bool.eq_iff_iff.mpr ?_; (try simp only [Pl.right, Pl.cnt, Pl.okT] at *); simp only [beq_iff_eq, bne_iff_ne, ne_eq, decide_eq_true_eq]; omega) | (refine Bool.eq_iff_iff.mpr ?_; simp only [Bool.not_eq_true', Bool.not_eq_false', decide_eq_false_iff_not, decide_eq_true_eq, beq_iff_eq, bne_iff_ne, ne_eq]; (try simp only [Pl.right, Pl.cnt, Pl.okT] at *); omega) | assumption | (simp; done) | (simp [maxLen]; omega) | skip
 simp only [kp, zJ, simprocAttr, List.length_cons, List.length_nil]
 refine zX rfl (fun hb => ?_) (fun hb => ?_)
 ·try simp only [hbx] at hb
  refine zW (zV []) ?_
  simp only [kp, zJ, simprocAttr]
  refine zK [] (by rw [hC]; rfl) fun k hk => ?_
  simp (maxSteps := 9^9) (disch := (try simp only [lens]); omega) only [zJ, sm, ↓amb, zQ, simprocAttr, dx]
  repeat refine ⟨by first | omega | (simp; done) | (unfold maxLen; omega) | (simp [maxLen]; omega) | assumption, ?_⟩
  refine hk _ ?_; clear hk k
  refine yQ ?_
  refine ret1 rfl rfl ?_
  exact .p (LeP.of_eq (by rw [decide_eq_false (by intro h; simp only [Pl.right, Pl.cnt] at h hb; omega)]))
 ·try simp only [hbx] at hb
  refine yJ ?_
  refine h1 _ ?_; clear h1 k1
  refine zY fun k2 h2 => ?_
  refine zW (zV [1, 2, 3]) ?_
  simp only [kp, zJ, simprocAttr]
  have hb0 := hb
  refine zK [] (by rw [hC]; rfl) fun k hk => ?_
  simp (maxSteps := 9^9) (disch := (try simp only [lens]); omega) only [zJ, sm, ↓amb, zQ, simprocAttr, dx]
  repeat refine ⟨by first | omega | (simp; done) | (unfold maxLen; omega) | (simp [maxLen]; omega) | assumption, ?_⟩
  refine hk _ ?_; clear hk k
  refine yK ?_
  refine yY (σ := Nat) (fun (i : Nat) => i ≤ w.ts.length ∧ ∀ j, j < i → Pl.okT w.done.length j (w.ts.getD j default)) (fun (i : Nat) => ⟨[(1, (.ptr 0 3 0 0)), (3, (.p (iV w.done.length))), (4, (.p (iV i)))], [(0, (.row 3 [[.p (.seq c (w.ts.map taskC)), .p (iV w.grain), .p (.seq d (w.done.map fun b => [bV b]))]]))], 1⟩) (fun i => w.ts.length - i) 0 ?_ ?_ fun x hx => ?_
  ·exact ⟨Nat.zero_le _, fun j hj => by omega⟩
  ·exact le_of [(0, _)] (by rfl) (by rfl) ⟨⟨_, rfl, .ptr rfl⟩, ⟨_, rfl, .p (.of_eq (by first | rfl | (simp only [PV.lit.injEq, Value.int.injEq, true_and]; omega) | (simp; done) | (simp; omega)))⟩, ⟨_, rfl, .p (.of_eq (by first | rfl | (simp only [PV.lit.injEq, Value.int.injEq, true_and]; omega) | (simp; done) | (simp; omega)))⟩, trivial⟩ ⟨⟨_, rfl, _, rfl, .one (.cons (.p (.refl _)) (.cons (.p (.refl _)) (.cons (.p (.refl _)) .nil)))⟩, trivial⟩
  obtain ⟨hx1, hx2⟩ := hx
  refine zY fun k4 h4 => ?_
  refine zW (zV [0, 1, 2, 3, 4]) ?_
  simp only [kp, zJ, simprocAttr]
  refine zK [] (by rw [hC]; rfl) fun k hk => ?_
  simp (maxSteps := 9^9) (disch := (try simp only [lens]); omega) only [zJ, sm, ↓amb, zQ, simprocAttr, fl107_0, sz104, el104, dx]
  repeat refine ⟨by first | omega | (simp; done) | (unfold maxLen; omega) | (simp [maxLen]; omega) | assumption, ?_⟩
  refine hk _ ?_; clear hk k
  refine zX rfl (fun hb => ?_) (fun hb => ?_)
  ·try simp only [hbx] at hb
   refine yJ ?_
   refine h4 _ ?_; clear h4 k4
   refine zY fun k5 h5 => ?_
   refine yK ?_
   refine zW (zV [0, 1, 2, 3, 4]) ?_
   simp only [kp, zJ, simprocAttr]
   refine zK [] (by rw [hC]; rfl) fun k hk => ?_
   simp (maxSteps := 9^9) (disch := (try simp only [lens]); omega) only [zJ, sm, ↓amb, zQ, simprocAttr, fl107_0, sz104, el104, sz128, vr128, dx]
   repeat refine ⟨by first | omega | (simp; done) | (unfold maxLen; omega) | (simp [maxLen]; omega) | assumption, ?_⟩
   refine hk _ ?_; clear hk k
   refine xQ [] 85 (decide (¬ Pl.okT w.done.length x (w.ts.getD x default))) [0, 1, 2, 3, 4] (by rw [hC]; rfl) (fun gd hgd k hk => ?_) ?_
   ·have g3 : gd 3 = some 52 := by rw [hgd]; rfl
    have g10 : gd 10 = some 59 := by rw [hgd]; rfl
    have g16 : gd 16 = some 65 := by rw [hgd]; rfl
    have g21 : gd 21 = some 70 := by rw [hgd]; rfl
    have g27 : gd 27 = some 76 := by rw [hgd]; rfl
    have g32 : gd 32 = some 81 := by rw [hgd]; rfl
    clear hgd
    simp (maxSteps := 9^9) (disch := (try simp only [lens]); omega) only [zJ, sm, ↓amb, zQ, simprocAttr, fl128_0, sz3, fl128_1, fl128_2, fl128_3, zZ, g3, g10, g16, g21, g27, g32, dx]
    repeat' first | refine hk _ _ rfl rfl rfl rfl ?_ | (refine gsplit (fun hg => ?_) (fun hg => ?_) <;> (try simp only [hbx] at hg) <;> simp (maxSteps := 9^9) (disch := (try simp only [lens]); omega) only [zJ, sm, ↓amb, zQ, simprocAttr, fl128_0, sz3, fl128_1, fl128_2, fl128_3, zZ, g3, g10, g16, g21, g27, g32, dx]) | apply And.intro | fail
    all_goals first | rfl | omega | exact (decide_eq_true (by (try simp only [Pl.right, Pl.cnt, Pl.okT] at *); omega)).symm | exact (decide_eq_false (by (try simp only [Pl.right, Pl.cnt, Pl.okT] at *); omega)).symm | exact decide_eq_decide.mpr (by (try simp only [Pl.right, Pl.cnt, Pl.okT] at *); omega) | (refine Bool.eq_iff_iff.mpr ?_; (try simp only [Pl.right, Pl.cnt, Pl.okT] at *); simp only [beq_iff_eq, bne_iff_ne, ne_eq, decide_eq_true_eq]; omega) | (refine Bool.eq_iff_iff.mpr ?_; simp only [Bool.not_eq_true', Bool.not_eq_false', decide_eq_false_iff_not, decide_eq_true_eq, beq_iff_eq, bne_iff_ne, ne_eq]; (try simp only [Pl.right, Pl.cnt, Pl.okT] at *); omega) | assumption | (simp; done) | (simp [maxLen]; omega) | skip
   simp only [kp, zJ, simprocAttr, List.length_cons, List.length_nil]
   refine zX rfl (fun hb => ?_) (fun hb => ?_)
   ·try simp only [hbx] at hb
    refine zW (zV []) ?_
    simp only [kp, zJ, simprocAttr]
    refine zK [] (by rw [hC]; rfl) fun k hk => ?_
    simp (maxSteps := 9^9) (disch := (try simp only [lens]); omega) only [zJ, sm, ↓amb, zQ, simprocAttr, dx]
    repeat refine ⟨by first | omega | (simp; done) | (unfold maxLen; omega) | (simp [maxLen]; omega) | assumption, ?_⟩
    refine hk _ ?_; clear hk k
    refine yQ ?_
    refine ret1 rfl rfl ?_
    exact .p (LeP.of_eq (by rw [decide_eq_false (fun h => by have h2 := h.2.2.2 x (by omega); have h3 := h.1; simp only [Pl.okT] at h2 hb; omega)]))
   ·try simp only [hbx] at hb
    refine yJ ?_
    refine h5 _ ?_; clear h5 k5
    refine yZ [] (by rw [hC]; rfl) fun k hk => ?_
    simp (maxSteps := 9^9) (disch := (try simp only [lens]); omega) only [zJ, sm, ↓amb, zQ, simprocAttr, dx]
    repeat refine ⟨by first | omega | (simp; done) | (unfold maxLen; omega) | (simp [maxLen]; omega) | assumption, ?_⟩
    refine hk _ ?_; clear hk k
    refine ⟨x + 1, ⟨by omega, fun j hj => by by_cases e : j = x; subst e; exact hb; exact hx2 j (by omega)⟩, le_of [(0, _)] (by rfl) (by rfl) ⟨⟨_, rfl, .ptr rfl⟩, ⟨_, rfl, .p (.of_eq (by first | rfl | (simp only [PV.lit.injEq, Value.int.injEq, true_and]; omega) | (simp; done) | (simp; omega)))⟩, ⟨_, rfl, .p (.of_eq (by first | rfl | (simp only [PV.lit.injEq, Value.int.injEq, true_and]; omega) | (simp; done) | (simp; omega)))⟩, trivial⟩ ⟨⟨_, rfl, _, rfl, .one (.cons (.p (.refl _)) (.cons (.p (.refl _)) (.cons (.p (.refl _)) .nil)))⟩, trivial⟩, by omega⟩
  ·try simp only [hbx] at hb
   refine yX ((if_pos rfl).mpr ?_)
   refine h2 _ ?_; clear h4 k4; clear h2 k2
   refine zW (zV []) ?_
   simp only [kp, zJ, simprocAttr]
   refine zK [] (by rw [hC]; rfl) fun k hk => ?_
   simp (maxSteps := 9^9) (disch := (try simp only [lens]); omega) only [zJ, sm, ↓amb, zQ, simprocAttr, dx]
   repeat refine ⟨by first | omega | (simp; done) | (unfold maxLen; omega) | (simp [maxLen]; omega) | assumption, ?_⟩
   refine hk _ ?_; clear hk k
   refine yQ ?_
   refine ret1 rfl rfl ?_
   exact .p (LeP.of_eq (by rw [decide_eq_true (Pl.right_of (by omega) hb0 hx2)]))
set_option maxHeartbeats 4000000 in
theorem c52 (c d : Bool) (w : Pl.Work) (i : Int) : PCall Try.prog 132 [workV c d w, iV i] (bV (decide (0 ≤ i ∧ i < w.ts.length))) := by
 refine yV Try.func132 rfl (by simp [Try.ntmps132]) fun C hC => ?_
 refine zK [] (by rw [hC]; rfl) fun k hk => ?_
 simp (maxSteps := 9^9) (disch := (try simp only [lens]); omega) only [zJ, sm, ↓amb, zQ, simprocAttr, dx]
 repeat refine ⟨by first | omega | (simp; done) | (unfold maxLen; omega) | (simp [maxLen]; omega) | assumption, ?_⟩
 refine hk _ ?_; clear hk k
 refine xQ [] 4 (decide (0 ≤ i ∧ i < w.ts.length)) [] (by rw [hC]; rfl) (fun gd hgd k hk => ?_) ?_
 ·have g2 : gd 2 = some 7 := by rw [hgd]; rfl
  clear hgd
  simp (maxSteps := 9^9) (disch := (try simp only [lens]); omega) only [zJ, sm, ↓amb, zQ, simprocAttr, fl107_0, sz104, el104, zZ, g2, dx]
  repeat' first | refine hk _ _ rfl rfl rfl rfl ?_ | (refine gsplit (fun hg => ?_) (fun hg => ?_) <;> (try simp only [hbx] at hg) <;> simp (maxSteps := 9^9) (disch := (try simp only [lens]); omega) only [zJ, sm, ↓amb, zQ, simprocAttr, fl107_0, sz104, el104, zZ, g2, dx]) | apply And.intro | fail
  all_goals first | rfl | omega | exact (decide_eq_true (by omega)).symm | exact (decide_eq_false (by omega)).symm | exact decide_eq_decide.mpr (by omega) | (refine Bool.eq_iff_iff.mpr ?_; simp only [beq_iff_eq, bne_iff_ne, ne_eq, decide_eq_true_eq]; omega) | (refine Bool.eq_iff_iff.mpr ?_; simp only [Bool.not_eq_true', Bool.not_eq_false', decide_eq_false_iff_not, decide_eq_true_eq, beq_iff_eq, bne_iff_ne, ne_eq]; omega) | assumption | (simp; done) | (simp [maxLen]; omega) | skip
 simp only [kp, zJ, simprocAttr, List.length_cons, List.length_nil]
 refine yQ ?_
 refine ret1 rfl rfl ?_
 exact .p (LeP.refl _)
set_option maxHeartbeats 4000000 in
theorem c40 (c d : Bool) (w : Pl.Work) (i : Int) : PCall Try.prog 119 [workV c d w, iV i] (bV (decide (Pl.great w i))) := by
 refine yV Try.func119 rfl (by simp [Try.ntmps119]) fun C hC => ?_
 refine zK [] (by rw [hC]; rfl) fun k hk => ?_
 simp (maxSteps := 9^9) (disch := (try simp only [lens]); omega) only [zJ, sm, ↓amb, zQ, simprocAttr, dx]
 repeat refine ⟨by first | omega | (simp; done) | (unfold maxLen; omega) | (simp [maxLen]; omega) | assumption, ?_⟩
 refine hk _ ?_; clear hk k
 refine awp_testD [] ⟨[0, 1, 3, 7, 7, 31, 63, 127, 255, 511, 255, 2047, 4095, 8191, 255, 16639, 255, 114943, 246015, 508159, 1048575, 255, 2097407, 8388607, 16777215, 33554431], [0, 3, 9, 13, 15, 19, 22], [], [(1, 3), (1, 9), (5, 9), (1, 13), (5, 13), (1, 15), (5, 15), (1, 19), (5, 19), (1, 22), (5, 22)], some []⟩ 4 (decide (Pl.great w i)) [] (by rw [hC]; rfl) (by kernel_rfl) (by kernel_rfl) (fun gd hgd k hk => ?_) ?_
 ·have g2 : gd 2 = some 7 := by rw [hgd]; rfl
  have g7 : gd 7 = some 12 := by rw [hgd]; rfl
  clear hgd
  simp (maxSteps := 9^9) (disch := (try simp only [lens]); omega) only [zJ, sm, ↓amb, zQ, simprocAttr, sz107, en130, en132, fl107_0, sz104, el104, sz128, fl128_1, sz3, fl128_0, fl107_1, zZ, g2, g7, dx]
  repeat' first | refine hk _ _ rfl rfl rfl rfl ?_ | (refine gsplit (fun hg => ?_) (fun hg => ?_) <;> (try simp only [hbx] at hg) <;> (try (have hth := Pl.there_of (by assumption) hg; have q := Pl.ok_of hth; obtain ⟨_, hi0, hi1, hok, _, _, _, _⟩ := q; simp only [Pl.okT, Pl.task] at hok)) <;> simp (maxSteps := 9^9) (disch := (try simp only [lens]); omega) only [zJ, sm, ↓amb, zQ, simprocAttr, sz107, en130, en132, fl107_0, sz104, el104, sz128, fl128_1, sz3, fl128_0, fl107_1, zZ, g2, g7, dx]) | apply And.intro | (refine yW (c38 _ _ _) rfl ?_; (try simp (maxSteps := 9^9) (disch := (try simp only [lens]); omega) only [zJ, sm, ↓amb, zQ, simprocAttr, sz107, en130, en132, fl107_0, sz104, el104, sz128, fl128_1, sz3, fl128_0, fl107_1, zZ, g2, g7, dx])) | (refine yW (c52 _ _ _ _) rfl ?_; (try simp (maxSteps := 9^9) (disch := (try simp only [lens]); omega) only [zJ, sm, ↓amb, zQ, simprocAttr, sz107, en130, en132, fl107_0, sz104, el104, sz128, fl128_1, sz3, fl128_0, fl107_1, zZ, g2, g7, dx])) | fail
  all_goals first | rfl | omega | exact (decide_eq_true (by (try simp only [Pl.great] at *); omega)).symm | exact (decide_eq_false (by (try simp only [Pl.great] at *); omega)).symm | exact decide_eq_decide.mpr (by (try simp only [Pl.great] at *); omega) | (refine Bool.eq_iff_iff.mpr ?_; (try simp only [Pl.great] at *); simp only [beq_iff_eq, bne_iff_ne, ne_eq, decide_eq_true_eq]; omega) | (refine Bool.eq_iff_iff.mpr ?_; simp only [Bool.not_eq_true', Bool.not_eq_false', decide_eq_false_iff_not, decide_eq_true_eq, beq_iff_eq, bne_iff_ne, ne_eq]; (try simp only [Pl.great] at *); omega) | assumption | (simp; done) | (simp [maxLen]; omega) | skip
  all_goals first | exact decide_eq_decide.mpr ⟨fun h => ⟨hth, h⟩, fun h => h.2⟩ | exact (decide_eq_false (p := Pl.great w i) (by intro h; obtain ⟨a, b, e, _⟩ := Pl.ok_of h.1; first | exact hg a | exact hg ⟨b, e⟩ | omega)).symm
 simp only [kp, zJ, simprocAttr, List.length_cons, List.length_nil]
 refine yQ ?_
 refine ret1 rfl rfl ?_
 exact .p (LeP.refl _)
set_option maxHeartbeats 4000000 in
theorem c27 (c d : Bool) (w : Pl.Work) (h1 : w.ts.length ≤ 1000000) (h2 : w.done.length ≤ 1000000) : HCall Try.prog 131 [.p (workV c d w)] [] (.agg [.own 0, .p (iV w.grain), .own 1]) [(0, .row 4 (lift (w.ts.map taskC))), (1, .row 1 (lift (w.done.map fun b => [bV b])))] := by
 refine xJ Try.func131 rfl (by simp [Try.ntmps131]) fun C hC => ?_
 refine zK [6, 12] (by rw [hC]; rfl) fun k hk => ?_
 simp (maxSteps := 9^9) (disch := (try simp only [lens]); omega) only [zJ, sm, ↓amb, zQ, simprocAttr, vr107, dx]
 repeat refine ⟨by first | omega | (simp; done) | (unfold maxLen; omega) | (simp [maxLen]; omega) | assumption, ?_⟩
 refine hk _ ?_; clear hk k
 refine awp_sd [6, 12] ⟨[0, 0, 2, 7, 0, 16, 0, 0, 128, 463, 1023, 2047], [2, 3, 5, 8, 9], [11], [(3, 9), (3, 11), (9, 11)], none⟩ (by rw [hC]; rfl) (by kernel_rfl) (by kernel_rfl) fun k hk => ?_
 simp (maxSteps := 9^9) (disch := (try simp only [lens]); omega) only [zJ, sm, ↓amb, zQ, simprocAttr, el104, vr128, fl107_0, sz104, by128, fl107_1, sz3, el105, vr4, fl107_2, sz105, by4, vr107, bt107, pl107_0, pl107_1, pl107_2, sz107, dx]
 repeat refine ⟨by first | omega | (simp; done) | (unfold maxLen; omega) | (simp [maxLen]; omega) | assumption, ?_⟩
 refine hk _ ?_; clear hk k
 refine yQ ?_
 refine rethc rfl rfl sz107 ?_
 simp (maxSteps := 9^9) (disch := (try simp only [lens]); omega) only [zJ, sm, ↓amb, zQ, simprocAttr, sz107, dx]
 exact le_of [(0, _), (1, _)] (by rfl) (by rfl) ⟨⟨_, rfl, .agg rfl (LeRow.cons (.own rfl) (LeRow.cons (.p (.refl _)) (LeRow.cons (.own rfl) .nil))).2⟩, trivial⟩ ⟨⟨_, rfl, _, rfl, .lift _⟩, ⟨_, rfl, _, rfl, .lift _⟩, trivial⟩
set_option maxHeartbeats 4000000 in
theorem c27p (c d : Bool) (w : Pl.Work) (h1 : w.ts.length ≤ 1000000) (h2 : w.done.length ≤ 1000000) : PCall Try.prog 131 [workV c d w] (workV false false w) := by
 refine yV Try.func131 rfl (by simp [Try.ntmps131]) fun C hC => ?_
 refine zK [6, 12] (by rw [hC]; rfl) fun k hk => ?_
 simp (maxSteps := 9^9) (disch := (try simp only [lens]); omega) only [zJ, sm, ↓amb, zQ, simprocAttr, vr107, dx]
 repeat refine ⟨by first | omega | (simp; done) | (unfold maxLen; omega) | (simp [maxLen]; omega) | assumption, ?_⟩
 refine hk _ ?_; clear hk k
 refine awp_sd [6, 12] ⟨[0, 0, 2, 7, 0, 16, 0, 0, 128, 463, 1023, 2047], [2, 3, 5, 8, 9], [11], [(3, 9), (3, 11), (9, 11)], none⟩ (by rw [hC]; rfl) (by kernel_rfl) (by kernel_rfl) fun k hk => ?_
 simp (maxSteps := 9^9) (disch := (try simp only [lens]); omega) only [zJ, sm, ↓amb, zQ, simprocAttr, el104, vr128, fl107_0, sz104, by128, fl107_1, sz3, el105, vr4, fl107_2, sz105, by4, vr107, bt107, pl107_0, pl107_1, pl107_2, sz107, dx]
 repeat refine ⟨by first | omega | (simp; done) | (unfold maxLen; omega) | (simp [maxLen]; omega) | assumption, ?_⟩
 refine hk _ ?_; clear hk k
 refine yQ ?_
 refine retone rfl (retc rfl sz107 ?_)
 simp (maxSteps := 9^9) (disch := (try simp only [lens]); omega) only [zJ, sm, ↓amb, zQ, simprocAttr, sz107, dx]
 exact .agg_cons (.ownE rfl rfl) (.agg_cons (.p (LeP.refl _)) (.agg_cons (.ownE rfl rfl) (.agg_nil)))
set_option maxHeartbeats 4000000 in
theorem c29 (c d : Bool) (w : Pl.Work) (i : Int) : PCall Try.prog 120 [workV c d w, iV i] (.tup [workV false false (Pl.partW w i), iV (Pl.partA w i), iV (Pl.partB w i), iV (Pl.partE w i)]) := by
 refine yV Try.func120 rfl (by simp [Try.ntmps120]) fun C hC => ?_
 refine zK [] (by rw [hC]; rfl) fun k hk => ?_
 simp (maxSteps := 9^9) (disch := (try simp only [lens]); omega) only [zJ, sm, ↓amb, zQ, simprocAttr, vr107, dx]
 repeat refine ⟨by first | omega | (simp; done) | (unfold maxLen; omega) | (simp [maxLen]; omega) | assumption, ?_⟩
 refine hk _ ?_; clear hk k
 refine zY fun k1 h1 => ?_
 refine yK ?_
 refine zK [] (by rw [hC]; rfl) fun k hk => ?_
 simp (maxSteps := 9^9) (disch := (try simp only [lens]); omega) only [zJ, sm, ↓amb, zQ, simprocAttr, sz107, en130, dx]
 repeat refine ⟨by first | omega | (simp; done) | (unfold maxLen; omega) | (simp [maxLen]; omega) | assumption, ?_⟩
 refine yW (c38 _ _ _) rfl ?_
 simp (maxSteps := 9^9) (disch := (try simp only [lens]); omega) only [zJ, sm, ↓amb, zQ, simprocAttr, sz107, en130, dx]
 repeat refine ⟨by first | omega | (simp; done) | (unfold maxLen; omega) | (simp [maxLen]; omega) | assumption, ?_⟩
 refine hk _ ?_; clear hk k
 refine zX rfl (fun hb => ?_) (fun hb => ?_)
 ·try simp only [hbx] at hb
  refine zK [] (by rw [hC]; rfl) fun k hk => ?_
  simp (maxSteps := 9^9) (disch := (try simp only [lens]); omega) only [zJ, sm, ↓amb, zQ, simprocAttr, sz107, dx]
  repeat refine ⟨by first | omega | (simp; done) | (unfold maxLen; omega) | (simp [maxLen]; omega) | assumption, ?_⟩
  refine hk _ ?_; clear hk k
  refine yQ ?_
  obtain ⟨e1, e2, e3, e4⟩ := Pl.part_err (w := w) (i := i) ((Pl.partE1 (by rw [Pl.there, if_pos hb]; decide)).trans (by rw [Pl.there, if_pos hb])) (by decide)
  rw [e1, e2, e3, e4]
  refine retl rfl rfl ⟨retc rfl sz107 ?_, rett rfl ?_, rett rfl ?_, rett rfl ?_, trivial⟩
  simp (maxSteps := 9^9) (disch := (try simp only [lens]); omega) only [zJ, sm, ↓amb, zQ, simprocAttr, sz107, dx]
  ·exact .p (LeP.agg (.cons (LeP.seq _ _) (.cons (LeP.refl _) (.cons (LeP.seq _ _) .nil))))
  ·exact .p (LeP.refl _)
  ·exact .p (LeP.refl _)
  ·exact .p (LeP.refl _)
 ·try simp only [hbx] at hb
  have hR := hb
  refine zK [] (by rw [hC]; rfl) fun k hk => ?_
  simp (maxSteps := 9^9) (disch := (try simp only [lens]); omega) only [zJ, sm, ↓amb, zQ, simprocAttr, sz107, en132, dx]
  repeat refine ⟨by first | omega | (simp; done) | (unfold maxLen; omega) | (simp [maxLen]; omega) | assumption, ?_⟩
  refine yW (c52 _ _ _ _) rfl ?_
  simp (maxSteps := 9^9) (disch := (try simp only [lens]); omega) only [zJ, sm, ↓amb, zQ, simprocAttr, sz107, en132, dx]
  repeat refine ⟨by first | omega | (simp; done) | (unfold maxLen; omega) | (simp [maxLen]; omega) | assumption, ?_⟩
  refine hk _ ?_; clear hk k
  refine zX rfl (fun hb => ?_) (fun hb => ?_)
  ·try simp only [hbx] at hb
   refine zK [] (by rw [hC]; rfl) fun k hk => ?_
   simp (maxSteps := 9^9) (disch := (try simp only [lens]); omega) only [zJ, sm, ↓amb, zQ, simprocAttr, sz107, dx]
   repeat refine ⟨by first | omega | (simp; done) | (unfold maxLen; omega) | (simp [maxLen]; omega) | assumption, ?_⟩
   refine hk _ ?_; clear hk k
   refine yQ ?_
   obtain ⟨e1, e2, e3, e4⟩ := Pl.part_err (w := w) (i := i) ((Pl.partE1 (by rw [Pl.there, if_neg (by simpa using hR), if_pos (by omega)]; decide)).trans (by rw [Pl.there, if_neg (by simpa using hR), if_pos (by omega)])) (by decide)
   rw [e1, e2, e3, e4]
   refine retl rfl rfl ⟨retc rfl sz107 ?_, rett rfl ?_, rett rfl ?_, rett rfl ?_, trivial⟩
   simp (maxSteps := 9^9) (disch := (try simp only [lens]); omega) only [zJ, sm, ↓amb, zQ, simprocAttr, sz107, dx]
   ·exact .p (LeP.agg (.cons (LeP.seq _ _) (.cons (LeP.refl _) (.cons (LeP.seq _ _) .nil))))
   ·exact .p (LeP.refl _)
   ·exact .p (LeP.refl _)
   ·exact .p (LeP.refl _)
  ·try simp only [hbx] at hb
   have hth := Pl.there_of hR (by assumption)
   obtain ⟨_, hi0, hi1, hok, hd1, hg1, hg2, ht1⟩ := Pl.ok_of hth
   simp only [Pl.okT, Pl.task] at hok
   have hin : i.toNat < w.ts.length := by omega
   refine xQ [] 23 (decide (¬ Pl.great w i ∨ ¬ (w.ts.getD i.toNat default).wait = 0)) [1, 2, 4, 5, 6, 7] (by rw [hC]; rfl) (fun gd hgd k hk => ?_) ?_
   ·have g4 : gd 4 = some 28 := by rw [hgd]; rfl
    clear hgd
    simp (maxSteps := 9^9) (disch := (try simp only [lens]); omega) only [zJ, sm, ↓amb, zQ, simprocAttr, sz107, en119, fl107_0, sz104, el104, sz128, fl128_3, sz3, zZ, g4, dx]
    repeat' first | refine hk _ _ rfl rfl rfl rfl ?_ | (refine gsplit (fun hg => ?_) (fun hg => ?_) <;> (try simp only [hbx] at hg) <;> simp (maxSteps := 9^9) (disch := (try simp only [lens]); omega) only [zJ, sm, ↓amb, zQ, simprocAttr, sz107, en119, fl107_0, sz104, el104, sz128, fl128_3, sz3, zZ, g4, dx]) | apply And.intro | (refine yW (c40 _ _ _ _) rfl ?_; (try simp (maxSteps := 9^9) (disch := (try simp only [lens]); omega) only [zJ, sm, ↓amb, zQ, simprocAttr, sz107, en119, fl107_0, sz104, el104, sz128, fl128_3, sz3, zZ, g4, dx])) | fail
    all_goals first | rfl | omega | exact (decide_eq_true (by (try simp only [Pl.great, Pl.task] at *); omega)).symm | exact (decide_eq_false (by (try simp only [Pl.great, Pl.task] at *); omega)).symm | exact decide_eq_decide.mpr (by (try simp only [Pl.great, Pl.task] at *); omega) | (refine Bool.eq_iff_iff.mpr ?_; (try simp only [Pl.great, Pl.task] at *); simp only [beq_iff_eq, bne_iff_ne, ne_eq, decide_eq_true_eq]; omega) | (refine Bool.eq_iff_iff.mpr ?_; simp only [Bool.not_eq_true', Bool.not_eq_false', decide_eq_false_iff_not, decide_eq_true_eq, beq_iff_eq, bne_iff_ne, ne_eq]; (try simp only [Pl.great, Pl.task] at *); omega) | assumption | (simp; done) | (simp [maxLen]; omega) | skip
    all_goals first | (simp only [hg, not_true_eq_false, false_or]; exact Pl.int_ne _) | (simp [hg]; done)
   simp only [kp, zJ, simprocAttr, List.length_cons, List.length_nil]
   refine zX rfl (fun hb => ?_) (fun hb => ?_)
   ·try simp only [hbx] at hb
    refine zK [] (by rw [hC]; rfl) fun k hk => ?_
    simp (maxSteps := 9^9) (disch := (try simp only [lens]); omega) only [zJ, sm, ↓amb, zQ, simprocAttr, sz107, dx]
    repeat refine ⟨by first | omega | (simp; done) | (unfold maxLen; omega) | (simp [maxLen]; omega) | assumption, ?_⟩
    refine hk _ ?_; clear hk k
    refine yQ ?_
    obtain ⟨e1, e2, e3, e4⟩ := Pl.part_err (w := w) (i := i) (Pl.partE2 hth (by simp only [Pl.great, Pl.task] at *; omega)) (by decide)
    rw [e1, e2, e3, e4]
    refine retl rfl rfl ⟨retc rfl sz107 ?_, rett rfl ?_, rett rfl ?_, rett rfl ?_, trivial⟩
    simp (maxSteps := 9^9) (disch := (try simp only [lens]); omega) only [zJ, sm, ↓amb, zQ, simprocAttr, sz107, dx]
    ·exact .p (LeP.agg (.cons (LeP.seq _ _) (.cons (LeP.refl _) (.cons (LeP.seq _ _) .nil))))
    ·exact .p (LeP.refl _)
    ·exact .p (LeP.refl _)
    ·exact .p (LeP.refl _)
   ·try simp only [hbx] at hb
    have hgr := hb
    refine zK [] (by rw [hC]; rfl) fun k hk => ?_
    simp (maxSteps := 9^9) (disch := (try simp only [lens]); omega) only [zJ, sm, ↓amb, zQ, simprocAttr, fl107_0, sz104, el104, dx]
    repeat refine ⟨by first | omega | (simp; done) | (unfold maxLen; omega) | (simp [maxLen]; omega) | assumption, ?_⟩
    refine hk _ ?_; clear hk k
    refine zX rfl (fun hb => ?_) (fun hb => ?_)
    ·try simp only [hbx] at hb
     refine zK [] (by rw [hC]; rfl) fun k hk => ?_
     simp (maxSteps := 9^9) (disch := (try simp only [lens]); omega) only [zJ, sm, ↓amb, zQ, simprocAttr, sz107, dx]
     repeat refine ⟨by first | omega | (simp; done) | (unfold maxLen; omega) | (simp [maxLen]; omega) | assumption, ?_⟩
     refine hk _ ?_; clear hk k
     refine yQ ?_
     obtain ⟨e1, e2, e3, e4⟩ := Pl.part_err (w := w) (i := i) (Pl.partE3 hth (by simp only [Pl.great, Pl.task] at *; omega) (by omega)) (by decide)
     rw [e1, e2, e3, e4]
     refine retl rfl rfl ⟨retc rfl sz107 ?_, rett rfl ?_, rett rfl ?_, rett rfl ?_, trivial⟩
     simp (maxSteps := 9^9) (disch := (try simp only [lens]); omega) only [zJ, sm, ↓amb, zQ, simprocAttr, sz107, dx]
     ·exact .p (LeP.agg (.cons (LeP.seq _ _) (.cons (LeP.refl _) (.cons (LeP.seq _ _) .nil))))
     ·exact .p (LeP.refl _)
     ·exact .p (LeP.refl _)
     ·exact .p (LeP.refl _)
    ·try simp only [hbx] at hb
     refine yJ ?_
     refine h1 _ ?_; clear h1 k1
     have h0 := Pl.partE0 hth (by simp only [Pl.great, Pl.task] at *; omega) (by omega)
     refine zK [] (by rw [hC]; rfl) fun k hk => ?_
     simp (maxSteps := 9^9) (disch := (try simp only [lens]); omega) only [zJ, sm, ↓amb, zQ, simprocAttr, sz107, en131, vr107, dx]
     repeat refine ⟨by first | omega | (simp; done) | (unfold maxLen; omega) | (simp [maxLen]; omega) | assumption, ?_⟩
     refine callK_h (c27 c d w (by omega) (by omega)) [] [] (by first | rfl | (simp only [hm]; done)) (by first | rfl | (simp [namesOk, lkp]; done)) ?_ ?_ ?_ ?_ ?_ ?_ ?_
     (iterate 6 (focus (first | trivial | (intro n hn; cases hn; done) | (simp (maxSteps := 9^9) (disch := (try simp only [lens]); omega) only [zJ, sm, ↓amb, zQ, simprocAttr, sz107, en131, vr107, dx, hmx, List.filter_cons, Nat.reduceBNe, imp_self, implies_true]; done))))
     simp (maxSteps := 9^9) (disch := (try simp only [lens]); omega) only [zJ, sm, ↓amb, zQ, simprocAttr, sz107, en131, vr107, dx, hm, List.filter_cons, List.filter_nil, Nat.reduceBNe, Option.map_none]
     repeat refine ⟨by first | omega | (simp; done) | (unfold maxLen; omega) | (simp [maxLen]; omega) | assumption, ?_⟩
     refine hk _ ?_; clear hk k
     refine zK [] (by rw [hC]; rfl) fun k hk => ?_
     simp (maxSteps := 9^9) (disch := (try simp only [lens]); omega) only [zJ, sm, ↓amb, zQ, simprocAttr, fl107_0, sz104, el104, dx]
     repeat refine ⟨by first | omega | (simp; done) | (unfold maxLen; omega) | (simp [maxLen]; omega) | assumption, ?_⟩
     refine hk _ ?_; clear hk k
     refine zK [] (by rw [hC]; rfl) fun k hk => ?_
     simp (maxSteps := 9^9) (disch := (try simp only [lens]); omega) only [zJ, sm, ↓amb, zQ, simprocAttr, fl107_0, sz104, el104, sz128, vr128, dx]
     repeat refine ⟨by first | omega | (simp; done) | (unfold maxLen; omega) | (simp [maxLen]; omega) | assumption, ?_⟩
     refine hk _ ?_; clear hk k
     refine zK [] (by rw [hC]; rfl) fun k hk => ?_
     simp (maxSteps := 9^9) (disch := (try simp only [lens]); omega) only [zJ, sm, ↓amb, zQ, simprocAttr, fl128_0, sz3, fl128_1, dx]
     repeat refine ⟨by first | omega | (simp; done) | (unfold maxLen; omega) | (simp [maxLen]; omega) | assumption, ?_⟩
     refine hk _ ?_; clear hk k
     refine zK [] (by rw [hC]; rfl) fun k hk => ?_
     simp (maxSteps := 9^9) (disch := (try simp only [lens]); omega) only [zJ, sm, ↓amb, zQ, simprocAttr, fl107_0, sz104, el104, sz128, fl128_3, sz3, dx]
     repeat refine ⟨by first | omega | (simp; done) | (unfold maxLen; omega) | (simp [maxLen]; omega) | assumption, ?_⟩
     refine hk _ ?_; clear hk k
     refine zK [] (by rw [hC]; rfl) fun k hk => ?_
     simp (maxSteps := 9^9) (disch := (try simp only [lens]); omega) only [zJ, sm, ↓amb, zQ, simprocAttr, fl107_0, sz104, fl128_0, sz3, vr128, bt128, pl128_0, pl128_1, pl128_2, fl128_1, el104, by128, dx]
     repeat refine ⟨by first | omega | (simp; done) | (unfold maxLen; omega) | (simp [maxLen]; omega) | assumption, ?_⟩
     refine hk _ ?_; clear hk k
     refine zK [] (by rw [hC]; rfl) fun k hk => ?_
     simp (maxSteps := 9^9) (disch := (try simp only [lens]); omega) only [zJ, sm, ↓amb, zQ, simprocAttr, sz107, dx]
     repeat refine ⟨by first | omega | (simp; done) | (unfold maxLen; omega) | (simp [maxLen]; omega) | assumption, ?_⟩
     refine hk _ ?_; clear hk k
     refine yQ ?_
     obtain ⟨e1, e2, e3, e4⟩ := Pl.part_ok h0
     rw [e1, e2, e3, e4]
     refine retl rfl rfl ⟨retc rfl sz107 ?_, rett rfl ?_, rett rfl ?_, rett rfl ?_, trivial⟩
     simp (maxSteps := 9^9) (disch := (try simp only [lens]); omega) only [zJ, sm, ↓amb, zQ, simprocAttr, sz107, dx]
     ·exact .agg_cons (.p (LeP.sq (by simp [Pl.parted, Pl.mid, List.map_set]))) (.agg_cons (.p (LeP.refl _)) (.agg_cons (.ownE rfl rfl) (.agg_nil)))
     ·exact .p (LeP.refl _)
     ·exact .p (LeP.refl _)
     ·exact .p (LeP.refl _)
set_option maxHeartbeats 4000000 in
theorem c31 (c d : Bool) (w : Pl.Work) (i : Int) : PCall Try.prog 121 [workV c d w, iV i] (.tup [workV false false (Pl.doW w i), bV (Pl.doO w i), iV (Pl.doE w i)]) := by
 refine yV Try.func121 rfl (by simp [Try.ntmps121]) fun C hC => ?_
 refine zW (zV [0, 1]) ?_
 simp only [kp, zJ, simprocAttr]
 refine zK [] (by rw [hC]; rfl) fun k hk => ?_
 simp (maxSteps := 9^9) (disch := (try simp only [lens]); omega) only [zJ, sm, ↓amb, zQ, simprocAttr, vr107, dx]
 repeat refine ⟨by first | omega | (simp; done) | (unfold maxLen; omega) | (simp [maxLen]; omega) | assumption, ?_⟩
 refine hk _ ?_; clear hk k
 refine zY fun k1 h1 => ?_
 refine yK ?_
 refine zW (zV [1, 2, 4, 5, 6]) ?_
 simp only [kp, zJ, simprocAttr]
 refine zK [] (by rw [hC]; rfl) fun k hk => ?_
 simp (maxSteps := 9^9) (disch := (try simp only [lens]); omega) only [zJ, sm, ↓amb, zQ, simprocAttr, sz107, en130, dx]
 repeat refine ⟨by first | omega | (simp; done) | (unfold maxLen; omega) | (simp [maxLen]; omega) | assumption, ?_⟩
 refine yW (c38 _ _ _) rfl ?_
 simp (maxSteps := 9^9) (disch := (try simp only [lens]); omega) only [zJ, sm, ↓amb, zQ, simprocAttr, sz107, en130, dx]
 repeat refine ⟨by first | omega | (simp; done) | (unfold maxLen; omega) | (simp [maxLen]; omega) | assumption, ?_⟩
 refine hk _ ?_; clear hk k
 refine zX rfl (fun hb => ?_) (fun hb => ?_)
 ·try simp only [hbx] at hb
  refine zW (zV [2, 4]) ?_
  simp only [kp, zJ, simprocAttr]
  refine zK [] (by rw [hC]; rfl) fun k hk => ?_
  simp (maxSteps := 9^9) (disch := (try simp only [lens]); omega) only [zJ, sm, ↓amb, zQ, simprocAttr, sz107, dx]
  repeat refine ⟨by first | omega | (simp; done) | (unfold maxLen; omega) | (simp [maxLen]; omega) | assumption, ?_⟩
  refine hk _ ?_; clear hk k
  refine yQ ?_
  obtain ⟨e1, e2, e4⟩ := Pl.do_err (w := w) (i := i) ((Pl.doE1 (by rw [Pl.there, if_pos hb]; decide)).trans (by rw [Pl.there, if_pos hb])) (by decide)
  rw [e1, e2, e4]
  refine retl rfl rfl ⟨retc rfl sz107 ?_, rett rfl ?_, rett rfl ?_, trivial⟩
  simp (maxSteps := 9^9) (disch := (try simp only [lens]); omega) only [zJ, sm, ↓amb, zQ, simprocAttr, sz107, dx]
  ·exact .p (LeP.agg (.cons (LeP.seq _ _) (.cons (LeP.refl _) (.cons (LeP.seq _ _) .nil))))
  ·exact .p (LeP.refl _)
  ·exact .p (LeP.refl _)
 ·try simp only [hbx] at hb
  refine zW (zV [1, 2, 4, 5, 6]) ?_
  simp only [kp, zJ, simprocAttr]
  have hR := hb
  refine zK [] (by rw [hC]; rfl) fun k hk => ?_
  simp (maxSteps := 9^9) (disch := (try simp only [lens]); omega) only [zJ, sm, ↓amb, zQ, simprocAttr, sz107, en132, dx]
  repeat refine ⟨by first | omega | (simp; done) | (unfold maxLen; omega) | (simp [maxLen]; omega) | assumption, ?_⟩
  refine yW (c52 _ _ _ _) rfl ?_
  simp (maxSteps := 9^9) (disch := (try simp only [lens]); omega) only [zJ, sm, ↓amb, zQ, simprocAttr, sz107, en132, dx]
  repeat refine ⟨by first | omega | (simp; done) | (unfold maxLen; omega) | (simp [maxLen]; omega) | assumption, ?_⟩
  refine hk _ ?_; clear hk k
  refine zX rfl (fun hb => ?_) (fun hb => ?_)
  ·try simp only [hbx] at hb
   refine zW (zV [2, 4]) ?_
   simp only [kp, zJ, simprocAttr]
   refine zK [] (by rw [hC]; rfl) fun k hk => ?_
   simp (maxSteps := 9^9) (disch := (try simp only [lens]); omega) only [zJ, sm, ↓amb, zQ, simprocAttr, sz107, dx]
   repeat refine ⟨by first | omega | (simp; done) | (unfold maxLen; omega) | (simp [maxLen]; omega) | assumption, ?_⟩
   refine hk _ ?_; clear hk k
   refine yQ ?_
   obtain ⟨e1, e2, e4⟩ := Pl.do_err (w := w) (i := i) ((Pl.doE1 (by rw [Pl.there, if_neg (by simpa using hR), if_pos (by omega)]; decide)).trans (by rw [Pl.there, if_neg (by simpa using hR), if_pos (by omega)])) (by decide)
   rw [e1, e2, e4]
   refine retl rfl rfl ⟨retc rfl sz107 ?_, rett rfl ?_, rett rfl ?_, trivial⟩
   simp (maxSteps := 9^9) (disch := (try simp only [lens]); omega) only [zJ, sm, ↓amb, zQ, simprocAttr, sz107, dx]
   ·exact .p (LeP.agg (.cons (LeP.seq _ _) (.cons (LeP.refl _) (.cons (LeP.seq _ _) .nil))))
   ·exact .p (LeP.refl _)
   ·exact .p (LeP.refl _)
  ·try simp only [hbx] at hb
   have hth := Pl.there_of hR (by assumption)
   obtain ⟨_, hi0, hi1, hok, hd1, hg1, hg2, ht1⟩ := Pl.ok_of hth
   simp only [Pl.okT, Pl.task] at hok
   have hin : i.toNat < w.ts.length := by omega
   refine awp_testD [] ⟨[0, 0, 3, 7, 15, 31, 15, 127, 255, 511, 1023, 2047, 4095, 8191, 16383, 8191, 40959, 8191, 237567, 499711, 1023999, 2097151, 4194303, 8388607, 16777215], [0, 5, 9, 14, 16, 20, 22], [], [(2, 5), (2, 9), (2, 14), (2, 16), (2, 20), (2, 22)], some []⟩ 21 (decide (Pl.great w i ∨ 0 < (w.ts.getD i.toNat default).wait ∨ w.done.getD (w.ts.getD i.toNat default).low.toNat false = true)) [1, 2, 4, 5, 6] (by rw [hC]; rfl) (by kernel_rfl) (by kernel_rfl) (fun gd hgd k hk => ?_) ?_
   ·have g3 : gd 3 = some 25 := by rw [hgd]; rfl
    have g12 : gd 12 = some 34 := by rw [hgd]; rfl
    clear hgd
    simp (maxSteps := 9^9) (disch := (try simp only [lens]); omega) only [zJ, sm, ↓amb, zQ, simprocAttr, sz107, en119, fl107_0, sz104, el104, sz128, fl128_3, sz3, fl107_2, sz105, fl128_0, el105, sz4, zZ, g3, g12, dx]
    repeat' first | refine hk _ _ rfl rfl rfl rfl ?_ | (refine gsplit (fun hg => ?_) (fun hg => ?_) <;> (try simp only [hbx] at hg) <;> simp (maxSteps := 9^9) (disch := (try simp only [lens]); omega) only [zJ, sm, ↓amb, zQ, simprocAttr, sz107, en119, fl107_0, sz104, el104, sz128, fl128_3, sz3, fl107_2, sz105, fl128_0, el105, sz4, zZ, g3, g12, dx]) | apply And.intro | (refine yW (c40 _ _ _ _) rfl ?_; (try simp (maxSteps := 9^9) (disch := (try simp only [lens]); omega) only [zJ, sm, ↓amb, zQ, simprocAttr, sz107, en119, fl107_0, sz104, el104, sz128, fl128_3, sz3, fl107_2, sz105, fl128_0, el105, sz4, zZ, g3, g12, dx])) | fail
    all_goals first | rfl | omega | exact (decide_eq_true (by omega)).symm | exact (decide_eq_false (by omega)).symm | exact decide_eq_decide.mpr (by omega) | (refine Bool.eq_iff_iff.mpr ?_; simp only [beq_iff_eq, bne_iff_ne, ne_eq, decide_eq_true_eq]; omega) | (refine Bool.eq_iff_iff.mpr ?_; simp only [Bool.not_eq_true', Bool.not_eq_false', decide_eq_false_iff_not, decide_eq_true_eq, beq_iff_eq, bne_iff_ne, ne_eq]; omega) | assumption | (simp; done) | (simp [maxLen]; omega) | skip
    all_goals first | exact (decide_eq_true (.inl (by assumption))).symm | (refine Bool.eq_iff_iff.mpr ?_; simp only [decide_eq_true_eq]; exact ⟨fun h => .inr (.inr h), fun h => by (rcases h with h | h | h; exact absurd h (by assumption); omega; exact h)⟩) | (exact (decide_eq_true (.inr (.inl (by omega)))).symm)
   simp only [kp, zJ, simprocAttr, List.length_cons, List.length_nil]
   refine zX rfl (fun hb => ?_) (fun hb => ?_)
   ·try simp only [hbx] at hb
    refine zW (zV [2, 4]) ?_
    simp only [kp, zJ, simprocAttr]
    refine zK [] (by rw [hC]; rfl) fun k hk => ?_
    simp (maxSteps := 9^9) (disch := (try simp only [lens]); omega) only [zJ, sm, ↓amb, zQ, simprocAttr, sz107, dx]
    repeat refine ⟨by first | omega | (simp; done) | (unfold maxLen; omega) | (simp [maxLen]; omega) | assumption, ?_⟩
    refine hk _ ?_; clear hk k
    refine yQ ?_
    obtain ⟨e1, e2, e4⟩ := Pl.do_err (w := w) (i := i) (Pl.doE2 hth (by simp only [Pl.great, Pl.task] at *; rcases hb with h | h | h; exact .inl h.2; exact .inr (.inl h); exact .inr (.inr h))) (by decide)
    rw [e1, e2, e4]
    refine retl rfl rfl ⟨retc rfl sz107 ?_, rett rfl ?_, rett rfl ?_, trivial⟩
    simp (maxSteps := 9^9) (disch := (try simp only [lens]); omega) only [zJ, sm, ↓amb, zQ, simprocAttr, sz107, dx]
    ·exact .p (LeP.agg (.cons (LeP.seq _ _) (.cons (LeP.refl _) (.cons (LeP.seq _ _) .nil))))
    ·exact .p (LeP.refl _)
    ·exact .p (LeP.refl _)
   ·try simp only [hbx] at hb
    refine yJ ?_
    refine h1 _ ?_; clear h1 k1
    refine zW (zV [1, 2, 4]) ?_
    simp only [kp, zJ, simprocAttr]
    have h0 : Pl.doE w i = 0 := Pl.doE0 hth (by simp only [Pl.great, Pl.task] at *; intro h; rcases h with h | h | h; exact hb (.inl ⟨hth, h⟩); exact hb (.inr (.inl h)); exact hb (.inr (.inr h)))
    refine zK [] (by rw [hC]; rfl) fun k hk => ?_
    simp (maxSteps := 9^9) (disch := (try simp only [lens]); omega) only [zJ, sm, ↓amb, zQ, simprocAttr, sz107, en131, vr107, dx]
    repeat refine ⟨by first | omega | (simp; done) | (unfold maxLen; omega) | (simp [maxLen]; omega) | assumption, ?_⟩
    refine callK_h (c27 c d w (by omega) (by omega)) [] [] (by first | rfl | (simp only [hm]; done)) (by first | rfl | (simp [namesOk, lkp]; done)) ?_ ?_ ?_ ?_ ?_ ?_ ?_
    (iterate 6 (focus (first | trivial | (intro n hn; cases hn; done) | (simp (maxSteps := 9^9) (disch := (try simp only [lens]); omega) only [zJ, sm, ↓amb, zQ, simprocAttr, sz107, en131, vr107, dx, hmx, List.filter_cons, Nat.reduceBNe, imp_self, implies_true]; done))))
    simp (maxSteps := 9^9) (disch := (try simp only [lens]); omega) only [zJ, sm, ↓amb, zQ, simprocAttr, sz107, en131, vr107, dx, hm, List.filter_cons, List.filter_nil, Nat.reduceBNe, Option.map_none]
    repeat refine ⟨by first | omega | (simp; done) | (unfold maxLen; omega) | (simp [maxLen]; omega) | assumption, ?_⟩
    refine hk _ ?_; clear hk k
    refine zY fun k2 h2 => ?_
    refine zW (zV [1, 2, 4, 5, 6, 7]) ?_
    simp only [kp, zJ, simprocAttr]
    refine zK [] (by rw [hC]; rfl) fun k hk => ?_
    simp (maxSteps := 9^9) (disch := (try simp only [lens]); omega) only [zJ, sm, ↓amb, zQ, simprocAttr, fl107_0, sz104, el104, sz128, fl128_0, sz3, dx]
    repeat refine ⟨by first | omega | (simp; done) | (unfold maxLen; omega) | (simp [maxLen]; omega) | assumption, ?_⟩
    refine hk _ ?_; clear hk k
    refine yK ?_
    refine yY (σ := Nat) (fun x => (w.ts.getD i.toNat default).low.toNat ≤ x ∧ x ≤ (w.ts.getD i.toNat default).high.toNat) (fun (x : Nat) => ⟨[(1, (.p (iV i))), (2, (.ptr 0 3 0 0)), (4, (.ptr 1 3 0 0)), (7, (.ptr 2 3 0 0)), (8, (.p (iV (x : Int))))], [(0, (.row 3 [[.p (.seq c (w.ts.map taskC)), .p (iV w.grain), .p (.seq d (w.done.map fun b => [bV b]))]])), (1, (.row 3 [[.p (.seq true []), .p (iV 0), .p (.seq true [])]])), (2, (.row 3 [[.own 3, .p (iV w.grain), .own 4]])), (3, (.row 4 (lift (w.ts.map taskC)))), (4, (.row 1 (lift ((Pl.marked w.done (w.ts.getD i.toNat default).low.toNat x).map fun b => [bV b]))))], 1⟩) (fun x => (w.ts.getD i.toNat default).high.toNat - x) (w.ts.getD i.toNat default).low.toNat ?_ ?_ fun x hx => ?_
    ·exact ⟨Nat.le_refl _, by omega⟩
    ·exact le_of [(0, _), (1, _), (2, _), (3, _), (4, _)] (by rfl) (by rfl) ⟨⟨_, rfl, .p (.of_eq (by first | rfl | (simp only [PV.lit.injEq, Value.int.injEq, true_and]; omega) | (simp; done) | (simp; omega)))⟩, ⟨_, rfl, .ptr rfl⟩, ⟨_, rfl, .ptr rfl⟩, ⟨_, rfl, .ptr rfl⟩, ⟨_, rfl, .p (.of_eq (by first | rfl | (simp only [PV.lit.injEq, Value.int.injEq, true_and]; omega) | (simp; done) | (simp; omega)))⟩, trivial⟩ ⟨⟨_, rfl, _, rfl, .one (.cons (.p (.refl _)) (.cons (.p (.refl _)) (.cons (.p (.refl _)) .nil)))⟩, ⟨_, rfl, _, rfl, .one (.cons (.p (.refl _)) (.cons (.p (.refl _)) (.cons (.p (.refl _)) .nil)))⟩, ⟨_, rfl, _, rfl, .one (.cons (.own rfl) (.cons (.p (.refl _)) (.cons (.own rfl) .nil)))⟩, ⟨_, rfl, _, rfl, .lift _⟩, ⟨_, rfl, _, rfl, .liftE (by first | (rw [Pl.marked_start]; done) | (rw [← Pl.marked_set (by omega) (by omega), List.map_set]; try simp; done))⟩, trivial⟩
    obtain ⟨hx1, hx2⟩ := hx
    have hml := Pl.marked_len (d := w.done) hx1 (by omega)
    refine zY fun k4 h4 => ?_
    refine zW (zV [0, 1, 2, 3, 4, 5, 6, 7, 8]) ?_
    simp only [kp, zJ, simprocAttr]
    refine zK [] (by rw [hC]; rfl) fun k hk => ?_
    simp (maxSteps := 9^9) (disch := (try simp only [lens]); omega) only [zJ, sm, ↓amb, zQ, simprocAttr, fl107_0, sz104, el104, sz128, fl128_1, sz3, dx]
    repeat refine ⟨by first | omega | (simp; done) | (unfold maxLen; omega) | (simp [maxLen]; omega) | assumption, ?_⟩
    refine hk _ ?_; clear hk k
    refine zX rfl (fun hb => ?_) (fun hb => ?_)
    ·try simp only [hbx] at hb
     refine yJ ?_
     refine h4 _ ?_; clear h4 k4
     refine zY fun k5 h5 => ?_
     refine yK ?_
     refine yZ [] (by rw [hC]; rfl) fun k hk => ?_
     simp (maxSteps := 9^9) (disch := (try simp only [lens]); omega) only [zJ, sm, ↓amb, zQ, simprocAttr, fl107_2, sz105, el105, sz4, dx]
     repeat refine ⟨by first | omega | (simp; done) | (unfold maxLen; omega) | (simp [maxLen]; omega) | assumption, ?_⟩
     refine hk _ ?_; clear hk k
     refine h5 _ ?_; clear h5 k5
     refine yZ [] (by rw [hC]; rfl) fun k hk => ?_
     simp (maxSteps := 9^9) (disch := (try simp only [lens]); omega) only [zJ, sm, ↓amb, zQ, simprocAttr, dx]
     repeat refine ⟨by first | omega | (simp; done) | (unfold maxLen; omega) | (simp [maxLen]; omega) | assumption, ?_⟩
     refine hk _ ?_; clear hk k
     refine ⟨x + 1, ⟨by omega, by omega⟩, le_of [(0, _), (1, _), (2, _), (3, _), (4, _)] (by rfl) (by rfl) ⟨⟨_, rfl, .p (.of_eq (by first | rfl | (simp only [PV.lit.injEq, Value.int.injEq, true_and]; omega) | (simp; done) | (simp; omega)))⟩, ⟨_, rfl, .ptr rfl⟩, ⟨_, rfl, .ptr rfl⟩, ⟨_, rfl, .ptr rfl⟩, ⟨_, rfl, .p (.of_eq (by first | rfl | (simp only [PV.lit.injEq, Value.int.injEq, true_and]; omega) | (simp; done) | (simp; omega)))⟩, trivial⟩ ⟨⟨_, rfl, _, rfl, .one (.cons (.p (.refl _)) (.cons (.p (.refl _)) (.cons (.p (.refl _)) .nil)))⟩, ⟨_, rfl, _, rfl, .one (.cons (.p (.refl _)) (.cons (.p (.refl _)) (.cons (.p (.refl _)) .nil)))⟩, ⟨_, rfl, _, rfl, .one (.cons (.own rfl) (.cons (.p (.refl _)) (.cons (.own rfl) .nil)))⟩, ⟨_, rfl, _, rfl, .lift _⟩, ⟨_, rfl, _, rfl, .liftE (by first | (rw [Pl.marked_start]; done) | (rw [← Pl.marked_set (by omega) (by omega), List.map_set]; try simp; done))⟩, trivial⟩, by omega⟩
    ·try simp only [hbx] at hb
     refine yX ((if_pos rfl).mpr ?_)
     refine h2 _ ?_; clear h4 k4; clear h2 k2
     refine zY fun k6 h6 => ?_
     refine zW (zV [1, 2, 4, 5, 6, 7]) ?_
     simp only [kp, zJ, simprocAttr]
     have hxe : x = (w.ts.getD i.toNat default).high.toNat := by omega
     subst hxe
     have huo := Pl.upOk_of hR
     refine zK [] (by rw [hC]; rfl) fun k hk => ?_
     simp (maxSteps := 9^9) (disch := (try simp only [lens]); omega) only [zJ, sm, ↓amb, zQ, simprocAttr, fl107_0, sz104, el104, sz128, fl128_2, sz3, dx]
     repeat refine ⟨by first | omega | (simp; done) | (unfold maxLen; omega) | (simp [maxLen]; omega) | assumption, ?_⟩
     refine hk _ ?_; clear hk k
     refine yK ?_
     refine yY (σ := Nat × List Pl.Task × Int) (fun x => Pl.fin x.1 x.2.1 x.2.2 = Pl.fin (w.ts.length + 1) w.ts (w.ts.getD i.toNat default).up ∧ Pl.upOk x.2.1 ∧ x.2.1.length = w.ts.length ∧ -1 ≤ x.2.2 ∧ x.2.2 < w.ts.length ∧ x.2.2 + 1 < x.1) (fun x => ⟨[(4, (.ptr 1 3 0 0)), (7, (.ptr 2 3 0 0)), (9, (.p (iV x.2.2)))], [(1, (.row 3 [[.p (.seq true []), .p (iV 0), .p (.seq true [])]])), (2, (.row 3 [[.own 3, .p (iV w.grain), .own 4]])), (3, (.row 4 (lift (x.2.1.map taskC)))), (4, (.row 1 (lift ((Pl.marked w.done (w.ts.getD i.toNat default).low.toNat (w.ts.getD i.toNat default).high.toNat).map fun b => [bV b]))))], 1⟩) (fun x => x.1) (w.ts.length + 1, w.ts, (w.ts.getD i.toNat default).up) ?_ ?_ fun x hx => ?_
     ·exact ⟨rfl, huo, rfl, by show -1 ≤ (w.ts.getD i.toNat default).up; omega, by show (w.ts.getD i.toNat default).up < _; omega, by show (w.ts.getD i.toNat default).up + 1 < ((w.ts.length + 1 : Nat) : Int); omega⟩
     ·exact le_of [(1, _), (2, _), (3, _), (4, _)] (by rfl) (by rfl) ⟨⟨_, rfl, .ptr rfl⟩, ⟨_, rfl, .ptr rfl⟩, ⟨_, rfl, .p (.of_eq (by first | rfl | (simp only [PV.lit.injEq, Value.int.injEq, true_and]; omega) | (simp; done) | (simp; omega)))⟩, trivial⟩ ⟨⟨_, rfl, _, rfl, .one (.cons (.p (.refl _)) (.cons (.p (.refl _)) (.cons (.p (.refl _)) .nil)))⟩, ⟨_, rfl, _, rfl, .one (.cons (.own rfl) (.cons (.p (.refl _)) (.cons (.own rfl) .nil)))⟩, ⟨_, rfl, _, rfl, .liftE (by first | rfl | rw [List.map_set])⟩, ⟨_, rfl, _, rfl, .lift _⟩, trivial⟩
     obtain ⟨q, us, p⟩ := x
     obtain ⟨hf, hu, hlen, hp0, hp1, hq⟩ := hx
     dsimp only at hf hu hlen hp0 hp1 hq
     obtain ⟨q, rfl⟩ : ∃ q', q = q' + 1 := ⟨q - 1, by omega⟩
     refine zY fun k8 h8 => ?_
     refine zW (zV [1, 2, 3, 4, 5, 6, 7, 9]) ?_
     simp only [kp, zJ, simprocAttr]
     refine zK [] (by rw [hC]; rfl) fun k hk => ?_
     simp (maxSteps := 9^9) (disch := (try simp only [lens]); omega) only [zJ, sm, ↓amb, zQ, simprocAttr, dx]
     repeat refine ⟨by first | omega | (simp; done) | (unfold maxLen; omega) | (simp [maxLen]; omega) | assumption, ?_⟩
     refine hk _ ?_; clear hk k
     refine zX rfl (fun hb => ?_) (fun hb => ?_)
     ·try simp only [hbx] at hb
      refine yJ ?_
      refine h8 _ ?_; clear h8 k8
      refine zY fun k9 h9 => ?_
      refine yK ?_
      refine zY fun k10 h10 => ?_
      refine zW (zV [1, 2, 3, 4, 5, 6, 7, 9]) ?_
      simp only [kp, zJ, simprocAttr]
      have hpn := hb
      have hup := hu p.toNat (by omega)
      refine zK [] (by rw [hC]; rfl) fun k hk => ?_
      simp (maxSteps := 9^9) (disch := (try simp only [lens]); omega) only [zJ, sm, ↓amb, zQ, simprocAttr, fl107_0, sz104, el104, sz128, fl128_3, sz3, dx]
      repeat refine ⟨by first | omega | (simp; done) | (unfold maxLen; omega) | (simp [maxLen]; omega) | assumption, ?_⟩
      refine hk _ ?_; clear hk k
      refine zX rfl (fun hb => ?_) (fun hb => ?_)
      ·try simp only [hbx] at hb
       refine zW (zV [4, 7]) ?_
       simp only [kp, zJ, simprocAttr]
       refine zK [] (by rw [hC]; rfl) fun k hk => ?_
       simp (maxSteps := 9^9) (disch := (try simp only [lens]); omega) only [zJ, sm, ↓amb, zQ, simprocAttr, sz107, dx]
       repeat refine ⟨by first | omega | (simp; done) | (unfold maxLen; omega) | (simp [maxLen]; omega) | assumption, ?_⟩
       refine hk _ ?_; clear hk k
       refine yQ ?_
       obtain ⟨e1, e2, e4⟩ := Pl.do_ok h0
       rw [e1, e2, e4]
       refine retl rfl rfl ⟨retc rfl sz107 ?_, rett rfl ?_, rett rfl ?_, trivial⟩
       simp (maxSteps := 9^9) (disch := (try simp only [lens]); omega) only [zJ, sm, ↓amb, zQ, simprocAttr, sz107, dx]
       ·exact .agg_cons (.ownE rfl (by simp only [Pl.did, Pl.task]; rw [← hf, Pl.fin_zero hpn hb])) (.agg_cons (.p (LeP.refl _)) (.agg_cons (.ownE rfl rfl) (.agg_nil)))
       ·exact .p (LeP.of_eq (by simp only [Pl.did, Pl.task]; rw [← hf, Pl.fin_zero hpn hb]))
       ·exact .p (LeP.refl _)
      ·try simp only [hbx] at hb
       refine yJ ?_
       refine h10 _ ?_; clear h10 k10
       refine zW (zV [1, 2, 3, 4, 5, 6, 7, 9]) ?_
       simp only [kp, zJ, simprocAttr]
       refine zK [] (by rw [hC]; rfl) fun k hk => ?_
       simp (maxSteps := 9^9) (disch := (try simp only [lens]); omega) only [zJ, sm, ↓amb, zQ, simprocAttr, fl107_0, sz104, el104, sz128, fl128_3, sz3, dx]
       repeat refine ⟨by first | omega | (simp; done) | (unfold maxLen; omega) | (simp [maxLen]; omega) | assumption, ?_⟩
       refine hk _ ?_; clear hk k
       refine zW (zV [1, 2, 3, 4, 5, 6, 7, 9]) ?_
       simp only [kp, zJ, simprocAttr]
       refine zK [] (by rw [hC]; rfl) fun k hk => ?_
       simp (maxSteps := 9^9) (disch := (try simp only [lens]); omega) only [zJ, sm, ↓amb, zQ, simprocAttr, fl107_0, sz104, el104, sz128, fl128_3, sz3, dx]
       repeat refine ⟨by first | omega | (simp; done) | (unfold maxLen; omega) | (simp [maxLen]; omega) | assumption, ?_⟩
       refine hk _ ?_; clear hk k
       refine zX rfl (fun hb => ?_) (fun hb => ?_)
       ·try simp only [hbx] at hb
        refine zW (zV [4, 7]) ?_
        simp only [kp, zJ, simprocAttr]
        refine zK [] (by rw [hC]; rfl) fun k hk => ?_
        simp (maxSteps := 9^9) (disch := (try simp only [lens]); omega) only [zJ, sm, ↓amb, zQ, simprocAttr, sz107, dx]
        repeat refine ⟨by first | omega | (simp; done) | (unfold maxLen; omega) | (simp [maxLen]; omega) | assumption, ?_⟩
        refine hk _ ?_; clear hk k
        refine yQ ?_
        obtain ⟨e1, e2, e4⟩ := Pl.do_ok h0
        rw [e1, e2, e4]
        refine retl rfl rfl ⟨retc rfl sz107 ?_, rett rfl ?_, rett rfl ?_, trivial⟩
        simp (maxSteps := 9^9) (disch := (try simp only [lens]); omega) only [zJ, sm, ↓amb, zQ, simprocAttr, sz107, dx]
        ·exact .agg_cons (.ownE rfl (by simp only [Pl.did, Pl.task]; rw [← hf, Pl.fin_stop hpn (by omega) (by omega)]; try rw [List.map_set])) (.agg_cons (.p (LeP.refl _)) (.agg_cons (.ownE rfl rfl) (.agg_nil)))
        ·exact .p (LeP.of_eq (by simp only [Pl.did, Pl.task]; rw [← hf, Pl.fin_stop hpn (by omega) (by omega)]))
        ·exact .p (LeP.refl _)
       ·try simp only [hbx] at hb
        refine yJ ?_
        refine h9 _ ?_; clear h9 k9
        refine yZ [] (by rw [hC]; rfl) fun k hk => ?_
        simp (maxSteps := 9^9) (disch := (try simp only [lens]); omega) only [zJ, sm, ↓amb, zQ, simprocAttr, fl107_0, sz104, el104, sz128, fl128_2, sz3, dx]
        repeat refine ⟨by first | omega | (simp; done) | (unfold maxLen; omega) | (simp [maxLen]; omega) | assumption, ?_⟩
        refine hk _ ?_; clear hk k
        refine ⟨(q, us.set p.toNat { us.getD p.toNat default with wait := (us.getD p.toNat default).wait - 1 }, (us.getD p.toNat default).up), ⟨by rw [← hf, Pl.fin_on hpn (by omega) (by omega)], Pl.upOk_set hu (by omega) (by omega), by simpa using hlen, by show -1 ≤ (us.getD p.toNat default).up; omega, by show (us.getD p.toNat default).up < _; omega, by show (us.getD p.toNat default).up + 1 < (q : Int); omega⟩, le_of [(1, _), (2, _), (3, _), (4, _)] (by rfl) (by rfl) ⟨⟨_, rfl, .ptr rfl⟩, ⟨_, rfl, .ptr rfl⟩, ⟨_, rfl, .p (.of_eq (by first | rfl | (simp only [PV.lit.injEq, Value.int.injEq, true_and]; omega) | (simp; done) | (simp; omega)))⟩, trivial⟩ ⟨⟨_, rfl, _, rfl, .one (.cons (.p (.refl _)) (.cons (.p (.refl _)) (.cons (.p (.refl _)) .nil)))⟩, ⟨_, rfl, _, rfl, .one (.cons (.own rfl) (.cons (.p (.refl _)) (.cons (.own rfl) .nil)))⟩, ⟨_, rfl, _, rfl, .liftE (by first | rfl | rw [List.map_set])⟩, ⟨_, rfl, _, rfl, .lift _⟩, trivial⟩, Nat.lt_succ_self q⟩
     ·try simp only [hbx] at hb
      refine yX ((if_pos rfl).mpr ?_)
      refine h6 _ ?_; clear h8 k8; clear h6 k6
      refine zW (zV [4, 7]) ?_
      simp only [kp, zJ, simprocAttr]
      refine zK [] (by rw [hC]; rfl) fun k hk => ?_
      simp (maxSteps := 9^9) (disch := (try simp only [lens]); omega) only [zJ, sm, ↓amb, zQ, simprocAttr, sz107, dx]
      repeat refine ⟨by first | omega | (simp; done) | (unfold maxLen; omega) | (simp [maxLen]; omega) | assumption, ?_⟩
      refine hk _ ?_; clear hk k
      refine yQ ?_
      have hpe : p = -1 := by omega
      subst hpe
      obtain ⟨e1, e2, e4⟩ := Pl.do_ok h0
      rw [e1, e2, e4]
      refine retl rfl rfl ⟨retc rfl sz107 ?_, rett rfl ?_, rett rfl ?_, trivial⟩
      simp (maxSteps := 9^9) (disch := (try simp only [lens]); omega) only [zJ, sm, ↓amb, zQ, simprocAttr, sz107, dx]
      ·exact .agg_cons (.ownE rfl (by simp only [Pl.did, Pl.task]; rw [← hf, Pl.fin_end])) (.agg_cons (.p (LeP.refl _)) (.agg_cons (.ownE rfl rfl) (.agg_nil)))
      ·exact .p (LeP.of_eq (by simp only [Pl.did, Pl.task]; rw [← hf, Pl.fin_end]))
      ·exact .p (LeP.refl _)
set_option maxHeartbeats 4000000 in
theorem c18 (c : Bool) (l : List Int) (hl : l.length ≤ 1000000) : PCall Try.prog 117 [ints c l] (popS l) := by
 refine yV Try.func117 rfl (by simp [Try.ntmps117]) fun C hC => ?_
 refine zK [] (by rw [hC]; rfl) fun k hk => ?_
 simp (maxSteps := 9^9) (disch := (try simp only [lens]); omega) only [zJ, sm, ↓amb, zQ, simprocAttr, dx]
 repeat refine ⟨by first | omega | (simp; done) | (unfold maxLen; omega) | (simp [maxLen]; omega) | assumption, ?_⟩
 refine hk _ ?_; clear hk k
 refine zY fun k1 h1 => ?_
 refine zK [] (by rw [hC]; rfl) fun k hk => ?_
 simp (maxSteps := 9^9) (disch := (try simp only [lens]); omega) only [zJ, sm, ↓amb, zQ, simprocAttr, el67, dx]
 repeat refine ⟨by first | omega | (simp; done) | (unfold maxLen; omega) | (simp [maxLen]; omega) | assumption, ?_⟩
 refine hk _ ?_; clear hk k
 refine zX rfl (fun hb => ?_) (fun hb => ?_)
 ·try simp only [hbx] at hb
  refine zK [] (by rw [hC]; rfl) fun k hk => ?_
  simp (maxSteps := 9^9) (disch := (try simp only [lens]); omega) only [zJ, sm, ↓amb, zQ, simprocAttr, dx]
  repeat refine ⟨by first | omega | (simp; done) | (unfold maxLen; omega) | (simp [maxLen]; omega) | assumption, ?_⟩
  refine hk _ ?_; clear hk k
  refine yQ ?_
  obtain rfl : l = [] := List.eq_nil_of_length_eq_zero (by omega)
  refine ret3 rfl rfl rfl rfl ?_ ?_ ?_
  ·exact .p (LeP.seq _ _)
  ·exact .p (LeP.refl _)
  ·exact .p (LeP.refl _)
 ·try simp only [hbx] at hb
  refine yJ ?_
  refine h1 _ ?_; clear h1 k1
  refine zK [] (by rw [hC]; rfl) fun k hk => ?_
  simp (maxSteps := 9^9) (disch := (try simp only [lens]); omega) only [zJ, sm, ↓amb, zQ, simprocAttr, el67, dx]
  repeat refine ⟨by first | omega | (simp; done) | (unfold maxLen; omega) | (simp [maxLen]; omega) | assumption, ?_⟩
  refine hk _ ?_; clear hk k
  refine awp_sd [] ⟨[0, 0, 0, 6, 15, 0, 0, 96, 224, 31, 1023, 2047], [4, 8], [], [], some []⟩ (by rw [hC]; rfl) (by kernel_rfl) (by kernel_rfl) fun k hk => ?_
  simp (maxSteps := 9^9) (disch := (try simp only [lens]); omega) only [zJ, sm, ↓amb, zQ, simprocAttr, el67, vr3, sz3, by3, dx]
  repeat refine ⟨by first | omega | (simp; done) | (unfold maxLen; omega) | (simp [maxLen]; omega) | assumption, ?_⟩
  refine hk _ ?_; clear hk k
  refine yQ ?_
  refine ret3 rfl rfl rfl rfl ?_ ?_ ?_
  ·exact .p (LeP.sq (by simp [List.dropLast_eq_take]))
  ·exact .p (LeP.refl _)
  ·exact .p (LeP.of_eq (by rw [if_neg (by omega)]))
set_option maxHeartbeats 4000000 in
theorem c20 (c : Bool) (l : List Int) (hl : l.length ≤ 1000000) : PCall Try.prog 118 [ints c l] (stealS l) := by
 refine yV Try.func118 rfl (by simp [Try.ntmps118]) fun C hC => ?_
 refine zK [] (by rw [hC]; rfl) fun k hk => ?_
 simp (maxSteps := 9^9) (disch := (try simp only [lens]); omega) only [zJ, sm, ↓amb, zQ, simprocAttr, dx]
 repeat refine ⟨by first | omega | (simp; done) | (unfold maxLen; omega) | (simp [maxLen]; omega) | assumption, ?_⟩
 refine hk _ ?_; clear hk k
 refine zY fun k1 h1 => ?_
 refine zK [] (by rw [hC]; rfl) fun k hk => ?_
 simp (maxSteps := 9^9) (disch := (try simp only [lens]); omega) only [zJ, sm, ↓amb, zQ, simprocAttr, el67, dx]
 repeat refine ⟨by first | omega | (simp; done) | (unfold maxLen; omega) | (simp [maxLen]; omega) | assumption, ?_⟩
 refine hk _ ?_; clear hk k
 refine zX rfl (fun hb => ?_) (fun hb => ?_)
 ·try simp only [hbx] at hb
  refine zK [] (by rw [hC]; rfl) fun k hk => ?_
  simp (maxSteps := 9^9) (disch := (try simp only [lens]); omega) only [zJ, sm, ↓amb, zQ, simprocAttr, dx]
  repeat refine ⟨by first | omega | (simp; done) | (unfold maxLen; omega) | (simp [maxLen]; omega) | assumption, ?_⟩
  refine hk _ ?_; clear hk k
  refine yQ ?_
  obtain rfl : l = [] := List.eq_nil_of_length_eq_zero (by omega)
  refine ret3 rfl rfl rfl rfl ?_ ?_ ?_
  ·exact .p (LeP.seq _ _)
  ·exact .p (LeP.refl _)
  ·exact .p (LeP.refl _)
 ·try simp only [hbx] at hb
  refine yJ ?_
  refine h1 _ ?_; clear h1 k1
  refine awp_sd [] ⟨[0, 0, 2, 7, 0, 16, 48, 15, 255, 511], [3, 6], [], [], some []⟩ (by rw [hC]; rfl) (by kernel_rfl) (by kernel_rfl) fun k hk => ?_
  simp (maxSteps := 9^9) (disch := (try simp only [lens]); omega) only [zJ, sm, ↓amb, zQ, simprocAttr, el67, vr3, sz3, by3, dx]
  repeat refine ⟨by first | omega | (simp; done) | (unfold maxLen; omega) | (simp [maxLen]; omega) | assumption, ?_⟩
  refine hk _ ?_; clear hk k
  refine yQ ?_
  refine ret3 rfl rfl rfl rfl ?_ ?_ ?_
  ·exact .p (LeP.sq (by simp))
  ·exact .p (LeP.refl _)
  ·exact .p (LeP.of_eq (by rw [if_neg (by omega)]))
set_option maxHeartbeats 4000000 in
theorem c_ref05_cut (n w : Int) (hw : 1 ≤ w ∧ w ≤ 8) : PCall Try.prog 115 [iV n, iV w] (iV (n % w)) := by
 refine yV Try.func115 rfl (by simp [Try.ntmps115]) fun C hC => ?_
 refine zK [] (by rw [hC]; rfl) fun k hk => ?_
 simp (maxSteps := 9^9) (disch := (try simp only [lens]); omega) only [zJ, sm, ↓amb, zQ, simprocAttr, dx]
 repeat refine ⟨by first | omega | (simp; done) | (unfold maxLen; omega) | (simp [maxLen]; omega) | assumption, ?_⟩
 refine hk _ ?_; clear hk k
 obtain ⟨hm1, hm2⟩ := Pl.tmod_bound n (m := w) (by omega)
 obtain ⟨hc1, hc2⟩ := Pl.cut_eq (n := n) (w := w) (by omega)
 refine zK [] (by rw [hC]; rfl) fun k hk => ?_
 simp (maxSteps := 9^9) (disch := (try simp only [lens]); omega) only [zJ, sm, ↓amb, zQ, simprocAttr, dx]
 repeat refine ⟨by first | omega | (simp; done) | (unfold maxLen; omega) | (simp [maxLen]; omega) | assumption, ?_⟩
 refine hk _ ?_; clear hk k
 refine zY fun k1 h1 => ?_
 refine zK [] (by rw [hC]; rfl) fun k hk => ?_
 simp (maxSteps := 9^9) (disch := (try simp only [lens]); omega) only [zJ, sm, ↓amb, zQ, simprocAttr, dx]
 repeat refine ⟨by first | omega | (simp; done) | (unfold maxLen; omega) | (simp [maxLen]; omega) | assumption, ?_⟩
 refine hk _ ?_; clear hk k
 refine zX rfl (fun hb => ?_) (fun hb => ?_)
 ·try simp only [hbx] at hb
  refine yZ [] (by rw [hC]; rfl) fun k hk => ?_
  simp (maxSteps := 9^9) (disch := (try simp only [lens]); omega) only [zJ, sm, ↓amb, zQ, simprocAttr, dx]
  repeat refine ⟨by first | omega | (simp; done) | (unfold maxLen; omega) | (simp [maxLen]; omega) | assumption, ?_⟩
  refine hk _ ?_; clear hk k
  refine h1 _ ?_; clear h1 k1
  refine zK [] (by rw [hC]; rfl) fun k hk => ?_
  simp (maxSteps := 9^9) (disch := (try simp only [lens]); omega) only [zJ, sm, ↓amb, zQ, simprocAttr, dx]
  repeat refine ⟨by first | omega | (simp; done) | (unfold maxLen; omega) | (simp [maxLen]; omega) | assumption, ?_⟩
  refine hk _ ?_; clear hk k
  refine yQ ?_
  refine ret1 rfl rfl ?_
  exact .p (LeP.of_eq (by rw [hc1 (by omega)]))
 ·try simp only [hbx] at hb
  refine yJ ?_
  refine h1 _ ?_; clear h1 k1
  refine zK [] (by rw [hC]; rfl) fun k hk => ?_
  simp (maxSteps := 9^9) (disch := (try simp only [lens]); omega) only [zJ, sm, ↓amb, zQ, simprocAttr, dx]
  repeat refine ⟨by first | omega | (simp; done) | (unfold maxLen; omega) | (simp [maxLen]; omega) | assumption, ?_⟩
  refine hk _ ?_; clear hk k
  refine yQ ?_
  refine ret1 rfl rfl ?_
  exact .p (LeP.of_eq (by rw [hc2 (by omega)]))
set_option maxHeartbeats 4000000 in
theorem c_ref05_Held (c : Pl.Crew) (hb' : Pl.held c.dq ≤ 1000000000) (hd : c.dq.length ≤ 1000000) : PCall Try.prog 122 [.agg (crewC c)] (iV (Pl.held c.dq)) := by
 refine yV Try.func122 rfl (by simp [Try.ntmps122]) fun C hC => ?_
 refine zW (zV [0]) ?_
 simp only [kp, zJ, simprocAttr]
 refine zK [] (by rw [hC]; rfl) fun k hk => ?_
 simp (maxSteps := 9^9) (disch := (try simp only [lens]); omega) only [zJ, sm, ↓amb, zQ, simprocAttr, dx]
 repeat refine ⟨by first | omega | (simp; done) | (unfold maxLen; omega) | (simp [maxLen]; omega) | assumption, ?_⟩
 refine hk _ ?_; clear hk k
 refine zW (zV [1]) ?_
 simp only [kp, zJ, simprocAttr]
 refine zK [] (by rw [hC]; rfl) fun k hk => ?_
 simp (maxSteps := 9^9) (disch := (try simp only [lens]); omega) only [zJ, sm, ↓amb, zQ, simprocAttr, dx]
 repeat refine ⟨by first | omega | (simp; done) | (unfold maxLen; omega) | (simp [maxLen]; omega) | assumption, ?_⟩
 refine hk _ ?_; clear hk k
 refine zY fun k1 h1 => ?_
 refine zW (zV [1, 2, 3]) ?_
 simp only [kp, zJ, simprocAttr]
 refine zK [] (by rw [hC]; rfl) fun k hk => ?_
 simp (maxSteps := 9^9) (disch := (try simp only [lens]); omega) only [zJ, sm, ↓amb, zQ, simprocAttr, dx]
 repeat refine ⟨by first | omega | (simp; done) | (unfold maxLen; omega) | (simp [maxLen]; omega) | assumption, ?_⟩
 refine hk _ ?_; clear hk k
 refine yK ?_
 refine yY (σ := Nat) (fun i => i ≤ c.dq.length) (fun (i : Nat) => ⟨[(1, (.ptr 0 7 0 0)), (3, (.p (iV (Pl.held (c.dq.take i))))), (4, (.p (iV (i : Int))))], [(0, (.row 7 [[.p (.seq false (c.work.ts.map taskC)), .p (iV c.work.grain), .p (.seq false (c.work.done.map fun b => [bV b])), .p (.seq false (c.dq.map lV)), .p (bV c.over), .p (iV c.steps), .p (iV c.idle)]]))], 1⟩) (fun i => c.dq.length - i) 0 ?_ ?_ fun x hx => ?_
 ·exact Nat.zero_le _
 ·exact le_of [(0, _)] (by rfl) (by rfl) ⟨⟨_, rfl, .ptr rfl⟩, ⟨_, rfl, .p (.of_eq (by first | rfl | (rw [Pl.held_take_succ c.dq x (by omega)]; simp only [PV.lit.injEq, Value.int.injEq, true_and]; omega)))⟩, ⟨_, rfl, .p (.of_eq (by first | rfl | (simp only [PV.lit.injEq, Value.int.injEq, true_and]; omega) | (simp; done) | (simp; omega)))⟩, trivial⟩ ⟨⟨_, rfl, _, rfl, .one (.cons (.p (.refl _)) (.cons (.p (.refl _)) (.cons (.p (.refl _)) (.cons (.p (.refl _)) (.cons (.p (.refl _)) (.cons (.p (.refl _)) (.cons (.p (.refl _)) (.nil))))))))⟩, trivial⟩
 refine zY fun k3 h3 => ?_
 refine zW (zV [0, 1, 2, 3, 4]) ?_
 simp only [kp, zJ, simprocAttr]
 refine zK [] (by rw [hC]; rfl) fun k hk => ?_
 simp (maxSteps := 9^9) (disch := (try simp only [lens]); omega) only [zJ, sm, ↓amb, zQ, simprocAttr, fl110_1, sz108, el108, dx]
 repeat refine ⟨by first | omega | (simp; done) | (unfold maxLen; omega) | (simp [maxLen]; omega) | assumption, ?_⟩
 refine hk _ ?_; clear hk k
 refine zX rfl (fun hb => ?_) (fun hb => ?_)
 ·try simp only [hbx] at hb
  refine yJ ?_
  refine h3 _ ?_; clear h3 k3
  refine zY fun k4 h4 => ?_
  refine yK ?_
  have hs := Pl.held_take_succ c.dq x (by omega)
  have hl := Pl.held_le c.dq (x + 1)
  refine yZ [] (by rw [hC]; rfl) fun k hk => ?_
  simp (maxSteps := 9^9) (disch := (try simp only [lens]); omega) only [zJ, sm, ↓amb, zQ, simprocAttr, fl110_1, sz108, el108, sz67, el67, dx]
  repeat refine ⟨by first | omega | (simp; done) | (unfold maxLen; omega) | (simp [maxLen]; omega) | assumption, ?_⟩
  refine hk _ ?_; clear hk k
  refine h4 _ ?_; clear h4 k4
  refine yZ [] (by rw [hC]; rfl) fun k hk => ?_
  simp (maxSteps := 9^9) (disch := (try simp only [lens]); omega) only [zJ, sm, ↓amb, zQ, simprocAttr, dx]
  repeat refine ⟨by first | omega | (simp; done) | (unfold maxLen; omega) | (simp [maxLen]; omega) | assumption, ?_⟩
  refine hk _ ?_; clear hk k
  refine ⟨x + 1, by omega, le_of [(0, _)] (by rfl) (by rfl) ⟨⟨_, rfl, .ptr rfl⟩, ⟨_, rfl, .p (.of_eq (by first | rfl | (rw [Pl.held_take_succ c.dq x (by omega)]; simp only [PV.lit.injEq, Value.int.injEq, true_and]; omega)))⟩, ⟨_, rfl, .p (.of_eq (by first | rfl | (simp only [PV.lit.injEq, Value.int.injEq, true_and]; omega) | (simp; done) | (simp; omega)))⟩, trivial⟩ ⟨⟨_, rfl, _, rfl, .one (.cons (.p (.refl _)) (.cons (.p (.refl _)) (.cons (.p (.refl _)) (.cons (.p (.refl _)) (.cons (.p (.refl _)) (.cons (.p (.refl _)) (.cons (.p (.refl _)) (.nil))))))))⟩, trivial⟩, by omega⟩
 ·try simp only [hbx] at hb
  refine yX ((if_pos rfl).mpr ?_)
  refine h1 _ ?_; clear h3 k3; clear h1 k1
  refine zW (zV [3]) ?_
  simp only [kp, zJ, simprocAttr]
  have hx2 : c.dq.take x = c.dq := List.take_of_length_le (by omega)
  rw [hx2]
  refine zK [] (by rw [hC]; rfl) fun k hk => ?_
  simp (maxSteps := 9^9) (disch := (try simp only [lens]); omega) only [zJ, sm, ↓amb, zQ, simprocAttr, dx]
  repeat refine ⟨by first | omega | (simp; done) | (unfold maxLen; omega) | (simp [maxLen]; omega) | assumption, ?_⟩
  refine hk _ ?_; clear hk k
  refine yQ ?_
  refine ret1 rfl rfl ?_
  exact .p (LeP.refl _)
end Go.Proofs.Ytjkkjiaeeobnkaa
end
section
set_option linter.unusedSimpArgs false
set_option linter.unusedVariables false
set_option maxRecDepth 100000
namespace Go.Proofs.Ytjkkjiaeeobnkaa
open Go.Am Go.Proofs
set_option maxHeartbeats 4000000 in
theorem c_ref05_Right (c : Pl.Crew) (hl : ∀ l, l ∈ c.dq → l.length ≤ 1000000 ∧ ∀ t, t ∈ l → -9223372036854775808 ≤ t ∧ t ≤ 9223372036854775807) : PCall Try.prog 114 [.agg (crewC c)] (bV (decide (Pl.crewRight c))) := by
 refine yV Try.func114 rfl (by simp [Try.ntmps114]) fun C hC => ?_
 refine zW (zV [0]) ?_
 simp only [kp, zJ, simprocAttr]
 refine zK [47] (by rw [hC]; rfl) fun k hk => ?_
 simp (maxSteps := 9^9) (disch := (try simp only [lens]); omega) only [zJ, sm, ↓amb, zQ, simprocAttr, taskC, lV, dx]
 repeat refine ⟨by first | omega | (simp; done) | (unfold maxLen; omega) | (simp [maxLen]; omega) | assumption, ?_⟩
 refine hk _ ?_; clear hk k
 refine zW (zV [1]) ?_
 simp only [kp, zJ, simprocAttr]
 refine zK [47] (by rw [hC]; rfl) fun k hk => ?_
 simp (maxSteps := 9^9) (disch := (try simp only [lens]); omega) only [zJ, sm, ↓amb, zQ, simprocAttr, fl110_1, sz108, el108, taskC, lV, dx]
 repeat refine ⟨by first | omega | (simp; done) | (unfold maxLen; omega) | (simp [maxLen]; omega) | assumption, ?_⟩
 refine hk _ ?_; clear hk k
 refine zY fun k1 h1 => ?_
 refine xQ [47] 42 (decide (¬ (Pl.right c.work ∧ 1 ≤ c.dq.length ∧ c.dq.length ≤ 8 ∧ (0 ≤ c.steps ∧ c.steps ≤ 100000) ∧ (0 ≤ c.idle ∧ c.idle ≤ 100000)))) [1, 2, 3] (by rw [hC]; rfl) (fun gd hgd k hk => ?_) ?_
 ·have g4 : gd 4 = some 15 := by rw [hgd]; rfl
  have g8 : gd 8 = some 19 := by rw [hgd]; rfl
  have g12 : gd 12 = some 23 := by rw [hgd]; rfl
  have g17 : gd 17 = some 28 := by rw [hgd]; rfl
  have g22 : gd 22 = some 33 := by rw [hgd]; rfl
  have g27 : gd 27 = some 38 := by rw [hgd]; rfl
  clear hgd
  simp (maxSteps := 9^9) (disch := (try simp only [lens]); omega) only [zJ, sm, ↓amb, zQ, simprocAttr, fl110_0, sz107, en130, fl110_3, sz3, fl110_4, zZ, g4, g8, g12, g17, g22, g27, taskC, lV, dx]
  repeat' first | refine hk _ _ rfl rfl rfl rfl ?_ | (refine gsplit (fun hg => ?_) (fun hg => ?_) <;> (try simp only [hbx] at hg) <;> (try (have hin : ((c.dq.getD x default).getD y 0).toNat < c.work.ts.length := by omega); try (have hok := hR.2.2.2 _ hin; simp only [Pl.okT] at hok; have hcn := hR.1; simp only [Pl.cnt] at hcn)) <;> simp (maxSteps := 9^9) (disch := (try simp only [lens]); omega) only [zJ, sm, ↓amb, zQ, simprocAttr, fl110_0, sz107, en130, fl110_3, sz3, fl110_4, zZ, g4, g8, g12, g17, g22, g27, taskC, lV, dx]) | apply And.intro | (refine yW (c38 _ _ _) rfl ?_; (try simp (maxSteps := 9^9) (disch := (try simp only [lens]); omega) only [zJ, sm, ↓amb, zQ, simprocAttr, fl110_0, sz107, en130, fl110_3, sz3, fl110_4, zZ, g4, g8, g12, g17, g22, g27, taskC, lV, dx])) | fail
  all_goals first | rfl | omega | exact (decide_eq_true (by omega)).symm | exact (decide_eq_false (by omega)).symm | exact decide_eq_decide.mpr (by omega) | (refine Bool.eq_iff_iff.mpr ?_; simp only [beq_iff_eq, bne_iff_ne, ne_eq, decide_eq_true_eq]; omega) | (refine Bool.eq_iff_iff.mpr ?_; simp only [Bool.not_eq_true', Bool.not_eq_false', decide_eq_false_iff_not, decide_eq_true_eq, beq_iff_eq, bne_iff_ne, ne_eq]; omega) | assumption | (simp; done) | (simp [maxLen]; omega) | skip
  all_goals first | (refine Eq.symm (decide_eq_true ?_); intro q; exact absurd q.1 (by assumption)) | (refine Eq.symm (decide_eq_true ?_); intro q; omega) | (rw [← decide_not]; exact decide_eq_decide.mpr ⟨fun h q => by omega, fun h => by refine Decidable.byContradiction fun w => h ⟨by assumption, by omega, by omega, by omega, by omega⟩⟩) | (refine decide_eq_decide.mpr ⟨fun h q => by omega, fun h => by refine Decidable.byContradiction fun w => h ⟨by assumption, by omega, by omega, by omega, by omega⟩⟩) | trace_state
 simp only [kp, zJ, simprocAttr, List.length_cons, List.length_nil]
 refine zX rfl (fun hb => ?_) (fun hb => ?_)
 ·try simp only [hbx] at hb
  refine zW (zV []) ?_
  simp only [kp, zJ, simprocAttr]
  have hb1 := hb
  refine zK [47] (by rw [hC]; rfl) fun k hk => ?_
  simp (maxSteps := 9^9) (disch := (try simp only [lens]); omega) only [zJ, sm, ↓amb, zQ, simprocAttr, taskC, lV, dx]
  repeat refine ⟨by first | omega | (simp; done) | (unfold maxLen; omega) | (simp [maxLen]; omega) | assumption, ?_⟩
  refine hk _ ?_; clear hk k
  refine yQ ?_
  refine ret1 rfl rfl ?_
  exact .p (LeP.of_eq (by rw [decide_eq_false (fun q => hb ⟨q.1, q.2.1, q.2.2.1, q.2.2.2.1, q.2.2.2.2.1⟩)]))
 ·try simp only [hbx] at hb
  refine yJ ?_
  refine h1 _ ?_; clear h1 k1
  refine zW (zV [1, 3]) ?_
  simp only [kp, zJ, simprocAttr]
  have hq := hb
  have hR := hq.1
  have hts : c.work.ts.length ≤ 2000 := hR.2.2.1
  refine zK [47] (by rw [hC]; rfl) fun k hk => ?_
  simp (maxSteps := 9^9) (disch := (try simp only [lens]); omega) only [zJ, sm, ↓amb, zQ, simprocAttr, fl110_0, fl107_0, sz104, el104, el105, by4, vr4, taskC, lV, dx]
  repeat refine ⟨by first | omega | (simp; done) | (unfold maxLen; omega) | (simp [maxLen]; omega) | assumption, ?_⟩
  refine hk _ ?_; clear hk k
  refine zY fun k2 h2 => ?_
  refine zW (zV [1, 2, 3, 4]) ?_
  simp only [kp, zJ, simprocAttr]
  refine zK [47] (by rw [hC]; rfl) fun k hk => ?_
  simp (maxSteps := 9^9) (disch := (try simp only [lens]); omega) only [zJ, sm, ↓amb, zQ, simprocAttr, taskC, lV, dx]
  repeat refine ⟨by first | omega | (simp; done) | (unfold maxLen; omega) | (simp [maxLen]; omega) | assumption, ?_⟩
  refine hk _ ?_; clear hk k
  refine yK ?_
  refine yY (σ := Nat) (fun i => i ≤ c.dq.length ∧ Pl.metOk c.work (c.dq.take i).flatten) (fun (i : Nat) => ⟨[(1, (.ptr 0 7 0 0)), (3, (.p (iV c.dq.length))), (4, (.own 1)), (5, (.p (iV (i : Int))))], [(0, (.row 7 [[.p (.seq false (c.work.ts.map taskC)), .p (iV c.work.grain), .p (.seq false (c.work.done.map fun b => [bV b])), .p (.seq false (c.dq.map lV)), .p (bV c.over), .p (iV c.steps), .p (iV c.idle)]])), (1, (.row 1 (lift ((Pl.metL c.work.ts.length (c.dq.take i).flatten).map fun b => [bV b]))))], 1⟩) (fun i => c.dq.length - i) 0 ?_ ?_ fun x hx => ?_
  ·exact ⟨Nat.zero_le _, Pl.metOk_nil _⟩
  ·exact le_of [(0, _), (1, _)] (by rfl) (by rfl) ⟨⟨_, rfl, .ptr rfl⟩, ⟨_, rfl, .p (.of_eq (by first | rfl | (simp only [PV.lit.injEq, Value.int.injEq, true_and]; omega) | (simp; done) | (simp; omega)))⟩, ⟨_, rfl, .own rfl⟩, ⟨_, rfl, .p (.of_eq (by first | rfl | (simp only [PV.lit.injEq, Value.int.injEq, true_and]; omega) | (simp; done) | (simp; omega)))⟩, trivial⟩ ⟨⟨_, rfl, _, rfl, .one (.cons (.p (.refl _)) (.cons (.p (.refl _)) (.cons (.p (.refl _)) (.cons (.p (.refl _)) (.cons (.p (.refl _)) (.cons (.p (.refl _)) (.cons (.p (.refl _)) (.nil))))))))⟩, ⟨_, rfl, _, rfl, .liftE (by first | (rw [show (c.dq.take 0).flatten = [] from rfl, Pl.metL_nil, List.map_replicate]; done) | (rw [Pl.flat_succ c.dq x (by omega), List.take_of_length_le (l := (c.dq.getD x default)) (i := y) (by omega)]; done) | trace_state)⟩, trivial⟩
  obtain ⟨hx1, hx2⟩ := hx
  refine zY fun k4 h4 => ?_
  refine zW (zV [0, 1, 2, 3, 4, 5]) ?_
  simp only [kp, zJ, simprocAttr]
  refine zK [47] (by rw [hC]; rfl) fun k hk => ?_
  simp (maxSteps := 9^9) (disch := (try simp only [lens]); omega) only [zJ, sm, ↓amb, zQ, simprocAttr, taskC, lV, dx]
  repeat refine ⟨by first | omega | (simp; done) | (unfold maxLen; omega) | (simp [maxLen]; omega) | assumption, ?_⟩
  refine hk _ ?_; clear hk k
  refine zX rfl (fun hb => ?_) (fun hb => ?_)
  ·try simp only [hbx] at hb
   refine yJ ?_
   refine h4 _ ?_; clear h4 k4
   refine zY fun k5 h5 => ?_
   refine yK ?_
   refine zW (zV [0, 1, 2, 3, 4, 5]) ?_
   simp only [kp, zJ, simprocAttr]
   refine zK [47] (by rw [hC]; rfl) fun k hk => ?_
   simp (maxSteps := 9^9) (disch := (try simp only [lens]); omega) only [zJ, sm, ↓amb, zQ, simprocAttr, taskC, lV, dx]
   repeat refine ⟨by first | omega | (simp; done) | (unfold maxLen; omega) | (simp [maxLen]; omega) | assumption, ?_⟩
   refine hk _ ?_; clear hk k
   refine yK ?_
   refine yY (σ := Nat) (fun y => y ≤ (c.dq.getD x default).length ∧ Pl.metOk c.work ((c.dq.take x).flatten ++ (c.dq.getD x default).take y)) (fun (y : Nat) => ⟨[(1, (.ptr 0 7 0 0)), (3, (.p (iV c.dq.length))), (4, (.own 1)), (5, (.p (iV (x : Int)))), (6, (.p (iV (y : Int))))], [(0, (.row 7 [[.p (.seq false (c.work.ts.map taskC)), .p (iV c.work.grain), .p (.seq false (c.work.done.map fun b => [bV b])), .p (.seq false (c.dq.map lV)), .p (bV c.over), .p (iV c.steps), .p (iV c.idle)]])), (1, (.row 1 (lift ((Pl.metL c.work.ts.length ((c.dq.take x).flatten ++ (c.dq.getD x default).take y)).map fun b => [bV b]))))], 1⟩) (fun y => (c.dq.getD x default).length - y) 0 ?_ ?_ fun y hy => ?_
   ·exact ⟨Nat.zero_le _, by rw [List.take_zero, List.append_nil]; exact hx2⟩
   ·exact le_of [(0, _), (1, _)] (by rfl) (by rfl) ⟨⟨_, rfl, .ptr rfl⟩, ⟨_, rfl, .p (.of_eq (by first | rfl | (simp only [PV.lit.injEq, Value.int.injEq, true_and]; omega) | (simp; done) | (simp; omega)))⟩, ⟨_, rfl, .own rfl⟩, ⟨_, rfl, .p (.of_eq (by first | rfl | (simp only [PV.lit.injEq, Value.int.injEq, true_and]; omega) | (simp; done) | (simp; omega)))⟩, ⟨_, rfl, .p (.of_eq (by first | rfl | (simp only [PV.lit.injEq, Value.int.injEq, true_and]; omega) | (simp; done) | (simp; omega)))⟩, trivial⟩ ⟨⟨_, rfl, _, rfl, .one (.cons (.p (.refl _)) (.cons (.p (.refl _)) (.cons (.p (.refl _)) (.cons (.p (.refl _)) (.cons (.p (.refl _)) (.cons (.p (.refl _)) (.cons (.p (.refl _)) (.nil))))))))⟩, ⟨_, rfl, _, rfl, .liftE (by first | (rw [List.take_zero, List.append_nil]; done) | (rw [Pl.take_succ_at _ _ (by omega), ← List.append_assoc]; exact (List.map_set ..).symm.trans (congrArg (List.map _) (Pl.metL_snoc hho.1))) | trace_state)⟩, trivial⟩
   obtain ⟨hy1, hy2⟩ := hy
   refine zY fun k7 h7 => ?_
   refine zW (zV [0, 1, 2, 3, 4, 5, 6]) ?_
   simp only [kp, zJ, simprocAttr]
   have hll := hl (c.dq.getD x default) (Pl.getD_mem _ _ _ (by omega))
   refine zK [47] (by rw [hC]; rfl) fun k hk => ?_
   simp (maxSteps := 9^9) (disch := (try simp only [lens]); omega) only [zJ, sm, ↓amb, zQ, simprocAttr, fl110_1, sz108, el108, sz67, el67, taskC, lV, dx]
   repeat refine ⟨by first | omega | (simp; done) | (unfold maxLen; omega) | (simp [maxLen]; omega) | assumption, ?_⟩
   refine hk _ ?_; clear hk k
   refine zX rfl (fun hb => ?_) (fun hb => ?_)
   ·try simp only [hbx] at hb
    refine yJ ?_
    refine h7 _ ?_; clear h7 k7
    refine zY fun k8 h8 => ?_
    refine yK ?_
    refine zW (zV [0, 1, 2, 3, 4, 5, 6]) ?_
    simp only [kp, zJ, simprocAttr]
    refine zK [47] (by rw [hC]; rfl) fun k hk => ?_
    simp (maxSteps := 9^9) (disch := (try simp only [lens]); omega) only [zJ, sm, ↓amb, zQ, simprocAttr, fl110_1, sz108, el108, sz67, el67, sz3, taskC, lV, dx]
    repeat refine ⟨by first | omega | (simp; done) | (unfold maxLen; omega) | (simp [maxLen]; omega) | assumption, ?_⟩
    refine hk _ ?_; clear hk k
    refine zY fun k9 h9 => ?_
    have hkl := hll.2 ((c.dq.getD x default).getD y 0) (Pl.getD_mem _ _ _ (by omega))
    have hml := Pl.metL_len c.work.ts.length ((c.dq.take x).flatten ++ (c.dq.getD x default).take y)
    refine awp_testD [47] ⟨[0, 1, 3, 7, 7, 23, 63, 127, 255, 511, 511, 2047, 4095, 8191, 16383, 32767, 65535, 131071, 32767, 524287, 1048575, 2097151, 4194303, 8388607, 16777215, 33554431, 67108863, 33554431, 268435455, 536870911, 1073741823, 2147483647, 4294967295, 8589934591, 2147483647, 19327352831, 53687091199, 2147483647, 259845521407, 534723428351, 1084479242239, 2199023255551, 4398046511103, 8796093022207, 17592186044415], [5, 12, 17, 21, 26, 33, 36, 40, 42], [], [(28, 33), (28, 36), (28, 40), (28, 42)], some []⟩ 115 (decide (¬ Pl.heldOk c.work ((c.dq.take x).flatten ++ (c.dq.getD x default).take y) ((c.dq.getD x default).getD y 0))) [0, 1, 2, 3, 4, 5, 6, 7] (by rw [hC]; rfl) (by kernel_rfl) (by kernel_rfl) (fun gd hgd k hk => ?_) ?_
    ·have g2 : gd 2 = some 73 := by rw [hgd]; rfl
     have g8 : gd 8 = some 79 := by rw [hgd]; rfl
     have g14 : gd 14 = some 85 := by rw [hgd]; rfl
     have g24 : gd 24 = some 95 := by rw [hgd]; rfl
     have g30 : gd 30 = some 101 := by rw [hgd]; rfl
     clear hgd
     simp (maxSteps := 9^9) (disch := (try simp only [lens]); omega) only [zJ, sm, ↓amb, zQ, simprocAttr, el105, sz4, fl110_0, fl107_0, sz104, el104, sz128, fl128_3, sz3, sz107, en119, fl107_2, sz105, fl128_0, zZ, g2, g8, g14, g24, g30, taskC, lV, dx]
     repeat' first | refine hk _ _ rfl rfl rfl rfl ?_ | (refine gsplit (fun hg => ?_) (fun hg => ?_) <;> (try simp only [hbx] at hg) <;> (try (have hin : ((c.dq.getD x default).getD y 0).toNat < c.work.ts.length := by omega); try (have hok := hR.2.2.2 _ hin; simp only [Pl.okT] at hok; have hcn := hR.1; simp only [Pl.cnt] at hcn)) <;> simp (maxSteps := 9^9) (disch := (try simp only [lens]); omega) only [zJ, sm, ↓amb, zQ, simprocAttr, el105, sz4, fl110_0, fl107_0, sz104, el104, sz128, fl128_3, sz3, sz107, en119, fl107_2, sz105, fl128_0, zZ, g2, g8, g14, g24, g30, taskC, lV, dx]) | apply And.intro | (refine yW (c40 _ _ _ _) rfl ?_; (try simp (maxSteps := 9^9) (disch := (try simp only [lens]); omega) only [zJ, sm, ↓amb, zQ, simprocAttr, el105, sz4, fl110_0, fl107_0, sz104, el104, sz128, fl128_3, sz3, sz107, en119, fl107_2, sz105, fl128_0, zZ, g2, g8, g14, g24, g30, taskC, lV, dx])) | fail
     all_goals first | rfl | omega | exact (decide_eq_true (by omega)).symm | exact (decide_eq_false (by omega)).symm | exact decide_eq_decide.mpr (by omega) | (refine Bool.eq_iff_iff.mpr ?_; simp only [beq_iff_eq, bne_iff_ne, ne_eq, decide_eq_true_eq]; omega) | (refine Bool.eq_iff_iff.mpr ?_; simp only [Bool.not_eq_true', Bool.not_eq_false', decide_eq_false_iff_not, decide_eq_true_eq, beq_iff_eq, bne_iff_ne, ne_eq]; omega) | assumption | (simp; done) | (simp [maxLen]; omega) | skip
     all_goals first | (refine (decide_eq_true ?_).symm; intro q; first | (have q1 := q.1; have q2 := q.2.1; omega) | exact q.2.2.1 (Pl.metL_in q.1 q.2.1 (by assumption)) | exact absurd q.2.2.2.1 (by assumption)) | (refine (decide_eq_false ?_).symm; intro q; exact q ⟨by omega, by omega, Pl.metL_out (n := c.work.ts.length) (by omega) (by omega) (by assumption), by assumption, .inl (by assumption)⟩) | exact Pl.held_last (by omega) (by omega) (Pl.metL_out (n := c.work.ts.length) (by omega) (by omega) (by assumption)) (by assumption) (by assumption) | trace_state
    simp only [kp, zJ, simprocAttr, List.length_cons, List.length_nil]
    refine zX rfl (fun hb => ?_) (fun hb => ?_)
    ·try simp only [hbx] at hb
     refine zW (zV []) ?_
     simp only [kp, zJ, simprocAttr]
     refine zK [47] (by rw [hC]; rfl) fun k hk => ?_
     simp (maxSteps := 9^9) (disch := (try simp only [lens]); omega) only [zJ, sm, ↓amb, zQ, simprocAttr, taskC, lV, dx]
     repeat refine ⟨by first | omega | (simp; done) | (unfold maxLen; omega) | (simp [maxLen]; omega) | assumption, ?_⟩
     refine hk _ ?_; clear hk k
     refine yQ ?_
     obtain ⟨r, hr⟩ := Pl.flat_at c.dq x y (by omega) (by omega)
     refine ret1 rfl rfl ?_
     exact .p (LeP.of_eq (by rw [decide_eq_false (Pl.crewRight_not hb hr)]))
    ·try simp only [hbx] at hb
     refine yJ ?_
     refine h9 _ ?_; clear h9 k9
     have hho := hb
     have hq0 := hho.1
     have hq1 := hho.2.1
     refine yZ [47] (by rw [hC]; rfl) fun k hk => ?_
     simp (maxSteps := 9^9) (disch := (try simp only [lens]); omega) only [zJ, sm, ↓amb, zQ, simprocAttr, el105, sz4, taskC, lV, dx]
     repeat refine ⟨by first | omega | (simp; done) | (unfold maxLen; omega) | (simp [maxLen]; omega) | assumption, ?_⟩
     refine hk _ ?_; clear hk k
     refine h8 _ ?_; clear h8 k8
     refine yZ [47] (by rw [hC]; rfl) fun k hk => ?_
     simp (maxSteps := 9^9) (disch := (try simp only [lens]); omega) only [zJ, sm, ↓amb, zQ, simprocAttr, taskC, lV, dx]
     repeat refine ⟨by first | omega | (simp; done) | (unfold maxLen; omega) | (simp [maxLen]; omega) | assumption, ?_⟩
     refine hk _ ?_; clear hk k
     refine ⟨y + 1, ⟨by omega, by rw [Pl.take_succ_at _ _ (by omega), ← List.append_assoc]; exact Pl.metOk_more hy2 hho⟩, le_of [(0, _), (1, _)] (by rfl) (by rfl) ⟨⟨_, rfl, .ptr rfl⟩, ⟨_, rfl, .p (.of_eq (by first | rfl | (simp only [PV.lit.injEq, Value.int.injEq, true_and]; omega) | (simp; done) | (simp; omega)))⟩, ⟨_, rfl, .own rfl⟩, ⟨_, rfl, .p (.of_eq (by first | rfl | (simp only [PV.lit.injEq, Value.int.injEq, true_and]; omega) | (simp; done) | (simp; omega)))⟩, ⟨_, rfl, .p (.of_eq (by first | rfl | (simp only [PV.lit.injEq, Value.int.injEq, true_and]; omega) | (simp; done) | (simp; omega)))⟩, trivial⟩ ⟨⟨_, rfl, _, rfl, .one (.cons (.p (.refl _)) (.cons (.p (.refl _)) (.cons (.p (.refl _)) (.cons (.p (.refl _)) (.cons (.p (.refl _)) (.cons (.p (.refl _)) (.cons (.p (.refl _)) (.nil))))))))⟩, ⟨_, rfl, _, rfl, .liftE (by first | (rw [List.take_zero, List.append_nil]; done) | (rw [Pl.take_succ_at _ _ (by omega), ← List.append_assoc]; exact (List.map_set ..).symm.trans (congrArg (List.map _) (Pl.metL_snoc hho.1))) | trace_state)⟩, trivial⟩, by omega⟩
   ·try simp only [hbx] at hb
    refine yX ((if_pos rfl).mpr ?_)
    refine h5 _ ?_; clear h7 k7; clear h5 k5
    refine yZ [47] (by rw [hC]; rfl) fun k hk => ?_
    simp (maxSteps := 9^9) (disch := (try simp only [lens]); omega) only [zJ, sm, ↓amb, zQ, simprocAttr, taskC, lV, dx]
    repeat refine ⟨by first | omega | (simp; done) | (unfold maxLen; omega) | (simp [maxLen]; omega) | assumption, ?_⟩
    refine hk _ ?_; clear hk k
    refine ⟨x + 1, ⟨by omega, by rw [Pl.flat_succ c.dq x (by omega)]; rw [List.take_of_length_le (l := (c.dq.getD x default)) (i := y) (by omega)] at hy2; exact hy2⟩, le_of [(0, _), (1, _)] (by rfl) (by rfl) ⟨⟨_, rfl, .ptr rfl⟩, ⟨_, rfl, .p (.of_eq (by first | rfl | (simp only [PV.lit.injEq, Value.int.injEq, true_and]; omega) | (simp; done) | (simp; omega)))⟩, ⟨_, rfl, .own rfl⟩, ⟨_, rfl, .p (.of_eq (by first | rfl | (simp only [PV.lit.injEq, Value.int.injEq, true_and]; omega) | (simp; done) | (simp; omega)))⟩, trivial⟩ ⟨⟨_, rfl, _, rfl, .one (.cons (.p (.refl _)) (.cons (.p (.refl _)) (.cons (.p (.refl _)) (.cons (.p (.refl _)) (.cons (.p (.refl _)) (.cons (.p (.refl _)) (.cons (.p (.refl _)) (.nil))))))))⟩, ⟨_, rfl, _, rfl, .liftE (by first | (rw [show (c.dq.take 0).flatten = [] from rfl, Pl.metL_nil, List.map_replicate]; done) | (rw [Pl.flat_succ c.dq x (by omega), List.take_of_length_le (l := (c.dq.getD x default)) (i := y) (by omega)]; done) | trace_state)⟩, trivial⟩, by omega⟩
  ·try simp only [hbx] at hb
   refine yX ((if_pos rfl).mpr ?_)
   refine h2 _ ?_; clear h4 k4; clear h2 k2
   refine zW (zV []) ?_
   simp only [kp, zJ, simprocAttr]
   refine zK [47] (by rw [hC]; rfl) fun k hk => ?_
   simp (maxSteps := 9^9) (disch := (try simp only [lens]); omega) only [zJ, sm, ↓amb, zQ, simprocAttr, taskC, lV, dx]
   repeat refine ⟨by first | omega | (simp; done) | (unfold maxLen; omega) | (simp [maxLen]; omega) | assumption, ?_⟩
   refine hk _ ?_; clear hk k
   refine yQ ?_
   rw [List.take_of_length_le (by omega)] at hx2
   refine ret1 rfl rfl ?_
   exact .p (LeP.of_eq (by rw [decide_eq_true (show Pl.crewRight c from ⟨hq.1, hq.2.1, hq.2.2.1, hq.2.2.2.1, hq.2.2.2.2, hx2.1, hx2.2⟩)]))
end Go.Proofs.Ytjkkjiaeeobnkaa
end
section
set_option linter.unusedSimpArgs false
set_option linter.unusedVariables false
set_option maxRecDepth 100000
namespace Go.Proofs.Ytjkkjiaeeobnkaa
open Go.Am Go.Proofs
@[reducible] def lE (l : List Int) : List PV := [.seq l.isEmpty (l.map fun n => [iV n])]
theorem lE_next (d : List (List Int)) (x : Nat) (h : x < d.length) : (d.take x).map lE ++ [[PV.seq (List.map (fun n => [iV n]) (d.getD x default)).isEmpty ((d.getD x default).map fun n => [iV n])]] = (d.take (x + 1)).map lE := by
  rw [take_snoc d x h, List.map_append, List.isEmpty_map]; rfl
theorem pl110_2 : tPlace Try.prog 110 2 = some (4, 1) := by kernel_rfl
theorem pl110_3 : tPlace Try.prog 110 3 = some (5, 1) := by kernel_rfl
theorem pl110_4 : tPlace Try.prog 110 4 = some (6, 1) := by kernel_rfl
set_option maxHeartbeats 4000000 in
theorem c_Copy_h (c : Pl.Crew) (h1 : c.work.ts.length ≤ 1000000) (h2 : c.work.done.length ≤ 1000000) (h3 : c.dq.length ≤ 1000000) (hl : ∀ l, l ∈ c.dq → l.length ≤ 1000000) : HCall Try.prog 116 [.p (.agg (crewC c))] [] (.agg [.p (.seq false (c.work.ts.map taskC)), .p (iV c.work.grain), .p (.seq false (c.work.done.map fun b => [bV b])), .own 0, .p (bV c.over), .p (iV c.steps), .p (iV c.idle)]) [(0, .row 1 (lift (c.dq.map lE)))] := by
 refine xJ Try.func116 rfl (by simp [Try.ntmps116]) fun C hC => ?_
 refine zW (zV [0]) ?_
 simp only [kp, zJ, simprocAttr]
 refine zK [32] (by rw [hC]; rfl) fun k hk => ?_
 simp (maxSteps := 9^9) (disch := (try simp only [lens]); omega) only [zJ, sm, ↓amb, zQ, simprocAttr, vr110, dx]
 repeat refine ⟨by first | omega | (simp; done) | (unfold maxLen; omega) | (simp [maxLen]; omega) | assumption, ?_⟩
 refine hk _ ?_; clear hk k
 refine zW (zV [1, 2]) ?_
 simp only [kp, zJ, simprocAttr]
 refine awp_sd [32] ⟨[0, 1, 3, 0, 8, 0, 32, 0, 128, 511, 0, 2047], [1, 4, 6, 8], [11], [(2, 11), (10, 11)], none⟩ (by rw [hC]; rfl) (by kernel_rfl) (by kernel_rfl) fun k hk => ?_
 simp (maxSteps := 9^9) (disch := (try simp only [lens]); omega) only [zJ, sm, ↓amb, zQ, simprocAttr, fl110_0, sz107, en131, fl110_2, sz4, fl110_3, sz3, fl110_4, vr110, bt110, pl110_0, pl110_2, pl110_3, pl110_4, sz110, dx]
 repeat refine ⟨by first | omega | (simp; done) | (unfold maxLen; omega) | (simp [maxLen]; omega) | assumption, ?_⟩
 refine yW (c27p _ _ _ h1 h2) rfl ?_
 simp (maxSteps := 9^9) (disch := (try simp only [lens]); omega) only [zJ, sm, ↓amb, zQ, simprocAttr, fl110_0, sz107, en131, fl110_2, sz4, fl110_3, sz3, fl110_4, vr110, bt110, pl110_0, pl110_2, pl110_3, pl110_4, sz110, dx]
 repeat refine ⟨by first | omega | (simp; done) | (unfold maxLen; omega) | (simp [maxLen]; omega) | assumption, ?_⟩
 refine hk _ ?_; clear hk k
 refine zY fun k1 h1 => ?_
 refine zW (zV [1, 2, 3]) ?_
 simp only [kp, zJ, simprocAttr]
 refine awp_ownCs 3 1 3 rfl rfl rfl ?_
 simp only [am, List.set_cons_succ, List.set_cons_zero, Nat.reduceEqDiff, ↓reduceIte, reduceCtorEq, Nat.reduceAdd, Nat.reduceMul]
 refine zK [32] (by rw [hC]; rfl) fun k hk => ?_
 simp (maxSteps := 9^9) (disch := (try simp only [lens]); omega) only [zJ, sm, ↓amb, zQ, simprocAttr, dx]
 repeat refine ⟨by first | omega | (simp; done) | (unfold maxLen; omega) | (simp [maxLen]; omega) | assumption, ?_⟩
 refine hk _ ?_; clear hk k
 refine yK ?_
 refine yY (σ := Nat) (fun i => i ≤ c.dq.length) (fun (i : Nat) => ⟨[(1, (.ptr 0 7 0 0)), (2, (.ptr 1 7 0 0)), (3, (.ptr 2 7 0 0)), (4, (.p (iV (i : Int))))], [(0, (.row 7 [[.p (.seq false (c.work.ts.map taskC)), .p (iV c.work.grain), .p (.seq false (c.work.done.map fun b => [bV b])), .p (.seq false (c.dq.map lV)), .p (bV c.over), .p (iV c.steps), .p (iV c.idle)]])), (1, (.row 7 [[.p (.seq true []), .p (iV 0), .p (.seq true []), .p (.seq true []), .p (bV false), .p (iV 0), .p (iV 0)]])), (2, (.row 7 [[.p (.seq false (c.work.ts.map taskC)), .p (iV c.work.grain), .p (.seq false (c.work.done.map fun b => [bV b])), .own 3, .p (bV c.over), .p (iV c.steps), .p (iV c.idle)]])), (3, (.row 1 (lift ((c.dq.take i).map lE))))], 1⟩) (fun i => c.dq.length - i) 0 ?_ ?_ fun i hi => ?_
 ·exact Nat.zero_le _
 ·exact le_of [(0, _), (1, _), (2, _), (3, _)] (by rfl) (by rfl) ⟨⟨_, rfl, .ptr rfl⟩, ⟨_, rfl, .ptr rfl⟩, ⟨_, rfl, .ptr rfl⟩, ⟨_, rfl, .p (.of_eq (by first | rfl | (simp only [PV.lit.injEq, Value.int.injEq, true_and]; omega) | (simp; done) | (simp; omega)))⟩, trivial⟩ ⟨⟨_, rfl, _, rfl, .one (.cons (.p (.refl _)) (.cons (.p (.refl _)) (.cons (.p (.refl _)) (.cons (.p (.refl _)) (.cons (.p (.refl _)) (.cons (.p (.refl _)) (.cons (.p (.refl _)) (.nil))))))))⟩, ⟨_, rfl, _, rfl, .one (.cons (.p (.refl _)) (.cons (.p (.refl _)) (.cons (.p (.refl _)) (.cons (.p (.refl _)) (.cons (.p (.refl _)) (.cons (.p (.refl _)) (.cons (.p (.refl _)) (.nil))))))))⟩, ⟨_, rfl, _, rfl, .one (.cons (.p (.refl _)) (.cons (.p (.refl _)) (.cons (.p (.refl _)) (.cons (.own rfl) (.cons (.p (.refl _)) (.cons (.p (.refl _)) (.cons (.p (.refl _)) (.nil))))))))⟩, ⟨_, rfl, _, rfl, .liftE (by first | rfl | exact lE_next _ _ (by omega) | trace_state)⟩, trivial⟩
 refine zY fun k3 h3 => ?_
 refine zW (zV [0, 1, 2, 3, 4]) ?_
 simp only [kp, zJ, simprocAttr]
 refine zK [32] (by rw [hC]; rfl) fun k hk => ?_
 simp (maxSteps := 9^9) (disch := (try simp only [lens]); omega) only [zJ, sm, ↓amb, zQ, simprocAttr, fl110_1, sz108, el108, dx]
 repeat refine ⟨by first | omega | (simp; done) | (unfold maxLen; omega) | (simp [maxLen]; omega) | assumption, ?_⟩
 refine hk _ ?_; clear hk k
 refine zX rfl (fun hb => ?_) (fun hb => ?_)
 ·try simp only [hbx] at hb
  refine yJ ?_
  refine h3 _ ?_; clear h3 k3
  refine zY fun k4 h4 => ?_
  refine yK ?_
  have hll := hl (c.dq.getD i default) (Pl.getD_mem _ _ _ (by omega))
  refine awp_draw [32] ⟨[0, 1, 0, 0, 8, 0, 56, 120, 252, 508, 1023, 2047, 4095], [1], [10, 12], [(10, 12)], some [2, 3]⟩ (by rw [hC]; rfl) (by kernel_rfl) (by kernel_rfl) fun k hk => ?_
  simp (maxSteps := 9^9) (disch := (try simp only [lens]); omega) only [zJ, sm, ↓amb, zQ, simprocAttr, fl110_1, sz108, el67, vr3, el108, sz67, by3, vr67, by67, dx]
  repeat refine ⟨by first | omega | (simp; done) | (unfold maxLen; omega) | (simp [maxLen]; omega) | assumption, ?_⟩
  refine hk _ ?_; clear hk k
  refine h4 _ ?_; clear h4 k4
  refine yZ [32] (by rw [hC]; rfl) fun k hk => ?_
  simp (maxSteps := 9^9) (disch := (try simp only [lens]); omega) only [zJ, sm, ↓amb, zQ, simprocAttr, dx]
  repeat refine ⟨by first | omega | (simp; done) | (unfold maxLen; omega) | (simp [maxLen]; omega) | assumption, ?_⟩
  refine hk _ ?_; clear hk k
  refine ⟨i + 1, by omega, le_of [(0, _), (1, _), (2, _), (3, _)] (by rfl) (by rfl) ⟨⟨_, rfl, .ptr rfl⟩, ⟨_, rfl, .ptr rfl⟩, ⟨_, rfl, .ptr rfl⟩, ⟨_, rfl, .p (.of_eq (by first | rfl | (simp only [PV.lit.injEq, Value.int.injEq, true_and]; omega) | (simp; done) | (simp; omega)))⟩, trivial⟩ ⟨⟨_, rfl, _, rfl, .one (.cons (.p (.refl _)) (.cons (.p (.refl _)) (.cons (.p (.refl _)) (.cons (.p (.refl _)) (.cons (.p (.refl _)) (.cons (.p (.refl _)) (.cons (.p (.refl _)) (.nil))))))))⟩, ⟨_, rfl, _, rfl, .one (.cons (.p (.refl _)) (.cons (.p (.refl _)) (.cons (.p (.refl _)) (.cons (.p (.refl _)) (.cons (.p (.refl _)) (.cons (.p (.refl _)) (.cons (.p (.refl _)) (.nil))))))))⟩, ⟨_, rfl, _, rfl, .one (.cons (.p (.refl _)) (.cons (.p (.refl _)) (.cons (.p (.refl _)) (.cons (.own rfl) (.cons (.p (.refl _)) (.cons (.p (.refl _)) (.cons (.p (.refl _)) (.nil))))))))⟩, ⟨_, rfl, _, rfl, .liftE (by first | rfl | exact lE_next _ _ (by omega) | trace_state)⟩, trivial⟩, by omega⟩
 ·try simp only [hbx] at hb
  refine yX ((if_pos rfl).mpr ?_)
  refine h1 _ ?_; clear h3 k3; clear h1 k1
  refine zW (zV [2, 3]) ?_
  simp only [kp, zJ, simprocAttr]
  have htk : c.dq.take i = c.dq := List.take_of_length_le (by omega)
  rw [htk]
  refine zK [32] (by rw [hC]; rfl) fun k hk => ?_
  simp (maxSteps := 9^9) (disch := (try simp only [lens]); omega) only [zJ, sm, ↓amb, zQ, simprocAttr, sz110, dx]
  repeat refine ⟨by first | omega | (simp; done) | (unfold maxLen; omega) | (simp [maxLen]; omega) | assumption, ?_⟩
  refine hk _ ?_; clear hk k
  refine yQ ?_
  refine rethc rfl rfl sz110 ?_
  simp (maxSteps := 9^9) (disch := (try simp only [lens]); omega) only [zJ, sm, ↓amb, zQ, simprocAttr, sz110, dx]
  exact le_of [(0, _)] (by rfl) (by rfl) ⟨⟨_, rfl, .agg rfl (LeRow.cons (.p (.refl _)) (LeRow.cons (.p (.refl _)) (LeRow.cons (.p (.refl _)) (LeRow.cons (.own rfl) (LeRow.cons (.p (.refl _)) (LeRow.cons (.p (.refl _)) (LeRow.cons (.p (.refl _)) .nil))))))).2⟩, trivial⟩ ⟨⟨_, rfl, _, rfl, .liftE rfl⟩, trivial⟩
set_option maxHeartbeats 4000000 in
theorem c_Pop_h (c : Bool) (l : List Int) (hl : l.length ≤ 1000000) (h0 : 0 < l.length) : HCall Try.prog 117 [.p (ints c l)] [] (.tup [.own 0, .p (iV (l.getD (l.length - 1) 0)), .p (iV 0)]) [(0, .row 1 (lift ((l.take (l.length - 1)).map fun n => [iV n])))] := by
 refine xJ Try.func117 rfl (by simp [Try.ntmps117]) fun C hC => ?_
 refine zW (zV [0]) ?_
 simp only [kp, zJ, simprocAttr]
 refine zK [17] (by rw [hC]; rfl) fun k hk => ?_
 simp (maxSteps := 9^9) (disch := (try simp only [lens]); omega) only [zJ, sm, ↓amb, zQ, simprocAttr, dx]
 repeat refine ⟨by first | omega | (simp; done) | (unfold maxLen; omega) | (simp [maxLen]; omega) | assumption, ?_⟩
 refine hk _ ?_; clear hk k
 refine zY fun k1 h1 => ?_
 refine zW (zV [0, 2, 3, 4]) ?_
 simp only [kp, zJ, simprocAttr]
 refine zK [17] (by rw [hC]; rfl) fun k hk => ?_
 simp (maxSteps := 9^9) (disch := (try simp only [lens]); omega) only [zJ, sm, ↓amb, zQ, simprocAttr, el67, dx]
 repeat refine ⟨by first | omega | (simp; done) | (unfold maxLen; omega) | (simp [maxLen]; omega) | assumption, ?_⟩
 refine hk _ ?_; clear hk k
 refine zX rfl (fun hb => ?_) (fun hb => ?_)
 ·exact absurd (beq_iff_eq.mp hb) (by omega)
 ·try simp only [hbx] at hb
  refine yJ ?_
  refine h1 _ ?_; clear h1 k1
  refine zW (zV [0]) ?_
  simp only [kp, zJ, simprocAttr]
  refine zK [17] (by rw [hC]; rfl) fun k hk => ?_
  simp (maxSteps := 9^9) (disch := (try simp only [lens]); omega) only [zJ, sm, ↓amb, zQ, simprocAttr, el67, dx]
  repeat refine ⟨by first | omega | (simp; done) | (unfold maxLen; omega) | (simp [maxLen]; omega) | assumption, ?_⟩
  refine hk _ ?_; clear hk k
  refine zW (zV [0, 5]) ?_
  simp only [kp, zJ, simprocAttr]
  refine awp_sd [17] ⟨[0, 0, 0, 6, 15, 0, 0, 96, 224, 31, 1023, 2047], [4, 8], [], [], some []⟩ (by rw [hC]; rfl) (by kernel_rfl) (by kernel_rfl) fun k hk => ?_
  simp (maxSteps := 9^9) (disch := (try simp only [lens]); omega) only [zJ, sm, ↓amb, zQ, simprocAttr, el67, vr3, sz3, by3, dx]
  repeat refine ⟨by first | omega | (simp; done) | (unfold maxLen; omega) | (simp [maxLen]; omega) | assumption, ?_⟩
  refine hk _ ?_; clear hk k
  refine yQ ?_
  refine reth3 rfl rfl rfl rfl ?_
  exact le_of [(0, _)] (by rfl) (by rfl) ⟨⟨_, rfl, leTup (LeRow.cons (.own rfl) (LeRow.cons (.p (.of_eq (by first | rfl | trace_state))) (LeRow.cons (.p (.refl _)) .nil)))⟩, trivial⟩ ⟨⟨_, rfl, _, rfl, .liftE (by first | rfl | trace_state)⟩, trivial⟩
end Go.Proofs.Ytjkkjiaeeobnkaa
end
