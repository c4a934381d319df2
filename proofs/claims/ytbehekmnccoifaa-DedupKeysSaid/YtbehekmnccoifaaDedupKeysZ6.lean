/-
  DedupKeys, part 6 of 6: what the proof that the law holds at whatever arguments stands on; the last part holds the theorem. No condition.
-/
import Derived.Test.YtbehekmnccoifaaDedupKeysZ5
import Derived.Test.YtbehekmnccoifaaRows
section
set_option linter.unusedSimpArgs false
set_option linter.unusedVariables false
set_option maxRecDepth 100000
namespace Go.Proofs.Ytbehekmnccoifaa
open Go.Am Go.Proofs
theorem by59 : tBytes Try.prog 59 = some 16 := by kernel_rfl
theorem en25 : enters Try.prog 25 = true := by kernel_rfl
theorem en30 : enters Try.prog 30 = true := by kernel_rfl
theorem en32 : enters Try.prog 32 = true := by kernel_rfl
set_option maxHeartbeats 4000000 in
theorem c_dedup_Edges (c d : Bool) (l : List Pl.Edge) (w : Pl.Way) (hn : l.length ≤ 1000000) : PCall Try.prog 28 [.seq c (l.map edgeC), .agg (wayC d w)] (.tup [if (∀ e, e ∈ l → Pl.fitE e) then (.seq false (((Pl.grK (Pl.ksE l) w).map Pl.unkey).map edgeC)) else .seq false [], iV (if (∀ e, e ∈ l → Pl.fitE e) then Pl.grT (Pl.ksE l).length w else 0), iV (if (∀ e, e ∈ l → Pl.fitE e) then Pl.grE (Pl.ksE l).length w else 10)]) := by
 refine pcall_of_awp Try.func28 rfl (by simp [Try.ntmps28]) fun C hC => ?_
 refine awp_le (le_keep [0, 1]) ?_
 simp only [kp, argSl, simprocAttr]
 refine awp_sr [39, 58] (by rw [hC]; rfl) fun k hk => ?_
 simp (maxSteps := 9^9) (disch := (try simp only [lens]); omega) only [argSl, sm, ↓amb, mark_eq, simprocAttr, dx]
 repeat refine an ?_
 refine hk _ ?_; clear hk k
 refine awp_le (le_keep [0, 3]) ?_
 simp only [kp, argSl, simprocAttr]
 refine awp_sr [39, 58] (by rw [hC]; rfl) fun k hk => ?_
 simp (maxSteps := 9^9) (disch := (try simp only [lens]); omega) only [argSl, sm, ↓amb, mark_eq, simprocAttr, dx]
 repeat refine an ?_
 refine hk _ ?_; clear hk k
 refine awp_seq fun k1 h1 => ?_
 refine awp_le (le_keep [0, 3, 4, 5, 6, 7]) ?_
 simp only [kp, argSl, simprocAttr]
 refine awp_own' 7 1 rfl ?_
 refine awp_sr [39, 58] (by rw [hC]; rfl) fun k hk => ?_
 simp (maxSteps := 9^9) (disch := (try simp only [lens]); omega) only [argSl, sm, ↓amb, mark_eq, simprocAttr, el53, dx]
 repeat refine an ?_
 refine hk _ ?_; clear hk k
 refine awp_block ?_
 refine awp_loop (σ := Nat) (fun i => i ≤ l.length ∧ ∀ j, j < i → Pl.fitE (l.getD j default)) (fun (i : Nat) => ⟨[(3, (.ptr 0 5 0 0)), (7, (.own 1)), (18, (.p (.seq c (l.map edgeC)))), (19, (.p (iV l.length))), (20, (.p (iV (i : Int))))], [(0, (.row 5 [[.p (iV w.bits), .p (iV w.block), .p (iV w.plan.grain), .p (iV w.plan.workers), .p (picksV d w.plan.picks)]])), (1, (.row 1 (lift ((Pl.ksE (l.take i)).map fun x => [u32V x]))))], 1⟩) (fun i => l.length - i) 0 ?_ ?_ fun i hi => ?_
 ·exact ⟨Nat.zero_le _, fun j hj => by omega⟩
 ·exact le_of [(0, _), (1, _)] (by rfl) (by rfl) ⟨⟨_, rfl, .ptr rfl⟩, ⟨_, rfl, .own rfl⟩, ⟨_, rfl, .oe⟩, ⟨_, rfl, .oe⟩, ⟨_, rfl, .oe⟩, trivial⟩ ⟨⟨_, rfl, _, rfl, .one (.cons (.p (.refl _)) (.cons (.p (.refl _)) (.cons (.p (.refl _)) (.cons (.p (.refl _)) (.cons (.p (.refl _)) (.nil))))))⟩, ⟨_, rfl, _, rfl, .liftE (by first | rfl | (rw [Pl.ksE_yes (by omega) (by assumption), List.map_append]; rfl) | (rw [Pl.ksE_no (by omega) (by first | assumption | omega)]) | trace_state)⟩, trivial⟩
 obtain ⟨hi1, hi2⟩ := hi
 refine awp_le (le_keep [0, 1, 3, 4, 5, 6, 7, 18, 19, 20]) ?_
 simp only [kp, argSl, simprocAttr]
 refine awp_sr [39, 58] (by rw [hC]; rfl) fun k hk => ?_
 simp (maxSteps := 9^9) (disch := (try simp only [lens]); omega) only [argSl, sm, ↓amb, mark_eq, simprocAttr, dx]
 repeat refine an ?_
 refine hk _ ?_; clear hk k
 refine awp_seq fun k3 h3 => ?_
 refine awp_cond rfl (fun hb => ?_) (fun hb => ?_)
 ·try simp only [hbx] at hb
  refine awp_skip ?_
  refine h3 _ ?_; clear h3 k3
  refine awp_seq fun k4 h4 => ?_
  refine awp_block ?_
  refine awp_le (le_keep [0, 1, 3, 4, 5, 6, 7, 18, 19, 20]) ?_
  simp only [kp, argSl, simprocAttr]
  have hkl1 := Pl.ksE_len (l.take i)
  rw [List.length_take] at hkl1
  refine awp_sr [39, 58] (by rw [hC]; rfl) fun k hk => ?_
  simp (maxSteps := 9^9) (disch := (try simp only [lens]); omega) only [argSl, sm, ↓amb, mark_eq, simprocAttr, el53, sz59, vr59, dx]
  repeat refine an ?_
  refine hk _ ?_; clear hk k
  refine awp_le (le_keep [0, 1, 3, 4, 5, 6, 7, 9, 18, 19, 20]) ?_
  simp only [kp, argSl, simprocAttr]
  refine awp_sr [39, 58] (by rw [hC]; rfl) fun k hk => ?_
  simp (maxSteps := 9^9) (disch := (try simp only [lens]); omega) only [argSl, sm, ↓amb, mark_eq, simprocAttr, sz59, en30, dx]
  repeat refine an ?_
  refine callK_p (c_dedup_Key _) rfl ?_
  simp (maxSteps := 9^9) (disch := (try simp only [lens]); omega) only [argSl, sm, ↓amb, mark_eq, simprocAttr, sz59, en30, dx]
  repeat refine an ?_
  refine hk _ ?_; clear hk k
  refine awp_seq fun k5 h5 => ?_
  refine awp_le (le_keep [0, 1, 3, 4, 5, 6, 7, 9, 10, 11, 18, 19, 20]) ?_
  simp only [kp, argSl, simprocAttr]
  refine awp_sr [39, 58] (by rw [hC]; rfl) fun k hk => ?_
  simp (maxSteps := 9^9) (disch := (try simp only [lens]); omega) only [argSl, sm, ↓amb, mark_eq, simprocAttr, dx]
  repeat refine an ?_
  refine hk _ ?_; clear hk k
  refine awp_cond rfl (fun hb => ?_) (fun hb => ?_)
  ·try simp only [hbx] at hb
   refine awp_le (le_keep []) ?_
   simp only [kp, argSl, simprocAttr]
   refine awp_sr [39, 58] (by rw [hC]; rfl) fun k hk => ?_
   simp (maxSteps := 9^9) (disch := (try simp only [lens]); omega) only [argSl, sm, ↓amb, mark_eq, simprocAttr, dx]
   repeat refine an ?_
   refine hk _ ?_; clear hk k
   refine awp_ret ?_
   have ho : ¬ (∀ e, e ∈ l → Pl.fitE e) := fun z => hb (by have := z _ (Pl.getD_mem l i default (by omega)); unfold Pl.fitE at this; omega)
   rw [if_neg ho, if_neg ho, if_neg ho]
   refine ret3 rfl rfl rfl rfl ?_ ?_ ?_
   ·exact .p (LeP.seq _ _)
   ·exact .p (LeP.refl _)
   ·exact .p (LeP.refl _)
  ·try simp only [hbx] at hb
   refine awp_skip ?_
   refine h5 _ ?_; clear h5 k5
   refine awp_le (le_keep [0, 1, 3, 4, 5, 6, 7, 9, 10, 18, 19, 20]) ?_
   simp only [kp, argSl, simprocAttr]
   refine awp_sr [39, 58] (by rw [hC]; rfl) fun k hk => ?_
   simp (maxSteps := 9^9) (disch := (try simp only [lens]); omega) only [argSl, sm, ↓amb, mark_eq, simprocAttr, fl59_0, sz3, fl59_1, dx]
   repeat refine an ?_
   refine hk _ ?_; clear hk k
   refine awp_cond rfl (fun hb => ?_) (fun hb => ?_)
   ·try simp only [hbx] at hb
    refine awp_region [39, 58] (by rw [hC]; rfl) fun k hk => ?_
    simp (maxSteps := 9^9) (disch := (try simp only [lens]); omega) only [argSl, sm, ↓amb, mark_eq, simprocAttr, el22, vr41, by41, dx]
    repeat refine an ?_
    refine hk _ ?_; clear hk k
    refine h4 _ ?_; clear h4 k4
    refine awp_region [39, 58] (by rw [hC]; rfl) fun k hk => ?_
    simp (maxSteps := 9^9) (disch := (try simp only [lens]); omega) only [argSl, sm, ↓amb, mark_eq, simprocAttr, dx]
    repeat refine an ?_
    refine hk _ ?_; clear hk k
    refine ⟨i + 1, ⟨by omega, fun j hj => by by_cases e : j = i; (subst e; unfold Pl.fitE; omega); exact hi2 j (by omega)⟩, le_of [(0, _), (1, _)] (by rfl) (by rfl) ⟨⟨_, rfl, .ptr rfl⟩, ⟨_, rfl, .own rfl⟩, ⟨_, rfl, .oe⟩, ⟨_, rfl, .oe⟩, ⟨_, rfl, .oe⟩, trivial⟩ ⟨⟨_, rfl, _, rfl, .one (.cons (.p (.refl _)) (.cons (.p (.refl _)) (.cons (.p (.refl _)) (.cons (.p (.refl _)) (.cons (.p (.refl _)) (.nil))))))⟩, ⟨_, rfl, _, rfl, .liftE (by first | rfl | (rw [Pl.ksE_yes (by omega) (by assumption), List.map_append]; rfl) | (rw [Pl.ksE_no (by omega) (by first | assumption | omega)]) | trace_state)⟩, trivial⟩, by omega⟩
   ·try simp only [hbx] at hb
    refine awp_skip ?_
    refine h4 _ ?_; clear h4 k4
    refine awp_region [39, 58] (by rw [hC]; rfl) fun k hk => ?_
    simp (maxSteps := 9^9) (disch := (try simp only [lens]); omega) only [argSl, sm, ↓amb, mark_eq, simprocAttr, dx]
    repeat refine an ?_
    refine hk _ ?_; clear hk k
    refine ⟨i + 1, ⟨by omega, fun j hj => by by_cases e : j = i; (subst e; unfold Pl.fitE; omega); exact hi2 j (by omega)⟩, le_of [(0, _), (1, _)] (by rfl) (by rfl) ⟨⟨_, rfl, .ptr rfl⟩, ⟨_, rfl, .own rfl⟩, ⟨_, rfl, .oe⟩, ⟨_, rfl, .oe⟩, ⟨_, rfl, .oe⟩, trivial⟩ ⟨⟨_, rfl, _, rfl, .one (.cons (.p (.refl _)) (.cons (.p (.refl _)) (.cons (.p (.refl _)) (.cons (.p (.refl _)) (.cons (.p (.refl _)) (.nil))))))⟩, ⟨_, rfl, _, rfl, .liftE (by first | rfl | (rw [Pl.ksE_yes (by omega) (by assumption), List.map_append]; rfl) | (rw [Pl.ksE_no (by omega) (by first | assumption | omega)]) | trace_state)⟩, trivial⟩, by omega⟩
 ·try simp only [hbx] at hb
  refine awp_exit ((if_pos rfl).mpr ?_)
  refine h1 _ ?_; clear h3 k3; clear h1 k1
  refine awp_le (le_keep [3, 7]) ?_
  simp only [kp, argSl, simprocAttr]
  obtain rfl : i = l.length := by omega
  rw [List.take_of_length_le (Nat.le_refl _)]
  have hkl : (Pl.ksE l).length ≤ 1000000 := by have := Pl.ksE_len l; omega
  refine awp_le (show LE _ (⟨[(3, (.ptr 0 5 0 0)), (7, (.p (words false (Pl.ksE l))))], [(0, (.row 5 [[.p (iV w.bits), .p (iV w.block), .p (iV w.plan.grain), .p (iV w.plan.workers), .p (picksV d w.plan.picks)]]))], 2⟩ : LS) from le_of [(0, _)] (by rfl) (by rfl) ⟨⟨_, rfl, .ptr rfl⟩, ⟨_, rfl, .frz (es := (Pl.ksE l).map fun x => [u32V x]) rfl (by rfl)⟩, trivial⟩ ⟨⟨_, rfl, _, rfl, .one (.cons (.p (.refl _)) (.cons (.p (.refl _)) (.cons (.p (.refl _)) (.cons (.p (.refl _)) (.cons (.p (.refl _)) (.nil))))))⟩, trivial⟩) ?_
  refine awp_sr [39, 58] (by rw [hC]; rfl) fun k hk => ?_
  simp (maxSteps := 9^9) (disch := (try simp only [lens]); omega) only [argSl, sm, ↓amb, mark_eq, simprocAttr, sz47, en25, dx]
  repeat refine an ?_
  refine callK_p (c_dedup_Once false d (Pl.ksE l) w (Pl.ksE_w l) hkl) rfl ?_
  simp (maxSteps := 9^9) (disch := (try simp only [lens]); omega) only [argSl, sm, ↓amb, mark_eq, simprocAttr, sz47, en25, dx]
  repeat refine an ?_
  refine hk _ ?_; clear hk k
  refine awp_le (le_keep [12, 13, 14]) ?_
  simp only [kp, argSl, simprocAttr]
  refine awp_sr [39, 58] (by rw [hC]; rfl) fun k hk => ?_
  simp (maxSteps := 9^9) (disch := (try simp only [lens]); omega) only [argSl, sm, ↓amb, mark_eq, simprocAttr, dx]
  repeat refine an ?_
  refine hk _ ?_; clear hk k
  refine awp_seq fun k6 h6 => ?_
  refine awp_le (le_keep [4, 5, 6, 12, 13, 14, 15]) ?_
  simp only [kp, argSl, simprocAttr]
  refine awp_own' 15 2 rfl ?_
  have hgl := Pl.grK_len (Pl.ksE_w l) w
  refine awp_sr [39, 58] (by rw [hC]; rfl) fun k hk => ?_
  simp (maxSteps := 9^9) (disch := (try simp only [lens]); omega) only [argSl, sm, ↓amb, mark_eq, simprocAttr, el22, dx]
  repeat refine an ?_
  refine hk _ ?_; clear hk k
  refine awp_block ?_
  refine awp_loop (σ := Nat) (fun i => i ≤ (Pl.grK (Pl.ksE l) w).length) (fun (i : Nat) => ⟨[(13, (.p (iV (Pl.grT (Pl.ksE l).length w)))), (14, (.p (iV (Pl.grE (Pl.ksE l).length w)))), (15, (.own 0)), (48, (.p (words false (Pl.grK (Pl.ksE l) w)))), (49, (.p (iV (Pl.grK (Pl.ksE l) w).length))), (50, (.p (iV (i : Int))))], [(0, (.row 2 (lift ((((Pl.grK (Pl.ksE l) w).take i).map Pl.unkey).map edgeC))))], 1⟩) (fun i => (Pl.grK (Pl.ksE l) w).length - i) 0 ?_ ?_ fun i hi => ?_
  ·exact Nat.zero_le _
  ·exact le_of [(0, _)] (by rfl) (by rfl) ⟨⟨_, rfl, .oe⟩, ⟨_, rfl, .oe⟩, ⟨_, rfl, .own rfl⟩, ⟨_, rfl, .oe⟩, ⟨_, rfl, .oe⟩, ⟨_, rfl, .oe⟩, trivial⟩ ⟨⟨_, rfl, _, rfl, .liftE (by first | rfl | (rw [Pl.take_snoc' (Pl.grK (Pl.ksE l) w) i (by omega), List.map_append, List.map_append]; rfl) | trace_state)⟩, trivial⟩
  refine awp_le (le_keep [0, 4, 5, 6, 13, 14, 15, 48, 49, 50]) ?_
  simp only [kp, argSl, simprocAttr]
  refine awp_sr [39, 58] (by rw [hC]; rfl) fun k hk => ?_
  simp (maxSteps := 9^9) (disch := (try simp only [lens]); omega) only [argSl, sm, ↓amb, mark_eq, simprocAttr, dx]
  repeat refine an ?_
  refine hk _ ?_; clear hk k
  refine awp_seq fun k8 h8 => ?_
  refine awp_cond rfl (fun hb => ?_) (fun hb => ?_)
  ·try simp only [hbx] at hb
   refine awp_skip ?_
   refine h8 _ ?_; clear h8 k8
   refine awp_seq fun k9 h9 => ?_
   refine awp_block ?_
   refine awp_le (le_keep [0, 4, 5, 6, 13, 14, 15, 48, 49, 50]) ?_
   simp only [kp, argSl, simprocAttr]
   refine awp_sr [39, 58] (by rw [hC]; rfl) fun k hk => ?_
   simp (maxSteps := 9^9) (disch := (try simp only [lens]); omega) only [argSl, sm, ↓amb, mark_eq, simprocAttr, el22, sz41, dx]
   repeat refine an ?_
   refine hk _ ?_; clear hk k
   have hw1 := Pl.grK_w (Pl.ksE_w l) w _ (Pl.getD_mem (Pl.grK (Pl.ksE l) w) i 0 (by omega))
   refine awp_region [39, 58] (by rw [hC]; rfl) fun k hk => ?_
   simp (maxSteps := 9^9) (disch := (try simp only [lens]); omega) only [argSl, sm, ↓amb, mark_eq, simprocAttr, en32, el53, vr59, by59, dx]
   repeat refine an ?_
   refine callK_p (c_dedup_Edge _ hw1) rfl ?_
   simp (maxSteps := 9^9) (disch := (try simp only [lens]); omega) only [argSl, sm, ↓amb, mark_eq, simprocAttr, en32, el53, vr59, by59, dx]
   repeat refine an ?_
   refine hk _ ?_; clear hk k
   refine h9 _ ?_; clear h9 k9
   refine awp_region [39, 58] (by rw [hC]; rfl) fun k hk => ?_
   simp (maxSteps := 9^9) (disch := (try simp only [lens]); omega) only [argSl, sm, ↓amb, mark_eq, simprocAttr, dx]
   repeat refine an ?_
   refine hk _ ?_; clear hk k
   refine ⟨i + 1, by omega, le_of [(0, _)] (by rfl) (by rfl) ⟨⟨_, rfl, .oe⟩, ⟨_, rfl, .oe⟩, ⟨_, rfl, .own rfl⟩, ⟨_, rfl, .oe⟩, ⟨_, rfl, .oe⟩, ⟨_, rfl, .oe⟩, trivial⟩ ⟨⟨_, rfl, _, rfl, .liftE (by first | rfl | (rw [Pl.take_snoc' (Pl.grK (Pl.ksE l) w) i (by omega), List.map_append, List.map_append]; rfl) | trace_state)⟩, trivial⟩, by omega⟩
  ·try simp only [hbx] at hb
   refine awp_exit ((if_pos rfl).mpr ?_)
   refine h6 _ ?_; clear h8 k8; clear h6 k6
   refine awp_le (le_keep [13, 14, 15]) ?_
   simp only [kp, argSl, simprocAttr]
   obtain rfl : i = (Pl.grK (Pl.ksE l) w).length := by omega
   rw [List.take_of_length_le (Nat.le_refl _)]
   refine awp_sr [39, 58] (by rw [hC]; rfl) fun k hk => ?_
   simp (maxSteps := 9^9) (disch := (try simp only [lens]); omega) only [argSl, sm, ↓amb, mark_eq, simprocAttr, dx]
   repeat refine an ?_
   refine hk _ ?_; clear hk k
   refine awp_ret ?_
   have ho : (∀ e, e ∈ l → Pl.fitE e) := fun e he => by
    obtain ⟨j, hj, rfl⟩ := List.getElem_of_mem he
    have := hi2 j hj
    rwa [List.getD_eq_getElem?_getD, List.getElem?_eq_getElem hj] at this
   rw [if_pos ho, if_pos ho, if_pos ho]
   refine ret3 rfl rfl rfl rfl ?_ ?_ ?_
   ·exact .ownE rfl rfl
   ·exact .p (LeP.refl _)
   ·exact .p (LeP.refl _)
end Go.Proofs.Ytbehekmnccoifaa
end
section
set_option linter.unusedSimpArgs false
set_option linter.unusedVariables false
namespace Go.Pl
open Go.Am
def heldOk (w : Work) (l : List Int) (t : Int) : Prop := 0 ≤ t ∧ t < w.ts.length ∧ t ∉ l ∧ (w.ts.getD t.toNat default).wait = 0 ∧ (great w t ∨ ¬ w.done.getD (w.ts.getD t.toNat default).low.toNat default = true)
instance (w : Work) (l : List Int) (t : Int) : Decidable (heldOk w l t) := by unfold heldOk; infer_instance
end Go.Pl
namespace Go.Pl
open Go.Am
end Go.Pl
namespace Go.Pl
end Go.Pl
end
section
set_option linter.unusedSimpArgs false
set_option linter.unusedVariables false
set_option maxRecDepth 100000
namespace Go.Proofs.Ytbehekmnccoifaa
open Go.Am Go.Proofs
theorem en88 : enters Try.prog 88 = true := by kernel_rfl
theorem en96 : enters Try.prog 96 = true := by kernel_rfl
theorem en97 : enters Try.prog 97 = true := by kernel_rfl
theorem en98 : enters Try.prog 98 = true := by kernel_rfl
set_option maxHeartbeats 4000000 in
theorem c38 (c d : Bool) (w : Pl.Work) : PCall Try.prog 96 [workV c d w] (bV (decide (Pl.right w))) := by
 refine pcall_of_awp Try.func96 rfl (by simp [Try.ntmps96]) fun C hC => ?_
 refine awp_le (le_keep [0]) ?_
 simp only [kp, argSl, simprocAttr]
 refine awp_sr [] (by rw [hC]; rfl) fun k hk => ?_
 simp (maxSteps := 9^9) (disch := (try simp only [lens]); omega) only [argSl, sm, ↓amb, mark_eq, simprocAttr, dx]
 repeat refine an ?_
 refine hk _ ?_; clear hk k
 refine awp_le (le_keep [1]) ?_
 simp only [kp, argSl, simprocAttr]
 refine awp_sr [] (by rw [hC]; rfl) fun k hk => ?_
 simp (maxSteps := 9^9) (disch := (try simp only [lens]); omega) only [argSl, sm, ↓amb, mark_eq, simprocAttr, fl88_2, sz23, el23, dx]
 repeat refine an ?_
 refine hk _ ?_; clear hk k
 refine awp_seq fun k1 h1 => ?_
 refine awp_test [] 36 (decide (¬ (Pl.cnt w.done.length w.grain ∧ 1 ≤ w.ts.length ∧ w.ts.length ≤ 2000))) [1, 2, 3] (by rw [hC]; rfl) (fun gd hgd k hk => ?_) ?_
 ·have g3 : gd 3 = some 12 := by rw [hgd]; rfl
  have g8 : gd 8 = some 17 := by rw [hgd]; rfl
  have g12 : gd 12 = some 21 := by rw [hgd]; rfl
  have g16 : gd 16 = some 25 := by rw [hgd]; rfl
  have g22 : gd 22 = some 31 := by rw [hgd]; rfl
  clear hgd
  simp (maxSteps := 9^9) (disch := (try simp only [lens]); omega) only [argSl, sm, ↓amb, mark_eq, simprocAttr, fl88_1, sz3, fl88_0, sz86, el86, gcase_undef, g3, g8, g12, g16, g22, dx]
  repeat' first | refine hk _ _ rfl rfl rfl rfl ?_ | (refine gsplit (fun hg => ?_) (fun hg => ?_) <;> (try simp only [hbx] at hg) <;> simp (maxSteps := 9^9) (disch := (try simp only [lens]); omega) only [argSl, sm, ↓amb, mark_eq, simprocAttr, fl88_1, sz3, fl88_0, sz86, el86, gcase_undef, g3, g8, g12, g16, g22, dx]) | apply And.intro | fail
  all_goals first | rfl | omega | exact (decide_eq_true (by (try simp only [Pl.right, Pl.cnt, Pl.okT] at *); omega)).symm | exact (decide_eq_false (by (try simp only [Pl.right, Pl.cnt, Pl.okT] at *); omega)).symm | exact decide_eq_decide.mpr (by (try simp only [Pl.right, Pl.cnt, Pl.okT] at *); omega) | (refine Bool.eq_iff_iff.mpr ?_; (try simp only [Pl.right, Pl.cnt, Pl.okT] at *); simp only [beq_iff_eq, bne_iff_ne, ne_eq, decide_eq_true_eq]; omega) | (refine Bool.eq_iff_iff.mpr ?_; simp only [Bool.not_eq_true', Bool.not_eq_false', decide_eq_false_iff_not, decide_eq_true_eq, beq_iff_eq, bne_iff_ne, ne_eq]; (try simp only [Pl.right, Pl.cnt, Pl.okT] at *); omega) | assumption | (simp; done) | (simp [maxLen]; omega) | skip
 simp only [kp, argSl, simprocAttr, List.length_cons, List.length_nil]
 refine awp_cond rfl (fun hb => ?_) (fun hb => ?_)
 ·try simp only [hbx] at hb
  refine awp_le (le_keep []) ?_
  simp only [kp, argSl, simprocAttr]
  refine awp_sr [] (by rw [hC]; rfl) fun k hk => ?_
  simp (maxSteps := 9^9) (disch := (try simp only [lens]); omega) only [argSl, sm, ↓amb, mark_eq, simprocAttr, dx]
  repeat refine an ?_
  refine hk _ ?_; clear hk k
  refine awp_ret ?_
  refine ret1 rfl rfl ?_
  exact .p (LeP.of_eq (by rw [decide_eq_false (by intro h; simp only [Pl.right, Pl.cnt] at h hb; omega)]))
 ·try simp only [hbx] at hb
  refine awp_skip ?_
  refine h1 _ ?_; clear h1 k1
  refine awp_seq fun k2 h2 => ?_
  refine awp_le (le_keep [1, 2, 3]) ?_
  simp only [kp, argSl, simprocAttr]
  have hb0 := hb
  refine awp_sr [] (by rw [hC]; rfl) fun k hk => ?_
  simp (maxSteps := 9^9) (disch := (try simp only [lens]); omega) only [argSl, sm, ↓amb, mark_eq, simprocAttr, dx]
  repeat refine an ?_
  refine hk _ ?_; clear hk k
  refine awp_block ?_
  refine awp_loop (σ := Nat) (fun (i : Nat) => i ≤ w.ts.length ∧ ∀ j, j < i → Pl.okT w.done.length j (w.ts.getD j default)) (fun (i : Nat) => ⟨[(1, (.ptr 0 3 0 0)), (3, (.p (iV w.done.length))), (4, (.p (iV i)))], [(0, (.row 3 [[.p (.seq c (w.ts.map taskC)), .p (iV w.grain), .p (.seq d (w.done.map fun b => [bV b]))]]))], 1⟩) (fun i => w.ts.length - i) 0 ?_ ?_ fun x hx => ?_
  ·exact ⟨Nat.zero_le _, fun j hj => by omega⟩
  ·exact le_of [(0, _)] (by rfl) (by rfl) ⟨⟨_, rfl, .ptr rfl⟩, ⟨_, rfl, .oe⟩, ⟨_, rfl, .oe⟩, trivial⟩ ⟨⟨_, rfl, _, rfl, .one (.cons (.p (.refl _)) (.cons (.p (.refl _)) (.cons (.p (.refl _)) .nil)))⟩, trivial⟩
  obtain ⟨hx1, hx2⟩ := hx
  refine awp_seq fun k4 h4 => ?_
  refine awp_le (le_keep [0, 1, 2, 3, 4]) ?_
  simp only [kp, argSl, simprocAttr]
  refine awp_sr [] (by rw [hC]; rfl) fun k hk => ?_
  simp (maxSteps := 9^9) (disch := (try simp only [lens]); omega) only [argSl, sm, ↓amb, mark_eq, simprocAttr, fl88_0, sz86, el86, dx]
  repeat refine an ?_
  refine hk _ ?_; clear hk k
  refine awp_cond rfl (fun hb => ?_) (fun hb => ?_)
  ·try simp only [hbx] at hb
   refine awp_skip ?_
   refine h4 _ ?_; clear h4 k4
   refine awp_seq fun k5 h5 => ?_
   refine awp_block ?_
   refine awp_le (le_keep [0, 1, 2, 3, 4]) ?_
   simp only [kp, argSl, simprocAttr]
   refine awp_sr [] (by rw [hC]; rfl) fun k hk => ?_
   simp (maxSteps := 9^9) (disch := (try simp only [lens]); omega) only [argSl, sm, ↓amb, mark_eq, simprocAttr, fl88_0, sz86, el86, sz118, vr118, dx]
   repeat refine an ?_
   refine hk _ ?_; clear hk k
   refine awp_test [] 85 (decide (¬ Pl.okT w.done.length x (w.ts.getD x default))) [0, 1, 2, 3, 4] (by rw [hC]; rfl) (fun gd hgd k hk => ?_) ?_
   ·have g3 : gd 3 = some 52 := by rw [hgd]; rfl
    have g10 : gd 10 = some 59 := by rw [hgd]; rfl
    have g16 : gd 16 = some 65 := by rw [hgd]; rfl
    have g21 : gd 21 = some 70 := by rw [hgd]; rfl
    have g27 : gd 27 = some 76 := by rw [hgd]; rfl
    have g32 : gd 32 = some 81 := by rw [hgd]; rfl
    clear hgd
    simp (maxSteps := 9^9) (disch := (try simp only [lens]); omega) only [argSl, sm, ↓amb, mark_eq, simprocAttr, fl118_0, sz3, fl118_1, fl118_2, fl118_3, gcase_undef, g3, g10, g16, g21, g27, g32, dx]
    repeat' first | refine hk _ _ rfl rfl rfl rfl ?_ | (refine gsplit (fun hg => ?_) (fun hg => ?_) <;> (try simp only [hbx] at hg) <;> simp (maxSteps := 9^9) (disch := (try simp only [lens]); omega) only [argSl, sm, ↓amb, mark_eq, simprocAttr, fl118_0, sz3, fl118_1, fl118_2, fl118_3, gcase_undef, g3, g10, g16, g21, g27, g32, dx]) | apply And.intro | fail
    all_goals first | rfl | omega | exact (decide_eq_true (by (try simp only [Pl.right, Pl.cnt, Pl.okT] at *); omega)).symm | exact (decide_eq_false (by (try simp only [Pl.right, Pl.cnt, Pl.okT] at *); omega)).symm | exact decide_eq_decide.mpr (by (try simp only [Pl.right, Pl.cnt, Pl.okT] at *); omega) | (refine Bool.eq_iff_iff.mpr ?_; (try simp only [Pl.right, Pl.cnt, Pl.okT] at *); simp only [beq_iff_eq, bne_iff_ne, ne_eq, decide_eq_true_eq]; omega) | (refine Bool.eq_iff_iff.mpr ?_; simp only [Bool.not_eq_true', Bool.not_eq_false', decide_eq_false_iff_not, decide_eq_true_eq, beq_iff_eq, bne_iff_ne, ne_eq]; (try simp only [Pl.right, Pl.cnt, Pl.okT] at *); omega) | assumption | (simp; done) | (simp [maxLen]; omega) | skip
   simp only [kp, argSl, simprocAttr, List.length_cons, List.length_nil]
   refine awp_cond rfl (fun hb => ?_) (fun hb => ?_)
   ·try simp only [hbx] at hb
    refine awp_le (le_keep []) ?_
    simp only [kp, argSl, simprocAttr]
    refine awp_sr [] (by rw [hC]; rfl) fun k hk => ?_
    simp (maxSteps := 9^9) (disch := (try simp only [lens]); omega) only [argSl, sm, ↓amb, mark_eq, simprocAttr, dx]
    repeat refine an ?_
    refine hk _ ?_; clear hk k
    refine awp_ret ?_
    refine ret1 rfl rfl ?_
    exact .p (LeP.of_eq (by rw [decide_eq_false (fun h => by have h2 := h.2.2.2 x (by omega); have h3 := h.1; simp only [Pl.okT] at h2 hb; omega)]))
   ·try simp only [hbx] at hb
    refine awp_skip ?_
    refine h5 _ ?_; clear h5 k5
    refine awp_region [] (by rw [hC]; rfl) fun k hk => ?_
    simp (maxSteps := 9^9) (disch := (try simp only [lens]); omega) only [argSl, sm, ↓amb, mark_eq, simprocAttr, dx]
    repeat refine an ?_
    refine hk _ ?_; clear hk k
    refine ⟨x + 1, ⟨by omega, fun j hj => by by_cases e : j = x; subst e; exact hb; exact hx2 j (by omega)⟩, le_of [(0, _)] (by rfl) (by rfl) ⟨⟨_, rfl, .ptr rfl⟩, ⟨_, rfl, .oe⟩, ⟨_, rfl, .oe⟩, trivial⟩ ⟨⟨_, rfl, _, rfl, .one (.cons (.p (.refl _)) (.cons (.p (.refl _)) (.cons (.p (.refl _)) .nil)))⟩, trivial⟩, by omega⟩
  ·try simp only [hbx] at hb
   refine awp_exit ((if_pos rfl).mpr ?_)
   refine h2 _ ?_; clear h4 k4; clear h2 k2
   refine awp_le (le_keep []) ?_
   simp only [kp, argSl, simprocAttr]
   refine awp_sr [] (by rw [hC]; rfl) fun k hk => ?_
   simp (maxSteps := 9^9) (disch := (try simp only [lens]); omega) only [argSl, sm, ↓amb, mark_eq, simprocAttr, dx]
   repeat refine an ?_
   refine hk _ ?_; clear hk k
   refine awp_ret ?_
   refine ret1 rfl rfl ?_
   exact .p (LeP.of_eq (by rw [decide_eq_true (Pl.right_of (by omega) hb0 hx2)]))
set_option maxHeartbeats 4000000 in
theorem c52 (c d : Bool) (w : Pl.Work) (i : Int) : PCall Try.prog 98 [workV c d w, iV i] (bV (decide (0 ≤ i ∧ i < w.ts.length))) := by
 refine pcall_of_awp Try.func98 rfl (by simp [Try.ntmps98]) fun C hC => ?_
 refine awp_sr [] (by rw [hC]; rfl) fun k hk => ?_
 simp (maxSteps := 9^9) (disch := (try simp only [lens]); omega) only [argSl, sm, ↓amb, mark_eq, simprocAttr, dx]
 repeat refine an ?_
 refine hk _ ?_; clear hk k
 refine awp_test [] 4 (decide (0 ≤ i ∧ i < w.ts.length)) [] (by rw [hC]; rfl) (fun gd hgd k hk => ?_) ?_
 ·have g2 : gd 2 = some 7 := by rw [hgd]; rfl
  clear hgd
  simp (maxSteps := 9^9) (disch := (try simp only [lens]); omega) only [argSl, sm, ↓amb, mark_eq, simprocAttr, fl88_0, sz86, el86, gcase_undef, g2, dx]
  repeat' first | refine hk _ _ rfl rfl rfl rfl ?_ | (refine gsplit (fun hg => ?_) (fun hg => ?_) <;> (try simp only [hbx] at hg) <;> simp (maxSteps := 9^9) (disch := (try simp only [lens]); omega) only [argSl, sm, ↓amb, mark_eq, simprocAttr, fl88_0, sz86, el86, gcase_undef, g2, dx]) | apply And.intro | fail
  all_goals first | rfl | omega | exact (decide_eq_true (by omega)).symm | exact (decide_eq_false (by omega)).symm | exact decide_eq_decide.mpr (by omega) | (refine Bool.eq_iff_iff.mpr ?_; simp only [beq_iff_eq, bne_iff_ne, ne_eq, decide_eq_true_eq]; omega) | (refine Bool.eq_iff_iff.mpr ?_; simp only [Bool.not_eq_true', Bool.not_eq_false', decide_eq_false_iff_not, decide_eq_true_eq, beq_iff_eq, bne_iff_ne, ne_eq]; omega) | assumption | (simp; done) | (simp [maxLen]; omega) | skip
 simp only [kp, argSl, simprocAttr, List.length_cons, List.length_nil]
 refine awp_ret ?_
 refine ret1 rfl rfl ?_
 exact .p (LeP.refl _)
set_option maxHeartbeats 4000000 in
theorem c40 (c d : Bool) (w : Pl.Work) (i : Int) : PCall Try.prog 88 [workV c d w, iV i] (bV (decide (Pl.great w i))) := by
 refine pcall_of_awp Try.func88 rfl (by simp [Try.ntmps88]) fun C hC => ?_
 refine awp_sr [] (by rw [hC]; rfl) fun k hk => ?_
 simp (maxSteps := 9^9) (disch := (try simp only [lens]); omega) only [argSl, sm, ↓amb, mark_eq, simprocAttr, dx]
 repeat refine an ?_
 refine hk _ ?_; clear hk k
 refine awp_testD [] ⟨[0, 1, 3, 7, 7, 31, 63, 127, 255, 511, 255, 2047, 4095, 8191, 255, 16639, 255, 114943, 246015, 508159, 1048575, 255, 2097407, 8388607, 16777215, 33554431], [0, 3, 9, 13, 15, 19, 22], [], [(1, 3), (1, 9), (5, 9), (1, 13), (5, 13), (1, 15), (5, 15), (1, 19), (5, 19), (1, 22), (5, 22)], some []⟩ 4 (decide (Pl.great w i)) [] (by rw [hC]; rfl) (by kernel_rfl) (by kernel_rfl) (fun gd hgd k hk => ?_) ?_
 ·have g2 : gd 2 = some 7 := by rw [hgd]; rfl
  have g7 : gd 7 = some 12 := by rw [hgd]; rfl
  clear hgd
  simp (maxSteps := 9^9) (disch := (try simp only [lens]); omega) only [argSl, sm, ↓amb, mark_eq, simprocAttr, sz88, en96, en98, fl88_0, sz86, el86, sz118, fl118_1, sz3, fl118_0, fl88_1, gcase_undef, g2, g7, dx]
  repeat' first | refine hk _ _ rfl rfl rfl rfl ?_ | (refine gsplit (fun hg => ?_) (fun hg => ?_) <;> (try simp only [hbx] at hg) <;> (try (have hth := Pl.there_of (by assumption) hg; have q := Pl.ok_of hth; obtain ⟨_, hi0, hi1, hok, _, _, _, _⟩ := q; simp only [Pl.okT, Pl.task] at hok)) <;> simp (maxSteps := 9^9) (disch := (try simp only [lens]); omega) only [argSl, sm, ↓amb, mark_eq, simprocAttr, sz88, en96, en98, fl88_0, sz86, el86, sz118, fl118_1, sz3, fl118_0, fl88_1, gcase_undef, g2, g7, dx]) | apply And.intro | (refine callK_p (c38 _ _ _) rfl ?_; (try simp (maxSteps := 9^9) (disch := (try simp only [lens]); omega) only [argSl, sm, ↓amb, mark_eq, simprocAttr, sz88, en96, en98, fl88_0, sz86, el86, sz118, fl118_1, sz3, fl118_0, fl88_1, gcase_undef, g2, g7, dx])) | (refine callK_p (c52 _ _ _ _) rfl ?_; (try simp (maxSteps := 9^9) (disch := (try simp only [lens]); omega) only [argSl, sm, ↓amb, mark_eq, simprocAttr, sz88, en96, en98, fl88_0, sz86, el86, sz118, fl118_1, sz3, fl118_0, fl88_1, gcase_undef, g2, g7, dx])) | fail
  all_goals first | rfl | omega | exact (decide_eq_true (by (try simp only [Pl.great] at *); omega)).symm | exact (decide_eq_false (by (try simp only [Pl.great] at *); omega)).symm | exact decide_eq_decide.mpr (by (try simp only [Pl.great] at *); omega) | (refine Bool.eq_iff_iff.mpr ?_; (try simp only [Pl.great] at *); simp only [beq_iff_eq, bne_iff_ne, ne_eq, decide_eq_true_eq]; omega) | (refine Bool.eq_iff_iff.mpr ?_; simp only [Bool.not_eq_true', Bool.not_eq_false', decide_eq_false_iff_not, decide_eq_true_eq, beq_iff_eq, bne_iff_ne, ne_eq]; (try simp only [Pl.great] at *); omega) | assumption | (simp; done) | (simp [maxLen]; omega) | skip
  all_goals first | exact decide_eq_decide.mpr ⟨fun h => ⟨hth, h⟩, fun h => h.2⟩ | exact (decide_eq_false (p := Pl.great w i) (by intro h; obtain ⟨a, b, e, _⟩ := Pl.ok_of h.1; first | exact hg a | exact hg ⟨b, e⟩ | omega)).symm
 simp only [kp, argSl, simprocAttr, List.length_cons, List.length_nil]
 refine awp_ret ?_
 refine ret1 rfl rfl ?_
 exact .p (LeP.refl _)
set_option maxHeartbeats 4000000 in
theorem c27 (c d : Bool) (w : Pl.Work) (h1 : w.ts.length ≤ 1000000) (h2 : w.done.length ≤ 1000000) : HCall Try.prog 97 [.p (workV c d w)] [] (.agg [.own 0, .p (iV w.grain), .own 1]) [(0, .row 4 (lift (w.ts.map taskC))), (1, .row 1 (lift (w.done.map fun b => [bV b])))] := by
 refine hcall_of_awp Try.func97 rfl (by simp [Try.ntmps97]) fun C hC => ?_
 refine awp_sr [6, 12] (by rw [hC]; rfl) fun k hk => ?_
 simp (maxSteps := 9^9) (disch := (try simp only [lens]); omega) only [argSl, sm, ↓amb, mark_eq, simprocAttr, vr88, dx]
 repeat refine an ?_
 refine hk _ ?_; clear hk k
 refine awp_sd [6, 12] ⟨[0, 0, 2, 7, 0, 16, 0, 0, 128, 463, 1023, 2047], [2, 3, 5, 8, 9], [11], [(3, 9), (3, 11), (9, 11)], none⟩ (by rw [hC]; rfl) (by kernel_rfl) (by kernel_rfl) fun k hk => ?_
 simp (maxSteps := 9^9) (disch := (try simp only [lens]); omega) only [argSl, sm, ↓amb, mark_eq, simprocAttr, el86, vr118, fl88_0, sz86, by118, fl88_1, sz3, el23, vr4, fl88_2, sz23, by4, vr88, bt88, pl88_0, pl88_1, pl88_2, sz88, dx]
 repeat refine an ?_
 refine hk _ ?_; clear hk k
 refine awp_ret ?_
 refine rethc rfl rfl sz88 ?_
 simp (maxSteps := 9^9) (disch := (try simp only [lens]); omega) only [argSl, sm, ↓amb, mark_eq, simprocAttr, sz88, dx]
 exact le_of [(0, _), (1, _)] (by rfl) (by rfl) ⟨⟨_, rfl, .agg rfl (LeRow.cons (.own rfl) (LeRow.cons (.p (.refl _)) (LeRow.cons (.own rfl) .nil))).2⟩, trivial⟩ ⟨⟨_, rfl, _, rfl, .lift _⟩, ⟨_, rfl, _, rfl, .lift _⟩, trivial⟩
set_option maxHeartbeats 4000000 in
theorem c29 (c d : Bool) (w : Pl.Work) (i : Int) : PCall Try.prog 89 [workV c d w, iV i] (.tup [workV false false (Pl.partW w i), iV (Pl.partA w i), iV (Pl.partB w i), iV (Pl.partE w i)]) := by
 refine pcall_of_awp Try.func89 rfl (by simp [Try.ntmps89]) fun C hC => ?_
 refine awp_sr [] (by rw [hC]; rfl) fun k hk => ?_
 simp (maxSteps := 9^9) (disch := (try simp only [lens]); omega) only [argSl, sm, ↓amb, mark_eq, simprocAttr, vr88, dx]
 repeat refine an ?_
 refine hk _ ?_; clear hk k
 refine awp_seq fun k1 h1 => ?_
 refine awp_block ?_
 refine awp_sr [] (by rw [hC]; rfl) fun k hk => ?_
 simp (maxSteps := 9^9) (disch := (try simp only [lens]); omega) only [argSl, sm, ↓amb, mark_eq, simprocAttr, sz88, en96, dx]
 repeat refine an ?_
 refine callK_p (c38 _ _ _) rfl ?_
 simp (maxSteps := 9^9) (disch := (try simp only [lens]); omega) only [argSl, sm, ↓amb, mark_eq, simprocAttr, sz88, en96, dx]
 repeat refine an ?_
 refine hk _ ?_; clear hk k
 refine awp_cond rfl (fun hb => ?_) (fun hb => ?_)
 ·try simp only [hbx] at hb
  refine awp_sr [] (by rw [hC]; rfl) fun k hk => ?_
  simp (maxSteps := 9^9) (disch := (try simp only [lens]); omega) only [argSl, sm, ↓amb, mark_eq, simprocAttr, sz88, dx]
  repeat refine an ?_
  refine hk _ ?_; clear hk k
  refine awp_ret ?_
  obtain ⟨e1, e2, e3, e4⟩ := Pl.part_err (w := w) (i := i) ((Pl.partE1 (by rw [Pl.there, if_pos hb]; decide)).trans (by rw [Pl.there, if_pos hb])) (by decide)
  rw [e1, e2, e3, e4]
  refine retl rfl rfl ⟨retc rfl sz88 ?_, rett rfl ?_, rett rfl ?_, rett rfl ?_, trivial⟩
  simp (maxSteps := 9^9) (disch := (try simp only [lens]); omega) only [argSl, sm, ↓amb, mark_eq, simprocAttr, sz88, dx]
  ·exact .p (LeP.agg (.cons (LeP.seq _ _) (.cons (LeP.refl _) (.cons (LeP.seq _ _) .nil))))
  ·exact .p (LeP.refl _)
  ·exact .p (LeP.refl _)
  ·exact .p (LeP.refl _)
 ·try simp only [hbx] at hb
  have hR := hb
  refine awp_sr [] (by rw [hC]; rfl) fun k hk => ?_
  simp (maxSteps := 9^9) (disch := (try simp only [lens]); omega) only [argSl, sm, ↓amb, mark_eq, simprocAttr, sz88, en98, dx]
  repeat refine an ?_
  refine callK_p (c52 _ _ _ _) rfl ?_
  simp (maxSteps := 9^9) (disch := (try simp only [lens]); omega) only [argSl, sm, ↓amb, mark_eq, simprocAttr, sz88, en98, dx]
  repeat refine an ?_
  refine hk _ ?_; clear hk k
  refine awp_cond rfl (fun hb => ?_) (fun hb => ?_)
  ·try simp only [hbx] at hb
   refine awp_sr [] (by rw [hC]; rfl) fun k hk => ?_
   simp (maxSteps := 9^9) (disch := (try simp only [lens]); omega) only [argSl, sm, ↓amb, mark_eq, simprocAttr, sz88, dx]
   repeat refine an ?_
   refine hk _ ?_; clear hk k
   refine awp_ret ?_
   obtain ⟨e1, e2, e3, e4⟩ := Pl.part_err (w := w) (i := i) ((Pl.partE1 (by rw [Pl.there, if_neg (by simpa using hR), if_pos (by omega)]; decide)).trans (by rw [Pl.there, if_neg (by simpa using hR), if_pos (by omega)])) (by decide)
   rw [e1, e2, e3, e4]
   refine retl rfl rfl ⟨retc rfl sz88 ?_, rett rfl ?_, rett rfl ?_, rett rfl ?_, trivial⟩
   simp (maxSteps := 9^9) (disch := (try simp only [lens]); omega) only [argSl, sm, ↓amb, mark_eq, simprocAttr, sz88, dx]
   ·exact .p (LeP.agg (.cons (LeP.seq _ _) (.cons (LeP.refl _) (.cons (LeP.seq _ _) .nil))))
   ·exact .p (LeP.refl _)
   ·exact .p (LeP.refl _)
   ·exact .p (LeP.refl _)
  ·try simp only [hbx] at hb
   have hth := Pl.there_of hR (by assumption)
   obtain ⟨_, hi0, hi1, hok, hd1, hg1, hg2, ht1⟩ := Pl.ok_of hth
   simp only [Pl.okT, Pl.task] at hok
   have hin : i.toNat < w.ts.length := by omega
   refine awp_test [] 23 (decide (¬ Pl.great w i ∨ ¬ (w.ts.getD i.toNat default).wait = 0)) [1, 2, 4, 5, 6, 7] (by rw [hC]; rfl) (fun gd hgd k hk => ?_) ?_
   ·have g4 : gd 4 = some 28 := by rw [hgd]; rfl
    clear hgd
    simp (maxSteps := 9^9) (disch := (try simp only [lens]); omega) only [argSl, sm, ↓amb, mark_eq, simprocAttr, sz88, en88, fl88_0, sz86, el86, sz118, fl118_3, sz3, gcase_undef, g4, dx]
    repeat' first | refine hk _ _ rfl rfl rfl rfl ?_ | (refine gsplit (fun hg => ?_) (fun hg => ?_) <;> (try simp only [hbx] at hg) <;> simp (maxSteps := 9^9) (disch := (try simp only [lens]); omega) only [argSl, sm, ↓amb, mark_eq, simprocAttr, sz88, en88, fl88_0, sz86, el86, sz118, fl118_3, sz3, gcase_undef, g4, dx]) | apply And.intro | (refine callK_p (c40 _ _ _ _) rfl ?_; (try simp (maxSteps := 9^9) (disch := (try simp only [lens]); omega) only [argSl, sm, ↓amb, mark_eq, simprocAttr, sz88, en88, fl88_0, sz86, el86, sz118, fl118_3, sz3, gcase_undef, g4, dx])) | fail
    all_goals first | rfl | omega | exact (decide_eq_true (by (try simp only [Pl.great, Pl.task] at *); omega)).symm | exact (decide_eq_false (by (try simp only [Pl.great, Pl.task] at *); omega)).symm | exact decide_eq_decide.mpr (by (try simp only [Pl.great, Pl.task] at *); omega) | (refine Bool.eq_iff_iff.mpr ?_; (try simp only [Pl.great, Pl.task] at *); simp only [beq_iff_eq, bne_iff_ne, ne_eq, decide_eq_true_eq]; omega) | (refine Bool.eq_iff_iff.mpr ?_; simp only [Bool.not_eq_true', Bool.not_eq_false', decide_eq_false_iff_not, decide_eq_true_eq, beq_iff_eq, bne_iff_ne, ne_eq]; (try simp only [Pl.great, Pl.task] at *); omega) | assumption | (simp; done) | (simp [maxLen]; omega) | skip
    all_goals first | (simp only [hg, not_true_eq_false, false_or]; exact Pl.int_ne _) | (simp [hg]; done)
   simp only [kp, argSl, simprocAttr, List.length_cons, List.length_nil]
   refine awp_cond rfl (fun hb => ?_) (fun hb => ?_)
   ·try simp only [hbx] at hb
    refine awp_sr [] (by rw [hC]; rfl) fun k hk => ?_
    simp (maxSteps := 9^9) (disch := (try simp only [lens]); omega) only [argSl, sm, ↓amb, mark_eq, simprocAttr, sz88, dx]
    repeat refine an ?_
    refine hk _ ?_; clear hk k
    refine awp_ret ?_
    obtain ⟨e1, e2, e3, e4⟩ := Pl.part_err (w := w) (i := i) (Pl.partE2 hth (by simp only [Pl.great, Pl.task] at *; omega)) (by decide)
    rw [e1, e2, e3, e4]
    refine retl rfl rfl ⟨retc rfl sz88 ?_, rett rfl ?_, rett rfl ?_, rett rfl ?_, trivial⟩
    simp (maxSteps := 9^9) (disch := (try simp only [lens]); omega) only [argSl, sm, ↓amb, mark_eq, simprocAttr, sz88, dx]
    ·exact .p (LeP.agg (.cons (LeP.seq _ _) (.cons (LeP.refl _) (.cons (LeP.seq _ _) .nil))))
    ·exact .p (LeP.refl _)
    ·exact .p (LeP.refl _)
    ·exact .p (LeP.refl _)
   ·try simp only [hbx] at hb
    have hgr := hb
    refine awp_sr [] (by rw [hC]; rfl) fun k hk => ?_
    simp (maxSteps := 9^9) (disch := (try simp only [lens]); omega) only [argSl, sm, ↓amb, mark_eq, simprocAttr, fl88_0, sz86, el86, dx]
    repeat refine an ?_
    refine hk _ ?_; clear hk k
    refine awp_cond rfl (fun hb => ?_) (fun hb => ?_)
    ·try simp only [hbx] at hb
     refine awp_sr [] (by rw [hC]; rfl) fun k hk => ?_
     simp (maxSteps := 9^9) (disch := (try simp only [lens]); omega) only [argSl, sm, ↓amb, mark_eq, simprocAttr, sz88, dx]
     repeat refine an ?_
     refine hk _ ?_; clear hk k
     refine awp_ret ?_
     obtain ⟨e1, e2, e3, e4⟩ := Pl.part_err (w := w) (i := i) (Pl.partE3 hth (by simp only [Pl.great, Pl.task] at *; omega) (by omega)) (by decide)
     rw [e1, e2, e3, e4]
     refine retl rfl rfl ⟨retc rfl sz88 ?_, rett rfl ?_, rett rfl ?_, rett rfl ?_, trivial⟩
     simp (maxSteps := 9^9) (disch := (try simp only [lens]); omega) only [argSl, sm, ↓amb, mark_eq, simprocAttr, sz88, dx]
     ·exact .p (LeP.agg (.cons (LeP.seq _ _) (.cons (LeP.refl _) (.cons (LeP.seq _ _) .nil))))
     ·exact .p (LeP.refl _)
     ·exact .p (LeP.refl _)
     ·exact .p (LeP.refl _)
    ·try simp only [hbx] at hb
     refine awp_skip ?_
     refine h1 _ ?_; clear h1 k1
     have h0 := Pl.partE0 hth (by simp only [Pl.great, Pl.task] at *; omega) (by omega)
     refine awp_sr [] (by rw [hC]; rfl) fun k hk => ?_
     simp (maxSteps := 9^9) (disch := (try simp only [lens]); omega) only [argSl, sm, ↓amb, mark_eq, simprocAttr, sz88, en97, vr88, dx]
     repeat refine an ?_
     refine callK_h (c27 c d w (by omega) (by omega)) [] [] (by first | rfl | (simp only [hm]; done)) (by first | rfl | (simp [namesOk, lkp]; done)) ?_ ?_ ?_ ?_ ?_ ?_ ?_
     (iterate 6 (focus (first | trivial | (intro n hn; cases hn; done) | (simp (maxSteps := 9^9) (disch := (try simp only [lens]); omega) only [argSl, sm, ↓amb, mark_eq, simprocAttr, sz88, en97, vr88, dx, hmx, List.filter_cons, Nat.reduceBNe, imp_self, implies_true]; done))))
     simp (maxSteps := 9^9) (disch := (try simp only [lens]); omega) only [argSl, sm, ↓amb, mark_eq, simprocAttr, sz88, en97, vr88, dx, hm, List.filter_cons, List.filter_nil, Nat.reduceBNe, Option.map_none]
     repeat refine an ?_
     refine hk _ ?_; clear hk k
     refine awp_sr [] (by rw [hC]; rfl) fun k hk => ?_
     simp (maxSteps := 9^9) (disch := (try simp only [lens]); omega) only [argSl, sm, ↓amb, mark_eq, simprocAttr, fl88_0, sz86, el86, dx]
     repeat refine an ?_
     refine hk _ ?_; clear hk k
     refine awp_sr [] (by rw [hC]; rfl) fun k hk => ?_
     simp (maxSteps := 9^9) (disch := (try simp only [lens]); omega) only [argSl, sm, ↓amb, mark_eq, simprocAttr, fl88_0, sz86, el86, sz118, vr118, dx]
     repeat refine an ?_
     refine hk _ ?_; clear hk k
     refine awp_sr [] (by rw [hC]; rfl) fun k hk => ?_
     simp (maxSteps := 9^9) (disch := (try simp only [lens]); omega) only [argSl, sm, ↓amb, mark_eq, simprocAttr, fl118_0, sz3, fl118_1, dx]
     repeat refine an ?_
     refine hk _ ?_; clear hk k
     refine awp_sr [] (by rw [hC]; rfl) fun k hk => ?_
     simp (maxSteps := 9^9) (disch := (try simp only [lens]); omega) only [argSl, sm, ↓amb, mark_eq, simprocAttr, fl88_0, sz86, el86, sz118, fl118_3, sz3, dx]
     repeat refine an ?_
     refine hk _ ?_; clear hk k
     refine awp_sr [] (by rw [hC]; rfl) fun k hk => ?_
     simp (maxSteps := 9^9) (disch := (try simp only [lens]); omega) only [argSl, sm, ↓amb, mark_eq, simprocAttr, fl88_0, sz86, fl118_0, sz3, vr118, bt118, pl118_0, pl118_1, pl118_2, fl118_1, el86, by118, dx]
     repeat refine an ?_
     refine hk _ ?_; clear hk k
     refine awp_sr [] (by rw [hC]; rfl) fun k hk => ?_
     simp (maxSteps := 9^9) (disch := (try simp only [lens]); omega) only [argSl, sm, ↓amb, mark_eq, simprocAttr, sz88, dx]
     repeat refine an ?_
     refine hk _ ?_; clear hk k
     refine awp_ret ?_
     obtain ⟨e1, e2, e3, e4⟩ := Pl.part_ok h0
     rw [e1, e2, e3, e4]
     refine retl rfl rfl ⟨retc rfl sz88 ?_, rett rfl ?_, rett rfl ?_, rett rfl ?_, trivial⟩
     simp (maxSteps := 9^9) (disch := (try simp only [lens]); omega) only [argSl, sm, ↓amb, mark_eq, simprocAttr, sz88, dx]
     ·exact .agg_cons (.p (LeP.sq (by simp [Pl.parted, Pl.mid, List.map_set]))) (.agg_cons (.p (LeP.refl _)) (.agg_cons (.ownE rfl rfl) (.agg_nil)))
     ·exact .p (LeP.refl _)
     ·exact .p (LeP.refl _)
     ·exact .p (LeP.refl _)
set_option maxHeartbeats 4000000 in
theorem c18 (c : Bool) (l : List Int) (hl : l.length ≤ 1000000) : PCall Try.prog 86 [ints c l] (popS l) := by
 refine pcall_of_awp Try.func86 rfl (by simp [Try.ntmps86]) fun C hC => ?_
 refine awp_sr [] (by rw [hC]; rfl) fun k hk => ?_
 simp (maxSteps := 9^9) (disch := (try simp only [lens]); omega) only [argSl, sm, ↓amb, mark_eq, simprocAttr, dx]
 repeat refine an ?_
 refine hk _ ?_; clear hk k
 refine awp_seq fun k1 h1 => ?_
 refine awp_sr [] (by rw [hC]; rfl) fun k hk => ?_
 simp (maxSteps := 9^9) (disch := (try simp only [lens]); omega) only [argSl, sm, ↓amb, mark_eq, simprocAttr, el33, dx]
 repeat refine an ?_
 refine hk _ ?_; clear hk k
 refine awp_cond rfl (fun hb => ?_) (fun hb => ?_)
 ·try simp only [hbx] at hb
  refine awp_sr [] (by rw [hC]; rfl) fun k hk => ?_
  simp (maxSteps := 9^9) (disch := (try simp only [lens]); omega) only [argSl, sm, ↓amb, mark_eq, simprocAttr, dx]
  repeat refine an ?_
  refine hk _ ?_; clear hk k
  refine awp_ret ?_
  obtain rfl : l = [] := List.eq_nil_of_length_eq_zero (by omega)
  refine ret3 rfl rfl rfl rfl ?_ ?_ ?_
  ·exact .p (LeP.seq _ _)
  ·exact .p (LeP.refl _)
  ·exact .p (LeP.refl _)
 ·try simp only [hbx] at hb
  refine awp_skip ?_
  refine h1 _ ?_; clear h1 k1
  refine awp_sr [] (by rw [hC]; rfl) fun k hk => ?_
  simp (maxSteps := 9^9) (disch := (try simp only [lens]); omega) only [argSl, sm, ↓amb, mark_eq, simprocAttr, el33, dx]
  repeat refine an ?_
  refine hk _ ?_; clear hk k
  refine awp_sd [] ⟨[0, 0, 0, 6, 15, 0, 0, 96, 224, 31, 1023, 2047], [4, 8], [], [], some []⟩ (by rw [hC]; rfl) (by kernel_rfl) (by kernel_rfl) fun k hk => ?_
  simp (maxSteps := 9^9) (disch := (try simp only [lens]); omega) only [argSl, sm, ↓amb, mark_eq, simprocAttr, el33, vr3, sz3, by3, dx]
  repeat refine an ?_
  refine hk _ ?_; clear hk k
  refine awp_ret ?_
  refine ret3 rfl rfl rfl rfl ?_ ?_ ?_
  ·exact .p (LeP.sq (by simp [List.dropLast_eq_take]))
  ·exact .p (LeP.refl _)
  ·exact .p (LeP.of_eq (by rw [if_neg (by omega)]))
set_option maxHeartbeats 4000000 in
theorem c20 (c : Bool) (l : List Int) (hl : l.length ≤ 1000000) : PCall Try.prog 87 [ints c l] (stealS l) := by
 refine pcall_of_awp Try.func87 rfl (by simp [Try.ntmps87]) fun C hC => ?_
 refine awp_sr [] (by rw [hC]; rfl) fun k hk => ?_
 simp (maxSteps := 9^9) (disch := (try simp only [lens]); omega) only [argSl, sm, ↓amb, mark_eq, simprocAttr, dx]
 repeat refine an ?_
 refine hk _ ?_; clear hk k
 refine awp_seq fun k1 h1 => ?_
 refine awp_sr [] (by rw [hC]; rfl) fun k hk => ?_
 simp (maxSteps := 9^9) (disch := (try simp only [lens]); omega) only [argSl, sm, ↓amb, mark_eq, simprocAttr, el33, dx]
 repeat refine an ?_
 refine hk _ ?_; clear hk k
 refine awp_cond rfl (fun hb => ?_) (fun hb => ?_)
 ·try simp only [hbx] at hb
  refine awp_sr [] (by rw [hC]; rfl) fun k hk => ?_
  simp (maxSteps := 9^9) (disch := (try simp only [lens]); omega) only [argSl, sm, ↓amb, mark_eq, simprocAttr, dx]
  repeat refine an ?_
  refine hk _ ?_; clear hk k
  refine awp_ret ?_
  obtain rfl : l = [] := List.eq_nil_of_length_eq_zero (by omega)
  refine ret3 rfl rfl rfl rfl ?_ ?_ ?_
  ·exact .p (LeP.seq _ _)
  ·exact .p (LeP.refl _)
  ·exact .p (LeP.refl _)
 ·try simp only [hbx] at hb
  refine awp_skip ?_
  refine h1 _ ?_; clear h1 k1
  refine awp_sd [] ⟨[0, 0, 2, 7, 0, 16, 48, 15, 255, 511], [3, 6], [], [], some []⟩ (by rw [hC]; rfl) (by kernel_rfl) (by kernel_rfl) fun k hk => ?_
  simp (maxSteps := 9^9) (disch := (try simp only [lens]); omega) only [argSl, sm, ↓amb, mark_eq, simprocAttr, el33, vr3, sz3, by3, dx]
  repeat refine an ?_
  refine hk _ ?_; clear hk k
  refine awp_ret ?_
  refine ret3 rfl rfl rfl rfl ?_ ?_ ?_
  ·exact .p (LeP.sq (by simp))
  ·exact .p (LeP.refl _)
  ·exact .p (LeP.of_eq (by rw [if_neg (by omega)]))
end Go.Proofs.Ytbehekmnccoifaa
end
section
set_option linter.unusedSimpArgs false
set_option linter.unusedVariables false
set_option maxRecDepth 100000
namespace Go.Proofs.Ytbehekmnccoifaa
open Go.Am Go.Proofs
theorem mx1 (es : List (List PV)) (id sz k off : Nat) (vs : List AV) (K : Upd → Prop) : storeL none es id sz k off vs K = K ⟨.p (.lit undef), [(id, some (.row sz ((lift es).set k (splice ((es.getD k []).map .p) off vs))))]⟩ := rfl
theorem mx2 (es : List (List PV)) (sz k off n : Nat) (cs : List AV) (K : AV → Prop) : loadB (some (.row sz ((lift es).set k cs))) sz k off false n K = (k < es.length ∧ onE cs[off]? K) := by
  have hl : (lift es).length = es.length := by simp [lift]
  refine propext ⟨?_, ?_⟩
  · rintro ⟨_, h, ds, hd, hk⟩
    injection h with h; injection h with h1 h2; subst h2
    rw [List.getElem?_set] at hd
    split at hd
    · split at hd
      · injection hd with hd; subst hd; exact ⟨by omega, by simpa [onE] using hk⟩
      · cases hd
    · exact absurd rfl ‹_›
  · rintro ⟨h1, x, h2, h3⟩
    exact ⟨_, rfl, cs, List.getElem?_set_self (by omega), by simpa using ⟨x, h2, h3⟩⟩
theorem mx3 (es : List (List PV)) (id sz k off : Nat) (cs vs : List AV) (K : Upd → Prop) : storeB (some (.row sz ((lift es).set k cs))) id sz k off vs K = (k < es.length ∧ off + vs.length ≤ cs.length ∧ K ⟨.p (.lit undef), [(id, some (.row sz ((lift es).set k (splice cs off vs))))]⟩) := by
  have hl : (lift es).length = es.length := by simp [lift]
  refine propext ⟨?_, ?_⟩
  · rintro ⟨_, h, ds, hd, h4, hk⟩
    injection h with h; injection h with h1 h2; subst h2
    rw [List.getElem?_set] at hd
    split at hd
    · split at hd
      · injection hd with hd; subst hd
        rw [List.set_set] at hk
        exact ⟨by omega, h4, hk⟩
      · cases hd
    · exact absurd rfl ‹_›
  · rintro ⟨h1, h2, h3⟩
    exact ⟨_, rfl, cs, List.getElem?_set_self (by omega), h2, by rw [List.set_set]; exact h3⟩
theorem mx4 (es : List (List PV)) (k : Nat) (cs : List AV) : ((lift es).set k cs).length = es.length := by simp [lift]
theorem mx : type_of% (And.intro (And.intro @mx1 @mx2) (And.intro @mx3 @mx4)) := And.intro (And.intro @mx1 @mx2) (And.intro @mx3 @mx4)
end Go.Proofs.Ytbehekmnccoifaa
end
section
set_option linter.unusedSimpArgs false
set_option linter.unusedVariables false
set_option maxRecDepth 100000
namespace Go.Proofs.Ytbehekmnccoifaa
open Go.Am Go.Proofs
end Go.Proofs.Ytbehekmnccoifaa
end
section
set_option linter.unusedSimpArgs false
set_option linter.unusedVariables false
set_option maxRecDepth 100000
namespace Go.Proofs.Ytbehekmnccoifaa
open Go.Am Go.Proofs
end Go.Proofs.Ytbehekmnccoifaa
end
section
set_option linter.unusedSimpArgs false
set_option linter.unusedVariables false
set_option maxRecDepth 100000
namespace Go.Proofs.Ytbehekmnccoifaa
open Go.Am Go.Proofs
end Go.Proofs.Ytbehekmnccoifaa
end
section
set_option linter.unusedSimpArgs false
set_option linter.unusedVariables false
namespace Go.Pl
def frm (s : List Int) : List Int := marksL (firstsL s) false
def grWi (s : List Int) (i : Nat) : List Int := onesT (frm s) i
def rgK (s : List Int) (i : Nat) : List Int := sortedL s (grWi s i)
def rgC (s : List Int) (i : Nat) : List Int := cntG i (grWi s i) (grWi s i).length
structure RgI (s : List Int) (i : Nat) : Prop where
  rises : (rgK s i).Pairwise fun x y => x < y
  cnt : ∀ j, j < (rgK s i).length → (rgC s i).getD j 0 = ((s.take i).count ((rgK s i).getD j 0) : Nat) ∧ 0 < (rgC s i).getD j 0
  mem : ∀ x, x ∈ s.take i ↔ x ∈ rgK s i
  sum : (rgC s i).sum = i
end Go.Pl
end
section
set_option linter.unusedSimpArgs false
set_option linter.unusedVariables false
set_option maxRecDepth 100000
namespace Go.Proofs.Ytbehekmnccoifaa
open Go.Am Go.Proofs
end Go.Proofs.Ytbehekmnccoifaa
end
section
set_option linter.unusedSimpArgs false
set_option linter.unusedVariables false
set_option maxRecDepth 100000
namespace Go.Proofs.Ytbehekmnccoifaa
open Go.Am Go.Proofs
theorem bt26 : tBuilt Try.prog 26 = true := by kernel_rfl
theorem bt47 : tBuilt Try.prog 47 = true := by kernel_rfl
theorem en18 : enters Try.prog 18 = true := by kernel_rfl
theorem en19 : enters Try.prog 19 = true := by kernel_rfl
theorem en26 : enters Try.prog 26 = true := by kernel_rfl
theorem en28 : enters Try.prog 28 = true := by kernel_rfl
theorem en34 : enters Try.prog 34 = true := by kernel_rfl
theorem pl26_0 : tPlace Try.prog 26 0 = some (0, 1) := by kernel_rfl
theorem pl26_1 : tPlace Try.prog 26 1 = some (1, 1) := by kernel_rfl
theorem pl47_0 : tPlace Try.prog 47 0 = some (0, 1) := by kernel_rfl
theorem pl47_1 : tPlace Try.prog 47 1 = some (1, 1) := by kernel_rfl
theorem pl47_2 : tPlace Try.prog 47 2 = some (2, 3) := by kernel_rfl
theorem vr26 : tVar Try.prog 26 = some (true, [.lit (.int .i64 0), .lit (.int .i64 0), .seq true []]) := by kernel_rfl
theorem vr47 : tVar Try.prog 47 = some (true, [.lit (.int .i64 0), .lit (.int .i64 0), .lit (.int .i64 0), .lit (.int .i64 0), .seq true []]) := by kernel_rfl
set_option maxHeartbeats 4000000 in
theorem c_law11_alive : PCall Try.prog 22 [] (bV true) := by
 refine pcall_of_awp Try.func22 rfl (by simp [Try.ntmps22]) fun C hC => ?_
 refine awp_le (le_keep []) ?_
 simp only [kp, argSl, simprocAttr]
 have a1 := c_dedup_Edges true true ([⟨2, 1⟩, ⟨1, 2⟩, ⟨3, 3⟩, ⟨0, 7⟩] : List Pl.Edge) (⟨8, 2, ⟨1, 1, []⟩⟩ : Pl.Way) (by decide)
 rw [if_pos (show (∀ e, e ∈ ([⟨2, 1⟩, ⟨1, 2⟩, ⟨3, 3⟩, ⟨0, 7⟩] : List Pl.Edge) → Pl.fitE e) by decide), if_pos (show (∀ e, e ∈ ([⟨2, 1⟩, ⟨1, 2⟩, ⟨3, 3⟩, ⟨0, 7⟩] : List Pl.Edge) → Pl.fitE e) by decide), if_pos (show (∀ e, e ∈ ([⟨2, 1⟩, ⟨1, 2⟩, ⟨3, 3⟩, ⟨0, 7⟩] : List Pl.Edge) → Pl.fitE e) by decide), show (Pl.grK (Pl.ksE ([⟨2, 1⟩, ⟨1, 2⟩, ⟨3, 3⟩, ⟨0, 7⟩] : List Pl.Edge)) (⟨8, 2, ⟨1, 1, []⟩⟩ : Pl.Way)).map Pl.unkey = ([⟨0, 7⟩, ⟨1, 2⟩] : List Pl.Edge) from by decide +kernel, show Pl.grT (Pl.ksE ([⟨2, 1⟩, ⟨1, 2⟩, ⟨3, 3⟩, ⟨0, 7⟩] : List Pl.Edge)).length (⟨8, 2, ⟨1, 1, []⟩⟩ : Pl.Way) = 35 from by decide +kernel, show Pl.grE (Pl.ksE ([⟨2, 1⟩, ⟨1, 2⟩, ⟨3, 3⟩, ⟨0, 7⟩] : List Pl.Edge)).length (⟨8, 2, ⟨1, 1, []⟩⟩ : Pl.Way) = 0 from by decide +kernel] at a1
 have a2 := c_dedup_Groups true true ([9, 2, 9] : List Int) (⟨8, 2, ⟨1, 1, []⟩⟩ : Pl.Way) (by decide) (by decide)
 rw [show Pl.grK ([9, 2, 9] : List Int) (⟨8, 2, ⟨1, 1, []⟩⟩ : Pl.Way) = ([2, 9] : List Int) from by decide +kernel] at a2
 rw [show Pl.grC ([9, 2, 9] : List Int) (⟨8, 2, ⟨1, 1, []⟩⟩ : Pl.Way) = ([1, 2] : List Int) from by decide +kernel] at a2
 rw [show Pl.grT ([9, 2, 9] : List Int).length (⟨8, 2, ⟨1, 1, []⟩⟩ : Pl.Way) = 35 from by decide +kernel] at a2
 rw [show Pl.grE ([9, 2, 9] : List Int).length (⟨8, 2, ⟨1, 1, []⟩⟩ : Pl.Way) = 0 from by decide +kernel] at a2
 have a3 := c_dedup_Once true true ([9, 2, 9] : List Int) (⟨8, 2, ⟨1, 1, []⟩⟩ : Pl.Way) (by decide) (by decide)
 rw [show Pl.grK ([9, 2, 9] : List Int) (⟨8, 2, ⟨1, 1, []⟩⟩ : Pl.Way) = ([2, 9] : List Int) from by decide +kernel] at a3
 rw [show Pl.grT ([9, 2, 9] : List Int).length (⟨8, 2, ⟨1, 1, []⟩⟩ : Pl.Way) = 35 from by decide +kernel] at a3
 rw [show Pl.grE ([9, 2, 9] : List Int).length (⟨8, 2, ⟨1, 1, []⟩⟩ : Pl.Way) = 0 from by decide +kernel] at a3
 have a4 := c_dedup_Edges true true ([⟨-1, 0⟩] : List Pl.Edge) (⟨8, 2, ⟨1, 1, []⟩⟩ : Pl.Way) (by decide)
 rw [if_neg (show ¬ (∀ e, e ∈ ([⟨-1, 0⟩] : List Pl.Edge) → Pl.fitE e) by decide), if_neg (show ¬ (∀ e, e ∈ ([⟨-1, 0⟩] : List Pl.Edge) → Pl.fitE e) by decide), if_neg (show ¬ (∀ e, e ∈ ([⟨-1, 0⟩] : List Pl.Edge) → Pl.fitE e) by decide)] at a4
 have a5 := c_dedup_Key ⟨5, 3⟩
 rw [show Pl.keyE ⟨5, 3⟩ = 196613 from by decide, decide_eq_true (by decide)] at a5
 have b1 := c_ref11_Same false true ([⟨0, 7⟩, ⟨1, 2⟩] : List Pl.Edge) ([⟨0, 7⟩, ⟨1, 2⟩] : List Pl.Edge) (by decide)
 have b2 := c_ref07_Words false true ([2, 9] : List Int) ([2, 9] : List Int) (by decide)
 have b3 := c23 false true ([1, 2] : List Int) ([1, 2] : List Int) (by decide)
 have b4 := c_ref07_Words false false ([2, 9] : List Int) ([2, 9] : List Int) (by decide)
 have a6 := c_dedup_Edge 196613 (by decide)
 rw [show Pl.unkey 196613 = ⟨3, 5⟩ from by decide] at a6
 have b5 := c_dedup_Without true true ([1, 2, 3] : List Int) ([2] : List Int) (by decide) (by decide)
 rw [show Pl.woL ([1, 2, 3] : List Int) ([2] : List Int) = ([1, 3] : List Int) from by decide] at b5
 have b6 := c_ref07_Words false true ([1, 3] : List Int) ([1, 3] : List Int) (by decide)
 refine awp_sr [] (by rw [hC]; rfl) fun k hk => ?_
 simp (maxSteps := 9^9) (disch := (try simp only [lens]); omega) only [argSl, sm, ↓amb, mark_eq, simprocAttr, dx]
 repeat refine an ?_
 refine hk _ ?_; clear hk k
 refine awp_le (le_keep []) ?_
 simp only [kp, argSl, simprocAttr]
 refine awp_sr [] (by rw [hC]; rfl) fun k hk => ?_
 simp (maxSteps := 9^9) (disch := (try simp only [lens]); omega) only [argSl, sm, ↓amb, mark_eq, simprocAttr, vr26, bt26, pl26_0, pl26_1, vr47, bt47, pl47_0, pl47_1, pl47_2, sz47, dx]
 repeat refine an ?_
 refine hk _ ?_; clear hk k
 refine awp_le (le_keep [1]) ?_
 simp only [kp, argSl, simprocAttr]
 refine awp_sr [] (by rw [hC]; rfl) fun k hk => ?_
 simp (maxSteps := 9^9) (disch := (try simp only [lens]); omega) only [argSl, sm, ↓amb, mark_eq, simprocAttr, vr59, bt59, pl59_0, pl59_1, el53, sz47, en28, dx]
 repeat refine an ?_
 refine callK_p (a1) rfl ?_
 simp (maxSteps := 9^9) (disch := (try simp only [lens]); omega) only [argSl, sm, ↓amb, mark_eq, simprocAttr, vr59, bt59, pl59_0, pl59_1, el53, sz47, en28, dx]
 repeat refine an ?_
 refine hk _ ?_; clear hk k
 refine awp_le (le_keep [1, 2, 3, 4]) ?_
 simp only [kp, argSl, simprocAttr]
 refine awp_sr [] (by rw [hC]; rfl) fun k hk => ?_
 simp (maxSteps := 9^9) (disch := (try simp only [lens]); omega) only [argSl, sm, ↓amb, mark_eq, simprocAttr, el22, vr41, sz47, en23, dx]
 repeat refine an ?_
 refine callK_p (a2) rfl ?_
 simp (maxSteps := 9^9) (disch := (try simp only [lens]); omega) only [argSl, sm, ↓amb, mark_eq, simprocAttr, el22, vr41, sz47, en23, dx]
 repeat refine an ?_
 refine hk _ ?_; clear hk k
 refine awp_le (le_keep [1, 2, 3, 4, 5, 6, 7, 8]) ?_
 simp only [kp, argSl, simprocAttr]
 refine awp_sr [] (by rw [hC]; rfl) fun k hk => ?_
 simp (maxSteps := 9^9) (disch := (try simp only [lens]); omega) only [argSl, sm, ↓amb, mark_eq, simprocAttr, el22, vr41, sz47, en25, dx]
 repeat refine an ?_
 refine callK_p (a3) rfl ?_
 simp (maxSteps := 9^9) (disch := (try simp only [lens]); omega) only [argSl, sm, ↓amb, mark_eq, simprocAttr, el22, vr41, sz47, en25, dx]
 repeat refine an ?_
 refine hk _ ?_; clear hk k
 refine awp_le (le_keep [1, 2, 3, 4, 5, 6, 7, 8, 9, 10, 11]) ?_
 simp only [kp, argSl, simprocAttr]
 refine awp_sr [] (by rw [hC]; rfl) fun k hk => ?_
 simp (maxSteps := 9^9) (disch := (try simp only [lens]); omega) only [argSl, sm, ↓amb, mark_eq, simprocAttr, vr59, bt59, pl59_0, el53, sz47, en28, dx]
 repeat refine an ?_
 refine callK_p (a4) rfl ?_
 simp (maxSteps := 9^9) (disch := (try simp only [lens]); omega) only [argSl, sm, ↓amb, mark_eq, simprocAttr, vr59, bt59, pl59_0, el53, sz47, en28, dx]
 repeat refine an ?_
 refine hk _ ?_; clear hk k
 refine awp_le (le_keep [2, 3, 4, 5, 6, 7, 8, 9, 10, 11, 14]) ?_
 simp only [kp, argSl, simprocAttr]
 refine awp_sr [] (by rw [hC]; rfl) fun k hk => ?_
 simp (maxSteps := 9^9) (disch := (try simp only [lens]); omega) only [argSl, sm, ↓amb, mark_eq, simprocAttr, vr59, bt59, pl59_0, pl59_1, en30, dx]
 repeat refine an ?_
 refine callK_p (a5) rfl ?_
 simp (maxSteps := 9^9) (disch := (try simp only [lens]); omega) only [argSl, sm, ↓amb, mark_eq, simprocAttr, vr59, bt59, pl59_0, pl59_1, en30, dx]
 repeat refine an ?_
 refine hk _ ?_; clear hk k
 refine awp_test [] 0 (decide (True)) [] (by rw [hC]; rfl) (fun gd hgd k hk => ?_) ?_
 ·have g2 : gd 2 = some 60 := by rw [hgd]; rfl
  have g6 : gd 6 = some 64 := by rw [hgd]; rfl
  have g10 : gd 10 = some 68 := by rw [hgd]; rfl
  have g14 : gd 14 = some 72 := by rw [hgd]; rfl
  have g21 : gd 21 = some 79 := by rw [hgd]; rfl
  have g25 : gd 25 = some 83 := by rw [hgd]; rfl
  have g30 : gd 30 = some 88 := by rw [hgd]; rfl
  have g35 : gd 35 = some 93 := by rw [hgd]; rfl
  have g40 : gd 40 = some 98 := by rw [hgd]; rfl
  have g45 : gd 45 = some 103 := by rw [hgd]; rfl
  have g50 : gd 50 = some 108 := by rw [hgd]; rfl
  have g54 : gd 54 = some 112 := by rw [hgd]; rfl
  have g57 : gd 57 = some 115 := by rw [hgd]; rfl
  have g63 : gd 63 = some 121 := by rw [hgd]; rfl
  clear hgd
  simp (maxSteps := 9^9) (disch := (try simp only [lens]); omega) only [argSl, sm, ↓amb, mark_eq, simprocAttr, vr59, bt59, pl59_1, pl59_0, el53, en34, el22, vr41, en18, el33, vr3, en19, en32, ff59, en26, gcase_undef, g2, g6, g10, g14, g21, g25, g30, g35, g40, g45, g50, g54, g57, g63, dx]
  repeat' first | refine hk _ _ rfl rfl rfl rfl ?_ | (refine gsplit (fun hg => ?_) (fun hg => ?_) <;> (try simp only [hbx] at hg) <;> simp (maxSteps := 9^9) (disch := (try simp only [lens]); omega) only [argSl, sm, ↓amb, mark_eq, simprocAttr, vr59, bt59, pl59_1, pl59_0, el53, en34, el22, vr41, en18, el33, vr3, en19, en32, ff59, en26, gcase_undef, g2, g6, g10, g14, g21, g25, g30, g35, g40, g45, g50, g54, g57, g63, dx]) | apply And.intro | (refine callK_p (b1) rfl ?_; (try simp (maxSteps := 9^9) (disch := (try simp only [lens]); omega) only [argSl, sm, ↓amb, mark_eq, simprocAttr, vr59, bt59, pl59_1, pl59_0, el53, en34, el22, vr41, en18, el33, vr3, en19, en32, ff59, en26, gcase_undef, g2, g6, g10, g14, g21, g25, g30, g35, g40, g45, g50, g54, g57, g63, dx])) | (refine callK_p (b2) rfl ?_; (try simp (maxSteps := 9^9) (disch := (try simp only [lens]); omega) only [argSl, sm, ↓amb, mark_eq, simprocAttr, vr59, bt59, pl59_1, pl59_0, el53, en34, el22, vr41, en18, el33, vr3, en19, en32, ff59, en26, gcase_undef, g2, g6, g10, g14, g21, g25, g30, g35, g40, g45, g50, g54, g57, g63, dx])) | (refine callK_p (b3) rfl ?_; (try simp (maxSteps := 9^9) (disch := (try simp only [lens]); omega) only [argSl, sm, ↓amb, mark_eq, simprocAttr, vr59, bt59, pl59_1, pl59_0, el53, en34, el22, vr41, en18, el33, vr3, en19, en32, ff59, en26, gcase_undef, g2, g6, g10, g14, g21, g25, g30, g35, g40, g45, g50, g54, g57, g63, dx])) | (refine callK_p (b4) rfl ?_; (try simp (maxSteps := 9^9) (disch := (try simp only [lens]); omega) only [argSl, sm, ↓amb, mark_eq, simprocAttr, vr59, bt59, pl59_1, pl59_0, el53, en34, el22, vr41, en18, el33, vr3, en19, en32, ff59, en26, gcase_undef, g2, g6, g10, g14, g21, g25, g30, g35, g40, g45, g50, g54, g57, g63, dx])) | (refine callK_p (a6) rfl ?_; (try simp (maxSteps := 9^9) (disch := (try simp only [lens]); omega) only [argSl, sm, ↓amb, mark_eq, simprocAttr, vr59, bt59, pl59_1, pl59_0, el53, en34, el22, vr41, en18, el33, vr3, en19, en32, ff59, en26, gcase_undef, g2, g6, g10, g14, g21, g25, g30, g35, g40, g45, g50, g54, g57, g63, dx])) | (refine callK_p (b5) rfl ?_; (try simp (maxSteps := 9^9) (disch := (try simp only [lens]); omega) only [argSl, sm, ↓amb, mark_eq, simprocAttr, vr59, bt59, pl59_1, pl59_0, el53, en34, el22, vr41, en18, el33, vr3, en19, en32, ff59, en26, gcase_undef, g2, g6, g10, g14, g21, g25, g30, g35, g40, g45, g50, g54, g57, g63, dx])) | (refine callK_p (b6) rfl ?_; (try simp (maxSteps := 9^9) (disch := (try simp only [lens]); omega) only [argSl, sm, ↓amb, mark_eq, simprocAttr, vr59, bt59, pl59_1, pl59_0, el53, en34, el22, vr41, en18, el33, vr3, en19, en32, ff59, en26, gcase_undef, g2, g6, g10, g14, g21, g25, g30, g35, g40, g45, g50, g54, g57, g63, dx])) | fail
  all_goals first | rfl | omega | exact (decide_eq_true (by omega)).symm | exact (decide_eq_false (by omega)).symm | exact decide_eq_decide.mpr (by omega) | (refine Bool.eq_iff_iff.mpr ?_; simp only [beq_iff_eq, bne_iff_ne, ne_eq, decide_eq_true_eq]; omega) | (refine Bool.eq_iff_iff.mpr ?_; simp only [Bool.not_eq_true', Bool.not_eq_false', decide_eq_false_iff_not, decide_eq_true_eq, beq_iff_eq, bne_iff_ne, ne_eq]; omega) | assumption | (simp; done) | (simp [maxLen]; omega) | skip
 simp only [kp, argSl, simprocAttr, List.length_cons, List.length_nil]
 refine awp_ret ?_
 refine ret1 rfl rfl ?_
 exact .p (LeP.refl _)
end Go.Proofs.Ytbehekmnccoifaa
end
section
set_option linter.unusedSimpArgs false
set_option linter.unusedVariables false
namespace Go.Pl
theorem keyE_fit {e : Edge} (h : fitE e) : keyE e = min e.u e.v * 65536 + max e.u e.v := if_pos h
theorem edge_iff (a b : Edge) : a = b ↔ a.u = b.u ∧ a.v = b.v := by cases a; cases b; simp
theorem key_same {a b : Edge} (ha : fitE a) (hb : fitE b) : keyE a = keyE b ↔ (a = b ∨ (a.u = b.v ∧ a.v = b.u)) := by
  rw [keyE_fit ha, keyE_fit hb]
  unfold fitE at ha hb
  obtain ⟨au, av⟩ := a
  obtain ⟨bu, bv⟩ := b
  simp only [Edge.mk.injEq] at *
  omega
theorem unkey_key {a : Edge} (ha : fitE a) : unkey (keyE a) = ⟨min a.u a.v, max a.u a.v⟩ := by
  rw [keyE_fit ha]
  unfold fitE at ha
  unfold unkey
  simp only [Edge.mk.injEq]
  omega
theorem key_unkey {a : Edge} (ha : fitE a) : fitE (unkey (keyE a)) ∧ keyE (unkey (keyE a)) = keyE a ∧ (unkey (keyE a)).u ≤ (unkey (keyE a)).v ∧ (unkey (keyE a) = a ∨ unkey (keyE a) = ⟨a.v, a.u⟩) := by
  have h1 := unkey_key ha
  rw [h1]
  have h2 : fitE ⟨min a.u a.v, max a.u a.v⟩ := by unfold fitE at *; simp only; omega
  refine ⟨h2, ?_, by simp only; omega, ?_⟩
  · rw [keyE_fit h2, keyE_fit ha]; simp only; omega
  · obtain ⟨au, av⟩ := a
    simp only [Edge.mk.injEq]
    omega
end Go.Pl
end
section
set_option linter.unusedSimpArgs false
set_option linter.unusedVariables false
set_option maxRecDepth 100000
namespace Go.Proofs.Ytbehekmnccoifaa
open Go.Am Go.Proofs
theorem en22 : enters Try.prog 22 = true := by kernel_rfl
set_option maxHeartbeats 4000000 in
theorem c_law11_DedupKeys (a b : Pl.Edge) : PCall Try.prog 10 [.agg (edgeC a), .agg (edgeC b)] (bV true) := by
 refine pcall_of_awp Try.func10 rfl (by simp [Try.ntmps10]) fun C hC => ?_
 refine awp_le (le_keep [0, 1]) ?_
 simp only [kp, argSl, simprocAttr]
 refine awp_sr [] (by rw [hC]; rfl) fun k hk => ?_
 simp (maxSteps := 9^9) (disch := (try simp only [lens]); omega) only [argSl, sm, ↓amb, mark_eq, simprocAttr, dx]
 repeat refine an ?_
 refine hk _ ?_; clear hk k
 refine awp_seq fun k1 h1 => ?_
 refine awp_le (le_keep [2, 3, 4]) ?_
 simp only [kp, argSl, simprocAttr]
 refine awp_sr [] (by rw [hC]; rfl) fun k hk => ?_
 simp (maxSteps := 9^9) (disch := (try simp only [lens]); omega) only [argSl, sm, ↓amb, mark_eq, simprocAttr, en22, dx]
 repeat refine an ?_
 refine callK_p (c_law11_alive) rfl ?_
 simp (maxSteps := 9^9) (disch := (try simp only [lens]); omega) only [argSl, sm, ↓amb, mark_eq, simprocAttr, en22, dx]
 repeat refine an ?_
 refine hk _ ?_; clear hk k
 refine awp_cond rfl (fun hb => ?_) (fun hb => ?_)
 ·try simp only [hbx] at hb
  refine awp_le (le_keep []) ?_
  simp only [kp, argSl, simprocAttr]
  refine awp_sr [] (by rw [hC]; rfl) fun k hk => ?_
  simp (maxSteps := 9^9) (disch := (try simp only [lens]); omega) only [argSl, sm, ↓amb, mark_eq, simprocAttr, dx]
  repeat refine an ?_
  refine hk _ ?_; clear hk k
  refine awp_ret ?_
  exact absurd hb (by simp)
 ·try simp only [hbx] at hb
  refine awp_skip ?_
  refine h1 _ ?_; clear h1 k1
  refine awp_le (le_keep [2, 3]) ?_
  simp only [kp, argSl, simprocAttr]
  refine awp_sr [] (by rw [hC]; rfl) fun k hk => ?_
  simp (maxSteps := 9^9) (disch := (try simp only [lens]); omega) only [argSl, sm, ↓amb, mark_eq, simprocAttr, sz59, en30, dx]
  repeat refine an ?_
  refine callK_p (c_dedup_Key _) rfl ?_
  simp (maxSteps := 9^9) (disch := (try simp only [lens]); omega) only [argSl, sm, ↓amb, mark_eq, simprocAttr, sz59, en30, dx]
  repeat refine an ?_
  refine hk _ ?_; clear hk k
  refine awp_le (le_keep [2, 3, 5, 6]) ?_
  simp only [kp, argSl, simprocAttr]
  refine awp_sr [] (by rw [hC]; rfl) fun k hk => ?_
  simp (maxSteps := 9^9) (disch := (try simp only [lens]); omega) only [argSl, sm, ↓amb, mark_eq, simprocAttr, sz59, en30, dx]
  repeat refine an ?_
  refine callK_p (c_dedup_Key _) rfl ?_
  simp (maxSteps := 9^9) (disch := (try simp only [lens]); omega) only [argSl, sm, ↓amb, mark_eq, simprocAttr, sz59, en30, dx]
  repeat refine an ?_
  refine hk _ ?_; clear hk k
  refine awp_seq fun k2 h2 => ?_
  refine awp_test [] 30 (decide (¬ Pl.fitE a ∨ ¬ Pl.fitE b)) [2, 3, 4, 5, 6, 7, 8] (by rw [hC]; rfl) (fun gd hgd k hk => ?_) ?_
  ·have g2 : gd 2 = some 27 := by rw [hgd]; rfl
   clear hgd
   simp (maxSteps := 9^9) (disch := (try simp only [lens]); omega) only [argSl, sm, ↓amb, mark_eq, simprocAttr, gcase_undef, g2, dx]
   repeat' first | refine hk _ _ rfl rfl rfl rfl ?_ | (refine gsplit (fun hg => ?_) (fun hg => ?_) <;> (try simp only [hbx] at hg) <;> simp (maxSteps := 9^9) (disch := (try simp only [lens]); omega) only [argSl, sm, ↓amb, mark_eq, simprocAttr, gcase_undef, g2, dx]) | apply And.intro | fail
   all_goals first | rfl | omega | exact (decide_eq_true (by (try simp only [Pl.fitE] at *); omega)).symm | exact (decide_eq_false (by (try simp only [Pl.fitE] at *); omega)).symm | exact decide_eq_decide.mpr (by (try simp only [Pl.fitE] at *); omega) | (refine Bool.eq_iff_iff.mpr ?_; (try simp only [Pl.fitE] at *); simp only [beq_iff_eq, bne_iff_ne, ne_eq, decide_eq_true_eq]; omega) | (refine Bool.eq_iff_iff.mpr ?_; simp only [Bool.not_eq_true', Bool.not_eq_false', decide_eq_false_iff_not, decide_eq_true_eq, beq_iff_eq, bne_iff_ne, ne_eq]; (try simp only [Pl.fitE] at *); omega) | assumption | (simp; done) | (simp [maxLen]; omega) | skip
   all_goals first | (exfalso; omega) | rfl | (exfalso; exact absurd rfl (by assumption)) | (simp; done) | (simp_all; done) | trace_state
  simp only [kp, argSl, simprocAttr, List.length_cons, List.length_nil]
  refine awp_cond rfl (fun hb => ?_) (fun hb => ?_)
  ·try simp only [hbx] at hb
   have za : ¬ Pl.fitE a → Pl.keyE a = 0 := fun h => if_neg h
   have zb : ¬ Pl.fitE b → Pl.keyE b = 0 := fun h => if_neg h
   unfold Pl.fitE at za zb
   refine awp_test [] 4 (decide (True)) [] (by rw [hC]; rfl) (fun gd hgd k hk => ?_) ?_
   ·have g1 : gd 1 = some 32 := by rw [hgd]; rfl
    have g5 : gd 5 = some 36 := by rw [hgd]; rfl
    have g7 : gd 7 = some 38 := by rw [hgd]; rfl
    clear hgd
    simp (maxSteps := 9^9) (disch := (try simp only [lens]); omega) only [argSl, sm, ↓amb, mark_eq, simprocAttr, gcase_undef, g1, g5, g7, dx]
    repeat' first | refine hk _ _ rfl rfl rfl rfl ?_ | (refine gsplit (fun hg => ?_) (fun hg => ?_) <;> (try simp only [hbx] at hg) <;> simp (maxSteps := 9^9) (disch := (try simp only [lens]); omega) only [argSl, sm, ↓amb, mark_eq, simprocAttr, gcase_undef, g1, g5, g7, dx]) | apply And.intro | fail
    all_goals first | rfl | omega | exact (decide_eq_true (by (try simp only [Pl.fitE] at *); omega)).symm | exact (decide_eq_false (by (try simp only [Pl.fitE] at *); omega)).symm | exact decide_eq_decide.mpr (by (try simp only [Pl.fitE] at *); omega) | (refine Bool.eq_iff_iff.mpr ?_; (try simp only [Pl.fitE] at *); simp only [beq_iff_eq, bne_iff_ne, ne_eq, decide_eq_true_eq]; omega) | (refine Bool.eq_iff_iff.mpr ?_; simp only [Bool.not_eq_true', Bool.not_eq_false', decide_eq_false_iff_not, decide_eq_true_eq, beq_iff_eq, bne_iff_ne, ne_eq]; (try simp only [Pl.fitE] at *); omega) | assumption | (simp; done) | (simp [maxLen]; omega) | skip
    all_goals first | (exfalso; omega) | rfl | (exfalso; exact absurd rfl (by assumption)) | (simp; done) | (simp_all; done) | (rw [zb (by omega)]; rfl) | (exact absurd (za (by omega)) (by assumption)) | trace_state
   simp only [kp, argSl, simprocAttr, List.length_cons, List.length_nil]
   refine awp_ret ?_
   refine ret1 rfl rfl ?_
   exact .p (LeP.refl _)
  ·try simp only [hbx] at hb
   refine awp_skip ?_
   refine h2 _ ?_; clear h2 k2
   have ha : Pl.fitE a := Decidable.byContradiction fun h => hb (.inl h)
   have hb2 : Pl.fitE b := Decidable.byContradiction fun h => hb (.inr h)
   refine awp_test [] 9 (decide ((a = b ∨ (a.u = b.v ∧ a.v = b.u)))) [2, 5, 7] (by rw [hC]; rfl) (fun gd hgd k hk => ?_) ?_
   ·have g3 : gd 3 = some 46 := by rw [hgd]; rfl
    have g9 : gd 9 = some 52 := by rw [hgd]; rfl
    clear hgd
    simp (maxSteps := 9^9) (disch := (try simp only [lens]); omega) only [argSl, sm, ↓amb, mark_eq, simprocAttr, sz59, ff59, fl59_0, sz3, fl59_1, gcase_undef, g3, g9, dx]
    repeat' first | refine hk _ _ rfl rfl rfl rfl ?_ | (refine gsplit (fun hg => ?_) (fun hg => ?_) <;> (try simp only [hbx] at hg) <;> simp (maxSteps := 9^9) (disch := (try simp only [lens]); omega) only [argSl, sm, ↓amb, mark_eq, simprocAttr, sz59, ff59, fl59_0, sz3, fl59_1, gcase_undef, g3, g9, dx]) | apply And.intro | fail
    all_goals first | rfl | omega | exact (decide_eq_true (by (try simp only [Pl.fitE] at *); omega)).symm | exact (decide_eq_false (by (try simp only [Pl.fitE] at *); omega)).symm | exact decide_eq_decide.mpr (by (try simp only [Pl.fitE] at *); omega) | (refine Bool.eq_iff_iff.mpr ?_; (try simp only [Pl.fitE] at *); simp only [beq_iff_eq, bne_iff_ne, ne_eq, decide_eq_true_eq]; omega) | (refine Bool.eq_iff_iff.mpr ?_; simp only [Bool.not_eq_true', Bool.not_eq_false', decide_eq_false_iff_not, decide_eq_true_eq, beq_iff_eq, bne_iff_ne, ne_eq]; (try simp only [Pl.fitE] at *); omega) | assumption | (simp; done) | (simp [maxLen]; omega) | skip
    all_goals first | (exfalso; omega) | rfl | (exfalso; exact absurd rfl (by assumption)) | (simp; done) | (simp_all; done) | (refine (decide_eq_false ?_).symm; rw [Pl.edge_iff]; simp only [Bool.and_eq_false_iff, beq_eq_false_iff_ne, ne_eq, Bool.and_eq_true, beq_iff_eq] at *; omega) | (refine (decide_eq_true ?_).symm; rw [Pl.edge_iff]; simp only [Bool.and_eq_false_iff, beq_eq_false_iff_ne, ne_eq, Bool.and_eq_true, beq_iff_eq] at *; omega) | (refine Bool.eq_iff_iff.mpr ?_; simp only [Bool.and_eq_false_iff, beq_eq_false_iff_ne, ne_eq, Bool.and_eq_true] at *; simp only [beq_iff_eq, decide_eq_true_eq, Pl.edge_iff, Bool.false_eq_true]; omega) | trace_state
   simp only [kp, argSl, simprocAttr, List.length_cons, List.length_nil]
   refine awp_le (le_keep [2, 5, 7, 9]) ?_
   simp only [kp, argSl, simprocAttr]
   refine awp_sr [] (by rw [hC]; rfl) fun k hk => ?_
   simp (maxSteps := 9^9) (disch := (try simp only [lens]); omega) only [argSl, sm, ↓amb, mark_eq, simprocAttr, en32, vr59, sz59, dx]
   repeat refine an ?_
   refine callK_p (c_dedup_Edge _ (Pl.keyE_w _)) rfl ?_
   simp (maxSteps := 9^9) (disch := (try simp only [lens]); omega) only [argSl, sm, ↓amb, mark_eq, simprocAttr, en32, vr59, sz59, dx]
   repeat refine an ?_
   refine hk _ ?_; clear hk k
   refine awp_le (le_keep [2, 5, 7, 9, 10]) ?_
   simp only [kp, argSl, simprocAttr]
   refine awp_sr [] (by rw [hC]; rfl) fun k hk => ?_
   simp (maxSteps := 9^9) (disch := (try simp only [lens]); omega) only [argSl, sm, ↓amb, mark_eq, simprocAttr, sz59, en30, dx]
   repeat refine an ?_
   refine callK_p (c_dedup_Key _) rfl ?_
   simp (maxSteps := 9^9) (disch := (try simp only [lens]); omega) only [argSl, sm, ↓amb, mark_eq, simprocAttr, sz59, en30, dx]
   repeat refine an ?_
   refine hk _ ?_; clear hk k
   have s1 := Pl.key_same ha hb2
   obtain ⟨u1, u2, u3, u4⟩ := Pl.key_unkey ha
   rw [u2]
   have e1 : (Pl.keyE a == Pl.keyE b) = decide (a = b ∨ (a.u = b.v ∧ a.v = b.u)) := by rw [Bool.eq_iff_iff, beq_iff_eq, decide_eq_true_eq]; exact s1
   rw [Pl.edge_iff, Pl.edge_iff] at u4
   unfold Pl.fitE at u1
   refine awp_test [] 4 (decide (True)) [] (by rw [hC]; rfl) (fun gd hgd k hk => ?_) ?_
   ·have g5 : gd 5 = some 72 := by rw [hgd]; rfl
    have g8 : gd 8 = some 75 := by rw [hgd]; rfl
    have g13 : gd 13 = some 80 := by rw [hgd]; rfl
    have g20 : gd 20 = some 87 := by rw [hgd]; rfl
    have g24 : gd 24 = some 91 := by rw [hgd]; rfl
    clear hgd
    simp (maxSteps := 9^9) (disch := (try simp only [lens]); omega) only [argSl, sm, ↓amb, mark_eq, simprocAttr, fl59_0, sz3, fl59_1, sz59, ff59, vr59, bt59, pl59_0, pl59_1, gcase_undef, g5, g8, g13, g20, g24, dx]
    repeat' first | refine hk _ _ rfl rfl rfl rfl ?_ | (refine gsplit (fun hg => ?_) (fun hg => ?_) <;> (try simp only [hbx] at hg) <;> simp (maxSteps := 9^9) (disch := (try simp only [lens]); omega) only [argSl, sm, ↓amb, mark_eq, simprocAttr, fl59_0, sz3, fl59_1, sz59, ff59, vr59, bt59, pl59_0, pl59_1, gcase_undef, g5, g8, g13, g20, g24, dx]) | apply And.intro | fail
    all_goals first | rfl | omega | exact (decide_eq_true (by (try simp only [Pl.fitE] at *); omega)).symm | exact (decide_eq_false (by (try simp only [Pl.fitE] at *); omega)).symm | exact decide_eq_decide.mpr (by (try simp only [Pl.fitE] at *); omega) | (refine Bool.eq_iff_iff.mpr ?_; (try simp only [Pl.fitE] at *); simp only [beq_iff_eq, bne_iff_ne, ne_eq, decide_eq_true_eq]; omega) | (refine Bool.eq_iff_iff.mpr ?_; simp only [Bool.not_eq_true', Bool.not_eq_false', decide_eq_false_iff_not, decide_eq_true_eq, beq_iff_eq, bne_iff_ne, ne_eq]; (try simp only [Pl.fitE] at *); omega) | assumption | (simp; done) | (simp [maxLen]; omega) | skip
    all_goals first | (exfalso; omega) | rfl | (exfalso; exact absurd rfl (by assumption)) | (simp; done) | (simp_all; done) | (exact absurd e1 (by assumption)) | (simp only [Bool.and_eq_false_iff, beq_eq_false_iff_ne, ne_eq, decide_true, Bool.and_eq_true, beq_iff_eq, Bool.false_eq_true] at *; omega) | trace_state
   simp only [kp, argSl, simprocAttr, List.length_cons, List.length_nil]
   refine awp_ret ?_
   refine ret1 rfl rfl ?_
   exact .p (LeP.refl _)
end Go.Proofs.Ytbehekmnccoifaa
end
section
namespace Go.Proofs.Ytbehekmnccoifaa
open Go.Am Go.Proofs
theorem Try.own : ownKnob Try.prog.godebug = none := by kernel_rfl
theorem Try.laidOut : laidOutB Try.prog = true := by kernel_rfl
abbrev W64 (n : Int) : Prop := (Lit.int .i64 n).wf = true
theorem op_int : Opens Try.prog 3 Int (fun n => (Lit.int .i64 n).wf = true) (fun n => [.lit (.int .i64 n)]) := opens_int Try.underlying3
theorem op_edge : Opens Try.prog 59 Pl.Edge (fun e => W64 e.u ∧ W64 e.v) (edgeC) := (opens_agg (ts := [3, 3]) (by kernel_rfl) (.cons op_int (.cons op_int .nil))).map (fun p => ⟨p.1, p.2.1⟩) (fun _ h => ⟨⟨h.1, h.2.1⟩, rfl⟩)
end Go.Proofs.Ytbehekmnccoifaa
end
section
namespace Go.Proofs.Ytbehekmnccoifaa
open Go.ChangeShapes Go.WideShapes Go.ChangeAt Go.RowKit Go.Am
set_option maxRecDepth 100000 in
theorem dedupKeys_lifted (os : Os) (started : os.Started) (H : Type) (enc : TypeId × Value → H) :
    ReturnsInHanded {} Try.checked os 10 .any (Rows.dedupKeysSpec.pre6 enc Try.prog Try.f10 Rows.dedupKeysRow.domain false) (Rows.dedupKeysSpec.post enc Try.prog Try.f10 false true false false) := by
  refine returnsInHanded_of_change (C := Try.checked) Try.own started (by kernel_rfl) Try.func10
    (ChangeSpec.witness6 (enc := enc) (C := Try.checked) false ⟨#[], #[.agg #[.int .i64 0, .int .i64 0], .agg #[.int .i64 0, .int .i64 0]], []⟩ 20 (by kernel_rfl) (by kernel_rfl) (by kernel_rfl) (by kernel_rfl)) ?_
  intro W base args ds gs before hval0 hW hcnd _
  have hval : ∀ (j : Nat) t v, Try.f10.params[j]? = some t → args[j]? = some v → Value.okWide Try.prog W .any base t v := hval0
  have hW' := hW
  have hlt := hW.lt
  obtain ⟨p, q, hA0, hV, rfl, hfz, hnd⟩ := hW
  have hA : DataW.TrodAll enc Try.prog W 0 (fun _ => true) true Try.f10.params.toList args.toList ds p := hA0
  rw [Try.params10] at hA hval
  obtain ⟨v0, v1, d0, d1, p0, p1, rfl, rfl, rfl, h0, h1⟩ := trodAll_two hA
  obtain ⟨rfl, rfl⟩ := trodVars_none hV
  obtain ⟨cs0, rfl⟩ := okWide_agg (by kernel_rfl) (hval 0 59 _ rfl rfl)
  obtain ⟨a0, k0, r0⟩ := arg_agg op_edge h0
  obtain ⟨cs1, rfl⟩ := okWide_agg (by kernel_rfl) (hval 1 59 _ rfl rfl)
  obtain ⟨a1, k1, r1⟩ := arg_agg op_edge h1
  clear hA0 hval0
  simp only [List.append_nil] at hW' hlt
  refine (law_calls (c_law11_DedupKeys a0 a1) rfl ?_).mono fun e W' ⟨he, hB⟩ => ?_
  · intro i x hx
    match i, hx with
    | 0, hx => simp only [List.getElem?_cons_zero, Option.some.injEq] at hx; subst hx; exact r0
    | 1, hx => simp only [List.getElem?_cons_succ, List.getElem?_cons_zero, Option.some.injEq] at hx; subst hx; exact r1
    | i + 2, hx => simp at hx
  subst he
  exact ⟨_, rfl, law_post (pv := []) hW' (fun _ _ _ => trodAll_mk1 (shut_bool Try.underlying4 _))
    (fun sp hs => trodAll_mk2 (WideElems.Trod_stays Try.laidOut (by kernel_rfl) (of_decide_eq_true (by kernel_rfl)) h0 (fun x hx => hB.same (hlt x (by simp [hx]))) (fun x hx => hs x (by simp [hx]))) (WideElems.Trod_stays Try.laidOut (by kernel_rfl) (of_decide_eq_true (by kernel_rfl)) h1 (fun x hx => hB.same (hlt x (by simp [hx]))) (fun x hx => hs x (by simp [hx]))))
    (fun _ _ => rfl) (by simp) hB (ok_one (by kernel_rfl) rfl (okWide_bool_mk Try.underlying4 _))⟩
theorem dedupKeys_holds : Rows.DedupKeysSaid :=
  OpenClaim.holds_of_wide 10 Try.f10 rfl rfl rfl rfl rfl rfl rfl ⟨rfl, rfl, rfl, rfl, rfl⟩ rfl rfl rfl rfl rfl (by kernel_rfl) Try.func10 (by kernel_rfl)
    (of_decide_eq_true (by kernel_rfl)) (by unfold Func.isWrapper; first | (rw [if_pos (by decide +kernel)]; kernel_rfl) | (rw [if_neg (by decide +kernel)]; exact ⟨rfl, rfl⟩))
    (fun os started H enc _ => dedupKeys_lifted os started H enc)
#print axioms dedupKeys_holds
end Go.Proofs.Ytbehekmnccoifaa
end
