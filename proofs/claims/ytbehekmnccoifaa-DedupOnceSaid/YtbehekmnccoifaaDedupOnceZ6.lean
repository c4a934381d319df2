/-
  DedupOnce, part 6 of 6: what the proof that the law holds at whatever arguments stands on; the last part holds the theorem. No condition.
-/
import Derived.Test.YtbehekmnccoifaaDedupOnceZ5
import Derived.Test.YtbehekmnccoifaaRows
section
set_option linter.unusedSimpArgs false
set_option linter.unusedVariables false
set_option maxRecDepth 100000
namespace Go.Proofs.Ytbehekmnccoifaa
open Go.Am Go.Proofs
theorem el53 : tEl Try.prog 53 = some 59 := by kernel_rfl
theorem ff59 : tFlat Try.prog 59 = some [some .i64, some .i64] := by kernel_rfl
set_option maxHeartbeats 4000000 in
theorem c_ref11_Same (c d : Bool) (a b : List Pl.Edge) (ha : a.length ≤ 1000000) : PCall Try.prog 34 [.seq c (a.map edgeC), .seq d (b.map edgeC)] (bV (decide (a = b))) := by
 refine pcall_of_awp Try.func34 rfl (by simp [Try.ntmps34]) fun C hC => ?_
 refine awp_le (le_keep [0, 1]) ?_
 simp only [kp, argSl, simprocAttr]
 refine awp_sr [] (by rw [hC]; rfl) fun k hk => ?_
 simp (maxSteps := 9^9) (disch := (try simp only [lens]); omega) only [argSl, sm, ↓amb, mark_eq, simprocAttr, dx]
 repeat refine an ?_
 refine hk _ ?_; clear hk k
 refine awp_seq fun k1 h1 => ?_
 refine awp_le (le_keep [0, 1, 4]) ?_
 simp only [kp, argSl, simprocAttr]
 refine awp_sr [] (by rw [hC]; rfl) fun k hk => ?_
 simp (maxSteps := 9^9) (disch := (try simp only [lens]); omega) only [argSl, sm, ↓amb, mark_eq, simprocAttr, el53, dx]
 repeat refine an ?_
 refine hk _ ?_; clear hk k
 refine awp_cond rfl (fun hb => ?_) (fun hb => ?_)
 ·try simp only [hbx] at hb
  refine awp_le (le_keep []) ?_
  simp only [kp, argSl, simprocAttr]
  refine awp_sr [] (by rw [hC]; rfl) fun k hk => ?_
  simp (maxSteps := 9^9) (disch := (try simp only [lens]); omega) only [argSl, sm, ↓amb, mark_eq, simprocAttr, dx]
  repeat refine an ?_
  refine hk _ ?_; clear hk k
  refine awp_ret ?_
  refine ret1 rfl rfl ?_
  exact .p (LeP.of_eq (by rw [decide_eq_false (fun e => hb (by rw [e]))]))
 ·try simp only [hbx] at hb
  refine awp_skip ?_
  refine h1 _ ?_; clear h1 k1
  refine awp_seq fun k2 h2 => ?_
  refine awp_le (le_keep [0, 1, 4]) ?_
  simp only [kp, argSl, simprocAttr]
  have hab : a.length = b.length := by omega
  refine awp_sr [] (by rw [hC]; rfl) fun k hk => ?_
  simp (maxSteps := 9^9) (disch := (try simp only [lens]); omega) only [argSl, sm, ↓amb, mark_eq, simprocAttr, dx]
  repeat refine an ?_
  refine hk _ ?_; clear hk k
  refine awp_block ?_
  refine awp_loop (σ := Nat) (fun i => i ≤ a.length ∧ ∀ j, j < i → a.getD j default = b.getD j default) (fun (i : Nat) => ⟨[(0, (.p (.seq c (a.map edgeC)))), (1, (.p (.seq d (b.map edgeC)))), (5, (.p (iV i)))], [], 1⟩) (fun i => a.length - i) 0 ?_ ?_ fun i hi => ?_
  ·exact ⟨Nat.zero_le _, fun j hj => by omega⟩
  ·exact le_of [] (by rfl) (by rfl) ⟨⟨_, rfl, .oe⟩, ⟨_, rfl, .oe⟩, ⟨_, rfl, .oe⟩, trivial⟩ trivial
  obtain ⟨hi1, hi2⟩ := hi
  refine awp_seq fun k4 h4 => ?_
  refine awp_le (le_keep [0, 1, 4, 5]) ?_
  simp only [kp, argSl, simprocAttr]
  refine awp_sr [] (by rw [hC]; rfl) fun k hk => ?_
  simp (maxSteps := 9^9) (disch := (try simp only [lens]); omega) only [argSl, sm, ↓amb, mark_eq, simprocAttr, el53, dx]
  repeat refine an ?_
  refine hk _ ?_; clear hk k
  refine awp_cond rfl (fun hb => ?_) (fun hb => ?_)
  ·try simp only [hbx] at hb
   refine awp_skip ?_
   refine h4 _ ?_; clear h4 k4
   refine awp_seq fun k5 h5 => ?_
   refine awp_block ?_
   refine awp_testD [] ⟨[0, 0, 3, 7, 0, 0, 48, 112, 255], [3, 7], [], [], some []⟩ 25 (decide (¬ a.getD i default = b.getD i default)) [0, 1, 4, 5] (by rw [hC]; rfl) (by kernel_rfl) (by kernel_rfl) (fun gd hgd k hk => ?_) ?_
   ·clear hgd
    simp (maxSteps := 9^9) (disch := (try simp only [lens]); omega) only [argSl, sm, ↓amb, mark_eq, simprocAttr, el53, sz59, ff59, gcase_undef, dx]
    repeat' first | refine hk _ _ rfl rfl rfl rfl ?_ | (refine gsplit (fun hg => ?_) (fun hg => ?_) <;> (try simp only [hbx] at hg) <;> simp (maxSteps := 9^9) (disch := (try simp only [lens]); omega) only [argSl, sm, ↓amb, mark_eq, simprocAttr, el53, sz59, ff59, gcase_undef, dx]) | apply And.intro | fail
    all_goals first | rfl | omega | exact (decide_eq_true (by omega)).symm | exact (decide_eq_false (by omega)).symm | exact decide_eq_decide.mpr (by omega) | (refine Bool.eq_iff_iff.mpr ?_; simp only [beq_iff_eq, bne_iff_ne, ne_eq, decide_eq_true_eq]; omega) | (refine Bool.eq_iff_iff.mpr ?_; simp only [Bool.not_eq_true', Bool.not_eq_false', decide_eq_false_iff_not, decide_eq_true_eq, beq_iff_eq, bne_iff_ne, ne_eq]; omega) | assumption | (simp; done) | (simp [maxLen]; omega) | skip
    all_goals exact Pl.edge_ne _ _
   simp only [kp, argSl, simprocAttr, List.length_cons, List.length_nil]
   refine awp_cond rfl (fun hb => ?_) (fun hb => ?_)
   ·try simp only [hbx] at hb
    refine awp_le (le_keep []) ?_
    simp only [kp, argSl, simprocAttr]
    refine awp_sr [] (by rw [hC]; rfl) fun k hk => ?_
    simp (maxSteps := 9^9) (disch := (try simp only [lens]); omega) only [argSl, sm, ↓amb, mark_eq, simprocAttr, dx]
    repeat refine an ?_
    refine hk _ ?_; clear hk k
    refine awp_ret ?_
    refine ret1 rfl rfl ?_
    exact .p (LeP.of_eq (by rw [decide_eq_false (fun e => hb (by rw [e]))]))
   ·try simp only [hbx] at hb
    refine awp_skip ?_
    refine h5 _ ?_; clear h5 k5
    refine awp_region [] (by rw [hC]; rfl) fun k hk => ?_
    simp (maxSteps := 9^9) (disch := (try simp only [lens]); omega) only [argSl, sm, ↓amb, mark_eq, simprocAttr, dx]
    repeat refine an ?_
    refine hk _ ?_; clear hk k
    refine ⟨i + 1, ⟨by omega, fun j hj => by by_cases e : j = i; (subst e; first | exact hb | exact Decidable.not_not.1 hb); exact hi2 j (by omega)⟩, le_of [] (by rfl) (by rfl) ⟨⟨_, rfl, .oe⟩, ⟨_, rfl, .oe⟩, ⟨_, rfl, .oe⟩, trivial⟩ trivial, by omega⟩
  ·try simp only [hbx] at hb
   refine awp_exit ((if_pos rfl).mpr ?_)
   refine h2 _ ?_; clear h4 k4; clear h2 k2
   refine awp_le (le_keep []) ?_
   simp only [kp, argSl, simprocAttr]
   refine awp_sr [] (by rw [hC]; rfl) fun k hk => ?_
   simp (maxSteps := 9^9) (disch := (try simp only [lens]); omega) only [argSl, sm, ↓amb, mark_eq, simprocAttr, dx]
   repeat refine an ?_
   refine hk _ ?_; clear hk k
   refine awp_ret ?_
   refine ret1 rfl rfl ?_
   exact .p (LeP.of_eq (by rw [decide_eq_true (Pl.edges_of hab (by omega) hi2)]))
end Go.Proofs.Ytbehekmnccoifaa
end
section
set_option linter.unusedSimpArgs false
set_option linter.unusedVariables false
set_option maxRecDepth 100000
namespace Go.Proofs.Ytbehekmnccoifaa
open Go.Am Go.Proofs
theorem awp_regiong {P : Program} {C : Ctx} {K : Exit → LS → Prop} {s : LS} {id : Nat} {l : List Oper} (H : List Nat) (hf : inFrame C.n l.toArray = true)
    (h : ∀ gd, gd = gdOf l.toArray → ∀ k : LS → Prop, (∀ s', K .normal s' → k s') → aops P H gd (fun s' => k ⟨s'.sl, s'.hp, s'.nx + l.length⟩) 0 l s) : Awp P C (.region id l.toArray false) K s := awp_region H hf (h _ rfl)
set_option maxHeartbeats 4000000 in
theorem c_dedup_firsts (c : Bool) (l : List Int) (hl : ∀ x, x ∈ l → Pl.W32 x) (hn : l.length ≤ 1000000) : PCall Try.prog 43 [words c l] (.seq false ((Pl.firstsL l).map fun q => [bV q])) := by
 refine pcall_of_awp Try.func43 rfl (by simp [Try.ntmps43]) fun C hC => ?_
 refine awp_le (le_keep [0]) ?_
 simp only [kp, argSl, simprocAttr]
 refine awp_sr [] (by rw [hC]; rfl) fun k hk => ?_
 simp (maxSteps := 9^9) (disch := (try simp only [lens]); omega) only [argSl, sm, ↓amb, mark_eq, simprocAttr, dx]
 repeat refine an ?_
 refine hk _ ?_; clear hk k
 refine awp_le (le_keep [0]) ?_
 simp only [kp, argSl, simprocAttr]
 refine awp_sr [] (by rw [hC]; rfl) fun k hk => ?_
 simp (maxSteps := 9^9) (disch := (try simp only [lens]); omega) only [argSl, sm, ↓amb, mark_eq, simprocAttr, el22, el23, by4, vr4, dx]
 repeat refine an ?_
 refine hk _ ?_; clear hk k
 refine awp_seq fun k1 h1 => ?_
 refine awp_le (le_keep [0, 2, 3]) ?_
 simp only [kp, argSl, simprocAttr]
 refine awp_sr [] (by rw [hC]; rfl) fun k hk => ?_
 simp (maxSteps := 9^9) (disch := (try simp only [lens]); omega) only [argSl, sm, ↓amb, mark_eq, simprocAttr, el22, dx]
 repeat refine an ?_
 refine hk _ ?_; clear hk k
 refine awp_block ?_
 refine awp_loop (σ := Nat) (fun i => i ≤ l.length) (fun (i : Nat) => ⟨[(0, (.p (words c l))), (3, (.own 0)), (9, (.p (words c l))), (10, (.p (iV l.length))), (11, (.p (iV (i : Int))))], [(0, (.row 1 (lift ((Pl.firT l i).map fun q => [bV q]))))], 1⟩) (fun i => l.length - i) 0 ?_ ?_ fun i hi => ?_
 ·exact Nat.zero_le _
 ·exact le_of [(0, _)] (by rfl) (by rfl) ⟨⟨_, rfl, .oe⟩, ⟨_, rfl, .own rfl⟩, ⟨_, rfl, .oe⟩, ⟨_, rfl, .oe⟩, ⟨_, rfl, .oe⟩, trivial⟩ ⟨⟨_, rfl, _, rfl, .liftE (by first | (rw [Pl.firT_0, List.map_replicate]; done) | (rw [← Pl.firT_set, List.map_set, z1 (by omega)]; first | done | rfl) | (rw [← Pl.firT_set, List.map_set, z2 (by omega), ← z3]; first | done | rfl) | trace_state)⟩, trivial⟩
 refine awp_le (le_keep [0, 2, 3, 9, 10, 11]) ?_
 simp only [kp, argSl, simprocAttr]
 refine awp_sr [] (by rw [hC]; rfl) fun k hk => ?_
 simp (maxSteps := 9^9) (disch := (try simp only [lens]); omega) only [argSl, sm, ↓amb, mark_eq, simprocAttr, dx]
 repeat refine an ?_
 refine hk _ ?_; clear hk k
 refine awp_seq fun k3 h3 => ?_
 refine awp_cond rfl (fun hb => ?_) (fun hb => ?_)
 ·try simp only [hbx] at hb
  refine awp_skip ?_
  refine h3 _ ?_; clear h3 k3
  refine awp_seq fun k4 h4 => ?_
  refine awp_block ?_
  refine awp_le (le_keep [0, 2, 3, 9, 10, 11]) ?_
  simp only [kp, argSl, simprocAttr]
  refine awp_sr [] (by rw [hC]; rfl) fun k hk => ?_
  simp (maxSteps := 9^9) (disch := (try simp only [lens]); omega) only [argSl, sm, ↓amb, mark_eq, simprocAttr, el22, sz41, dx]
  repeat refine an ?_
  refine hk _ ?_; clear hk k
  have zl := Pl.firT_len l i
  have z1 := fun h => Pl.firB_0 (l := l) (i := i) h
  have z2 := fun h => Pl.firB_1 (l := l) (i := i) h
  have z3 : ((i : Int) - 1).toNat = i - 1 := by omega
  refine awp_regiong [] (by rw [hC]; rfl) fun gd hgd k hk => ?_
  have g4 : gd 4 = some 20 := by rw [hgd]; rfl
  clear hgd
  simp (maxSteps := 9^9) (disch := (try simp only [lens]); omega) only [argSl, sm, ↓amb, mark_eq, simprocAttr, el22, sz41, el23, sz4, g4, a07, dx]
  repeat refine an ?_
  refine ⟨fun hg => ?_, fun hg => ?_⟩
  ·try simp only [hbx] at hg
   repeat refine an ?_
   refine hk _ ?_; clear hk k
   refine h4 _ ?_; clear h4 k4
   refine awp_region [] (by rw [hC]; rfl) fun k hk => ?_
   simp (maxSteps := 9^9) (disch := (try simp only [lens]); omega) only [argSl, sm, ↓amb, mark_eq, simprocAttr, dx]
   repeat refine an ?_
   refine hk _ ?_; clear hk k
   refine ⟨i + 1, by omega, le_of [(0, _)] (by rfl) (by rfl) ⟨⟨_, rfl, .oe⟩, ⟨_, rfl, .own rfl⟩, ⟨_, rfl, .oe⟩, ⟨_, rfl, .oe⟩, ⟨_, rfl, .oe⟩, trivial⟩ ⟨⟨_, rfl, _, rfl, .liftE (by first | (rw [Pl.firT_0, List.map_replicate]; done) | (rw [← Pl.firT_set, List.map_set, z1 (by omega)]; first | done | rfl) | (rw [← Pl.firT_set, List.map_set, z2 (by omega), ← z3]; first | done | rfl) | trace_state)⟩, trivial⟩, by omega⟩
  ·try simp only [hbx] at hg
   repeat refine an ?_
   refine hk _ ?_; clear hk k
   refine h4 _ ?_; clear h4 k4
   refine awp_region [] (by rw [hC]; rfl) fun k hk => ?_
   simp (maxSteps := 9^9) (disch := (try simp only [lens]); omega) only [argSl, sm, ↓amb, mark_eq, simprocAttr, dx]
   repeat refine an ?_
   refine hk _ ?_; clear hk k
   refine ⟨i + 1, by omega, le_of [(0, _)] (by rfl) (by rfl) ⟨⟨_, rfl, .oe⟩, ⟨_, rfl, .own rfl⟩, ⟨_, rfl, .oe⟩, ⟨_, rfl, .oe⟩, ⟨_, rfl, .oe⟩, trivial⟩ ⟨⟨_, rfl, _, rfl, .liftE (by first | (rw [Pl.firT_0, List.map_replicate]; done) | (rw [← Pl.firT_set, List.map_set, z1 (by omega)]; first | done | rfl) | (rw [← Pl.firT_set, List.map_set, z2 (by omega), ← z3]; first | done | rfl) | trace_state)⟩, trivial⟩, by omega⟩
 ·try simp only [hbx] at hb
  refine awp_exit ((if_pos rfl).mpr ?_)
  refine h1 _ ?_; clear h3 k3; clear h1 k1
  refine awp_le (le_keep [3]) ?_
  simp only [kp, argSl, simprocAttr]
  obtain rfl : i = l.length := by omega
  rw [Pl.firT_end]
  refine awp_sr [] (by rw [hC]; rfl) fun k hk => ?_
  simp (maxSteps := 9^9) (disch := (try simp only [lens]); omega) only [argSl, sm, ↓amb, mark_eq, simprocAttr, dx]
  repeat refine an ?_
  refine hk _ ?_; clear hk k
  refine awp_ret ?_
  refine ret1 rfl rfl ?_
  exact .ownE rfl rfl
end Go.Proofs.Ytbehekmnccoifaa
end
section
set_option linter.unusedSimpArgs false
set_option linter.unusedVariables false
set_option maxRecDepth 100000
namespace Go.Proofs.Ytbehekmnccoifaa
open Go.Am Go.Proofs
theorem en23 : enters Try.prog 23 = true := by kernel_rfl
theorem en41 : enters Try.prog 41 = true := by kernel_rfl
theorem en42 : enters Try.prog 42 = true := by kernel_rfl
theorem en43 : enters Try.prog 43 = true := by kernel_rfl
theorem fl47_0 : tFld Try.prog 47 0 = some (0, 1, false) := by kernel_rfl
theorem fl47_1 : tFld Try.prog 47 1 = some (1, 1, false) := by kernel_rfl
theorem fl47_2 : tFld Try.prog 47 2 = some (2, 3, true) := by kernel_rfl
theorem sz47 : tSz Try.prog 47 = some (true, 5) := by kernel_rfl
set_option maxHeartbeats 4000000 in
theorem c_dedup_Groups (c d : Bool) (l : List Int) (w : Pl.Way) (hl : ∀ x, x ∈ l → Pl.W32 x) (hn : l.length ≤ 1000000) : PCall Try.prog 23 [words c l, .agg (wayC d w)] (.tup [words false (Pl.grK l w), ints false (Pl.grC l w), iV (Pl.grT l.length w), iV (Pl.grE l.length w)]) := by
 have f1 := c_radix_Sort c d l w.bits w.block w.plan hl hn
 refine pcall_of_awp Try.func23 rfl (by simp [Try.ntmps23]) fun C hC => ?_
 refine awp_le (le_keep [0, 1]) ?_
 simp only [kp, argSl, simprocAttr]
 refine awp_sr [80, 86] (by rw [hC]; rfl) fun k hk => ?_
 simp (maxSteps := 9^9) (disch := (try simp only [lens]); omega) only [argSl, sm, ↓amb, mark_eq, simprocAttr, dx]
 repeat refine an ?_
 refine hk _ ?_; clear hk k
 refine awp_le (le_keep [0, 3]) ?_
 simp only [kp, argSl, simprocAttr]
 refine awp_sr [80, 86] (by rw [hC]; rfl) fun k hk => ?_
 simp (maxSteps := 9^9) (disch := (try simp only [lens]); omega) only [argSl, sm, ↓amb, mark_eq, simprocAttr, fl47_0, sz3, fl47_1, fl47_2, sz26, en41, dx]
 repeat refine an ?_
 refine callK_p (f1) rfl ?_
 simp (maxSteps := 9^9) (disch := (try simp only [lens]); omega) only [argSl, sm, ↓amb, mark_eq, simprocAttr, fl47_0, sz3, fl47_1, fl47_2, sz26, en41, dx]
 repeat refine an ?_
 refine hk _ ?_; clear hk k
 refine awp_seq fun k1 h1 => ?_
 refine awp_le (le_keep [0, 3, 4, 5, 6, 7, 8, 9, 10]) ?_
 simp only [kp, argSl, simprocAttr]
 refine awp_sr [80, 86] (by rw [hC]; rfl) fun k hk => ?_
 simp (maxSteps := 9^9) (disch := (try simp only [lens]); omega) only [argSl, sm, ↓amb, mark_eq, simprocAttr, dx]
 repeat refine an ?_
 refine hk _ ?_; clear hk k
 refine awp_cond rfl (fun hb => ?_) (fun hb => ?_)
 ·try simp only [hbx] at hb
  refine awp_le (le_keep [10]) ?_
  simp only [kp, argSl, simprocAttr]
  refine awp_sr [80, 86] (by rw [hC]; rfl) fun k hk => ?_
  simp (maxSteps := 9^9) (disch := (try simp only [lens]); omega) only [argSl, sm, ↓amb, mark_eq, simprocAttr, dx]
  repeat refine an ?_
  refine hk _ ?_; clear hk k
  refine awp_ret ?_
  rw [show Pl.grK l w = [] from if_neg hb, show Pl.grC l w = [] from if_neg hb, show Pl.grT l.length w = 0 from if_neg hb]
  refine ret4 rfl rfl rfl rfl rfl ?_ ?_ ?_ ?_
  ·exact .p (LeP.seq _ _)
  ·exact .p (LeP.seq _ _)
  ·exact .p (LeP.refl _)
  ·exact .p (LeP.refl _)
 ·try simp only [hbx] at hb
  refine awp_skip ?_
  refine h1 _ ?_; clear h1 k1
  refine awp_le (le_keep [0, 3, 8, 9]) ?_
  simp only [kp, argSl, simprocAttr]
  have he0 : Pl.grE l.length w = 0 := hb
  have hra : Pl.raE l.length w.bits w.block w.plan = 0 := he0
  have hs0 : Pl.scE l.length w.block w.plan = 0 := by
   unfold Pl.raE at hra; split at hra
   ·exact absurd hra (by decide)
   ·exact hra
  have ho : Pl.onceP (Pl.raL l w.bits w.block w.plan) l.length := by unfold Pl.raL; rw [if_pos hra]; exact Pl.passes_once hl _ _
  have f2 := c_radix_Sorted c false l (Pl.raL l w.bits w.block w.plan) hl (fun x hx => by have := ho.2.1 x hx; omega) hn (by have := ho.1; omega)
  rw [if_pos ho, decide_eq_true ho, show Pl.sortedL l (Pl.raL l w.bits w.block w.plan) = Pl.grS l w from rfl] at f2
  have hsl : (Pl.grS l w).length = l.length := by unfold Pl.grS; rw [Pl.sortedL_len]; exact ho.1
  have hgs : ∀ x, x ∈ Pl.grS l w → Pl.W32 x := fun x hx => by
   unfold Pl.grS Pl.sortedL at hx
   obtain ⟨j, _, rfl⟩ := List.mem_map.1 hx
   exact Pl.getD_w hl _
  have hfl := Pl.firstsL_len (Pl.grS l w)
  have f3 := c_pack_Where false d (Pl.firstsL (Pl.grS l w)) w.block w.plan (by omega)
  rw [show Pl.whL (Pl.firstsL (Pl.grS l w)) false w.block w.plan = Pl.grW l w from rfl, hfl, hsl, hs0] at f3
  have hwm : ∀ x, x ∈ Pl.grW l w → 0 ≤ x ∧ x < l.length := fun x hx => by have := Pl.wh_mem x hx; rwa [hfl, hsl] at this
  have hwn : (Pl.grW l w).length ≤ l.length := by have := Pl.wh_len (Pl.firstsL (Pl.grS l w)) false w.block w.plan; rwa [hfl, hsl] at this
  refine awp_sr [80, 86] (by rw [hC]; rfl) fun k hk => ?_
  simp (maxSteps := 9^9) (disch := (try simp only [lens]); omega) only [argSl, sm, ↓amb, mark_eq, simprocAttr, en42, dx]
  repeat refine an ?_
  refine callK_p (f2) rfl ?_
  simp (maxSteps := 9^9) (disch := (try simp only [lens]); omega) only [argSl, sm, ↓amb, mark_eq, simprocAttr, en42, dx]
  repeat refine an ?_
  refine hk _ ?_; clear hk k
  refine awp_le (le_keep [3, 9, 11]) ?_
  simp only [kp, argSl, simprocAttr]
  refine awp_sd [80, 86] ⟨[0, 1, 0, 4, 0, 16, 63, 127, 255, 255, 255, 511, 3071, 8191], [3, 5], [], [], some []⟩ (by rw [hC]; rfl) (by kernel_rfl) (by kernel_rfl) fun k hk => ?_
  simp (maxSteps := 9^9) (disch := (try simp only [lens]); omega) only [argSl, sm, ↓amb, mark_eq, simprocAttr, en43, fl47_1, sz3, fl47_2, sz26, en14, dx]
  repeat refine an ?_
  refine callK_p (c_dedup_firsts false (Pl.grS l w) hgs (by omega)) rfl ?_
  simp (maxSteps := 9^9) (disch := (try simp only [lens]); omega) only [argSl, sm, ↓amb, mark_eq, simprocAttr, en43, fl47_1, sz3, fl47_2, sz26, en14, dx]
  repeat refine an ?_
  refine callK_p (f3) rfl ?_
  simp (maxSteps := 9^9) (disch := (try simp only [lens]); omega) only [argSl, sm, ↓amb, mark_eq, simprocAttr, en43, fl47_1, sz3, fl47_2, sz26, en14, dx]
  repeat refine an ?_
  refine hk _ ?_; clear hk k
  refine awp_seq fun k2 h2 => ?_
  refine awp_le (le_keep [4, 5, 6, 7, 9, 10, 11, 13, 14]) ?_
  simp only [kp, argSl, simprocAttr]
  refine awp_sr [80, 86] (by rw [hC]; rfl) fun k hk => ?_
  simp (maxSteps := 9^9) (disch := (try simp only [lens]); omega) only [argSl, sm, ↓amb, mark_eq, simprocAttr, dx]
  repeat refine an ?_
  refine hk _ ?_; clear hk k
  refine awp_cond rfl (fun hb => ?_) (fun hb => ?_)
  ·exact absurd hb (by simp)
  ·try simp only [hbx] at hb
   refine awp_skip ?_
   refine h2 _ ?_; clear h2 k2
   refine awp_le (le_keep [9, 11, 13, 14]) ?_
   simp only [kp, argSl, simprocAttr]
   refine awp_sr [80, 86] (by rw [hC]; rfl) fun k hk => ?_
   simp (maxSteps := 9^9) (disch := (try simp only [lens]); omega) only [argSl, sm, ↓amb, mark_eq, simprocAttr, dx]
   repeat refine an ?_
   refine hk _ ?_; clear hk k
   refine awp_le (le_keep [9, 11, 13, 14, 15]) ?_
   simp only [kp, argSl, simprocAttr]
   refine awp_sr [80, 86] (by rw [hC]; rfl) fun k hk => ?_
   simp (maxSteps := 9^9) (disch := (try simp only [lens]); omega) only [argSl, sm, ↓amb, mark_eq, simprocAttr, dx]
   repeat refine an ?_
   refine hk _ ?_; clear hk k
   refine awp_seq fun k3 h3 => ?_
   refine awp_le (le_keep [4, 5, 6, 7, 9, 11, 13, 14, 15, 16]) ?_
   simp only [kp, argSl, simprocAttr]
   refine awp_own' 15 1 rfl ?_
   simp only [am, List.set_cons_succ, List.set_cons_zero, Nat.reduceEqDiff, ↓reduceIte, reduceCtorEq, Nat.reduceAdd, Nat.reduceMul]
   refine awp_own' 16 1 rfl ?_
   refine awp_sr [80, 86] (by rw [hC]; rfl) fun k hk => ?_
   simp (maxSteps := 9^9) (disch := (try simp only [lens]); omega) only [argSl, sm, ↓amb, mark_eq, simprocAttr, el33, dx]
   repeat refine an ?_
   refine hk _ ?_; clear hk k
   refine awp_block ?_
   refine awp_loop (σ := Nat) (fun i => i ≤ (Pl.grW l w).length) (fun (i : Nat) => ⟨[(9, (.p (iV (Pl.raS l.length w.bits w.block w.plan)))), (11, (.p (words false (Pl.grS l w)))), (13, (.p (ints false (Pl.grW l w)))), (14, (.p (iV (Pl.whS l.length w.block w.plan)))), (15, (.own 0)), (16, (.own 1)), (55, (.p (ints false (Pl.grW l w)))), (56, (.p (iV (Pl.grW l w).length))), (57, (.p (iV (i : Int))))], [(0, (.row 1 (lift ((Pl.sortedL (Pl.grS l w) ((Pl.grW l w).take i)).map fun x => [u32V x])))), (1, (.row 1 (lift ((Pl.cntG l.length (Pl.grW l w) i).map fun x => [iV x]))))], 1⟩) (fun i => (Pl.grW l w).length - i) 0 ?_ ?_ fun i hi => ?_
   ·exact Nat.zero_le _
   ·exact le_of [(0, _), (1, _)] (by rfl) (by rfl) ⟨⟨_, rfl, .oe⟩, ⟨_, rfl, .oe⟩, ⟨_, rfl, .oe⟩, ⟨_, rfl, .oe⟩, ⟨_, rfl, .own rfl⟩, ⟨_, rfl, .own rfl⟩, ⟨_, rfl, .oe⟩, ⟨_, rfl, .oe⟩, ⟨_, rfl, .oe⟩, trivial⟩ ⟨⟨_, rfl, _, rfl, .liftE (by first | rfl | (rw [Pl.take_snoc' (Pl.grW l w) i (by omega), Pl.sortedL_snoc, List.map_append]; first | done | rfl) | trace_state)⟩, ⟨_, rfl, _, rfl, .liftE (by first | rfl | (rw [Pl.cntG_snoc, List.map_append, if_pos (by omega)]; first | done | rfl) | (rw [Pl.cntG_snoc, List.map_append, if_neg (by omega)]; first | done | rfl | (rw [hsl]; rfl)) | trace_state)⟩, trivial⟩
   refine awp_le (le_keep [0, 1, 4, 5, 6, 7, 9, 11, 13, 14, 15, 16, 55, 56, 57]) ?_
   simp only [kp, argSl, simprocAttr]
   refine awp_sr [80, 86] (by rw [hC]; rfl) fun k hk => ?_
   simp (maxSteps := 9^9) (disch := (try simp only [lens]); omega) only [argSl, sm, ↓amb, mark_eq, simprocAttr, dx]
   repeat refine an ?_
   refine hk _ ?_; clear hk k
   refine awp_seq fun k5 h5 => ?_
   refine awp_cond rfl (fun hb => ?_) (fun hb => ?_)
   ·try simp only [hbx] at hb
    refine awp_skip ?_
    refine h5 _ ?_; clear h5 k5
    refine awp_seq fun k6 h6 => ?_
    refine awp_block ?_
    refine awp_le (le_keep [0, 1, 4, 5, 6, 7, 9, 11, 13, 14, 15, 16, 55, 56, 57]) ?_
    simp only [kp, argSl, simprocAttr]
    have hx := hwm _ (Pl.getD_mem (Pl.grW l w) i 0 (by omega))
    refine awp_sr [80, 86] (by rw [hC]; rfl) fun k hk => ?_
    simp (maxSteps := 9^9) (disch := (try simp only [lens]); omega) only [argSl, sm, ↓amb, mark_eq, simprocAttr, el33, sz3, dx]
    repeat refine an ?_
    refine hk _ ?_; clear hk k
    refine awp_le (le_keep [0, 1, 4, 5, 6, 7, 9, 11, 13, 14, 15, 16, 17, 18, 55, 56, 57]) ?_
    simp only [kp, argSl, simprocAttr]
    refine awp_sr [80, 86] (by rw [hC]; rfl) fun k hk => ?_
    simp (maxSteps := 9^9) (disch := (try simp only [lens]); omega) only [argSl, sm, ↓amb, mark_eq, simprocAttr, el22, dx]
    repeat refine an ?_
    refine hk _ ?_; clear hk k
    refine awp_seq fun k7 h7 => ?_
    refine awp_le (le_keep [0, 1, 4, 5, 6, 7, 9, 11, 13, 14, 15, 16, 17, 18, 19, 55, 56, 57]) ?_
    simp only [kp, argSl, simprocAttr]
    have hcl := Pl.cntG_len l.length (Pl.grW l w) i
    have hkl : (Pl.sortedL (Pl.grS l w) ((Pl.grW l w).take i)).length = i := by rw [Pl.sortedL_len, List.length_take]; omega
    refine awp_sr [80, 86] (by rw [hC]; rfl) fun k hk => ?_
    simp (maxSteps := 9^9) (disch := (try simp only [lens]); omega) only [argSl, sm, ↓amb, mark_eq, simprocAttr, el33, dx]
    repeat refine an ?_
    refine hk _ ?_; clear hk k
    refine awp_cond rfl (fun hb => ?_) (fun hb => ?_)
    ·try simp only [hbx] at hb
     have hy := hwm _ (Pl.getD_mem (Pl.grW l w) (i + 1) 0 (by omega))
     refine awp_region [80, 86] (by rw [hC]; rfl) fun k hk => ?_
     simp (maxSteps := 9^9) (disch := (try simp only [lens]); omega) only [argSl, sm, ↓amb, mark_eq, simprocAttr, el33, sz3, dx]
     repeat refine an ?_
     refine hk _ ?_; clear hk k
     refine h7 _ ?_; clear h7 k7
     refine awp_region [80, 86] (by rw [hC]; rfl) fun k hk => ?_
     simp (maxSteps := 9^9) (disch := (try simp only [lens]); omega) only [argSl, sm, ↓amb, mark_eq, simprocAttr, el22, sz41, vr41, by41, el33, vr3, by3, dx]
     repeat refine an ?_
     refine hk _ ?_; clear hk k
     refine h6 _ ?_; clear h6 k6
     refine awp_region [80, 86] (by rw [hC]; rfl) fun k hk => ?_
     simp (maxSteps := 9^9) (disch := (try simp only [lens]); omega) only [argSl, sm, ↓amb, mark_eq, simprocAttr, dx]
     repeat refine an ?_
     refine hk _ ?_; clear hk k
     refine ⟨i + 1, by omega, le_of [(0, _), (1, _)] (by rfl) (by rfl) ⟨⟨_, rfl, .oe⟩, ⟨_, rfl, .oe⟩, ⟨_, rfl, .oe⟩, ⟨_, rfl, .oe⟩, ⟨_, rfl, .own rfl⟩, ⟨_, rfl, .own rfl⟩, ⟨_, rfl, .oe⟩, ⟨_, rfl, .oe⟩, ⟨_, rfl, .oe⟩, trivial⟩ ⟨⟨_, rfl, _, rfl, .liftE (by first | rfl | (rw [Pl.take_snoc' (Pl.grW l w) i (by omega), Pl.sortedL_snoc, List.map_append]; first | done | rfl) | trace_state)⟩, ⟨_, rfl, _, rfl, .liftE (by first | rfl | (rw [Pl.cntG_snoc, List.map_append, if_pos (by omega)]; first | done | rfl) | (rw [Pl.cntG_snoc, List.map_append, if_neg (by omega)]; first | done | rfl | (rw [hsl]; rfl)) | trace_state)⟩, trivial⟩, by omega⟩
    ·try simp only [hbx] at hb
     refine awp_skip ?_
     refine h7 _ ?_; clear h7 k7
     refine awp_region [80, 86] (by rw [hC]; rfl) fun k hk => ?_
     simp (maxSteps := 9^9) (disch := (try simp only [lens]); omega) only [argSl, sm, ↓amb, mark_eq, simprocAttr, el22, sz41, vr41, by41, el33, vr3, by3, dx]
     repeat refine an ?_
     refine hk _ ?_; clear hk k
     refine h6 _ ?_; clear h6 k6
     refine awp_region [80, 86] (by rw [hC]; rfl) fun k hk => ?_
     simp (maxSteps := 9^9) (disch := (try simp only [lens]); omega) only [argSl, sm, ↓amb, mark_eq, simprocAttr, dx]
     repeat refine an ?_
     refine hk _ ?_; clear hk k
     refine ⟨i + 1, by omega, le_of [(0, _), (1, _)] (by rfl) (by rfl) ⟨⟨_, rfl, .oe⟩, ⟨_, rfl, .oe⟩, ⟨_, rfl, .oe⟩, ⟨_, rfl, .oe⟩, ⟨_, rfl, .own rfl⟩, ⟨_, rfl, .own rfl⟩, ⟨_, rfl, .oe⟩, ⟨_, rfl, .oe⟩, ⟨_, rfl, .oe⟩, trivial⟩ ⟨⟨_, rfl, _, rfl, .liftE (by first | rfl | (rw [Pl.take_snoc' (Pl.grW l w) i (by omega), Pl.sortedL_snoc, List.map_append]; first | done | rfl) | trace_state)⟩, ⟨_, rfl, _, rfl, .liftE (by first | rfl | (rw [Pl.cntG_snoc, List.map_append, if_pos (by omega)]; first | done | rfl) | (rw [Pl.cntG_snoc, List.map_append, if_neg (by omega)]; first | done | rfl | (rw [hsl]; rfl)) | trace_state)⟩, trivial⟩, by omega⟩
   ·try simp only [hbx] at hb
    refine awp_exit ((if_pos rfl).mpr ?_)
    refine h3 _ ?_; clear h5 k5; clear h3 k3
    refine awp_le (le_keep [9, 14, 15, 16]) ?_
    simp only [kp, argSl, simprocAttr]
    obtain rfl : i = (Pl.grW l w).length := by omega
    rw [List.take_of_length_le (Nat.le_refl _)]
    have r1 := Pl.scS_nn l.length w.block w.plan
    have r2 := Pl.pas_nn w.bits
    have r3 : 0 ≤ Pl.raS l.length w.bits w.block w.plan ∧ Pl.raS l.length w.bits w.block w.plan ≤ 40000 * 33 := by
     unfold Pl.raS; split
     ·exact ⟨Int.mul_nonneg r1.1 r2.1, Pl.mul_up r1.2 (by omega) r2.1 (by omega)⟩
     ·omega
    have r4 := Pl.ordS_up l.length w.plan
    have r5 : 0 ≤ Pl.whS l.length w.block w.plan ∧ Pl.whS l.length w.block w.plan ≤ 60000 := by unfold Pl.whS; split <;> omega
    refine awp_sr [80, 86] (by rw [hC]; rfl) fun k hk => ?_
    simp (maxSteps := 9^9) (disch := (try simp only [lens]); omega) only [argSl, sm, ↓amb, mark_eq, simprocAttr, dx]
    repeat refine an ?_
    refine hk _ ?_; clear hk k
    refine awp_ret ?_
    rw [show Pl.grK l w = Pl.sortedL (Pl.grS l w) (Pl.grW l w) from if_pos he0, show Pl.grC l w = Pl.cntG l.length (Pl.grW l w) (Pl.grW l w).length from if_pos he0, show Pl.grT l.length w = Pl.raS l.length w.bits w.block w.plan + Pl.whS l.length w.block w.plan from if_pos he0, he0]
    refine ret4 rfl rfl rfl rfl rfl ?_ ?_ ?_ ?_
    ·exact .ownE rfl rfl
    ·exact .ownE rfl rfl
    ·exact .p (LeP.refl _)
    ·exact .p (LeP.refl _)
set_option maxHeartbeats 4000000 in
theorem c_dedup_Once (c d : Bool) (l : List Int) (w : Pl.Way) (hl : ∀ x, x ∈ l → Pl.W32 x) (hn : l.length ≤ 1000000) : PCall Try.prog 25 [words c l, .agg (wayC d w)] (.tup [words false (Pl.grK l w), iV (Pl.grT l.length w), iV (Pl.grE l.length w)]) := by
 refine pcall_of_awp Try.func25 rfl (by simp [Try.ntmps25]) fun C hC => ?_
 refine awp_le (le_keep [0, 1]) ?_
 simp only [kp, argSl, simprocAttr]
 refine awp_sr [] (by rw [hC]; rfl) fun k hk => ?_
 simp (maxSteps := 9^9) (disch := (try simp only [lens]); omega) only [argSl, sm, ↓amb, mark_eq, simprocAttr, dx]
 repeat refine an ?_
 refine hk _ ?_; clear hk k
 refine awp_le (le_keep [0, 3]) ?_
 simp only [kp, argSl, simprocAttr]
 refine awp_sr [] (by rw [hC]; rfl) fun k hk => ?_
 simp (maxSteps := 9^9) (disch := (try simp only [lens]); omega) only [argSl, sm, ↓amb, mark_eq, simprocAttr, sz47, en23, dx]
 repeat refine an ?_
 refine callK_p (c_dedup_Groups c d l w hl hn) rfl ?_
 simp (maxSteps := 9^9) (disch := (try simp only [lens]); omega) only [argSl, sm, ↓amb, mark_eq, simprocAttr, sz47, en23, dx]
 repeat refine an ?_
 refine hk _ ?_; clear hk k
 refine awp_le (le_keep [7, 9, 10]) ?_
 simp only [kp, argSl, simprocAttr]
 refine awp_sr [] (by rw [hC]; rfl) fun k hk => ?_
 simp (maxSteps := 9^9) (disch := (try simp only [lens]); omega) only [argSl, sm, ↓amb, mark_eq, simprocAttr, dx]
 repeat refine an ?_
 refine hk _ ?_; clear hk k
 refine awp_ret ?_
 refine ret3 rfl rfl rfl rfl ?_ ?_ ?_
 ·exact .p (LeP.refl _)
 ·exact .p (LeP.refl _)
 ·exact .p (LeP.refl _)
end Go.Proofs.Ytbehekmnccoifaa
end
section
set_option linter.unusedSimpArgs false
set_option linter.unusedVariables false
set_option maxRecDepth 100000
namespace Go.Proofs.Ytbehekmnccoifaa
open Go.Am Go.Proofs
theorem by59 : tBytes Try.prog 59 = some 16 := by kernel_rfl
theorem en25 : enters Try.prog 25 = true := by kernel_rfl
theorem en30 : enters Try.prog 30 = true := by kernel_rfl
theorem en32 : enters Try.prog 32 = true := by kernel_rfl
set_option maxHeartbeats 4000000 in
theorem c_dedup_Edges (c d : Bool) (l : List Pl.Edge) (w : Pl.Way) (hn : l.length ≤ 1000000) : PCall Try.prog 28 [.seq c (l.map edgeC), .agg (wayC d w)] (.tup [if (∀ e, e ∈ l → Pl.fitE e) then (.seq false (((Pl.grK (Pl.ksE l) w).map Pl.unkey).map edgeC)) else .seq false [], iV (if (∀ e, e ∈ l → Pl.fitE e) then Pl.grT (Pl.ksE l).length w else 0), iV (if (∀ e, e ∈ l → Pl.fitE e) then Pl.grE (Pl.ksE l).length w else 10)]) := by
 refine pcall_of_awp Try.func28 rfl (by simp [Try.ntmps28]) fun C hC => ?_
 refine awp_le (le_keep [0, 1]) ?_
 simp only [kp, argSl, simprocAttr]
 refine awp_sr [39, 58] (by rw [hC]; rfl) fun k hk => ?_
 simp (maxSteps := 9^9) (disch := (try simp only [lens]); omega) only [argSl, sm, ↓amb, mark_eq, simprocAttr, dx]
 repeat refine an ?_
 refine hk _ ?_; clear hk k
 refine awp_le (le_keep [0, 3]) ?_
 simp only [kp, argSl, simprocAttr]
 refine awp_sr [39, 58] (by rw [hC]; rfl) fun k hk => ?_
 simp (maxSteps := 9^9) (disch := (try simp only [lens]); omega) only [argSl, sm, ↓amb, mark_eq, simprocAttr, dx]
 repeat refine an ?_
 refine hk _ ?_; clear hk k
 refine awp_seq fun k1 h1 => ?_
 refine awp_le (le_keep [0, 3, 4, 5, 6, 7]) ?_
 simp only [kp, argSl, simprocAttr]
 refine awp_own' 7 1 rfl ?_
 refine awp_sr [39, 58] (by rw [hC]; rfl) fun k hk => ?_
 simp (maxSteps := 9^9) (disch := (try simp only [lens]); omega) only [argSl, sm, ↓amb, mark_eq, simprocAttr, el53, dx]
 repeat refine an ?_
 refine hk _ ?_; clear hk k
 refine awp_block ?_
 refine awp_loop (σ := Nat) (fun i => i ≤ l.length ∧ ∀ j, j < i → Pl.fitE (l.getD j default)) (fun (i : Nat) => ⟨[(3, (.ptr 0 5 0 0)), (7, (.own 1)), (18, (.p (.seq c (l.map edgeC)))), (19, (.p (iV l.length))), (20, (.p (iV (i : Int))))], [(0, (.row 5 [[.p (iV w.bits), .p (iV w.block), .p (iV w.plan.grain), .p (iV w.plan.workers), .p (picksV d w.plan.picks)]])), (1, (.row 1 (lift ((Pl.ksE (l.take i)).map fun x => [u32V x]))))], 1⟩) (fun i => l.length - i) 0 ?_ ?_ fun i hi => ?_
 ·exact ⟨Nat.zero_le _, fun j hj => by omega⟩
 ·exact le_of [(0, _), (1, _)] (by rfl) (by rfl) ⟨⟨_, rfl, .ptr rfl⟩, ⟨_, rfl, .own rfl⟩, ⟨_, rfl, .oe⟩, ⟨_, rfl, .oe⟩, ⟨_, rfl, .oe⟩, trivial⟩ ⟨⟨_, rfl, _, rfl, .one (.cons (.p (.refl _)) (.cons (.p (.refl _)) (.cons (.p (.refl _)) (.cons (.p (.refl _)) (.cons (.p (.refl _)) (.nil))))))⟩, ⟨_, rfl, _, rfl, .liftE (by first | rfl | (rw [Pl.ksE_yes (by omega) (by assumption), List.map_append]; rfl) | (rw [Pl.ksE_no (by omega) (by first | assumption | omega)]) | trace_state)⟩, trivial⟩
 obtain ⟨hi1, hi2⟩ := hi
 refine awp_le (le_keep [0, 1, 3, 4, 5, 6, 7, 18, 19, 20]) ?_
 simp only [kp, argSl, simprocAttr]
 refine awp_sr [39, 58] (by rw [hC]; rfl) fun k hk => ?_
 simp (maxSteps := 9^9) (disch := (try simp only [lens]); omega) only [argSl, sm, ↓amb, mark_eq, simprocAttr, dx]
 repeat refine an ?_
 refine hk _ ?_; clear hk k
 refine awp_seq fun k3 h3 => ?_
 refine awp_cond rfl (fun hb => ?_) (fun hb => ?_)
 ·try simp only [hbx] at hb
  refine awp_skip ?_
  refine h3 _ ?_; clear h3 k3
  refine awp_seq fun k4 h4 => ?_
  refine awp_block ?_
  refine awp_le (le_keep [0, 1, 3, 4, 5, 6, 7, 18, 19, 20]) ?_
  simp only [kp, argSl, simprocAttr]
  have hkl1 := Pl.ksE_len (l.take i)
  rw [List.length_take] at hkl1
  refine awp_sr [39, 58] (by rw [hC]; rfl) fun k hk => ?_
  simp (maxSteps := 9^9) (disch := (try simp only [lens]); omega) only [argSl, sm, ↓amb, mark_eq, simprocAttr, el53, sz59, vr59, dx]
  repeat refine an ?_
  refine hk _ ?_; clear hk k
  refine awp_le (le_keep [0, 1, 3, 4, 5, 6, 7, 9, 18, 19, 20]) ?_
  simp only [kp, argSl, simprocAttr]
  refine awp_sr [39, 58] (by rw [hC]; rfl) fun k hk => ?_
  simp (maxSteps := 9^9) (disch := (try simp only [lens]); omega) only [argSl, sm, ↓amb, mark_eq, simprocAttr, sz59, en30, dx]
  repeat refine an ?_
  refine callK_p (c_dedup_Key _) rfl ?_
  simp (maxSteps := 9^9) (disch := (try simp only [lens]); omega) only [argSl, sm, ↓amb, mark_eq, simprocAttr, sz59, en30, dx]
  repeat refine an ?_
  refine hk _ ?_; clear hk k
  refine awp_seq fun k5 h5 => ?_
  refine awp_le (le_keep [0, 1, 3, 4, 5, 6, 7, 9, 10, 11, 18, 19, 20]) ?_
  simp only [kp, argSl, simprocAttr]
  refine awp_sr [39, 58] (by rw [hC]; rfl) fun k hk => ?_
  simp (maxSteps := 9^9) (disch := (try simp only [lens]); omega) only [argSl, sm, ↓amb, mark_eq, simprocAttr, dx]
  repeat refine an ?_
  refine hk _ ?_; clear hk k
  refine awp_cond rfl (fun hb => ?_) (fun hb => ?_)
  ·try simp only [hbx] at hb
   refine awp_le (le_keep []) ?_
   simp only [kp, argSl, simprocAttr]
   refine awp_sr [39, 58] (by rw [hC]; rfl) fun k hk => ?_
   simp (maxSteps := 9^9) (disch := (try simp only [lens]); omega) only [argSl, sm, ↓amb, mark_eq, simprocAttr, dx]
   repeat refine an ?_
   refine hk _ ?_; clear hk k
   refine awp_ret ?_
   have ho : ¬ (∀ e, e ∈ l → Pl.fitE e) := fun z => hb (by have := z _ (Pl.getD_mem l i default (by omega)); unfold Pl.fitE at this; omega)
   rw [if_neg ho, if_neg ho, if_neg ho]
   refine ret3 rfl rfl rfl rfl ?_ ?_ ?_
   ·exact .p (LeP.seq _ _)
   ·exact .p (LeP.refl _)
   ·exact .p (LeP.refl _)
  ·try simp only [hbx] at hb
   refine awp_skip ?_
   refine h5 _ ?_; clear h5 k5
   refine awp_le (le_keep [0, 1, 3, 4, 5, 6, 7, 9, 10, 18, 19, 20]) ?_
   simp only [kp, argSl, simprocAttr]
   refine awp_sr [39, 58] (by rw [hC]; rfl) fun k hk => ?_
   simp (maxSteps := 9^9) (disch := (try simp only [lens]); omega) only [argSl, sm, ↓amb, mark_eq, simprocAttr, fl59_0, sz3, fl59_1, dx]
   repeat refine an ?_
   refine hk _ ?_; clear hk k
   refine awp_cond rfl (fun hb => ?_) (fun hb => ?_)
   ·try simp only [hbx] at hb
    refine awp_region [39, 58] (by rw [hC]; rfl) fun k hk => ?_
    simp (maxSteps := 9^9) (disch := (try simp only [lens]); omega) only [argSl, sm, ↓amb, mark_eq, simprocAttr, el22, vr41, by41, dx]
    repeat refine an ?_
    refine hk _ ?_; clear hk k
    refine h4 _ ?_; clear h4 k4
    refine awp_region [39, 58] (by rw [hC]; rfl) fun k hk => ?_
    simp (maxSteps := 9^9) (disch := (try simp only [lens]); omega) only [argSl, sm, ↓amb, mark_eq, simprocAttr, dx]
    repeat refine an ?_
    refine hk _ ?_; clear hk k
    refine ⟨i + 1, ⟨by omega, fun j hj => by by_cases e : j = i; (subst e; unfold Pl.fitE; omega); exact hi2 j (by omega)⟩, le_of [(0, _), (1, _)] (by rfl) (by rfl) ⟨⟨_, rfl, .ptr rfl⟩, ⟨_, rfl, .own rfl⟩, ⟨_, rfl, .oe⟩, ⟨_, rfl, .oe⟩, ⟨_, rfl, .oe⟩, trivial⟩ ⟨⟨_, rfl, _, rfl, .one (.cons (.p (.refl _)) (.cons (.p (.refl _)) (.cons (.p (.refl _)) (.cons (.p (.refl _)) (.cons (.p (.refl _)) (.nil))))))⟩, ⟨_, rfl, _, rfl, .liftE (by first | rfl | (rw [Pl.ksE_yes (by omega) (by assumption), List.map_append]; rfl) | (rw [Pl.ksE_no (by omega) (by first | assumption | omega)]) | trace_state)⟩, trivial⟩, by omega⟩
   ·try simp only [hbx] at hb
    refine awp_skip ?_
    refine h4 _ ?_; clear h4 k4
    refine awp_region [39, 58] (by rw [hC]; rfl) fun k hk => ?_
    simp (maxSteps := 9^9) (disch := (try simp only [lens]); omega) only [argSl, sm, ↓amb, mark_eq, simprocAttr, dx]
    repeat refine an ?_
    refine hk _ ?_; clear hk k
    refine ⟨i + 1, ⟨by omega, fun j hj => by by_cases e : j = i; (subst e; unfold Pl.fitE; omega); exact hi2 j (by omega)⟩, le_of [(0, _), (1, _)] (by rfl) (by rfl) ⟨⟨_, rfl, .ptr rfl⟩, ⟨_, rfl, .own rfl⟩, ⟨_, rfl, .oe⟩, ⟨_, rfl, .oe⟩, ⟨_, rfl, .oe⟩, trivial⟩ ⟨⟨_, rfl, _, rfl, .one (.cons (.p (.refl _)) (.cons (.p (.refl _)) (.cons (.p (.refl _)) (.cons (.p (.refl _)) (.cons (.p (.refl _)) (.nil))))))⟩, ⟨_, rfl, _, rfl, .liftE (by first | rfl | (rw [Pl.ksE_yes (by omega) (by assumption), List.map_append]; rfl) | (rw [Pl.ksE_no (by omega) (by first | assumption | omega)]) | trace_state)⟩, trivial⟩, by omega⟩
 ·try simp only [hbx] at hb
  refine awp_exit ((if_pos rfl).mpr ?_)
  refine h1 _ ?_; clear h3 k3; clear h1 k1
  refine awp_le (le_keep [3, 7]) ?_
  simp only [kp, argSl, simprocAttr]
  obtain rfl : i = l.length := by omega
  rw [List.take_of_length_le (Nat.le_refl _)]
  have hkl : (Pl.ksE l).length ≤ 1000000 := by have := Pl.ksE_len l; omega
  refine awp_le (show LE _ (⟨[(3, (.ptr 0 5 0 0)), (7, (.p (words false (Pl.ksE l))))], [(0, (.row 5 [[.p (iV w.bits), .p (iV w.block), .p (iV w.plan.grain), .p (iV w.plan.workers), .p (picksV d w.plan.picks)]]))], 2⟩ : LS) from le_of [(0, _)] (by rfl) (by rfl) ⟨⟨_, rfl, .ptr rfl⟩, ⟨_, rfl, .frz (es := (Pl.ksE l).map fun x => [u32V x]) rfl (by rfl)⟩, trivial⟩ ⟨⟨_, rfl, _, rfl, .one (.cons (.p (.refl _)) (.cons (.p (.refl _)) (.cons (.p (.refl _)) (.cons (.p (.refl _)) (.cons (.p (.refl _)) (.nil))))))⟩, trivial⟩) ?_
  refine awp_sr [39, 58] (by rw [hC]; rfl) fun k hk => ?_
  simp (maxSteps := 9^9) (disch := (try simp only [lens]); omega) only [argSl, sm, ↓amb, mark_eq, simprocAttr, sz47, en25, dx]
  repeat refine an ?_
  refine callK_p (c_dedup_Once false d (Pl.ksE l) w (Pl.ksE_w l) hkl) rfl ?_
  simp (maxSteps := 9^9) (disch := (try simp only [lens]); omega) only [argSl, sm, ↓amb, mark_eq, simprocAttr, sz47, en25, dx]
  repeat refine an ?_
  refine hk _ ?_; clear hk k
  refine awp_le (le_keep [12, 13, 14]) ?_
  simp only [kp, argSl, simprocAttr]
  refine awp_sr [39, 58] (by rw [hC]; rfl) fun k hk => ?_
  simp (maxSteps := 9^9) (disch := (try simp only [lens]); omega) only [argSl, sm, ↓amb, mark_eq, simprocAttr, dx]
  repeat refine an ?_
  refine hk _ ?_; clear hk k
  refine awp_seq fun k6 h6 => ?_
  refine awp_le (le_keep [4, 5, 6, 12, 13, 14, 15]) ?_
  simp only [kp, argSl, simprocAttr]
  refine awp_own' 15 2 rfl ?_
  have hgl := Pl.grK_len (Pl.ksE_w l) w
  refine awp_sr [39, 58] (by rw [hC]; rfl) fun k hk => ?_
  simp (maxSteps := 9^9) (disch := (try simp only [lens]); omega) only [argSl, sm, ↓amb, mark_eq, simprocAttr, el22, dx]
  repeat refine an ?_
  refine hk _ ?_; clear hk k
  refine awp_block ?_
  refine awp_loop (σ := Nat) (fun i => i ≤ (Pl.grK (Pl.ksE l) w).length) (fun (i : Nat) => ⟨[(13, (.p (iV (Pl.grT (Pl.ksE l).length w)))), (14, (.p (iV (Pl.grE (Pl.ksE l).length w)))), (15, (.own 0)), (48, (.p (words false (Pl.grK (Pl.ksE l) w)))), (49, (.p (iV (Pl.grK (Pl.ksE l) w).length))), (50, (.p (iV (i : Int))))], [(0, (.row 2 (lift ((((Pl.grK (Pl.ksE l) w).take i).map Pl.unkey).map edgeC))))], 1⟩) (fun i => (Pl.grK (Pl.ksE l) w).length - i) 0 ?_ ?_ fun i hi => ?_
  ·exact Nat.zero_le _
  ·exact le_of [(0, _)] (by rfl) (by rfl) ⟨⟨_, rfl, .oe⟩, ⟨_, rfl, .oe⟩, ⟨_, rfl, .own rfl⟩, ⟨_, rfl, .oe⟩, ⟨_, rfl, .oe⟩, ⟨_, rfl, .oe⟩, trivial⟩ ⟨⟨_, rfl, _, rfl, .liftE (by first | rfl | (rw [Pl.take_snoc' (Pl.grK (Pl.ksE l) w) i (by omega), List.map_append, List.map_append]; rfl) | trace_state)⟩, trivial⟩
  refine awp_le (le_keep [0, 4, 5, 6, 13, 14, 15, 48, 49, 50]) ?_
  simp only [kp, argSl, simprocAttr]
  refine awp_sr [39, 58] (by rw [hC]; rfl) fun k hk => ?_
  simp (maxSteps := 9^9) (disch := (try simp only [lens]); omega) only [argSl, sm, ↓amb, mark_eq, simprocAttr, dx]
  repeat refine an ?_
  refine hk _ ?_; clear hk k
  refine awp_seq fun k8 h8 => ?_
  refine awp_cond rfl (fun hb => ?_) (fun hb => ?_)
  ·try simp only [hbx] at hb
   refine awp_skip ?_
   refine h8 _ ?_; clear h8 k8
   refine awp_seq fun k9 h9 => ?_
   refine awp_block ?_
   refine awp_le (le_keep [0, 4, 5, 6, 13, 14, 15, 48, 49, 50]) ?_
   simp only [kp, argSl, simprocAttr]
   refine awp_sr [39, 58] (by rw [hC]; rfl) fun k hk => ?_
   simp (maxSteps := 9^9) (disch := (try simp only [lens]); omega) only [argSl, sm, ↓amb, mark_eq, simprocAttr, el22, sz41, dx]
   repeat refine an ?_
   refine hk _ ?_; clear hk k
   have hw1 := Pl.grK_w (Pl.ksE_w l) w _ (Pl.getD_mem (Pl.grK (Pl.ksE l) w) i 0 (by omega))
   refine awp_region [39, 58] (by rw [hC]; rfl) fun k hk => ?_
   simp (maxSteps := 9^9) (disch := (try simp only [lens]); omega) only [argSl, sm, ↓amb, mark_eq, simprocAttr, en32, el53, vr59, by59, dx]
   repeat refine an ?_
   refine callK_p (c_dedup_Edge _ hw1) rfl ?_
   simp (maxSteps := 9^9) (disch := (try simp only [lens]); omega) only [argSl, sm, ↓amb, mark_eq, simprocAttr, en32, el53, vr59, by59, dx]
   repeat refine an ?_
   refine hk _ ?_; clear hk k
   refine h9 _ ?_; clear h9 k9
   refine awp_region [39, 58] (by rw [hC]; rfl) fun k hk => ?_
   simp (maxSteps := 9^9) (disch := (try simp only [lens]); omega) only [argSl, sm, ↓amb, mark_eq, simprocAttr, dx]
   repeat refine an ?_
   refine hk _ ?_; clear hk k
   refine ⟨i + 1, by omega, le_of [(0, _)] (by rfl) (by rfl) ⟨⟨_, rfl, .oe⟩, ⟨_, rfl, .oe⟩, ⟨_, rfl, .own rfl⟩, ⟨_, rfl, .oe⟩, ⟨_, rfl, .oe⟩, ⟨_, rfl, .oe⟩, trivial⟩ ⟨⟨_, rfl, _, rfl, .liftE (by first | rfl | (rw [Pl.take_snoc' (Pl.grK (Pl.ksE l) w) i (by omega), List.map_append, List.map_append]; rfl) | trace_state)⟩, trivial⟩, by omega⟩
  ·try simp only [hbx] at hb
   refine awp_exit ((if_pos rfl).mpr ?_)
   refine h6 _ ?_; clear h8 k8; clear h6 k6
   refine awp_le (le_keep [13, 14, 15]) ?_
   simp only [kp, argSl, simprocAttr]
   obtain rfl : i = (Pl.grK (Pl.ksE l) w).length := by omega
   rw [List.take_of_length_le (Nat.le_refl _)]
   refine awp_sr [39, 58] (by rw [hC]; rfl) fun k hk => ?_
   simp (maxSteps := 9^9) (disch := (try simp only [lens]); omega) only [argSl, sm, ↓amb, mark_eq, simprocAttr, dx]
   repeat refine an ?_
   refine hk _ ?_; clear hk k
   refine awp_ret ?_
   have ho : (∀ e, e ∈ l → Pl.fitE e) := fun e he => by
    obtain ⟨j, hj, rfl⟩ := List.getElem_of_mem he
    have := hi2 j hj
    rwa [List.getD_eq_getElem?_getD, List.getElem?_eq_getElem hj] at this
   rw [if_pos ho, if_pos ho, if_pos ho]
   refine ret3 rfl rfl rfl rfl ?_ ?_ ?_
   ·exact .ownE rfl rfl
   ·exact .p (LeP.refl _)
   ·exact .p (LeP.refl _)
end Go.Proofs.Ytbehekmnccoifaa
end
section
set_option linter.unusedSimpArgs false
set_option linter.unusedVariables false
namespace Go.Pl
open Go.Am
def heldOk (w : Work) (l : List Int) (t : Int) : Prop := 0 ≤ t ∧ t < w.ts.length ∧ t ∉ l ∧ (w.ts.getD t.toNat default).wait = 0 ∧ (great w t ∨ ¬ w.done.getD (w.ts.getD t.toNat default).low.toNat default = true)
instance (w : Work) (l : List Int) (t : Int) : Decidable (heldOk w l t) := by unfold heldOk; infer_instance
end Go.Pl
namespace Go.Pl
open Go.Am
end Go.Pl
namespace Go.Pl
end Go.Pl
end
section
set_option linter.unusedSimpArgs false
set_option linter.unusedVariables false
set_option maxRecDepth 100000
namespace Go.Proofs.Ytbehekmnccoifaa
open Go.Am Go.Proofs
theorem en88 : enters Try.prog 88 = true := by kernel_rfl
theorem en96 : enters Try.prog 96 = true := by kernel_rfl
theorem en97 : enters Try.prog 97 = true := by kernel_rfl
theorem en98 : enters Try.prog 98 = true := by kernel_rfl
set_option maxHeartbeats 4000000 in
theorem c38 (c d : Bool) (w : Pl.Work) : PCall Try.prog 96 [workV c d w] (bV (decide (Pl.right w))) := by
 refine pcall_of_awp Try.func96 rfl (by simp [Try.ntmps96]) fun C hC => ?_
 refine awp_le (le_keep [0]) ?_
 simp only [kp, argSl, simprocAttr]
 refine awp_sr [] (by rw [hC]; rfl) fun k hk => ?_
 simp (maxSteps := 9^9) (disch := (try simp only [lens]); omega) only [argSl, sm, ↓amb, mark_eq, simprocAttr, dx]
 repeat refine an ?_
 refine hk _ ?_; clear hk k
 refine awp_le (le_keep [1]) ?_
 simp only [kp, argSl, simprocAttr]
 refine awp_sr [] (by rw [hC]; rfl) fun k hk => ?_
 simp (maxSteps := 9^9) (disch := (try simp only [lens]); omega) only [argSl, sm, ↓amb, mark_eq, simprocAttr, fl88_2, sz23, el23, dx]
 repeat refine an ?_
 refine hk _ ?_; clear hk k
 refine awp_seq fun k1 h1 => ?_
 refine awp_test [] 36 (decide (¬ (Pl.cnt w.done.length w.grain ∧ 1 ≤ w.ts.length ∧ w.ts.length ≤ 2000))) [1, 2, 3] (by rw [hC]; rfl) (fun gd hgd k hk => ?_) ?_
 ·have g3 : gd 3 = some 12 := by rw [hgd]; rfl
  have g8 : gd 8 = some 17 := by rw [hgd]; rfl
  have g12 : gd 12 = some 21 := by rw [hgd]; rfl
  have g16 : gd 16 = some 25 := by rw [hgd]; rfl
  have g22 : gd 22 = some 31 := by rw [hgd]; rfl
  clear hgd
  simp (maxSteps := 9^9) (disch := (try simp only [lens]); omega) only [argSl, sm, ↓amb, mark_eq, simprocAttr, fl88_1, sz3, fl88_0, sz86, el86, gcase_undef, g3, g8, g12, g16, g22, dx]
  repeat' first | refine hk _ _ rfl rfl rfl rfl ?_ | (refine gsplit (fun hg => ?_) (fun hg => ?_) <;> (try simp only [hbx] at hg) <;> simp (maxSteps := 9^9) (disch := (try simp only [lens]); omega) only [argSl, sm, ↓amb, mark_eq, simprocAttr, fl88_1, sz3, fl88_0, sz86, el86, gcase_undef, g3, g8, g12, g16, g22, dx]) | apply And.intro | fail
  all_goals first | rfl | omega | exact (decide_eq_true (by (try simp only [Pl.right, Pl.cnt, Pl.okT] at *); omega)).symm | exact (decide_eq_false (by (try simp only [Pl.right, Pl.cnt, Pl.okT] at *); omega)).symm | exact decide_eq_decide.mpr (by (try simp only [Pl.right, Pl.cnt, Pl.okT] at *); omega) | (refine Bool.eq_iff_iff.mpr ?_; (try simp only [Pl.right, Pl.cnt, Pl.okT] at *); simp only [beq_iff_eq, bne_iff_ne, ne_eq, decide_eq_true_eq]; omega) | (refine Bool.eq_iff_iff.mpr ?_; simp only [Bool.not_eq_true', Bool.not_eq_false', decide_eq_false_iff_not, decide_eq_true_eq, beq_iff_eq, bne_iff_ne, ne_eq]; (try simp only [Pl.right, Pl.cnt, Pl.okT] at *); omega) | assumption | (simp; done) | (simp [maxLen]; omega) | skip
 simp only [kp, argSl, simprocAttr, List.length_cons, List.length_nil]
 refine awp_cond rfl (fun hb => ?_) (fun hb => ?_)
 ·try simp only [hbx] at hb
  refine awp_le (le_keep []) ?_
  simp only [kp, argSl, simprocAttr]
  refine awp_sr [] (by rw [hC]; rfl) fun k hk => ?_
  simp (maxSteps := 9^9) (disch := (try simp only [lens]); omega) only [argSl, sm, ↓amb, mark_eq, simprocAttr, dx]
  repeat refine an ?_
  refine hk _ ?_; clear hk k
  refine awp_ret ?_
  refine ret1 rfl rfl ?_
  exact .p (LeP.of_eq (by rw [decide_eq_false (by intro h; simp only [Pl.right, Pl.cnt] at h hb; omega)]))
 ·try simp only [hbx] at hb
  refine awp_skip ?_
  refine h1 _ ?_; clear h1 k1
  refine awp_seq fun k2 h2 => ?_
  refine awp_le (le_keep [1, 2, 3]) ?_
  simp only [kp, argSl, simprocAttr]
  have hb0 := hb
  refine awp_sr [] (by rw [hC]; rfl) fun k hk => ?_
  simp (maxSteps := 9^9) (disch := (try simp only [lens]); omega) only [argSl, sm, ↓amb, mark_eq, simprocAttr, dx]
  repeat refine an ?_
  refine hk _ ?_; clear hk k
  refine awp_block ?_
  refine awp_loop (σ := Nat) (fun (i : Nat) => i ≤ w.ts.length ∧ ∀ j, j < i → Pl.okT w.done.length j (w.ts.getD j default)) (fun (i : Nat) => ⟨[(1, (.ptr 0 3 0 0)), (3, (.p (iV w.done.length))), (4, (.p (iV i)))], [(0, (.row 3 [[.p (.seq c (w.ts.map taskC)), .p (iV w.grain), .p (.seq d (w.done.map fun b => [bV b]))]]))], 1⟩) (fun i => w.ts.length - i) 0 ?_ ?_ fun x hx => ?_
  ·exact ⟨Nat.zero_le _, fun j hj => by omega⟩
  ·exact le_of [(0, _)] (by rfl) (by rfl) ⟨⟨_, rfl, .ptr rfl⟩, ⟨_, rfl, .oe⟩, ⟨_, rfl, .oe⟩, trivial⟩ ⟨⟨_, rfl, _, rfl, .one (.cons (.p (.refl _)) (.cons (.p (.refl _)) (.cons (.p (.refl _)) .nil)))⟩, trivial⟩
  obtain ⟨hx1, hx2⟩ := hx
  refine awp_seq fun k4 h4 => ?_
  refine awp_le (le_keep [0, 1, 2, 3, 4]) ?_
  simp only [kp, argSl, simprocAttr]
  refine awp_sr [] (by rw [hC]; rfl) fun k hk => ?_
  simp (maxSteps := 9^9) (disch := (try simp only [lens]); omega) only [argSl, sm, ↓amb, mark_eq, simprocAttr, fl88_0, sz86, el86, dx]
  repeat refine an ?_
  refine hk _ ?_; clear hk k
  refine awp_cond rfl (fun hb => ?_) (fun hb => ?_)
  ·try simp only [hbx] at hb
   refine awp_skip ?_
   refine h4 _ ?_; clear h4 k4
   refine awp_seq fun k5 h5 => ?_
   refine awp_block ?_
   refine awp_le (le_keep [0, 1, 2, 3, 4]) ?_
   simp only [kp, argSl, simprocAttr]
   refine awp_sr [] (by rw [hC]; rfl) fun k hk => ?_
   simp (maxSteps := 9^9) (disch := (try simp only [lens]); omega) only [argSl, sm, ↓amb, mark_eq, simprocAttr, fl88_0, sz86, el86, sz118, vr118, dx]
   repeat refine an ?_
   refine hk _ ?_; clear hk k
   refine awp_test [] 85 (decide (¬ Pl.okT w.done.length x (w.ts.getD x default))) [0, 1, 2, 3, 4] (by rw [hC]; rfl) (fun gd hgd k hk => ?_) ?_
   ·have g3 : gd 3 = some 52 := by rw [hgd]; rfl
    have g10 : gd 10 = some 59 := by rw [hgd]; rfl
    have g16 : gd 16 = some 65 := by rw [hgd]; rfl
    have g21 : gd 21 = some 70 := by rw [hgd]; rfl
    have g27 : gd 27 = some 76 := by rw [hgd]; rfl
    have g32 : gd 32 = some 81 := by rw [hgd]; rfl
    clear hgd
    simp (maxSteps := 9^9) (disch := (try simp only [lens]); omega) only [argSl, sm, ↓amb, mark_eq, simprocAttr, fl118_0, sz3, fl118_1, fl118_2, fl118_3, gcase_undef, g3, g10, g16, g21, g27, g32, dx]
    repeat' first | refine hk _ _ rfl rfl rfl rfl ?_ | (refine gsplit (fun hg => ?_) (fun hg => ?_) <;> (try simp only [hbx] at hg) <;> simp (maxSteps := 9^9) (disch := (try simp only [lens]); omega) only [argSl, sm, ↓amb, mark_eq, simprocAttr, fl118_0, sz3, fl118_1, fl118_2, fl118_3, gcase_undef, g3, g10, g16, g21, g27, g32, dx]) | apply And.intro | fail
    all_goals first | rfl | omega | exact (decide_eq_true (by (try simp only [Pl.right, Pl.cnt, Pl.okT] at *); omega)).symm | exact (decide_eq_false (by (try simp only [Pl.right, Pl.cnt, Pl.okT] at *); omega)).symm | exact decide_eq_decide.mpr (by (try simp only [Pl.right, Pl.cnt, Pl.okT] at *); omega) | (refine Bool.eq_iff_iff.mpr ?_; (try simp only [Pl.right, Pl.cnt, Pl.okT] at *); simp only [beq_iff_eq, bne_iff_ne, ne_eq, decide_eq_true_eq]; omega) | (refine Bool.eq_iff_iff.mpr ?_; simp only [Bool.not_eq_true', Bool.not_eq_false', decide_eq_false_iff_not, decide_eq_true_eq, beq_iff_eq, bne_iff_ne, ne_eq]; (try simp only [Pl.right, Pl.cnt, Pl.okT] at *); omega) | assumption | (simp; done) | (simp [maxLen]; omega) | skip
   simp only [kp, argSl, simprocAttr, List.length_cons, List.length_nil]
   refine awp_cond rfl (fun hb => ?_) (fun hb => ?_)
   ·try simp only [hbx] at hb
    refine awp_le (le_keep []) ?_
    simp only [kp, argSl, simprocAttr]
    refine awp_sr [] (by rw [hC]; rfl) fun k hk => ?_
    simp (maxSteps := 9^9) (disch := (try simp only [lens]); omega) only [argSl, sm, ↓amb, mark_eq, simprocAttr, dx]
    repeat refine an ?_
    refine hk _ ?_; clear hk k
    refine awp_ret ?_
    refine ret1 rfl rfl ?_
    exact .p (LeP.of_eq (by rw [decide_eq_false (fun h => by have h2 := h.2.2.2 x (by omega); have h3 := h.1; simp only [Pl.okT] at h2 hb; omega)]))
   ·try simp only [hbx] at hb
    refine awp_skip ?_
    refine h5 _ ?_; clear h5 k5
    refine awp_region [] (by rw [hC]; rfl) fun k hk => ?_
    simp (maxSteps := 9^9) (disch := (try simp only [lens]); omega) only [argSl, sm, ↓amb, mark_eq, simprocAttr, dx]
    repeat refine an ?_
    refine hk _ ?_; clear hk k
    refine ⟨x + 1, ⟨by omega, fun j hj => by by_cases e : j = x; subst e; exact hb; exact hx2 j (by omega)⟩, le_of [(0, _)] (by rfl) (by rfl) ⟨⟨_, rfl, .ptr rfl⟩, ⟨_, rfl, .oe⟩, ⟨_, rfl, .oe⟩, trivial⟩ ⟨⟨_, rfl, _, rfl, .one (.cons (.p (.refl _)) (.cons (.p (.refl _)) (.cons (.p (.refl _)) .nil)))⟩, trivial⟩, by omega⟩
  ·try simp only [hbx] at hb
   refine awp_exit ((if_pos rfl).mpr ?_)
   refine h2 _ ?_; clear h4 k4; clear h2 k2
   refine awp_le (le_keep []) ?_
   simp only [kp, argSl, simprocAttr]
   refine awp_sr [] (by rw [hC]; rfl) fun k hk => ?_
   simp (maxSteps := 9^9) (disch := (try simp only [lens]); omega) only [argSl, sm, ↓amb, mark_eq, simprocAttr, dx]
   repeat refine an ?_
   refine hk _ ?_; clear hk k
   refine awp_ret ?_
   refine ret1 rfl rfl ?_
   exact .p (LeP.of_eq (by rw [decide_eq_true (Pl.right_of (by omega) hb0 hx2)]))
set_option maxHeartbeats 4000000 in
theorem c52 (c d : Bool) (w : Pl.Work) (i : Int) : PCall Try.prog 98 [workV c d w, iV i] (bV (decide (0 ≤ i ∧ i < w.ts.length))) := by
 refine pcall_of_awp Try.func98 rfl (by simp [Try.ntmps98]) fun C hC => ?_
 refine awp_sr [] (by rw [hC]; rfl) fun k hk => ?_
 simp (maxSteps := 9^9) (disch := (try simp only [lens]); omega) only [argSl, sm, ↓amb, mark_eq, simprocAttr, dx]
 repeat refine an ?_
 refine hk _ ?_; clear hk k
 refine awp_test [] 4 (decide (0 ≤ i ∧ i < w.ts.length)) [] (by rw [hC]; rfl) (fun gd hgd k hk => ?_) ?_
 ·have g2 : gd 2 = some 7 := by rw [hgd]; rfl
  clear hgd
  simp (maxSteps := 9^9) (disch := (try simp only [lens]); omega) only [argSl, sm, ↓amb, mark_eq, simprocAttr, fl88_0, sz86, el86, gcase_undef, g2, dx]
  repeat' first | refine hk _ _ rfl rfl rfl rfl ?_ | (refine gsplit (fun hg => ?_) (fun hg => ?_) <;> (try simp only [hbx] at hg) <;> simp (maxSteps := 9^9) (disch := (try simp only [lens]); omega) only [argSl, sm, ↓amb, mark_eq, simprocAttr, fl88_0, sz86, el86, gcase_undef, g2, dx]) | apply And.intro | fail
  all_goals first | rfl | omega | exact (decide_eq_true (by omega)).symm | exact (decide_eq_false (by omega)).symm | exact decide_eq_decide.mpr (by omega) | (refine Bool.eq_iff_iff.mpr ?_; simp only [beq_iff_eq, bne_iff_ne, ne_eq, decide_eq_true_eq]; omega) | (refine Bool.eq_iff_iff.mpr ?_; simp only [Bool.not_eq_true', Bool.not_eq_false', decide_eq_false_iff_not, decide_eq_true_eq, beq_iff_eq, bne_iff_ne, ne_eq]; omega) | assumption | (simp; done) | (simp [maxLen]; omega) | skip
 simp only [kp, argSl, simprocAttr, List.length_cons, List.length_nil]
 refine awp_ret ?_
 refine ret1 rfl rfl ?_
 exact .p (LeP.refl _)
set_option maxHeartbeats 4000000 in
theorem c40 (c d : Bool) (w : Pl.Work) (i : Int) : PCall Try.prog 88 [workV c d w, iV i] (bV (decide (Pl.great w i))) := by
 refine pcall_of_awp Try.func88 rfl (by simp [Try.ntmps88]) fun C hC => ?_
 refine awp_sr [] (by rw [hC]; rfl) fun k hk => ?_
 simp (maxSteps := 9^9) (disch := (try simp only [lens]); omega) only [argSl, sm, ↓amb, mark_eq, simprocAttr, dx]
 repeat refine an ?_
 refine hk _ ?_; clear hk k
 refine awp_testD [] ⟨[0, 1, 3, 7, 7, 31, 63, 127, 255, 511, 255, 2047, 4095, 8191, 255, 16639, 255, 114943, 246015, 508159, 1048575, 255, 2097407, 8388607, 16777215, 33554431], [0, 3, 9, 13, 15, 19, 22], [], [(1, 3), (1, 9), (5, 9), (1, 13), (5, 13), (1, 15), (5, 15), (1, 19), (5, 19), (1, 22), (5, 22)], some []⟩ 4 (decide (Pl.great w i)) [] (by rw [hC]; rfl) (by kernel_rfl) (by kernel_rfl) (fun gd hgd k hk => ?_) ?_
 ·have g2 : gd 2 = some 7 := by rw [hgd]; rfl
  have g7 : gd 7 = some 12 := by rw [hgd]; rfl
  clear hgd
  simp (maxSteps := 9^9) (disch := (try simp only [lens]); omega) only [argSl, sm, ↓amb, mark_eq, simprocAttr, sz88, en96, en98, fl88_0, sz86, el86, sz118, fl118_1, sz3, fl118_0, fl88_1, gcase_undef, g2, g7, dx]
  repeat' first | refine hk _ _ rfl rfl rfl rfl ?_ | (refine gsplit (fun hg => ?_) (fun hg => ?_) <;> (try simp only [hbx] at hg) <;> (try (have hth := Pl.there_of (by assumption) hg; have q := Pl.ok_of hth; obtain ⟨_, hi0, hi1, hok, _, _, _, _⟩ := q; simp only [Pl.okT, Pl.task] at hok)) <;> simp (maxSteps := 9^9) (disch := (try simp only [lens]); omega) only [argSl, sm, ↓amb, mark_eq, simprocAttr, sz88, en96, en98, fl88_0, sz86, el86, sz118, fl118_1, sz3, fl118_0, fl88_1, gcase_undef, g2, g7, dx]) | apply And.intro | (refine callK_p (c38 _ _ _) rfl ?_; (try simp (maxSteps := 9^9) (disch := (try simp only [lens]); omega) only [argSl, sm, ↓amb, mark_eq, simprocAttr, sz88, en96, en98, fl88_0, sz86, el86, sz118, fl118_1, sz3, fl118_0, fl88_1, gcase_undef, g2, g7, dx])) | (refine callK_p (c52 _ _ _ _) rfl ?_; (try simp (maxSteps := 9^9) (disch := (try simp only [lens]); omega) only [argSl, sm, ↓amb, mark_eq, simprocAttr, sz88, en96, en98, fl88_0, sz86, el86, sz118, fl118_1, sz3, fl118_0, fl88_1, gcase_undef, g2, g7, dx])) | fail
  all_goals first | rfl | omega | exact (decide_eq_true (by (try simp only [Pl.great] at *); omega)).symm | exact (decide_eq_false (by (try simp only [Pl.great] at *); omega)).symm | exact decide_eq_decide.mpr (by (try simp only [Pl.great] at *); omega) | (refine Bool.eq_iff_iff.mpr ?_; (try simp only [Pl.great] at *); simp only [beq_iff_eq, bne_iff_ne, ne_eq, decide_eq_true_eq]; omega) | (refine Bool.eq_iff_iff.mpr ?_; simp only [Bool.not_eq_true', Bool.not_eq_false', decide_eq_false_iff_not, decide_eq_true_eq, beq_iff_eq, bne_iff_ne, ne_eq]; (try simp only [Pl.great] at *); omega) | assumption | (simp; done) | (simp [maxLen]; omega) | skip
  all_goals first | exact decide_eq_decide.mpr ⟨fun h => ⟨hth, h⟩, fun h => h.2⟩ | exact (decide_eq_false (p := Pl.great w i) (by intro h; obtain ⟨a, b, e, _⟩ := Pl.ok_of h.1; first | exact hg a | exact hg ⟨b, e⟩ | omega)).symm
 simp only [kp, argSl, simprocAttr, List.length_cons, List.length_nil]
 refine awp_ret ?_
 refine ret1 rfl rfl ?_
 exact .p (LeP.refl _)
set_option maxHeartbeats 4000000 in
theorem c27 (c d : Bool) (w : Pl.Work) (h1 : w.ts.length ≤ 1000000) (h2 : w.done.length ≤ 1000000) : HCall Try.prog 97 [.p (workV c d w)] [] (.agg [.own 0, .p (iV w.grain), .own 1]) [(0, .row 4 (lift (w.ts.map taskC))), (1, .row 1 (lift (w.done.map fun b => [bV b])))] := by
 refine hcall_of_awp Try.func97 rfl (by simp [Try.ntmps97]) fun C hC => ?_
 refine awp_sr [6, 12] (by rw [hC]; rfl) fun k hk => ?_
 simp (maxSteps := 9^9) (disch := (try simp only [lens]); omega) only [argSl, sm, ↓amb, mark_eq, simprocAttr, vr88, dx]
 repeat refine an ?_
 refine hk _ ?_; clear hk k
 refine awp_sd [6, 12] ⟨[0, 0, 2, 7, 0, 16, 0, 0, 128, 463, 1023, 2047], [2, 3, 5, 8, 9], [11], [(3, 9), (3, 11), (9, 11)], none⟩ (by rw [hC]; rfl) (by kernel_rfl) (by kernel_rfl) fun k hk => ?_
 simp (maxSteps := 9^9) (disch := (try simp only [lens]); omega) only [argSl, sm, ↓amb, mark_eq, simprocAttr, el86, vr118, fl88_0, sz86, by118, fl88_1, sz3, el23, vr4, fl88_2, sz23, by4, vr88, bt88, pl88_0, pl88_1, pl88_2, sz88, dx]
 repeat refine an ?_
 refine hk _ ?_; clear hk k
 refine awp_ret ?_
 refine rethc rfl rfl sz88 ?_
 simp (maxSteps := 9^9) (disch := (try simp only [lens]); omega) only [argSl, sm, ↓amb, mark_eq, simprocAttr, sz88, dx]
 exact le_of [(0, _), (1, _)] (by rfl) (by rfl) ⟨⟨_, rfl, .agg rfl (LeRow.cons (.own rfl) (LeRow.cons (.p (.refl _)) (LeRow.cons (.own rfl) .nil))).2⟩, trivial⟩ ⟨⟨_, rfl, _, rfl, .lift _⟩, ⟨_, rfl, _, rfl, .lift _⟩, trivial⟩
set_option maxHeartbeats 4000000 in
theorem c29 (c d : Bool) (w : Pl.Work) (i : Int) : PCall Try.prog 89 [workV c d w, iV i] (.tup [workV false false (Pl.partW w i), iV (Pl.partA w i), iV (Pl.partB w i), iV (Pl.partE w i)]) := by
 refine pcall_of_awp Try.func89 rfl (by simp [Try.ntmps89]) fun C hC => ?_
 refine awp_sr [] (by rw [hC]; rfl) fun k hk => ?_
 simp (maxSteps := 9^9) (disch := (try simp only [lens]); omega) only [argSl, sm, ↓amb, mark_eq, simprocAttr, vr88, dx]
 repeat refine an ?_
 refine hk _ ?_; clear hk k
 refine awp_seq fun k1 h1 => ?_
 refine awp_block ?_
 refine awp_sr [] (by rw [hC]; rfl) fun k hk => ?_
 simp (maxSteps := 9^9) (disch := (try simp only [lens]); omega) only [argSl, sm, ↓amb, mark_eq, simprocAttr, sz88, en96, dx]
 repeat refine an ?_
 refine callK_p (c38 _ _ _) rfl ?_
 simp (maxSteps := 9^9) (disch := (try simp only [lens]); omega) only [argSl, sm, ↓amb, mark_eq, simprocAttr, sz88, en96, dx]
 repeat refine an ?_
 refine hk _ ?_; clear hk k
 refine awp_cond rfl (fun hb => ?_) (fun hb => ?_)
 ·try simp only [hbx] at hb
  refine awp_sr [] (by rw [hC]; rfl) fun k hk => ?_
  simp (maxSteps := 9^9) (disch := (try simp only [lens]); omega) only [argSl, sm, ↓amb, mark_eq, simprocAttr, sz88, dx]
  repeat refine an ?_
  refine hk _ ?_; clear hk k
  refine awp_ret ?_
  obtain ⟨e1, e2, e3, e4⟩ := Pl.part_err (w := w) (i := i) ((Pl.partE1 (by rw [Pl.there, if_pos hb]; decide)).trans (by rw [Pl.there, if_pos hb])) (by decide)
  rw [e1, e2, e3, e4]
  refine retl rfl rfl ⟨retc rfl sz88 ?_, rett rfl ?_, rett rfl ?_, rett rfl ?_, trivial⟩
  simp (maxSteps := 9^9) (disch := (try simp only [lens]); omega) only [argSl, sm, ↓amb, mark_eq, simprocAttr, sz88, dx]
  ·exact .p (LeP.agg (.cons (LeP.seq _ _) (.cons (LeP.refl _) (.cons (LeP.seq _ _) .nil))))
  ·exact .p (LeP.refl _)
  ·exact .p (LeP.refl _)
  ·exact .p (LeP.refl _)
 ·try simp only [hbx] at hb
  have hR := hb
  refine awp_sr [] (by rw [hC]; rfl) fun k hk => ?_
  simp (maxSteps := 9^9) (disch := (try simp only [lens]); omega) only [argSl, sm, ↓amb, mark_eq, simprocAttr, sz88, en98, dx]
  repeat refine an ?_
  refine callK_p (c52 _ _ _ _) rfl ?_
  simp (maxSteps := 9^9) (disch := (try simp only [lens]); omega) only [argSl, sm, ↓amb, mark_eq, simprocAttr, sz88, en98, dx]
  repeat refine an ?_
  refine hk _ ?_; clear hk k
  refine awp_cond rfl (fun hb => ?_) (fun hb => ?_)
  ·try simp only [hbx] at hb
   refine awp_sr [] (by rw [hC]; rfl) fun k hk => ?_
   simp (maxSteps := 9^9) (disch := (try simp only [lens]); omega) only [argSl, sm, ↓amb, mark_eq, simprocAttr, sz88, dx]
   repeat refine an ?_
   refine hk _ ?_; clear hk k
   refine awp_ret ?_
   obtain ⟨e1, e2, e3, e4⟩ := Pl.part_err (w := w) (i := i) ((Pl.partE1 (by rw [Pl.there, if_neg (by simpa using hR), if_pos (by omega)]; decide)).trans (by rw [Pl.there, if_neg (by simpa using hR), if_pos (by omega)])) (by decide)
   rw [e1, e2, e3, e4]
   refine retl rfl rfl ⟨retc rfl sz88 ?_, rett rfl ?_, rett rfl ?_, rett rfl ?_, trivial⟩
   simp (maxSteps := 9^9) (disch := (try simp only [lens]); omega) only [argSl, sm, ↓amb, mark_eq, simprocAttr, sz88, dx]
   ·exact .p (LeP.agg (.cons (LeP.seq _ _) (.cons (LeP.refl _) (.cons (LeP.seq _ _) .nil))))
   ·exact .p (LeP.refl _)
   ·exact .p (LeP.refl _)
   ·exact .p (LeP.refl _)
  ·try simp only [hbx] at hb
   have hth := Pl.there_of hR (by assumption)
   obtain ⟨_, hi0, hi1, hok, hd1, hg1, hg2, ht1⟩ := Pl.ok_of hth
   simp only [Pl.okT, Pl.task] at hok
   have hin : i.toNat < w.ts.length := by omega
   refine awp_test [] 23 (decide (¬ Pl.great w i ∨ ¬ (w.ts.getD i.toNat default).wait = 0)) [1, 2, 4, 5, 6, 7] (by rw [hC]; rfl) (fun gd hgd k hk => ?_) ?_
   ·have g4 : gd 4 = some 28 := by rw [hgd]; rfl
    clear hgd
    simp (maxSteps := 9^9) (disch := (try simp only [lens]); omega) only [argSl, sm, ↓amb, mark_eq, simprocAttr, sz88, en88, fl88_0, sz86, el86, sz118, fl118_3, sz3, gcase_undef, g4, dx]
    repeat' first | refine hk _ _ rfl rfl rfl rfl ?_ | (refine gsplit (fun hg => ?_) (fun hg => ?_) <;> (try simp only [hbx] at hg) <;> simp (maxSteps := 9^9) (disch := (try simp only [lens]); omega) only [argSl, sm, ↓amb, mark_eq, simprocAttr, sz88, en88, fl88_0, sz86, el86, sz118, fl118_3, sz3, gcase_undef, g4, dx]) | apply And.intro | (refine callK_p (c40 _ _ _ _) rfl ?_; (try simp (maxSteps := 9^9) (disch := (try simp only [lens]); omega) only [argSl, sm, ↓amb, mark_eq, simprocAttr, sz88, en88, fl88_0, sz86, el86, sz118, fl118_3, sz3, gcase_undef, g4, dx])) | fail
    all_goals first | rfl | omega | exact (decide_eq_true (by (try simp only [Pl.great, Pl.task] at *); omega)).symm | exact (decide_eq_false (by (try simp only [Pl.great, Pl.task] at *); omega)).symm | exact decide_eq_decide.mpr (by (try simp only [Pl.great, Pl.task] at *); omega) | (refine Bool.eq_iff_iff.mpr ?_; (try simp only [Pl.great, Pl.task] at *); simp only [beq_iff_eq, bne_iff_ne, ne_eq, decide_eq_true_eq]; omega) | (refine Bool.eq_iff_iff.mpr ?_; simp only [Bool.not_eq_true', Bool.not_eq_false', decide_eq_false_iff_not, decide_eq_true_eq, beq_iff_eq, bne_iff_ne, ne_eq]; (try simp only [Pl.great, Pl.task] at *); omega) | assumption | (simp; done) | (simp [maxLen]; omega) | skip
    all_goals first | (simp only [hg, not_true_eq_false, false_or]; exact Pl.int_ne _) | (simp [hg]; done)
   simp only [kp, argSl, simprocAttr, List.length_cons, List.length_nil]
   refine awp_cond rfl (fun hb => ?_) (fun hb => ?_)
   ·try simp only [hbx] at hb
    refine awp_sr [] (by rw [hC]; rfl) fun k hk => ?_
    simp (maxSteps := 9^9) (disch := (try simp only [lens]); omega) only [argSl, sm, ↓amb, mark_eq, simprocAttr, sz88, dx]
    repeat refine an ?_
    refine hk _ ?_; clear hk k
    refine awp_ret ?_
    obtain ⟨e1, e2, e3, e4⟩ := Pl.part_err (w := w) (i := i) (Pl.partE2 hth (by simp only [Pl.great, Pl.task] at *; omega)) (by decide)
    rw [e1, e2, e3, e4]
    refine retl rfl rfl ⟨retc rfl sz88 ?_, rett rfl ?_, rett rfl ?_, rett rfl ?_, trivial⟩
    simp (maxSteps := 9^9) (disch := (try simp only [lens]); omega) only [argSl, sm, ↓amb, mark_eq, simprocAttr, sz88, dx]
    ·exact .p (LeP.agg (.cons (LeP.seq _ _) (.cons (LeP.refl _) (.cons (LeP.seq _ _) .nil))))
    ·exact .p (LeP.refl _)
    ·exact .p (LeP.refl _)
    ·exact .p (LeP.refl _)
   ·try simp only [hbx] at hb
    have hgr := hb
    refine awp_sr [] (by rw [hC]; rfl) fun k hk => ?_
    simp (maxSteps := 9^9) (disch := (try simp only [lens]); omega) only [argSl, sm, ↓amb, mark_eq, simprocAttr, fl88_0, sz86, el86, dx]
    repeat refine an ?_
    refine hk _ ?_; clear hk k
    refine awp_cond rfl (fun hb => ?_) (fun hb => ?_)
    ·try simp only [hbx] at hb
     refine awp_sr [] (by rw [hC]; rfl) fun k hk => ?_
     simp (maxSteps := 9^9) (disch := (try simp only [lens]); omega) only [argSl, sm, ↓amb, mark_eq, simprocAttr, sz88, dx]
     repeat refine an ?_
     refine hk _ ?_; clear hk k
     refine awp_ret ?_
     obtain ⟨e1, e2, e3, e4⟩ := Pl.part_err (w := w) (i := i) (Pl.partE3 hth (by simp only [Pl.great, Pl.task] at *; omega) (by omega)) (by decide)
     rw [e1, e2, e3, e4]
     refine retl rfl rfl ⟨retc rfl sz88 ?_, rett rfl ?_, rett rfl ?_, rett rfl ?_, trivial⟩
     simp (maxSteps := 9^9) (disch := (try simp only [lens]); omega) only [argSl, sm, ↓amb, mark_eq, simprocAttr, sz88, dx]
     ·exact .p (LeP.agg (.cons (LeP.seq _ _) (.cons (LeP.refl _) (.cons (LeP.seq _ _) .nil))))
     ·exact .p (LeP.refl _)
     ·exact .p (LeP.refl _)
     ·exact .p (LeP.refl _)
    ·try simp only [hbx] at hb
     refine awp_skip ?_
     refine h1 _ ?_; clear h1 k1
     have h0 := Pl.partE0 hth (by simp only [Pl.great, Pl.task] at *; omega) (by omega)
     refine awp_sr [] (by rw [hC]; rfl) fun k hk => ?_
     simp (maxSteps := 9^9) (disch := (try simp only [lens]); omega) only [argSl, sm, ↓amb, mark_eq, simprocAttr, sz88, en97, vr88, dx]
     repeat refine an ?_
     refine callK_h (c27 c d w (by omega) (by omega)) [] [] (by first | rfl | (simp only [hm]; done)) (by first | rfl | (simp [namesOk, lkp]; done)) ?_ ?_ ?_ ?_ ?_ ?_ ?_
     (iterate 6 (focus (first | trivial | (intro n hn; cases hn; done) | (simp (maxSteps := 9^9) (disch := (try simp only [lens]); omega) only [argSl, sm, ↓amb, mark_eq, simprocAttr, sz88, en97, vr88, dx, hmx, List.filter_cons, Nat.reduceBNe, imp_self, implies_true]; done))))
     simp (maxSteps := 9^9) (disch := (try simp only [lens]); omega) only [argSl, sm, ↓amb, mark_eq, simprocAttr, sz88, en97, vr88, dx, hm, List.filter_cons, List.filter_nil, Nat.reduceBNe, Option.map_none]
     repeat refine an ?_
     refine hk _ ?_; clear hk k
     refine awp_sr [] (by rw [hC]; rfl) fun k hk => ?_
     simp (maxSteps := 9^9) (disch := (try simp only [lens]); omega) only [argSl, sm, ↓amb, mark_eq, simprocAttr, fl88_0, sz86, el86, dx]
     repeat refine an ?_
     refine hk _ ?_; clear hk k
     refine awp_sr [] (by rw [hC]; rfl) fun k hk => ?_
     simp (maxSteps := 9^9) (disch := (try simp only [lens]); omega) only [argSl, sm, ↓amb, mark_eq, simprocAttr, fl88_0, sz86, el86, sz118, vr118, dx]
     repeat refine an ?_
     refine hk _ ?_; clear hk k
     refine awp_sr [] (by rw [hC]; rfl) fun k hk => ?_
     simp (maxSteps := 9^9) (disch := (try simp only [lens]); omega) only [argSl, sm, ↓amb, mark_eq, simprocAttr, fl118_0, sz3, fl118_1, dx]
     repeat refine an ?_
     refine hk _ ?_; clear hk k
     refine awp_sr [] (by rw [hC]; rfl) fun k hk => ?_
     simp (maxSteps := 9^9) (disch := (try simp only [lens]); omega) only [argSl, sm, ↓amb, mark_eq, simprocAttr, fl88_0, sz86, el86, sz118, fl118_3, sz3, dx]
     repeat refine an ?_
     refine hk _ ?_; clear hk k
     refine awp_sr [] (by rw [hC]; rfl) fun k hk => ?_
     simp (maxSteps := 9^9) (disch := (try simp only [lens]); omega) only [argSl, sm, ↓amb, mark_eq, simprocAttr, fl88_0, sz86, fl118_0, sz3, vr118, bt118, pl118_0, pl118_1, pl118_2, fl118_1, el86, by118, dx]
     repeat refine an ?_
     refine hk _ ?_; clear hk k
     refine awp_sr [] (by rw [hC]; rfl) fun k hk => ?_
     simp (maxSteps := 9^9) (disch := (try simp only [lens]); omega) only [argSl, sm, ↓amb, mark_eq, simprocAttr, sz88, dx]
     repeat refine an ?_
     refine hk _ ?_; clear hk k
     refine awp_ret ?_
     obtain ⟨e1, e2, e3, e4⟩ := Pl.part_ok h0
     rw [e1, e2, e3, e4]
     refine retl rfl rfl ⟨retc rfl sz88 ?_, rett rfl ?_, rett rfl ?_, rett rfl ?_, trivial⟩
     simp (maxSteps := 9^9) (disch := (try simp only [lens]); omega) only [argSl, sm, ↓amb, mark_eq, simprocAttr, sz88, dx]
     ·exact .agg_cons (.p (LeP.sq (by simp [Pl.parted, Pl.mid, List.map_set]))) (.agg_cons (.p (LeP.refl _)) (.agg_cons (.ownE rfl rfl) (.agg_nil)))
     ·exact .p (LeP.refl _)
     ·exact .p (LeP.refl _)
     ·exact .p (LeP.refl _)
set_option maxHeartbeats 4000000 in
theorem c18 (c : Bool) (l : List Int) (hl : l.length ≤ 1000000) : PCall Try.prog 86 [ints c l] (popS l) := by
 refine pcall_of_awp Try.func86 rfl (by simp [Try.ntmps86]) fun C hC => ?_
 refine awp_sr [] (by rw [hC]; rfl) fun k hk => ?_
 simp (maxSteps := 9^9) (disch := (try simp only [lens]); omega) only [argSl, sm, ↓amb, mark_eq, simprocAttr, dx]
 repeat refine an ?_
 refine hk _ ?_; clear hk k
 refine awp_seq fun k1 h1 => ?_
 refine awp_sr [] (by rw [hC]; rfl) fun k hk => ?_
 simp (maxSteps := 9^9) (disch := (try simp only [lens]); omega) only [argSl, sm, ↓amb, mark_eq, simprocAttr, el33, dx]
 repeat refine an ?_
 refine hk _ ?_; clear hk k
 refine awp_cond rfl (fun hb => ?_) (fun hb => ?_)
 ·try simp only [hbx] at hb
  refine awp_sr [] (by rw [hC]; rfl) fun k hk => ?_
  simp (maxSteps := 9^9) (disch := (try simp only [lens]); omega) only [argSl, sm, ↓amb, mark_eq, simprocAttr, dx]
  repeat refine an ?_
  refine hk _ ?_; clear hk k
  refine awp_ret ?_
  obtain rfl : l = [] := List.eq_nil_of_length_eq_zero (by omega)
  refine ret3 rfl rfl rfl rfl ?_ ?_ ?_
  ·exact .p (LeP.seq _ _)
  ·exact .p (LeP.refl _)
  ·exact .p (LeP.refl _)
 ·try simp only [hbx] at hb
  refine awp_skip ?_
  refine h1 _ ?_; clear h1 k1
  refine awp_sr [] (by rw [hC]; rfl) fun k hk => ?_
  simp (maxSteps := 9^9) (disch := (try simp only [lens]); omega) only [argSl, sm, ↓amb, mark_eq, simprocAttr, el33, dx]
  repeat refine an ?_
  refine hk _ ?_; clear hk k
  refine awp_sd [] ⟨[0, 0, 0, 6, 15, 0, 0, 96, 224, 31, 1023, 2047], [4, 8], [], [], some []⟩ (by rw [hC]; rfl) (by kernel_rfl) (by kernel_rfl) fun k hk => ?_
  simp (maxSteps := 9^9) (disch := (try simp only [lens]); omega) only [argSl, sm, ↓amb, mark_eq, simprocAttr, el33, vr3, sz3, by3, dx]
  repeat refine an ?_
  refine hk _ ?_; clear hk k
  refine awp_ret ?_
  refine ret3 rfl rfl rfl rfl ?_ ?_ ?_
  ·exact .p (LeP.sq (by simp [List.dropLast_eq_take]))
  ·exact .p (LeP.refl _)
  ·exact .p (LeP.of_eq (by rw [if_neg (by omega)]))
set_option maxHeartbeats 4000000 in
theorem c20 (c : Bool) (l : List Int) (hl : l.length ≤ 1000000) : PCall Try.prog 87 [ints c l] (stealS l) := by
 refine pcall_of_awp Try.func87 rfl (by simp [Try.ntmps87]) fun C hC => ?_
 refine awp_sr [] (by rw [hC]; rfl) fun k hk => ?_
 simp (maxSteps := 9^9) (disch := (try simp only [lens]); omega) only [argSl, sm, ↓amb, mark_eq, simprocAttr, dx]
 repeat refine an ?_
 refine hk _ ?_; clear hk k
 refine awp_seq fun k1 h1 => ?_
 refine awp_sr [] (by rw [hC]; rfl) fun k hk => ?_
 simp (maxSteps := 9^9) (disch := (try simp only [lens]); omega) only [argSl, sm, ↓amb, mark_eq, simprocAttr, el33, dx]
 repeat refine an ?_
 refine hk _ ?_; clear hk k
 refine awp_cond rfl (fun hb => ?_) (fun hb => ?_)
 ·try simp only [hbx] at hb
  refine awp_sr [] (by rw [hC]; rfl) fun k hk => ?_
  simp (maxSteps := 9^9) (disch := (try simp only [lens]); omega) only [argSl, sm, ↓amb, mark_eq, simprocAttr, dx]
  repeat refine an ?_
  refine hk _ ?_; clear hk k
  refine awp_ret ?_
  obtain rfl : l = [] := List.eq_nil_of_length_eq_zero (by omega)
  refine ret3 rfl rfl rfl rfl ?_ ?_ ?_
  ·exact .p (LeP.seq _ _)
  ·exact .p (LeP.refl _)
  ·exact .p (LeP.refl _)
 ·try simp only [hbx] at hb
  refine awp_skip ?_
  refine h1 _ ?_; clear h1 k1
  refine awp_sd [] ⟨[0, 0, 2, 7, 0, 16, 48, 15, 255, 511], [3, 6], [], [], some []⟩ (by rw [hC]; rfl) (by kernel_rfl) (by kernel_rfl) fun k hk => ?_
  simp (maxSteps := 9^9) (disch := (try simp only [lens]); omega) only [argSl, sm, ↓amb, mark_eq, simprocAttr, el33, vr3, sz3, by3, dx]
  repeat refine an ?_
  refine hk _ ?_; clear hk k
  refine awp_ret ?_
  refine ret3 rfl rfl rfl rfl ?_ ?_ ?_
  ·exact .p (LeP.sq (by simp))
  ·exact .p (LeP.refl _)
  ·exact .p (LeP.of_eq (by rw [if_neg (by omega)]))
end Go.Proofs.Ytbehekmnccoifaa
end
section
set_option linter.unusedSimpArgs false
set_option linter.unusedVariables false
set_option maxRecDepth 100000
namespace Go.Proofs.Ytbehekmnccoifaa
open Go.Am Go.Proofs
theorem mx1 (es : List (List PV)) (id sz k off : Nat) (vs : List AV) (K : Upd → Prop) : storeL none es id sz k off vs K = K ⟨.p (.lit undef), [(id, some (.row sz ((lift es).set k (splice ((es.getD k []).map .p) off vs))))]⟩ := rfl
theorem mx2 (es : List (List PV)) (sz k off n : Nat) (cs : List AV) (K : AV → Prop) : loadB (some (.row sz ((lift es).set k cs))) sz k off false n K = (k < es.length ∧ onE cs[off]? K) := by
  have hl : (lift es).length = es.length := by simp [lift]
  refine propext ⟨?_, ?_⟩
  · rintro ⟨_, h, ds, hd, hk⟩
    injection h with h; injection h with h1 h2; subst h2
    rw [List.getElem?_set] at hd
    split at hd
    · split at hd
      · injection hd with hd; subst hd; exact ⟨by omega, by simpa [onE] using hk⟩
      · cases hd
    · exact absurd rfl ‹_›
  · rintro ⟨h1, x, h2, h3⟩
    exact ⟨_, rfl, cs, List.getElem?_set_self (by omega), by simpa using ⟨x, h2, h3⟩⟩
theorem mx3 (es : List (List PV)) (id sz k off : Nat) (cs vs : List AV) (K : Upd → Prop) : storeB (some (.row sz ((lift es).set k cs))) id sz k off vs K = (k < es.length ∧ off + vs.length ≤ cs.length ∧ K ⟨.p (.lit undef), [(id, some (.row sz ((lift es).set k (splice cs off vs))))]⟩) := by
  have hl : (lift es).length = es.length := by simp [lift]
  refine propext ⟨?_, ?_⟩
  · rintro ⟨_, h, ds, hd, h4, hk⟩
    injection h with h; injection h with h1 h2; subst h2
    rw [List.getElem?_set] at hd
    split at hd
    · split at hd
      · injection hd with hd; subst hd
        rw [List.set_set] at hk
        exact ⟨by omega, h4, hk⟩
      · cases hd
    · exact absurd rfl ‹_›
  · rintro ⟨h1, h2, h3⟩
    exact ⟨_, rfl, cs, List.getElem?_set_self (by omega), h2, by rw [List.set_set]; exact h3⟩
theorem mx4 (es : List (List PV)) (k : Nat) (cs : List AV) : ((lift es).set k cs).length = es.length := by simp [lift]
theorem mx : type_of% (And.intro (And.intro @mx1 @mx2) (And.intro @mx3 @mx4)) := And.intro (And.intro @mx1 @mx2) (And.intro @mx3 @mx4)
end Go.Proofs.Ytbehekmnccoifaa
end
section
set_option linter.unusedSimpArgs false
set_option linter.unusedVariables false
set_option maxRecDepth 100000
namespace Go.Proofs.Ytbehekmnccoifaa
open Go.Am Go.Proofs
end Go.Proofs.Ytbehekmnccoifaa
end
section
set_option linter.unusedSimpArgs false
set_option linter.unusedVariables false
set_option maxRecDepth 100000
namespace Go.Proofs.Ytbehekmnccoifaa
open Go.Am Go.Proofs
end Go.Proofs.Ytbehekmnccoifaa
end
section
set_option linter.unusedSimpArgs false
set_option linter.unusedVariables false
set_option maxRecDepth 100000
namespace Go.Proofs.Ytbehekmnccoifaa
open Go.Am Go.Proofs
end Go.Proofs.Ytbehekmnccoifaa
end
section
set_option linter.unusedSimpArgs false
set_option linter.unusedVariables false
namespace Go.Pl
def frm (s : List Int) : List Int := marksL (firstsL s) false
theorem firstsL_get {s : List Int} {i : Nat} (h : i < s.length) : (firstsL s).getD i false = firB s i := by
  unfold firstsL tabB
  rw [List.getD_eq_getElem?_getD, List.getElem?_map, List.getElem?_range h]; rfl
theorem frm_get {s : List Int} {i : Nat} (h : i < s.length) : (frm s).getD i 0 = if firB s i = true then 1 else 0 := by
  unfold frm
  rw [marksL_get (by rw [firstsL_len]; exact h), firstsL_get h]
  cases firB s i <;> rfl
def grWi (s : List Int) (i : Nat) : List Int := onesT (frm s) i
theorem grWi_0 (s : List Int) : grWi s 0 = [] := onesT_0 _
theorem grWi_yes {s : List Int} {i : Nat} (h : i < s.length) (hf : firB s i = true) : grWi s (i + 1) = grWi s i ++ [(i : Int)] := onesT_yes (by rw [frm_get h, if_pos hf])
theorem grWi_no {s : List Int} {i : Nat} (h : i < s.length) (hf : firB s i = false) : grWi s (i + 1) = grWi s i := onesT_no (by rw [frm_get h, if_neg (by rw [hf]; decide)]; decide)
theorem grW_end {l : List Int} {w : Way} (h : grE l.length w = 0) (hs : (grS l w).length = l.length) : grW l w = grWi (grS l w) (grS l w).length := by
  have h0 : raE l.length w.bits w.block w.plan = 0 := h
  have h1 : scE (firstsL (grS l w)).length w.block w.plan = 0 := by
    rw [firstsL_len, hs]
    unfold raE at h0; split at h0
    · exact absurd h0 (by decide)
    · exact h0
  unfold grW
  rw [show whL (firstsL (grS l w)) false w.block w.plan = onesL (marksL (firstsL (grS l w)) false) from if_pos h1, ← onesT_end, marksL_len, firstsL_len]
  rfl
def rgK (s : List Int) (i : Nat) : List Int := sortedL s (grWi s i)
def rgC (s : List Int) (i : Nat) : List Int := cntG i (grWi s i) (grWi s i).length
theorem rgK_len (s : List Int) (i : Nat) : (rgK s i).length = (grWi s i).length := sortedL_len _ _
theorem rgC_len (s : List Int) (i : Nat) : (rgC s i).length = (grWi s i).length := cntG_len _ _ _
theorem rgK_0 (s : List Int) : rgK s 0 = [] := by unfold rgK; rw [grWi_0]; rfl
theorem rgC_0 (s : List Int) : rgC s 0 = [] := by unfold rgC; rw [grWi_0]; rfl
theorem rgK_yes {s : List Int} {i : Nat} (h : i < s.length) (hf : firB s i = true) : rgK s (i + 1) = rgK s i ++ [s.getD i 0] := by
  unfold rgK; rw [grWi_yes h hf, sortedL_snoc, Int.toNat_natCast]
theorem rgK_no {s : List Int} {i : Nat} (h : i < s.length) (hf : firB s i = false) : rgK s (i + 1) = rgK s i := by
  unfold rgK; rw [grWi_no h hf]
theorem cntG_get {n : Nat} {W : List Int} {k j : Nat} (h : j < k) : (cntG n W k).getD j 0 = (if j + 1 < W.length then W.getD (j + 1) 0 else (n : Int)) - W.getD j 0 := by
  unfold cntG
  rw [List.getD_eq_getElem?_getD, List.getElem?_map, List.getElem?_range h]; rfl
theorem rgC_yes {s : List Int} {i : Nat} (h : i < s.length) (hf : firB s i = true) : rgC s (i + 1) = rgC s i ++ [1] := by
  unfold rgC
  rw [grWi_yes h hf]
  generalize grWi s i = W
  rw [List.length_append, List.length_singleton, cntG_snoc]
  congr 1
  · unfold cntG
    refine List.map_congr_left fun j hj => ?_
    have hj := List.mem_range.1 hj
    rw [List.length_append, List.length_singleton, if_pos (by omega)]
    congr 1
    · split
      · rename_i q; rw [List.getD_eq_getElem?_getD, List.getD_eq_getElem?_getD, List.getElem?_append_left q]
      · rename_i q
        rw [List.getD_eq_getElem?_getD, List.getElem?_append_right (by omega), show j + 1 - W.length = 0 by omega]; rfl
    · rw [List.getD_eq_getElem?_getD, List.getD_eq_getElem?_getD, List.getElem?_append_left hj]
  · rw [List.length_append, List.length_singleton, if_neg (by omega), List.getD_eq_getElem?_getD, List.getElem?_append_right (by omega), Nat.sub_self]
    simp only [List.getElem?_cons_zero, Option.getD_some]
    congr 1; omega
theorem rgC_no {s : List Int} {i : Nat} (h : i < s.length) (hf : firB s i = false) : rgC s (i + 1) = (rgC s i).set ((rgK s i).length - 1) ((rgC s i).getD ((rgK s i).length - 1) 0 + 1) := by
  rw [rgK_len]
  unfold rgC
  rw [grWi_no h hf]
  generalize grWi s i = W
  refine list_ext (by rw [List.length_set, cntG_len, cntG_len]) fun j hj => ?_
  rw [cntG_len] at hj
  rw [List.getD_eq_getElem?_getD (l := List.set _ _ _), List.getElem?_set]
  by_cases e : W.length - 1 = j
  · rw [if_pos e, if_pos (by rw [cntG_len]; omega), Option.getD_some, e, cntG_get hj, cntG_get hj, if_neg (by omega), if_neg (by omega)]; omega
  · rw [if_neg e, ← List.getD_eq_getElem?_getD, cntG_get hj, cntG_get hj, if_pos (by omega), if_pos (by omega)]
theorem rg_last {s : List Int} : ∀ i, 0 < i → i ≤ s.length → 0 < (rgK s i).length ∧ (rgK s i).getD ((rgK s i).length - 1) 0 = s.getD (i - 1) 0
  | 0, h, _ => absurd h (by omega)
  | i + 1, _, h => by
    cases hf : firB s i with
    | true =>
      rw [rgK_yes (by omega) hf, List.length_append, List.length_singleton, Nat.add_sub_cancel, Nat.add_sub_cancel, List.getD_eq_getElem?_getD, List.getElem?_append_right (by omega), Nat.sub_self]
      exact ⟨by omega, rfl⟩
    | false =>
      have hi : 0 < i := by
        rcases Nat.eq_zero_or_pos i with e | e
        · rw [firB_0 e] at hf; cases hf
        · exact e
      obtain ⟨q1, q2⟩ := rg_last (s := s) i hi (by omega)
      rw [rgK_no (by omega) hf, Nat.add_sub_cancel]
      refine ⟨q1, q2.trans ?_⟩
      rw [firB_1 (by omega)] at hf
      simpa using hf
theorem rg_test {s : List Int} {i : Nat} (h : i < s.length) : firB s i = false ↔ (0 < (rgK s i).length ∧ (rgK s i).getD ((rgK s i).length - 1) 0 = s.getD i 0) := by
  rcases Nat.eq_zero_or_pos i with e | e
  · subst e
    rw [firB_0 rfl, rgK_0]
    exact ⟨fun z => (by cases z), fun z => absurd z.1 (by decide)⟩
  · obtain ⟨q1, q2⟩ := rg_last (s := s) i e (by omega)
    rw [firB_1 (by omega), q2]
    exact ⟨fun z => ⟨q1, by simpa using z⟩, fun z => by simpa using z.2⟩
theorem rgK_end {l : List Int} {w : Way} (h : grE l.length w = 0) (hs : (grS l w).length = l.length) : grK l w = rgK (grS l w) (grS l w).length ∧ grC l w = rgC (grS l w) (grS l w).length := by
  unfold grK grC rgK rgC
  rw [if_pos h, if_pos h, grW_end h hs, hs]
  exact ⟨rfl, rfl⟩
structure RgI (s : List Int) (i : Nat) : Prop where
  rises : (rgK s i).Pairwise fun x y => x < y
  cnt : ∀ j, j < (rgK s i).length → (rgC s i).getD j 0 = ((s.take i).count ((rgK s i).getD j 0) : Nat) ∧ 0 < (rgC s i).getD j 0
  mem : ∀ x, x ∈ s.take i ↔ x ∈ rgK s i
  sum : (rgC s i).sum = i
theorem sum_set1 : ∀ (l : List Int) (k : Nat), k < l.length → (l.set k (l.getD k 0 + 1)).sum = l.sum + 1
  | [], k, h => absurd h (by simp)
  | x :: l, 0, _ => by simp; omega
  | x :: l, k + 1, h => by
    have ih := sum_set1 l k (by simpa using h)
    simp only [List.set_cons_succ, List.sum_cons, List.getD_cons_succ]
    rw [ih]; omega
theorem rg_inv {s : List Int} (hs : s.Pairwise fun x y => x ≤ y) : ∀ i, i ≤ s.length → RgI s i
  | 0, _ => ⟨by rw [rgK_0]; exact List.Pairwise.nil, fun j hj => by rw [rgK_0] at hj; exact absurd hj (by simp), fun x => by rw [rgK_0, List.take_zero], by rw [rgC_0]; rfl⟩
  | i + 1, hi => by
    have ih := rg_inv hs i (by omega)
    have hlt : i < s.length := by omega
    have hts := take_snoc' s i hlt
    have hle : ∀ x, x ∈ s.take i → x ≤ s.getD i 0 := fun x hx => by
      obtain ⟨j, hj, rfl⟩ := List.getElem_of_mem hx
      rw [List.length_take] at hj
      rw [List.getElem_take, List.getD_eq_getElem?_getD, List.getElem?_eq_getElem hlt]
      exact List.pairwise_iff_getElem.1 hs j i (by omega) hlt (by omega)
    cases hf : firB s i with
    | true =>
      have hno : s.getD i 0 ∉ rgK s i := fun z => by
        have hi0 : 0 < i := by
          rcases Nat.eq_zero_or_pos i with e | e
          · subst e; rw [rgK_0] at z; cases z
          · exact e
        obtain ⟨q1, q2⟩ := rg_last (s := s) i hi0 (by omega)
        have h1 : s.getD (i - 1) 0 ≠ s.getD i 0 := by rw [firB_1 (by omega)] at hf; simpa using hf
        -- the last one is the greatest
        obtain ⟨j, hj, e⟩ := List.getElem_of_mem z
        have h2 : s.getD (i - 1) 0 ≤ s.getD i 0 := hle _ ((ih.mem _).2 (q2 ▸ getD_mem _ _ _ (by omega)))
        rcases Nat.lt_or_ge j ((rgK s i).length - 1) with c | c
        · have h3 := List.pairwise_iff_getElem.1 ih.rises j ((rgK s i).length - 1) hj (by omega) c
          rw [List.getD_eq_getElem?_getD, List.getElem?_eq_getElem (by omega), Option.getD_some] at q2
          rw [e, q2] at h3; omega
        · have : j = (rgK s i).length - 1 := by omega
          subst this
          rw [List.getD_eq_getElem?_getD, List.getElem?_eq_getElem (by omega), Option.getD_some, e] at q2
          exact h1 q2.symm
      refine ⟨?_, fun j hj => ?_, fun x => ?_, ?_⟩
      · rw [rgK_yes hlt hf, List.pairwise_append]
        refine ⟨ih.rises, List.pairwise_singleton _ _, fun a ha b hb => ?_⟩
        rw [List.mem_singleton] at hb; subst hb
        have h1 := hle a ((ih.mem a).2 ha)
        have h2 : a ≠ s.getD i 0 := fun z => hno (z ▸ ha)
        omega
      · rw [rgK_yes hlt hf] at hj ⊢
        rw [rgC_yes hlt hf, hts, List.count_append]
        rw [List.length_append, List.length_singleton] at hj
        rcases Nat.lt_or_ge j (rgK s i).length with c | c
        · have hx := getD_mem (rgK s i) j 0 c
          have hne : s.getD i 0 ≠ (rgK s i).getD j 0 := fun z => hno (z ▸ hx)
          rw [List.getD_eq_getElem?_getD, List.getElem?_append_left (by rw [rgC_len, ← rgK_len]; exact c), List.getD_eq_getElem?_getD (l := rgK s i ++ _), List.getElem?_append_left c, ← List.getD_eq_getElem?_getD, ← List.getD_eq_getElem?_getD]
          rw [List.count_singleton, if_neg (by simpa using hne)]
          exact ih.cnt j c
        · have e : j = (rgK s i).length := by omega
          subst e
          rw [List.getD_eq_getElem?_getD, List.getElem?_append_right (by rw [rgC_len, ← rgK_len]; omega), rgC_len, ← rgK_len, Nat.sub_self, List.getD_eq_getElem?_getD (l := rgK s i ++ _), List.getElem?_append_right (by omega), Nat.sub_self]
          simp only [List.getElem?_cons_zero, Option.getD_some]
          have h0 : (s.take i).count (s.getD i 0) = 0 := List.count_eq_zero.2 fun z => hno ((ih.mem _).1 z)
          rw [h0, List.count_singleton_self]
          exact ⟨rfl, by omega⟩
      · rw [hts, rgK_yes hlt hf, List.mem_append, List.mem_append, ih.mem]
      · rw [rgC_yes hlt hf, List.sum_append, ih.sum]; simp
    | false =>
      obtain ⟨t1, t2⟩ := (rg_test hlt).1 hf
      have hlen : (rgC s i).length = (rgK s i).length := by rw [rgC_len, rgK_len]
      have hmem : s.getD i 0 ∈ rgK s i := t2 ▸ getD_mem _ _ _ (by omega)
      refine ⟨by rw [rgK_no hlt hf]; exact ih.rises, fun j hj => ?_, fun x => ?_, ?_⟩
      · rw [rgK_no hlt hf] at hj ⊢
        rw [rgC_no hlt hf, hts, List.count_append, List.getD_eq_getElem?_getD, List.getElem?_set]
        have q := ih.cnt j hj
        by_cases e : (rgK s i).length - 1 = j
        · rw [if_pos e, if_pos (by omega), Option.getD_some, e, ← t2, e, List.count_singleton_self, q.1]
          exact ⟨by omega, by omega⟩
        · have hne : s.getD i 0 ≠ (rgK s i).getD j 0 := fun z => by
            have h3 := List.pairwise_iff_getElem.1 ih.rises j ((rgK s i).length - 1) hj (by omega) (by omega)
            rw [← t2, List.getD_eq_getElem?_getD, List.getD_eq_getElem?_getD, List.getElem?_eq_getElem hj, List.getElem?_eq_getElem (by omega), Option.getD_some, Option.getD_some] at z
            omega
          rw [if_neg e, ← List.getD_eq_getElem?_getD, List.count_singleton, if_neg (by simpa using hne)]
          exact q
      · rw [hts, rgK_no hlt hf, List.mem_append, ih.mem, List.mem_singleton]
        exact ⟨fun z => by rcases z with z | rfl; exact z; exact hmem, .inl⟩
      · rw [rgC_no hlt hf, sum_set1 _ _ (by omega), ih.sum]; omega
theorem sorted_perm {l o : List Int} (ho : onceP o l.length) : (sortedL l o).Perm l := by
  have hp : (upto 0 (l.length : Int)).Perm o := by
    refine perm_of (nodup_upto _ _) (fun x hx => ?_) (by rw [upto_len, ho.1]; omega) |>.symm
    have := mem_upto.1 hx
    have := ho.2.2 x.toNat (by omega)
    rwa [show ((x.toNat : Nat) : Int) = x by omega] at this
  have h2 := (hp.map fun i => l.getD i.toNat 0).symm
  have e : (upto 0 (l.length : Int)).map (fun i => l.getD i.toNat 0) = l := by
    refine list_ext (by rw [List.length_map, upto_len]; omega) fun j hj => ?_
    rw [List.length_map, upto_len] at hj
    rw [List.getD_eq_getElem?_getD, List.getElem?_map]
    have := upto_get (n := l.length) (u := j) (by omega)
    rw [List.getD_eq_getElem?_getD] at this
    rw [List.getElem?_eq_getElem (by rw [upto_len]; omega)] at this ⊢
    simp only [Option.getD_some, Option.map_some] at this ⊢
    rw [this, Int.toNat_natCast]
  rw [e] at h2
  exact h2
end Go.Pl
end
section
set_option linter.unusedSimpArgs false
set_option linter.unusedVariables false
set_option maxRecDepth 100000
namespace Go.Proofs.Ytbehekmnccoifaa
open Go.Am Go.Proofs
end Go.Proofs.Ytbehekmnccoifaa
end
section
set_option linter.unusedSimpArgs false
set_option linter.unusedVariables false
set_option maxRecDepth 100000
namespace Go.Proofs.Ytbehekmnccoifaa
open Go.Am Go.Proofs
theorem bt26 : tBuilt Try.prog 26 = true := by kernel_rfl
theorem bt47 : tBuilt Try.prog 47 = true := by kernel_rfl
theorem en18 : enters Try.prog 18 = true := by kernel_rfl
theorem en19 : enters Try.prog 19 = true := by kernel_rfl
theorem en26 : enters Try.prog 26 = true := by kernel_rfl
theorem en28 : enters Try.prog 28 = true := by kernel_rfl
theorem en34 : enters Try.prog 34 = true := by kernel_rfl
theorem pl26_0 : tPlace Try.prog 26 0 = some (0, 1) := by kernel_rfl
theorem pl26_1 : tPlace Try.prog 26 1 = some (1, 1) := by kernel_rfl
theorem pl47_0 : tPlace Try.prog 47 0 = some (0, 1) := by kernel_rfl
theorem pl47_1 : tPlace Try.prog 47 1 = some (1, 1) := by kernel_rfl
theorem pl47_2 : tPlace Try.prog 47 2 = some (2, 3) := by kernel_rfl
theorem vr26 : tVar Try.prog 26 = some (true, [.lit (.int .i64 0), .lit (.int .i64 0), .seq true []]) := by kernel_rfl
theorem vr47 : tVar Try.prog 47 = some (true, [.lit (.int .i64 0), .lit (.int .i64 0), .lit (.int .i64 0), .lit (.int .i64 0), .seq true []]) := by kernel_rfl
set_option maxHeartbeats 4000000 in
theorem c_law11_alive : PCall Try.prog 22 [] (bV true) := by
 refine pcall_of_awp Try.func22 rfl (by simp [Try.ntmps22]) fun C hC => ?_
 refine awp_le (le_keep []) ?_
 simp only [kp, argSl, simprocAttr]
 have a1 := c_dedup_Edges true true ([⟨2, 1⟩, ⟨1, 2⟩, ⟨3, 3⟩, ⟨0, 7⟩] : List Pl.Edge) (⟨8, 2, ⟨1, 1, []⟩⟩ : Pl.Way) (by decide)
 rw [if_pos (show (∀ e, e ∈ ([⟨2, 1⟩, ⟨1, 2⟩, ⟨3, 3⟩, ⟨0, 7⟩] : List Pl.Edge) → Pl.fitE e) by decide), if_pos (show (∀ e, e ∈ ([⟨2, 1⟩, ⟨1, 2⟩, ⟨3, 3⟩, ⟨0, 7⟩] : List Pl.Edge) → Pl.fitE e) by decide), if_pos (show (∀ e, e ∈ ([⟨2, 1⟩, ⟨1, 2⟩, ⟨3, 3⟩, ⟨0, 7⟩] : List Pl.Edge) → Pl.fitE e) by decide), show (Pl.grK (Pl.ksE ([⟨2, 1⟩, ⟨1, 2⟩, ⟨3, 3⟩, ⟨0, 7⟩] : List Pl.Edge)) (⟨8, 2, ⟨1, 1, []⟩⟩ : Pl.Way)).map Pl.unkey = ([⟨0, 7⟩, ⟨1, 2⟩] : List Pl.Edge) from by decide +kernel, show Pl.grT (Pl.ksE ([⟨2, 1⟩, ⟨1, 2⟩, ⟨3, 3⟩, ⟨0, 7⟩] : List Pl.Edge)).length (⟨8, 2, ⟨1, 1, []⟩⟩ : Pl.Way) = 35 from by decide +kernel, show Pl.grE (Pl.ksE ([⟨2, 1⟩, ⟨1, 2⟩, ⟨3, 3⟩, ⟨0, 7⟩] : List Pl.Edge)).length (⟨8, 2, ⟨1, 1, []⟩⟩ : Pl.Way) = 0 from by decide +kernel] at a1
 have a2 := c_dedup_Groups true true ([9, 2, 9] : List Int) (⟨8, 2, ⟨1, 1, []⟩⟩ : Pl.Way) (by decide) (by decide)
 rw [show Pl.grK ([9, 2, 9] : List Int) (⟨8, 2, ⟨1, 1, []⟩⟩ : Pl.Way) = ([2, 9] : List Int) from by decide +kernel] at a2
 rw [show Pl.grC ([9, 2, 9] : List Int) (⟨8, 2, ⟨1, 1, []⟩⟩ : Pl.Way) = ([1, 2] : List Int) from by decide +kernel] at a2
 rw [show Pl.grT ([9, 2, 9] : List Int).length (⟨8, 2, ⟨1, 1, []⟩⟩ : Pl.Way) = 35 from by decide +kernel] at a2
 rw [show Pl.grE ([9, 2, 9] : List Int).length (⟨8, 2, ⟨1, 1, []⟩⟩ : Pl.Way) = 0 from by decide +kernel] at a2
 have a3 := c_dedup_Once true true ([9, 2, 9] : List Int) (⟨8, 2, ⟨1, 1, []⟩⟩ : Pl.Way) (by decide) (by decide)
 rw [show Pl.grK ([9, 2, 9] : List Int) (⟨8, 2, ⟨1, 1, []⟩⟩ : Pl.Way) = ([2, 9] : List Int) from by decide +kernel] at a3
 rw [show Pl.grT ([9, 2, 9] : List Int).length (⟨8, 2, ⟨1, 1, []⟩⟩ : Pl.Way) = 35 from by decide +kernel] at a3
 rw [show Pl.grE ([9, 2, 9] : List Int).length (⟨8, 2, ⟨1, 1, []⟩⟩ : Pl.Way) = 0 from by decide +kernel] at a3
 have a4 := c_dedup_Edges true true ([⟨-1, 0⟩] : List Pl.Edge) (⟨8, 2, ⟨1, 1, []⟩⟩ : Pl.Way) (by decide)
 rw [if_neg (show ¬ (∀ e, e ∈ ([⟨-1, 0⟩] : List Pl.Edge) → Pl.fitE e) by decide), if_neg (show ¬ (∀ e, e ∈ ([⟨-1, 0⟩] : List Pl.Edge) → Pl.fitE e) by decide), if_neg (show ¬ (∀ e, e ∈ ([⟨-1, 0⟩] : List Pl.Edge) → Pl.fitE e) by decide)] at a4
 have a5 := c_dedup_Key ⟨5, 3⟩
 rw [show Pl.keyE ⟨5, 3⟩ = 196613 from by decide, decide_eq_true (by decide)] at a5
 have b1 := c_ref11_Same false true ([⟨0, 7⟩, ⟨1, 2⟩] : List Pl.Edge) ([⟨0, 7⟩, ⟨1, 2⟩] : List Pl.Edge) (by decide)
 have b2 := c_ref07_Words false true ([2, 9] : List Int) ([2, 9] : List Int) (by decide)
 have b3 := c23 false true ([1, 2] : List Int) ([1, 2] : List Int) (by decide)
 have b4 := c_ref07_Words false false ([2, 9] : List Int) ([2, 9] : List Int) (by decide)
 have a6 := c_dedup_Edge 196613 (by decide)
 rw [show Pl.unkey 196613 = ⟨3, 5⟩ from by decide] at a6
 have b5 := c_dedup_Without true true ([1, 2, 3] : List Int) ([2] : List Int) (by decide) (by decide)
 rw [show Pl.woL ([1, 2, 3] : List Int) ([2] : List Int) = ([1, 3] : List Int) from by decide] at b5
 have b6 := c_ref07_Words false true ([1, 3] : List Int) ([1, 3] : List Int) (by decide)
 refine awp_sr [] (by rw [hC]; rfl) fun k hk => ?_
 simp (maxSteps := 9^9) (disch := (try simp only [lens]); omega) only [argSl, sm, ↓amb, mark_eq, simprocAttr, dx]
 repeat refine an ?_
 refine hk _ ?_; clear hk k
 refine awp_le (le_keep []) ?_
 simp only [kp, argSl, simprocAttr]
 refine awp_sr [] (by rw [hC]; rfl) fun k hk => ?_
 simp (maxSteps := 9^9) (disch := (try simp only [lens]); omega) only [argSl, sm, ↓amb, mark_eq, simprocAttr, vr26, bt26, pl26_0, pl26_1, vr47, bt47, pl47_0, pl47_1, pl47_2, sz47, dx]
 repeat refine an ?_
 refine hk _ ?_; clear hk k
 refine awp_le (le_keep [1]) ?_
 simp only [kp, argSl, simprocAttr]
 refine awp_sr [] (by rw [hC]; rfl) fun k hk => ?_
 simp (maxSteps := 9^9) (disch := (try simp only [lens]); omega) only [argSl, sm, ↓amb, mark_eq, simprocAttr, vr59, bt59, pl59_0, pl59_1, el53, sz47, en28, dx]
 repeat refine an ?_
 refine callK_p (a1) rfl ?_
 simp (maxSteps := 9^9) (disch := (try simp only [lens]); omega) only [argSl, sm, ↓amb, mark_eq, simprocAttr, vr59, bt59, pl59_0, pl59_1, el53, sz47, en28, dx]
 repeat refine an ?_
 refine hk _ ?_; clear hk k
 refine awp_le (le_keep [1, 2, 3, 4]) ?_
 simp only [kp, argSl, simprocAttr]
 refine awp_sr [] (by rw [hC]; rfl) fun k hk => ?_
 simp (maxSteps := 9^9) (disch := (try simp only [lens]); omega) only [argSl, sm, ↓amb, mark_eq, simprocAttr, el22, vr41, sz47, en23, dx]
 repeat refine an ?_
 refine callK_p (a2) rfl ?_
 simp (maxSteps := 9^9) (disch := (try simp only [lens]); omega) only [argSl, sm, ↓amb, mark_eq, simprocAttr, el22, vr41, sz47, en23, dx]
 repeat refine an ?_
 refine hk _ ?_; clear hk k
 refine awp_le (le_keep [1, 2, 3, 4, 5, 6, 7, 8]) ?_
 simp only [kp, argSl, simprocAttr]
 refine awp_sr [] (by rw [hC]; rfl) fun k hk => ?_
 simp (maxSteps := 9^9) (disch := (try simp only [lens]); omega) only [argSl, sm, ↓amb, mark_eq, simprocAttr, el22, vr41, sz47, en25, dx]
 repeat refine an ?_
 refine callK_p (a3) rfl ?_
 simp (maxSteps := 9^9) (disch := (try simp only [lens]); omega) only [argSl, sm, ↓amb, mark_eq, simprocAttr, el22, vr41, sz47, en25, dx]
 repeat refine an ?_
 refine hk _ ?_; clear hk k
 refine awp_le (le_keep [1, 2, 3, 4, 5, 6, 7, 8, 9, 10, 11]) ?_
 simp only [kp, argSl, simprocAttr]
 refine awp_sr [] (by rw [hC]; rfl) fun k hk => ?_
 simp (maxSteps := 9^9) (disch := (try simp only [lens]); omega) only [argSl, sm, ↓amb, mark_eq, simprocAttr, vr59, bt59, pl59_0, el53, sz47, en28, dx]
 repeat refine an ?_
 refine callK_p (a4) rfl ?_
 simp (maxSteps := 9^9) (disch := (try simp only [lens]); omega) only [argSl, sm, ↓amb, mark_eq, simprocAttr, vr59, bt59, pl59_0, el53, sz47, en28, dx]
 repeat refine an ?_
 refine hk _ ?_; clear hk k
 refine awp_le (le_keep [2, 3, 4, 5, 6, 7, 8, 9, 10, 11, 14]) ?_
 simp only [kp, argSl, simprocAttr]
 refine awp_sr [] (by rw [hC]; rfl) fun k hk => ?_
 simp (maxSteps := 9^9) (disch := (try simp only [lens]); omega) only [argSl, sm, ↓amb, mark_eq, simprocAttr, vr59, bt59, pl59_0, pl59_1, en30, dx]
 repeat refine an ?_
 refine callK_p (a5) rfl ?_
 simp (maxSteps := 9^9) (disch := (try simp only [lens]); omega) only [argSl, sm, ↓amb, mark_eq, simprocAttr, vr59, bt59, pl59_0, pl59_1, en30, dx]
 repeat refine an ?_
 refine hk _ ?_; clear hk k
 refine awp_test [] 0 (decide (True)) [] (by rw [hC]; rfl) (fun gd hgd k hk => ?_) ?_
 ·have g2 : gd 2 = some 60 := by rw [hgd]; rfl
  have g6 : gd 6 = some 64 := by rw [hgd]; rfl
  have g10 : gd 10 = some 68 := by rw [hgd]; rfl
  have g14 : gd 14 = some 72 := by rw [hgd]; rfl
  have g21 : gd 21 = some 79 := by rw [hgd]; rfl
  have g25 : gd 25 = some 83 := by rw [hgd]; rfl
  have g30 : gd 30 = some 88 := by rw [hgd]; rfl
  have g35 : gd 35 = some 93 := by rw [hgd]; rfl
  have g40 : gd 40 = some 98 := by rw [hgd]; rfl
  have g45 : gd 45 = some 103 := by rw [hgd]; rfl
  have g50 : gd 50 = some 108 := by rw [hgd]; rfl
  have g54 : gd 54 = some 112 := by rw [hgd]; rfl
  have g57 : gd 57 = some 115 := by rw [hgd]; rfl
  have g63 : gd 63 = some 121 := by rw [hgd]; rfl
  clear hgd
  simp (maxSteps := 9^9) (disch := (try simp only [lens]); omega) only [argSl, sm, ↓amb, mark_eq, simprocAttr, vr59, bt59, pl59_1, pl59_0, el53, en34, el22, vr41, en18, el33, vr3, en19, en32, ff59, en26, gcase_undef, g2, g6, g10, g14, g21, g25, g30, g35, g40, g45, g50, g54, g57, g63, dx]
  repeat' first | refine hk _ _ rfl rfl rfl rfl ?_ | (refine gsplit (fun hg => ?_) (fun hg => ?_) <;> (try simp only [hbx] at hg) <;> simp (maxSteps := 9^9) (disch := (try simp only [lens]); omega) only [argSl, sm, ↓amb, mark_eq, simprocAttr, vr59, bt59, pl59_1, pl59_0, el53, en34, el22, vr41, en18, el33, vr3, en19, en32, ff59, en26, gcase_undef, g2, g6, g10, g14, g21, g25, g30, g35, g40, g45, g50, g54, g57, g63, dx]) | apply And.intro | (refine callK_p (b1) rfl ?_; (try simp (maxSteps := 9^9) (disch := (try simp only [lens]); omega) only [argSl, sm, ↓amb, mark_eq, simprocAttr, vr59, bt59, pl59_1, pl59_0, el53, en34, el22, vr41, en18, el33, vr3, en19, en32, ff59, en26, gcase_undef, g2, g6, g10, g14, g21, g25, g30, g35, g40, g45, g50, g54, g57, g63, dx])) | (refine callK_p (b2) rfl ?_; (try simp (maxSteps := 9^9) (disch := (try simp only [lens]); omega) only [argSl, sm, ↓amb, mark_eq, simprocAttr, vr59, bt59, pl59_1, pl59_0, el53, en34, el22, vr41, en18, el33, vr3, en19, en32, ff59, en26, gcase_undef, g2, g6, g10, g14, g21, g25, g30, g35, g40, g45, g50, g54, g57, g63, dx])) | (refine callK_p (b3) rfl ?_; (try simp (maxSteps := 9^9) (disch := (try simp only [lens]); omega) only [argSl, sm, ↓amb, mark_eq, simprocAttr, vr59, bt59, pl59_1, pl59_0, el53, en34, el22, vr41, en18, el33, vr3, en19, en32, ff59, en26, gcase_undef, g2, g6, g10, g14, g21, g25, g30, g35, g40, g45, g50, g54, g57, g63, dx])) | (refine callK_p (b4) rfl ?_; (try simp (maxSteps := 9^9) (disch := (try simp only [lens]); omega) only [argSl, sm, ↓amb, mark_eq, simprocAttr, vr59, bt59, pl59_1, pl59_0, el53, en34, el22, vr41, en18, el33, vr3, en19, en32, ff59, en26, gcase_undef, g2, g6, g10, g14, g21, g25, g30, g35, g40, g45, g50, g54, g57, g63, dx])) | (refine callK_p (a6) rfl ?_; (try simp (maxSteps := 9^9) (disch := (try simp only [lens]); omega) only [argSl, sm, ↓amb, mark_eq, simprocAttr, vr59, bt59, pl59_1, pl59_0, el53, en34, el22, vr41, en18, el33, vr3, en19, en32, ff59, en26, gcase_undef, g2, g6, g10, g14, g21, g25, g30, g35, g40, g45, g50, g54, g57, g63, dx])) | (refine callK_p (b5) rfl ?_; (try simp (maxSteps := 9^9) (disch := (try simp only [lens]); omega) only [argSl, sm, ↓amb, mark_eq, simprocAttr, vr59, bt59, pl59_1, pl59_0, el53, en34, el22, vr41, en18, el33, vr3, en19, en32, ff59, en26, gcase_undef, g2, g6, g10, g14, g21, g25, g30, g35, g40, g45, g50, g54, g57, g63, dx])) | (refine callK_p (b6) rfl ?_; (try simp (maxSteps := 9^9) (disch := (try simp only [lens]); omega) only [argSl, sm, ↓amb, mark_eq, simprocAttr, vr59, bt59, pl59_1, pl59_0, el53, en34, el22, vr41, en18, el33, vr3, en19, en32, ff59, en26, gcase_undef, g2, g6, g10, g14, g21, g25, g30, g35, g40, g45, g50, g54, g57, g63, dx])) | fail
  all_goals first | rfl | omega | exact (decide_eq_true (by omega)).symm | exact (decide_eq_false (by omega)).symm | exact decide_eq_decide.mpr (by omega) | (refine Bool.eq_iff_iff.mpr ?_; simp only [beq_iff_eq, bne_iff_ne, ne_eq, decide_eq_true_eq]; omega) | (refine Bool.eq_iff_iff.mpr ?_; simp only [Bool.not_eq_true', Bool.not_eq_false', decide_eq_false_iff_not, decide_eq_true_eq, beq_iff_eq, bne_iff_ne, ne_eq]; omega) | assumption | (simp; done) | (simp [maxLen]; omega) | skip
 simp only [kp, argSl, simprocAttr, List.length_cons, List.length_nil]
 refine awp_ret ?_
 refine ret1 rfl rfl ?_
 exact .p (LeP.refl _)
end Go.Proofs.Ytbehekmnccoifaa
end
section
set_option linter.unusedSimpArgs false
set_option linter.unusedVariables false
namespace Go.Pl
theorem gr_once {l : List Int} {w : Way} (hl : ∀ x, x ∈ l → W32 x) (hb : 1 ≤ w.bits ∧ w.bits ≤ 16) (h1 : 1 ≤ w.block ∧ w.block ≤ 100) (hn : l.length ≤ 1000) (hp : planRight w.plan) :
    grE l.length w = 0 ∧ (grC l w).length = (grK l w).length ∧ (grK l w).Pairwise (fun x y => x < y) ∧ (∀ j, j < (grK l w).length → (grC l w).getD j 0 = (l.count ((grK l w).getD j 0) : Nat) ∧ 0 < (grC l w).getD j 0) ∧
      (∀ x, x ∈ l ↔ x ∈ grK l w) ∧ (grC l w).sum = l.length := by
  have hE : grE l.length w = 0 := ra_ok hb h1 hn hp
  have hE' : raE l.length w.bits w.block w.plan = 0 := hE
  have ho : onceP (raL l w.bits w.block w.plan) l.length := by unfold raL; rw [if_pos hE']; exact passes_once hl _ _
  have hsl : (grS l w).length = l.length := by unfold grS; rw [sortedL_len]; exact ho.1
  have hperm : (grS l w).Perm l := sorted_perm ho
  have hr := passes_rises hl hb
  have hso : (grS l w).Pairwise fun x y => x ≤ y := by
    unfold grS sortedL raL
    rw [if_pos hE', List.pairwise_map]
    exact hr.imp fun {x y} h => by omega
  obtain ⟨k1, k2⟩ := rgK_end hE hsl
  have I := rg_inv hso (grS l w).length (Nat.le_refl _)
  rw [k1, k2]
  refine ⟨hE, by rw [rgC_len, rgK_len], I.rises, fun j hj => ?_, fun x => ?_, by rw [I.sum, hsl]⟩
  · have q := I.cnt j hj
    rw [List.take_length, hperm.count_eq] at q
    exact q
  · rw [← I.mem, List.take_length, hperm.mem_iff]
theorem count_yes {l : List Int} {k : Nat} {x : Int} (h : k < l.length) (e : l.getD k 0 = x) : ((l.take (k + 1)).count x : Int) = (l.take k).count x + 1 := by
  rw [take_snoc' l k h, List.count_append, e, List.count_singleton_self]; omega
theorem count_no {l : List Int} {k : Nat} {x : Int} (h : k < l.length) (e : ¬ l.getD k 0 = x) : ((l.take (k + 1)).count x : Int) = (l.take k).count x := by
  rw [take_snoc' l k h, List.count_append, List.count_singleton, if_neg (by simpa using e)]; omega
theorem count_le (l : List Int) (k : Nat) (x : Int) : ((l.take k).count x : Int) ≤ l.length := by
  have h1 := List.count_le_length (a := x) (l := l.take k)
  rw [List.length_take] at h1; omega
theorem sum_take {C : List Int} {i : Nat} (h : i < C.length) : (C.take (i + 1)).sum = (C.take i).sum + C.getD i 0 := by
  rw [take_snoc' C i h, List.sum_append]; simp
theorem sum_nn : ∀ (C : List Int), (∀ x, x ∈ C → 0 ≤ x) → 0 ≤ C.sum
  | [], _ => by simp
  | x :: C, h => by
    have := sum_nn C fun y hy => h y (List.mem_cons_of_mem _ hy)
    have := h x List.mem_cons_self
    rw [List.sum_cons]; omega
theorem sum_bd {C : List Int} (h : ∀ j, j < C.length → 0 < C.getD j 0) (i : Nat) : 0 ≤ (C.take i).sum ∧ (C.take i).sum ≤ C.sum := by
  have h0 : ∀ x, x ∈ C → 0 ≤ x := fun x hx => by
    obtain ⟨j, hj, rfl⟩ := List.getElem_of_mem hx
    have := h j hj
    rw [List.getD_eq_getElem?_getD, List.getElem?_eq_getElem hj, Option.getD_some] at this; omega
  have h1 := sum_nn (C.take i) fun x hx => h0 x (List.mem_of_mem_take hx)
  have h2 := sum_nn (C.drop i) fun x hx => h0 x (List.mem_of_mem_drop hx)
  have h3 : C.sum = (C.take i).sum + (C.drop i).sum := by rw [← List.sum_append, List.take_append_drop]
  omega
theorem woL_nil (l : List Int) : woL l [] = l := by
  unfold woL hasL
  rw [List.filter_eq_self]
  intro x _; simp
theorem woL_all {l ban : List Int} (h : ∀ x, x ∈ l → x ∈ ban) : woL l ban = [] := by
  unfold woL hasL
  rw [List.filter_eq_nil_iff]
  intro x hx
  simp [h x hx]
theorem edge_iff (a b : Edge) : a = b ↔ a.u = b.u ∧ a.v = b.v := by cases a; cases b; simp
end Go.Pl
end
section
set_option linter.unusedSimpArgs false
set_option linter.unusedVariables false
set_option maxRecDepth 100000
namespace Go.Proofs.Ytbehekmnccoifaa
open Go.Am Go.Proofs
theorem ar63 : tArr Try.prog 63 = some (2, 1, false) := by kernel_rfl
theorem el63 : tEl Try.prog 63 = none := by kernel_rfl
theorem en22 : enters Try.prog 22 = true := by kernel_rfl
theorem sz5 : tSz Try.prog 5 = some (false, 1) := by kernel_rfl
theorem un5 : (Try.prog.underlying 5).isSome = true := by kernel_rfl
set_option maxHeartbeats 4000000 in
theorem c_law11_DedupOnce (l : List Int) (q : Int × Int) (hl : ∀ x, x ∈ l → Pl.W32 x) (hq : (0 ≤ q.1 ∧ q.1 ≤ 255) ∧ 0 ≤ q.2 ∧ q.2 ≤ 255) : PCall Try.prog 9 [words false l, .agg [.lit (.int .u8 q.1), .lit (.int .u8 q.2)]] (bV true) := by
 refine pcall_of_awp Try.func9 rfl (by simp [Try.ntmps9]) fun C hC => ?_
 refine awp_le (le_keep [0, 1]) ?_
 simp only [kp, argSl, simprocAttr]
 refine awp_sr [] (by rw [hC]; rfl) fun k hk => ?_
 simp (maxSteps := 9^9) (disch := (try simp only [lens]); omega) only [argSl, sm, ↓amb, mark_eq, simprocAttr, dx]
 repeat refine an ?_
 refine hk _ ?_; clear hk k
 refine awp_seq fun k1 h1 => ?_
 refine awp_le (le_keep [0, 3, 4]) ?_
 simp only [kp, argSl, simprocAttr]
 refine awp_sr [] (by rw [hC]; rfl) fun k hk => ?_
 simp (maxSteps := 9^9) (disch := (try simp only [lens]); omega) only [argSl, sm, ↓amb, mark_eq, simprocAttr, en22, dx]
 repeat refine an ?_
 refine callK_p (c_law11_alive) rfl ?_
 simp (maxSteps := 9^9) (disch := (try simp only [lens]); omega) only [argSl, sm, ↓amb, mark_eq, simprocAttr, en22, dx]
 repeat refine an ?_
 refine hk _ ?_; clear hk k
 refine awp_cond rfl (fun hb => ?_) (fun hb => ?_)
 ·try simp only [hbx] at hb
  refine awp_le (le_keep []) ?_
  simp only [kp, argSl, simprocAttr]
  refine awp_sr [] (by rw [hC]; rfl) fun k hk => ?_
  simp (maxSteps := 9^9) (disch := (try simp only [lens]); omega) only [argSl, sm, ↓amb, mark_eq, simprocAttr, dx]
  repeat refine an ?_
  refine hk _ ?_; clear hk k
  refine awp_ret ?_
  exact absurd hb (by simp)
 ·try simp only [hbx] at hb
  refine awp_skip ?_
  refine h1 _ ?_; clear h1 k1
  refine awp_seq fun k2 h2 => ?_
  refine awp_le (le_keep [0, 3, 4]) ?_
  simp only [kp, argSl, simprocAttr]
  refine awp_sr [] (by rw [hC]; rfl) fun k hk => ?_
  simp (maxSteps := 9^9) (disch := (try simp only [lens]); omega) only [argSl, sm, ↓amb, mark_eq, simprocAttr, el22, dx]
  repeat refine an ?_
  refine hk _ ?_; clear hk k
  refine awp_cond rfl (fun hb => ?_) (fun hb => ?_)
  ·try simp only [hbx] at hb
   refine awp_le (le_keep []) ?_
   simp only [kp, argSl, simprocAttr]
   refine awp_sr [] (by rw [hC]; rfl) fun k hk => ?_
   simp (maxSteps := 9^9) (disch := (try simp only [lens]); omega) only [argSl, sm, ↓amb, mark_eq, simprocAttr, dx]
   repeat refine an ?_
   refine hk _ ?_; clear hk k
   refine awp_ret ?_
   refine ret1 rfl rfl ?_
   exact .p (LeP.refl _)
  ·try simp only [hbx] at hb
   refine awp_skip ?_
   refine h2 _ ?_; clear h2 k2
   refine awp_le (le_keep [0, 3]) ?_
   simp only [kp, argSl, simprocAttr]
   obtain ⟨a, ha⟩ : ∃ a, a = 1 + q.1 % 16 := ⟨_, rfl⟩
   obtain ⟨b, hb'⟩ : ∃ b, b = 1 + q.2 % 100 := ⟨_, rfl⟩
   obtain ⟨hE, g1, g2, g3, g4, g5⟩ := Pl.gr_once (w := (⟨a, b, ⟨3, 2, []⟩⟩ : Pl.Way)) hl (show 1 ≤ a ∧ a ≤ 16 by omega) (show 1 ≤ b ∧ b ≤ 100 by omega) (by omega) (show Pl.planRight ⟨3, 2, []⟩ by decide)
   have hkl := Pl.grK_len hl (⟨a, b, ⟨3, 2, []⟩⟩ : Pl.Way)
   refine awp_sr [] (by rw [hC]; rfl) fun k hk => ?_
   simp (maxSteps := 9^9) (disch := (try simp only [lens]); omega) only [argSl, sm, ↓amb, mark_eq, simprocAttr, el63, ar63, sz5, it3, un5, vr26, bt26, pl26_0, pl26_1, vr47, bt47, pl47_0, pl47_1, pl47_2, sz47, dx]
   repeat refine an ?_
   refine hk _ ?_; clear hk k
   refine awp_le (le_keep [0, 5]) ?_
   simp only [kp, argSl, simprocAttr]
   rw [← ha, ← hb']
   refine awp_sr [] (by rw [hC]; rfl) fun k hk => ?_
   simp (maxSteps := 9^9) (disch := (try simp only [lens]); omega) only [argSl, sm, ↓amb, mark_eq, simprocAttr, sz47, en23, dx]
   repeat refine an ?_
   refine callK_p (c_dedup_Groups false true l (⟨a, b, ⟨3, 2, []⟩⟩ : Pl.Way) hl (by omega)) rfl ?_
   simp (maxSteps := 9^9) (disch := (try simp only [lens]); omega) only [argSl, sm, ↓amb, mark_eq, simprocAttr, sz47, en23, dx]
   repeat refine an ?_
   refine hk _ ?_; clear hk k
   refine awp_seq fun k3 h3 => ?_
   rw [hE]
   refine awp_test [] 47 (decide (False)) [0, 4, 6, 7] (by rw [hC]; rfl) (fun gd hgd k hk => ?_) ?_
   ·have g2 : gd 2 = some 41 := by rw [hgd]; rfl
    clear hgd
    simp (maxSteps := 9^9) (disch := (try simp only [lens]); omega) only [argSl, sm, ↓amb, mark_eq, simprocAttr, el33, el22, gcase_undef, g2, dx]
    repeat' first | refine hk _ _ rfl rfl rfl rfl ?_ | (refine gsplit (fun hg => ?_) (fun hg => ?_) <;> (try simp only [hbx] at hg) <;> simp (maxSteps := 9^9) (disch := (try simp only [lens]); omega) only [argSl, sm, ↓amb, mark_eq, simprocAttr, el33, el22, gcase_undef, g2, dx]) | apply And.intro | fail
    all_goals first | rfl | omega | exact (decide_eq_true (by omega)).symm | exact (decide_eq_false (by omega)).symm | exact decide_eq_decide.mpr (by omega) | (refine Bool.eq_iff_iff.mpr ?_; simp only [beq_iff_eq, bne_iff_ne, ne_eq, decide_eq_true_eq]; omega) | (refine Bool.eq_iff_iff.mpr ?_; simp only [Bool.not_eq_true', Bool.not_eq_false', decide_eq_false_iff_not, decide_eq_true_eq, beq_iff_eq, bne_iff_ne, ne_eq]; omega) | assumption | (simp; done) | (simp [maxLen]; omega) | skip
    all_goals first | (exfalso; omega) | rfl | (exfalso; exact absurd rfl (by assumption)) | (simp; done) | (simp_all; done) | (refine (decide_eq_false ?_).symm; rw [Pl.edge_iff]; simp only [Bool.and_eq_false_iff, beq_eq_false_iff_ne, ne_eq, Bool.and_eq_true, beq_iff_eq] at *; omega) | (refine (decide_eq_true ?_).symm; rw [Pl.edge_iff]; simp only [Bool.and_eq_false_iff, beq_eq_false_iff_ne, ne_eq, Bool.and_eq_true, beq_iff_eq] at *; omega) | (refine (decide_eq_false ?_); omega) | (exact decide_eq_decide.mpr ⟨fun h => by omega, False.elim⟩) | trace_state
   simp only [kp, argSl, simprocAttr, List.length_cons, List.length_nil]
   refine awp_cond rfl (fun hb => ?_) (fun hb => ?_)
   ·exact absurd hb (by simp)
   ·try simp only [hbx] at hb
    refine awp_skip ?_
    refine h3 _ ?_; clear h3 k3
    refine awp_le (le_keep [0, 6, 7]) ?_
    simp only [kp, argSl, simprocAttr]
    refine awp_sr [] (by rw [hC]; rfl) fun k hk => ?_
    simp (maxSteps := 9^9) (disch := (try simp only [lens]); omega) only [argSl, sm, ↓amb, mark_eq, simprocAttr, dx]
    repeat refine an ?_
    refine hk _ ?_; clear hk k
    refine awp_seq fun k4 h4 => ?_
    refine awp_le (le_keep [0, 4, 6, 7, 10]) ?_
    simp only [kp, argSl, simprocAttr]
    refine awp_sr [] (by rw [hC]; rfl) fun k hk => ?_
    simp (maxSteps := 9^9) (disch := (try simp only [lens]); omega) only [argSl, sm, ↓amb, mark_eq, simprocAttr, dx]
    repeat refine an ?_
    refine hk _ ?_; clear hk k
    refine awp_block ?_
    refine awp_loop (σ := Nat) (fun i => i ≤ (Pl.grK l (⟨a, b, ⟨3, 2, []⟩⟩ : Pl.Way)).length) (fun (i : Nat) => ⟨[(0, (.p (words false l))), (6, (.p (words false (Pl.grK l (⟨a, b, ⟨3, 2, []⟩⟩ : Pl.Way))))), (7, (.p (ints false (Pl.grC l (⟨a, b, ⟨3, 2, []⟩⟩ : Pl.Way))))), (10, (.p (iV ((Pl.grC l (⟨a, b, ⟨3, 2, []⟩⟩ : Pl.Way)).take i).sum))), (11, (.p (iV (i : Int))))], [], 1⟩) (fun i => (Pl.grK l (⟨a, b, ⟨3, 2, []⟩⟩ : Pl.Way)).length - i) 0 ?_ ?_ fun i hi => ?_
    ·exact Nat.zero_le _
    ·exact le_of [] (by rfl) (by rfl) ⟨⟨_, rfl, .oe⟩, ⟨_, rfl, .oe⟩, ⟨_, rfl, .oe⟩, ⟨_, rfl, .oe⟩, ⟨_, rfl, .oe⟩, trivial⟩ trivial
    refine awp_seq fun k6 h6 => ?_
    refine awp_le (le_keep [0, 4, 6, 7, 10, 11]) ?_
    simp only [kp, argSl, simprocAttr]
    refine awp_sr [] (by rw [hC]; rfl) fun k hk => ?_
    simp (maxSteps := 9^9) (disch := (try simp only [lens]); omega) only [argSl, sm, ↓amb, mark_eq, simprocAttr, el22, dx]
    repeat refine an ?_
    refine hk _ ?_; clear hk k
    refine awp_cond rfl (fun hb => ?_) (fun hb => ?_)
    ·try simp only [hbx] at hb
     refine awp_skip ?_
     refine h6 _ ?_; clear h6 k6
     refine awp_seq fun k7 h7 => ?_
     refine awp_block ?_
     refine awp_le (le_keep [0, 4, 6, 7, 10, 11]) ?_
     simp only [kp, argSl, simprocAttr]
     refine awp_sr [] (by rw [hC]; rfl) fun k hk => ?_
     simp (maxSteps := 9^9) (disch := (try simp only [lens]); omega) only [argSl, sm, ↓amb, mark_eq, simprocAttr, dx]
     repeat refine an ?_
     refine hk _ ?_; clear hk k
     refine awp_seq fun k8 h8 => ?_
     refine awp_le (le_keep [0, 4, 6, 7, 10, 11, 12]) ?_
     simp only [kp, argSl, simprocAttr]
     refine awp_sr [] (by rw [hC]; rfl) fun k hk => ?_
     simp (maxSteps := 9^9) (disch := (try simp only [lens]); omega) only [argSl, sm, ↓amb, mark_eq, simprocAttr, dx]
     repeat refine an ?_
     refine hk _ ?_; clear hk k
     refine awp_block ?_
     refine awp_loop (σ := Nat) (fun k => k ≤ l.length) (fun (k : Nat) => ⟨[(0, (.p (words false l))), (6, (.p (words false (Pl.grK l (⟨a, b, ⟨3, 2, []⟩⟩ : Pl.Way))))), (7, (.p (ints false (Pl.grC l (⟨a, b, ⟨3, 2, []⟩⟩ : Pl.Way))))), (10, (.p (iV ((Pl.grC l (⟨a, b, ⟨3, 2, []⟩⟩ : Pl.Way)).take i).sum))), (11, (.p (iV (i : Int)))), (12, (.p (iV ((l.take k).count ((Pl.grK l (⟨a, b, ⟨3, 2, []⟩⟩ : Pl.Way)).getD i 0) : Nat)))), (13, (.p (iV (k : Int))))], [], 1⟩) (fun k => l.length - k) 0 ?_ ?_ fun k hk => ?_
     ·exact Nat.zero_le _
     ·exact le_of [] (by rfl) (by rfl) ⟨⟨_, rfl, .oe⟩, ⟨_, rfl, .oe⟩, ⟨_, rfl, .oe⟩, ⟨_, rfl, .oe⟩, ⟨_, rfl, .oe⟩, ⟨_, rfl, .oe⟩, ⟨_, rfl, .oe⟩, trivial⟩ trivial
     refine awp_seq fun k10 h10 => ?_
     refine awp_le (le_keep [0, 4, 6, 7, 10, 11, 12, 13]) ?_
     simp only [kp, argSl, simprocAttr]
     have hcl := Pl.count_le l k ((Pl.grK l (⟨a, b, ⟨3, 2, []⟩⟩ : Pl.Way)).getD i 0)
     refine awp_sr [] (by rw [hC]; rfl) fun k hk => ?_
     simp (maxSteps := 9^9) (disch := (try simp only [lens]); omega) only [argSl, sm, ↓amb, mark_eq, simprocAttr, el22, dx]
     repeat refine an ?_
     refine hk _ ?_; clear hk k
     refine awp_cond rfl (fun hb => ?_) (fun hb => ?_)
     ·try simp only [hbx] at hb
      refine awp_skip ?_
      refine h10 _ ?_; clear h10 k10
      refine awp_seq fun k11 h11 => ?_
      refine awp_block ?_
      refine awp_le (le_keep [0, 4, 6, 7, 10, 11, 12, 13]) ?_
      simp only [kp, argSl, simprocAttr]
      refine awp_sd [] ⟨[0, 0, 3, 7, 0, 0, 48, 112, 255], [3, 7], [], [], some []⟩ (by rw [hC]; rfl) (by kernel_rfl) (by kernel_rfl) fun k hk => ?_
      simp (maxSteps := 9^9) (disch := (try simp only [lens]); omega) only [argSl, sm, ↓amb, mark_eq, simprocAttr, el22, sz41, dx]
      repeat refine an ?_
      refine hk _ ?_; clear hk k
      refine awp_cond rfl (fun hb => ?_) (fun hb => ?_)
      ·try simp only [hbx] at hb
       refine awp_region [] (by rw [hC]; rfl) fun k hk => ?_
       simp (maxSteps := 9^9) (disch := (try simp only [lens]); omega) only [argSl, sm, ↓amb, mark_eq, simprocAttr, dx]
       repeat refine an ?_
       refine hk _ ?_; clear hk k
       refine h11 _ ?_; clear h11 k11
       have hcn := Pl.count_yes (l := l) (k := k) (x := (Pl.grK l (⟨a, b, ⟨3, 2, []⟩⟩ : Pl.Way)).getD i 0) (by omega) hb
       refine awp_region [] (by rw [hC]; rfl) fun k hk => ?_
       simp (maxSteps := 9^9) (disch := (try simp only [lens]); omega) only [argSl, sm, ↓amb, mark_eq, simprocAttr, dx]
       repeat refine an ?_
       refine hk _ ?_; clear hk k
       refine ⟨k + 1, by omega, le_of [] (by rfl) (by rfl) ⟨⟨_, rfl, .oe⟩, ⟨_, rfl, .oe⟩, ⟨_, rfl, .oe⟩, ⟨_, rfl, .oe⟩, ⟨_, rfl, .oe⟩, ⟨_, rfl, .oe⟩, ⟨_, rfl, .oe⟩, trivial⟩ trivial, by omega⟩
      ·try simp only [hbx] at hb
       refine awp_skip ?_
       refine h11 _ ?_; clear h11 k11
       have hcn := Pl.count_no (l := l) (k := k) (x := (Pl.grK l (⟨a, b, ⟨3, 2, []⟩⟩ : Pl.Way)).getD i 0) (by omega) hb
       refine awp_region [] (by rw [hC]; rfl) fun k hk => ?_
       simp (maxSteps := 9^9) (disch := (try simp only [lens]); omega) only [argSl, sm, ↓amb, mark_eq, simprocAttr, dx]
       repeat refine an ?_
       refine hk _ ?_; clear hk k
       refine ⟨k + 1, by omega, le_of [] (by rfl) (by rfl) ⟨⟨_, rfl, .oe⟩, ⟨_, rfl, .oe⟩, ⟨_, rfl, .oe⟩, ⟨_, rfl, .oe⟩, ⟨_, rfl, .oe⟩, ⟨_, rfl, .oe⟩, ⟨_, rfl, .oe⟩, trivial⟩ trivial, by omega⟩
     ·try simp only [hbx] at hb
      refine awp_exit ((if_pos rfl).mpr ?_)
      refine h8 _ ?_; clear h10 k10; clear h8 k8
      refine awp_seq fun k12 h12 => ?_
      obtain rfl : k = l.length := by omega
      have csb := Pl.sum_bd (C := (Pl.grC l (⟨a, b, ⟨3, 2, []⟩⟩ : Pl.Way))) (fun j hj => (g3 j (by omega)).2) i
      have c1 := g3 i (by omega)
      rw [List.take_length] at hcl
      rw [List.take_length]
      have c3 : 0 < i → (Pl.grK l (⟨a, b, ⟨3, 2, []⟩⟩ : Pl.Way)).getD (i - 1) 0 < (Pl.grK l (⟨a, b, ⟨3, 2, []⟩⟩ : Pl.Way)).getD i 0 := fun h => Pl.pair_at (R := fun x y => x < y) g2 h (by omega)
      refine awp_testD [] ⟨[0, 0, 0, 6, 14, 31, 63, 127, 255, 511, 1023, 2047, 4095, 8191, 16383, 16383, 49151, 131071, 262143, 16383, 16383, 1589247, 3686399, 8388607, 16777215, 33554431], [4, 18, 22], [], [], some []⟩ 96 (decide (False)) [0, 4, 6, 7, 10, 11, 12] (by rw [hC]; rfl) (by kernel_rfl) (by kernel_rfl) (fun gd hgd k hk => ?_) ?_
      ·have g6 : gd 6 = some 77 := by rw [hgd]; rfl
       have g10 : gd 10 = some 81 := by rw [hgd]; rfl
       have g13 : gd 13 = some 84 := by rw [hgd]; rfl
       clear hgd
       simp (maxSteps := 9^9) (disch := (try simp only [lens]); omega) only [argSl, sm, ↓amb, mark_eq, simprocAttr, el33, sz3, el22, sz41, gcase_undef, g6, g10, g13, dx]
       repeat' first | refine hk _ _ rfl rfl rfl rfl ?_ | (refine gsplit (fun hg => ?_) (fun hg => ?_) <;> (try simp only [hbx] at hg) <;> simp (maxSteps := 9^9) (disch := (try simp only [lens]); omega) only [argSl, sm, ↓amb, mark_eq, simprocAttr, el33, sz3, el22, sz41, gcase_undef, g6, g10, g13, dx]) | apply And.intro | fail
       all_goals first | rfl | omega | exact (decide_eq_true (by omega)).symm | exact (decide_eq_false (by omega)).symm | exact decide_eq_decide.mpr (by omega) | (refine Bool.eq_iff_iff.mpr ?_; simp only [beq_iff_eq, bne_iff_ne, ne_eq, decide_eq_true_eq]; omega) | (refine Bool.eq_iff_iff.mpr ?_; simp only [Bool.not_eq_true', Bool.not_eq_false', decide_eq_false_iff_not, decide_eq_true_eq, beq_iff_eq, bne_iff_ne, ne_eq]; omega) | assumption | (simp; done) | (simp [maxLen]; omega) | skip
       all_goals first | (exfalso; omega) | rfl | (exfalso; exact absurd rfl (by assumption)) | (simp; done) | (simp_all; done) | (refine (decide_eq_false ?_); omega) | (exact decide_eq_decide.mpr ⟨fun h => by omega, False.elim⟩) | trace_state
      simp only [kp, argSl, simprocAttr, List.length_cons, List.length_nil]
      refine awp_cond rfl (fun hb => ?_) (fun hb => ?_)
      ·exact absurd hb (by simp)
      ·try simp only [hbx] at hb
       refine awp_skip ?_
       refine h12 _ ?_; clear h12 k12
       refine awp_region [] (by rw [hC]; rfl) fun k hk => ?_
       simp (maxSteps := 9^9) (disch := (try simp only [lens]); omega) only [argSl, sm, ↓amb, mark_eq, simprocAttr, dx]
       repeat refine an ?_
       refine hk _ ?_; clear hk k
       refine h7 _ ?_; clear h7 k7
       have hst := Pl.sum_take (C := (Pl.grC l (⟨a, b, ⟨3, 2, []⟩⟩ : Pl.Way))) (i := i) (by omega)
       refine awp_region [] (by rw [hC]; rfl) fun k hk => ?_
       simp (maxSteps := 9^9) (disch := (try simp only [lens]); omega) only [argSl, sm, ↓amb, mark_eq, simprocAttr, dx]
       repeat refine an ?_
       refine hk _ ?_; clear hk k
       refine ⟨i + 1, by omega, le_of [] (by rfl) (by rfl) ⟨⟨_, rfl, .oe⟩, ⟨_, rfl, .oe⟩, ⟨_, rfl, .oe⟩, ⟨_, rfl, .oe⟩, ⟨_, rfl, .oe⟩, trivial⟩ trivial, by omega⟩
    ·try simp only [hbx] at hb
     refine awp_exit ((if_pos rfl).mpr ?_)
     refine h4 _ ?_; clear h6 k6; clear h4 k4
     obtain rfl : i = (Pl.grK l (⟨a, b, ⟨3, 2, []⟩⟩ : Pl.Way)).length := by omega
     have b5 := c_dedup_Without false false l (Pl.grK l (⟨a, b, ⟨3, 2, []⟩⟩ : Pl.Way)) (by omega) (by omega)
     rw [Pl.woL_all (fun x hx => (g4 x).1 hx)] at b5
     have b6 := c_dedup_Without false true l [] (by omega) (by decide)
     rw [Pl.woL_nil] at b6
     have b7 := c_ref07_Words false false l l (by omega)
     have e5 : ((Pl.grC l (⟨a, b, ⟨3, 2, []⟩⟩ : Pl.Way)).take (Pl.grK l (⟨a, b, ⟨3, 2, []⟩⟩ : Pl.Way)).length).sum = l.length := by rw [← g1, List.take_length]; exact g5
     refine awp_test [] 4 (decide (True)) [] (by rw [hC]; rfl) (fun gd hgd k hk => ?_) ?_
     ·have g4 : gd 4 = some 104 := by rw [hgd]; rfl
      have g11 : gd 11 = some 111 := by rw [hgd]; rfl
      clear hgd
      simp (maxSteps := 9^9) (disch := (try simp only [lens]); omega) only [argSl, sm, ↓amb, mark_eq, simprocAttr, el22, en26, en18, gcase_undef, g4, g11, dx]
      repeat' first | refine hk _ _ rfl rfl rfl rfl ?_ | (refine gsplit (fun hg => ?_) (fun hg => ?_) <;> (try simp only [hbx] at hg) <;> simp (maxSteps := 9^9) (disch := (try simp only [lens]); omega) only [argSl, sm, ↓amb, mark_eq, simprocAttr, el22, en26, en18, gcase_undef, g4, g11, dx]) | apply And.intro | (refine callK_p (b5) rfl ?_; (try simp (maxSteps := 9^9) (disch := (try simp only [lens]); omega) only [argSl, sm, ↓amb, mark_eq, simprocAttr, el22, en26, en18, gcase_undef, g4, g11, dx])) | (refine callK_p (b6) rfl ?_; (try simp (maxSteps := 9^9) (disch := (try simp only [lens]); omega) only [argSl, sm, ↓amb, mark_eq, simprocAttr, el22, en26, en18, gcase_undef, g4, g11, dx])) | (refine callK_p (b7) rfl ?_; (try simp (maxSteps := 9^9) (disch := (try simp only [lens]); omega) only [argSl, sm, ↓amb, mark_eq, simprocAttr, el22, en26, en18, gcase_undef, g4, g11, dx])) | fail
      all_goals first | rfl | omega | exact (decide_eq_true (by omega)).symm | exact (decide_eq_false (by omega)).symm | exact decide_eq_decide.mpr (by omega) | (refine Bool.eq_iff_iff.mpr ?_; simp only [beq_iff_eq, bne_iff_ne, ne_eq, decide_eq_true_eq]; omega) | (refine Bool.eq_iff_iff.mpr ?_; simp only [Bool.not_eq_true', Bool.not_eq_false', decide_eq_false_iff_not, decide_eq_true_eq, beq_iff_eq, bne_iff_ne, ne_eq]; omega) | assumption | (simp; done) | (simp [maxLen]; omega) | skip
      all_goals first | (exfalso; omega) | rfl | (exfalso; exact absurd rfl (by assumption)) | (simp; done) | (simp_all; done) | (exact decide_eq_true (by omega)) | (exact absurd e5 hg) | trace_state
     simp only [kp, argSl, simprocAttr, List.length_cons, List.length_nil]
     refine awp_ret ?_
     refine ret1 rfl rfl ?_
     exact .p (LeP.refl _)
end Go.Proofs.Ytbehekmnccoifaa
end
section
namespace Go.Proofs.Ytbehekmnccoifaa
open Go.Am Go.Proofs
theorem Try.own : ownKnob Try.prog.godebug = none := by kernel_rfl
theorem Try.laidOut : laidOutB Try.prog = true := by kernel_rfl
theorem wf8 {n : Int} (h : (Lit.int .u8 n).wf = true) : 0 ≤ n ∧ n ≤ 255 := by
  simp only [Lit.wf, Bool.and_eq_true, decide_eq_true_eq, show IntKind.u8.min = 0 from rfl, show IntKind.u8.max = 255 from rfl] at h; exact h
theorem wf32 {n : Int} (h : (Lit.int .u32 n).wf = true) : 0 ≤ n ∧ n ≤ 4294967295 := by
  simp only [Lit.wf, Bool.and_eq_true, decide_eq_true_eq, show IntKind.u32.min = 0 from rfl, show IntKind.u32.max = 4294967295 from rfl] at h; exact h
theorem op_u32 : Opens Try.prog 41 Int (fun n => (Lit.int .u32 n).wf = true) (fun n => [.lit (.int .u32 n)]) := opens_int Try.underlying41
theorem op_u8 : Opens Try.prog 5 Int (fun n => (Lit.int .u8 n).wf = true) (fun n => [.lit (.int .u8 n)]) := opens_int Try.underlying5
theorem op_words : Opens Try.prog 22 (List Int) (fun l => l.length ≤ maxLen ∧ ∀ a, a ∈ l → (Lit.int .u32 a).wf = true) (fun l => [words false l]) := opens_slice Try.underlying22 (of_decide_eq_true (by kernel_rfl)) op_u32
theorem op_u8x2 : Opens Try.prog 63 (Int × Int) (fun p => (Lit.int .u8 p.1).wf = true ∧ (Lit.int .u8 p.2).wf = true) (fun p => [.lit (.int .u8 p.1), .lit (.int .u8 p.2)]) := (opens_agg (ts := [5, 5]) (by kernel_rfl) (.cons op_u8 (.cons op_u8 .nil))).map (fun p => (p.1, p.2.1)) (fun _ h => ⟨⟨h.1, h.2.1⟩, rfl⟩)
end Go.Proofs.Ytbehekmnccoifaa
end
section
namespace Go.Proofs.Ytbehekmnccoifaa
open Go.ChangeShapes Go.WideShapes Go.ChangeAt Go.RowKit Go.Am
set_option maxRecDepth 100000 in
theorem dedupOnce_lifted (os : Os) (started : os.Started) (H : Type) (enc : TypeId × Value → H) :
    ReturnsInHanded {} Try.checked os 9 .any (Rows.dedupOnceSpec.pre6 enc Try.prog Try.f9 Rows.dedupOnceRow.domain false) (Rows.dedupOnceSpec.post enc Try.prog Try.f9 false true false false) := by
  refine returnsInHanded_of_change (C := Try.checked) Try.own started (by kernel_rfl) Try.func9
    (ChangeSpec.witness6 (enc := enc) (C := Try.checked) false ⟨#[], #[.slice none 0 0, .agg #[.int .u8 0, .int .u8 0]], []⟩ 20 (by kernel_rfl) (by kernel_rfl) (by kernel_rfl) (by kernel_rfl)) ?_
  intro W base args ds gs before hval0 hW hcnd _
  have hval : ∀ (j : Nat) t v, Try.f9.params[j]? = some t → args[j]? = some v → Value.okWide Try.prog W .any base t v := hval0
  have hW' := hW
  have hlt := hW.lt
  obtain ⟨p, q, hA0, hV, rfl, hfz, hnd⟩ := hW
  have hA : DataW.TrodAll enc Try.prog W 0 (fun _ => true) true Try.f9.params.toList args.toList ds p := hA0
  rw [Try.params9] at hA hval
  obtain ⟨v0, v1, d0, d1, p0, p1, rfl, rfl, rfl, h0, h1⟩ := trodAll_two hA
  obtain ⟨rfl, rfl⟩ := trodVars_none hV
  obtain ⟨a0, k0, r0⟩ := arg_one op_words (okWide_one_s Try.underlying22 (hval 0 22 _ rfl rfl)) h0
  obtain ⟨cs1, rfl⟩ := okWide_agg (by kernel_rfl) (hval 1 63 _ rfl rfl)
  obtain ⟨a1, k1, r1⟩ := arg_agg op_u8x2 h1
  clear hA0 hval0
  simp only [List.append_nil] at hW' hlt
  refine (law_calls (c_law11_DedupOnce a0 a1 (fun x hx => wf32 (k0.2 x hx)) ⟨wf8 k1.1, wf8 k1.2⟩) rfl ?_).mono fun e W' ⟨he, hB⟩ => ?_
  · intro i x hx
    match i, hx with
    | 0, hx => simp only [List.getElem?_cons_zero, Option.some.injEq] at hx; subst hx; exact r0
    | 1, hx => simp only [List.getElem?_cons_succ, List.getElem?_cons_zero, Option.some.injEq] at hx; subst hx; exact r1
    | i + 2, hx => simp at hx
  subst he
  exact ⟨_, rfl, law_post (pv := []) hW' (fun _ _ _ => trodAll_mk1 (shut_bool Try.underlying4 _))
    (fun sp hs => trodAll_mk2 (WideElems.Trod_stays Try.laidOut (by kernel_rfl) (of_decide_eq_true (by kernel_rfl)) h0 (fun x hx => hB.same (hlt x (by simp [hx]))) (fun x hx => hs x (by simp [hx]))) (WideElems.Trod_stays Try.laidOut (by kernel_rfl) (of_decide_eq_true (by kernel_rfl)) h1 (fun x hx => hB.same (hlt x (by simp [hx]))) (fun x hx => hs x (by simp [hx]))))
    (fun _ _ => rfl) (by simp) hB (ok_one (by kernel_rfl) rfl (okWide_bool_mk Try.underlying4 _))⟩
theorem dedupOnce_holds : Rows.DedupOnceSaid :=
  OpenClaim.holds_of_wide 9 Try.f9 rfl rfl rfl rfl rfl rfl rfl ⟨rfl, rfl, rfl, rfl, rfl⟩ rfl rfl rfl rfl rfl (by kernel_rfl) Try.func9 (by kernel_rfl)
    (of_decide_eq_true (by kernel_rfl)) (by unfold Func.isWrapper; first | (rw [if_pos (by decide +kernel)]; kernel_rfl) | (rw [if_neg (by decide +kernel)]; exact ⟨rfl, rfl⟩))
    (fun os started H enc _ => dedupOnce_lifted os started H enc)
#print axioms dedupOnce_holds
end Go.Proofs.Ytbehekmnccoifaa
end
