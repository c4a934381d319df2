/-
  BoundRises, part 5 of 6: what the proof that the law holds at whatever arguments stands on; the last part holds the theorem. No condition.
-/
import Derived.Test.YtjkkjiaeeobnkaaBoundRisesZ4
import Derived.Test.YtjkkjiaeeobnkaaRows
section
set_option linter.unusedSimpArgs false
set_option linter.unusedVariables false
set_option maxRecDepth 100000
namespace Go.Proofs.Ytjkkjiaeeobnkaa
open Go.Am Go.Proofs
theorem mx1 (es : List (List PV)) (id sz k off : Nat) (vs : List AV) (K : Upd → Prop) : storeL none es id sz k off vs K = K ⟨.p (.lit undef), [(id, some (.row sz ((lift es).set k (splice ((es.getD k []).map .p) off vs))))]⟩ := rfl
theorem mx2 (es : List (List PV)) (sz k off n : Nat) (cs : List AV) (K : AV → Prop) : loadB (some (.row sz ((lift es).set k cs))) sz k off false n K = (k < es.length ∧ onE cs[off]? K) := by
  have hl : (lift es).length = es.length := by simp [lift]
  refine propext ⟨?_, ?_⟩
  · rintro ⟨_, h, ds, hd, hk⟩
    injection h with h; injection h with h1 h2; subst h2
    rw [List.getElem?_set] at hd
    split at hd
    · split at hd
      · injection hd with hd; subst hd; exact ⟨by omega, by simpa [onE] using hk⟩
      · cases hd
    · exact absurd rfl ‹_›
  · rintro ⟨h1, x, h2, h3⟩
    exact ⟨_, rfl, cs, List.getElem?_set_self (by omega), by simpa using ⟨x, h2, h3⟩⟩
theorem mx3 (es : List (List PV)) (id sz k off : Nat) (cs vs : List AV) (K : Upd → Prop) : storeB (some (.row sz ((lift es).set k cs))) id sz k off vs K = (k < es.length ∧ off + vs.length ≤ cs.length ∧ K ⟨.p (.lit undef), [(id, some (.row sz ((lift es).set k (splice cs off vs))))]⟩) := by
  have hl : (lift es).length = es.length := by simp [lift]
  refine propext ⟨?_, ?_⟩
  · rintro ⟨_, h, ds, hd, h4, hk⟩
    injection h with h; injection h with h1 h2; subst h2
    rw [List.getElem?_set] at hd
    split at hd
    · split at hd
      · injection hd with hd; subst hd
        rw [List.set_set] at hk
        exact ⟨by omega, h4, hk⟩
      · cases hd
    · exact absurd rfl ‹_›
  · rintro ⟨h1, h2, h3⟩
    exact ⟨_, rfl, cs, List.getElem?_set_self (by omega), h2, by rw [List.set_set]; exact h3⟩
theorem mx4 (es : List (List PV)) (k : Nat) (cs : List AV) : ((lift es).set k cs).length = es.length := by simp [lift]
theorem mx : type_of% (And.intro (And.intro @mx1 @mx2) (And.intro @mx3 @mx4)) := And.intro (And.intro @mx1 @mx2) (And.intro @mx3 @mx4)
theorem leB_setO {hp : List (Nat × Blk)} {π : List (Nat × Nat)} {sz : Nat} {es : List (List PV)} {i a b : Nat} (h : lkq π b = some a) : LeB hp π (.row sz ((lift es).set i [.own a])) (.row sz ((lift es).set i [.own b])) := by
  refine ⟨rfl, by simp, fun k cs ds h1 h2 => ?_⟩
  rw [List.getElem?_set] at h1 h2
  by_cases e : i = k
  · rw [if_pos e] at h1 h2
    split at h1
    · rename_i hlt
      rw [if_pos hlt] at h2
      injection h1 with h1; injection h2 with h2; subst h1 h2
      exact LeRow.cons (.own h) LeRow.nil
    · cases h1
  · rw [if_neg e] at h1 h2
    rw [h1] at h2; injection h2 with h2; subst h2
    simp only [lift, List.getElem?_map, Option.map_eq_some_iff] at h1
    obtain ⟨r, _, rfl⟩ := h1
    exact ⟨rfl, fun j u w hu hw => by
      rw [hu] at hw; injection hw with hw; subst hw
      rw [List.getElem?_map, Option.map_eq_some_iff] at hu
      obtain ⟨z, _, rfl⟩ := hu
      exact .p (.refl _)⟩
theorem leB_outF {hp : List (Nat × Blk)} {π : List (Nat × Nat)} {D : List (List Int)} {P k : Nat} {X : List Int} (hk : lkp hp k = some (.row 1 (lift (X.map fun n => [iV n])))) (hn : (π.all (fun q => q.2 != k) && k % 8 != 7) = true) :
    LeB hp π (.row 1 ((lift (D.map lE)).set P [.own k])) (.row 1 (lift ((D.set P X).map lV))) := by
  refine ⟨rfl, by simp [lift], fun i cs ds h1 h2 => ?_⟩
  rw [List.getElem?_set] at h1
  simp only [lift, List.getElem?_map, List.getElem?_set, List.length_map] at h1 h2
  by_cases e : P = i
  · rw [if_pos e] at h1 h2
    split at h1
    · rename_i hlt
      rw [if_pos hlt] at h2
      injection h1 with h1; simp only [Option.map_some, Option.some.injEq] at h2; subst h1 h2
      exact LeRow.cons (.frz hk hn) LeRow.nil
    · cases h1
  · rw [if_neg e] at h1 h2
    cases hd : D[i]? with
    | none => rw [hd] at h1; cases h1
    | some l =>
      rw [hd] at h1 h2
      simp only [Option.map_some, Option.some.injEq] at h1 h2; subst h1 h2
      exact LeRow.cons (.p (LeP.seq _ _)) LeRow.nil
def LvE (es : List (List PV)) (D : List (List Int)) : Prop := es.length = D.length ∧ ∀ (i : Nat) (l : List Int), D[i]? = some l → ∃ b, es[i]? = some [PV.seq b (l.map fun n => [iV n])]
theorem leB_outV {hp : List (Nat × Blk)} {π : List (Nat × Nat)} {es : List (List PV)} {D : List (List Int)} (h : LvE es D) :
    LeB hp π (.row 1 (lift es)) (.row 1 (lift (D.map lV))) := by
  refine Pl.leB_pt (by simpa using h.1) fun i x y h1 h2 => ?_
  rw [List.getElem?_map, Option.map_eq_some_iff] at h2
  obtain ⟨l, hl2, rfl⟩ := h2
  obtain ⟨b, hb⟩ := h.2 i l hl2
  rw [hb] at h1; injection h1 with h1; subst h1
  exact LeRow.cons (.p (LeP.seq _ _)) LeRow.nil
theorem lE_all (D : List (List Int)) : LvE (D.map lE) D := ⟨by simp, fun i l h => by
  rw [List.getElem?_map, h]; exact ⟨_, rfl⟩⟩
theorem lE_set {D : List (List Int)} {es : List (List PV)} (h : LvE es D) (P : Nat) (b : Bool) (X : List Int) : LvE (es.set P [PV.seq b (X.map fun n => [iV n])]) (D.set P X) := ⟨by simpa using h.1, fun i l hi => by
  rw [List.getElem?_set] at hi ⊢
  by_cases e : P = i
  · rw [if_pos e] at hi ⊢
    split at hi
    · rename_i hlt
      injection hi with hi; subst hi
      rw [if_pos (by rw [h.1]; exact hlt)]; exact ⟨_, rfl⟩
    · cases hi
  · rw [if_neg e] at hi ⊢; exact h.2 i l hi⟩
theorem lE_get {D : List (List Int)} {P V : Nat} (hP : P < D.length) (hne : V ≠ P) (h : D.getD P default = []) (y : List PV) : ((D.map lE).set V y).getD P default = [.seq true []] := by
  rw [List.getD_eq_getElem?_getD, List.getElem?_set_ne hne, List.getElem?_map, List.getElem?_eq_getElem hP]
  rw [List.getD_eq_getElem?_getD, List.getElem?_eq_getElem hP] at h
  simp only [Option.getD_some] at h
  simp [lE, h]
theorem en114 : enters Try.prog 114 = true := by kernel_rfl
theorem en115 : enters Try.prog 115 = true := by kernel_rfl
theorem en116 : enters Try.prog 116 = true := by kernel_rfl
theorem en117 : enters Try.prog 117 = true := by kernel_rfl
theorem en120 : enters Try.prog 120 = true := by kernel_rfl
theorem en121 : enters Try.prog 121 = true := by kernel_rfl
theorem pl139_0 : tPlace Try.prog 139 0 = some (0, 1) := by kernel_rfl
set_option maxHeartbeats 4000000 in
theorem c_Step_p (c : Pl.Crew) (p v : Int) (hl : ∀ l, l ∈ c.dq → l.length ≤ 1000000 ∧ ∀ t, t ∈ l → -9223372036854775808 ≤ t ∧ t ≤ 9223372036854775807) (h0 : (Pl.step c p v).2.2 = 0) (hp : 0 < (c.dq.getD (Pl.num c.dq p).toNat default).length) : PCall Try.prog 103 [.agg (crewC c), iV p, iV v] (.tup [.agg (crewC (Pl.step c p v).1), .agg (evC (Pl.step c p v).2.1), iV 0]) := by
 obtain ⟨P, V, hcp, hcv, hP, hV, hN, hPl, hVl, hcr, hst⟩ := Pl.step_at h0
 obtain ⟨hr1, hr2, hr3, hr4, hr5, hr6, hr7⟩ := id hcr
 have hRr : c.work.ts.length ≤ 2000 ∧ c.work.done.length ≤ 1000 := ⟨hr1.2.2.1, by have := hr1.1; unfold Pl.cnt at this; omega⟩
 have hlP := hl _ (Pl.getD_mem c.dq P default hPl)
 have hlV := hl _ (Pl.getD_mem c.dq V default hVl)
 rw [hP] at hp
 have hso := Pl.step_own h0 hP hN hV hp (t := ((c.dq.getD P default).getD ((c.dq.getD P default).length - 1) 0)) rfl
 refine pcall_of_awp Try.func103 rfl (by simp [Try.ntmps103]) fun C hC => ?_
 refine awp_le (le_keep [0, 1, 2]) ?_
 simp only [kp, argSl, simprocAttr]
 refine awp_sr [141] (by rw [hC]; rfl) fun k hk => ?_
 simp (maxSteps := 9^9) (disch := (try simp only [lens]); omega) only [argSl, sm, ↓amb, mark_eq, simprocAttr, vr110, vr139, lE, mx, dx]
 repeat refine ⟨by first | omega | (simp; done) | (unfold maxLen; omega) | (simp [maxLen]; omega) | assumption, ?_⟩
 refine hk _ ?_; clear hk k
 refine awp_seq fun k1 h1 => ?_
 refine awp_block ?_
 refine awp_le (le_keep [1, 2, 3, 6, 7, 8]) ?_
 simp only [kp, argSl, simprocAttr]
 refine awp_sr [141] (by rw [hC]; rfl) fun k hk => ?_
 simp (maxSteps := 9^9) (disch := (try simp only [lens]); omega) only [argSl, sm, ↓amb, mark_eq, simprocAttr, sz110, en114, lE, mx, dx]
 repeat refine ⟨by first | omega | (simp; done) | (unfold maxLen; omega) | (simp [maxLen]; omega) | assumption, ?_⟩
 refine callK_p (c_ref05_Right _ hl) rfl ?_
 simp (maxSteps := 9^9) (disch := (try simp only [lens]); omega) only [argSl, sm, ↓amb, mark_eq, simprocAttr, sz110, en114, lE, mx, dx]
 repeat refine ⟨by first | omega | (simp; done) | (unfold maxLen; omega) | (simp [maxLen]; omega) | assumption, ?_⟩
 refine hk _ ?_; clear hk k
 refine awp_cond rfl (fun hb => ?_) (fun hb => ?_)
 ·exact absurd hcr (by simpa using hb)
 ·try simp only [hbx] at hb
  refine awp_le (le_keep [1, 2, 3, 6, 7, 8]) ?_
  simp only [kp, argSl, simprocAttr]
  refine awp_sr [141] (by rw [hC]; rfl) fun k hk => ?_
  simp (maxSteps := 9^9) (disch := (try simp only [lens]); omega) only [argSl, sm, ↓amb, mark_eq, simprocAttr, fl110_3, sz3, lE, mx, dx]
  repeat refine ⟨by first | omega | (simp; done) | (unfold maxLen; omega) | (simp [maxLen]; omega) | assumption, ?_⟩
  refine hk _ ?_; clear hk k
  refine awp_cond rfl (fun hb => ?_) (fun hb => ?_)
  ·exact absurd (beq_iff_eq.mp hb) hst
  ·try simp only [hbx] at hb
   refine awp_skip ?_
   refine h1 _ ?_; clear h1 k1
   refine awp_le (le_keep [1, 2, 3, 6, 7]) ?_
   simp only [kp, argSl, simprocAttr]
   refine awp_sr [141] (by rw [hC]; rfl) fun k hk => ?_
   simp (maxSteps := 9^9) (disch := (try simp only [lens]); omega) only [argSl, sm, ↓amb, mark_eq, simprocAttr, fl110_1, sz108, el108, lE, mx, dx]
   repeat refine ⟨by first | omega | (simp; done) | (unfold maxLen; omega) | (simp [maxLen]; omega) | assumption, ?_⟩
   refine hk _ ?_; clear hk k
   refine awp_le (le_keep [1, 2, 3, 6, 7, 9]) ?_
   simp only [kp, argSl, simprocAttr]
   refine awp_sr [141] (by rw [hC]; rfl) fun k hk => ?_
   simp (maxSteps := 9^9) (disch := (try simp only [lens]); omega) only [argSl, sm, ↓amb, mark_eq, simprocAttr, en115, lE, mx, dx]
   repeat refine ⟨by first | omega | (simp; done) | (unfold maxLen; omega) | (simp [maxLen]; omega) | assumption, ?_⟩
   refine callK_p (c_ref05_cut _ _ (by omega)) rfl ?_
   simp (maxSteps := 9^9) (disch := (try simp only [lens]); omega) only [argSl, sm, ↓amb, mark_eq, simprocAttr, en115, lE, mx, dx]
   repeat refine ⟨by first | omega | (simp; done) | (unfold maxLen; omega) | (simp [maxLen]; omega) | assumption, ?_⟩
   refine callK_p (c_ref05_cut _ _ (by omega)) rfl ?_
   simp (maxSteps := 9^9) (disch := (try simp only [lens]); omega) only [argSl, sm, ↓amb, mark_eq, simprocAttr, en115, lE, mx, dx]
   repeat refine ⟨by first | omega | (simp; done) | (unfold maxLen; omega) | (simp [maxLen]; omega) | assumption, ?_⟩
   refine hk _ ?_; clear hk k
   refine awp_le (le_keep [1, 2, 3, 6, 7]) ?_
   simp only [kp, argSl, simprocAttr]
   rw [hcp, hcv]
   refine awp_sr [141] (by rw [hC]; rfl) fun k hk => ?_
   simp (maxSteps := 9^9) (disch := (try simp only [lens]); omega) only [argSl, sm, ↓amb, mark_eq, simprocAttr, sz110, en116, vr110, lE, mx, dx]
   repeat refine ⟨by first | omega | (simp; done) | (unfold maxLen; omega) | (simp [maxLen]; omega) | assumption, ?_⟩
   refine callK_h (c_Copy_h c (by omega) (by omega) (by omega) (fun l h => (hl l h).1)) [] [] (by first | rfl | (simp only [hm]; done)) (by first | rfl | (simp [namesOk, lkp]; done)) ?_ ?_ ?_ ?_ ?_ ?_ ?_
   (iterate 6 (focus (first | trivial | (intro n hn; cases hn; done) | (simp (maxSteps := 9^9) (disch := (try simp only [lens]); omega) only [argSl, sm, ↓amb, mark_eq, simprocAttr, sz110, en116, vr110, lE, mx, dx, hmx, List.filter_cons, Nat.reduceBNe, imp_self, implies_true]; done))))
   simp (maxSteps := 9^9) (disch := (try simp only [lens]); omega) only [argSl, sm, ↓amb, mark_eq, simprocAttr, sz110, en116, vr110, lE, mx, dx, hm, List.filter_cons, List.filter_nil, Nat.reduceBNe, Option.map_none]
   repeat refine ⟨by first | omega | (simp; done) | (unfold maxLen; omega) | (simp [maxLen]; omega) | assumption, ?_⟩
   refine hk _ ?_; clear hk k
   refine awp_le (le_keep [1, 2, 3, 6, 7, 10]) ?_
   simp only [kp, argSl, simprocAttr]
   refine awp_sr [141] (by rw [hC]; rfl) fun k hk => ?_
   simp (maxSteps := 9^9) (disch := (try simp only [lens]); omega) only [argSl, sm, ↓amb, mark_eq, simprocAttr, fl110_3, sz3, lE, mx, dx]
   repeat refine ⟨by first | omega | (simp; done) | (unfold maxLen; omega) | (simp [maxLen]; omega) | assumption, ?_⟩
   refine hk _ ?_; clear hk k
   refine awp_le (le_keep [1, 2, 3, 6, 7, 10]) ?_
   simp only [kp, argSl, simprocAttr]
   refine awp_sr [141] (by rw [hC]; rfl) fun k hk => ?_
   simp (maxSteps := 9^9) (disch := (try simp only [lens]); omega) only [argSl, sm, ↓amb, mark_eq, simprocAttr, vr139, bt139, pl139_0, pl139_1, pl139_2, sz139, lE, mx, dx]
   repeat refine ⟨by first | omega | (simp; done) | (unfold maxLen; omega) | (simp [maxLen]; omega) | assumption, ?_⟩
   refine hk _ ?_; clear hk k
   refine awp_seq fun k2 h2 => ?_
   refine awp_le (le_keep [1, 2, 3, 6, 7, 8, 10, 11]) ?_
   simp only [kp, argSl, simprocAttr]
   refine awp_sr [141] (by rw [hC]; rfl) fun k hk => ?_
   simp (maxSteps := 9^9) (disch := (try simp only [lens]); omega) only [argSl, sm, ↓amb, mark_eq, simprocAttr, fl110_1, sz108, el108, sz67, en117, lE, mx, dx]
   repeat refine ⟨by first | omega | (simp; done) | (unfold maxLen; omega) | (simp [maxLen]; omega) | assumption, ?_⟩
   refine callK_h (c_Pop_h false (c.dq.getD P default) hlP.1 hp) [] [] (by first | rfl | (simp only [hm]; done)) (by first | rfl | (simp [namesOk, lkp]; done)) ?_ ?_ ?_ ?_ ?_ ?_ ?_
   (iterate 6 (focus (first | trivial | (intro n hn; cases hn; done) | (simp (maxSteps := 9^9) (disch := (try simp only [lens]); omega) only [argSl, sm, ↓amb, mark_eq, simprocAttr, fl110_1, sz108, el108, sz67, en117, lE, mx, dx, hmx, List.filter_cons, Nat.reduceBNe, imp_self, implies_true]; done))))
   simp (maxSteps := 9^9) (disch := (try simp only [lens]); omega) only [argSl, sm, ↓amb, mark_eq, simprocAttr, fl110_1, sz108, el108, sz67, en117, lE, mx, dx, hm, List.filter_cons, List.filter_nil, Nat.reduceBNe, Option.map_none]
   repeat refine ⟨by first | omega | (simp; done) | (unfold maxLen; omega) | (simp [maxLen]; omega) | assumption, ?_⟩
   refine hk _ ?_; clear hk k
   refine awp_le (le_keep [1, 2, 3, 6, 7, 8, 10, 11, 12, 13, 14]) ?_
   simp only [kp, argSl, simprocAttr]
   refine awp_sr [141] (by rw [hC]; rfl) fun k hk => ?_
   simp (maxSteps := 9^9) (disch := (try simp only [lens]); omega) only [argSl, sm, ↓amb, mark_eq, simprocAttr, lE, mx, dx]
   repeat refine ⟨by first | omega | (simp; done) | (unfold maxLen; omega) | (simp [maxLen]; omega) | assumption, ?_⟩
   refine hk _ ?_; clear hk k
   refine awp_cond rfl (fun hb => ?_) (fun hb => ?_)
   ·try simp only [hbx] at hb
    refine awp_region [141] (by rw [hC]; rfl) fun k hk => ?_
    simp (maxSteps := 9^9) (disch := (try simp only [lens]); omega) only [argSl, sm, ↓amb, mark_eq, simprocAttr, fl110_1, sz108, el108, sz67, fl139_1, sz3, fl139_2, lE, mx, dx]
    repeat refine ⟨by first | omega | (simp; done) | (unfold maxLen; omega) | (simp [maxLen]; omega) | assumption, ?_⟩
    refine hk _ ?_; clear hk k
    refine h2 _ ?_; clear h2 k2
    refine awp_seq fun k3 h3 => ?_
    refine awp_le (le_keep [1, 3, 6, 7, 8, 10, 11]) ?_
    simp only [kp, argSl, simprocAttr]
    refine awp_le (show LE _ (⟨[(1, (.p (iV (P : Int)))), (3, (.ptr 0 7 0 0)), (6, (.ptr 1 7 0 0)), (7, (.ptr 2 4 0 0)), (10, (.ptr 3 7 0 0)), (11, (.ptr 4 4 0 0))], [(0, (.row 7 [[.p (.seq false (c.work.ts.map taskC)), .p (iV c.work.grain), .p (.seq false (c.work.done.map fun b => [bV b])), .p (.seq false (c.dq.map lV)), .p (bV c.over), .p (iV c.steps), .p (iV c.idle)]])), (1, (.row 7 [[.p (.seq true []), .p (iV 0), .p (.seq true []), .p (.seq true []), .p (bV false), .p (iV 0), .p (iV 0)]])), (2, (.row 4 [[.p (iV 0), .p (iV 0), .p (iV 0), .p (bV false)]])), (3, (.row 7 [[.p (.seq false (c.work.ts.map taskC)), .p (iV c.work.grain), .p (.seq false (c.work.done.map fun b => [bV b])), .own 5, .p (bV c.over), .p (iV (c.steps + 1)), .p (iV c.idle)]])), (4, (.row 4 [[.p (iV (P : Int)), .p (iV (P : Int)), .p (iV ((c.dq.getD P default).getD ((c.dq.getD P default).length - 1) 0)), .p (bV false)]])), (5, (.row 1 ((lift (c.dq.map lE)).set P [.own 6]))), (6, (.row 1 (lift (((c.dq.getD P default).take ((c.dq.getD P default).length - 1)).map fun n => [iV n]))))], 1⟩ : LS) from le_of [(0, _), (1, _), (2, _), (3, _), (4, _), (5, _), (6, 336)] (by rfl) (by rfl) ⟨⟨_, rfl, .p (.of_eq (by first | rfl | (simp only [PV.lit.injEq, Value.int.injEq, true_and]; omega) | (simp; done) | (simp; omega)))⟩, ⟨_, rfl, .ptr rfl⟩, ⟨_, rfl, .ptr rfl⟩, ⟨_, rfl, .ptr rfl⟩, ⟨_, rfl, .ptr rfl⟩, ⟨_, rfl, .ptr rfl⟩, trivial⟩ ⟨⟨_, rfl, _, rfl, .one (.cons (.p (.refl _)) (.cons (.p (.refl _)) (.cons (.p (.refl _)) (.cons (.p (.refl _)) (.cons (.p (.refl _)) (.cons (.p (.refl _)) (.cons (.p (.refl _)) (.nil))))))))⟩, ⟨_, rfl, _, rfl, .one (.cons (.p (.refl _)) (.cons (.p (.refl _)) (.cons (.p (.refl _)) (.cons (.p (.refl _)) (.cons (.p (.refl _)) (.cons (.p (.refl _)) (.cons (.p (.refl _)) (.nil))))))))⟩, ⟨_, rfl, _, rfl, .one (.cons (.p (.refl _)) (.cons (.p (.refl _)) (.cons (.p (.refl _)) (.cons (.p (.refl _)) (.nil)))))⟩, ⟨_, rfl, _, rfl, .one (.cons (.p (.refl _)) (.cons (.p (.refl _)) (.cons (.p (.refl _)) (.cons (.own rfl) (.cons (.p (.refl _)) (.cons (.p (.refl _)) (.cons (.p (.refl _)) (.nil))))))))⟩, ⟨_, rfl, _, rfl, .one (.cons (.p (.refl _)) (.cons (.p (.refl _)) (.cons (.p (.refl _)) (.cons (.p (.refl _)) (.nil)))))⟩, ⟨_, rfl, _, rfl, leB_setO (by rfl)⟩, ⟨_, rfl, _, rfl, .liftE rfl⟩, trivial⟩) ?_
    refine awp_sr [141] (by rw [hC]; rfl) fun k hk => ?_
    simp (maxSteps := 9^9) (disch := (try simp only [lens]); omega) only [argSl, sm, ↓amb, mark_eq, simprocAttr, fl110_0, sz107, fl139_2, sz3, en119, lE, mx, dx]
    repeat refine ⟨by first | omega | (simp; done) | (unfold maxLen; omega) | (simp [maxLen]; omega) | assumption, ?_⟩
    refine callK_p (c40 _ _ _ _) rfl ?_
    simp (maxSteps := 9^9) (disch := (try simp only [lens]); omega) only [argSl, sm, ↓amb, mark_eq, simprocAttr, fl110_0, sz107, fl139_2, sz3, en119, lE, mx, dx]
    repeat refine ⟨by first | omega | (simp; done) | (unfold maxLen; omega) | (simp [maxLen]; omega) | assumption, ?_⟩
    refine hk _ ?_; clear hk k
    refine awp_cond rfl (fun hb => ?_) (fun hb => ?_)
    ·try simp only [hbx] at hb
     refine awp_le (le_keep [1, 3, 6, 7, 10, 11]) ?_
     simp only [kp, argSl, simprocAttr]
     have hgp := hso.1 hb
     refine awp_sr [141] (by rw [hC]; rfl) fun k hk => ?_
     simp (maxSteps := 9^9) (disch := (try simp only [lens]); omega) only [argSl, sm, ↓amb, mark_eq, simprocAttr, fl110_0, sz107, fl139_2, sz3, en120, vr107, lE, mx, dx]
     repeat refine ⟨by first | omega | (simp; done) | (unfold maxLen; omega) | (simp [maxLen]; omega) | assumption, ?_⟩
     refine callK_p (c29 _ _ _ _) rfl ?_
     simp (maxSteps := 9^9) (disch := (try simp only [lens]); omega) only [argSl, sm, ↓amb, mark_eq, simprocAttr, fl110_0, sz107, fl139_2, sz3, en120, vr107, lE, mx, dx]
     repeat refine ⟨by first | omega | (simp; done) | (unfold maxLen; omega) | (simp [maxLen]; omega) | assumption, ?_⟩
     refine hk _ ?_; clear hk k
     refine awp_seq fun k4 h4 => ?_
     refine awp_le (le_keep [1, 3, 6, 7, 8, 10, 11, 18, 19, 20, 21]) ?_
     simp only [kp, argSl, simprocAttr]
     refine awp_sr [141] (by rw [hC]; rfl) fun k hk => ?_
     simp (maxSteps := 9^9) (disch := (try simp only [lens]); omega) only [argSl, sm, ↓amb, mark_eq, simprocAttr, lE, mx, dx]
     repeat refine ⟨by first | omega | (simp; done) | (unfold maxLen; omega) | (simp [maxLen]; omega) | assumption, ?_⟩
     refine hk _ ?_; clear hk k
     refine awp_cond rfl (fun hb => ?_) (fun hb => ?_)
     ·rw [hgp.1] at hb; exact absurd hb (by simp)
     ·try simp only [hbx] at hb
      refine awp_skip ?_
      refine h4 _ ?_; clear h4 k4
      refine awp_le (le_keep [1, 6, 7, 10, 11, 18, 19, 20]) ?_
      simp only [kp, argSl, simprocAttr]
      refine awp_sr [141] (by rw [hC]; rfl) fun k hk => ?_
      simp (maxSteps := 9^9) (disch := (try simp only [lens]); omega) only [argSl, sm, ↓amb, mark_eq, simprocAttr, sz107, fl110_0, fl139_3, sz4, lE, mx, dx]
      repeat refine ⟨by first | omega | (simp; done) | (unfold maxLen; omega) | (simp [maxLen]; omega) | assumption, ?_⟩
      refine hk _ ?_; clear hk k
      refine awp_le (le_keep [1, 6, 7, 10, 11, 19, 20]) ?_
      simp only [kp, argSl, simprocAttr]
      refine awp_sd [141] ⟨[0, 1, 0, 0, 8, 0, 56, 120, 0, 0, 768, 2040, 4095, 8191], [6, 7, 12], [11, 13], [(11, 13)], some [5, 6]⟩ (by rw [hC]; rfl) (by kernel_rfl) (by kernel_rfl) fun k hk => ?_
      simp (maxSteps := 9^9) (disch := (try simp only [lens]); omega) only [argSl, sm, ↓amb, mark_eq, simprocAttr, fl110_1, sz108, el108, sz67, el67, vr3, by3, lE, mx, dx]
      repeat refine ⟨by first | omega | (simp; done) | (unfold maxLen; omega) | (simp [maxLen]; omega) | assumption, ?_⟩
      refine hk _ ?_; clear hk k
      refine awp_le (le_keep [6, 7, 10, 11]) ?_
      simp only [kp, argSl, simprocAttr]
      refine awp_le (show LE _ (⟨[(6, (.ptr 1 7 0 0)), (7, (.ptr 2 4 0 0)), (10, (.ptr 3 7 0 0)), (11, (.ptr 4 4 0 0))], [(1, (.row 7 [[.p (.seq true []), .p (iV 0), .p (.seq true []), .p (.seq true []), .p (bV false), .p (iV 0), .p (iV 0)]])), (2, (.row 4 [[.p (iV 0), .p (iV 0), .p (iV 0), .p (bV false)]])), (3, (.row 7 [[.p (.seq false ((Pl.partW c.work ((c.dq.getD P default).getD ((c.dq.getD P default).length - 1) 0)).ts.map taskC)), .p (iV (Pl.partW c.work ((c.dq.getD P default).getD ((c.dq.getD P default).length - 1) 0)).grain), .p (.seq false ((Pl.partW c.work ((c.dq.getD P default).getD ((c.dq.getD P default).length - 1) 0)).done.map fun b => [bV b])), .own 5, .p (bV c.over), .p (iV (c.steps + 1)), .p (iV c.idle)]])), (4, (.row 4 [[.p (iV (P : Int)), .p (iV (P : Int)), .p (iV ((c.dq.getD P default).getD ((c.dq.getD P default).length - 1) 0)), .p (bV true)]])), (5, (.row 1 (lift ((c.dq.set P (((c.dq.getD P default).take ((c.dq.getD P default).length - 1)) ++ [Pl.partB c.work ((c.dq.getD P default).getD ((c.dq.getD P default).length - 1) 0), Pl.partA c.work ((c.dq.getD P default).getD ((c.dq.getD P default).length - 1) 0)])).map lV))))], 1⟩ : LS) from le_of [(1, _), (2, _), (3, _), (4, _), (5, 5)] (by rfl) (by rfl) ⟨⟨_, rfl, .ptr rfl⟩, ⟨_, rfl, .ptr rfl⟩, ⟨_, rfl, .ptr rfl⟩, ⟨_, rfl, .ptr rfl⟩, trivial⟩ ⟨⟨_, rfl, _, rfl, .one (.cons (.p (.refl _)) (.cons (.p (.refl _)) (.cons (.p (.refl _)) (.cons (.p (.refl _)) (.cons (.p (.refl _)) (.cons (.p (.refl _)) (.cons (.p (.refl _)) (.nil))))))))⟩, ⟨_, rfl, _, rfl, .one (.cons (.p (.refl _)) (.cons (.p (.refl _)) (.cons (.p (.refl _)) (.cons (.p (.refl _)) (.nil)))))⟩, ⟨_, rfl, _, rfl, .one (.cons (.p (.refl _)) (.cons (.p (.refl _)) (.cons (.p (.refl _)) (.cons (.own rfl) (.cons (.p (.refl _)) (.cons (.p (.refl _)) (.cons (.p (.refl _)) (.nil))))))))⟩, ⟨_, rfl, _, rfl, .one (.cons (.p (.refl _)) (.cons (.p (.refl _)) (.cons (.p (.refl _)) (.cons (.p (.refl _)) (.nil)))))⟩, ⟨_, rfl, _, rfl, leB_outF (k := 312) (by rw [List.map_append]; rfl) (by rfl)⟩, trivial⟩) ?_
      refine awp_sd [141] ⟨[0, 0, 1, 7, 15], [], [2, 3], [], some [1, 2]⟩ (by rw [hC]; rfl) (by kernel_rfl) (by kernel_rfl) fun k hk => ?_
      simp (maxSteps := 9^9) (disch := (try simp only [lens]); omega) only [argSl, sm, ↓amb, mark_eq, simprocAttr, sz110, sz139, lE, mx, dx]
      repeat refine ⟨by first | omega | (simp; done) | (unfold maxLen; omega) | (simp [maxLen]; omega) | assumption, ?_⟩
      refine hk _ ?_; clear hk k
      refine awp_ret ?_
      rw [hgp.2]
      refine retl rfl rfl ⟨retc rfl sz110 ?_, retc rfl sz139 ?_, rett rfl ?_, trivial⟩
      all_goals first | (simp (maxSteps := 9^9) (disch := (try simp only [lens]); omega) only [argSl, sm, ↓amb, mark_eq, simprocAttr, sz110, sz139, lE, mx, dx]) | skip
      ·exact .agg_cons (.p (LeP.refl _)) (.agg_cons (.p (LeP.refl _)) (.agg_cons (.p (LeP.refl _)) (.agg_cons (.ownE rfl rfl) (.agg_cons (.p (LeP.refl _)) (.agg_cons (.p (LeP.refl _)) (.agg_cons (.p (LeP.refl _)) (.agg_nil)))))))
      ·exact .p (LeP.refl _)
      ·exact .p (LeP.refl _)
    ·try simp only [hbx] at hb
     refine awp_skip ?_
     refine h3 _ ?_; clear h3 k3
     refine awp_le (le_keep [3, 6, 7, 10, 11]) ?_
     simp only [kp, argSl, simprocAttr]
     have hgp := hso.2 hb
     refine awp_sr [141] (by rw [hC]; rfl) fun k hk => ?_
     simp (maxSteps := 9^9) (disch := (try simp only [lens]); omega) only [argSl, sm, ↓amb, mark_eq, simprocAttr, fl110_0, sz107, fl139_2, sz3, en121, vr107, lE, mx, dx]
     repeat refine ⟨by first | omega | (simp; done) | (unfold maxLen; omega) | (simp [maxLen]; omega) | assumption, ?_⟩
     refine callK_p (c31 _ _ _ _) rfl ?_
     simp (maxSteps := 9^9) (disch := (try simp only [lens]); omega) only [argSl, sm, ↓amb, mark_eq, simprocAttr, fl110_0, sz107, fl139_2, sz3, en121, vr107, lE, mx, dx]
     repeat refine ⟨by first | omega | (simp; done) | (unfold maxLen; omega) | (simp [maxLen]; omega) | assumption, ?_⟩
     refine hk _ ?_; clear hk k
     refine awp_seq fun k5 h5 => ?_
     refine awp_le (le_keep [3, 6, 7, 8, 10, 11, 22, 23, 24]) ?_
     simp only [kp, argSl, simprocAttr]
     refine awp_sr [141] (by rw [hC]; rfl) fun k hk => ?_
     simp (maxSteps := 9^9) (disch := (try simp only [lens]); omega) only [argSl, sm, ↓amb, mark_eq, simprocAttr, lE, mx, dx]
     repeat refine ⟨by first | omega | (simp; done) | (unfold maxLen; omega) | (simp [maxLen]; omega) | assumption, ?_⟩
     refine hk _ ?_; clear hk k
     refine awp_cond rfl (fun hb => ?_) (fun hb => ?_)
     ·rw [hgp.1] at hb; exact absurd hb (by simp)
     ·try simp only [hbx] at hb
      refine awp_skip ?_
      refine h5 _ ?_; clear h5 k5
      refine awp_le (le_keep [6, 7, 10, 11, 22, 23]) ?_
      simp only [kp, argSl, simprocAttr]
      refine awp_sr [141] (by rw [hC]; rfl) fun k hk => ?_
      simp (maxSteps := 9^9) (disch := (try simp only [lens]); omega) only [argSl, sm, ↓amb, mark_eq, simprocAttr, sz107, fl110_0, lE, mx, dx]
      repeat refine ⟨by first | omega | (simp; done) | (unfold maxLen; omega) | (simp [maxLen]; omega) | assumption, ?_⟩
      refine hk _ ?_; clear hk k
      refine awp_le (le_keep [6, 7, 10, 11, 23]) ?_
      simp only [kp, argSl, simprocAttr]
      obtain ⟨ov, hov⟩ : ∃ o, o = c.over := ⟨_, rfl⟩
      rw [← hov]
      refine awp_srg [141] (by rw [hC]; rfl) fun gd hgd k hk => ?_
      have g2 : gd 2 = some 163 := by rw [hgd]; rfl
      clear hgd
      simp (maxSteps := 9^9) (disch := (try simp only [lens]); omega) only [argSl, sm, ↓amb, mark_eq, simprocAttr, fl110_2, sz4, g2, a07, lE, mx, dx]
      repeat refine ⟨by first | omega | (simp; done) | (unfold maxLen; omega) | (simp [maxLen]; omega) | assumption, ?_⟩
      refine ⟨fun hg => ?_, fun hg => ?_⟩
      ·try simp only [hbx] at hg
       repeat refine ⟨by first | omega | (simp; done) | (unfold maxLen; omega) | (simp [maxLen]; omega) | assumption, ?_⟩
       refine hk _ ?_; clear hk k
       refine awp_le (le_keep [6, 7, 10, 11]) ?_
       simp only [kp, argSl, simprocAttr]
       refine awp_le (show LE _ (⟨[(6, (.ptr 1 7 0 0)), (7, (.ptr 2 4 0 0)), (10, (.ptr 3 7 0 0)), (11, (.ptr 4 4 0 0))], [(1, (.row 7 [[.p (.seq true []), .p (iV 0), .p (.seq true []), .p (.seq true []), .p (bV false), .p (iV 0), .p (iV 0)]])), (2, (.row 4 [[.p (iV 0), .p (iV 0), .p (iV 0), .p (bV false)]])), (3, (.row 7 [[.p (.seq false ((Pl.doW c.work ((c.dq.getD P default).getD ((c.dq.getD P default).length - 1) 0)).ts.map taskC)), .p (iV (Pl.doW c.work ((c.dq.getD P default).getD ((c.dq.getD P default).length - 1) 0)).grain), .p (.seq false ((Pl.doW c.work ((c.dq.getD P default).getD ((c.dq.getD P default).length - 1) 0)).done.map fun b => [bV b])), .own 5, .p (bV (false || Pl.doO c.work ((c.dq.getD P default).getD ((c.dq.getD P default).length - 1) 0))), .p (iV (c.steps + 1)), .p (iV c.idle)]])), (4, (.row 4 [[.p (iV (P : Int)), .p (iV (P : Int)), .p (iV ((c.dq.getD P default).getD ((c.dq.getD P default).length - 1) 0)), .p (bV false)]])), (5, (.row 1 (lift ((c.dq.set P ((c.dq.getD P default).take ((c.dq.getD P default).length - 1))).map lV))))], 1⟩ : LS) from le_of [(1, _), (2, _), (3, _), (4, _), (5, 5)] (by rfl) (by rfl) ⟨⟨_, rfl, .ptr rfl⟩, ⟨_, rfl, .ptr rfl⟩, ⟨_, rfl, .ptr rfl⟩, ⟨_, rfl, .ptr rfl⟩, trivial⟩ ⟨⟨_, rfl, _, rfl, .one (.cons (.p (.refl _)) (.cons (.p (.refl _)) (.cons (.p (.refl _)) (.cons (.p (.refl _)) (.cons (.p (.refl _)) (.cons (.p (.refl _)) (.cons (.p (.refl _)) (.nil))))))))⟩, ⟨_, rfl, _, rfl, .one (.cons (.p (.refl _)) (.cons (.p (.refl _)) (.cons (.p (.refl _)) (.cons (.p (.refl _)) (.nil)))))⟩, ⟨_, rfl, _, rfl, .one (.cons (.p (.refl _)) (.cons (.p (.refl _)) (.cons (.p (.refl _)) (.cons (.own rfl) (.cons (.p (.refl _)) (.cons (.p (.refl _)) (.cons (.p (.refl _)) (.nil))))))))⟩, ⟨_, rfl, _, rfl, .one (.cons (.p (.refl _)) (.cons (.p (.refl _)) (.cons (.p (.refl _)) (.cons (.p (.refl _)) (.nil)))))⟩, ⟨_, rfl, _, rfl, leB_outF (k := 6) (by rfl) (by rfl)⟩, trivial⟩) ?_
       refine awp_sd [141] ⟨[0, 0, 1, 7, 15], [], [2, 3], [], some [1, 2]⟩ (by rw [hC]; rfl) (by kernel_rfl) (by kernel_rfl) fun k hk => ?_
       simp (maxSteps := 9^9) (disch := (try simp only [lens]); omega) only [argSl, sm, ↓amb, mark_eq, simprocAttr, sz110, sz139, lE, mx, dx]
       repeat refine ⟨by first | omega | (simp; done) | (unfold maxLen; omega) | (simp [maxLen]; omega) | assumption, ?_⟩
       refine hk _ ?_; clear hk k
       refine awp_ret ?_
       subst hg
       rw [hgp.2, ← hov]
       refine retl rfl rfl ⟨retc rfl sz110 ?_, retc rfl sz139 ?_, rett rfl ?_, trivial⟩
       all_goals first | (simp (maxSteps := 9^9) (disch := (try simp only [lens]); omega) only [argSl, sm, ↓amb, mark_eq, simprocAttr, sz110, sz139, lE, mx, dx]) | skip
       ·exact .agg_cons (.p (LeP.refl _)) (.agg_cons (.p (LeP.refl _)) (.agg_cons (.p (LeP.refl _)) (.agg_cons (.ownE rfl rfl) (.agg_cons (.p (LeP.refl _)) (.agg_cons (.p (LeP.refl _)) (.agg_cons (.p (LeP.refl _)) (.agg_nil)))))))
       ·exact .p (LeP.refl _)
       ·exact .p (LeP.refl _)
      ·try simp only [hbx] at hg
       repeat refine ⟨by first | omega | (simp; done) | (unfold maxLen; omega) | (simp [maxLen]; omega) | assumption, ?_⟩
       refine hk _ ?_; clear hk k
       refine awp_le (le_keep [6, 7, 10, 11]) ?_
       simp only [kp, argSl, simprocAttr]
       refine awp_le (show LE _ (⟨[(6, (.ptr 1 7 0 0)), (7, (.ptr 2 4 0 0)), (10, (.ptr 3 7 0 0)), (11, (.ptr 4 4 0 0))], [(1, (.row 7 [[.p (.seq true []), .p (iV 0), .p (.seq true []), .p (.seq true []), .p (bV false), .p (iV 0), .p (iV 0)]])), (2, (.row 4 [[.p (iV 0), .p (iV 0), .p (iV 0), .p (bV false)]])), (3, (.row 7 [[.p (.seq false ((Pl.doW c.work ((c.dq.getD P default).getD ((c.dq.getD P default).length - 1) 0)).ts.map taskC)), .p (iV (Pl.doW c.work ((c.dq.getD P default).getD ((c.dq.getD P default).length - 1) 0)).grain), .p (.seq false ((Pl.doW c.work ((c.dq.getD P default).getD ((c.dq.getD P default).length - 1) 0)).done.map fun b => [bV b])), .own 5, .p (bV (true || Pl.doO c.work ((c.dq.getD P default).getD ((c.dq.getD P default).length - 1) 0))), .p (iV (c.steps + 1)), .p (iV c.idle)]])), (4, (.row 4 [[.p (iV (P : Int)), .p (iV (P : Int)), .p (iV ((c.dq.getD P default).getD ((c.dq.getD P default).length - 1) 0)), .p (bV false)]])), (5, (.row 1 (lift ((c.dq.set P ((c.dq.getD P default).take ((c.dq.getD P default).length - 1))).map lV))))], 1⟩ : LS) from le_of [(1, _), (2, _), (3, _), (4, _), (5, 5)] (by rfl) (by rfl) ⟨⟨_, rfl, .ptr rfl⟩, ⟨_, rfl, .ptr rfl⟩, ⟨_, rfl, .ptr rfl⟩, ⟨_, rfl, .ptr rfl⟩, trivial⟩ ⟨⟨_, rfl, _, rfl, .one (.cons (.p (.refl _)) (.cons (.p (.refl _)) (.cons (.p (.refl _)) (.cons (.p (.refl _)) (.cons (.p (.refl _)) (.cons (.p (.refl _)) (.cons (.p (.refl _)) (.nil))))))))⟩, ⟨_, rfl, _, rfl, .one (.cons (.p (.refl _)) (.cons (.p (.refl _)) (.cons (.p (.refl _)) (.cons (.p (.refl _)) (.nil)))))⟩, ⟨_, rfl, _, rfl, .one (.cons (.p (.refl _)) (.cons (.p (.refl _)) (.cons (.p (.refl _)) (.cons (.own rfl) (.cons (.p (.refl _)) (.cons (.p (.refl _)) (.cons (.p (.refl _)) (.nil))))))))⟩, ⟨_, rfl, _, rfl, .one (.cons (.p (.refl _)) (.cons (.p (.refl _)) (.cons (.p (.refl _)) (.cons (.p (.refl _)) (.nil)))))⟩, ⟨_, rfl, _, rfl, leB_outF (k := 6) (by rfl) (by rfl)⟩, trivial⟩) ?_
       refine awp_sd [141] ⟨[0, 0, 1, 7, 15], [], [2, 3], [], some [1, 2]⟩ (by rw [hC]; rfl) (by kernel_rfl) (by kernel_rfl) fun k hk => ?_
       simp (maxSteps := 9^9) (disch := (try simp only [lens]); omega) only [argSl, sm, ↓amb, mark_eq, simprocAttr, sz110, sz139, lE, mx, dx]
       repeat refine ⟨by first | omega | (simp; done) | (unfold maxLen; omega) | (simp [maxLen]; omega) | assumption, ?_⟩
       refine hk _ ?_; clear hk k
       refine awp_ret ?_
       subst hg
       rw [hgp.2, ← hov]
       refine retl rfl rfl ⟨retc rfl sz110 ?_, retc rfl sz139 ?_, rett rfl ?_, trivial⟩
       all_goals first | (simp (maxSteps := 9^9) (disch := (try simp only [lens]); omega) only [argSl, sm, ↓amb, mark_eq, simprocAttr, sz110, sz139, lE, mx, dx]) | skip
       ·exact .agg_cons (.p (LeP.refl _)) (.agg_cons (.p (LeP.refl _)) (.agg_cons (.p (LeP.refl _)) (.agg_cons (.ownE rfl rfl) (.agg_cons (.p (LeP.refl _)) (.agg_cons (.p (LeP.refl _)) (.agg_cons (.p (LeP.refl _)) (.agg_nil)))))))
       ·exact .p (LeP.refl _)
       ·exact .p (LeP.refl _)
   ·exact absurd hb (by simp)
end Go.Proofs.Ytjkkjiaeeobnkaa
end
section
set_option linter.unusedSimpArgs false
set_option linter.unusedVariables false
set_option maxRecDepth 100000
namespace Go.Proofs.Ytjkkjiaeeobnkaa
open Go.Am Go.Proofs
theorem en118 : enters Try.prog 118 = true := by kernel_rfl
set_option maxHeartbeats 4000000 in
theorem c_Step_s (c : Pl.Crew) (p v : Int) (hl : ∀ l, l ∈ c.dq → l.length ≤ 1000000 ∧ ∀ t, t ∈ l → -9223372036854775808 ≤ t ∧ t ≤ 9223372036854775807) (h0 : (Pl.step c p v).2.2 = 0) (hp : ¬ 0 < (c.dq.getD (Pl.num c.dq p).toNat default).length) (hv : 0 < (c.dq.getD (Pl.num c.dq v).toNat default).length) : PCall Try.prog 103 [.agg (crewC c), iV p, iV v] (.tup [.agg (crewC (Pl.step c p v).1), .agg (evC (Pl.step c p v).2.1), iV 0]) := by
 obtain ⟨P, V, hcp, hcv, hP, hV, hN, hPl, hVl, hcr, hst⟩ := Pl.step_at h0
 obtain ⟨hr1, hr2, hr3, hr4, hr5, hr6, hr7⟩ := id hcr
 have hRr : c.work.ts.length ≤ 2000 ∧ c.work.done.length ≤ 1000 := ⟨hr1.2.2.1, by have := hr1.1; unfold Pl.cnt at this; omega⟩
 have hlP := hl _ (Pl.getD_mem c.dq P default hPl)
 have hlV := hl _ (Pl.getD_mem c.dq V default hVl)
 rw [hP] at hp
 rw [hV] at hv
 have hso := Pl.step_steal h0 hP hN hV hp hv (t := ((c.dq.getD V default).getD 0 0)) rfl
 have hle : (c.dq.getD P default) = [] := List.eq_nil_of_length_eq_zero (by omega)
 have hpop : PCall Try.prog 117 [ints false (c.dq.getD P default)] (.tup [ints false [], iV 0, iV 4]) := by rw [hle]; exact c18 false [] (by decide)
 have hne : V ≠ P := fun e => hp (e ▸ hv)
 have hgP : ((c.dq.map lE).set V [PV.seq false (((c.dq.getD V default).drop 1).map fun n => [iV n])]).getD P [] = [PV.seq true []] := lE_get hPl hne hle _
 have hsl : PCall Try.prog 118 [ints false (c.dq.getD V default)] (.tup [ints false ((c.dq.getD V default).drop 1), iV ((c.dq.getD V default).getD 0 0), iV 0]) := by have q := c20 false (c.dq.getD V default) hlV.1; unfold stealS at q; rw [if_neg (by intro e; rw [e] at hv; exact absurd hv (by decide))] at q; exact q
 refine pcall_of_awp Try.func103 rfl (by simp [Try.ntmps103]) fun C hC => ?_
 refine awp_le (le_keep [0, 1, 2]) ?_
 simp only [kp, argSl, simprocAttr]
 refine awp_sr [] (by rw [hC]; rfl) fun k hk => ?_
 simp (maxSteps := 9^9) (disch := (try simp only [lens]); omega) only [argSl, sm, ↓amb, mark_eq, simprocAttr, vr110, vr139, lE, mx, hgP, dx]
 repeat refine ⟨by first | omega | (simp; done) | (unfold maxLen; omega) | (simp [maxLen]; omega) | assumption, ?_⟩
 refine hk _ ?_; clear hk k
 refine awp_seq fun k1 h1 => ?_
 refine awp_block ?_
 refine awp_le (le_keep [1, 2, 3, 6, 7, 8]) ?_
 simp only [kp, argSl, simprocAttr]
 refine awp_sr [] (by rw [hC]; rfl) fun k hk => ?_
 simp (maxSteps := 9^9) (disch := (try simp only [lens]); omega) only [argSl, sm, ↓amb, mark_eq, simprocAttr, sz110, en114, lE, mx, hgP, dx]
 repeat refine ⟨by first | omega | (simp; done) | (unfold maxLen; omega) | (simp [maxLen]; omega) | assumption, ?_⟩
 refine callK_p (c_ref05_Right _ hl) rfl ?_
 simp (maxSteps := 9^9) (disch := (try simp only [lens]); omega) only [argSl, sm, ↓amb, mark_eq, simprocAttr, sz110, en114, lE, mx, hgP, dx]
 repeat refine ⟨by first | omega | (simp; done) | (unfold maxLen; omega) | (simp [maxLen]; omega) | assumption, ?_⟩
 refine hk _ ?_; clear hk k
 refine awp_cond rfl (fun hb => ?_) (fun hb => ?_)
 ·exact absurd hcr (by simpa using hb)
 ·try simp only [hbx] at hb
  refine awp_le (le_keep [1, 2, 3, 6, 7, 8]) ?_
  simp only [kp, argSl, simprocAttr]
  refine awp_sr [] (by rw [hC]; rfl) fun k hk => ?_
  simp (maxSteps := 9^9) (disch := (try simp only [lens]); omega) only [argSl, sm, ↓amb, mark_eq, simprocAttr, fl110_3, sz3, lE, mx, hgP, dx]
  repeat refine ⟨by first | omega | (simp; done) | (unfold maxLen; omega) | (simp [maxLen]; omega) | assumption, ?_⟩
  refine hk _ ?_; clear hk k
  refine awp_cond rfl (fun hb => ?_) (fun hb => ?_)
  ·exact absurd (beq_iff_eq.mp hb) hst
  ·try simp only [hbx] at hb
   refine awp_skip ?_
   refine h1 _ ?_; clear h1 k1
   refine awp_le (le_keep [1, 2, 3, 6, 7]) ?_
   simp only [kp, argSl, simprocAttr]
   refine awp_sr [] (by rw [hC]; rfl) fun k hk => ?_
   simp (maxSteps := 9^9) (disch := (try simp only [lens]); omega) only [argSl, sm, ↓amb, mark_eq, simprocAttr, fl110_1, sz108, el108, lE, mx, hgP, dx]
   repeat refine ⟨by first | omega | (simp; done) | (unfold maxLen; omega) | (simp [maxLen]; omega) | assumption, ?_⟩
   refine hk _ ?_; clear hk k
   refine awp_le (le_keep [1, 2, 3, 6, 7, 9]) ?_
   simp only [kp, argSl, simprocAttr]
   refine awp_sr [] (by rw [hC]; rfl) fun k hk => ?_
   simp (maxSteps := 9^9) (disch := (try simp only [lens]); omega) only [argSl, sm, ↓amb, mark_eq, simprocAttr, en115, lE, mx, hgP, dx]
   repeat refine ⟨by first | omega | (simp; done) | (unfold maxLen; omega) | (simp [maxLen]; omega) | assumption, ?_⟩
   refine callK_p (c_ref05_cut _ _ (by omega)) rfl ?_
   simp (maxSteps := 9^9) (disch := (try simp only [lens]); omega) only [argSl, sm, ↓amb, mark_eq, simprocAttr, en115, lE, mx, hgP, dx]
   repeat refine ⟨by first | omega | (simp; done) | (unfold maxLen; omega) | (simp [maxLen]; omega) | assumption, ?_⟩
   refine callK_p (c_ref05_cut _ _ (by omega)) rfl ?_
   simp (maxSteps := 9^9) (disch := (try simp only [lens]); omega) only [argSl, sm, ↓amb, mark_eq, simprocAttr, en115, lE, mx, hgP, dx]
   repeat refine ⟨by first | omega | (simp; done) | (unfold maxLen; omega) | (simp [maxLen]; omega) | assumption, ?_⟩
   refine hk _ ?_; clear hk k
   refine awp_le (le_keep [1, 2, 3, 6, 7]) ?_
   simp only [kp, argSl, simprocAttr]
   rw [hcp, hcv]
   refine awp_sr [] (by rw [hC]; rfl) fun k hk => ?_
   simp (maxSteps := 9^9) (disch := (try simp only [lens]); omega) only [argSl, sm, ↓amb, mark_eq, simprocAttr, sz110, en116, vr110, lE, mx, hgP, dx]
   repeat refine ⟨by first | omega | (simp; done) | (unfold maxLen; omega) | (simp [maxLen]; omega) | assumption, ?_⟩
   refine callK_h (c_Copy_h c (by omega) (by omega) (by omega) (fun l h => (hl l h).1)) [] [] (by first | rfl | (simp only [hm]; done)) (by first | rfl | (simp [namesOk, lkp]; done)) ?_ ?_ ?_ ?_ ?_ ?_ ?_
   (iterate 6 (focus (first | trivial | (intro n hn; cases hn; done) | (simp (maxSteps := 9^9) (disch := (try simp only [lens]); omega) only [argSl, sm, ↓amb, mark_eq, simprocAttr, sz110, en116, vr110, lE, mx, hgP, dx, hmx, List.filter_cons, Nat.reduceBNe, imp_self, implies_true]; done))))
   simp (maxSteps := 9^9) (disch := (try simp only [lens]); omega) only [argSl, sm, ↓amb, mark_eq, simprocAttr, sz110, en116, vr110, lE, mx, hgP, dx, hm, List.filter_cons, List.filter_nil, Nat.reduceBNe, Option.map_none]
   repeat refine ⟨by first | omega | (simp; done) | (unfold maxLen; omega) | (simp [maxLen]; omega) | assumption, ?_⟩
   refine hk _ ?_; clear hk k
   refine awp_le (le_keep [1, 2, 3, 6, 7, 10]) ?_
   simp only [kp, argSl, simprocAttr]
   refine awp_sr [] (by rw [hC]; rfl) fun k hk => ?_
   simp (maxSteps := 9^9) (disch := (try simp only [lens]); omega) only [argSl, sm, ↓amb, mark_eq, simprocAttr, fl110_3, sz3, lE, mx, hgP, dx]
   repeat refine ⟨by first | omega | (simp; done) | (unfold maxLen; omega) | (simp [maxLen]; omega) | assumption, ?_⟩
   refine hk _ ?_; clear hk k
   refine awp_le (le_keep [1, 2, 3, 6, 7, 10]) ?_
   simp only [kp, argSl, simprocAttr]
   refine awp_sr [] (by rw [hC]; rfl) fun k hk => ?_
   simp (maxSteps := 9^9) (disch := (try simp only [lens]); omega) only [argSl, sm, ↓amb, mark_eq, simprocAttr, vr139, bt139, pl139_0, pl139_1, pl139_2, sz139, lE, mx, hgP, dx]
   repeat refine ⟨by first | omega | (simp; done) | (unfold maxLen; omega) | (simp [maxLen]; omega) | assumption, ?_⟩
   refine hk _ ?_; clear hk k
   refine awp_seq fun k2 h2 => ?_
   refine awp_le (le_keep [1, 2, 3, 6, 7, 8, 10, 11]) ?_
   simp only [kp, argSl, simprocAttr]
   refine awp_sr [] (by rw [hC]; rfl) fun k hk => ?_
   simp (maxSteps := 9^9) (disch := (try simp only [lens]); omega) only [argSl, sm, ↓amb, mark_eq, simprocAttr, fl110_1, sz108, el108, sz67, en117, lE, mx, hgP, dx]
   repeat refine ⟨by first | omega | (simp; done) | (unfold maxLen; omega) | (simp [maxLen]; omega) | assumption, ?_⟩
   refine callK_p (hpop) rfl ?_
   simp (maxSteps := 9^9) (disch := (try simp only [lens]); omega) only [argSl, sm, ↓amb, mark_eq, simprocAttr, fl110_1, sz108, el108, sz67, en117, lE, mx, hgP, dx]
   repeat refine ⟨by first | omega | (simp; done) | (unfold maxLen; omega) | (simp [maxLen]; omega) | assumption, ?_⟩
   refine hk _ ?_; clear hk k
   refine awp_le (le_keep [1, 2, 3, 6, 7, 8, 10, 11, 12, 13, 14]) ?_
   simp only [kp, argSl, simprocAttr]
   refine awp_sr [] (by rw [hC]; rfl) fun k hk => ?_
   simp (maxSteps := 9^9) (disch := (try simp only [lens]); omega) only [argSl, sm, ↓amb, mark_eq, simprocAttr, lE, mx, hgP, dx]
   repeat refine ⟨by first | omega | (simp; done) | (unfold maxLen; omega) | (simp [maxLen]; omega) | assumption, ?_⟩
   refine hk _ ?_; clear hk k
   refine awp_cond rfl (fun hb => ?_) (fun hb => ?_)
   ·exact absurd hb (by simp)
   ·try simp only [hbx] at hb
    refine awp_le (le_keep [1, 2, 3, 6, 7, 8, 10, 11]) ?_
    simp only [kp, argSl, simprocAttr]
    refine awp_sr [] (by rw [hC]; rfl) fun k hk => ?_
    simp (maxSteps := 9^9) (disch := (try simp only [lens]); omega) only [argSl, sm, ↓amb, mark_eq, simprocAttr, fl110_1, sz108, el108, sz67, en118, lE, mx, hgP, dx]
    repeat refine ⟨by first | omega | (simp; done) | (unfold maxLen; omega) | (simp [maxLen]; omega) | assumption, ?_⟩
    refine callK_p (hsl) rfl ?_
    simp (maxSteps := 9^9) (disch := (try simp only [lens]); omega) only [argSl, sm, ↓amb, mark_eq, simprocAttr, fl110_1, sz108, el108, sz67, en118, lE, mx, hgP, dx]
    repeat refine ⟨by first | omega | (simp; done) | (unfold maxLen; omega) | (simp [maxLen]; omega) | assumption, ?_⟩
    refine hk _ ?_; clear hk k
    refine awp_le (le_keep [1, 2, 3, 6, 7, 8, 10, 11, 15, 16, 17]) ?_
    simp only [kp, argSl, simprocAttr]
    refine awp_sr [] (by rw [hC]; rfl) fun k hk => ?_
    simp (maxSteps := 9^9) (disch := (try simp only [lens]); omega) only [argSl, sm, ↓amb, mark_eq, simprocAttr, lE, mx, hgP, dx]
    repeat refine ⟨by first | omega | (simp; done) | (unfold maxLen; omega) | (simp [maxLen]; omega) | assumption, ?_⟩
    refine hk _ ?_; clear hk k
    refine awp_cond rfl (fun hb => ?_) (fun hb => ?_)
    ·try simp only [hbx] at hb
     refine awp_region [] (by rw [hC]; rfl) fun k hk => ?_
     simp (maxSteps := 9^9) (disch := (try simp only [lens]); omega) only [argSl, sm, ↓amb, mark_eq, simprocAttr, fl110_1, sz108, el108, sz67, fl139_1, sz3, fl139_2, lE, mx, hgP, dx]
     repeat refine ⟨by first | omega | (simp; done) | (unfold maxLen; omega) | (simp [maxLen]; omega) | assumption, ?_⟩
     refine hk _ ?_; clear hk k
     refine h2 _ ?_; clear h2 k2
     refine awp_seq fun k3 h3 => ?_
     refine awp_le (le_keep [1, 3, 6, 7, 8, 10, 11]) ?_
     simp only [kp, argSl, simprocAttr]
     refine awp_le (show LE _ (⟨[(1, (.p (iV (P : Int)))), (3, (.ptr 0 7 0 0)), (6, (.ptr 1 7 0 0)), (7, (.ptr 2 4 0 0)), (10, (.ptr 3 7 0 0)), (11, (.ptr 4 4 0 0))], [(0, (.row 7 [[.p (.seq false (c.work.ts.map taskC)), .p (iV c.work.grain), .p (.seq false (c.work.done.map fun b => [bV b])), .p (.seq false (c.dq.map lV)), .p (bV c.over), .p (iV c.steps), .p (iV c.idle)]])), (1, (.row 7 [[.p (.seq true []), .p (iV 0), .p (.seq true []), .p (.seq true []), .p (bV false), .p (iV 0), .p (iV 0)]])), (2, (.row 4 [[.p (iV 0), .p (iV 0), .p (iV 0), .p (bV false)]])), (3, (.row 7 [[.p (.seq false (c.work.ts.map taskC)), .p (iV c.work.grain), .p (.seq false (c.work.done.map fun b => [bV b])), .own 5, .p (bV c.over), .p (iV (c.steps + 1)), .p (iV c.idle)]])), (4, (.row 4 [[.p (iV (P : Int)), .p (iV (V : Int)), .p (iV ((c.dq.getD V default).getD 0 0)), .p (bV false)]])), (5, (.row 1 (lift ((c.dq.map lE).set V [PV.seq false (((c.dq.getD V default).drop 1).map fun n => [iV n])]))))], 1⟩ : LS) from le_of [(0, _), (1, _), (2, _), (3, _), (4, _), (5, _)] (by rfl) (by rfl) ⟨⟨_, rfl, .p (.of_eq (by first | rfl | (simp only [PV.lit.injEq, Value.int.injEq, true_and]; omega) | (simp; done) | (simp; omega)))⟩, ⟨_, rfl, .ptr rfl⟩, ⟨_, rfl, .ptr rfl⟩, ⟨_, rfl, .ptr rfl⟩, ⟨_, rfl, .ptr rfl⟩, ⟨_, rfl, .ptr rfl⟩, trivial⟩ ⟨⟨_, rfl, _, rfl, .one (.cons (.p (.refl _)) (.cons (.p (.refl _)) (.cons (.p (.refl _)) (.cons (.p (.refl _)) (.cons (.p (.refl _)) (.cons (.p (.refl _)) (.cons (.p (.refl _)) (.nil))))))))⟩, ⟨_, rfl, _, rfl, .one (.cons (.p (.refl _)) (.cons (.p (.refl _)) (.cons (.p (.refl _)) (.cons (.p (.refl _)) (.cons (.p (.refl _)) (.cons (.p (.refl _)) (.cons (.p (.refl _)) (.nil))))))))⟩, ⟨_, rfl, _, rfl, .one (.cons (.p (.refl _)) (.cons (.p (.refl _)) (.cons (.p (.refl _)) (.cons (.p (.refl _)) (.nil)))))⟩, ⟨_, rfl, _, rfl, .one (.cons (.p (.refl _)) (.cons (.p (.refl _)) (.cons (.p (.refl _)) (.cons (.own rfl) (.cons (.p (.refl _)) (.cons (.p (.refl _)) (.cons (.p (.refl _)) (.nil))))))))⟩, ⟨_, rfl, _, rfl, .one (.cons (.p (.refl _)) (.cons (.p (.refl _)) (.cons (.p (.refl _)) (.cons (.p (.refl _)) (.nil)))))⟩, ⟨_, rfl, _, rfl, .liftE rfl⟩, trivial⟩) ?_
     refine awp_sr [] (by rw [hC]; rfl) fun k hk => ?_
     simp (maxSteps := 9^9) (disch := (try simp only [lens]); omega) only [argSl, sm, ↓amb, mark_eq, simprocAttr, fl110_0, sz107, fl139_2, sz3, en119, lE, mx, hgP, dx]
     repeat refine ⟨by first | omega | (simp; done) | (unfold maxLen; omega) | (simp [maxLen]; omega) | assumption, ?_⟩
     refine callK_p (c40 _ _ _ _) rfl ?_
     simp (maxSteps := 9^9) (disch := (try simp only [lens]); omega) only [argSl, sm, ↓amb, mark_eq, simprocAttr, fl110_0, sz107, fl139_2, sz3, en119, lE, mx, hgP, dx]
     repeat refine ⟨by first | omega | (simp; done) | (unfold maxLen; omega) | (simp [maxLen]; omega) | assumption, ?_⟩
     refine hk _ ?_; clear hk k
     refine awp_cond rfl (fun hb => ?_) (fun hb => ?_)
     ·try simp only [hbx] at hb
      refine awp_le (le_keep [1, 3, 6, 7, 10, 11]) ?_
      simp only [kp, argSl, simprocAttr]
      have hgp := hso.1 hb
      refine awp_sr [] (by rw [hC]; rfl) fun k hk => ?_
      simp (maxSteps := 9^9) (disch := (try simp only [lens]); omega) only [argSl, sm, ↓amb, mark_eq, simprocAttr, fl110_0, sz107, fl139_2, sz3, en120, vr107, lE, mx, hgP, dx]
      repeat refine ⟨by first | omega | (simp; done) | (unfold maxLen; omega) | (simp [maxLen]; omega) | assumption, ?_⟩
      refine callK_p (c29 _ _ _ _) rfl ?_
      simp (maxSteps := 9^9) (disch := (try simp only [lens]); omega) only [argSl, sm, ↓amb, mark_eq, simprocAttr, fl110_0, sz107, fl139_2, sz3, en120, vr107, lE, mx, hgP, dx]
      repeat refine ⟨by first | omega | (simp; done) | (unfold maxLen; omega) | (simp [maxLen]; omega) | assumption, ?_⟩
      refine hk _ ?_; clear hk k
      refine awp_seq fun k4 h4 => ?_
      refine awp_le (le_keep [1, 3, 6, 7, 8, 10, 11, 18, 19, 20, 21]) ?_
      simp only [kp, argSl, simprocAttr]
      refine awp_sr [] (by rw [hC]; rfl) fun k hk => ?_
      simp (maxSteps := 9^9) (disch := (try simp only [lens]); omega) only [argSl, sm, ↓amb, mark_eq, simprocAttr, lE, mx, hgP, dx]
      repeat refine ⟨by first | omega | (simp; done) | (unfold maxLen; omega) | (simp [maxLen]; omega) | assumption, ?_⟩
      refine hk _ ?_; clear hk k
      refine awp_cond rfl (fun hb => ?_) (fun hb => ?_)
      ·rw [hgp.1] at hb; exact absurd hb (by simp)
      ·try simp only [hbx] at hb
       refine awp_skip ?_
       refine h4 _ ?_; clear h4 k4
       refine awp_le (le_keep [1, 6, 7, 10, 11, 18, 19, 20]) ?_
       simp only [kp, argSl, simprocAttr]
       refine awp_sr [] (by rw [hC]; rfl) fun k hk => ?_
       simp (maxSteps := 9^9) (disch := (try simp only [lens]); omega) only [argSl, sm, ↓amb, mark_eq, simprocAttr, sz107, fl110_0, fl139_3, sz4, lE, mx, hgP, dx]
       repeat refine ⟨by first | omega | (simp; done) | (unfold maxLen; omega) | (simp [maxLen]; omega) | assumption, ?_⟩
       refine hk _ ?_; clear hk k
       refine awp_le (le_keep [1, 6, 7, 10, 11, 19, 20]) ?_
       simp only [kp, argSl, simprocAttr]
       refine awp_sd [] ⟨[0, 1, 0, 0, 8, 0, 56, 120, 0, 0, 768, 2040, 4095, 8191], [6, 7, 12], [13], [], some [5]⟩ (by rw [hC]; rfl) (by kernel_rfl) (by kernel_rfl) fun k hk => ?_
       simp (maxSteps := 9^9) (disch := (try simp only [lens]); omega) only [argSl, sm, ↓amb, mark_eq, simprocAttr, fl110_1, sz108, el108, sz67, el67, vr3, by3, lE, mx, hgP, dx]
       repeat refine ⟨by first | omega | (simp; done) | (unfold maxLen; omega) | (simp [maxLen]; omega) | assumption, ?_⟩
       refine hk _ ?_; clear hk k
       refine awp_le (le_keep [6, 7, 10, 11]) ?_
       simp only [kp, argSl, simprocAttr]
       refine awp_le (show LE _ (⟨[(6, (.ptr 1 7 0 0)), (7, (.ptr 2 4 0 0)), (10, (.ptr 3 7 0 0)), (11, (.ptr 4 4 0 0))], [(1, (.row 7 [[.p (.seq true []), .p (iV 0), .p (.seq true []), .p (.seq true []), .p (bV false), .p (iV 0), .p (iV 0)]])), (2, (.row 4 [[.p (iV 0), .p (iV 0), .p (iV 0), .p (bV false)]])), (3, (.row 7 [[.p (.seq false ((Pl.partW c.work ((c.dq.getD V default).getD 0 0)).ts.map taskC)), .p (iV (Pl.partW c.work ((c.dq.getD V default).getD 0 0)).grain), .p (.seq false ((Pl.partW c.work ((c.dq.getD V default).getD 0 0)).done.map fun b => [bV b])), .own 5, .p (bV c.over), .p (iV (c.steps + 1)), .p (iV c.idle)]])), (4, (.row 4 [[.p (iV (P : Int)), .p (iV (V : Int)), .p (iV ((c.dq.getD V default).getD 0 0)), .p (bV true)]])), (5, (.row 1 (lift (((c.dq.set V ((c.dq.getD V default).drop 1)).set P [Pl.partB c.work ((c.dq.getD V default).getD 0 0), Pl.partA c.work ((c.dq.getD V default).getD 0 0)]).map lV))))], 1⟩ : LS) from le_of [(1, _), (2, _), (3, _), (4, _), (5, 5)] (by rfl) (by rfl) ⟨⟨_, rfl, .ptr rfl⟩, ⟨_, rfl, .ptr rfl⟩, ⟨_, rfl, .ptr rfl⟩, ⟨_, rfl, .ptr rfl⟩, trivial⟩ ⟨⟨_, rfl, _, rfl, .one (.cons (.p (.refl _)) (.cons (.p (.refl _)) (.cons (.p (.refl _)) (.cons (.p (.refl _)) (.cons (.p (.refl _)) (.cons (.p (.refl _)) (.cons (.p (.refl _)) (.nil))))))))⟩, ⟨_, rfl, _, rfl, .one (.cons (.p (.refl _)) (.cons (.p (.refl _)) (.cons (.p (.refl _)) (.cons (.p (.refl _)) (.nil)))))⟩, ⟨_, rfl, _, rfl, .one (.cons (.p (.refl _)) (.cons (.p (.refl _)) (.cons (.p (.refl _)) (.cons (.own rfl) (.cons (.p (.refl _)) (.cons (.p (.refl _)) (.cons (.p (.refl _)) (.nil))))))))⟩, ⟨_, rfl, _, rfl, .one (.cons (.p (.refl _)) (.cons (.p (.refl _)) (.cons (.p (.refl _)) (.cons (.p (.refl _)) (.nil)))))⟩, ⟨_, rfl, _, rfl, leB_outV (lE_set (lE_set (lE_all _) V false ((c.dq.getD V default).drop 1)) P false [Pl.partB c.work ((c.dq.getD V default).getD 0 0), Pl.partA c.work ((c.dq.getD V default).getD 0 0)])⟩, trivial⟩) ?_
       refine awp_sd [] ⟨[0, 0, 1, 7, 15], [], [2, 3], [], some [1, 2]⟩ (by rw [hC]; rfl) (by kernel_rfl) (by kernel_rfl) fun k hk => ?_
       simp (maxSteps := 9^9) (disch := (try simp only [lens]); omega) only [argSl, sm, ↓amb, mark_eq, simprocAttr, sz110, sz139, lE, mx, hgP, dx]
       repeat refine ⟨by first | omega | (simp; done) | (unfold maxLen; omega) | (simp [maxLen]; omega) | assumption, ?_⟩
       refine hk _ ?_; clear hk k
       refine awp_ret ?_
       rw [hgp.2]
       refine retl rfl rfl ⟨retc rfl sz110 ?_, retc rfl sz139 ?_, rett rfl ?_, trivial⟩
       all_goals first | (simp (maxSteps := 9^9) (disch := (try simp only [lens]); omega) only [argSl, sm, ↓amb, mark_eq, simprocAttr, sz110, sz139, lE, mx, hgP, dx]) | skip
       ·exact .agg_cons (.p (LeP.refl _)) (.agg_cons (.p (LeP.refl _)) (.agg_cons (.p (LeP.refl _)) (.agg_cons (.ownE rfl rfl) (.agg_cons (.p (LeP.refl _)) (.agg_cons (.p (LeP.refl _)) (.agg_cons (.p (LeP.refl _)) (.agg_nil)))))))
       ·exact .p (LeP.refl _)
       ·exact .p (LeP.refl _)
     ·try simp only [hbx] at hb
      refine awp_skip ?_
      refine h3 _ ?_; clear h3 k3
      refine awp_le (le_keep [3, 6, 7, 10, 11]) ?_
      simp only [kp, argSl, simprocAttr]
      have hgp := hso.2 hb
      refine awp_sr [] (by rw [hC]; rfl) fun k hk => ?_
      simp (maxSteps := 9^9) (disch := (try simp only [lens]); omega) only [argSl, sm, ↓amb, mark_eq, simprocAttr, fl110_0, sz107, fl139_2, sz3, en121, vr107, lE, mx, hgP, dx]
      repeat refine ⟨by first | omega | (simp; done) | (unfold maxLen; omega) | (simp [maxLen]; omega) | assumption, ?_⟩
      refine callK_p (c31 _ _ _ _) rfl ?_
      simp (maxSteps := 9^9) (disch := (try simp only [lens]); omega) only [argSl, sm, ↓amb, mark_eq, simprocAttr, fl110_0, sz107, fl139_2, sz3, en121, vr107, lE, mx, hgP, dx]
      repeat refine ⟨by first | omega | (simp; done) | (unfold maxLen; omega) | (simp [maxLen]; omega) | assumption, ?_⟩
      refine hk _ ?_; clear hk k
      refine awp_seq fun k5 h5 => ?_
      refine awp_le (le_keep [3, 6, 7, 8, 10, 11, 22, 23, 24]) ?_
      simp only [kp, argSl, simprocAttr]
      refine awp_sr [] (by rw [hC]; rfl) fun k hk => ?_
      simp (maxSteps := 9^9) (disch := (try simp only [lens]); omega) only [argSl, sm, ↓amb, mark_eq, simprocAttr, lE, mx, hgP, dx]
      repeat refine ⟨by first | omega | (simp; done) | (unfold maxLen; omega) | (simp [maxLen]; omega) | assumption, ?_⟩
      refine hk _ ?_; clear hk k
      refine awp_cond rfl (fun hb => ?_) (fun hb => ?_)
      ·rw [hgp.1] at hb; exact absurd hb (by simp)
      ·try simp only [hbx] at hb
       refine awp_skip ?_
       refine h5 _ ?_; clear h5 k5
       refine awp_le (le_keep [6, 7, 10, 11, 22, 23]) ?_
       simp only [kp, argSl, simprocAttr]
       refine awp_sr [] (by rw [hC]; rfl) fun k hk => ?_
       simp (maxSteps := 9^9) (disch := (try simp only [lens]); omega) only [argSl, sm, ↓amb, mark_eq, simprocAttr, sz107, fl110_0, lE, mx, hgP, dx]
       repeat refine ⟨by first | omega | (simp; done) | (unfold maxLen; omega) | (simp [maxLen]; omega) | assumption, ?_⟩
       refine hk _ ?_; clear hk k
       refine awp_le (le_keep [6, 7, 10, 11, 23]) ?_
       simp only [kp, argSl, simprocAttr]
       obtain ⟨ov, hov⟩ : ∃ o, o = c.over := ⟨_, rfl⟩
       rw [← hov]
       refine awp_srg [] (by rw [hC]; rfl) fun gd hgd k hk => ?_
       have g2 : gd 2 = some 163 := by rw [hgd]; rfl
       clear hgd
       simp (maxSteps := 9^9) (disch := (try simp only [lens]); omega) only [argSl, sm, ↓amb, mark_eq, simprocAttr, fl110_2, sz4, g2, a07, lE, mx, hgP, dx]
       repeat refine ⟨by first | omega | (simp; done) | (unfold maxLen; omega) | (simp [maxLen]; omega) | assumption, ?_⟩
       refine ⟨fun hg => ?_, fun hg => ?_⟩
       ·try simp only [hbx] at hg
        repeat refine ⟨by first | omega | (simp; done) | (unfold maxLen; omega) | (simp [maxLen]; omega) | assumption, ?_⟩
        refine hk _ ?_; clear hk k
        refine awp_le (le_keep [6, 7, 10, 11]) ?_
        simp only [kp, argSl, simprocAttr]
        refine awp_le (show LE _ (⟨[(6, (.ptr 1 7 0 0)), (7, (.ptr 2 4 0 0)), (10, (.ptr 3 7 0 0)), (11, (.ptr 4 4 0 0))], [(1, (.row 7 [[.p (.seq true []), .p (iV 0), .p (.seq true []), .p (.seq true []), .p (bV false), .p (iV 0), .p (iV 0)]])), (2, (.row 4 [[.p (iV 0), .p (iV 0), .p (iV 0), .p (bV false)]])), (3, (.row 7 [[.p (.seq false ((Pl.doW c.work ((c.dq.getD V default).getD 0 0)).ts.map taskC)), .p (iV (Pl.doW c.work ((c.dq.getD V default).getD 0 0)).grain), .p (.seq false ((Pl.doW c.work ((c.dq.getD V default).getD 0 0)).done.map fun b => [bV b])), .own 5, .p (bV (false || Pl.doO c.work ((c.dq.getD V default).getD 0 0))), .p (iV (c.steps + 1)), .p (iV c.idle)]])), (4, (.row 4 [[.p (iV (P : Int)), .p (iV (V : Int)), .p (iV ((c.dq.getD V default).getD 0 0)), .p (bV false)]])), (5, (.row 1 (lift ((c.dq.set V ((c.dq.getD V default).drop 1)).map lV))))], 1⟩ : LS) from le_of [(1, _), (2, _), (3, _), (4, _), (5, 5)] (by rfl) (by rfl) ⟨⟨_, rfl, .ptr rfl⟩, ⟨_, rfl, .ptr rfl⟩, ⟨_, rfl, .ptr rfl⟩, ⟨_, rfl, .ptr rfl⟩, trivial⟩ ⟨⟨_, rfl, _, rfl, .one (.cons (.p (.refl _)) (.cons (.p (.refl _)) (.cons (.p (.refl _)) (.cons (.p (.refl _)) (.cons (.p (.refl _)) (.cons (.p (.refl _)) (.cons (.p (.refl _)) (.nil))))))))⟩, ⟨_, rfl, _, rfl, .one (.cons (.p (.refl _)) (.cons (.p (.refl _)) (.cons (.p (.refl _)) (.cons (.p (.refl _)) (.nil)))))⟩, ⟨_, rfl, _, rfl, .one (.cons (.p (.refl _)) (.cons (.p (.refl _)) (.cons (.p (.refl _)) (.cons (.own rfl) (.cons (.p (.refl _)) (.cons (.p (.refl _)) (.cons (.p (.refl _)) (.nil))))))))⟩, ⟨_, rfl, _, rfl, .one (.cons (.p (.refl _)) (.cons (.p (.refl _)) (.cons (.p (.refl _)) (.cons (.p (.refl _)) (.nil)))))⟩, ⟨_, rfl, _, rfl, leB_outV (lE_set (lE_all _) V false ((c.dq.getD V default).drop 1))⟩, trivial⟩) ?_
        refine awp_sd [] ⟨[0, 0, 1, 7, 15], [], [2, 3], [], some [1, 2]⟩ (by rw [hC]; rfl) (by kernel_rfl) (by kernel_rfl) fun k hk => ?_
        simp (maxSteps := 9^9) (disch := (try simp only [lens]); omega) only [argSl, sm, ↓amb, mark_eq, simprocAttr, sz110, sz139, lE, mx, hgP, dx]
        repeat refine ⟨by first | omega | (simp; done) | (unfold maxLen; omega) | (simp [maxLen]; omega) | assumption, ?_⟩
        refine hk _ ?_; clear hk k
        refine awp_ret ?_
        subst hg
        rw [hgp.2, ← hov]
        refine retl rfl rfl ⟨retc rfl sz110 ?_, retc rfl sz139 ?_, rett rfl ?_, trivial⟩
        all_goals first | (simp (maxSteps := 9^9) (disch := (try simp only [lens]); omega) only [argSl, sm, ↓amb, mark_eq, simprocAttr, sz110, sz139, lE, mx, hgP, dx]) | skip
        ·exact .agg_cons (.p (LeP.refl _)) (.agg_cons (.p (LeP.refl _)) (.agg_cons (.p (LeP.refl _)) (.agg_cons (.ownE rfl rfl) (.agg_cons (.p (LeP.refl _)) (.agg_cons (.p (LeP.refl _)) (.agg_cons (.p (LeP.refl _)) (.agg_nil)))))))
        ·exact .p (LeP.refl _)
        ·exact .p (LeP.refl _)
       ·try simp only [hbx] at hg
        repeat refine ⟨by first | omega | (simp; done) | (unfold maxLen; omega) | (simp [maxLen]; omega) | assumption, ?_⟩
        refine hk _ ?_; clear hk k
        refine awp_le (le_keep [6, 7, 10, 11]) ?_
        simp only [kp, argSl, simprocAttr]
        refine awp_le (show LE _ (⟨[(6, (.ptr 1 7 0 0)), (7, (.ptr 2 4 0 0)), (10, (.ptr 3 7 0 0)), (11, (.ptr 4 4 0 0))], [(1, (.row 7 [[.p (.seq true []), .p (iV 0), .p (.seq true []), .p (.seq true []), .p (bV false), .p (iV 0), .p (iV 0)]])), (2, (.row 4 [[.p (iV 0), .p (iV 0), .p (iV 0), .p (bV false)]])), (3, (.row 7 [[.p (.seq false ((Pl.doW c.work ((c.dq.getD V default).getD 0 0)).ts.map taskC)), .p (iV (Pl.doW c.work ((c.dq.getD V default).getD 0 0)).grain), .p (.seq false ((Pl.doW c.work ((c.dq.getD V default).getD 0 0)).done.map fun b => [bV b])), .own 5, .p (bV (true || Pl.doO c.work ((c.dq.getD V default).getD 0 0))), .p (iV (c.steps + 1)), .p (iV c.idle)]])), (4, (.row 4 [[.p (iV (P : Int)), .p (iV (V : Int)), .p (iV ((c.dq.getD V default).getD 0 0)), .p (bV false)]])), (5, (.row 1 (lift ((c.dq.set V ((c.dq.getD V default).drop 1)).map lV))))], 1⟩ : LS) from le_of [(1, _), (2, _), (3, _), (4, _), (5, 5)] (by rfl) (by rfl) ⟨⟨_, rfl, .ptr rfl⟩, ⟨_, rfl, .ptr rfl⟩, ⟨_, rfl, .ptr rfl⟩, ⟨_, rfl, .ptr rfl⟩, trivial⟩ ⟨⟨_, rfl, _, rfl, .one (.cons (.p (.refl _)) (.cons (.p (.refl _)) (.cons (.p (.refl _)) (.cons (.p (.refl _)) (.cons (.p (.refl _)) (.cons (.p (.refl _)) (.cons (.p (.refl _)) (.nil))))))))⟩, ⟨_, rfl, _, rfl, .one (.cons (.p (.refl _)) (.cons (.p (.refl _)) (.cons (.p (.refl _)) (.cons (.p (.refl _)) (.nil)))))⟩, ⟨_, rfl, _, rfl, .one (.cons (.p (.refl _)) (.cons (.p (.refl _)) (.cons (.p (.refl _)) (.cons (.own rfl) (.cons (.p (.refl _)) (.cons (.p (.refl _)) (.cons (.p (.refl _)) (.nil))))))))⟩, ⟨_, rfl, _, rfl, .one (.cons (.p (.refl _)) (.cons (.p (.refl _)) (.cons (.p (.refl _)) (.cons (.p (.refl _)) (.nil)))))⟩, ⟨_, rfl, _, rfl, leB_outV (lE_set (lE_all _) V false ((c.dq.getD V default).drop 1))⟩, trivial⟩) ?_
        refine awp_sd [] ⟨[0, 0, 1, 7, 15], [], [2, 3], [], some [1, 2]⟩ (by rw [hC]; rfl) (by kernel_rfl) (by kernel_rfl) fun k hk => ?_
        simp (maxSteps := 9^9) (disch := (try simp only [lens]); omega) only [argSl, sm, ↓amb, mark_eq, simprocAttr, sz110, sz139, lE, mx, hgP, dx]
        repeat refine ⟨by first | omega | (simp; done) | (unfold maxLen; omega) | (simp [maxLen]; omega) | assumption, ?_⟩
        refine hk _ ?_; clear hk k
        refine awp_ret ?_
        subst hg
        rw [hgp.2, ← hov]
        refine retl rfl rfl ⟨retc rfl sz110 ?_, retc rfl sz139 ?_, rett rfl ?_, trivial⟩
        all_goals first | (simp (maxSteps := 9^9) (disch := (try simp only [lens]); omega) only [argSl, sm, ↓amb, mark_eq, simprocAttr, sz110, sz139, lE, mx, hgP, dx]) | skip
        ·exact .agg_cons (.p (LeP.refl _)) (.agg_cons (.p (LeP.refl _)) (.agg_cons (.p (LeP.refl _)) (.agg_cons (.ownE rfl rfl) (.agg_cons (.p (LeP.refl _)) (.agg_cons (.p (LeP.refl _)) (.agg_cons (.p (LeP.refl _)) (.agg_nil)))))))
        ·exact .p (LeP.refl _)
        ·exact .p (LeP.refl _)
    ·exact absurd hb (by simp)
set_option maxHeartbeats 4000000 in
theorem c_Step_i (c : Pl.Crew) (p v : Int) (hl : ∀ l, l ∈ c.dq → l.length ≤ 1000000 ∧ ∀ t, t ∈ l → -9223372036854775808 ≤ t ∧ t ≤ 9223372036854775807) (h0 : (Pl.step c p v).2.2 = 0) (hp : ¬ 0 < (c.dq.getD (Pl.num c.dq p).toNat default).length) (hv : ¬ 0 < (c.dq.getD (Pl.num c.dq v).toNat default).length) : PCall Try.prog 103 [.agg (crewC c), iV p, iV v] (.tup [.agg (crewC (Pl.step c p v).1), .agg (evC (Pl.step c p v).2.1), iV 0]) := by
 obtain ⟨P, V, hcp, hcv, hP, hV, hN, hPl, hVl, hcr, hst⟩ := Pl.step_at h0
 obtain ⟨hr1, hr2, hr3, hr4, hr5, hr6, hr7⟩ := id hcr
 have hRr : c.work.ts.length ≤ 2000 ∧ c.work.done.length ≤ 1000 := ⟨hr1.2.2.1, by have := hr1.1; unfold Pl.cnt at this; omega⟩
 have hlP := hl _ (Pl.getD_mem c.dq P default hPl)
 have hlV := hl _ (Pl.getD_mem c.dq V default hVl)
 rw [hP] at hp
 rw [hV] at hv
 have hso := Pl.step_idle' h0 hP hN hV hp hv
 have hle : (c.dq.getD P default) = [] := List.eq_nil_of_length_eq_zero (by omega)
 have hpop : PCall Try.prog 117 [ints false (c.dq.getD P default)] (.tup [ints false [], iV 0, iV 4]) := by rw [hle]; exact c18 false [] (by decide)
 have hlv : (c.dq.getD V default) = [] := List.eq_nil_of_length_eq_zero (by omega)
 have hsl : PCall Try.prog 118 [ints false (c.dq.getD V default)] (.tup [ints false [], iV 0, iV 4]) := by rw [hlv]; exact c20 false [] (by decide)
 refine pcall_of_awp Try.func103 rfl (by simp [Try.ntmps103]) fun C hC => ?_
 refine awp_le (le_keep [0, 1, 2]) ?_
 simp only [kp, argSl, simprocAttr]
 refine awp_sr [] (by rw [hC]; rfl) fun k hk => ?_
 simp (maxSteps := 9^9) (disch := (try simp only [lens]); omega) only [argSl, sm, ↓amb, mark_eq, simprocAttr, vr110, vr139, lE, mx, dx]
 repeat refine ⟨by first | omega | (simp; done) | (unfold maxLen; omega) | (simp [maxLen]; omega) | assumption, ?_⟩
 refine hk _ ?_; clear hk k
 refine awp_seq fun k1 h1 => ?_
 refine awp_block ?_
 refine awp_le (le_keep [1, 2, 3, 6, 7, 8]) ?_
 simp only [kp, argSl, simprocAttr]
 refine awp_sr [] (by rw [hC]; rfl) fun k hk => ?_
 simp (maxSteps := 9^9) (disch := (try simp only [lens]); omega) only [argSl, sm, ↓amb, mark_eq, simprocAttr, sz110, en114, lE, mx, dx]
 repeat refine ⟨by first | omega | (simp; done) | (unfold maxLen; omega) | (simp [maxLen]; omega) | assumption, ?_⟩
 refine callK_p (c_ref05_Right _ hl) rfl ?_
 simp (maxSteps := 9^9) (disch := (try simp only [lens]); omega) only [argSl, sm, ↓amb, mark_eq, simprocAttr, sz110, en114, lE, mx, dx]
 repeat refine ⟨by first | omega | (simp; done) | (unfold maxLen; omega) | (simp [maxLen]; omega) | assumption, ?_⟩
 refine hk _ ?_; clear hk k
 refine awp_cond rfl (fun hb => ?_) (fun hb => ?_)
 ·exact absurd hcr (by simpa using hb)
 ·try simp only [hbx] at hb
  refine awp_le (le_keep [1, 2, 3, 6, 7, 8]) ?_
  simp only [kp, argSl, simprocAttr]
  refine awp_sr [] (by rw [hC]; rfl) fun k hk => ?_
  simp (maxSteps := 9^9) (disch := (try simp only [lens]); omega) only [argSl, sm, ↓amb, mark_eq, simprocAttr, fl110_3, sz3, lE, mx, dx]
  repeat refine ⟨by first | omega | (simp; done) | (unfold maxLen; omega) | (simp [maxLen]; omega) | assumption, ?_⟩
  refine hk _ ?_; clear hk k
  refine awp_cond rfl (fun hb => ?_) (fun hb => ?_)
  ·exact absurd (beq_iff_eq.mp hb) hst
  ·try simp only [hbx] at hb
   refine awp_skip ?_
   refine h1 _ ?_; clear h1 k1
   refine awp_le (le_keep [1, 2, 3, 6, 7]) ?_
   simp only [kp, argSl, simprocAttr]
   refine awp_sr [] (by rw [hC]; rfl) fun k hk => ?_
   simp (maxSteps := 9^9) (disch := (try simp only [lens]); omega) only [argSl, sm, ↓amb, mark_eq, simprocAttr, fl110_1, sz108, el108, lE, mx, dx]
   repeat refine ⟨by first | omega | (simp; done) | (unfold maxLen; omega) | (simp [maxLen]; omega) | assumption, ?_⟩
   refine hk _ ?_; clear hk k
   refine awp_le (le_keep [1, 2, 3, 6, 7, 9]) ?_
   simp only [kp, argSl, simprocAttr]
   refine awp_sr [] (by rw [hC]; rfl) fun k hk => ?_
   simp (maxSteps := 9^9) (disch := (try simp only [lens]); omega) only [argSl, sm, ↓amb, mark_eq, simprocAttr, en115, lE, mx, dx]
   repeat refine ⟨by first | omega | (simp; done) | (unfold maxLen; omega) | (simp [maxLen]; omega) | assumption, ?_⟩
   refine callK_p (c_ref05_cut _ _ (by omega)) rfl ?_
   simp (maxSteps := 9^9) (disch := (try simp only [lens]); omega) only [argSl, sm, ↓amb, mark_eq, simprocAttr, en115, lE, mx, dx]
   repeat refine ⟨by first | omega | (simp; done) | (unfold maxLen; omega) | (simp [maxLen]; omega) | assumption, ?_⟩
   refine callK_p (c_ref05_cut _ _ (by omega)) rfl ?_
   simp (maxSteps := 9^9) (disch := (try simp only [lens]); omega) only [argSl, sm, ↓amb, mark_eq, simprocAttr, en115, lE, mx, dx]
   repeat refine ⟨by first | omega | (simp; done) | (unfold maxLen; omega) | (simp [maxLen]; omega) | assumption, ?_⟩
   refine hk _ ?_; clear hk k
   refine awp_le (le_keep [1, 2, 3, 6, 7]) ?_
   simp only [kp, argSl, simprocAttr]
   rw [hcp, hcv]
   refine awp_sr [] (by rw [hC]; rfl) fun k hk => ?_
   simp (maxSteps := 9^9) (disch := (try simp only [lens]); omega) only [argSl, sm, ↓amb, mark_eq, simprocAttr, sz110, en116, vr110, lE, mx, dx]
   repeat refine ⟨by first | omega | (simp; done) | (unfold maxLen; omega) | (simp [maxLen]; omega) | assumption, ?_⟩
   refine callK_h (c_Copy_h c (by omega) (by omega) (by omega) (fun l h => (hl l h).1)) [] [] (by first | rfl | (simp only [hm]; done)) (by first | rfl | (simp [namesOk, lkp]; done)) ?_ ?_ ?_ ?_ ?_ ?_ ?_
   (iterate 6 (focus (first | trivial | (intro n hn; cases hn; done) | (simp (maxSteps := 9^9) (disch := (try simp only [lens]); omega) only [argSl, sm, ↓amb, mark_eq, simprocAttr, sz110, en116, vr110, lE, mx, dx, hmx, List.filter_cons, Nat.reduceBNe, imp_self, implies_true]; done))))
   simp (maxSteps := 9^9) (disch := (try simp only [lens]); omega) only [argSl, sm, ↓amb, mark_eq, simprocAttr, sz110, en116, vr110, lE, mx, dx, hm, List.filter_cons, List.filter_nil, Nat.reduceBNe, Option.map_none]
   repeat refine ⟨by first | omega | (simp; done) | (unfold maxLen; omega) | (simp [maxLen]; omega) | assumption, ?_⟩
   refine hk _ ?_; clear hk k
   refine awp_le (le_keep [1, 2, 3, 6, 7, 10]) ?_
   simp only [kp, argSl, simprocAttr]
   refine awp_sr [] (by rw [hC]; rfl) fun k hk => ?_
   simp (maxSteps := 9^9) (disch := (try simp only [lens]); omega) only [argSl, sm, ↓amb, mark_eq, simprocAttr, fl110_3, sz3, lE, mx, dx]
   repeat refine ⟨by first | omega | (simp; done) | (unfold maxLen; omega) | (simp [maxLen]; omega) | assumption, ?_⟩
   refine hk _ ?_; clear hk k
   refine awp_le (le_keep [1, 2, 3, 6, 7, 10]) ?_
   simp only [kp, argSl, simprocAttr]
   refine awp_sr [] (by rw [hC]; rfl) fun k hk => ?_
   simp (maxSteps := 9^9) (disch := (try simp only [lens]); omega) only [argSl, sm, ↓amb, mark_eq, simprocAttr, vr139, bt139, pl139_0, pl139_1, pl139_2, sz139, lE, mx, dx]
   repeat refine ⟨by first | omega | (simp; done) | (unfold maxLen; omega) | (simp [maxLen]; omega) | assumption, ?_⟩
   refine hk _ ?_; clear hk k
   refine awp_seq fun k2 h2 => ?_
   refine awp_le (le_keep [1, 2, 3, 6, 7, 8, 10, 11]) ?_
   simp only [kp, argSl, simprocAttr]
   refine awp_sr [] (by rw [hC]; rfl) fun k hk => ?_
   simp (maxSteps := 9^9) (disch := (try simp only [lens]); omega) only [argSl, sm, ↓amb, mark_eq, simprocAttr, fl110_1, sz108, el108, sz67, en117, lE, mx, dx]
   repeat refine ⟨by first | omega | (simp; done) | (unfold maxLen; omega) | (simp [maxLen]; omega) | assumption, ?_⟩
   refine callK_p (hpop) rfl ?_
   simp (maxSteps := 9^9) (disch := (try simp only [lens]); omega) only [argSl, sm, ↓amb, mark_eq, simprocAttr, fl110_1, sz108, el108, sz67, en117, lE, mx, dx]
   repeat refine ⟨by first | omega | (simp; done) | (unfold maxLen; omega) | (simp [maxLen]; omega) | assumption, ?_⟩
   refine hk _ ?_; clear hk k
   refine awp_le (le_keep [1, 2, 3, 6, 7, 8, 10, 11, 12, 13, 14]) ?_
   simp only [kp, argSl, simprocAttr]
   refine awp_sr [] (by rw [hC]; rfl) fun k hk => ?_
   simp (maxSteps := 9^9) (disch := (try simp only [lens]); omega) only [argSl, sm, ↓amb, mark_eq, simprocAttr, lE, mx, dx]
   repeat refine ⟨by first | omega | (simp; done) | (unfold maxLen; omega) | (simp [maxLen]; omega) | assumption, ?_⟩
   refine hk _ ?_; clear hk k
   refine awp_cond rfl (fun hb => ?_) (fun hb => ?_)
   ·exact absurd hb (by simp)
   ·try simp only [hbx] at hb
    refine awp_le (le_keep [1, 2, 3, 6, 7, 8, 10, 11]) ?_
    simp only [kp, argSl, simprocAttr]
    refine awp_sr [] (by rw [hC]; rfl) fun k hk => ?_
    simp (maxSteps := 9^9) (disch := (try simp only [lens]); omega) only [argSl, sm, ↓amb, mark_eq, simprocAttr, fl110_1, sz108, el108, sz67, en118, lE, mx, dx]
    repeat refine ⟨by first | omega | (simp; done) | (unfold maxLen; omega) | (simp [maxLen]; omega) | assumption, ?_⟩
    refine callK_p (hsl) rfl ?_
    simp (maxSteps := 9^9) (disch := (try simp only [lens]); omega) only [argSl, sm, ↓amb, mark_eq, simprocAttr, fl110_1, sz108, el108, sz67, en118, lE, mx, dx]
    repeat refine ⟨by first | omega | (simp; done) | (unfold maxLen; omega) | (simp [maxLen]; omega) | assumption, ?_⟩
    refine hk _ ?_; clear hk k
    refine awp_le (le_keep [1, 2, 3, 6, 7, 8, 10, 11, 15, 16, 17]) ?_
    simp only [kp, argSl, simprocAttr]
    refine awp_sr [] (by rw [hC]; rfl) fun k hk => ?_
    simp (maxSteps := 9^9) (disch := (try simp only [lens]); omega) only [argSl, sm, ↓amb, mark_eq, simprocAttr, lE, mx, dx]
    repeat refine ⟨by first | omega | (simp; done) | (unfold maxLen; omega) | (simp [maxLen]; omega) | assumption, ?_⟩
    refine hk _ ?_; clear hk k
    refine awp_cond rfl (fun hb => ?_) (fun hb => ?_)
    ·exact absurd hb (by simp)
    ·try simp only [hbx] at hb
     refine awp_seq fun k3 h3 => ?_
     refine awp_le (le_keep [1, 3, 6, 7, 8, 10, 11]) ?_
     simp only [kp, argSl, simprocAttr]
     refine awp_sr [] (by rw [hC]; rfl) fun k hk => ?_
     simp (maxSteps := 9^9) (disch := (try simp only [lens]); omega) only [argSl, sm, ↓amb, mark_eq, simprocAttr, fl110_4, sz3, lE, mx, dx]
     repeat refine ⟨by first | omega | (simp; done) | (unfold maxLen; omega) | (simp [maxLen]; omega) | assumption, ?_⟩
     refine hk _ ?_; clear hk k
     refine awp_cond rfl (fun hb => ?_) (fun hb => ?_)
     ·exact absurd (beq_iff_eq.mp hb) hso.1
     ·try simp only [hbx] at hb
      refine awp_skip ?_
      refine h3 _ ?_; clear h3 k3
      refine awp_le (le_keep [6, 7, 10, 11]) ?_
      simp only [kp, argSl, simprocAttr]
      refine awp_sr [] (by rw [hC]; rfl) fun k hk => ?_
      simp (maxSteps := 9^9) (disch := (try simp only [lens]); omega) only [argSl, sm, ↓amb, mark_eq, simprocAttr, fl110_4, sz3, lE, mx, dx]
      repeat refine ⟨by first | omega | (simp; done) | (unfold maxLen; omega) | (simp [maxLen]; omega) | assumption, ?_⟩
      refine hk _ ?_; clear hk k
      refine awp_le (le_keep [6, 7, 10, 11]) ?_
      simp only [kp, argSl, simprocAttr]
      refine awp_le (show LE _ (⟨[(6, (.ptr 1 7 0 0)), (7, (.ptr 2 4 0 0)), (10, (.ptr 3 7 0 0)), (11, (.ptr 4 4 0 0))], [(1, (.row 7 [[.p (.seq true []), .p (iV 0), .p (.seq true []), .p (.seq true []), .p (bV false), .p (iV 0), .p (iV 0)]])), (2, (.row 4 [[.p (iV 0), .p (iV 0), .p (iV 0), .p (bV false)]])), (3, (.row 7 [[.p (.seq false (c.work.ts.map taskC)), .p (iV c.work.grain), .p (.seq false (c.work.done.map fun b => [bV b])), .own 5, .p (bV c.over), .p (iV (c.steps + 1)), .p (iV (c.idle + 1))]])), (4, (.row 4 [[.p (iV (P : Int)), .p (iV (-1)), .p (iV (-1)), .p (bV false)]])), (5, (.row 1 (lift (c.dq.map lV))))], 1⟩ : LS) from le_of [(1, _), (2, _), (3, _), (4, _), (5, _)] (by rfl) (by rfl) ⟨⟨_, rfl, .ptr rfl⟩, ⟨_, rfl, .ptr rfl⟩, ⟨_, rfl, .ptr rfl⟩, ⟨_, rfl, .ptr rfl⟩, trivial⟩ ⟨⟨_, rfl, _, rfl, .one (.cons (.p (.refl _)) (.cons (.p (.refl _)) (.cons (.p (.refl _)) (.cons (.p (.refl _)) (.cons (.p (.refl _)) (.cons (.p (.refl _)) (.cons (.p (.refl _)) (.nil))))))))⟩, ⟨_, rfl, _, rfl, .one (.cons (.p (.refl _)) (.cons (.p (.refl _)) (.cons (.p (.refl _)) (.cons (.p (.refl _)) (.nil)))))⟩, ⟨_, rfl, _, rfl, .one (.cons (.p (.refl _)) (.cons (.p (.refl _)) (.cons (.p (.refl _)) (.cons (.own rfl) (.cons (.p (.refl _)) (.cons (.p (.refl _)) (.cons (.p (.refl _)) (.nil))))))))⟩, ⟨_, rfl, _, rfl, .one (.cons (.p (.refl _)) (.cons (.p (.refl _)) (.cons (.p (.refl _)) (.cons (.p (.refl _)) (.nil)))))⟩, ⟨_, rfl, _, rfl, leB_outV (lE_all _)⟩, trivial⟩) ?_
      refine awp_sd [] ⟨[0, 0, 1, 7, 15], [], [2, 3], [], some [1, 2]⟩ (by rw [hC]; rfl) (by kernel_rfl) (by kernel_rfl) fun k hk => ?_
      simp (maxSteps := 9^9) (disch := (try simp only [lens]); omega) only [argSl, sm, ↓amb, mark_eq, simprocAttr, sz110, sz139, lE, mx, dx]
      repeat refine ⟨by first | omega | (simp; done) | (unfold maxLen; omega) | (simp [maxLen]; omega) | assumption, ?_⟩
      refine hk _ ?_; clear hk k
      refine awp_ret ?_
      rw [hso.2]
      refine retl rfl rfl ⟨retc rfl sz110 ?_, retc rfl sz139 ?_, rett rfl ?_, trivial⟩
      all_goals first | (simp (maxSteps := 9^9) (disch := (try simp only [lens]); omega) only [argSl, sm, ↓amb, mark_eq, simprocAttr, sz110, sz139, lE, mx, dx]) | skip
      ·exact .agg_cons (.p (LeP.refl _)) (.agg_cons (.p (LeP.refl _)) (.agg_cons (.p (LeP.refl _)) (.agg_cons (.ownE rfl rfl) (.agg_cons (.p (LeP.refl _)) (.agg_cons (.p (LeP.refl _)) (.agg_cons (.p (LeP.refl _)) (.agg_nil)))))))
      ·exact .p (LeP.refl _)
      ·exact .p (LeP.refl _)
end Go.Proofs.Ytjkkjiaeeobnkaa
end
section
set_option linter.unusedSimpArgs false
set_option linter.unusedVariables false
set_option maxRecDepth 100000
namespace Go.Proofs.Ytjkkjiaeeobnkaa
open Go.Am Go.Proofs
theorem c_ref05_Step (c : Pl.Crew) (p v : Int) (hl : ∀ l, l ∈ c.dq → l.length ≤ 1000000 ∧ ∀ t, t ∈ l → -9223372036854775808 ≤ t ∧ t ≤ 9223372036854775807) (h0 : (Pl.step c p v).2.2 = 0) :
    PCall Try.prog 103 [.agg (crewC c), iV p, iV v] (.tup [.agg (crewC (Pl.step c p v).1), .agg (evC (Pl.step c p v).2.1), iV 0]) := by
  by_cases hp : 0 < (c.dq.getD (Pl.num c.dq p).toNat default).length
  · exact c_Step_p c p v hl h0 hp
  · by_cases hv : 0 < (c.dq.getD (Pl.num c.dq v).toNat default).length
    · exact c_Step_s c p v hl h0 hp hv
    · exact c_Step_i c p v hl h0 hp hv
end Go.Proofs.Ytjkkjiaeeobnkaa
end
section
set_option linter.unusedSimpArgs false
set_option linter.unusedVariables false
set_option maxRecDepth 100000
namespace Go.Proofs.Ytjkkjiaeeobnkaa
open Go.Am Go.Proofs
theorem by139 : tBytes Try.prog 139 = some 32 := by kernel_rfl
theorem el111 : tEl Try.prog 111 = some 139 := by kernel_rfl
theorem en103 : enters Try.prog 103 = true := by kernel_rfl
theorem en122 : enters Try.prog 122 = true := by kernel_rfl
set_option maxHeartbeats 4000000 in
theorem c_ref06_Drain (n g : Int) (c : Pl.Crew) (ev : List Pl.Event) (hR : Pl.Run n g c ev) (hM : Pl.most n g 0 c ev ≤ 16010) (he : ev.length ≤ 70000) : PCall Try.prog 104 [.agg (crewC c)] (.tup [.agg (crewC (Pl.rounds 20000 0 c ev).1), .seq false (((Pl.rounds 20000 0 c ev).2.1.drop ev.length).map evC), iV 0]) := by
 have hcr := hR.right (by omega)
 refine pcall_of_awp Try.func104 rfl (by simp [Try.ntmps104]) fun C hC => ?_
 refine awp_le (le_keep [0]) ?_
 simp only [kp, argSl, simprocAttr]
 refine awp_sr [63] (by rw [hC]; rfl) fun k hk => ?_
 simp (maxSteps := 9^9) (disch := (try simp only [lens]); omega) only [argSl, sm, ↓amb, mark_eq, simprocAttr, vr110, dx]
 repeat refine ⟨by first | omega | (simp; done) | (unfold maxLen; omega) | (simp [maxLen]; omega) | assumption, ?_⟩
 refine hk _ ?_; clear hk k
 refine awp_seq fun k1 h1 => ?_
 refine awp_test [63] 23 (decide (False)) [1, 2, 3, 4] (by rw [hC]; rfl) (fun gd hgd k hk => ?_) ?_
 ·have g3 : gd 3 = some 14 := by rw [hgd]; rfl
  have g7 : gd 7 = some 18 := by rw [hgd]; rfl
  clear hgd
  simp (maxSteps := 9^9) (disch := (try simp only [lens]); omega) only [argSl, sm, ↓amb, mark_eq, simprocAttr, sz110, en114, fl110_2, sz4, en122, gcase_undef, g3, g7, dx]
  repeat' first | refine hk _ _ rfl rfl rfl rfl ?_ | (refine gsplit (fun hg => ?_) (fun hg => ?_) <;> (try simp only [hbx] at hg) <;> simp (maxSteps := 9^9) (disch := (try simp only [lens]); omega) only [argSl, sm, ↓amb, mark_eq, simprocAttr, sz110, en114, fl110_2, sz4, en122, gcase_undef, g3, g7, dx]) | apply And.intro | (refine callK_p (c_ref05_Right _ (Pl.good_hl hR.gd)) rfl ?_; (try simp (maxSteps := 9^9) (disch := (try simp only [lens]); omega) only [argSl, sm, ↓amb, mark_eq, simprocAttr, sz110, en114, fl110_2, sz4, en122, gcase_undef, g3, g7, dx])) | (refine callK_p (c_ref05_Held _ hR.held.2 (by have := hR.dqlen; omega)) rfl ?_; (try simp (maxSteps := 9^9) (disch := (try simp only [lens]); omega) only [argSl, sm, ↓amb, mark_eq, simprocAttr, sz110, en114, fl110_2, sz4, en122, gcase_undef, g3, g7, dx])) | fail
  all_goals first | rfl | omega | exact (decide_eq_true (by omega)).symm | exact (decide_eq_false (by omega)).symm | exact decide_eq_decide.mpr (by omega) | (refine Bool.eq_iff_iff.mpr ?_; simp only [beq_iff_eq, bne_iff_ne, ne_eq, decide_eq_true_eq]; omega) | (refine Bool.eq_iff_iff.mpr ?_; simp only [Bool.not_eq_true', Bool.not_eq_false', decide_eq_false_iff_not, decide_eq_true_eq, beq_iff_eq, bne_iff_ne, ne_eq]; omega) | assumption | (simp; done) | (simp [maxLen]; omega) | skip
  all_goals first | exact absurd hcr (by assumption) | (have hov : ¬ c.over = true := (by rw [show c.over = false from by assumption]; decide); have hne : ¬ Pl.held c.dq = 0 := (fun q => hov (hR.held.1.2 q)); rw [beq_eq_false_iff_ne.mpr (by omega)]; rfl) | rfl | trace_state
 simp only [kp, argSl, simprocAttr, List.length_cons, List.length_nil]
 refine awp_cond rfl (fun hb => ?_) (fun hb => ?_)
 ·exact absurd hb (by simp)
 ·try simp only [hbx] at hb
  refine awp_skip ?_
  refine h1 _ ?_; clear h1 k1
  refine awp_le (le_keep [1, 2]) ?_
  simp only [kp, argSl, simprocAttr]
  refine awp_sr [63] (by rw [hC]; rfl) fun k hk => ?_
  simp (maxSteps := 9^9) (disch := (try simp only [lens]); omega) only [argSl, sm, ↓amb, mark_eq, simprocAttr, dx]
  repeat refine ⟨by first | omega | (simp; done) | (unfold maxLen; omega) | (simp [maxLen]; omega) | assumption, ?_⟩
  refine hk _ ?_; clear hk k
  refine awp_le (le_keep [1, 2, 5]) ?_
  simp only [kp, argSl, simprocAttr]
  refine awp_own' 5 4 rfl ?_
  refine awp_sr [63] (by rw [hC]; rfl) fun k hk => ?_
  simp (maxSteps := 9^9) (disch := (try simp only [lens]); omega) only [argSl, sm, ↓amb, mark_eq, simprocAttr, dx]
  repeat refine ⟨by first | omega | (simp; done) | (unfold maxLen; omega) | (simp [maxLen]; omega) | assumption, ?_⟩
  refine hk _ ?_; clear hk k
  refine awp_block ?_
  refine awp_loop (σ := Nat × Pl.Crew × List Pl.Event) (fun x => Pl.Run n g x.2.1 (ev ++ x.2.2) ∧ x.2.1.dq.length = c.dq.length ∧ Pl.rounds (20000 - (x.1 * c.dq.length)) (x.1 * c.dq.length) x.2.1 (ev ++ x.2.2) = (Pl.rounds 20000 0 c ev) ∧ Pl.most n g (x.1 * c.dq.length) x.2.1 (ev ++ x.2.2) + (((x.1 * c.dq.length) : Nat) : Int) ≤ 16010 ∧ (ev ++ x.2.2).length = ev.length + (x.1 * c.dq.length)) (fun x => ⟨[(1, (.ptr 0 7 0 0)), (2, (.ptr 1 7 0 0)), (5, (.own 2)), (6, (.p (iV (x.1 : Int))))], [(0, (.row 7 [[.p (.seq false (x.2.1.work.ts.map taskC)), .p (iV x.2.1.work.grain), .p (.seq false (x.2.1.work.done.map fun b => [bV b])), .p (.seq false (x.2.1.dq.map lV)), .p (bV x.2.1.over), .p (iV x.2.1.steps), .p (iV x.2.1.idle)]])), (1, (.row 7 [[.p (.seq true []), .p (iV 0), .p (.seq true []), .p (.seq true []), .p (bV false), .p (iV 0), .p (iV 0)]])), (2, (.row 4 (lift (x.2.2.map evC))))], 1⟩) (fun x => 16011 - x.1 * c.dq.length) (0, c, []) ?_ ?_ fun x hx => ?_
  ·dsimp only; rw [Nat.zero_mul, List.append_nil]; exact ⟨hR, rfl, rfl, by omega, by omega⟩
  ·exact le_of [(0, _), (1, _), (2, _)] (by rfl) (by rfl) ⟨⟨_, rfl, .ptr rfl⟩, ⟨_, rfl, .ptr rfl⟩, ⟨_, rfl, .own rfl⟩, ⟨_, rfl, .p (.of_eq (by first | rfl | (simp only [PV.lit.injEq, Value.int.injEq, true_and]; omega) | (simp; done) | (simp; omega)))⟩, trivial⟩ ⟨⟨_, rfl, _, rfl, .one (.cons (.p (.refl _)) (.cons (.p (.refl _)) (.cons (.p (.refl _)) (.cons (.p (.refl _)) (.cons (.p (.refl _)) (.cons (.p (.refl _)) (.cons (.p (.refl _)) (.nil))))))))⟩, ⟨_, rfl, _, rfl, .one (.cons (.p (.refl _)) (.cons (.p (.refl _)) (.cons (.p (.refl _)) (.cons (.p (.refl _)) (.cons (.p (.refl _)) (.cons (.p (.refl _)) (.cons (.p (.refl _)) (.nil))))))))⟩, ⟨_, rfl, _, rfl, .liftE (by first | rfl | (rw [List.map_append]; rfl))⟩, trivial⟩
  obtain ⟨r, c1, m1⟩ := x
  obtain ⟨hR1, hRw, hRr, hRm, hRe⟩ := hx
  dsimp only at hR1 hRw hRr hRm hRe
  refine awp_seq fun k3 h3 => ?_
  refine awp_block ?_
  refine awp_le (le_keep [0, 1, 2, 3, 4, 5, 6]) ?_
  simp only [kp, argSl, simprocAttr]
  refine awp_sr [63] (by rw [hC]; rfl) fun k hk => ?_
  simp (maxSteps := 9^9) (disch := (try simp only [lens]); omega) only [argSl, sm, ↓amb, mark_eq, simprocAttr, dx]
  repeat refine ⟨by first | omega | (simp; done) | (unfold maxLen; omega) | (simp [maxLen]; omega) | assumption, ?_⟩
  refine hk _ ?_; clear hk k
  refine awp_block ?_
  refine awp_loop (σ := Nat × Pl.Crew × List Pl.Event) (fun x => x.1 ≤ c.dq.length ∧ Pl.Run n g x.2.1 (ev ++ x.2.2) ∧ x.2.1.dq.length = c.dq.length ∧ Pl.rounds (20000 - (r * c.dq.length + x.1)) (r * c.dq.length + x.1) x.2.1 (ev ++ x.2.2) = (Pl.rounds 20000 0 c ev) ∧ Pl.most n g (r * c.dq.length + x.1) x.2.1 (ev ++ x.2.2) + (((r * c.dq.length + x.1) : Nat) : Int) ≤ 16010 ∧ (ev ++ x.2.2).length = ev.length + (r * c.dq.length + x.1)) (fun x => ⟨[(1, (.ptr 0 7 0 0)), (2, (.ptr 1 7 0 0)), (5, (.own 2)), (6, (.p (iV (r : Int)))), (7, (.p (iV (x.1 : Int))))], [(0, (.row 7 [[.p (.seq false (x.2.1.work.ts.map taskC)), .p (iV x.2.1.work.grain), .p (.seq false (x.2.1.work.done.map fun b => [bV b])), .p (.seq false (x.2.1.dq.map lV)), .p (bV x.2.1.over), .p (iV x.2.1.steps), .p (iV x.2.1.idle)]])), (1, (.row 7 [[.p (.seq true []), .p (iV 0), .p (.seq true []), .p (.seq true []), .p (bV false), .p (iV 0), .p (iV 0)]])), (2, (.row 4 (lift (x.2.2.map evC))))], 1⟩) (fun x => c.dq.length - x.1) (0, c1, m1) ?_ ?_ fun x hx => ?_
  ·dsimp only; rw [Nat.add_zero]; exact ⟨Nat.zero_le _, hR1, hRw, hRr, hRm, hRe⟩
  ·exact le_of [(0, _), (1, _), (2, _)] (by rfl) (by rfl) ⟨⟨_, rfl, .ptr rfl⟩, ⟨_, rfl, .ptr rfl⟩, ⟨_, rfl, .own rfl⟩, ⟨_, rfl, .p (.of_eq (by first | rfl | (simp only [PV.lit.injEq, Value.int.injEq, true_and]; omega) | (simp; done) | (simp; omega)))⟩, ⟨_, rfl, .p (.of_eq (by first | rfl | (simp only [PV.lit.injEq, Value.int.injEq, true_and]; omega) | (simp; done) | (simp; omega)))⟩, trivial⟩ ⟨⟨_, rfl, _, rfl, .one (.cons (.p (.refl _)) (.cons (.p (.refl _)) (.cons (.p (.refl _)) (.cons (.p (.refl _)) (.cons (.p (.refl _)) (.cons (.p (.refl _)) (.cons (.p (.refl _)) (.nil))))))))⟩, ⟨_, rfl, _, rfl, .one (.cons (.p (.refl _)) (.cons (.p (.refl _)) (.cons (.p (.refl _)) (.cons (.p (.refl _)) (.cons (.p (.refl _)) (.cons (.p (.refl _)) (.cons (.p (.refl _)) (.nil))))))))⟩, ⟨_, rfl, _, rfl, .liftE (by first | rfl | (rw [List.map_append]; rfl))⟩, trivial⟩
  obtain ⟨p, c2, m2⟩ := x
  obtain ⟨hp1, hR2, hR3, hR4, hR5, hR6⟩ := hx
  dsimp only at hp1 hR2 hR3 hR4 hR5 hR6
  have hdl := hR1.dqlen
  have hm0 := hR1.most_0 (k := r * c.dq.length) (r := r) (by rw [hRw])
  have hrr : r ≤ r * c.dq.length := Nat.le_mul_of_pos_right r (by omega)
  have hml : m2.length = r * c.dq.length + p := by rw [List.length_append] at hR6; omega
  refine awp_seq fun k5 h5 => ?_
  refine awp_le (le_keep [0, 1, 2, 3, 4, 5, 6, 7]) ?_
  simp only [kp, argSl, simprocAttr]
  refine awp_sr [63] (by rw [hC]; rfl) fun k hk => ?_
  simp (maxSteps := 9^9) (disch := (try simp only [lens]); omega) only [argSl, sm, ↓amb, mark_eq, simprocAttr, fl110_1, sz108, el108, dx]
  repeat refine ⟨by first | omega | (simp; done) | (unfold maxLen; omega) | (simp [maxLen]; omega) | assumption, ?_⟩
  refine hk _ ?_; clear hk k
  refine awp_cond rfl (fun hb => ?_) (fun hb => ?_)
  ·try simp only [hbx] at hb
   refine awp_skip ?_
   refine h5 _ ?_; clear h5 k5
   refine awp_seq fun k6 h6 => ?_
   refine awp_block ?_
   refine awp_seq fun k7 h7 => ?_
   refine awp_le (le_keep [0, 1, 2, 3, 4, 5, 6, 7]) ?_
   simp only [kp, argSl, simprocAttr]
   refine awp_sr [63] (by rw [hC]; rfl) fun k hk => ?_
   simp (maxSteps := 9^9) (disch := (try simp only [lens]); omega) only [argSl, sm, ↓amb, mark_eq, simprocAttr, fl110_2, sz4, dx]
   repeat refine ⟨by first | omega | (simp; done) | (unfold maxLen; omega) | (simp [maxLen]; omega) | assumption, ?_⟩
   refine hk _ ?_; clear hk k
   refine awp_cond rfl (fun hb => ?_) (fun hb => ?_)
   ·try simp only [hbx] at hb
    refine awp_le (le_keep [1, 2, 5]) ?_
    simp only [kp, argSl, simprocAttr]
    have ho := hb
    refine awp_sr [63] (by rw [hC]; rfl) fun k hk => ?_
    simp (maxSteps := 9^9) (disch := (try simp only [lens]); omega) only [argSl, sm, ↓amb, mark_eq, simprocAttr, sz110, dx]
    repeat refine ⟨by first | omega | (simp; done) | (unfold maxLen; omega) | (simp [maxLen]; omega) | assumption, ?_⟩
    refine hk _ ?_; clear hk k
    refine awp_ret ?_
    rw [Pl.rounds_over ho] at hR4
    rw [← hR4, List.drop_left]
    refine retl rfl rfl ⟨retc rfl sz110 ?_, rett rfl ?_, rett rfl ?_, trivial⟩
    simp (maxSteps := 9^9) (disch := (try simp only [lens]); omega) only [argSl, sm, ↓amb, mark_eq, simprocAttr, sz110, dx]
    ·exact .p (LeP.refl _)
    ·exact .ownE rfl rfl
    ·exact .p (LeP.refl _)
   ·try simp only [hbx] at hb
    refine awp_skip ?_
    refine h7 _ ?_; clear h7 k7
    refine awp_seq fun k8 h8 => ?_
    refine awp_le (le_keep [0, 1, 2, 3, 4, 5, 6, 7]) ?_
    simp only [kp, argSl, simprocAttr]
    have ho : ¬ c2.over = true := by simp [hb]
    refine awp_sr [63] (by rw [hC]; rfl) fun k hk => ?_
    simp (maxSteps := 9^9) (disch := (try simp only [lens]); omega) only [argSl, sm, ↓amb, mark_eq, simprocAttr, sz110, en122, dx]
    repeat refine ⟨by first | omega | (simp; done) | (unfold maxLen; omega) | (simp [maxLen]; omega) | assumption, ?_⟩
    refine callK_p (c_ref05_Held _ hR2.held.2 (by have := hR2.dqlen; omega)) rfl ?_
    simp (maxSteps := 9^9) (disch := (try simp only [lens]); omega) only [argSl, sm, ↓amb, mark_eq, simprocAttr, sz110, en122, dx]
    repeat refine ⟨by first | omega | (simp; done) | (unfold maxLen; omega) | (simp [maxLen]; omega) | assumption, ?_⟩
    refine hk _ ?_; clear hk k
    refine awp_cond rfl (fun hb => ?_) (fun hb => ?_)
    ·exact absurd (hR2.held.1.2 (by have := beq_iff_eq.mp hb; omega)) ho
    ·try simp only [hbx] at hb
     refine awp_skip ?_
     refine h8 _ ?_; clear h8 k8
     refine awp_le (le_keep [0, 1, 2, 3, 4, 5, 6, 7]) ?_
     simp only [kp, argSl, simprocAttr]
     have hh : ¬ Pl.held c2.dq = 0 := by omega
     have hk1 := (hR2.most_pos (r * c.dq.length + p) ho).1
     obtain ⟨hs1, hs2⟩ := hR2.step (by omega) p (p + 1 + r)
     have hs3 := Pl.rounds_on (f := 20000) (k := r * c.dq.length + p) (W := c.dq.length) (r := r) (p := p) (ev := ev ++ m2) hR3 (by omega) rfl ho hh hs1 (by omega)
     have hs4 := hR2.most_on (by omega) (W := c.dq.length) (r := r) (p := p) hR3 (by omega) rfl ho
     refine awp_sr [63] (by rw [hC]; rfl) fun k hk => ?_
     simp (maxSteps := 9^9) (disch := (try simp only [lens]); omega) only [argSl, sm, ↓amb, mark_eq, simprocAttr, sz110, en103, vr110, vr139, sz139, dx]
     repeat refine ⟨by first | omega | (simp; done) | (unfold maxLen; omega) | (simp [maxLen]; omega) | assumption, ?_⟩
     refine callK_p (c_ref05_Step c2 p (p + 1 + r) (Pl.good_hl hR2.gd) hs1) rfl ?_
     simp (maxSteps := 9^9) (disch := (try simp only [lens]); omega) only [argSl, sm, ↓amb, mark_eq, simprocAttr, sz110, en103, vr110, vr139, sz139, dx]
     repeat refine ⟨by first | omega | (simp; done) | (unfold maxLen; omega) | (simp [maxLen]; omega) | assumption, ?_⟩
     refine hk _ ?_; clear hk k
     refine awp_seq fun k9 h9 => ?_
     refine awp_le (le_keep [0, 1, 2, 3, 4, 5, 6, 7, 8, 9, 10]) ?_
     simp only [kp, argSl, simprocAttr]
     refine awp_sr [63] (by rw [hC]; rfl) fun k hk => ?_
     simp (maxSteps := 9^9) (disch := (try simp only [lens]); omega) only [argSl, sm, ↓amb, mark_eq, simprocAttr, dx]
     repeat refine ⟨by first | omega | (simp; done) | (unfold maxLen; omega) | (simp [maxLen]; omega) | assumption, ?_⟩
     refine hk _ ?_; clear hk k
     refine awp_cond rfl (fun hb => ?_) (fun hb => ?_)
     ·exact absurd hb (by simp)
     ·try simp only [hbx] at hb
      refine awp_skip ?_
      refine h9 _ ?_; clear h9 k9
      refine awp_draw [63] ⟨[0, 0, 0, 4, 14, 31, 63], [], [4, 5], [(4, 5)], some [0, 2]⟩ (by rw [hC]; rfl) (by kernel_rfl) (by kernel_rfl) fun k hk => ?_
      simp (maxSteps := 9^9) (disch := (try simp only [lens]); omega) only [argSl, sm, ↓amb, mark_eq, simprocAttr, sz110, sz139, el111, vr139, by139, dx]
      repeat refine ⟨by first | omega | (simp; done) | (unfold maxLen; omega) | (simp [maxLen]; omega) | assumption, ?_⟩
      refine hk _ ?_; clear hk k
      refine h6 _ ?_; clear h6 k6
      refine awp_region [63] (by rw [hC]; rfl) fun k hk => ?_
      simp (maxSteps := 9^9) (disch := (try simp only [lens]); omega) only [argSl, sm, ↓amb, mark_eq, simprocAttr, dx]
      repeat refine ⟨by first | omega | (simp; done) | (unfold maxLen; omega) | (simp [maxLen]; omega) | assumption, ?_⟩
      refine hk _ ?_; clear hk k
      refine ⟨(p + 1, (Pl.step c2 p (p + 1 + r)).1, m2 ++ [(Pl.step c2 p (p + 1 + r)).2.1]), (by dsimp only; rw [← Nat.add_assoc, ← List.append_assoc]; exact ⟨by omega, hs2, by rw [Pl.step_dqlen]; exact hR3, by rw [← hs3]; exact hR4, by omega, by rw [List.length_append, List.length_singleton]; omega⟩), le_of [(0, _), (1, _), (2, _)] (by rfl) (by rfl) ⟨⟨_, rfl, .ptr rfl⟩, ⟨_, rfl, .ptr rfl⟩, ⟨_, rfl, .own rfl⟩, ⟨_, rfl, .p (.of_eq (by first | rfl | (simp only [PV.lit.injEq, Value.int.injEq, true_and]; omega) | (simp; done) | (simp; omega)))⟩, ⟨_, rfl, .p (.of_eq (by first | rfl | (simp only [PV.lit.injEq, Value.int.injEq, true_and]; omega) | (simp; done) | (simp; omega)))⟩, trivial⟩ ⟨⟨_, rfl, _, rfl, .one (.cons (.p (.refl _)) (.cons (.p (.refl _)) (.cons (.p (.refl _)) (.cons (.p (.refl _)) (.cons (.p (.refl _)) (.cons (.p (.refl _)) (.cons (.p (.refl _)) (.nil))))))))⟩, ⟨_, rfl, _, rfl, .one (.cons (.p (.refl _)) (.cons (.p (.refl _)) (.cons (.p (.refl _)) (.cons (.p (.refl _)) (.cons (.p (.refl _)) (.cons (.p (.refl _)) (.cons (.p (.refl _)) (.nil))))))))⟩, ⟨_, rfl, _, rfl, .liftE (by first | rfl | (rw [List.map_append]; rfl))⟩, trivial⟩, (by dsimp only; omega)⟩
  ·try simp only [hbx] at hb
   refine awp_exit ((if_pos rfl).mpr ?_)
   refine h3 _ ?_; clear h5 k5; clear h3 k3
   have hp2 : r * c.dq.length + p = r * c.dq.length + c.dq.length := by omega
   refine awp_region [63] (by rw [hC]; rfl) fun k hk => ?_
   simp (maxSteps := 9^9) (disch := (try simp only [lens]); omega) only [argSl, sm, ↓amb, mark_eq, simprocAttr, dx]
   repeat refine ⟨by first | omega | (simp; done) | (unfold maxLen; omega) | (simp [maxLen]; omega) | assumption, ?_⟩
   refine hk _ ?_; clear hk k
   refine ⟨(r + 1, c2, m2), (by dsimp only; rw [Nat.add_mul, Nat.one_mul]; rw [hp2] at hR4 hR5 hR6; exact ⟨hR2, hR3, hR4, hR5, hR6⟩), le_of [(0, _), (1, _), (2, _)] (by rfl) (by rfl) ⟨⟨_, rfl, .ptr rfl⟩, ⟨_, rfl, .ptr rfl⟩, ⟨_, rfl, .own rfl⟩, ⟨_, rfl, .p (.of_eq (by first | rfl | (simp only [PV.lit.injEq, Value.int.injEq, true_and]; omega) | (simp; done) | (simp; omega)))⟩, trivial⟩ ⟨⟨_, rfl, _, rfl, .one (.cons (.p (.refl _)) (.cons (.p (.refl _)) (.cons (.p (.refl _)) (.cons (.p (.refl _)) (.cons (.p (.refl _)) (.cons (.p (.refl _)) (.cons (.p (.refl _)) (.nil))))))))⟩, ⟨_, rfl, _, rfl, .one (.cons (.p (.refl _)) (.cons (.p (.refl _)) (.cons (.p (.refl _)) (.cons (.p (.refl _)) (.cons (.p (.refl _)) (.cons (.p (.refl _)) (.cons (.p (.refl _)) (.nil))))))))⟩, ⟨_, rfl, _, rfl, .liftE (by first | rfl | (rw [List.map_append]; rfl))⟩, trivial⟩, (by dsimp only; rw [Nat.add_mul, Nat.one_mul]; have := hR1.most_0 (k := r * c.dq.length) (r := r) (by rw [hRw]); have := hR1.dqlen; omega)⟩
end Go.Proofs.Ytjkkjiaeeobnkaa
end
section
set_option linter.unusedSimpArgs false
set_option linter.unusedVariables false
set_option maxRecDepth 100000
namespace Go.Proofs.Ytjkkjiaeeobnkaa
open Go.Am Go.Proofs
theorem ar93 : tArr Try.prog 93 = some (2, 1, false) := by kernel_rfl
theorem el49 : tEl Try.prog 49 = some 93 := by kernel_rfl
theorem el93 : tEl Try.prog 93 = none := by kernel_rfl
theorem en104 : enters Try.prog 104 = true := by kernel_rfl
theorem en89 : enters Try.prog 89 = true := by kernel_rfl
theorem sz93 : tSz Try.prog 93 = some (true, 2) := by kernel_rfl
set_option maxHeartbeats 4000000 in
theorem c_ref06_Whole (cp : Bool) (n g w : Int) (P : List (Int × Int)) (hok : Pl.bdOk n g w) (hP : P.length ≤ 70000) : PCall Try.prog 80 [iV n, iV g, iV w, picksV cp P] (.tup [.agg (crewC (Pl.whole n g w P).1), .seq false ((Pl.whole n g w P).2.1.map evC), iV 0]) := by
 obtain ⟨hcn, hww⟩ := hok
 obtain ⟨b0, b1, b2, b3, b4, b5, b6⟩ := Pl.picked_ok (P := P) hcn hww hP
 have hcn' := hcn
 unfold Pl.cnt at hcn'
 refine pcall_of_awp Try.func80 rfl (by simp [Try.ntmps80]) fun C hC => ?_
 refine awp_le (le_keep [0, 1, 2, 3]) ?_
 simp only [kp, argSl, simprocAttr]
 refine awp_sr [66, 76] (by rw [hC]; rfl) fun k hk => ?_
 simp (maxSteps := 9^9) (disch := (try simp only [lens]); omega) only [argSl, sm, ↓amb, mark_eq, simprocAttr, vr110, dx]
 repeat refine ⟨by first | omega | (simp; done) | (unfold maxLen; omega) | (simp [maxLen]; omega) | assumption, ?_⟩
 refine hk _ ?_; clear hk k
 refine awp_le (le_keep [0, 1, 2, 3, 8]) ?_
 simp only [kp, argSl, simprocAttr]
 refine awp_sr [66, 76] (by rw [hC]; rfl) fun k hk => ?_
 simp (maxSteps := 9^9) (disch := (try simp only [lens]); omega) only [argSl, sm, ↓amb, mark_eq, simprocAttr, en89, vr110, sz110, dx]
 repeat refine ⟨by first | omega | (simp; done) | (unfold maxLen; omega) | (simp [maxLen]; omega) | assumption, ?_⟩
 refine callK_p (c_ref05_Begin _ _ _ (by omega)) rfl ?_
 simp (maxSteps := 9^9) (disch := (try simp only [lens]); omega) only [argSl, sm, ↓amb, mark_eq, simprocAttr, en89, vr110, sz110, dx]
 repeat refine ⟨by first | omega | (simp; done) | (unfold maxLen; omega) | (simp [maxLen]; omega) | assumption, ?_⟩
 refine hk _ ?_; clear hk k
 refine awp_seq fun k1 h1 => ?_
 refine awp_le (le_keep [3, 8, 9, 10, 11, 12]) ?_
 simp only [kp, argSl, simprocAttr]
 rw [b0]
 refine awp_sr [66, 76] (by rw [hC]; rfl) fun k hk => ?_
 simp (maxSteps := 9^9) (disch := (try simp only [lens]); omega) only [argSl, sm, ↓amb, mark_eq, simprocAttr, dx]
 repeat refine ⟨by first | omega | (simp; done) | (unfold maxLen; omega) | (simp [maxLen]; omega) | assumption, ?_⟩
 refine hk _ ?_; clear hk k
 refine awp_cond rfl (fun hb => ?_) (fun hb => ?_)
 ·exact absurd hb (by simp)
 ·try simp only [hbx] at hb
  refine awp_skip ?_
  refine h1 _ ?_; clear h1 k1
  refine awp_le (le_keep [3, 8, 11]) ?_
  simp only [kp, argSl, simprocAttr]
  refine awp_sr [66, 76] (by rw [hC]; rfl) fun k hk => ?_
  simp (maxSteps := 9^9) (disch := (try simp only [lens]); omega) only [argSl, sm, ↓amb, mark_eq, simprocAttr, dx]
  repeat refine ⟨by first | omega | (simp; done) | (unfold maxLen; omega) | (simp [maxLen]; omega) | assumption, ?_⟩
  refine hk _ ?_; clear hk k
  refine awp_seq fun k2 h2 => ?_
  refine awp_le (le_keep [3, 8, 9, 10, 11, 13]) ?_
  simp only [kp, argSl, simprocAttr]
  refine awp_own' 13 4 rfl ?_
  refine awp_sr [66, 76] (by rw [hC]; rfl) fun k hk => ?_
  simp (maxSteps := 9^9) (disch := (try simp only [lens]); omega) only [argSl, sm, ↓amb, mark_eq, simprocAttr, dx]
  repeat refine ⟨by first | omega | (simp; done) | (unfold maxLen; omega) | (simp [maxLen]; omega) | assumption, ?_⟩
  refine hk _ ?_; clear hk k
  refine awp_block ?_
  refine awp_loop (σ := Nat × Pl.Crew × List Pl.Event) (fun x => x.1 ≤ P.length ∧ Pl.Run n g x.2.1 x.2.2 ∧ Pl.picked (P.drop x.1) x.2.1 x.2.2 = (Pl.picked P (Pl.crewBegin n g w).1 []) ∧ x.2.2.length ≤ x.1) (fun x => ⟨[(3, (.p (picksV cp P))), (8, (.ptr 0 7 0 0)), (11, (.ptr 1 7 0 0)), (13, (.own 2)), (14, (.p (iV (x.1 : Int))))], [(0, (.row 7 [[.p (.seq true []), .p (iV 0), .p (.seq true []), .p (.seq true []), .p (bV false), .p (iV 0), .p (iV 0)]])), (1, (.row 7 [[.p (.seq false (x.2.1.work.ts.map taskC)), .p (iV x.2.1.work.grain), .p (.seq false (x.2.1.work.done.map fun b => [bV b])), .p (.seq false (x.2.1.dq.map lV)), .p (bV x.2.1.over), .p (iV x.2.1.steps), .p (iV x.2.1.idle)]])), (2, (.row 4 (lift (x.2.2.map evC))))], 1⟩) (fun x => P.length - x.1) (0, (Pl.crewBegin n g w).1, []) ?_ ?_ fun x hx => ?_
  ·exact ⟨Nat.zero_le _, b1, rfl, Nat.le_refl _⟩
  ·exact le_of [(0, _), (1, _), (2, _)] (by rfl) (by rfl) ⟨⟨_, rfl, .p (.of_eq (by first | rfl | (simp only [PV.lit.injEq, Value.int.injEq, true_and]; omega) | (simp; done) | (simp; omega)))⟩, ⟨_, rfl, .ptr rfl⟩, ⟨_, rfl, .ptr rfl⟩, ⟨_, rfl, .own rfl⟩, ⟨_, rfl, .p (.of_eq (by first | rfl | (simp only [PV.lit.injEq, Value.int.injEq, true_and]; omega) | (simp; done) | (simp; omega)))⟩, trivial⟩ ⟨⟨_, rfl, _, rfl, .one (.cons (.p (.refl _)) (.cons (.p (.refl _)) (.cons (.p (.refl _)) (.cons (.p (.refl _)) (.cons (.p (.refl _)) (.cons (.p (.refl _)) (.cons (.p (.refl _)) (.nil))))))))⟩, ⟨_, rfl, _, rfl, .one (.cons (.p (.refl _)) (.cons (.p (.refl _)) (.cons (.p (.refl _)) (.cons (.p (.refl _)) (.cons (.p (.refl _)) (.cons (.p (.refl _)) (.cons (.p (.refl _)) (.nil))))))))⟩, ⟨_, rfl, _, rfl, .liftE (by first | rfl | (rw [List.map_append]; rfl))⟩, trivial⟩
  obtain ⟨i, c, ev⟩ := x
  obtain ⟨hi, hR, hK, hel⟩ := hx
  dsimp only at hi hR hK hel
  refine awp_seq fun k4 h4 => ?_
  refine awp_test [66, 76] 38 (decide ((i : Int) < P.length ∧ ¬ c.over = true)) [0, 1, 2, 3, 8, 9, 10, 11, 13, 14] (by rw [hC]; rfl) (fun gd hgd k hk => ?_) ?_
  ·have g4 : gd 4 = some 34 := by rw [hgd]; rfl
   clear hgd
   simp (maxSteps := 9^9) (disch := (try simp only [lens]); omega) only [argSl, sm, ↓amb, mark_eq, simprocAttr, el49, fl110_2, sz4, gcase_undef, g4, dx]
   repeat' first | refine hk _ _ rfl rfl rfl rfl ?_ | (refine gsplit (fun hg => ?_) (fun hg => ?_) <;> (try simp only [hbx] at hg) <;> simp (maxSteps := 9^9) (disch := (try simp only [lens]); omega) only [argSl, sm, ↓amb, mark_eq, simprocAttr, el49, fl110_2, sz4, gcase_undef, g4, dx]) | apply And.intro | fail
   all_goals first | rfl | omega | exact (decide_eq_true (by omega)).symm | exact (decide_eq_false (by omega)).symm | exact decide_eq_decide.mpr (by omega) | (refine Bool.eq_iff_iff.mpr ?_; simp only [beq_iff_eq, bne_iff_ne, ne_eq, decide_eq_true_eq]; omega) | (refine Bool.eq_iff_iff.mpr ?_; simp only [Bool.not_eq_true', Bool.not_eq_false', decide_eq_false_iff_not, decide_eq_true_eq, beq_iff_eq, bne_iff_ne, ne_eq]; omega) | assumption | (simp; done) | (simp [maxLen]; omega) | skip
   all_goals first | (refine Bool.eq_iff_iff.mpr ?_; simp_all; done) | (refine (decide_eq_false ?_).symm; omega) | (refine (decide_eq_false ?_); omega) | trace_state
  simp only [kp, argSl, simprocAttr, List.length_cons, List.length_nil]
  refine awp_cond rfl (fun hb => ?_) (fun hb => ?_)
  ·try simp only [hbx] at hb
   refine awp_skip ?_
   refine h4 _ ?_; clear h4 k4
   refine awp_seq fun k5 h5 => ?_
   refine awp_block ?_
   refine awp_le (le_keep [0, 1, 2, 3, 8, 9, 10, 11, 13, 14]) ?_
   simp only [kp, argSl, simprocAttr]
   have ho : ¬ c.over = true := by simp [hb.2]
   obtain ⟨hs1, hs2⟩ := hR.step (by omega) (P.getD i default).1 (P.getD i default).2
   have hs3 := Pl.picked_on (l := ev) (P := P) (i := i) (by omega) ho hs1
   refine awp_sd [66, 76] ⟨[0, 0, 0, 6, 14, 30, 0, 0, 192, 448, 960, 2047, 4095, 8191, 8191, 8191, 0, 0, 212991, 491519, 1048575], [0, 5, 10], [18, 19], [(11, 18), (16, 18), (17, 18), (11, 19), (16, 19), (17, 19)], none⟩ (by rw [hC]; rfl) (by kernel_rfl) (by kernel_rfl) fun k hk => ?_
   simp (maxSteps := 9^9) (disch := (try simp only [lens]); omega) only [argSl, sm, ↓amb, mark_eq, simprocAttr, sz110, el49, sz93, el93, ar93, sz3, en103, vr110, vr139, sz139, dx]
   repeat refine ⟨by first | omega | (simp; done) | (unfold maxLen; omega) | (simp [maxLen]; omega) | assumption, ?_⟩
   refine callK_p (c_ref05_Step c (P.getD i default).1 (P.getD i default).2 (Pl.good_hl hR.gd) hs1) rfl ?_
   simp (maxSteps := 9^9) (disch := (try simp only [lens]); omega) only [argSl, sm, ↓amb, mark_eq, simprocAttr, sz110, el49, sz93, el93, ar93, sz3, en103, vr110, vr139, sz139, dx]
   repeat refine ⟨by first | omega | (simp; done) | (unfold maxLen; omega) | (simp [maxLen]; omega) | assumption, ?_⟩
   refine hk _ ?_; clear hk k
   refine awp_seq fun k6 h6 => ?_
   refine awp_le (le_keep [0, 1, 2, 3, 8, 9, 10, 11, 13, 14, 15, 16, 17]) ?_
   simp only [kp, argSl, simprocAttr]
   refine awp_sr [66, 76] (by rw [hC]; rfl) fun k hk => ?_
   simp (maxSteps := 9^9) (disch := (try simp only [lens]); omega) only [argSl, sm, ↓amb, mark_eq, simprocAttr, dx]
   repeat refine ⟨by first | omega | (simp; done) | (unfold maxLen; omega) | (simp [maxLen]; omega) | assumption, ?_⟩
   refine hk _ ?_; clear hk k
   refine awp_cond rfl (fun hb => ?_) (fun hb => ?_)
   ·exact absurd hb (by simp)
   ·try simp only [hbx] at hb
    refine awp_skip ?_
    refine h6 _ ?_; clear h6 k6
    refine awp_draw [66, 76] ⟨[0, 0, 0, 4, 14, 31, 63], [], [4, 5], [(4, 5)], some [1, 2]⟩ (by rw [hC]; rfl) (by kernel_rfl) (by kernel_rfl) fun k hk => ?_
    simp (maxSteps := 9^9) (disch := (try simp only [lens]); omega) only [argSl, sm, ↓amb, mark_eq, simprocAttr, sz110, sz139, el111, vr139, by139, dx]
    repeat refine ⟨by first | omega | (simp; done) | (unfold maxLen; omega) | (simp [maxLen]; omega) | assumption, ?_⟩
    refine hk _ ?_; clear hk k
    refine h5 _ ?_; clear h5 k5
    refine awp_region [66, 76] (by rw [hC]; rfl) fun k hk => ?_
    simp (maxSteps := 9^9) (disch := (try simp only [lens]); omega) only [argSl, sm, ↓amb, mark_eq, simprocAttr, dx]
    repeat refine ⟨by first | omega | (simp; done) | (unfold maxLen; omega) | (simp [maxLen]; omega) | assumption, ?_⟩
    refine hk _ ?_; clear hk k
    refine ⟨(i + 1, (Pl.step c (P.getD i default).1 (P.getD i default).2).1, ev ++ [(Pl.step c (P.getD i default).1 (P.getD i default).2).2.1]), ⟨by dsimp only; omega, hs2, by rw [← hK, hs3], by simp; omega⟩, le_of [(0, _), (1, _), (2, _)] (by rfl) (by rfl) ⟨⟨_, rfl, .p (.of_eq (by first | rfl | (simp only [PV.lit.injEq, Value.int.injEq, true_and]; omega) | (simp; done) | (simp; omega)))⟩, ⟨_, rfl, .ptr rfl⟩, ⟨_, rfl, .ptr rfl⟩, ⟨_, rfl, .own rfl⟩, ⟨_, rfl, .p (.of_eq (by first | rfl | (simp only [PV.lit.injEq, Value.int.injEq, true_and]; omega) | (simp; done) | (simp; omega)))⟩, trivial⟩ ⟨⟨_, rfl, _, rfl, .one (.cons (.p (.refl _)) (.cons (.p (.refl _)) (.cons (.p (.refl _)) (.cons (.p (.refl _)) (.cons (.p (.refl _)) (.cons (.p (.refl _)) (.cons (.p (.refl _)) (.nil))))))))⟩, ⟨_, rfl, _, rfl, .one (.cons (.p (.refl _)) (.cons (.p (.refl _)) (.cons (.p (.refl _)) (.cons (.p (.refl _)) (.cons (.p (.refl _)) (.cons (.p (.refl _)) (.cons (.p (.refl _)) (.nil))))))))⟩, ⟨_, rfl, _, rfl, .liftE (by first | rfl | (rw [List.map_append]; rfl))⟩, trivial⟩, by dsimp only; omega⟩
  ·try simp only [hbx] at hb
   refine awp_exit ((if_pos rfl).mpr ?_)
   refine h2 _ ?_; clear h4 k4; clear h2 k2
   refine awp_le (le_keep [8, 11, 13]) ?_
   simp only [kp, argSl, simprocAttr]
   have he0 : (Pl.picked P (Pl.crewBegin n g w).1 []) = (c, ev, 0) := by
    rw [← hK]
    by_cases hov : c.over = true
    ·exact Pl.picked_over _ hov
    ·exact Pl.picked_nil (Nat.le_of_not_lt fun q => hb ⟨by omega, by simpa using hov⟩)
   have hM : Pl.most n g 0 c ev ≤ 16010 := by rw [he0] at b5; exact b5
   have hW : (Pl.whole n g w P) = Pl.rounds 20000 0 c ev := by rw [b6, he0]
   rw [hW]
   have hrl : (Pl.rounds 20000 0 c ev).2.1.length - ev.length ≤ 1000000 := by
    have h1 := (Pl.whole_ok (P := P) hcn hww hP).2.2.2.2.2.1
    have h2 := Pl.bd_nn ⟨hcn, hww⟩
    rw [hW] at h1; rw [Int.mul_add, Int.mul_comm w] at h2; omega
   have hall : ∀ y, y ∈ List.map evC ((Pl.rounds 20000 0 c ev).2.1.drop ev.length) → y.length = 4 := fun y hy => by
    obtain ⟨e, _, rfl⟩ := List.mem_map.1 hy; rfl
   refine awp_sr [66, 76] (by rw [hC]; rfl) fun k hk => ?_
   simp (maxSteps := 9^9) (disch := (try simp only [lens]); omega) only [argSl, sm, ↓amb, mark_eq, simprocAttr, sz110, en104, dx]
   repeat refine ⟨by first | omega | (simp; done) | (unfold maxLen; omega) | (simp [maxLen]; omega) | assumption, ?_⟩
   refine callK_p (c_ref06_Drain n g c ev hR hM (by omega)) rfl ?_
   simp (maxSteps := 9^9) (disch := (try simp only [lens]); omega) only [argSl, sm, ↓amb, mark_eq, simprocAttr, sz110, en104, dx]
   repeat refine ⟨by first | omega | (simp; done) | (unfold maxLen; omega) | (simp [maxLen]; omega) | assumption, ?_⟩
   refine hk _ ?_; clear hk k
   refine awp_le (le_keep [8, 11, 12, 13, 18]) ?_
   simp only [kp, argSl, simprocAttr]
   refine awp_sd [66, 76] ⟨[0, 0, 0, 6, 0, 15, 47, 127], [], [3, 5], [(3, 5)], some [0, 2]⟩ (by rw [hC]; rfl) (by kernel_rfl) (by kernel_rfl) fun k hk => ?_
   simp (maxSteps := 9^9) (disch := (try simp only [lens]); omega) only [argSl, sm, ↓amb, mark_eq, simprocAttr, sz110, el111, vr139, by139, dx]
   repeat refine ⟨by first | omega | (simp; done) | (unfold maxLen; omega) | (simp [maxLen]; omega) | assumption, ?_⟩
   refine hk _ ?_; clear hk k
   refine awp_ret ?_
   refine retl rfl rfl ⟨retc rfl sz110 ?_, rett rfl ?_, rett rfl ?_, trivial⟩
   simp (maxSteps := 9^9) (disch := (try simp only [lens]); omega) only [argSl, sm, ↓amb, mark_eq, simprocAttr, sz110, dx]
   ·exact .p (LeP.refl _)
   ·exact .ownE rfl (by rw [Pl.rounds_rest])
   ·exact .p (LeP.refl _)
end Go.Proofs.Ytjkkjiaeeobnkaa
end
section
set_option linter.unusedSimpArgs false
set_option linter.unusedVariables false
set_option maxRecDepth 100000
namespace Go.Proofs.Ytjkkjiaeeobnkaa
open Go.Am Go.Proofs
end Go.Proofs.Ytjkkjiaeeobnkaa
end
section
set_option linter.unusedSimpArgs false
set_option linter.unusedVariables false
set_option maxRecDepth 100000
namespace Go.Proofs.Ytjkkjiaeeobnkaa
open Go.Am Go.Proofs
theorem bt117 : tBuilt Try.prog 117 = true := by kernel_rfl
theorem by117 : tBytes Try.prog 117 = some 16 := by kernel_rfl
theorem el114 : tEl Try.prog 114 = some 117 := by kernel_rfl
theorem en87 : enters Try.prog 87 = true := by kernel_rfl
theorem pl117_0 : tPlace Try.prog 117 0 = some (0, 1) := by kernel_rfl
theorem pl117_1 : tPlace Try.prog 117 1 = some (1, 1) := by kernel_rfl
theorem vr117 : tVar Try.prog 117 = some (true, [.lit (.int .i64 0), .lit (.int .i64 0)]) := by kernel_rfl
theorem vr93 : tVar Try.prog 93 = some (true, [.lit (.int .i64 0), .lit (.int .i64 0)]) := by kernel_rfl
end Go.Proofs.Ytjkkjiaeeobnkaa
end
section
set_option linter.unusedSimpArgs false
set_option linter.unusedVariables false
set_option maxRecDepth 100000
namespace Go.Proofs.Ytjkkjiaeeobnkaa
open Go.Am Go.Proofs
theorem bt99 : tBuilt Try.prog 99 = true := by kernel_rfl
theorem en28 : enters Try.prog 28 = true := by kernel_rfl
theorem en30 : enters Try.prog 30 = true := by kernel_rfl
theorem en45 : enters Try.prog 45 = true := by kernel_rfl
theorem en63 : enters Try.prog 63 = true := by kernel_rfl
theorem en64 : enters Try.prog 64 = true := by kernel_rfl
theorem en65 : enters Try.prog 65 = true := by kernel_rfl
theorem en67 : enters Try.prog 67 = true := by kernel_rfl
theorem en68 : enters Try.prog 68 = true := by kernel_rfl
theorem en69 : enters Try.prog 69 = true := by kernel_rfl
theorem en70 : enters Try.prog 70 = true := by kernel_rfl
theorem en71 : enters Try.prog 71 = true := by kernel_rfl
theorem en74 : enters Try.prog 74 = true := by kernel_rfl
theorem en88 : enters Try.prog 88 = true := by kernel_rfl
theorem en90 : enters Try.prog 90 = true := by kernel_rfl
theorem fl51_0 : tFld Try.prog 51 0 = some (0, 1, false) := by kernel_rfl
theorem fl51_1 : tFld Try.prog 51 1 = some (1, 1, false) := by kernel_rfl
theorem fl51_2 : tFld Try.prog 51 2 = some (2, 1, false) := by kernel_rfl
theorem fl53_0 : tFld Try.prog 53 0 = some (0, 1, false) := by kernel_rfl
theorem fl53_1 : tFld Try.prog 53 1 = some (1, 1, false) := by kernel_rfl
theorem fl53_2 : tFld Try.prog 53 2 = some (2, 3, true) := by kernel_rfl
theorem fl99_0 : tFld Try.prog 99 0 = some (0, 5, true) := by kernel_rfl
theorem fl99_1 : tFld Try.prog 99 1 = some (5, 1, false) := by kernel_rfl
theorem pl99_0 : tPlace Try.prog 99 0 = some (0, 5) := by kernel_rfl
theorem pl99_1 : tPlace Try.prog 99 1 = some (5, 1) := by kernel_rfl
theorem sz49 : tSz Try.prog 49 = some (false, 1) := by kernel_rfl
theorem sz51 : tSz Try.prog 51 = some (true, 3) := by kernel_rfl
theorem sz53 : tSz Try.prog 53 = some (true, 5) := by kernel_rfl
theorem vr99 : tVar Try.prog 99 = some (true, [.lit (.int .i64 0), .lit (.int .i64 0), .lit (.int .i64 0), .lit (.int .i64 0), .seq true [], .lit (.int .i64 0)]) := by kernel_rfl
set_option maxHeartbeats 4000000 in
theorem c_fill_Right (c : Bool) (p : Pl.Plan) : PCall Try.prog 74 [.agg (planC c p)] (bV (decide (Pl.planRight p))) := by
 refine pcall_of_awp Try.func74 rfl (by simp [Try.ntmps74]) fun C hC => ?_
 refine awp_sr [] (by rw [hC]; rfl) fun k hk => ?_
 simp (maxSteps := 9^9) (disch := (try simp only [lens]); omega) only [argSl, sm, ↓amb, mark_eq, simprocAttr, dx]
 repeat refine ⟨by first | omega | (simp; done) | (unfold maxLen; omega) | (simp [maxLen]; omega) | assumption, ?_⟩
 refine hk _ ?_; clear hk k
 refine awp_test [] 2 (decide (Pl.planRight p)) [] (by rw [hC]; rfl) (fun gd hgd k hk => ?_) ?_
 ·have g3 : gd 3 = some 6 := by rw [hgd]; rfl
  have g8 : gd 8 = some 11 := by rw [hgd]; rfl
  have g13 : gd 13 = some 16 := by rw [hgd]; rfl
  have g18 : gd 18 = some 21 := by rw [hgd]; rfl
  clear hgd
  simp (maxSteps := 9^9) (disch := (try simp only [lens]); omega) only [argSl, sm, ↓amb, mark_eq, simprocAttr, fl51_0, sz3, fl51_1, fl51_2, sz49, el49, gcase_undef, g3, g8, g13, g18, dx]
  repeat' first | refine hk _ _ rfl rfl rfl rfl ?_ | (refine gsplit (fun hg => ?_) (fun hg => ?_) <;> (try simp only [hbx] at hg) <;> simp (maxSteps := 9^9) (disch := (try simp only [lens]); omega) only [argSl, sm, ↓amb, mark_eq, simprocAttr, fl51_0, sz3, fl51_1, fl51_2, sz49, el49, gcase_undef, g3, g8, g13, g18, dx]) | apply And.intro | fail
  all_goals first | rfl | omega | exact (decide_eq_true (by (try simp only [Pl.planRight] at *); omega)).symm | exact (decide_eq_false (by (try simp only [Pl.planRight] at *); omega)).symm | exact decide_eq_decide.mpr (by (try simp only [Pl.planRight] at *); omega) | (refine Bool.eq_iff_iff.mpr ?_; (try simp only [Pl.planRight] at *); simp only [beq_iff_eq, bne_iff_ne, ne_eq, decide_eq_true_eq]; omega) | (refine Bool.eq_iff_iff.mpr ?_; simp only [Bool.not_eq_true', Bool.not_eq_false', decide_eq_false_iff_not, decide_eq_true_eq, beq_iff_eq, bne_iff_ne, ne_eq]; (try simp only [Pl.planRight] at *); omega) | assumption | (simp; done) | (simp [maxLen]; omega) | skip
 simp only [kp, argSl, simprocAttr, List.length_cons, List.length_nil]
 refine awp_ret ?_
 refine ret1 rfl rfl ?_
 exact .p (LeP.refl _)
set_option maxHeartbeats 4000000 in
theorem c_ref07_Right (c : Bool) (p : Pl.Plan) : PCall Try.prog 65 [.agg (planC c p)] (bV (decide (Pl.planRight p))) := by
 refine pcall_of_awp Try.func65 rfl (by simp [Try.ntmps65]) fun C hC => ?_
 refine awp_sr [] (by rw [hC]; rfl) fun k hk => ?_
 simp (maxSteps := 9^9) (disch := (try simp only [lens]); omega) only [argSl, sm, ↓amb, mark_eq, simprocAttr, dx]
 repeat refine ⟨by first | omega | (simp; done) | (unfold maxLen; omega) | (simp [maxLen]; omega) | assumption, ?_⟩
 refine hk _ ?_; clear hk k
 refine awp_test [] 2 (decide (Pl.planRight p)) [] (by rw [hC]; rfl) (fun gd hgd k hk => ?_) ?_
 ·have g3 : gd 3 = some 6 := by rw [hgd]; rfl
  have g8 : gd 8 = some 11 := by rw [hgd]; rfl
  have g13 : gd 13 = some 16 := by rw [hgd]; rfl
  have g18 : gd 18 = some 21 := by rw [hgd]; rfl
  clear hgd
  simp (maxSteps := 9^9) (disch := (try simp only [lens]); omega) only [argSl, sm, ↓amb, mark_eq, simprocAttr, fl51_0, sz3, fl51_1, fl51_2, sz49, el49, gcase_undef, g3, g8, g13, g18, dx]
  repeat' first | refine hk _ _ rfl rfl rfl rfl ?_ | (refine gsplit (fun hg => ?_) (fun hg => ?_) <;> (try simp only [hbx] at hg) <;> simp (maxSteps := 9^9) (disch := (try simp only [lens]); omega) only [argSl, sm, ↓amb, mark_eq, simprocAttr, fl51_0, sz3, fl51_1, fl51_2, sz49, el49, gcase_undef, g3, g8, g13, g18, dx]) | apply And.intro | fail
  all_goals first | rfl | omega | exact (decide_eq_true (by (try simp only [Pl.planRight] at *); omega)).symm | exact (decide_eq_false (by (try simp only [Pl.planRight] at *); omega)).symm | exact decide_eq_decide.mpr (by (try simp only [Pl.planRight] at *); omega) | (refine Bool.eq_iff_iff.mpr ?_; (try simp only [Pl.planRight] at *); simp only [beq_iff_eq, bne_iff_ne, ne_eq, decide_eq_true_eq]; omega) | (refine Bool.eq_iff_iff.mpr ?_; simp only [Bool.not_eq_true', Bool.not_eq_false', decide_eq_false_iff_not, decide_eq_true_eq, beq_iff_eq, bne_iff_ne, ne_eq]; (try simp only [Pl.planRight] at *); omega) | assumption | (simp; done) | (simp [maxLen]; omega) | skip
 simp only [kp, argSl, simprocAttr, List.length_cons, List.length_nil]
 refine awp_ret ?_
 refine ret1 rfl rfl ?_
 exact .p (LeP.refl _)
set_option maxHeartbeats 4000000 in
theorem c_bound_may (c : Bool) (n : Int) (p : Pl.Plan) : PCall Try.prog 63 [iV n, .agg (planC c p)] (bV (decide (Pl.phOk n p))) := by
 refine pcall_of_awp Try.func63 rfl (by simp [Try.ntmps63]) fun C hC => ?_
 refine awp_sr [] (by rw [hC]; rfl) fun k hk => ?_
 simp (maxSteps := 9^9) (disch := (try simp only [lens]); omega) only [argSl, sm, ↓amb, mark_eq, simprocAttr, dx]
 repeat refine ⟨by first | omega | (simp; done) | (unfold maxLen; omega) | (simp [maxLen]; omega) | assumption, ?_⟩
 refine hk _ ?_; clear hk k
 refine awp_test [] 4 (decide (Pl.phOk n p)) [] (by rw [hC]; rfl) (fun gd hgd k hk => ?_) ?_
 ·have g2 : gd 2 = some 7 := by rw [hgd]; rfl
  have g6 : gd 6 = some 11 := by rw [hgd]; rfl
  clear hgd
  simp (maxSteps := 9^9) (disch := (try simp only [lens]); omega) only [argSl, sm, ↓amb, mark_eq, simprocAttr, sz51, en74, gcase_undef, g2, g6, dx]
  repeat' first | refine hk _ _ rfl rfl rfl rfl ?_ | (refine gsplit (fun hg => ?_) (fun hg => ?_) <;> (try simp only [hbx] at hg) <;> simp (maxSteps := 9^9) (disch := (try simp only [lens]); omega) only [argSl, sm, ↓amb, mark_eq, simprocAttr, sz51, en74, gcase_undef, g2, g6, dx]) | apply And.intro | (refine callK_p (c_fill_Right _ _) rfl ?_; (try simp (maxSteps := 9^9) (disch := (try simp only [lens]); omega) only [argSl, sm, ↓amb, mark_eq, simprocAttr, sz51, en74, gcase_undef, g2, g6, dx])) | fail
  all_goals first | rfl | omega | exact (decide_eq_true (by (try simp only [Pl.phOk, Pl.planRight] at *); omega)).symm | exact (decide_eq_false (by (try simp only [Pl.phOk, Pl.planRight] at *); omega)).symm | exact decide_eq_decide.mpr (by (try simp only [Pl.phOk, Pl.planRight] at *); omega) | (refine Bool.eq_iff_iff.mpr ?_; (try simp only [Pl.phOk, Pl.planRight] at *); simp only [beq_iff_eq, bne_iff_ne, ne_eq, decide_eq_true_eq]; omega) | (refine Bool.eq_iff_iff.mpr ?_; simp only [Bool.not_eq_true', Bool.not_eq_false', decide_eq_false_iff_not, decide_eq_true_eq, beq_iff_eq, bne_iff_ne, ne_eq]; (try simp only [Pl.phOk, Pl.planRight] at *); omega) | assumption | (simp; done) | (simp [maxLen]; omega) | skip
 simp only [kp, argSl, simprocAttr, List.length_cons, List.length_nil]
 refine awp_ret ?_
 refine ret1 rfl rfl ?_
 exact .p (LeP.refl _)
set_option maxHeartbeats 4000000 in
theorem c_drain_tasks (t : Pl.Task) (g : Int) (h : -4000000000 ≤ t.low ∧ t.low ≤ 4000000000 ∧ -4000000000 ≤ t.high ∧ t.high ≤ 4000000000) : PCall Try.prog 88 [.agg (taskC t), iV g] (iV (Pl.cntT (t.high - t.low) g)) := by
 refine pcall_of_awp Try.func88 rfl (by simp [Try.ntmps88]) fun C hC => ?_
 refine awp_sr [] (by rw [hC]; rfl) fun k hk => ?_
 simp (maxSteps := 9^9) (disch := (try simp only [lens]); omega) only [argSl, sm, ↓amb, mark_eq, simprocAttr, dx]
 repeat refine ⟨by first | omega | (simp; done) | (unfold maxLen; omega) | (simp [maxLen]; omega) | assumption, ?_⟩
 refine hk _ ?_; clear hk k
 refine awp_sr [] (by rw [hC]; rfl) fun k hk => ?_
 simp (maxSteps := 9^9) (disch := (try simp only [lens]); omega) only [argSl, sm, ↓amb, mark_eq, simprocAttr, fl128_1, sz3, fl128_0, en71, dx]
 repeat refine ⟨by first | omega | (simp; done) | (unfold maxLen; omega) | (simp [maxLen]; omega) | assumption, ?_⟩
 refine callK_p (c34 _ _) rfl ?_
 simp (maxSteps := 9^9) (disch := (try simp only [lens]); omega) only [argSl, sm, ↓amb, mark_eq, simprocAttr, fl128_1, sz3, fl128_0, en71, dx]
 repeat refine ⟨by first | omega | (simp; done) | (unfold maxLen; omega) | (simp [maxLen]; omega) | assumption, ?_⟩
 refine hk _ ?_; clear hk k
 refine awp_sr [] (by rw [hC]; rfl) fun k hk => ?_
 simp (maxSteps := 9^9) (disch := (try simp only [lens]); omega) only [argSl, sm, ↓amb, mark_eq, simprocAttr, dx]
 repeat refine ⟨by first | omega | (simp; done) | (unfold maxLen; omega) | (simp [maxLen]; omega) | assumption, ?_⟩
 refine hk _ ?_; clear hk k
 refine awp_ret ?_
 refine ret1 rfl rfl ?_
 exact .p (LeP.refl _)
set_option maxHeartbeats 4000000 in
theorem c_drain_Bound (n g w : Int) (hn : -4000000000 ≤ n ∧ n ≤ 4000000000) : PCall Try.prog 64 [iV n, iV g, iV w] (iV (Pl.bd n g w)) := by
 refine pcall_of_awp Try.func64 rfl (by simp [Try.ntmps64]) fun C hC => ?_
 refine awp_le (le_keep [0, 1, 2]) ?_
 simp only [kp, argSl, simprocAttr]
 refine awp_sr [] (by rw [hC]; rfl) fun k hk => ?_
 simp (maxSteps := 9^9) (disch := (try simp only [lens]); omega) only [argSl, sm, ↓amb, mark_eq, simprocAttr, Int.sub_zero, dx]
 repeat refine ⟨by first | omega | (simp; done) | (unfold maxLen; omega) | (simp [maxLen]; omega) | assumption, ?_⟩
 refine hk _ ?_; clear hk k
 refine awp_seq fun k1 h1 => ?_
 refine awp_le (le_keep [0, 1, 2, 6]) ?_
 simp only [kp, argSl, simprocAttr]
 refine awp_sr [] (by rw [hC]; rfl) fun k hk => ?_
 simp (maxSteps := 9^9) (disch := (try simp only [lens]); omega) only [argSl, sm, ↓amb, mark_eq, simprocAttr, en87, vr110, sz110, Int.sub_zero, dx]
 repeat refine ⟨by first | omega | (simp; done) | (unfold maxLen; omega) | (simp [maxLen]; omega) | assumption, ?_⟩
 refine callK_p (c42 _ _ _ (by omega)) rfl ?_
 simp (maxSteps := 9^9) (disch := (try simp only [lens]); omega) only [argSl, sm, ↓amb, mark_eq, simprocAttr, en87, vr110, sz110, Int.sub_zero, dx]
 repeat refine ⟨by first | omega | (simp; done) | (unfold maxLen; omega) | (simp [maxLen]; omega) | assumption, ?_⟩
 refine hk _ ?_; clear hk k
 refine awp_le (le_keep [0, 1, 2, 6, 8]) ?_
 simp only [kp, argSl, simprocAttr]
 refine awp_sr [] (by rw [hC]; rfl) fun k hk => ?_
 simp (maxSteps := 9^9) (disch := (try simp only [lens]); omega) only [argSl, sm, ↓amb, mark_eq, simprocAttr, Int.sub_zero, dx]
 repeat refine ⟨by first | omega | (simp; done) | (unfold maxLen; omega) | (simp [maxLen]; omega) | assumption, ?_⟩
 refine hk _ ?_; clear hk k
 refine awp_cond rfl (fun hb => ?_) (fun hb => ?_)
 ·try simp only [hbx] at hb
  refine awp_le (le_keep []) ?_
  simp only [kp, argSl, simprocAttr]
  refine awp_sr [] (by rw [hC]; rfl) fun k hk => ?_
  simp (maxSteps := 9^9) (disch := (try simp only [lens]); omega) only [argSl, sm, ↓amb, mark_eq, simprocAttr, Int.sub_zero, dx]
  repeat refine ⟨by first | omega | (simp; done) | (unfold maxLen; omega) | (simp [maxLen]; omega) | assumption, ?_⟩
  refine hk _ ?_; clear hk k
  refine awp_ret ?_
  rw [show Pl.bd n g w = 0 from if_neg (fun q => hb ((Pl.bd_begin n g w).2 q))]
  refine ret1 rfl rfl ?_
  exact .p (LeP.refl _)
 ·try simp only [hbx] at hb
  refine awp_skip ?_
  refine h1 _ ?_; clear h1 k1
  refine awp_le (le_keep [0, 1, 2]) ?_
  simp only [kp, argSl, simprocAttr]
  have hbd := (Pl.bd_begin n g w).1 hb
  have hbn := Pl.bd_nn hbd
  refine awp_sr [] (by rw [hC]; rfl) fun k hk => ?_
  simp (maxSteps := 9^9) (disch := (try simp only [lens]); omega) only [argSl, sm, ↓amb, mark_eq, simprocAttr, vr128, bt128, pl128_1, en88, Int.sub_zero, dx]
  repeat refine ⟨by first | omega | (simp; done) | (unfold maxLen; omega) | (simp [maxLen]; omega) | assumption, ?_⟩
  refine callK_p (c_drain_tasks ⟨0, n, 0, 0⟩ g (by dsimp only; omega)) rfl ?_
  simp (maxSteps := 9^9) (disch := (try simp only [lens]); omega) only [argSl, sm, ↓amb, mark_eq, simprocAttr, vr128, bt128, pl128_1, en88, Int.sub_zero, dx]
  repeat refine ⟨by first | omega | (simp; done) | (unfold maxLen; omega) | (simp [maxLen]; omega) | assumption, ?_⟩
  refine hk _ ?_; clear hk k
  refine awp_ret ?_
  rw [show Pl.bd n g w = w * (Pl.cntT n g + 1) from if_pos hbd]
  refine ret1 rfl rfl ?_
  exact .p (LeP.of_eq (by first | rfl | (rw [Int.sub_zero])))
set_option maxHeartbeats 4000000 in
theorem c_scan_sized (b : Int) : PCall Try.prog 90 [iV b] (bV (decide (1 ≤ b ∧ b ≤ 100))) := by
 refine pcall_of_awp Try.func90 rfl (by simp [Try.ntmps90]) fun C hC => ?_
 refine awp_sr [] (by rw [hC]; rfl) fun k hk => ?_
 simp (maxSteps := 9^9) (disch := (try simp only [lens]); omega) only [argSl, sm, ↓amb, mark_eq, simprocAttr, dx]
 repeat refine ⟨by first | omega | (simp; done) | (unfold maxLen; omega) | (simp [maxLen]; omega) | assumption, ?_⟩
 refine hk _ ?_; clear hk k
 refine awp_test [] 2 (decide (1 ≤ b ∧ b ≤ 100)) [] (by rw [hC]; rfl) (fun gd hgd k hk => ?_) ?_
 ·have g2 : gd 2 = some 5 := by rw [hgd]; rfl
  clear hgd
  simp (maxSteps := 9^9) (disch := (try simp only [lens]); omega) only [argSl, sm, ↓amb, mark_eq, simprocAttr, gcase_undef, g2, dx]
  repeat' first | refine hk _ _ rfl rfl rfl rfl ?_ | (refine gsplit (fun hg => ?_) (fun hg => ?_) <;> (try simp only [hbx] at hg) <;> simp (maxSteps := 9^9) (disch := (try simp only [lens]); omega) only [argSl, sm, ↓amb, mark_eq, simprocAttr, gcase_undef, g2, dx]) | apply And.intro | fail
  all_goals first | rfl | omega | exact (decide_eq_true (by omega)).symm | exact (decide_eq_false (by omega)).symm | exact decide_eq_decide.mpr (by omega) | (refine Bool.eq_iff_iff.mpr ?_; simp only [beq_iff_eq, bne_iff_ne, ne_eq, decide_eq_true_eq]; omega) | (refine Bool.eq_iff_iff.mpr ?_; simp only [Bool.not_eq_true', Bool.not_eq_false', decide_eq_false_iff_not, decide_eq_true_eq, beq_iff_eq, bne_iff_ne, ne_eq]; omega) | assumption | (simp; done) | (simp [maxLen]; omega) | skip
 simp only [kp, argSl, simprocAttr, List.length_cons, List.length_nil]
 refine awp_ret ?_
 refine ret1 rfl rfl ?_
 exact .p (LeP.refl _)
set_option maxHeartbeats 4000000 in
theorem c_scan_Blocks (n b : Int) : PCall Try.prog 67 [iV n, iV b] (iV (Pl.blk n b)) := by
 refine pcall_of_awp Try.func67 rfl (by simp [Try.ntmps67]) fun C hC => ?_
 refine awp_sr [] (by rw [hC]; rfl) fun k hk => ?_
 simp (maxSteps := 9^9) (disch := (try simp only [lens]); omega) only [argSl, sm, ↓amb, mark_eq, simprocAttr, dx]
 repeat refine ⟨by first | omega | (simp; done) | (unfold maxLen; omega) | (simp [maxLen]; omega) | assumption, ?_⟩
 refine hk _ ?_; clear hk k
 refine awp_seq fun k1 h1 => ?_
 refine awp_test [] 15 (decide (¬ Pl.blkOk' n b)) [0, 1, 4] (by rw [hC]; rfl) (fun gd hgd k hk => ?_) ?_
 ·have g2 : gd 2 = some 7 := by rw [hgd]; rfl
  have g6 : gd 6 = some 11 := by rw [hgd]; rfl
  clear hgd
  simp (maxSteps := 9^9) (disch := (try simp only [lens]); omega) only [argSl, sm, ↓amb, mark_eq, simprocAttr, en90, gcase_undef, g2, g6, dx]
  repeat' first | refine hk _ _ rfl rfl rfl rfl ?_ | (refine gsplit (fun hg => ?_) (fun hg => ?_) <;> (try simp only [hbx] at hg) <;> simp (maxSteps := 9^9) (disch := (try simp only [lens]); omega) only [argSl, sm, ↓amb, mark_eq, simprocAttr, en90, gcase_undef, g2, g6, dx]) | apply And.intro | (refine callK_p (c_scan_sized _) rfl ?_; (try simp (maxSteps := 9^9) (disch := (try simp only [lens]); omega) only [argSl, sm, ↓amb, mark_eq, simprocAttr, en90, gcase_undef, g2, g6, dx])) | fail
  all_goals first | rfl | omega | exact (decide_eq_true (by (try simp only [Pl.blkOk'] at *); omega)).symm | exact (decide_eq_false (by (try simp only [Pl.blkOk'] at *); omega)).symm | exact decide_eq_decide.mpr (by (try simp only [Pl.blkOk'] at *); omega) | (refine Bool.eq_iff_iff.mpr ?_; (try simp only [Pl.blkOk'] at *); simp only [beq_iff_eq, bne_iff_ne, ne_eq, decide_eq_true_eq]; omega) | (refine Bool.eq_iff_iff.mpr ?_; simp only [Bool.not_eq_true', Bool.not_eq_false', decide_eq_false_iff_not, decide_eq_true_eq, beq_iff_eq, bne_iff_ne, ne_eq]; (try simp only [Pl.blkOk'] at *); omega) | assumption | (simp; done) | (simp [maxLen]; omega) | skip
 simp only [kp, argSl, simprocAttr, List.length_cons, List.length_nil]
 refine awp_cond rfl (fun hb => ?_) (fun hb => ?_)
 ·try simp only [hbx] at hb
  refine awp_sr [] (by rw [hC]; rfl) fun k hk => ?_
  simp (maxSteps := 9^9) (disch := (try simp only [lens]); omega) only [argSl, sm, ↓amb, mark_eq, simprocAttr, dx]
  repeat refine ⟨by first | omega | (simp; done) | (unfold maxLen; omega) | (simp [maxLen]; omega) | assumption, ?_⟩
  refine hk _ ?_; clear hk k
  refine awp_ret ?_
  rw [show Pl.blk n b = 0 from if_neg (by first | exact hb | simpa using hb)]
  refine ret1 rfl rfl ?_
  exact .p (LeP.refl _)
 ·try simp only [hbx] at hb
  refine awp_skip ?_
  refine h1 _ ?_; clear h1 k1
  have hbk : Pl.blkOk' n b := by first | exact hb | simpa using hb
  have hbo := hbk
  unfold Pl.blkOk' at hbo
  have hq : 0 ≤ (n + b - 1) / b ∧ (n + b - 1) / b ≤ 1000 := by
   have h := Pl.blk_up (b := b) hbo.1 (Int.le_refl n) hbo.2.1
   rw [show Pl.blk n b = (n + b - 1) / b from if_pos hbk] at h; exact ⟨h.1, h.2.2⟩
  refine awp_sr [] (by rw [hC]; rfl) fun k hk => ?_
  simp (maxSteps := 9^9) (disch := (try simp only [lens]); omega) only [argSl, sm, ↓amb, mark_eq, simprocAttr, dx]
  repeat refine ⟨by first | omega | (simp; done) | (unfold maxLen; omega) | (simp [maxLen]; omega) | assumption, ?_⟩
  refine hk _ ?_; clear hk k
  refine awp_ret ?_
  rw [show Pl.blk n b = (n + b - 1) / b from if_pos hbk]
  refine ret1 rfl rfl ?_
  exact .p (LeP.refl _)
set_option maxHeartbeats 4000000 in
theorem c_ref08_Blocks (n b : Int) : PCall Try.prog 45 [iV n, iV b] (iV (Pl.blk n b)) := by
 refine pcall_of_awp Try.func45 rfl (by simp [Try.ntmps45]) fun C hC => ?_
 refine awp_sr [] (by rw [hC]; rfl) fun k hk => ?_
 simp (maxSteps := 9^9) (disch := (try simp only [lens]); omega) only [argSl, sm, ↓amb, mark_eq, simprocAttr, dx]
 repeat refine ⟨by first | omega | (simp; done) | (unfold maxLen; omega) | (simp [maxLen]; omega) | assumption, ?_⟩
 refine hk _ ?_; clear hk k
 refine awp_seq fun k1 h1 => ?_
 refine awp_test [] 18 (decide (¬ Pl.blkOk' n b)) [0, 1, 4] (by rw [hC]; rfl) (fun gd hgd k hk => ?_) ?_
 ·have g2 : gd 2 = some 7 := by rw [hgd]; rfl
  have g6 : gd 6 = some 11 := by rw [hgd]; rfl
  have g10 : gd 10 = some 15 := by rw [hgd]; rfl
  clear hgd
  simp (maxSteps := 9^9) (disch := (try simp only [lens]); omega) only [argSl, sm, ↓amb, mark_eq, simprocAttr, gcase_undef, g2, g6, g10, dx]
  repeat' first | refine hk _ _ rfl rfl rfl rfl ?_ | (refine gsplit (fun hg => ?_) (fun hg => ?_) <;> (try simp only [hbx] at hg) <;> simp (maxSteps := 9^9) (disch := (try simp only [lens]); omega) only [argSl, sm, ↓amb, mark_eq, simprocAttr, gcase_undef, g2, g6, g10, dx]) | apply And.intro | fail
  all_goals first | rfl | omega | exact (decide_eq_true (by (try simp only [Pl.blkOk'] at *); omega)).symm | exact (decide_eq_false (by (try simp only [Pl.blkOk'] at *); omega)).symm | exact decide_eq_decide.mpr (by (try simp only [Pl.blkOk'] at *); omega) | (refine Bool.eq_iff_iff.mpr ?_; (try simp only [Pl.blkOk'] at *); simp only [beq_iff_eq, bne_iff_ne, ne_eq, decide_eq_true_eq]; omega) | (refine Bool.eq_iff_iff.mpr ?_; simp only [Bool.not_eq_true', Bool.not_eq_false', decide_eq_false_iff_not, decide_eq_true_eq, beq_iff_eq, bne_iff_ne, ne_eq]; (try simp only [Pl.blkOk'] at *); omega) | assumption | (simp; done) | (simp [maxLen]; omega) | skip
 simp only [kp, argSl, simprocAttr, List.length_cons, List.length_nil]
 refine awp_cond rfl (fun hb => ?_) (fun hb => ?_)
 ·try simp only [hbx] at hb
  refine awp_sr [] (by rw [hC]; rfl) fun k hk => ?_
  simp (maxSteps := 9^9) (disch := (try simp only [lens]); omega) only [argSl, sm, ↓amb, mark_eq, simprocAttr, dx]
  repeat refine ⟨by first | omega | (simp; done) | (unfold maxLen; omega) | (simp [maxLen]; omega) | assumption, ?_⟩
  refine hk _ ?_; clear hk k
  refine awp_ret ?_
  rw [show Pl.blk n b = 0 from if_neg (by first | exact hb | simpa using hb)]
  refine ret1 rfl rfl ?_
  exact .p (LeP.refl _)
 ·try simp only [hbx] at hb
  refine awp_skip ?_
  refine h1 _ ?_; clear h1 k1
  have hbk : Pl.blkOk' n b := by first | exact hb | simpa using hb
  have hbo := hbk
  unfold Pl.blkOk' at hbo
  have hq : 0 ≤ (n + b - 1) / b ∧ (n + b - 1) / b ≤ 1000 := by
   have h := Pl.blk_up (b := b) hbo.1 (Int.le_refl n) hbo.2.1
   rw [show Pl.blk n b = (n + b - 1) / b from if_pos hbk] at h; exact ⟨h.1, h.2.2⟩
  refine awp_sr [] (by rw [hC]; rfl) fun k hk => ?_
  simp (maxSteps := 9^9) (disch := (try simp only [lens]); omega) only [argSl, sm, ↓amb, mark_eq, simprocAttr, dx]
  repeat refine ⟨by first | omega | (simp; done) | (unfold maxLen; omega) | (simp [maxLen]; omega) | assumption, ?_⟩
  refine hk _ ?_; clear hk k
  refine awp_ret ?_
  rw [show Pl.blk n b = (n + b - 1) / b from if_pos hbk]
  refine ret1 rfl rfl ?_
  exact .p (LeP.refl _)
set_option maxHeartbeats 4000000 in
theorem c_radix_Passes (b : Int) : PCall Try.prog 68 [iV b] (iV (Pl.pas b)) := by
 refine pcall_of_awp Try.func68 rfl (by simp [Try.ntmps68]) fun C hC => ?_
 refine awp_sr [] (by rw [hC]; rfl) fun k hk => ?_
 simp (maxSteps := 9^9) (disch := (try simp only [lens]); omega) only [argSl, sm, ↓amb, mark_eq, simprocAttr, dx]
 repeat refine ⟨by first | omega | (simp; done) | (unfold maxLen; omega) | (simp [maxLen]; omega) | assumption, ?_⟩
 refine hk _ ?_; clear hk k
 refine awp_seq fun k1 h1 => ?_
 refine awp_test [] 8 (decide (¬ (1 ≤ b ∧ b ≤ 16))) [0, 2] (by rw [hC]; rfl) (fun gd hgd k hk => ?_) ?_
 ·have g2 : gd 2 = some 5 := by rw [hgd]; rfl
  clear hgd
  simp (maxSteps := 9^9) (disch := (try simp only [lens]); omega) only [argSl, sm, ↓amb, mark_eq, simprocAttr, gcase_undef, g2, dx]
  repeat' first | refine hk _ _ rfl rfl rfl rfl ?_ | (refine gsplit (fun hg => ?_) (fun hg => ?_) <;> (try simp only [hbx] at hg) <;> simp (maxSteps := 9^9) (disch := (try simp only [lens]); omega) only [argSl, sm, ↓amb, mark_eq, simprocAttr, gcase_undef, g2, dx]) | apply And.intro | fail
  all_goals first | rfl | omega | exact (decide_eq_true (by omega)).symm | exact (decide_eq_false (by omega)).symm | exact decide_eq_decide.mpr (by omega) | (refine Bool.eq_iff_iff.mpr ?_; simp only [beq_iff_eq, bne_iff_ne, ne_eq, decide_eq_true_eq]; omega) | (refine Bool.eq_iff_iff.mpr ?_; simp only [Bool.not_eq_true', Bool.not_eq_false', decide_eq_false_iff_not, decide_eq_true_eq, beq_iff_eq, bne_iff_ne, ne_eq]; omega) | assumption | (simp; done) | (simp [maxLen]; omega) | skip
 simp only [kp, argSl, simprocAttr, List.length_cons, List.length_nil]
 refine awp_cond rfl (fun hb => ?_) (fun hb => ?_)
 ·try simp only [hbx] at hb
  refine awp_sr [] (by rw [hC]; rfl) fun k hk => ?_
  simp (maxSteps := 9^9) (disch := (try simp only [lens]); omega) only [argSl, sm, ↓amb, mark_eq, simprocAttr, dx]
  repeat refine ⟨by first | omega | (simp; done) | (unfold maxLen; omega) | (simp [maxLen]; omega) | assumption, ?_⟩
  refine hk _ ?_; clear hk k
  refine awp_ret ?_
  rw [show Pl.pas b = 0 from if_neg (by omega)]
  refine ret1 rfl rfl ?_
  exact .p (LeP.refl _)
 ·try simp only [hbx] at hb
  refine awp_skip ?_
  refine h1 _ ?_; clear h1 k1
  have hbo : 1 ≤ b ∧ b ≤ 16 := by omega
  have hq := Pl.pas_nn b
  rw [show Pl.pas b = (32 + b - 1) / b from if_pos hbo] at hq
  refine awp_sr [] (by rw [hC]; rfl) fun k hk => ?_
  simp (maxSteps := 9^9) (disch := (try simp only [lens]); omega) only [argSl, sm, ↓amb, mark_eq, simprocAttr, dx]
  repeat refine ⟨by first | omega | (simp; done) | (unfold maxLen; omega) | (simp [maxLen]; omega) | assumption, ?_⟩
  refine hk _ ?_; clear hk k
  refine awp_ret ?_
  rw [show Pl.pas b = (32 + b - 1) / b from if_pos hbo]
  refine ret1 rfl rfl ?_
  exact .p (LeP.refl _)
set_option maxHeartbeats 4000000 in
theorem c_ref10_Passes (b : Int) : PCall Try.prog 70 [iV b] (iV (Pl.pas b)) := by
 refine pcall_of_awp Try.func70 rfl (by simp [Try.ntmps70]) fun C hC => ?_
 refine awp_sr [] (by rw [hC]; rfl) fun k hk => ?_
 simp (maxSteps := 9^9) (disch := (try simp only [lens]); omega) only [argSl, sm, ↓amb, mark_eq, simprocAttr, dx]
 repeat refine ⟨by first | omega | (simp; done) | (unfold maxLen; omega) | (simp [maxLen]; omega) | assumption, ?_⟩
 refine hk _ ?_; clear hk k
 refine awp_seq fun k1 h1 => ?_
 refine awp_test [] 8 (decide (¬ (1 ≤ b ∧ b ≤ 16))) [0, 2] (by rw [hC]; rfl) (fun gd hgd k hk => ?_) ?_
 ·have g2 : gd 2 = some 5 := by rw [hgd]; rfl
  clear hgd
  simp (maxSteps := 9^9) (disch := (try simp only [lens]); omega) only [argSl, sm, ↓amb, mark_eq, simprocAttr, gcase_undef, g2, dx]
  repeat' first | refine hk _ _ rfl rfl rfl rfl ?_ | (refine gsplit (fun hg => ?_) (fun hg => ?_) <;> (try simp only [hbx] at hg) <;> simp (maxSteps := 9^9) (disch := (try simp only [lens]); omega) only [argSl, sm, ↓amb, mark_eq, simprocAttr, gcase_undef, g2, dx]) | apply And.intro | fail
  all_goals first | rfl | omega | exact (decide_eq_true (by omega)).symm | exact (decide_eq_false (by omega)).symm | exact decide_eq_decide.mpr (by omega) | (refine Bool.eq_iff_iff.mpr ?_; simp only [beq_iff_eq, bne_iff_ne, ne_eq, decide_eq_true_eq]; omega) | (refine Bool.eq_iff_iff.mpr ?_; simp only [Bool.not_eq_true', Bool.not_eq_false', decide_eq_false_iff_not, decide_eq_true_eq, beq_iff_eq, bne_iff_ne, ne_eq]; omega) | assumption | (simp; done) | (simp [maxLen]; omega) | skip
 simp only [kp, argSl, simprocAttr, List.length_cons, List.length_nil]
 refine awp_cond rfl (fun hb => ?_) (fun hb => ?_)
 ·try simp only [hbx] at hb
  refine awp_sr [] (by rw [hC]; rfl) fun k hk => ?_
  simp (maxSteps := 9^9) (disch := (try simp only [lens]); omega) only [argSl, sm, ↓amb, mark_eq, simprocAttr, dx]
  repeat refine ⟨by first | omega | (simp; done) | (unfold maxLen; omega) | (simp [maxLen]; omega) | assumption, ?_⟩
  refine hk _ ?_; clear hk k
  refine awp_ret ?_
  rw [show Pl.pas b = 0 from if_neg (by omega)]
  refine ret1 rfl rfl ?_
  exact .p (LeP.refl _)
 ·try simp only [hbx] at hb
  refine awp_skip ?_
  refine h1 _ ?_; clear h1 k1
  have hbo : 1 ≤ b ∧ b ≤ 16 := by omega
  have hq := Pl.pas_nn b
  rw [show Pl.pas b = (32 + b - 1) / b from if_pos hbo] at hq
  refine awp_sr [] (by rw [hC]; rfl) fun k hk => ?_
  simp (maxSteps := 9^9) (disch := (try simp only [lens]); omega) only [argSl, sm, ↓amb, mark_eq, simprocAttr, dx]
  repeat refine ⟨by first | omega | (simp; done) | (unfold maxLen; omega) | (simp [maxLen]; omega) | assumption, ?_⟩
  refine hk _ ?_; clear hk k
  refine awp_ret ?_
  rw [show Pl.pas b = (32 + b - 1) / b from if_pos hbo]
  refine ret1 rfl rfl ?_
  exact .p (LeP.refl _)
set_option maxHeartbeats 4000000 in
theorem c_bound_Phase (c : Bool) (n : Int) (p : Pl.Plan) : PCall Try.prog 28 [iV n, .agg (planC c p)] (iV (Pl.phB n p)) := by
 refine pcall_of_awp Try.func28 rfl (by simp [Try.ntmps28]) fun C hC => ?_
 refine awp_le (le_keep [0, 1]) ?_
 simp only [kp, argSl, simprocAttr]
 refine awp_sr [] (by rw [hC]; rfl) fun k hk => ?_
 simp (maxSteps := 9^9) (disch := (try simp only [lens]); omega) only [argSl, sm, ↓amb, mark_eq, simprocAttr, dx]
 repeat refine ⟨by first | omega | (simp; done) | (unfold maxLen; omega) | (simp [maxLen]; omega) | assumption, ?_⟩
 refine hk _ ?_; clear hk k
 refine awp_seq fun k1 h1 => ?_
 refine awp_le (le_keep [0, 3, 4]) ?_
 simp only [kp, argSl, simprocAttr]
 refine awp_sr [] (by rw [hC]; rfl) fun k hk => ?_
 simp (maxSteps := 9^9) (disch := (try simp only [lens]); omega) only [argSl, sm, ↓amb, mark_eq, simprocAttr, sz51, en63, dx]
 repeat refine ⟨by first | omega | (simp; done) | (unfold maxLen; omega) | (simp [maxLen]; omega) | assumption, ?_⟩
 refine callK_p (c_bound_may _ _ _) rfl ?_
 simp (maxSteps := 9^9) (disch := (try simp only [lens]); omega) only [argSl, sm, ↓amb, mark_eq, simprocAttr, sz51, en63, dx]
 repeat refine ⟨by first | omega | (simp; done) | (unfold maxLen; omega) | (simp [maxLen]; omega) | assumption, ?_⟩
 refine hk _ ?_; clear hk k
 refine awp_cond rfl (fun hb => ?_) (fun hb => ?_)
 ·try simp only [hbx] at hb
  refine awp_le (le_keep []) ?_
  simp only [kp, argSl, simprocAttr]
  refine awp_sr [] (by rw [hC]; rfl) fun k hk => ?_
  simp (maxSteps := 9^9) (disch := (try simp only [lens]); omega) only [argSl, sm, ↓amb, mark_eq, simprocAttr, dx]
  repeat refine ⟨by first | omega | (simp; done) | (unfold maxLen; omega) | (simp [maxLen]; omega) | assumption, ?_⟩
  refine hk _ ?_; clear hk k
  refine awp_ret ?_
  rw [show Pl.phB n p = 0 from if_neg (by first | exact hb | simpa using hb)]
  refine ret1 rfl rfl ?_
  exact .p (LeP.refl _)
 ·try simp only [hbx] at hb
  refine awp_skip ?_
  refine h1 _ ?_; clear h1 k1
  refine awp_le (le_keep [0, 3]) ?_
  simp only [kp, argSl, simprocAttr]
  have hph : Pl.phOk n p := by first | exact hb | (simpa using hb)
  obtain ⟨e1, e2, e3⟩ := Pl.phB_bd hph
  have hpl := hph.2.2
  have hpk : p.picks.length ≤ 4000 := by unfold Pl.planRight at hpl; omega
  have hpn := hph.1
  have hpm := hph.2.1
  refine awp_sd [] ⟨[0, 1, 3, 0, 0, 16, 0, 64, 248, 511, 1023], [1, 2, 5, 7], [], [], some []⟩ (by rw [hC]; rfl) (by kernel_rfl) (by kernel_rfl) fun k hk => ?_
  simp (maxSteps := 9^9) (disch := (try simp only [lens]); omega) only [argSl, sm, ↓amb, mark_eq, simprocAttr, fl51_2, sz49, el49, fl51_0, sz3, fl51_1, en64, dx]
  repeat refine ⟨by first | omega | (simp; done) | (unfold maxLen; omega) | (simp [maxLen]; omega) | assumption, ?_⟩
  refine callK_p (c_drain_Bound _ _ _ (by omega)) rfl ?_
  simp (maxSteps := 9^9) (disch := (try simp only [lens]); omega) only [argSl, sm, ↓amb, mark_eq, simprocAttr, fl51_2, sz49, el49, fl51_0, sz3, fl51_1, en64, dx]
  repeat refine ⟨by first | omega | (simp; done) | (unfold maxLen; omega) | (simp [maxLen]; omega) | assumption, ?_⟩
  refine hk _ ?_; clear hk k
  refine awp_ret ?_
  rw [e1]
  refine ret1 rfl rfl ?_
  exact .p (LeP.refl _)
set_option maxHeartbeats 4000000 in
theorem c_bound_Least (c : Bool) (n : Int) (p : Pl.Plan) : PCall Try.prog 34 [iV n, .agg (planC c p)] (iV (Pl.leB n p)) := by
 refine pcall_of_awp Try.func34 rfl (by simp [Try.ntmps34]) fun C hC => ?_
 refine awp_le (le_keep [0, 1]) ?_
 simp only [kp, argSl, simprocAttr]
 refine awp_sr [] (by rw [hC]; rfl) fun k hk => ?_
 simp (maxSteps := 9^9) (disch := (try simp only [lens]); omega) only [argSl, sm, ↓amb, mark_eq, simprocAttr, dx]
 repeat refine ⟨by first | omega | (simp; done) | (unfold maxLen; omega) | (simp [maxLen]; omega) | assumption, ?_⟩
 refine hk _ ?_; clear hk k
 refine awp_seq fun k1 h1 => ?_
 refine awp_le (le_keep [0, 3, 4]) ?_
 simp only [kp, argSl, simprocAttr]
 refine awp_sr [] (by rw [hC]; rfl) fun k hk => ?_
 simp (maxSteps := 9^9) (disch := (try simp only [lens]); omega) only [argSl, sm, ↓amb, mark_eq, simprocAttr, sz51, en63, dx]
 repeat refine ⟨by first | omega | (simp; done) | (unfold maxLen; omega) | (simp [maxLen]; omega) | assumption, ?_⟩
 refine callK_p (c_bound_may _ _ _) rfl ?_
 simp (maxSteps := 9^9) (disch := (try simp only [lens]); omega) only [argSl, sm, ↓amb, mark_eq, simprocAttr, sz51, en63, dx]
 repeat refine ⟨by first | omega | (simp; done) | (unfold maxLen; omega) | (simp [maxLen]; omega) | assumption, ?_⟩
 refine hk _ ?_; clear hk k
 refine awp_cond rfl (fun hb => ?_) (fun hb => ?_)
 ·try simp only [hbx] at hb
  refine awp_le (le_keep []) ?_
  simp only [kp, argSl, simprocAttr]
  refine awp_sr [] (by rw [hC]; rfl) fun k hk => ?_
  simp (maxSteps := 9^9) (disch := (try simp only [lens]); omega) only [argSl, sm, ↓amb, mark_eq, simprocAttr, dx]
  repeat refine ⟨by first | omega | (simp; done) | (unfold maxLen; omega) | (simp [maxLen]; omega) | assumption, ?_⟩
  refine hk _ ?_; clear hk k
  refine awp_ret ?_
  rw [show Pl.leB n p = 0 from if_neg (by first | exact hb | simpa using hb)]
  refine ret1 rfl rfl ?_
  exact .p (LeP.refl _)
 ·try simp only [hbx] at hb
  refine awp_skip ?_
  refine h1 _ ?_; clear h1 k1
  refine awp_le (le_keep [0, 3]) ?_
  simp only [kp, argSl, simprocAttr]
  have hph : Pl.phOk n p := by first | exact hb | (simpa using hb)
  refine awp_sr [] (by rw [hC]; rfl) fun k hk => ?_
  simp (maxSteps := 9^9) (disch := (try simp only [lens]); omega) only [argSl, sm, ↓amb, mark_eq, simprocAttr, fl51_0, sz3, en71, dx]
  repeat refine ⟨by first | omega | (simp; done) | (unfold maxLen; omega) | (simp [maxLen]; omega) | assumption, ?_⟩
  refine callK_p (c34 _ _) rfl ?_
  simp (maxSteps := 9^9) (disch := (try simp only [lens]); omega) only [argSl, sm, ↓amb, mark_eq, simprocAttr, fl51_0, sz3, en71, dx]
  repeat refine ⟨by first | omega | (simp; done) | (unfold maxLen; omega) | (simp [maxLen]; omega) | assumption, ?_⟩
  refine hk _ ?_; clear hk k
  refine awp_le (le_keep [5]) ?_
  simp only [kp, argSl, simprocAttr]
  refine awp_sr [] (by rw [hC]; rfl) fun k hk => ?_
  simp (maxSteps := 9^9) (disch := (try simp only [lens]); omega) only [argSl, sm, ↓amb, mark_eq, simprocAttr, dx]
  repeat refine ⟨by first | omega | (simp; done) | (unfold maxLen; omega) | (simp [maxLen]; omega) | assumption, ?_⟩
  refine hk _ ?_; clear hk k
  refine awp_ret ?_
  rw [show Pl.leB n p = Pl.cntT n p.grain from if_pos hph]
  refine ret1 rfl rfl ?_
  exact .p (LeP.refl _)
set_option maxHeartbeats 4000000 in
theorem c_bound_Scan (c : Bool) (n b : Int) (p : Pl.Plan) : PCall Try.prog 30 [iV n, iV b, .agg (planC c p)] (iV (Pl.scB n b p)) := by
 refine pcall_of_awp Try.func30 rfl (by simp [Try.ntmps30]) fun C hC => ?_
 refine awp_le (le_keep [0, 1, 2]) ?_
 simp only [kp, argSl, simprocAttr]
 refine awp_sr [] (by rw [hC]; rfl) fun k hk => ?_
 simp (maxSteps := 9^9) (disch := (try simp only [lens]); omega) only [argSl, sm, ↓amb, mark_eq, simprocAttr, dx]
 repeat refine ⟨by first | omega | (simp; done) | (unfold maxLen; omega) | (simp [maxLen]; omega) | assumption, ?_⟩
 refine hk _ ?_; clear hk k
 refine awp_le (le_keep [0, 1, 5]) ?_
 simp only [kp, argSl, simprocAttr]
 have hph := Pl.phB_nn (Pl.blk n b) p
 refine awp_sd [] ⟨[0, 0, 3, 0, 15, 31, 63], [3], [], [], some []⟩ (by rw [hC]; rfl) (by kernel_rfl) (by kernel_rfl) fun k hk => ?_
 simp (maxSteps := 9^9) (disch := (try simp only [lens]); omega) only [argSl, sm, ↓amb, mark_eq, simprocAttr, en67, sz51, en28, dx]
 repeat refine ⟨by first | omega | (simp; done) | (unfold maxLen; omega) | (simp [maxLen]; omega) | assumption, ?_⟩
 refine callK_p (c_scan_Blocks _ _) rfl ?_
 simp (maxSteps := 9^9) (disch := (try simp only [lens]); omega) only [argSl, sm, ↓amb, mark_eq, simprocAttr, en67, sz51, en28, dx]
 repeat refine ⟨by first | omega | (simp; done) | (unfold maxLen; omega) | (simp [maxLen]; omega) | assumption, ?_⟩
 refine callK_p (c_bound_Phase _ _ _) rfl ?_
 simp (maxSteps := 9^9) (disch := (try simp only [lens]); omega) only [argSl, sm, ↓amb, mark_eq, simprocAttr, en67, sz51, en28, dx]
 repeat refine ⟨by first | omega | (simp; done) | (unfold maxLen; omega) | (simp [maxLen]; omega) | assumption, ?_⟩
 refine hk _ ?_; clear hk k
 refine awp_ret ?_
 refine ret1 rfl rfl ?_
 exact .p (LeP.refl _)
set_option maxHeartbeats 4000000 in
theorem c_bound_sorter_of (c : Bool) (w : Pl.Way) (n : Int) : PCall Try.prog 69 [.agg (wayC c w ++ [iV (Pl.pas w.bits)]), iV n] (iV (Pl.soB n w)) := by
 refine pcall_of_awp Try.func69 rfl (by simp [Try.ntmps69]) fun C hC => ?_
 refine awp_le (le_keep [0, 1]) ?_
 simp only [kp, argSl, simprocAttr]
 refine awp_sr [] (by rw [hC]; rfl) fun k hk => ?_
 simp (maxSteps := 9^9) (disch := (try simp only [lens]); omega) only [argSl, sm, ↓amb, mark_eq, simprocAttr, List.cons_append, List.nil_append, dx]
 repeat refine ⟨by first | omega | (simp; done) | (unfold maxLen; omega) | (simp [maxLen]; omega) | assumption, ?_⟩
 refine hk _ ?_; clear hk k
 refine awp_seq fun k1 h1 => ?_
 refine awp_test [] 15 (decide (Pl.pas w.bits = 0 ∨ Pl.blk n w.block = 0)) [1, 2, 4] (by rw [hC]; rfl) (fun gd hgd k hk => ?_) ?_
 ·have g3 : gd 3 = some 8 := by rw [hgd]; rfl
  clear hgd
  simp (maxSteps := 9^9) (disch := (try simp only [lens]); omega) only [argSl, sm, ↓amb, mark_eq, simprocAttr, fl99_1, sz3, fl99_0, fl53_1, en67, gcase_undef, g3, List.cons_append, List.nil_append, dx]
  repeat' first | refine hk _ _ rfl rfl rfl rfl ?_ | (refine gsplit (fun hg => ?_) (fun hg => ?_) <;> (try simp only [hbx] at hg) <;> simp (maxSteps := 9^9) (disch := (try simp only [lens]); omega) only [argSl, sm, ↓amb, mark_eq, simprocAttr, fl99_1, sz3, fl99_0, fl53_1, en67, gcase_undef, g3, List.cons_append, List.nil_append, dx]) | apply And.intro | (refine callK_p (c_scan_Blocks _ _) rfl ?_; (try simp (maxSteps := 9^9) (disch := (try simp only [lens]); omega) only [argSl, sm, ↓amb, mark_eq, simprocAttr, fl99_1, sz3, fl99_0, fl53_1, en67, gcase_undef, g3, List.cons_append, List.nil_append, dx])) | fail
  all_goals first | rfl | omega | exact (decide_eq_true (by omega)).symm | exact (decide_eq_false (by omega)).symm | exact decide_eq_decide.mpr (by omega) | (refine Bool.eq_iff_iff.mpr ?_; simp only [beq_iff_eq, bne_iff_ne, ne_eq, decide_eq_true_eq]; omega) | (refine Bool.eq_iff_iff.mpr ?_; simp only [Bool.not_eq_true', Bool.not_eq_false', decide_eq_false_iff_not, decide_eq_true_eq, beq_iff_eq, bne_iff_ne, ne_eq]; omega) | assumption | (simp; done) | (simp [maxLen]; omega) | skip
 simp only [kp, argSl, simprocAttr, List.length_cons, List.length_nil]
 refine awp_cond rfl (fun hb => ?_) (fun hb => ?_)
 ·try simp only [hbx] at hb
  refine awp_le (le_keep []) ?_
  simp only [kp, argSl, simprocAttr]
  refine awp_sr [] (by rw [hC]; rfl) fun k hk => ?_
  simp (maxSteps := 9^9) (disch := (try simp only [lens]); omega) only [argSl, sm, ↓amb, mark_eq, simprocAttr, List.cons_append, List.nil_append, dx]
  repeat refine ⟨by first | omega | (simp; done) | (unfold maxLen; omega) | (simp [maxLen]; omega) | assumption, ?_⟩
  refine hk _ ?_; clear hk k
  refine awp_ret ?_
  rw [show Pl.soB n w = 0 from if_pos hb]
  refine ret1 rfl rfl ?_
  exact .p (LeP.refl _)
 ·try simp only [hbx] at hb
  refine awp_skip ?_
  refine h1 _ ?_; clear h1 k1
  refine awp_le (le_keep [1, 2]) ?_
  simp only [kp, argSl, simprocAttr]
  have m1 := Pl.pas_nn w.bits
  have m2 := Pl.scB_nn n w.block w.plan
  have m3 := Pl.phB_nn n w.plan
  have m4 : 0 ≤ (Pl.pas w.bits + 1) * Pl.scB n w.block w.plan := Int.mul_nonneg (by omega) m2.1
  have m5 : (Pl.pas w.bits + 1) * Pl.scB n w.block w.plan ≤ 33 * 40000 := Pl.mul_up (by omega) m2.2 m2.1 (by omega)
  have m6 : 0 ≤ Pl.pas w.bits * Pl.scB n w.block w.plan := Int.mul_nonneg (by omega) m2.1
  have m7 : Pl.pas w.bits * Pl.scB n w.block w.plan ≤ 33 * 40000 := Pl.mul_up (by omega) m2.2 m2.1 (by omega)
  refine awp_sd [] ⟨[0, 1, 3, 0, 0, 16, 48, 0, 128, 384, 1016, 2047, 0, 0, 8192, 24576, 63480, 131071, 262143], [1, 6, 9, 15], [], [], some []⟩ (by rw [hC]; rfl) (by kernel_rfl) (by kernel_rfl) fun k hk => ?_
  simp (maxSteps := 9^9) (disch := (try simp only [lens]); omega) only [argSl, sm, ↓amb, mark_eq, simprocAttr, fl99_1, sz3, fl99_0, fl53_1, fl53_2, sz51, en30, en28, List.cons_append, List.nil_append, dx]
  repeat refine ⟨by first | omega | (simp; done) | (unfold maxLen; omega) | (simp [maxLen]; omega) | assumption, ?_⟩
  refine callK_p (c_bound_Scan _ _ _ w.plan) rfl ?_
  simp (maxSteps := 9^9) (disch := (try simp only [lens]); omega) only [argSl, sm, ↓amb, mark_eq, simprocAttr, fl99_1, sz3, fl99_0, fl53_1, fl53_2, sz51, en30, en28, List.cons_append, List.nil_append, dx]
  repeat refine ⟨by first | omega | (simp; done) | (unfold maxLen; omega) | (simp [maxLen]; omega) | assumption, ?_⟩
  refine callK_p (c_bound_Phase _ _ w.plan) rfl ?_
  simp (maxSteps := 9^9) (disch := (try simp only [lens]); omega) only [argSl, sm, ↓amb, mark_eq, simprocAttr, fl99_1, sz3, fl99_0, fl53_1, fl53_2, sz51, en30, en28, List.cons_append, List.nil_append, dx]
  repeat refine ⟨by first | omega | (simp; done) | (unfold maxLen; omega) | (simp [maxLen]; omega) | assumption, ?_⟩
  refine hk _ ?_; clear hk k
  refine awp_ret ?_
  rw [show Pl.soB n w = _ from if_neg (by first | exact hb | omega)]
  refine ret1 rfl rfl ?_
  exact .p (LeP.refl _)
set_option maxHeartbeats 4000000 in
theorem c_bound_Sort (c : Bool) (n : Int) (w : Pl.Way) : PCall Try.prog 32 [iV n, .agg (wayC c w)] (iV (Pl.soB n w)) := by
 refine pcall_of_awp Try.func32 rfl (by simp [Try.ntmps32]) fun C hC => ?_
 refine awp_le (le_keep [0, 1]) ?_
 simp only [kp, argSl, simprocAttr]
 refine awp_sr [] (by rw [hC]; rfl) fun k hk => ?_
 simp (maxSteps := 9^9) (disch := (try simp only [lens]); omega) only [argSl, sm, ↓amb, mark_eq, simprocAttr, dx]
 repeat refine ⟨by first | omega | (simp; done) | (unfold maxLen; omega) | (simp [maxLen]; omega) | assumption, ?_⟩
 refine hk _ ?_; clear hk k
 refine awp_le (le_keep [0, 3]) ?_
 simp only [kp, argSl, simprocAttr]
 refine awp_sd [] ⟨[0, 0, 2, 6, 15, 0, 63, 127], [0, 2], [], [], some []⟩ (by rw [hC]; rfl) (by kernel_rfl) (by kernel_rfl) fun k hk => ?_
 simp (maxSteps := 9^9) (disch := (try simp only [lens]); omega) only [argSl, sm, ↓amb, mark_eq, simprocAttr, sz53, fl53_0, sz3, en68, vr99, bt99, pl99_0, pl99_1, en69, dx]
 repeat refine ⟨by first | omega | (simp; done) | (unfold maxLen; omega) | (simp [maxLen]; omega) | assumption, ?_⟩
 refine callK_p (c_radix_Passes _) rfl ?_
 simp (maxSteps := 9^9) (disch := (try simp only [lens]); omega) only [argSl, sm, ↓amb, mark_eq, simprocAttr, sz53, fl53_0, sz3, en68, vr99, bt99, pl99_0, pl99_1, en69, dx]
 repeat refine ⟨by first | omega | (simp; done) | (unfold maxLen; omega) | (simp [maxLen]; omega) | assumption, ?_⟩
 refine callK_p (c_bound_sorter_of _ w _) rfl ?_
 simp (maxSteps := 9^9) (disch := (try simp only [lens]); omega) only [argSl, sm, ↓amb, mark_eq, simprocAttr, sz53, fl53_0, sz3, en68, vr99, bt99, pl99_0, pl99_1, en69, dx]
 repeat refine ⟨by first | omega | (simp; done) | (unfold maxLen; omega) | (simp [maxLen]; omega) | assumption, ?_⟩
 refine hk _ ?_; clear hk k
 refine awp_ret ?_
 refine ret1 rfl rfl ?_
 exact .p (LeP.refl _)
end Go.Proofs.Ytjkkjiaeeobnkaa
end
section
set_option linter.unusedSimpArgs false
set_option linter.unusedVariables false
set_option maxRecDepth 100000
namespace Go.Proofs.Ytjkkjiaeeobnkaa
open Go.Am Go.Proofs
theorem fl117_0 : tFld Try.prog 117 0 = some (0, 1, false) := by kernel_rfl
theorem fl117_1 : tFld Try.prog 117 1 = some (1, 1, false) := by kernel_rfl
theorem sz117 : tSz Try.prog 117 = some (true, 2) := by kernel_rfl
end Go.Proofs.Ytjkkjiaeeobnkaa
end
section
set_option linter.unusedSimpArgs false
set_option linter.unusedVariables false
set_option maxRecDepth 100000
namespace Go.Proofs.Ytjkkjiaeeobnkaa
open Go.Am Go.Proofs
theorem en80 : enters Try.prog 80 = true := by kernel_rfl
theorem en81 : enters Try.prog 81 = true := by kernel_rfl
set_option maxHeartbeats 4000000 in
theorem c_ref06_Leaves (ce : Bool) (c : Pl.Crew) (ev : List Pl.Event) (he : ev.length ≤ 1000000) : PCall Try.prog 81 [.agg (crewC c), .seq ce (ev.map evC)] (.seq false ((Pl.leaves' c.work.ts ev).map (fun s => [iV s.1, iV s.2]))) := by
 refine pcall_of_awp Try.func81 rfl (by simp [Try.ntmps81]) fun C hC => ?_
 refine awp_le (le_keep [0, 1]) ?_
 simp only [kp, argSl, simprocAttr]
 refine awp_sr [57] (by rw [hC]; rfl) fun k hk => ?_
 simp (maxSteps := 9^9) (disch := (try simp only [lens]); omega) only [argSl, sm, ↓amb, mark_eq, simprocAttr, dx]
 repeat refine ⟨by first | omega | (simp; done) | (unfold maxLen; omega) | (simp [maxLen]; omega) | assumption, ?_⟩
 refine hk _ ?_; clear hk k
 refine awp_le (le_keep [1, 2]) ?_
 simp only [kp, argSl, simprocAttr]
 refine awp_sr [57] (by rw [hC]; rfl) fun k hk => ?_
 simp (maxSteps := 9^9) (disch := (try simp only [lens]); omega) only [argSl, sm, ↓amb, mark_eq, simprocAttr, dx]
 repeat refine ⟨by first | omega | (simp; done) | (unfold maxLen; omega) | (simp [maxLen]; omega) | assumption, ?_⟩
 refine hk _ ?_; clear hk k
 refine awp_seq fun k1 h1 => ?_
 refine awp_le (le_keep [1, 2, 4, 5]) ?_
 simp only [kp, argSl, simprocAttr]
 refine awp_own' 5 2 rfl ?_
 refine awp_sr [57] (by rw [hC]; rfl) fun k hk => ?_
 simp (maxSteps := 9^9) (disch := (try simp only [lens]); omega) only [argSl, sm, ↓amb, mark_eq, simprocAttr, dx]
 repeat refine ⟨by first | omega | (simp; done) | (unfold maxLen; omega) | (simp [maxLen]; omega) | assumption, ?_⟩
 refine hk _ ?_; clear hk k
 refine awp_block ?_
 refine awp_loop (σ := Nat) (fun i => i ≤ ev.length) (fun (i : Nat) => ⟨[(1, (.p (.seq ce (ev.map evC)))), (2, (.ptr 0 7 0 0)), (5, (.own 1)), (6, (.p (iV (i : Int))))], [(0, (.row 7 [[.p (.seq false (c.work.ts.map taskC)), .p (iV c.work.grain), .p (.seq false (c.work.done.map fun b => [bV b])), .p (.seq false (c.dq.map lV)), .p (bV c.over), .p (iV c.steps), .p (iV c.idle)]])), (1, (.row 2 (lift ((Pl.leaves' c.work.ts (ev.take i)).map (fun s => [iV s.1, iV s.2])))))], 1⟩) (fun i => ev.length - i) 0 ?_ ?_ fun i hi => ?_
 ·exact Nat.zero_le _
 ·exact le_of [(0, _), (1, _)] (by rfl) (by rfl) ⟨⟨_, rfl, .p (.of_eq (by first | rfl | (simp only [PV.lit.injEq, Value.int.injEq, true_and]; omega) | (simp; done) | (simp; omega)))⟩, ⟨_, rfl, .ptr rfl⟩, ⟨_, rfl, .own rfl⟩, ⟨_, rfl, .p (.of_eq (by first | rfl | (simp only [PV.lit.injEq, Value.int.injEq, true_and]; omega) | (simp; done) | (simp; omega)))⟩, trivial⟩ ⟨⟨_, rfl, _, rfl, .one (.cons (.p (.refl _)) (.cons (.p (.refl _)) (.cons (.p (.refl _)) (.cons (.p (.refl _)) (.cons (.p (.refl _)) (.cons (.p (.refl _)) (.cons (.p (.refl _)) (.nil))))))))⟩, ⟨_, rfl, _, rfl, .liftE (by first | (rw [List.take_zero]; rfl) | (rw [Pl.leaves_take _ _ i (by omega), if_neg (by rw [hnl]; decide), List.append_nil]; done) | (rw [Pl.leaves_take _ _ i (by omega), if_pos hlf, List.map_append]; rfl) | trace_state)⟩, trivial⟩
 refine awp_seq fun k3 h3 => ?_
 refine awp_le (le_keep [0, 1, 2, 4, 5, 6]) ?_
 simp only [kp, argSl, simprocAttr]
 refine awp_sr [57] (by rw [hC]; rfl) fun k hk => ?_
 simp (maxSteps := 9^9) (disch := (try simp only [lens]); omega) only [argSl, sm, ↓amb, mark_eq, simprocAttr, el111, dx]
 repeat refine ⟨by first | omega | (simp; done) | (unfold maxLen; omega) | (simp [maxLen]; omega) | assumption, ?_⟩
 refine hk _ ?_; clear hk k
 refine awp_cond rfl (fun hb => ?_) (fun hb => ?_)
 ·try simp only [hbx] at hb
  refine awp_skip ?_
  refine h3 _ ?_; clear h3 k3
  refine awp_seq fun k4 h4 => ?_
  refine awp_block ?_
  refine awp_testD [57] ⟨[0, 0, 3, 7, 15, 31, 63, 127, 127, 511, 1023, 2047, 127, 4223, 12415, 28799, 65535, 131071, 262143, 524287, 524287, 2097151, 4194303, 8388607, 16777215, 33554431], [4, 11, 14, 15, 23], [], [], some []⟩ 39 (decide (0 ≤ (ev.getD i default).task ∧ (ev.getD i default).task < c.work.ts.length ∧ (ev.getD i default).parted = false)) [0, 1, 2, 4, 5, 6] (by rw [hC]; rfl) (by kernel_rfl) (by kernel_rfl) (fun gd hgd k hk => ?_) ?_
  ·have g6 : gd 6 = some 20 := by rw [hgd]; rfl
   have g18 : gd 18 = some 32 := by rw [hgd]; rfl
   clear hgd
   simp (maxSteps := 9^9) (disch := (try simp only [lens]); omega) only [argSl, sm, ↓amb, mark_eq, simprocAttr, el111, sz139, fl139_2, sz3, fl110_0, fl107_0, sz104, el104, fl139_3, sz4, gcase_undef, g6, g18, dx]
   repeat' first | refine hk _ _ rfl rfl rfl rfl ?_ | (refine gsplit (fun hg => ?_) (fun hg => ?_) <;> (try simp only [hbx] at hg) <;> simp (maxSteps := 9^9) (disch := (try simp only [lens]); omega) only [argSl, sm, ↓amb, mark_eq, simprocAttr, el111, sz139, fl139_2, sz3, fl110_0, fl107_0, sz104, el104, fl139_3, sz4, gcase_undef, g6, g18, dx]) | apply And.intro | fail
   all_goals first | rfl | omega | exact (decide_eq_true (by omega)).symm | exact (decide_eq_false (by omega)).symm | exact decide_eq_decide.mpr (by omega) | (refine Bool.eq_iff_iff.mpr ?_; simp only [beq_iff_eq, bne_iff_ne, ne_eq, decide_eq_true_eq]; omega) | (refine Bool.eq_iff_iff.mpr ?_; simp only [Bool.not_eq_true', Bool.not_eq_false', decide_eq_false_iff_not, decide_eq_true_eq, beq_iff_eq, bne_iff_ne, ne_eq]; omega) | assumption | (simp; done) | (simp [maxLen]; omega) | skip
   all_goals first | (refine (decide_eq_false ?_).symm; intro q; omega) | (refine Bool.eq_iff_iff.mpr ?_; simp only [Bool.not_eq_true', decide_eq_true_eq]; exact ⟨fun h => ⟨by omega, by omega, h⟩, fun h => h.2.2⟩) | trace_state
  simp only [kp, argSl, simprocAttr, List.length_cons, List.length_nil]
  refine awp_cond rfl (fun hb => ?_) (fun hb => ?_)
  ·try simp only [hbx] at hb
   refine awp_le (le_keep [0, 1, 2, 4, 5, 6]) ?_
   simp only [kp, argSl, simprocAttr]
   obtain ⟨hlf, hlf2, hlf3⟩ := Pl.isLeaf_yes (ts := c.work.ts) (e := (ev.getD i default)) (by rintro (q | q | q); rw [hb.2.2] at q; cases q; omega; omega)
   have hll := Pl.leaves_len c.work.ts (ev.take i)
   rw [List.length_take] at hll
   refine awp_sd [57] ⟨[0, 1, 3, 0, 0, 24, 56, 120, 255, 511, 0, 2047], [2, 7, 9], [11], [(10, 11)], none⟩ (by rw [hC]; rfl) (by kernel_rfl) (by kernel_rfl) fun k hk => ?_
   simp (maxSteps := 9^9) (disch := (try simp only [lens]); omega) only [argSl, sm, ↓amb, mark_eq, simprocAttr, fl110_0, fl107_0, sz104, el111, sz139, fl139_2, sz3, el104, sz128, vr128, dx]
   repeat refine ⟨by first | omega | (simp; done) | (unfold maxLen; omega) | (simp [maxLen]; omega) | assumption, ?_⟩
   refine hk _ ?_; clear hk k
   refine awp_region [57] (by rw [hC]; rfl) fun k hk => ?_
   simp (maxSteps := 9^9) (disch := (try simp only [lens]); omega) only [argSl, sm, ↓amb, mark_eq, simprocAttr, fl128_0, sz3, fl128_1, vr117, bt117, pl117_0, pl117_1, el114, by117, dx]
   repeat refine ⟨by first | omega | (simp; done) | (unfold maxLen; omega) | (simp [maxLen]; omega) | assumption, ?_⟩
   refine hk _ ?_; clear hk k
   refine h4 _ ?_; clear h4 k4
   refine awp_region [57] (by rw [hC]; rfl) fun k hk => ?_
   simp (maxSteps := 9^9) (disch := (try simp only [lens]); omega) only [argSl, sm, ↓amb, mark_eq, simprocAttr, dx]
   repeat refine ⟨by first | omega | (simp; done) | (unfold maxLen; omega) | (simp [maxLen]; omega) | assumption, ?_⟩
   refine hk _ ?_; clear hk k
   refine ⟨i + 1, by omega, le_of [(0, _), (1, _)] (by rfl) (by rfl) ⟨⟨_, rfl, .p (.of_eq (by first | rfl | (simp only [PV.lit.injEq, Value.int.injEq, true_and]; omega) | (simp; done) | (simp; omega)))⟩, ⟨_, rfl, .ptr rfl⟩, ⟨_, rfl, .own rfl⟩, ⟨_, rfl, .p (.of_eq (by first | rfl | (simp only [PV.lit.injEq, Value.int.injEq, true_and]; omega) | (simp; done) | (simp; omega)))⟩, trivial⟩ ⟨⟨_, rfl, _, rfl, .one (.cons (.p (.refl _)) (.cons (.p (.refl _)) (.cons (.p (.refl _)) (.cons (.p (.refl _)) (.cons (.p (.refl _)) (.cons (.p (.refl _)) (.cons (.p (.refl _)) (.nil))))))))⟩, ⟨_, rfl, _, rfl, .liftE (by first | (rw [List.take_zero]; rfl) | (rw [Pl.leaves_take _ _ i (by omega), if_neg (by rw [hnl]; decide), List.append_nil]; done) | (rw [Pl.leaves_take _ _ i (by omega), if_pos hlf, List.map_append]; rfl) | trace_state)⟩, trivial⟩, by omega⟩
  ·try simp only [hbx] at hb
   refine awp_skip ?_
   refine h4 _ ?_; clear h4 k4
   have hnl := Pl.isLeaf_no (ts := c.work.ts) (e := (ev.getD i default)) (by by_cases q1 : (ev.getD i default).task < 0; exact .inr (.inl q1); by_cases q2 : (c.work.ts.length : Int) ≤ (ev.getD i default).task; exact .inr (.inr q2); refine .inl (by cases q3 : (ev.getD i default).parted; exact absurd ⟨by omega, by omega, q3⟩ hb; rfl))
   refine awp_region [57] (by rw [hC]; rfl) fun k hk => ?_
   simp (maxSteps := 9^9) (disch := (try simp only [lens]); omega) only [argSl, sm, ↓amb, mark_eq, simprocAttr, dx]
   repeat refine ⟨by first | omega | (simp; done) | (unfold maxLen; omega) | (simp [maxLen]; omega) | assumption, ?_⟩
   refine hk _ ?_; clear hk k
   refine ⟨i + 1, by omega, le_of [(0, _), (1, _)] (by rfl) (by rfl) ⟨⟨_, rfl, .p (.of_eq (by first | rfl | (simp only [PV.lit.injEq, Value.int.injEq, true_and]; omega) | (simp; done) | (simp; omega)))⟩, ⟨_, rfl, .ptr rfl⟩, ⟨_, rfl, .own rfl⟩, ⟨_, rfl, .p (.of_eq (by first | rfl | (simp only [PV.lit.injEq, Value.int.injEq, true_and]; omega) | (simp; done) | (simp; omega)))⟩, trivial⟩ ⟨⟨_, rfl, _, rfl, .one (.cons (.p (.refl _)) (.cons (.p (.refl _)) (.cons (.p (.refl _)) (.cons (.p (.refl _)) (.cons (.p (.refl _)) (.cons (.p (.refl _)) (.cons (.p (.refl _)) (.nil))))))))⟩, ⟨_, rfl, _, rfl, .liftE (by first | (rw [List.take_zero]; rfl) | (rw [Pl.leaves_take _ _ i (by omega), if_neg (by rw [hnl]; decide), List.append_nil]; done) | (rw [Pl.leaves_take _ _ i (by omega), if_pos hlf, List.map_append]; rfl) | trace_state)⟩, trivial⟩, by omega⟩
 ·try simp only [hbx] at hb
  refine awp_exit ((if_pos rfl).mpr ?_)
  refine h1 _ ?_; clear h3 k3; clear h1 k1
  refine awp_le (le_keep [5]) ?_
  simp only [kp, argSl, simprocAttr]
  have htk : ev.take i = ev := List.take_of_length_le (by omega)
  rw [htk]
  refine awp_sr [57] (by rw [hC]; rfl) fun k hk => ?_
  simp (maxSteps := 9^9) (disch := (try simp only [lens]); omega) only [argSl, sm, ↓amb, mark_eq, simprocAttr, dx]
  repeat refine ⟨by first | omega | (simp; done) | (unfold maxLen; omega) | (simp [maxLen]; omega) | assumption, ?_⟩
  refine hk _ ?_; clear hk k
  refine awp_ret ?_
  refine ret1 rfl rfl ?_
  exact .ownE rfl rfl
set_option maxHeartbeats 4000000 in
theorem c_ref07_Order (c : Bool) (n : Int) (p : Pl.Plan) : PCall Try.prog 44 [iV n, .agg (planC c p)] (.tup [ints false (Pl.ordU n p), iV (Pl.ordS n p), iV (Pl.ordE n p)]) := by
 refine pcall_of_awp Try.func44 rfl (by simp [Try.ntmps44]) fun C hC => ?_
 refine awp_le (le_keep [0, 1]) ?_
 simp only [kp, argSl, simprocAttr]
 refine awp_sr [68] (by rw [hC]; rfl) fun k hk => ?_
 simp (maxSteps := 9^9) (disch := (try simp only [lens]); omega) only [argSl, sm, ↓amb, mark_eq, simprocAttr, dx]
 repeat refine ⟨by first | omega | (simp; done) | (unfold maxLen; omega) | (simp [maxLen]; omega) | assumption, ?_⟩
 refine hk _ ?_; clear hk k
 refine awp_seq fun k1 h1 => ?_
 refine awp_test [68] 24 (decide (¬ Pl.ordOk n p)) [0, 3, 4, 5, 6] (by rw [hC]; rfl) (fun gd hgd k hk => ?_) ?_
 ·have g2 : gd 2 = some 16 := by rw [hgd]; rfl
  have g6 : gd 6 = some 20 := by rw [hgd]; rfl
  clear hgd
  simp (maxSteps := 9^9) (disch := (try simp only [lens]); omega) only [argSl, sm, ↓amb, mark_eq, simprocAttr, sz51, en65, gcase_undef, g2, g6, dx]
  repeat' first | refine hk _ _ rfl rfl rfl rfl ?_ | (refine gsplit (fun hg => ?_) (fun hg => ?_) <;> (try simp only [hbx] at hg) <;> simp (maxSteps := 9^9) (disch := (try simp only [lens]); omega) only [argSl, sm, ↓amb, mark_eq, simprocAttr, sz51, en65, gcase_undef, g2, g6, dx]) | apply And.intro | (refine callK_p (c_ref07_Right _ _) rfl ?_; (try simp (maxSteps := 9^9) (disch := (try simp only [lens]); omega) only [argSl, sm, ↓amb, mark_eq, simprocAttr, sz51, en65, gcase_undef, g2, g6, dx])) | fail
  all_goals first | rfl | omega | exact (decide_eq_true (by omega)).symm | exact (decide_eq_false (by omega)).symm | exact decide_eq_decide.mpr (by omega) | (refine Bool.eq_iff_iff.mpr ?_; simp only [beq_iff_eq, bne_iff_ne, ne_eq, decide_eq_true_eq]; omega) | (refine Bool.eq_iff_iff.mpr ?_; simp only [Bool.not_eq_true', Bool.not_eq_false', decide_eq_false_iff_not, decide_eq_true_eq, beq_iff_eq, bne_iff_ne, ne_eq]; omega) | assumption | (simp; done) | (simp [maxLen]; omega) | skip
  all_goals first | (refine (decide_eq_true ?_).symm; intro q; exact absurd q.1 (by omega)) | (refine (decide_eq_true ?_).symm; intro q; exact absurd q.2.1 (by omega)) | (refine Bool.eq_iff_iff.mpr ?_; simp only [Bool.not_eq_true', decide_eq_false_iff_not, decide_eq_true_eq]; exact ⟨fun h q => h q.2.2, fun h q => h ⟨by omega, by omega, q⟩⟩)
 simp only [kp, argSl, simprocAttr, List.length_cons, List.length_nil]
 refine awp_cond rfl (fun hb => ?_) (fun hb => ?_)
 ·try simp only [hbx] at hb
  refine awp_le (le_keep []) ?_
  simp only [kp, argSl, simprocAttr]
  refine awp_sr [68] (by rw [hC]; rfl) fun k hk => ?_
  simp (maxSteps := 9^9) (disch := (try simp only [lens]); omega) only [argSl, sm, ↓amb, mark_eq, simprocAttr, dx]
  repeat refine ⟨by first | omega | (simp; done) | (unfold maxLen; omega) | (simp [maxLen]; omega) | assumption, ?_⟩
  refine hk _ ?_; clear hk k
  refine awp_ret ?_
  obtain ⟨e1, e2, e3⟩ := Pl.ord_no (n := n) (p := p) (by first | exact hb | simpa using hb)
  rw [e1, e2, e3]
  refine ret3 rfl rfl rfl rfl ?_ ?_ ?_
  ·exact .p (LeP.seq _ _)
  ·exact .p (LeP.refl _)
  ·exact .p (LeP.refl _)
 ·try simp only [hbx] at hb
  refine awp_skip ?_
  refine h1 _ ?_; clear h1 k1
  refine awp_seq fun k2 h2 => ?_
  refine awp_le (le_keep [0, 3, 4, 5, 6]) ?_
  simp only [kp, argSl, simprocAttr]
  have hok : Pl.ordOk n p := by first | exact hb | (simpa using hb)
  refine awp_sr [68] (by rw [hC]; rfl) fun k hk => ?_
  simp (maxSteps := 9^9) (disch := (try simp only [lens]); omega) only [argSl, sm, ↓amb, mark_eq, simprocAttr, dx]
  repeat refine ⟨by first | omega | (simp; done) | (unfold maxLen; omega) | (simp [maxLen]; omega) | assumption, ?_⟩
  refine hk _ ?_; clear hk k
  refine awp_cond rfl (fun hb => ?_) (fun hb => ?_)
  ·try simp only [hbx] at hb
   refine awp_le (le_keep []) ?_
   simp only [kp, argSl, simprocAttr]
   refine awp_sr [68] (by rw [hC]; rfl) fun k hk => ?_
   simp (maxSteps := 9^9) (disch := (try simp only [lens]); omega) only [argSl, sm, ↓amb, mark_eq, simprocAttr, dx]
   repeat refine ⟨by first | omega | (simp; done) | (unfold maxLen; omega) | (simp [maxLen]; omega) | assumption, ?_⟩
   refine hk _ ?_; clear hk k
   refine awp_ret ?_
   subst hb
   obtain ⟨e1, e2⟩ := Pl.ord_zero p
   rw [e1, e2, Pl.ordE0 hok]
   refine ret3 rfl rfl rfl rfl ?_ ?_ ?_
   ·exact .p (LeP.seq _ _)
   ·exact .p (LeP.refl _)
   ·exact .p (LeP.refl _)
  ·try simp only [hbx] at hb
   refine awp_skip ?_
   refine h2 _ ?_; clear h2 k2
   refine awp_le (le_keep [0, 3]) ?_
   simp only [kp, argSl, simprocAttr]
   have hn0 := hb
   have hbd := Pl.ord_bd hok hn0
   obtain ⟨u1, u2, u3, u4, u5, u6, u7⟩ := Pl.ordL_ok hok hn0
   have hn1 := hok.2.1
   refine awp_sr [68] (by rw [hC]; rfl) fun k hk => ?_
   simp (maxSteps := 9^9) (disch := (try simp only [lens]); omega) only [argSl, sm, ↓amb, mark_eq, simprocAttr, fl51_0, sz3, fl51_1, fl51_2, sz49, en80, vr110, sz110, dx]
   repeat refine ⟨by first | omega | (simp; done) | (unfold maxLen; omega) | (simp [maxLen]; omega) | assumption, ?_⟩
   refine callK_p (c_ref06_Whole _ n p.grain p.workers p.picks hbd.1 (by omega)) rfl ?_
   simp (maxSteps := 9^9) (disch := (try simp only [lens]); omega) only [argSl, sm, ↓amb, mark_eq, simprocAttr, fl51_0, sz3, fl51_1, fl51_2, sz49, en80, vr110, sz110, dx]
   repeat refine ⟨by first | omega | (simp; done) | (unfold maxLen; omega) | (simp [maxLen]; omega) | assumption, ?_⟩
   refine hk _ ?_; clear hk k
   refine awp_seq fun k3 h3 => ?_
   refine awp_le (le_keep [4, 5, 6, 7, 8, 9]) ?_
   simp only [kp, argSl, simprocAttr]
   refine awp_sr [68] (by rw [hC]; rfl) fun k hk => ?_
   simp (maxSteps := 9^9) (disch := (try simp only [lens]); omega) only [argSl, sm, ↓amb, mark_eq, simprocAttr, dx]
   repeat refine ⟨by first | omega | (simp; done) | (unfold maxLen; omega) | (simp [maxLen]; omega) | assumption, ?_⟩
   refine hk _ ?_; clear hk k
   refine awp_cond rfl (fun hb => ?_) (fun hb => ?_)
   ·exact absurd hb (by simp)
   ·try simp only [hbx] at hb
    refine awp_skip ?_
    refine h3 _ ?_; clear h3 k3
    refine awp_le (le_keep [7, 8]) ?_
    simp only [kp, argSl, simprocAttr]
    refine awp_sr [68] (by rw [hC]; rfl) fun k hk => ?_
    simp (maxSteps := 9^9) (disch := (try simp only [lens]); omega) only [argSl, sm, ↓amb, mark_eq, simprocAttr, dx]
    repeat refine ⟨by first | omega | (simp; done) | (unfold maxLen; omega) | (simp [maxLen]; omega) | assumption, ?_⟩
    refine hk _ ?_; clear hk k
    refine awp_le (le_keep [7, 8, 10]) ?_
    simp only [kp, argSl, simprocAttr]
    have hws : (Pl.whole n p.grain p.workers p.picks).2.1.length ≤ 1000000 := by have := u6; unfold Pl.ordW at this; omega
    refine awp_own' 10 1 rfl ?_
    refine awp_sr [68] (by rw [hC]; rfl) fun k hk => ?_
    simp (maxSteps := 9^9) (disch := (try simp only [lens]); omega) only [argSl, sm, ↓amb, mark_eq, simprocAttr, sz110, en81, dx]
    repeat refine ⟨by first | omega | (simp; done) | (unfold maxLen; omega) | (simp [maxLen]; omega) | assumption, ?_⟩
    refine callK_p (c_ref06_Leaves _ _ _ hws) rfl ?_
    simp (maxSteps := 9^9) (disch := (try simp only [lens]); omega) only [argSl, sm, ↓amb, mark_eq, simprocAttr, sz110, en81, dx]
    repeat refine ⟨by first | omega | (simp; done) | (unfold maxLen; omega) | (simp [maxLen]; omega) | assumption, ?_⟩
    refine hk _ ?_; clear hk k
    refine awp_seq fun k4 h4 => ?_
    refine awp_le (le_keep [4, 5, 6, 8, 10, 11]) ?_
    simp only [kp, argSl, simprocAttr]
    refine awp_sr [68] (by rw [hC]; rfl) fun k hk => ?_
    simp (maxSteps := 9^9) (disch := (try simp only [lens]); omega) only [argSl, sm, ↓amb, mark_eq, simprocAttr, dx]
    repeat refine ⟨by first | omega | (simp; done) | (unfold maxLen; omega) | (simp [maxLen]; omega) | assumption, ?_⟩
    refine hk _ ?_; clear hk k
    refine awp_block ?_
    refine awp_loop (σ := Nat) (fun i => i ≤ (Pl.ordL n p).length) (fun (i : Nat) => ⟨[(8, (.p (.seq false ((Pl.whole n p.grain p.workers p.picks).2.1.map evC)))), (10, (.own 0)), (11, (.p (.seq false ((Pl.ordL n p).map (fun s => [iV s.1, iV s.2]))))), (12, (.p (iV (i : Int))))], [(0, (.row 1 (lift ((Pl.unitsOf ((Pl.ordL n p).take i)).map fun x => [iV x]))))], 1⟩) (fun i => (Pl.ordL n p).length - i) 0 ?_ ?_ fun i hi => ?_
    ·exact Nat.zero_le _
    ·exact le_of [(0, _)] (by rfl) (by rfl) ⟨⟨_, rfl, .p (.of_eq (by first | rfl | (simp only [PV.lit.injEq, Value.int.injEq, true_and]; omega) | (simp; done) | (simp; omega)))⟩, ⟨_, rfl, .own rfl⟩, ⟨_, rfl, .p (.of_eq (by first | rfl | (simp only [PV.lit.injEq, Value.int.injEq, true_and]; omega) | (simp; done) | (simp; omega)))⟩, ⟨_, rfl, .p (.of_eq (by first | rfl | (simp only [PV.lit.injEq, Value.int.injEq, true_and]; omega) | (simp; done) | (simp; omega)))⟩, trivial⟩ ⟨⟨_, rfl, _, rfl, .liftE (by first | (rw [List.take_zero]; rfl) | (rw [Pl.unitsOf_take _ i (by omega), hke]))⟩, trivial⟩
    refine awp_seq fun k6 h6 => ?_
    refine awp_le (le_keep [0, 4, 5, 6, 8, 10, 11, 12]) ?_
    simp only [kp, argSl, simprocAttr]
    refine awp_sr [68] (by rw [hC]; rfl) fun k hk => ?_
    simp (maxSteps := 9^9) (disch := (try simp only [lens]); omega) only [argSl, sm, ↓amb, mark_eq, simprocAttr, el114, dx]
    repeat refine ⟨by first | omega | (simp; done) | (unfold maxLen; omega) | (simp [maxLen]; omega) | assumption, ?_⟩
    refine hk _ ?_; clear hk k
    refine awp_cond rfl (fun hb => ?_) (fun hb => ?_)
    ·try simp only [hbx] at hb
     refine awp_skip ?_
     refine h6 _ ?_; clear h6 k6
     refine awp_seq fun k7 h7 => ?_
     refine awp_block ?_
     refine awp_le (le_keep [0, 4, 5, 6, 8, 10, 11, 12]) ?_
     simp only [kp, argSl, simprocAttr]
     obtain ⟨s1, s2, s3⟩ := u3 ((Pl.ordL n p).getD i default) (Pl.getD_mem _ i default (by omega))
     refine awp_sr [68] (by rw [hC]; rfl) fun k hk => ?_
     simp (maxSteps := 9^9) (disch := (try simp only [lens]); omega) only [argSl, sm, ↓amb, mark_eq, simprocAttr, el114, sz117, fl117_0, sz3, dx]
     repeat refine ⟨by first | omega | (simp; done) | (unfold maxLen; omega) | (simp [maxLen]; omega) | assumption, ?_⟩
     refine hk _ ?_; clear hk k
     refine awp_block ?_
     refine awp_loop (σ := Nat) (fun k => (k : Int) ≤ ((Pl.ordL n p).getD i default).2 - ((Pl.ordL n p).getD i default).1) (fun (k : Nat) => ⟨[(8, (.p (.seq false ((Pl.whole n p.grain p.workers p.picks).2.1.map evC)))), (10, (.own 0)), (11, (.p (.seq false ((Pl.ordL n p).map (fun s => [iV s.1, iV s.2]))))), (12, (.p (iV (i : Int)))), (13, (.p (iV (((Pl.ordL n p).getD i default).1 + (k : Int)))))], [(0, (.row 1 (lift ((Pl.unitsOf ((Pl.ordL n p).take i) ++ Pl.upto ((Pl.ordL n p).getD i default).1 (((Pl.ordL n p).getD i default).1 + (k : Int))).map fun x => [iV x]))))], 1⟩) (fun k => (((Pl.ordL n p).getD i default).2 - ((Pl.ordL n p).getD i default).1).toNat - k) 0 ?_ ?_ fun k hk => ?_
     ·show ((0 : Nat) : Int) ≤ _; omega
     ·exact le_of [(0, _)] (by rfl) (by rfl) ⟨⟨_, rfl, .p (.of_eq (by first | rfl | (simp only [PV.lit.injEq, Value.int.injEq, true_and]; omega) | (simp; done) | (simp; omega)))⟩, ⟨_, rfl, .own rfl⟩, ⟨_, rfl, .p (.of_eq (by first | rfl | (simp only [PV.lit.injEq, Value.int.injEq, true_and]; omega) | (simp; done) | (simp; omega)))⟩, ⟨_, rfl, .p (.of_eq (by first | rfl | (simp only [PV.lit.injEq, Value.int.injEq, true_and]; omega) | (simp; done) | (simp; omega)))⟩, ⟨_, rfl, .p (.of_eq (by first | rfl | (simp only [PV.lit.injEq, Value.int.injEq, true_and]; omega) | (simp; done) | (simp; omega)))⟩, trivial⟩ ⟨⟨_, rfl, _, rfl, .liftE (by first | (rw [Pl.upto_nil (by simp), List.append_nil]; done) | (rw [← Pl.upto_snoc, ← List.append_assoc]; simp only [List.map_append, List.map_cons, List.map_nil]))⟩, trivial⟩
     refine awp_seq fun k9 h9 => ?_
     refine awp_le (le_keep [0, 4, 5, 6, 8, 10, 11, 12, 13]) ?_
     simp only [kp, argSl, simprocAttr]
     refine awp_sr [68] (by rw [hC]; rfl) fun k hk => ?_
     simp (maxSteps := 9^9) (disch := (try simp only [lens]); omega) only [argSl, sm, ↓amb, mark_eq, simprocAttr, el114, sz117, fl117_1, sz3, dx]
     repeat refine ⟨by first | omega | (simp; done) | (unfold maxLen; omega) | (simp [maxLen]; omega) | assumption, ?_⟩
     refine hk _ ?_; clear hk k
     refine awp_cond rfl (fun hb => ?_) (fun hb => ?_)
     ·try simp only [hbx] at hb
      refine awp_skip ?_
      refine h9 _ ?_; clear h9 k9
      refine awp_seq fun k10 h10 => ?_
      refine awp_block ?_
      have hul := Pl.upto_take_len (Pl.ordL n p) i k (by omega) (by omega)
      rw [List.length_append] at hul
      refine awp_region [68] (by rw [hC]; rfl) fun k hk => ?_
      simp (maxSteps := 9^9) (disch := (try simp only [lens]); omega) only [argSl, sm, ↓amb, mark_eq, simprocAttr, el67, vr3, by3, dx]
      repeat refine ⟨by first | omega | (simp; done) | (unfold maxLen; omega) | (simp [maxLen]; omega) | assumption, ?_⟩
      refine hk _ ?_; clear hk k
      refine h10 _ ?_; clear h10 k10
      refine awp_region [68] (by rw [hC]; rfl) fun k hk => ?_
      simp (maxSteps := 9^9) (disch := (try simp only [lens]); omega) only [argSl, sm, ↓amb, mark_eq, simprocAttr, dx]
      repeat refine ⟨by first | omega | (simp; done) | (unfold maxLen; omega) | (simp [maxLen]; omega) | assumption, ?_⟩
      refine hk _ ?_; clear hk k
      refine ⟨k + 1, by omega, le_of [(0, _)] (by rfl) (by rfl) ⟨⟨_, rfl, .p (.of_eq (by first | rfl | (simp only [PV.lit.injEq, Value.int.injEq, true_and]; omega) | (simp; done) | (simp; omega)))⟩, ⟨_, rfl, .own rfl⟩, ⟨_, rfl, .p (.of_eq (by first | rfl | (simp only [PV.lit.injEq, Value.int.injEq, true_and]; omega) | (simp; done) | (simp; omega)))⟩, ⟨_, rfl, .p (.of_eq (by first | rfl | (simp only [PV.lit.injEq, Value.int.injEq, true_and]; omega) | (simp; done) | (simp; omega)))⟩, ⟨_, rfl, .p (.of_eq (by first | rfl | (simp only [PV.lit.injEq, Value.int.injEq, true_and]; omega) | (simp; done) | (simp; omega)))⟩, trivial⟩ ⟨⟨_, rfl, _, rfl, .liftE (by first | (rw [Pl.upto_nil (by simp), List.append_nil]; done) | (rw [← Pl.upto_snoc, ← List.append_assoc]; simp only [List.map_append, List.map_cons, List.map_nil]))⟩, trivial⟩, by omega⟩
     ·try simp only [hbx] at hb
      refine awp_exit ((if_pos rfl).mpr ?_)
      refine h7 _ ?_; clear h9 k9; clear h7 k7
      have hke : ((Pl.ordL n p).getD i default).1 + (k : Int) = ((Pl.ordL n p).getD i default).2 := by omega
      refine awp_region [68] (by rw [hC]; rfl) fun k hk => ?_
      simp (maxSteps := 9^9) (disch := (try simp only [lens]); omega) only [argSl, sm, ↓amb, mark_eq, simprocAttr, dx]
      repeat refine ⟨by first | omega | (simp; done) | (unfold maxLen; omega) | (simp [maxLen]; omega) | assumption, ?_⟩
      refine hk _ ?_; clear hk k
      refine ⟨i + 1, by omega, le_of [(0, _)] (by rfl) (by rfl) ⟨⟨_, rfl, .p (.of_eq (by first | rfl | (simp only [PV.lit.injEq, Value.int.injEq, true_and]; omega) | (simp; done) | (simp; omega)))⟩, ⟨_, rfl, .own rfl⟩, ⟨_, rfl, .p (.of_eq (by first | rfl | (simp only [PV.lit.injEq, Value.int.injEq, true_and]; omega) | (simp; done) | (simp; omega)))⟩, ⟨_, rfl, .p (.of_eq (by first | rfl | (simp only [PV.lit.injEq, Value.int.injEq, true_and]; omega) | (simp; done) | (simp; omega)))⟩, trivial⟩ ⟨⟨_, rfl, _, rfl, .liftE (by first | (rw [List.take_zero]; rfl) | (rw [Pl.unitsOf_take _ i (by omega), hke]))⟩, trivial⟩, by omega⟩
    ·try simp only [hbx] at hb
     refine awp_exit ((if_pos rfl).mpr ?_)
     refine h4 _ ?_; clear h6 k6; clear h4 k4
     refine awp_le (le_keep [8, 10]) ?_
     simp only [kp, argSl, simprocAttr]
     have htk : (Pl.ordL n p).take i = (Pl.ordL n p) := List.take_of_length_le (by omega)
     rw [htk]
     refine awp_sr [68] (by rw [hC]; rfl) fun k hk => ?_
     simp (maxSteps := 9^9) (disch := (try simp only [lens]); omega) only [argSl, sm, ↓amb, mark_eq, simprocAttr, el111, dx]
     repeat refine ⟨by first | omega | (simp; done) | (unfold maxLen; omega) | (simp [maxLen]; omega) | assumption, ?_⟩
     refine hk _ ?_; clear hk k
     refine awp_ret ?_
     rw [u1, u2, Pl.ordE0 hok]
     refine ret3 rfl rfl rfl rfl ?_ ?_ ?_
     ·exact .ownE rfl rfl
     ·exact .p (LeP.refl _)
     ·exact .p (LeP.refl _)
end Go.Proofs.Ytjkkjiaeeobnkaa
end
section
set_option linter.unusedSimpArgs false
set_option linter.unusedVariables false
namespace Go.Pl
theorem mapR_get {n : Nat} {v : Nat → Int} {j : Nat} (h : j < n) (d : Int) : ((List.range n).map v).getD j d = v j := by
  simp [List.getD_eq_getElem?_getD, h]
@[reducible] def W32 (x : Int) : Prop := 0 ≤ x ∧ x ≤ 4294967295
@[reducible] def add32 (a b : Int) : Int := (a + b) % 4294967296
def allF (f : Int → Int → Int) (l : List Int) : Int := l.foldl f 0
def aheadF (f : Int → Int → Int) (l : List Int) : List Int := (List.range l.length).map fun i => allF f (l.take i)
theorem take_snoc' (l : List Int) (i : Nat) (h : i < l.length) : l.take (i + 1) = l.take i ++ [l.getD i 0] := by
  rw [List.take_add_one, List.getD_eq_getElem?_getD, List.getElem?_eq_getElem h]; rfl
theorem allF_snoc (f : Int → Int → Int) (l : List Int) (x : Int) : allF f (l ++ [x]) = f (allF f l) x := by simp [allF]
theorem allF_take (f : Int → Int → Int) (l : List Int) (i : Nat) (h : i < l.length) : allF f (l.take (i + 1)) = f (allF f (l.take i)) (l.getD i 0) := by
  rw [take_snoc' l i h, allF_snoc]
def part (l : List Int) (b i : Nat) : List Int := (l.take (min l.length ((i + 1) * b))).drop (i * b)
end Go.Pl
end
section
set_option linter.unusedSimpArgs false
set_option linter.unusedVariables false
namespace Go.Pl
def xr (x y : Int) : Int := ((BitVec.ofInt 32 x ^^^ BitVec.ofInt 32 y).toNat : Int) % 4294967296
def an (x y : Int) : Int := ((BitVec.ofInt 32 x &&& BitVec.ofInt 32 y).toNat : Int) % 4294967296
def one (x op y : Int) : Int :=
  if op = 1 then (x + y) % 4294967296 else if op = 2 then xr x y else if op = 3 then (x * 2 ^ min (y % 32).toNat 32) % 4294967296 else
  if op = 4 then x / 2 ^ min (y % 32).toNat 32 else if op = 5 then an x y else if op = 6 then (if y < x then 1 else 0) else 0
def opOk (op : Int) : Prop := 1 ≤ op ∧ op ≤ 6
instance (op : Int) : Decidable (opOk op) := by unfold opOk; infer_instance
theorem ordE_01 (n : Int) (p : Plan) : ordE n p = 0 ∨ ordE n p = 1 := by unfold ordE; split <;> simp
theorem ordE_iff {n : Int} {p : Plan} : ordE n p = 0 ↔ ordOk n p := by
  unfold ordE; split
  · rename_i h; exact ⟨fun _ => h, fun _ => rfl⟩
  · rename_i h; exact ⟨fun q => absurd q (by decide), fun q => absurd q h⟩
def onceP (l : List Int) (n : Nat) : Prop := l.length = n ∧ (∀ x, x ∈ l → 0 ≤ x ∧ x < n) ∧ ∀ k, k < n → (k : Int) ∈ l
instance (l : List Int) (n : Nat) : Decidable (onceP l n) := by unfold onceP; infer_instance
end Go.Pl
namespace Go.Pl
theorem getD_w {l : List Int} (h : ∀ x, x ∈ l → W32 x) (j : Nat) : W32 (l.getD j 0) := by
  by_cases c : j < l.length
  · exact h _ (getD_mem l j 0 c)
  · rw [List.getD_eq_getElem?_getD, List.getElem?_eq_none (by omega)]; exact ⟨by decide, by decide⟩
theorem upto_snoc' (k : Nat) : upto 0 (k : Int) ++ [(k : Int)] = upto 0 ((k + 1 : Nat) : Int) := by
  have := upto_snoc (a := 0) k
  rwa [Int.zero_add, Int.zero_add] at this
end Go.Pl
end
section
set_option linter.unusedSimpArgs false
set_option linter.unusedVariables false
namespace Go.Pl
def scE (n : Nat) (b : Int) (p : Plan) : Int := if (1 ≤ b ∧ b ≤ 100) ∧ n ≤ 1000 then ordE (blk n b) p else 1
def scL (f : Int → Int → Int) (l : List Int) (b : Int) (p : Plan) : List Int := if scE l.length b p = 0 then aheadF f l else []
def scT (f : Int → Int → Int) (l : List Int) (b : Int) (p : Plan) : Int := if scE l.length b p = 0 then allF f l else 0
def scS (n : Nat) (b : Int) (p : Plan) : Int := if scE n b p = 0 then 2 * ordS (blk n b) p else 0
theorem sc_no {f : Int → Int → Int} {l : List Int} {b : Int} {p : Plan} (h : ¬ scE l.length b p = 0) : scL f l b p = [] ∧ scT f l b p = 0 ∧ scS l.length b p = 0 :=
  ⟨if_neg h, if_neg h, if_neg h⟩
theorem sc_yes {f : Int → Int → Int} {l : List Int} {b : Int} {p : Plan} (h : scE l.length b p = 0) : scL f l b p = aheadF f l ∧ scT f l b p = allF f l ∧ scS l.length b p = 2 * ordS (blk l.length b) p :=
  ⟨if_pos h, if_pos h, if_pos h⟩
theorem scE_01 (n : Nat) (b : Int) (p : Plan) : scE n b p = 0 ∨ scE n b p = 1 := by
  unfold scE; split
  · exact ordE_01 _ p
  · exact .inr rfl
theorem sc_iff {n : Nat} {b : Int} {p : Plan} : scE n b p = 0 ↔ (1 ≤ b ∧ b ≤ 100) ∧ n ≤ 1000 ∧ ordOk (blk n b) p := by
  unfold scE; split
  · rename_i h; rw [ordE_iff]; exact ⟨fun q => ⟨h.1, h.2, q⟩, fun q => q.2.2⟩
  · rename_i h; exact ⟨fun q => absurd q (by decide), fun q => absurd ⟨q.1, q.2.1⟩ h⟩
end Go.Pl
end
section
set_option linter.unusedSimpArgs false
set_option linter.unusedVariables false
namespace Go.Pl
def bucket (B : Nat) (d : Int → Int) (l : List Int) : List Int := (List.range B).flatMap fun (v : Nat) => l.filter fun x => decide (d x = v)
def lowB (d : Int → Int) (l : List Int) (v : Nat) : List Int := (List.range v).flatMap fun (u : Nat) => l.filter fun x => decide (d x = u)
theorem bucket_low (B : Nat) (d : Int → Int) (l : List Int) : bucket B d l = lowB d l B := rfl
theorem fm_congr {α β : Type} {l : List α} {f g : α → List β} (h : ∀ v, v ∈ l → f v = g v) : l.flatMap f = l.flatMap g := by
  rw [List.flatMap_def, List.flatMap_def, List.map_congr_left h]
theorem lowB_succ (d : Int → Int) (l : List Int) (v : Nat) : lowB d l (v + 1) = lowB d l v ++ l.filter fun x => decide (d x = v) := by
  unfold lowB; rw [List.range_succ, List.flatMap_append]; simp
theorem lowB_mem {d : Int → Int} {l : List Int} {v : Nat} {x : Int} : x ∈ lowB d l v ↔ x ∈ l ∧ 0 ≤ d x ∧ d x < v := by
  unfold lowB
  simp only [List.mem_flatMap, List.mem_range, List.mem_filter, decide_eq_true_eq]
  constructor
  · rintro ⟨u, h1, h2, h3⟩; exact ⟨h2, by omega, by omega⟩
  · rintro ⟨h1, h2, h3⟩; exact ⟨(d x).toNat, by omega, h1, by omega⟩
theorem lowB_split (B : Nat) (d : Int → Int) (l : List Int) {v : Nat} (h : v ≤ B) : ∃ r, bucket B d l = lowB d l v ++ r ∧ ∀ x, x ∈ r → (v : Int) ≤ d x := by
  obtain ⟨k, rfl⟩ : ∃ k, B = v + k := ⟨B - v, by omega⟩
  refine ⟨(List.range' v k).flatMap fun (u : Nat) => l.filter fun x => decide (d x = u), ?_, fun x hx => ?_⟩
  · unfold bucket lowB
    rw [List.range_eq_range', List.range_eq_range', ← List.flatMap_append]
    congr 1
    have := List.range'_append_1 (s := 0) (m := v) (n := k)
    rw [Nat.zero_add] at this
    exact this.symm
  · simp only [List.mem_flatMap, List.mem_range'_1, List.mem_filter, decide_eq_true_eq] at hx
    obtain ⟨u, h1, h2, h3⟩ := hx
    omega
def less (d : Int → Int) (l : List Int) (v : Nat) : Nat := (lowB d l v).length
def same (d : Int → Int) (l : List Int) (v : Int) : Nat := (l.filter fun x => decide (d x = v)).length
theorem bucket_perm {B : Nat} {d : Int → Int} {l : List Int} (hd : ∀ x, x ∈ l → 0 ≤ d x ∧ d x < B) (hn : l.Nodup) : (bucket B d l).Nodup ∧ ∀ x, x ∈ bucket B d l ↔ x ∈ l := by
  refine ⟨?_, fun x => ?_⟩
  · unfold bucket
    refine List.pairwise_flatMap.2 ⟨fun v _ => hn.filter _, ?_⟩
    refine List.Pairwise.imp (R := fun a b => a ≠ b) (fun {a b} hab => ?_) List.nodup_range
    intro x hx y hy
    simp only [List.mem_filter, decide_eq_true_eq] at hx hy
    intro e; subst e
    omega
  · rw [bucket_low, lowB_mem]
    exact ⟨fun h => h.1, fun h => ⟨h, (hd x h).1, (hd x h).2⟩⟩
theorem bucket_two (B1 B2 : Nat) (d1 d2 : Int → Int) (l : List Int) (hd : ∀ x, x ∈ l → 0 ≤ d1 x ∧ d1 x < B1) :
    bucket (B2 * B1) (fun x => d2 x * B1 + d1 x) l = bucket B2 d2 (bucket B1 d1 l) := by
  unfold bucket
  induction B2 with
  | zero => simp
  | succ n ih =>
    rw [List.range_succ, List.flatMap_append, ← ih]
    have e : List.range ((n + 1) * B1) = List.range (n * B1) ++ (List.range B1).map (n * B1 + ·) := by
      rw [Nat.add_mul, Nat.one_mul, List.range_add]
    rw [e, List.flatMap_append]
    congr 1
    rw [List.flatMap_map, List.flatMap_cons, List.flatMap_nil, List.append_nil, List.filter_flatMap]
    refine fm_congr fun v hv => ?_
    rw [List.filter_filter]
    refine List.filter_congr fun x hx => ?_
    obtain ⟨h1, h2⟩ := hd x hx
    have hv' := List.mem_range.1 hv
    rw [Bool.eq_iff_iff]
    simp only [decide_eq_true_eq, Bool.and_eq_true]
    constructor
    · intro q
      have q2 : d2 x * B1 + d1 x = (n : Int) * B1 + v := by rw [q]; simp
      have hz : (d2 x - n) * (B1 : Int) = v - d1 x := by rw [Int.sub_mul]; omega
      have hd2 : d2 x = n := by
        rcases Int.lt_trichotomy (d2 x) n with c | c | c
        · have : (d2 x - n) * (B1 : Int) ≤ (-1) * B1 := Int.mul_le_mul_of_nonneg_right (by omega) (by omega)
          omega
        · exact c
        · have : 1 * (B1 : Int) ≤ (d2 x - n) * B1 := Int.mul_le_mul_of_nonneg_right (by omega) (by omega)
          omega
      refine ⟨hd2, ?_⟩
      rw [hd2] at q2; omega
    · rintro ⟨a, b⟩
      rw [a, b]; simp
theorem bucket_one {d : Int → Int} {l : List Int} (hd : ∀ x, x ∈ l → d x = 0) : bucket 1 d l = l := by
  unfold bucket
  rw [List.range_one, List.flatMap_singleton]
  exact List.filter_eq_self.2 fun x hx => by simpa using hd x hx
theorem bucket_congr {B : Nat} {d e : Int → Int} {l : List Int} (h : ∀ x, x ∈ l → d x = e x) : bucket B d l = bucket B e l := by
  unfold bucket
  refine fm_congr fun v _ => List.filter_congr fun x hx => by rw [h x hx]
theorem bucket_more {B C : Nat} (h : B ≤ C) {d : Int → Int} {l : List Int} (hd : ∀ x, x ∈ l → d x < B) : bucket C d l = bucket B d l := by
  obtain ⟨r, hr, hm⟩ := lowB_split C d l h
  have : r = [] := by
    refine List.eq_nil_iff_forall_not_mem.2 fun x hx => ?_
    have h1 := hm x hx
    have h2 : x ∈ bucket C d l := by rw [hr]; simp [hx]
    rw [bucket_low, lowB_mem] at h2
    have := hd x h2.1
    omega
  rw [hr, this, List.append_nil]; rfl
theorem bucket_ins {B : Nat} {d : Int → Int} {l : List Int} {x : Int} (hx : 0 ≤ d x ∧ d x < B) {k : Nat} (hk : k ≤ (bucket B d l).length)
    (h1 : ∀ j, k ≤ j → j < (bucket B d l).length → d x < d ((bucket B d l).getD j 0)) (h2 : k = 0 ∨ d ((bucket B d l).getD (k - 1) 0) ≤ d x) :
    (bucket B d l).take k ++ [x] ++ (bucket B d l).drop k = bucket B d (l ++ [x]) := by
  have e0 : ((d x).toNat : Int) = d x := by omega
  obtain ⟨r, hr, hm⟩ := lowB_split B d l (v := (d x).toNat + 1) (by omega)
  obtain ⟨r', hr', hm'⟩ := lowB_split B d (l ++ [x]) (v := (d x).toNat + 1) (by omega)
  have hA : ∀ y, y ∈ lowB d l ((d x).toNat + 1) → d y ≤ d x := fun y hy => by have := (lowB_mem.1 hy).2.2; omega
  have hlen : k = (lowB d l ((d x).toNat + 1)).length := by
    rcases Nat.lt_trichotomy k (lowB d l ((d x).toNat + 1)).length with c | c | c
    · have hkl : k < (bucket B d l).length := by rw [hr, List.length_append]; omega
      have a := h1 k (Nat.le_refl _) hkl
      have b : (bucket B d l).getD k 0 = (lowB d l ((d x).toNat + 1)).getD k 0 := by
        rw [hr, List.getD_eq_getElem?_getD, List.getElem?_append_left c, ← List.getD_eq_getElem?_getD]
      rw [b] at a
      have := hA _ (getD_mem _ k 0 c)
      omega
    · exact c
    · rcases h2 with q | q
      · omega
      · have hkl : k - 1 < (bucket B d l).length := by omega
        have b : (bucket B d l).getD (k - 1) 0 = r.getD (k - 1 - (lowB d l ((d x).toNat + 1)).length) 0 := by
          rw [hr, List.getD_eq_getElem?_getD, List.getElem?_append_right (by omega), ← List.getD_eq_getElem?_getD]
        rw [b] at q
        have := hm _ (getD_mem r (k - 1 - (lowB d l ((d x).toNat + 1)).length) 0 (by rw [hr, List.length_append] at hk; omega))
        omega
  have e1 : lowB d (l ++ [x]) ((d x).toNat + 1) = lowB d l ((d x).toNat + 1) ++ [x] := by
    rw [lowB_succ, lowB_succ, e0, List.filter_append, List.filter_cons_of_pos (by simp), List.filter_nil, ← List.append_assoc]
    congr 2
    unfold lowB
    refine fm_congr fun v hv => ?_
    rw [List.filter_append, List.filter_cons_of_neg (by have := List.mem_range.1 hv; simp; omega)]; simp
  have e2 : r' = r := by
    have g : ∀ (l : List Int) (s : List Int), bucket B d l = lowB d l ((d x).toNat + 1) ++ s → s = (List.range' ((d x).toNat + 1) (B - ((d x).toNat + 1))).flatMap fun (u : Nat) => l.filter fun y => decide (d y = u) := fun l s hs => by
      have hh : bucket B d l = lowB d l ((d x).toNat + 1) ++ (List.range' ((d x).toNat + 1) (B - ((d x).toNat + 1))).flatMap fun (u : Nat) => l.filter fun y => decide (d y = u) := by
        unfold bucket lowB
        rw [List.range_eq_range', List.range_eq_range', ← List.flatMap_append]
        congr 1
        have := List.range'_append_1 (s := 0) (m := (d x).toNat + 1) (n := B - ((d x).toNat + 1))
        rw [Nat.zero_add] at this
        rw [this]; congr 1; omega
      exact List.append_cancel_left (hs.symm.trans hh)
    rw [g _ _ hr, g _ _ hr']
    refine fm_congr fun v hv => ?_
    rw [List.filter_append, List.filter_cons_of_neg (by have := (List.mem_range'_1.1 hv).1; simp; omega)]; simp
  rw [hr', e1, e2, hlen, hr]
  simp
end Go.Pl
end
section
set_option linter.unusedSimpArgs false
set_option linter.unusedVariables false
namespace Go.Pl
theorem perm_of : ∀ {m l : List Int}, m.Nodup → (∀ x, x ∈ m → x ∈ l) → l.length ≤ m.length → l.Perm m
  | [], l, _, _, h => by
    have : l = [] := List.eq_nil_of_length_eq_zero (by simpa using h)
    subst this; exact List.Perm.refl _
  | x :: m, l, hn, hs, h => by
    have hx : x ∈ l := hs x (by simp)
    have hn' := List.nodup_cons.1 hn
    have hp := perm_of (m := m) (l := l.erase x) hn'.2 (fun y hy => (List.mem_erase_of_ne (fun e => hn'.1 (by rw [← e]; exact hy))).2 (hs y (by simp [hy]))) (by
      rw [List.length_erase_of_mem hx]; simp only [List.length_cons] at h; omega)
    exact (List.perm_cons_erase hx).trans (hp.cons x)
theorem onceP_nodup {l : List Int} {n : Nat} (h : onceP l n) : l.Nodup := by
  have hp := perm_of (m := upto 0 n) (l := l) (nodup_upto _ _) (fun x hx => by
    have := mem_upto.1 hx
    have h2 := h.2.2 x.toNat (by omega)
    rwa [show ((x.toNat : Nat) : Int) = x by omega] at h2) (by rw [upto_len, h.1]; omega)
  exact hp.nodup_iff.2 (nodup_upto _ _)
theorem once_of {l : List Int} {n : Nat} (h1 : l.length = n) (h2 : ∀ x, x ∈ l → 0 ≤ x ∧ x < n) (h3 : l.Nodup) : onceP l n := by
  have hp := perm_of (m := l) (l := upto 0 n) h3 (fun x hx => mem_upto.2 ⟨(h2 x hx).1, (h2 x hx).2⟩) (by rw [upto_len, h1]; omega)
  exact ⟨h1, h2, fun k hk => hp.mem_iff.1 (mem_upto.2 ⟨by omega, by omega⟩)⟩
theorem once_upto (n : Nat) : onceP (upto 0 n) n := once_of (by rw [upto_len]; omega) (fun x hx => mem_upto.1 hx) (nodup_upto _ _)
def digW (x t b : Int) : Int := if 0 ≤ t ∧ t < pas b then x / 2 ^ (t * b).toNat % 2 ^ b.toNat else 0
theorem digW_b {x t b : Int} (hx : 0 ≤ x) : 0 ≤ digW x t b ∧ digW x t b < 2 ^ b.toNat := by
  have hp : (0 : Int) < 2 ^ b.toNat := Int.pow_pos (by decide)
  unfold digW
  split
  · exact ⟨Int.emod_nonneg _ (by omega), Int.emod_lt_of_pos _ hp⟩
  · omega
def digA (l : List Int) (t b : Int) (i : Int) : Int := digW (l.getD i.toNat 0) t b
def byP (l o : List Int) (t b : Int) : List Int := bucket (2 ^ b.toNat) (digA l t b) o
theorem digA_b {l : List Int} (hl : ∀ x, x ∈ l → W32 x) (t b i : Int) : 0 ≤ digA l t b i ∧ digA l t b i < ((2 ^ b.toNat : Nat) : Int) := by
  have := digW_b (t := t) (b := b) (getD_w hl i.toNat).1
  unfold digA
  rw [Int.natCast_pow]; exact this
def tabL (n : Nat) (g : Nat → Int) : List Int := (List.range n).map g
theorem tabL_len (n : Nat) (g : Nat → Int) : (tabL n g).length = n := by simp [tabL]
theorem tabL_get {n : Nat} {g : Nat → Int} {i : Nat} (h : i < n) : (tabL n g).getD i 0 = g i := mapR_get h 0
theorem byP_once {l o : List Int} (hl : ∀ x, x ∈ l → W32 x) (ho : onceP o l.length) (t b : Int) : onceP (byP l o t b) l.length := by
  have hn := onceP_nodup ho
  obtain ⟨b1, b2⟩ := bucket_perm (B := 2 ^ b.toNat) (d := digA l t b) (l := o) (fun x _ => digA_b hl t b x) hn
  have hlen : (byP l o t b).length = o.length := ((List.perm_ext_iff_of_nodup b1 hn).2 b2).length_eq
  exact once_of (by rw [hlen, ho.1]) (fun x hx => ho.2.1 x ((b2 x).1 hx)) b1
def passes (l : List Int) (b : Int) : Nat → List Int
  | 0 => upto 0 l.length
  | k + 1 => byP l (passes l b k) k b
theorem passes_once {l : List Int} (hl : ∀ x, x ∈ l → W32 x) (b : Int) : ∀ k, onceP (passes l b k) l.length
  | 0 => once_upto _
  | k + 1 => byP_once hl (passes_once hl b k) _ _
def raE (n : Nat) (b bl : Int) (p : Plan) : Int := if pas b = 0 then 1 else scE n bl p
def raL (l : List Int) (b bl : Int) (p : Plan) : List Int := if raE l.length b bl p = 0 then passes l b (pas b).toNat else []
def raS (n : Nat) (b bl : Int) (p : Plan) : Int := if raE n b bl p = 0 then scS n bl p * pas b else 0
theorem scS_nn (n : Nat) (b : Int) (p : Plan) : 0 ≤ scS n b p ∧ scS n b p ≤ 40000 := by
  unfold scS
  split
  · rename_i h
    have := ord_steps (sc_iff.1 h).2.2
    have h0 := (sc_iff.1 h).2.2.1
    omega
  · omega
theorem pas_x {b : Int} (h : 1 ≤ b ∧ b ≤ 16) : 32 ≤ pas b * b ∧ pas b * b < 32 + b ∧ 2 ≤ pas b ∧ pas b ≤ 32 := by
  have h1 : pas b = (32 + b - 1) / b := if_pos h
  have : ∀ k : Nat, k < 17 → 1 ≤ k → 32 ≤ ((32 + (k : Int) - 1) / k) * k ∧ ((32 + (k : Int) - 1) / k) * k < 32 + k ∧ 2 ≤ (32 + (k : Int) - 1) / k ∧ (32 + (k : Int) - 1) / k ≤ 32 := by decide
  have := this b.toNat (by omega) (by omega)
  rw [show ((b.toNat : Nat) : Int) = b by omega, ← h1] at this
  exact this
end Go.Pl
end
section
set_option linter.unusedSimpArgs false
set_option linter.unusedVariables false
namespace Go.Pl
theorem emod_two {w m q : Int} (hm : 0 < m) (hq : 0 < q) : w / m % q * m + w % m = w % (q * m) := by
  have e1 := Int.ediv_mul_add_emod w m
  have e2 := Int.ediv_mul_add_emod (w / m) q
  have b1 := Int.emod_nonneg w (show m ≠ 0 by omega)
  have b2 := Int.emod_lt_of_pos w hm
  have b3 := Int.emod_nonneg (w / m) (show q ≠ 0 by omega)
  have b4 := Int.emod_lt_of_pos (w / m) hq
  have c1 : w = (w / m % q * m + w % m) + w / m / q * (q * m) := by
    rw [← Int.mul_assoc]
    have : (w / m / q * q + w / m % q) * m = w / m * m := by rw [e2]
    rw [Int.add_mul] at this
    omega
  have c2 : w / m % q * m ≤ (q - 1) * m := Int.mul_le_mul_of_nonneg_right (by omega) (by omega)
  have c3 : 0 ≤ w / m % q * m := Int.mul_nonneg b3 (by omega)
  have c4 : (q - 1) * m = q * m - m := by rw [Int.sub_mul, Int.one_mul]
  have c5 : w % (q * m) = ((w / m % q * m + w % m) + w / m / q * (q * m)) % (q * m) := by rw [← c1]
  rw [c5, Int.add_mul_emod_self_right]
  exact (Int.emod_eq_of_lt (by omega) (by omega)).symm
theorem passes_bucket {l : List Int} {b : Int} (hb : 1 ≤ b ∧ b ≤ 16) : ∀ k : Nat, (k : Int) ≤ pas b →
    passes l b k = bucket (2 ^ (k * b.toNat)) (fun i => l.getD i.toNat 0 % 2 ^ (k * b.toNat)) (upto 0 l.length)
  | 0, _ => by
    show upto 0 l.length = _
    rw [Nat.zero_mul]
    refine (bucket_one (d := fun i => l.getD i.toNat 0 % 2 ^ 0) fun x _ => ?_).symm
    show _ % (2 : Int) ^ 0 = 0
    rw [Int.pow_zero]; omega
  | k + 1, h => by
    show bucket (2 ^ b.toNat) (digA l k b) (passes l b k) = _
    have hp : (0 : Int) < 2 ^ (k * b.toNat) := Int.pow_pos (by decide)
    have hq : (0 : Int) < 2 ^ b.toNat := Int.pow_pos (by decide)
    have ec : ((2 ^ (k * b.toNat) : Nat) : Int) = 2 ^ (k * b.toNat) := by rw [Int.natCast_pow]; rfl
    rw [passes_bucket hb k (by omega), ← bucket_two (2 ^ (k * b.toNat)) (2 ^ b.toNat) (fun i => l.getD i.toNat 0 % 2 ^ (k * b.toNat)) (digA l k b) (upto 0 l.length) (fun x _ => by
      rw [ec]; exact ⟨Int.emod_nonneg _ (by omega), Int.emod_lt_of_pos _ hp⟩)]
    have e1 : (k + 1) * b.toNat = b.toNat + k * b.toNat := by rw [Nat.add_mul, Nat.one_mul, Nat.add_comm]
    rw [e1, Nat.pow_add]
    refine bucket_congr fun x _ => ?_
    have et : ((k : Int) * b).toNat = k * b.toNat := by
      have : (k : Int) * b = ((k * b.toNat : Nat) : Int) := by rw [Int.natCast_mul]; congr 1; omega
      rw [this, Int.toNat_natCast]
    show digA l k b x * ((2 ^ (k * b.toNat) : Nat) : Int) + l.getD x.toNat 0 % 2 ^ (k * b.toNat) = l.getD x.toNat 0 % 2 ^ (b.toNat + k * b.toNat)
    rw [ec, Int.pow_add]
    unfold digA digW
    rw [if_pos ⟨by omega, by omega⟩, et]
    exact emod_two hp hq
theorem bucket_nil (B : Nat) (d : Int → Int) : bucket B d [] = [] := by
  unfold bucket; simp
theorem bucket_len {B : Nat} {d : Int → Int} {l : List Int} (hd : ∀ x, x ∈ l → 0 ≤ d x ∧ d x < B) (hn : l.Nodup) : (bucket B d l).length = l.length := by
  obtain ⟨b1, b2⟩ := bucket_perm hd hn
  exact ((List.perm_ext_iff_of_nodup b1 hn).2 b2).length_eq
theorem bucket_mem {B : Nat} {d : Int → Int} {l : List Int} {x : Int} (h : x ∈ bucket B d l) : x ∈ l := by
  rw [bucket_low, lowB_mem] at h; exact h.1
end Go.Pl
end
section
set_option linter.unusedSimpArgs false
set_option linter.unusedVariables false
namespace Go.Pl
def marksL (fl : List Bool) (w : Bool) : List Int := tabL fl.length fun j => if fl.getD j false = w then 0 else 1
theorem marksL_len (fl : List Bool) (w : Bool) : (marksL fl w).length = fl.length := tabL_len _ _
theorem marksL_get {fl : List Bool} {w : Bool} {i : Nat} (h : i < fl.length) : (marksL fl w).getD i 0 = if fl.getD i false = w then 0 else 1 := tabL_get h
def onesP (m : List Int) (x : Int) : Bool := decide (m.getD x.toNat 0 = 1)
def onesL (m : List Int) : List Int := (upto 0 m.length).filter (onesP m)
def onesN (m : List Int) (i : Nat) : Nat := ((upto 0 (i : Int)).filter (onesP m)).length
def bits (m : List Int) : Prop := ∀ x, x ∈ m → x = 0 ∨ x = 1
theorem onesN_s {m : List Int} {i : Nat} : onesN m (i + 1) = onesN m i + if m.getD i 0 = 1 then 1 else 0 := by
  unfold onesN
  rw [← upto_snoc', List.filter_append, List.length_append]
  congr 1
  by_cases h : m.getD i 0 = 1
  · rw [if_pos h, List.filter_cons_of_pos (by unfold onesP; simpa using h)]; rfl
  · rw [if_neg h, List.filter_cons_of_neg (by unfold onesP; simpa using h)]; rfl
theorem onesN_le (m : List Int) : ∀ i, onesN m i ≤ i
  | 0 => by unfold onesN; rw [upto_nil (by simp)]; exact Nat.le_refl _
  | i + 1 => by rw [onesN_s]; have := onesN_le m i; split <;> omega
theorem onesL_len (m : List Int) : (onesL m).length = onesN m m.length := rfl
def whL (fl : List Bool) (w : Bool) (bl : Int) (p : Plan) : List Int := if scE fl.length bl p = 0 then onesL (marksL fl w) else []
def whS (n : Nat) (bl : Int) (p : Plan) : Int := if scE n bl p = 0 then scS n bl p + ordS n p else 0
theorem wh_len (fl : List Bool) (w : Bool) (bl : Int) (p : Plan) : (whL fl w bl p).length ≤ fl.length := by
  unfold whL
  split
  · rw [onesL_len]; have := onesN_le (marksL fl w) (marksL fl w).length; rw [marksL_len] at this ⊢; exact this
  · exact Nat.zero_le _
def spOk (l : List Int) (fl : List Bool) : Prop := fl.count true = l.length
instance (l : List Int) (fl : List Bool) : Decidable (spOk l fl) := by unfold spOk; infer_instance
end Go.Pl
end
section
set_option linter.unusedSimpArgs false
set_option linter.unusedVariables false
namespace Go.Pl
theorem sc_ord {n : Nat} {b : Int} {p : Plan} (hb : 1 ≤ b ∧ b ≤ 100) : scE n b p = ordE n p := by
  have e1 := ordE_iff (n := n) (p := p)
  have e2 := sc_iff (n := n) (b := b) (p := p)
  have hbk := fun h => blk_up (n := (n : Int)) (m := n) (b := b) (by omega) (Int.le_refl _) h
  have key : scE n b p = 0 ↔ ordE n p = 0 := by
    rw [e1, e2]
    constructor
    · rintro ⟨_, h2, h3⟩; exact ⟨by omega, by omega, h3.2.2⟩
    · rintro ⟨_, h2, h3⟩
      have := hbk (by omega)
      exact ⟨hb, by omega, by omega, by omega, h3⟩
  rcases scE_01 n b p with h | h <;> rcases ordE_01 n p with q | q <;> omega
theorem ordS_up (n : Int) (p : Plan) : 0 ≤ ordS n p ∧ ordS n p ≤ 20000 := by
  by_cases h : ordOk n p
  · have := ord_steps h
    have := h.1
    have h2 : 0 ≤ leB n p := by unfold leB; split; have := cntT_pos (phOk_cnt ‹_›); omega; exact Int.le_refl _
    omega
  · rw [(ord_no h).2.2]; omega
theorem passes_keys {B : Nat} (hB : B = 4294967296) {l : List Int} (hl : ∀ x, x ∈ l → W32 x) {b : Int} (hb : 1 ≤ b ∧ b ≤ 16) : passes l b (pas b).toNat = bucket B (fun i => l.getD i.toNat 0) (upto 0 l.length) := by
  have h1 := pas_x hb
  have h2 : (((pas b).toNat * b.toNat : Nat) : Int) = pas b * b := by rw [Int.natCast_mul]; congr 1 <;> omega
  have h3 : B ≤ 2 ^ ((pas b).toNat * b.toNat) := by
    have : (2 : Nat) ^ 32 ≤ 2 ^ ((pas b).toNat * b.toNat) := Nat.pow_le_pow_right (by omega) (by omega)
    omega
  have h4 : (4294967296 : Int) ≤ 2 ^ ((pas b).toNat * b.toNat) := by
    have : (B : Int) ≤ ((2 ^ ((pas b).toNat * b.toNat) : Nat) : Int) := Int.ofNat_le.2 h3
    rw [Int.natCast_pow] at this
    have e : ((2 : Nat) : Int) = 2 := rfl
    rw [e] at this; omega
  rw [passes_bucket hb _ (by omega)]
  rw [bucket_congr (e := fun i => l.getD i.toNat 0) fun x _ => by
    have := getD_w hl x.toNat
    exact Int.emod_eq_of_lt this.1 (by omega)]
  exact bucket_more h3 fun x _ => by have := (getD_w hl x.toNat).2; show l.getD x.toNat 0 < (B : Int); omega
theorem keysD {B : Nat} (hB : B = 4294967296) {l : List Int} (hl : ∀ x, x ∈ l → W32 x) (i : Int) : 0 ≤ l.getD i.toNat 0 ∧ l.getD i.toNat 0 < (B : Int) := by
  have := getD_w hl i.toNat
  exact ⟨this.1, by have := this.2; omega⟩
theorem raL_len {l : List Int} (hl : ∀ x, x ∈ l → W32 x) (b bl : Int) (p : Plan) : (raL l b bl p).length ≤ l.length := by
  unfold raL
  split
  · have := (passes_once hl b (pas b).toNat).1; omega
  · exact Nat.zero_le _
def onesT (m : List Int) (i : Nat) : List Int := (upto 0 (i : Int)).filter (onesP m)
theorem onesT_0 (m : List Int) : onesT m 0 = [] := by unfold onesT; rw [upto_nil (by simp)]; rfl
theorem onesT_len (m : List Int) (i : Nat) : (onesT m i).length ≤ i := onesN_le m i
theorem onesT_end (m : List Int) : onesT m m.length = onesL m := rfl
theorem onesT_yes {m : List Int} {i : Nat} (h : m.getD i 0 = 1) : onesT m (i + 1) = onesT m i ++ [(i : Int)] := by
  unfold onesT
  rw [← upto_snoc', List.filter_append, List.filter_cons_of_pos (by unfold onesP; simpa using h)]; rfl
theorem onesT_no {m : List Int} {i : Nat} (h : ¬ m.getD i 0 = 1) : onesT m (i + 1) = onesT m i := by
  unfold onesT
  rw [← upto_snoc', List.filter_append, List.filter_cons_of_neg (by unfold onesP; simpa using h), List.filter_nil, List.append_nil]
end Go.Pl
end
section
namespace Go.Am
theorem ret4 {P : Program} {s : LS} {fn : Func} {t u v w : Nat} {x y z a : AV} {r q p o : PV} (hf : fn.results = #[.tmp t, .tmp u, .tmp v, .tmp w]) (h : lkp s.sl t = some x) (h2 : lkp s.sl u = some y) (h3 : lkp s.sl v = some z) (h4 : lkp s.sl w = some a)
    (hr : ResA s.hp x r) (hr2 : ResA s.hp y q) (hr3 : ResA s.hp z p) (hr4 : ResA s.hp a o) : retK P fn (.tup [r, q, p, o]) .ret s := by
  show resR P s fn.results.toList _
  rw [hf]; exact ⟨_, rfl, ⟨x, h, hr⟩, ⟨y, h2, hr2⟩, ⟨z, h3, hr3⟩, ⟨a, h4, hr4⟩, trivial⟩
theorem reth4 {P : Program} {s : LS} {fn : Func} {hp' : List (Nat × Blk)} {t u x w : Nat} {r0 q0 z0 w0 r : AV} (hf : fn.results = #[.tmp t, .tmp u, .tmp x, .tmp w]) (h : lkp s.sl t = some r0) (h2 : lkp s.sl u = some q0) (h3 : lkp s.sl x = some z0) (h4 : lkp s.sl w = some w0) (hle : LE ⟨[(0, .tup [r0, q0, z0, w0])], s.hp, s.nx⟩ ⟨[(0, r)], hp', 1⟩) : retH P fn r hp' .ret s := by
  refine ⟨_, ?_, hle⟩
  rw [hf]; exact ⟨_, rfl, h, h2, h3, h4, trivial⟩
end Go.Am
end
