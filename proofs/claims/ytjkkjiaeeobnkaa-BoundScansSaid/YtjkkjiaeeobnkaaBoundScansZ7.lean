/-
  BoundScans, part 7 of 7: what the proof that the law holds at whatever arguments stands on; the last part holds the theorem. No condition.
-/
import Derived.Test.YtjkkjiaeeobnkaaBoundScansZ6
import Derived.Test.YtjkkjiaeeobnkaaRows
section
set_option linter.unusedSimpArgs false
set_option linter.unusedVariables false
set_option maxRecDepth 100000
namespace Go.Proofs.Ytjkkjiaeeobnkaa
open Go.Am Go.Proofs
theorem mx1 (es : List (List PV)) (id sz k off : Nat) (vs : List AV) (K : Upd → Prop) : storeL none es id sz k off vs K = K ⟨.p (.lit undef), [(id, some (.row sz ((lift es).set k (splice ((es.getD k []).map .p) off vs))))]⟩ := rfl
theorem mx2 (es : List (List PV)) (sz k off n : Nat) (cs : List AV) (K : AV → Prop) : loadB (some (.row sz ((lift es).set k cs))) sz k off false n K = (k < es.length ∧ onE cs[off]? K) := by
  have hl : (lift es).length = es.length := by simp [lift]
  refine propext ⟨?_, ?_⟩
  · rintro ⟨_, h, ds, hd, hk⟩
    injection h with h; injection h with h1 h2; subst h2
    rw [List.getElem?_set] at hd
    split at hd
    · split at hd
      · injection hd with hd; subst hd; exact ⟨by omega, by simpa [onE] using hk⟩
      · cases hd
    · exact absurd rfl ‹_›
  · rintro ⟨h1, x, h2, h3⟩
    exact ⟨_, rfl, cs, List.getElem?_set_self (by omega), by simpa using ⟨x, h2, h3⟩⟩
theorem mx3 (es : List (List PV)) (id sz k off : Nat) (cs vs : List AV) (K : Upd → Prop) : storeB (some (.row sz ((lift es).set k cs))) id sz k off vs K = (k < es.length ∧ off + vs.length ≤ cs.length ∧ K ⟨.p (.lit undef), [(id, some (.row sz ((lift es).set k (splice cs off vs))))]⟩) := by
  have hl : (lift es).length = es.length := by simp [lift]
  refine propext ⟨?_, ?_⟩
  · rintro ⟨_, h, ds, hd, h4, hk⟩
    injection h with h; injection h with h1 h2; subst h2
    rw [List.getElem?_set] at hd
    split at hd
    · split at hd
      · injection hd with hd; subst hd
        rw [List.set_set] at hk
        exact ⟨by omega, h4, hk⟩
      · cases hd
    · exact absurd rfl ‹_›
  · rintro ⟨h1, h2, h3⟩
    exact ⟨_, rfl, cs, List.getElem?_set_self (by omega), h2, by rw [List.set_set]; exact h3⟩
theorem mx4 (es : List (List PV)) (k : Nat) (cs : List AV) : ((lift es).set k cs).length = es.length := by simp [lift]
theorem mx : type_of% (And.intro (And.intro @mx1 @mx2) (And.intro @mx3 @mx4)) := And.intro (And.intro @mx1 @mx2) (And.intro @mx3 @mx4)
theorem leB_setO {hp : List (Nat × Blk)} {π : List (Nat × Nat)} {sz : Nat} {es : List (List PV)} {i a b : Nat} (h : lkq π b = some a) : LeB hp π (.row sz ((lift es).set i [.own a])) (.row sz ((lift es).set i [.own b])) := by
  refine ⟨rfl, by simp, fun k cs ds h1 h2 => ?_⟩
  rw [List.getElem?_set] at h1 h2
  by_cases e : i = k
  · rw [if_pos e] at h1 h2
    split at h1
    · rename_i hlt
      rw [if_pos hlt] at h2
      injection h1 with h1; injection h2 with h2; subst h1 h2
      exact LeRow.cons (.own h) LeRow.nil
    · cases h1
  · rw [if_neg e] at h1 h2
    rw [h1] at h2; injection h2 with h2; subst h2
    simp only [lift, List.getElem?_map, Option.map_eq_some_iff] at h1
    obtain ⟨r, _, rfl⟩ := h1
    exact ⟨rfl, fun j u w hu hw => by
      rw [hu] at hw; injection hw with hw; subst hw
      rw [List.getElem?_map, Option.map_eq_some_iff] at hu
      obtain ⟨z, _, rfl⟩ := hu
      exact .p (.refl _)⟩
theorem leB_outF {hp : List (Nat × Blk)} {π : List (Nat × Nat)} {D : List (List Int)} {P k : Nat} {X : List Int} (hk : lkp hp k = some (.row 1 (lift (X.map fun n => [iV n])))) (hn : (π.all (fun q => q.2 != k) && k % 8 != 7) = true) :
    LeB hp π (.row 1 ((lift (D.map lE)).set P [.own k])) (.row 1 (lift ((D.set P X).map lV))) := by
  refine ⟨rfl, by simp [lift], fun i cs ds h1 h2 => ?_⟩
  rw [List.getElem?_set] at h1
  simp only [lift, List.getElem?_map, List.getElem?_set, List.length_map] at h1 h2
  by_cases e : P = i
  · rw [if_pos e] at h1 h2
    split at h1
    · rename_i hlt
      rw [if_pos hlt] at h2
      injection h1 with h1; simp only [Option.map_some, Option.some.injEq] at h2; subst h1 h2
      exact LeRow.cons (.frz hk hn) LeRow.nil
    · cases h1
  · rw [if_neg e] at h1 h2
    cases hd : D[i]? with
    | none => rw [hd] at h1; cases h1
    | some l =>
      rw [hd] at h1 h2
      simp only [Option.map_some, Option.some.injEq] at h1 h2; subst h1 h2
      exact LeRow.cons (.p (LeP.seq _ _)) LeRow.nil
def LvE (es : List (List PV)) (D : List (List Int)) : Prop := es.length = D.length ∧ ∀ (i : Nat) (l : List Int), D[i]? = some l → ∃ b, es[i]? = some [PV.seq b (l.map fun n => [iV n])]
theorem leB_outV {hp : List (Nat × Blk)} {π : List (Nat × Nat)} {es : List (List PV)} {D : List (List Int)} (h : LvE es D) :
    LeB hp π (.row 1 (lift es)) (.row 1 (lift (D.map lV))) := by
  refine Pl.leB_pt (by simpa using h.1) fun i x y h1 h2 => ?_
  rw [List.getElem?_map, Option.map_eq_some_iff] at h2
  obtain ⟨l, hl2, rfl⟩ := h2
  obtain ⟨b, hb⟩ := h.2 i l hl2
  rw [hb] at h1; injection h1 with h1; subst h1
  exact LeRow.cons (.p (LeP.seq _ _)) LeRow.nil
theorem lE_all (D : List (List Int)) : LvE (D.map lE) D := ⟨by simp, fun i l h => by
  rw [List.getElem?_map, h]; exact ⟨_, rfl⟩⟩
theorem lE_set {D : List (List Int)} {es : List (List PV)} (h : LvE es D) (P : Nat) (b : Bool) (X : List Int) : LvE (es.set P [PV.seq b (X.map fun n => [iV n])]) (D.set P X) := ⟨by simpa using h.1, fun i l hi => by
  rw [List.getElem?_set] at hi ⊢
  by_cases e : P = i
  · rw [if_pos e] at hi ⊢
    split at hi
    · rename_i hlt
      injection hi with hi; subst hi
      rw [if_pos (by rw [h.1]; exact hlt)]; exact ⟨_, rfl⟩
    · cases hi
  · rw [if_neg e] at hi ⊢; exact h.2 i l hi⟩
theorem lE_get {D : List (List Int)} {P V : Nat} (hP : P < D.length) (hne : V ≠ P) (h : D.getD P default = []) (y : List PV) : ((D.map lE).set V y).getD P default = [.seq true []] := by
  rw [List.getD_eq_getElem?_getD, List.getElem?_set_ne hne, List.getElem?_map, List.getElem?_eq_getElem hP]
  rw [List.getD_eq_getElem?_getD, List.getElem?_eq_getElem hP] at h
  simp only [Option.getD_some] at h
  simp [lE, h]
theorem en114 : enters Try.prog 114 = true := by kernel_rfl
theorem en115 : enters Try.prog 115 = true := by kernel_rfl
theorem en116 : enters Try.prog 116 = true := by kernel_rfl
theorem en117 : enters Try.prog 117 = true := by kernel_rfl
theorem en120 : enters Try.prog 120 = true := by kernel_rfl
theorem en121 : enters Try.prog 121 = true := by kernel_rfl
theorem pl139_0 : tPlace Try.prog 139 0 = some (0, 1) := by kernel_rfl
set_option maxHeartbeats 4000000 in
theorem c_Step_p (c : Pl.Crew) (p v : Int) (hl : ∀ l, l ∈ c.dq → l.length ≤ 1000000 ∧ ∀ t, t ∈ l → -9223372036854775808 ≤ t ∧ t ≤ 9223372036854775807) (h0 : (Pl.step c p v).2.2 = 0) (hp : 0 < (c.dq.getD (Pl.num c.dq p).toNat default).length) : PCall Try.prog 103 [.agg (crewC c), iV p, iV v] (.tup [.agg (crewC (Pl.step c p v).1), .agg (evC (Pl.step c p v).2.1), iV 0]) := by
 obtain ⟨P, V, hcp, hcv, hP, hV, hN, hPl, hVl, hcr, hst⟩ := Pl.step_at h0
 obtain ⟨hr1, hr2, hr3, hr4, hr5, hr6, hr7⟩ := id hcr
 have hRr : c.work.ts.length ≤ 2000 ∧ c.work.done.length ≤ 1000 := ⟨hr1.2.2.1, by have := hr1.1; unfold Pl.cnt at this; omega⟩
 have hlP := hl _ (Pl.getD_mem c.dq P default hPl)
 have hlV := hl _ (Pl.getD_mem c.dq V default hVl)
 rw [hP] at hp
 have hso := Pl.step_own h0 hP hN hV hp (t := ((c.dq.getD P default).getD ((c.dq.getD P default).length - 1) 0)) rfl
 refine yV Try.func103 rfl (by simp [Try.ntmps103]) fun C hC => ?_
 refine zW (zV [0, 1, 2]) ?_
 simp only [kp, zJ, simprocAttr]
 refine zK [141] (by rw [hC]; rfl) fun k hk => ?_
 simp (maxSteps := 9^9) (disch := (try simp only [lens]); omega) only [zJ, sm, ↓amb, zQ, simprocAttr, vr110, vr139, lE, mx, dx]
 repeat refine ⟨by first | omega | (simp; done) | (unfold maxLen; omega) | (simp [maxLen]; omega) | assumption, ?_⟩
 refine hk _ ?_; clear hk k
 refine zY fun k1 h1 => ?_
 refine yK ?_
 refine zW (zV [1, 2, 3, 6, 7, 8]) ?_
 simp only [kp, zJ, simprocAttr]
 refine zK [141] (by rw [hC]; rfl) fun k hk => ?_
 simp (maxSteps := 9^9) (disch := (try simp only [lens]); omega) only [zJ, sm, ↓amb, zQ, simprocAttr, sz110, en114, lE, mx, dx]
 repeat refine ⟨by first | omega | (simp; done) | (unfold maxLen; omega) | (simp [maxLen]; omega) | assumption, ?_⟩
 refine yW (c_ref05_Right _ hl) rfl ?_
 simp (maxSteps := 9^9) (disch := (try simp only [lens]); omega) only [zJ, sm, ↓amb, zQ, simprocAttr, sz110, en114, lE, mx, dx]
 repeat refine ⟨by first | omega | (simp; done) | (unfold maxLen; omega) | (simp [maxLen]; omega) | assumption, ?_⟩
 refine hk _ ?_; clear hk k
 refine zX rfl (fun hb => ?_) (fun hb => ?_)
 ·exact absurd hcr (by simpa using hb)
 ·try simp only [hbx] at hb
  refine zW (zV [1, 2, 3, 6, 7, 8]) ?_
  simp only [kp, zJ, simprocAttr]
  refine zK [141] (by rw [hC]; rfl) fun k hk => ?_
  simp (maxSteps := 9^9) (disch := (try simp only [lens]); omega) only [zJ, sm, ↓amb, zQ, simprocAttr, fl110_3, sz3, lE, mx, dx]
  repeat refine ⟨by first | omega | (simp; done) | (unfold maxLen; omega) | (simp [maxLen]; omega) | assumption, ?_⟩
  refine hk _ ?_; clear hk k
  refine zX rfl (fun hb => ?_) (fun hb => ?_)
  ·exact absurd (beq_iff_eq.mp hb) hst
  ·try simp only [hbx] at hb
   refine yJ ?_
   refine h1 _ ?_; clear h1 k1
   refine zW (zV [1, 2, 3, 6, 7]) ?_
   simp only [kp, zJ, simprocAttr]
   refine zK [141] (by rw [hC]; rfl) fun k hk => ?_
   simp (maxSteps := 9^9) (disch := (try simp only [lens]); omega) only [zJ, sm, ↓amb, zQ, simprocAttr, fl110_1, sz108, el108, lE, mx, dx]
   repeat refine ⟨by first | omega | (simp; done) | (unfold maxLen; omega) | (simp [maxLen]; omega) | assumption, ?_⟩
   refine hk _ ?_; clear hk k
   refine zW (zV [1, 2, 3, 6, 7, 9]) ?_
   simp only [kp, zJ, simprocAttr]
   refine zK [141] (by rw [hC]; rfl) fun k hk => ?_
   simp (maxSteps := 9^9) (disch := (try simp only [lens]); omega) only [zJ, sm, ↓amb, zQ, simprocAttr, en115, lE, mx, dx]
   repeat refine ⟨by first | omega | (simp; done) | (unfold maxLen; omega) | (simp [maxLen]; omega) | assumption, ?_⟩
   refine yW (c_ref05_cut _ _ (by omega)) rfl ?_
   simp (maxSteps := 9^9) (disch := (try simp only [lens]); omega) only [zJ, sm, ↓amb, zQ, simprocAttr, en115, lE, mx, dx]
   repeat refine ⟨by first | omega | (simp; done) | (unfold maxLen; omega) | (simp [maxLen]; omega) | assumption, ?_⟩
   refine yW (c_ref05_cut _ _ (by omega)) rfl ?_
   simp (maxSteps := 9^9) (disch := (try simp only [lens]); omega) only [zJ, sm, ↓amb, zQ, simprocAttr, en115, lE, mx, dx]
   repeat refine ⟨by first | omega | (simp; done) | (unfold maxLen; omega) | (simp [maxLen]; omega) | assumption, ?_⟩
   refine hk _ ?_; clear hk k
   refine zW (zV [1, 2, 3, 6, 7]) ?_
   simp only [kp, zJ, simprocAttr]
   rw [hcp, hcv]
   refine zK [141] (by rw [hC]; rfl) fun k hk => ?_
   simp (maxSteps := 9^9) (disch := (try simp only [lens]); omega) only [zJ, sm, ↓amb, zQ, simprocAttr, sz110, en116, vr110, lE, mx, dx]
   repeat refine ⟨by first | omega | (simp; done) | (unfold maxLen; omega) | (simp [maxLen]; omega) | assumption, ?_⟩
   refine callK_h (c_Copy_h c (by omega) (by omega) (by omega) (fun l h => (hl l h).1)) [] [] (by first | rfl | (simp only [hm]; done)) (by first | rfl | (simp [namesOk, lkp]; done)) ?_ ?_ ?_ ?_ ?_ ?_ ?_
   (iterate 6 (focus (first | trivial | (intro n hn; cases hn; done) | (simp (maxSteps := 9^9) (disch := (try simp only [lens]); omega) only [zJ, sm, ↓amb, zQ, simprocAttr, sz110, en116, vr110, lE, mx, dx, hmx, List.filter_cons, Nat.reduceBNe, imp_self, implies_true]; done))))
   simp (maxSteps := 9^9) (disch := (try simp only [lens]); omega) only [zJ, sm, ↓amb, zQ, simprocAttr, sz110, en116, vr110, lE, mx, dx, hm, List.filter_cons, List.filter_nil, Nat.reduceBNe, Option.map_none]
   repeat refine ⟨by first | omega | (simp; done) | (unfold maxLen; omega) | (simp [maxLen]; omega) | assumption, ?_⟩
   refine hk _ ?_; clear hk k
   refine zW (zV [1, 2, 3, 6, 7, 10]) ?_
   simp only [kp, zJ, simprocAttr]
   refine zK [141] (by rw [hC]; rfl) fun k hk => ?_
   simp (maxSteps := 9^9) (disch := (try simp only [lens]); omega) only [zJ, sm, ↓amb, zQ, simprocAttr, fl110_3, sz3, lE, mx, dx]
   repeat refine ⟨by first | omega | (simp; done) | (unfold maxLen; omega) | (simp [maxLen]; omega) | assumption, ?_⟩
   refine hk _ ?_; clear hk k
   refine zW (zV [1, 2, 3, 6, 7, 10]) ?_
   simp only [kp, zJ, simprocAttr]
   refine zK [141] (by rw [hC]; rfl) fun k hk => ?_
   simp (maxSteps := 9^9) (disch := (try simp only [lens]); omega) only [zJ, sm, ↓amb, zQ, simprocAttr, vr139, bt139, pl139_0, pl139_1, pl139_2, sz139, lE, mx, dx]
   repeat refine ⟨by first | omega | (simp; done) | (unfold maxLen; omega) | (simp [maxLen]; omega) | assumption, ?_⟩
   refine hk _ ?_; clear hk k
   refine zY fun k2 h2 => ?_
   refine zW (zV [1, 2, 3, 6, 7, 8, 10, 11]) ?_
   simp only [kp, zJ, simprocAttr]
   refine zK [141] (by rw [hC]; rfl) fun k hk => ?_
   simp (maxSteps := 9^9) (disch := (try simp only [lens]); omega) only [zJ, sm, ↓amb, zQ, simprocAttr, fl110_1, sz108, el108, sz67, en117, lE, mx, dx]
   repeat refine ⟨by first | omega | (simp; done) | (unfold maxLen; omega) | (simp [maxLen]; omega) | assumption, ?_⟩
   refine callK_h (c_Pop_h false (c.dq.getD P default) hlP.1 hp) [] [] (by first | rfl | (simp only [hm]; done)) (by first | rfl | (simp [namesOk, lkp]; done)) ?_ ?_ ?_ ?_ ?_ ?_ ?_
   (iterate 6 (focus (first | trivial | (intro n hn; cases hn; done) | (simp (maxSteps := 9^9) (disch := (try simp only [lens]); omega) only [zJ, sm, ↓amb, zQ, simprocAttr, fl110_1, sz108, el108, sz67, en117, lE, mx, dx, hmx, List.filter_cons, Nat.reduceBNe, imp_self, implies_true]; done))))
   simp (maxSteps := 9^9) (disch := (try simp only [lens]); omega) only [zJ, sm, ↓amb, zQ, simprocAttr, fl110_1, sz108, el108, sz67, en117, lE, mx, dx, hm, List.filter_cons, List.filter_nil, Nat.reduceBNe, Option.map_none]
   repeat refine ⟨by first | omega | (simp; done) | (unfold maxLen; omega) | (simp [maxLen]; omega) | assumption, ?_⟩
   refine hk _ ?_; clear hk k
   refine zW (zV [1, 2, 3, 6, 7, 8, 10, 11, 12, 13, 14]) ?_
   simp only [kp, zJ, simprocAttr]
   refine zK [141] (by rw [hC]; rfl) fun k hk => ?_
   simp (maxSteps := 9^9) (disch := (try simp only [lens]); omega) only [zJ, sm, ↓amb, zQ, simprocAttr, lE, mx, dx]
   repeat refine ⟨by first | omega | (simp; done) | (unfold maxLen; omega) | (simp [maxLen]; omega) | assumption, ?_⟩
   refine hk _ ?_; clear hk k
   refine zX rfl (fun hb => ?_) (fun hb => ?_)
   ·try simp only [hbx] at hb
    refine yZ [141] (by rw [hC]; rfl) fun k hk => ?_
    simp (maxSteps := 9^9) (disch := (try simp only [lens]); omega) only [zJ, sm, ↓amb, zQ, simprocAttr, fl110_1, sz108, el108, sz67, fl139_1, sz3, fl139_2, lE, mx, dx]
    repeat refine ⟨by first | omega | (simp; done) | (unfold maxLen; omega) | (simp [maxLen]; omega) | assumption, ?_⟩
    refine hk _ ?_; clear hk k
    refine h2 _ ?_; clear h2 k2
    refine zY fun k3 h3 => ?_
    refine zW (zV [1, 3, 6, 7, 8, 10, 11]) ?_
    simp only [kp, zJ, simprocAttr]
    refine zW (show LE _ (⟨[(1, (.p (iV (P : Int)))), (3, (.ptr 0 7 0 0)), (6, (.ptr 1 7 0 0)), (7, (.ptr 2 4 0 0)), (10, (.ptr 3 7 0 0)), (11, (.ptr 4 4 0 0))], [(0, (.row 7 [[.p (.seq false (c.work.ts.map taskC)), .p (iV c.work.grain), .p (.seq false (c.work.done.map fun b => [bV b])), .p (.seq false (c.dq.map lV)), .p (bV c.over), .p (iV c.steps), .p (iV c.idle)]])), (1, (.row 7 [[.p (.seq true []), .p (iV 0), .p (.seq true []), .p (.seq true []), .p (bV false), .p (iV 0), .p (iV 0)]])), (2, (.row 4 [[.p (iV 0), .p (iV 0), .p (iV 0), .p (bV false)]])), (3, (.row 7 [[.p (.seq false (c.work.ts.map taskC)), .p (iV c.work.grain), .p (.seq false (c.work.done.map fun b => [bV b])), .own 5, .p (bV c.over), .p (iV (c.steps + 1)), .p (iV c.idle)]])), (4, (.row 4 [[.p (iV (P : Int)), .p (iV (P : Int)), .p (iV ((c.dq.getD P default).getD ((c.dq.getD P default).length - 1) 0)), .p (bV false)]])), (5, (.row 1 ((lift (c.dq.map lE)).set P [.own 6]))), (6, (.row 1 (lift (((c.dq.getD P default).take ((c.dq.getD P default).length - 1)).map fun n => [iV n]))))], 1⟩ : LS) from le_of [(0, _), (1, _), (2, _), (3, _), (4, _), (5, _), (6, 336)] (by rfl) (by rfl) ⟨⟨_, rfl, .p (.of_eq (by first | rfl | (simp only [PV.lit.injEq, Value.int.injEq, true_and]; omega) | (simp; done) | (simp; omega)))⟩, ⟨_, rfl, .ptr rfl⟩, ⟨_, rfl, .ptr rfl⟩, ⟨_, rfl, .ptr rfl⟩, ⟨_, rfl, .ptr rfl⟩, ⟨_, rfl, .ptr rfl⟩, trivial⟩ ⟨⟨_, rfl, _, rfl, .one (.cons (.p (.refl _)) (.cons (.p (.refl _)) (.cons (.p (.refl _)) (.cons (.p (.refl _)) (.cons (.p (.refl _)) (.cons (.p (.refl _)) (.cons (.p (.refl _)) (.nil))))))))⟩, ⟨_, rfl, _, rfl, .one (.cons (.p (.refl _)) (.cons (.p (.refl _)) (.cons (.p (.refl _)) (.cons (.p (.refl _)) (.cons (.p (.refl _)) (.cons (.p (.refl _)) (.cons (.p (.refl _)) (.nil))))))))⟩, ⟨_, rfl, _, rfl, .one (.cons (.p (.refl _)) (.cons (.p (.refl _)) (.cons (.p (.refl _)) (.cons (.p (.refl _)) (.nil)))))⟩, ⟨_, rfl, _, rfl, .one (.cons (.p (.refl _)) (.cons (.p (.refl _)) (.cons (.p (.refl _)) (.cons (.own rfl) (.cons (.p (.refl _)) (.cons (.p (.refl _)) (.cons (.p (.refl _)) (.nil))))))))⟩, ⟨_, rfl, _, rfl, .one (.cons (.p (.refl _)) (.cons (.p (.refl _)) (.cons (.p (.refl _)) (.cons (.p (.refl _)) (.nil)))))⟩, ⟨_, rfl, _, rfl, leB_setO (by rfl)⟩, ⟨_, rfl, _, rfl, .liftE rfl⟩, trivial⟩) ?_
    refine zK [141] (by rw [hC]; rfl) fun k hk => ?_
    simp (maxSteps := 9^9) (disch := (try simp only [lens]); omega) only [zJ, sm, ↓amb, zQ, simprocAttr, fl110_0, sz107, fl139_2, sz3, en119, lE, mx, dx]
    repeat refine ⟨by first | omega | (simp; done) | (unfold maxLen; omega) | (simp [maxLen]; omega) | assumption, ?_⟩
    refine yW (c40 _ _ _ _) rfl ?_
    simp (maxSteps := 9^9) (disch := (try simp only [lens]); omega) only [zJ, sm, ↓amb, zQ, simprocAttr, fl110_0, sz107, fl139_2, sz3, en119, lE, mx, dx]
    repeat refine ⟨by first | omega | (simp; done) | (unfold maxLen; omega) | (simp [maxLen]; omega) | assumption, ?_⟩
    refine hk _ ?_; clear hk k
    refine zX rfl (fun hb => ?_) (fun hb => ?_)
    ·try simp only [hbx] at hb
     refine zW (zV [1, 3, 6, 7, 10, 11]) ?_
     simp only [kp, zJ, simprocAttr]
     have hgp := hso.1 hb
     refine zK [141] (by rw [hC]; rfl) fun k hk => ?_
     simp (maxSteps := 9^9) (disch := (try simp only [lens]); omega) only [zJ, sm, ↓amb, zQ, simprocAttr, fl110_0, sz107, fl139_2, sz3, en120, vr107, lE, mx, dx]
     repeat refine ⟨by first | omega | (simp; done) | (unfold maxLen; omega) | (simp [maxLen]; omega) | assumption, ?_⟩
     refine yW (c29 _ _ _ _) rfl ?_
     simp (maxSteps := 9^9) (disch := (try simp only [lens]); omega) only [zJ, sm, ↓amb, zQ, simprocAttr, fl110_0, sz107, fl139_2, sz3, en120, vr107, lE, mx, dx]
     repeat refine ⟨by first | omega | (simp; done) | (unfold maxLen; omega) | (simp [maxLen]; omega) | assumption, ?_⟩
     refine hk _ ?_; clear hk k
     refine zY fun k4 h4 => ?_
     refine zW (zV [1, 3, 6, 7, 8, 10, 11, 18, 19, 20, 21]) ?_
     simp only [kp, zJ, simprocAttr]
     refine zK [141] (by rw [hC]; rfl) fun k hk => ?_
     simp (maxSteps := 9^9) (disch := (try simp only [lens]); omega) only [zJ, sm, ↓amb, zQ, simprocAttr, lE, mx, dx]
     repeat refine ⟨by first | omega | (simp; done) | (unfold maxLen; omega) | (simp [maxLen]; omega) | assumption, ?_⟩
     refine hk _ ?_; clear hk k
     refine zX rfl (fun hb => ?_) (fun hb => ?_)
     ·rw [hgp.1] at hb; exact absurd hb (by simp)
     ·try simp only [hbx] at hb
      refine yJ ?_
      refine h4 _ ?_; clear h4 k4
      refine zW (zV [1, 6, 7, 10, 11, 18, 19, 20]) ?_
      simp only [kp, zJ, simprocAttr]
      refine zK [141] (by rw [hC]; rfl) fun k hk => ?_
      simp (maxSteps := 9^9) (disch := (try simp only [lens]); omega) only [zJ, sm, ↓amb, zQ, simprocAttr, sz107, fl110_0, fl139_3, sz4, lE, mx, dx]
      repeat refine ⟨by first | omega | (simp; done) | (unfold maxLen; omega) | (simp [maxLen]; omega) | assumption, ?_⟩
      refine hk _ ?_; clear hk k
      refine zW (zV [1, 6, 7, 10, 11, 19, 20]) ?_
      simp only [kp, zJ, simprocAttr]
      refine awp_sd [141] ⟨[0, 1, 0, 0, 8, 0, 56, 120, 0, 0, 768, 2040, 4095, 8191], [6, 7, 12], [11, 13], [(11, 13)], some [5, 6]⟩ (by rw [hC]; rfl) (by kernel_rfl) (by kernel_rfl) fun k hk => ?_
      simp (maxSteps := 9^9) (disch := (try simp only [lens]); omega) only [zJ, sm, ↓amb, zQ, simprocAttr, fl110_1, sz108, el108, sz67, el67, vr3, by3, lE, mx, dx]
      repeat refine ⟨by first | omega | (simp; done) | (unfold maxLen; omega) | (simp [maxLen]; omega) | assumption, ?_⟩
      refine hk _ ?_; clear hk k
      refine zW (zV [6, 7, 10, 11]) ?_
      simp only [kp, zJ, simprocAttr]
      refine zW (show LE _ (⟨[(6, (.ptr 1 7 0 0)), (7, (.ptr 2 4 0 0)), (10, (.ptr 3 7 0 0)), (11, (.ptr 4 4 0 0))], [(1, (.row 7 [[.p (.seq true []), .p (iV 0), .p (.seq true []), .p (.seq true []), .p (bV false), .p (iV 0), .p (iV 0)]])), (2, (.row 4 [[.p (iV 0), .p (iV 0), .p (iV 0), .p (bV false)]])), (3, (.row 7 [[.p (.seq false ((Pl.partW c.work ((c.dq.getD P default).getD ((c.dq.getD P default).length - 1) 0)).ts.map taskC)), .p (iV (Pl.partW c.work ((c.dq.getD P default).getD ((c.dq.getD P default).length - 1) 0)).grain), .p (.seq false ((Pl.partW c.work ((c.dq.getD P default).getD ((c.dq.getD P default).length - 1) 0)).done.map fun b => [bV b])), .own 5, .p (bV c.over), .p (iV (c.steps + 1)), .p (iV c.idle)]])), (4, (.row 4 [[.p (iV (P : Int)), .p (iV (P : Int)), .p (iV ((c.dq.getD P default).getD ((c.dq.getD P default).length - 1) 0)), .p (bV true)]])), (5, (.row 1 (lift ((c.dq.set P (((c.dq.getD P default).take ((c.dq.getD P default).length - 1)) ++ [Pl.partB c.work ((c.dq.getD P default).getD ((c.dq.getD P default).length - 1) 0), Pl.partA c.work ((c.dq.getD P default).getD ((c.dq.getD P default).length - 1) 0)])).map lV))))], 1⟩ : LS) from le_of [(1, _), (2, _), (3, _), (4, _), (5, 5)] (by rfl) (by rfl) ⟨⟨_, rfl, .ptr rfl⟩, ⟨_, rfl, .ptr rfl⟩, ⟨_, rfl, .ptr rfl⟩, ⟨_, rfl, .ptr rfl⟩, trivial⟩ ⟨⟨_, rfl, _, rfl, .one (.cons (.p (.refl _)) (.cons (.p (.refl _)) (.cons (.p (.refl _)) (.cons (.p (.refl _)) (.cons (.p (.refl _)) (.cons (.p (.refl _)) (.cons (.p (.refl _)) (.nil))))))))⟩, ⟨_, rfl, _, rfl, .one (.cons (.p (.refl _)) (.cons (.p (.refl _)) (.cons (.p (.refl _)) (.cons (.p (.refl _)) (.nil)))))⟩, ⟨_, rfl, _, rfl, .one (.cons (.p (.refl _)) (.cons (.p (.refl _)) (.cons (.p (.refl _)) (.cons (.own rfl) (.cons (.p (.refl _)) (.cons (.p (.refl _)) (.cons (.p (.refl _)) (.nil))))))))⟩, ⟨_, rfl, _, rfl, .one (.cons (.p (.refl _)) (.cons (.p (.refl _)) (.cons (.p (.refl _)) (.cons (.p (.refl _)) (.nil)))))⟩, ⟨_, rfl, _, rfl, leB_outF (k := 312) (by rw [List.map_append]; rfl) (by rfl)⟩, trivial⟩) ?_
      refine awp_sd [141] ⟨[0, 0, 1, 7, 15], [], [2, 3], [], some [1, 2]⟩ (by rw [hC]; rfl) (by kernel_rfl) (by kernel_rfl) fun k hk => ?_
      simp (maxSteps := 9^9) (disch := (try simp only [lens]); omega) only [zJ, sm, ↓amb, zQ, simprocAttr, sz110, sz139, lE, mx, dx]
      repeat refine ⟨by first | omega | (simp; done) | (unfold maxLen; omega) | (simp [maxLen]; omega) | assumption, ?_⟩
      refine hk _ ?_; clear hk k
      refine yQ ?_
      rw [hgp.2]
      refine retl rfl rfl ⟨retc rfl sz110 ?_, retc rfl sz139 ?_, rett rfl ?_, trivial⟩
      all_goals first | (simp (maxSteps := 9^9) (disch := (try simp only [lens]); omega) only [zJ, sm, ↓amb, zQ, simprocAttr, sz110, sz139, lE, mx, dx]) | skip
      ·exact .agg_cons (.p (LeP.refl _)) (.agg_cons (.p (LeP.refl _)) (.agg_cons (.p (LeP.refl _)) (.agg_cons (.ownE rfl rfl) (.agg_cons (.p (LeP.refl _)) (.agg_cons (.p (LeP.refl _)) (.agg_cons (.p (LeP.refl _)) (.agg_nil)))))))
      ·exact .p (LeP.refl _)
      ·exact .p (LeP.refl _)
    ·try simp only [hbx] at hb
     refine yJ ?_
     refine h3 _ ?_; clear h3 k3
     refine zW (zV [3, 6, 7, 10, 11]) ?_
     simp only [kp, zJ, simprocAttr]
     have hgp := hso.2 hb
     refine zK [141] (by rw [hC]; rfl) fun k hk => ?_
     simp (maxSteps := 9^9) (disch := (try simp only [lens]); omega) only [zJ, sm, ↓amb, zQ, simprocAttr, fl110_0, sz107, fl139_2, sz3, en121, vr107, lE, mx, dx]
     repeat refine ⟨by first | omega | (simp; done) | (unfold maxLen; omega) | (simp [maxLen]; omega) | assumption, ?_⟩
     refine yW (c31 _ _ _ _) rfl ?_
     simp (maxSteps := 9^9) (disch := (try simp only [lens]); omega) only [zJ, sm, ↓amb, zQ, simprocAttr, fl110_0, sz107, fl139_2, sz3, en121, vr107, lE, mx, dx]
     repeat refine ⟨by first | omega | (simp; done) | (unfold maxLen; omega) | (simp [maxLen]; omega) | assumption, ?_⟩
     refine hk _ ?_; clear hk k
     refine zY fun k5 h5 => ?_
     refine zW (zV [3, 6, 7, 8, 10, 11, 22, 23, 24]) ?_
     simp only [kp, zJ, simprocAttr]
     refine zK [141] (by rw [hC]; rfl) fun k hk => ?_
     simp (maxSteps := 9^9) (disch := (try simp only [lens]); omega) only [zJ, sm, ↓amb, zQ, simprocAttr, lE, mx, dx]
     repeat refine ⟨by first | omega | (simp; done) | (unfold maxLen; omega) | (simp [maxLen]; omega) | assumption, ?_⟩
     refine hk _ ?_; clear hk k
     refine zX rfl (fun hb => ?_) (fun hb => ?_)
     ·rw [hgp.1] at hb; exact absurd hb (by simp)
     ·try simp only [hbx] at hb
      refine yJ ?_
      refine h5 _ ?_; clear h5 k5
      refine zW (zV [6, 7, 10, 11, 22, 23]) ?_
      simp only [kp, zJ, simprocAttr]
      refine zK [141] (by rw [hC]; rfl) fun k hk => ?_
      simp (maxSteps := 9^9) (disch := (try simp only [lens]); omega) only [zJ, sm, ↓amb, zQ, simprocAttr, sz107, fl110_0, lE, mx, dx]
      repeat refine ⟨by first | omega | (simp; done) | (unfold maxLen; omega) | (simp [maxLen]; omega) | assumption, ?_⟩
      refine hk _ ?_; clear hk k
      refine zW (zV [6, 7, 10, 11, 23]) ?_
      simp only [kp, zJ, simprocAttr]
      obtain ⟨ov, hov⟩ : ∃ o, o = c.over := ⟨_, rfl⟩
      rw [← hov]
      refine awp_srg [141] (by rw [hC]; rfl) fun gd hgd k hk => ?_
      have g2 : gd 2 = some 163 := by rw [hgd]; rfl
      clear hgd
      simp (maxSteps := 9^9) (disch := (try simp only [lens]); omega) only [zJ, sm, ↓amb, zQ, simprocAttr, fl110_2, sz4, g2, a07, lE, mx, dx]
      repeat refine ⟨by first | omega | (simp; done) | (unfold maxLen; omega) | (simp [maxLen]; omega) | assumption, ?_⟩
      refine ⟨fun hg => ?_, fun hg => ?_⟩
      ·try simp only [hbx] at hg
       repeat refine ⟨by first | omega | (simp; done) | (unfold maxLen; omega) | (simp [maxLen]; omega) | assumption, ?_⟩
       refine hk _ ?_; clear hk k
       refine zW (zV [6, 7, 10, 11]) ?_
       simp only [kp, zJ, simprocAttr]
       refine zW (show LE _ (⟨[(6, (.ptr 1 7 0 0)), (7, (.ptr 2 4 0 0)), (10, (.ptr 3 7 0 0)), (11, (.ptr 4 4 0 0))], [(1, (.row 7 [[.p (.seq true []), .p (iV 0), .p (.seq true []), .p (.seq true []), .p (bV false), .p (iV 0), .p (iV 0)]])), (2, (.row 4 [[.p (iV 0), .p (iV 0), .p (iV 0), .p (bV false)]])), (3, (.row 7 [[.p (.seq false ((Pl.doW c.work ((c.dq.getD P default).getD ((c.dq.getD P default).length - 1) 0)).ts.map taskC)), .p (iV (Pl.doW c.work ((c.dq.getD P default).getD ((c.dq.getD P default).length - 1) 0)).grain), .p (.seq false ((Pl.doW c.work ((c.dq.getD P default).getD ((c.dq.getD P default).length - 1) 0)).done.map fun b => [bV b])), .own 5, .p (bV (false || Pl.doO c.work ((c.dq.getD P default).getD ((c.dq.getD P default).length - 1) 0))), .p (iV (c.steps + 1)), .p (iV c.idle)]])), (4, (.row 4 [[.p (iV (P : Int)), .p (iV (P : Int)), .p (iV ((c.dq.getD P default).getD ((c.dq.getD P default).length - 1) 0)), .p (bV false)]])), (5, (.row 1 (lift ((c.dq.set P ((c.dq.getD P default).take ((c.dq.getD P default).length - 1))).map lV))))], 1⟩ : LS) from le_of [(1, _), (2, _), (3, _), (4, _), (5, 5)] (by rfl) (by rfl) ⟨⟨_, rfl, .ptr rfl⟩, ⟨_, rfl, .ptr rfl⟩, ⟨_, rfl, .ptr rfl⟩, ⟨_, rfl, .ptr rfl⟩, trivial⟩ ⟨⟨_, rfl, _, rfl, .one (.cons (.p (.refl _)) (.cons (.p (.refl _)) (.cons (.p (.refl _)) (.cons (.p (.refl _)) (.cons (.p (.refl _)) (.cons (.p (.refl _)) (.cons (.p (.refl _)) (.nil))))))))⟩, ⟨_, rfl, _, rfl, .one (.cons (.p (.refl _)) (.cons (.p (.refl _)) (.cons (.p (.refl _)) (.cons (.p (.refl _)) (.nil)))))⟩, ⟨_, rfl, _, rfl, .one (.cons (.p (.refl _)) (.cons (.p (.refl _)) (.cons (.p (.refl _)) (.cons (.own rfl) (.cons (.p (.refl _)) (.cons (.p (.refl _)) (.cons (.p (.refl _)) (.nil))))))))⟩, ⟨_, rfl, _, rfl, .one (.cons (.p (.refl _)) (.cons (.p (.refl _)) (.cons (.p (.refl _)) (.cons (.p (.refl _)) (.nil)))))⟩, ⟨_, rfl, _, rfl, leB_outF (k := 6) (by rfl) (by rfl)⟩, trivial⟩) ?_
       refine awp_sd [141] ⟨[0, 0, 1, 7, 15], [], [2, 3], [], some [1, 2]⟩ (by rw [hC]; rfl) (by kernel_rfl) (by kernel_rfl) fun k hk => ?_
       simp (maxSteps := 9^9) (disch := (try simp only [lens]); omega) only [zJ, sm, ↓amb, zQ, simprocAttr, sz110, sz139, lE, mx, dx]
       repeat refine ⟨by first | omega | (simp; done) | (unfold maxLen; omega) | (simp [maxLen]; omega) | assumption, ?_⟩
       refine hk _ ?_; clear hk k
       refine yQ ?_
       subst hg
       rw [hgp.2, ← hov]
       refine retl rfl rfl ⟨retc rfl sz110 ?_, retc rfl sz139 ?_, rett rfl ?_, trivial⟩
       all_goals first | (simp (maxSteps := 9^9) (disch := (try simp only [lens]); omega) only [zJ, sm, ↓amb, zQ, simprocAttr, sz110, sz139, lE, mx, dx]) | skip
       ·exact .agg_cons (.p (LeP.refl _)) (.agg_cons (.p (LeP.refl _)) (.agg_cons (.p (LeP.refl _)) (.agg_cons (.ownE rfl rfl) (.agg_cons (.p (LeP.refl _)) (.agg_cons (.p (LeP.refl _)) (.agg_cons (.p (LeP.refl _)) (.agg_nil)))))))
       ·exact .p (LeP.refl _)
       ·exact .p (LeP.refl _)
      ·try simp only [hbx] at hg
       repeat refine ⟨by first | omega | (simp; done) | (unfold maxLen; omega) | (simp [maxLen]; omega) | assumption, ?_⟩
       refine hk _ ?_; clear hk k
       refine zW (zV [6, 7, 10, 11]) ?_
       simp only [kp, zJ, simprocAttr]
       refine zW (show LE _ (⟨[(6, (.ptr 1 7 0 0)), (7, (.ptr 2 4 0 0)), (10, (.ptr 3 7 0 0)), (11, (.ptr 4 4 0 0))], [(1, (.row 7 [[.p (.seq true []), .p (iV 0), .p (.seq true []), .p (.seq true []), .p (bV false), .p (iV 0), .p (iV 0)]])), (2, (.row 4 [[.p (iV 0), .p (iV 0), .p (iV 0), .p (bV false)]])), (3, (.row 7 [[.p (.seq false ((Pl.doW c.work ((c.dq.getD P default).getD ((c.dq.getD P default).length - 1) 0)).ts.map taskC)), .p (iV (Pl.doW c.work ((c.dq.getD P default).getD ((c.dq.getD P default).length - 1) 0)).grain), .p (.seq false ((Pl.doW c.work ((c.dq.getD P default).getD ((c.dq.getD P default).length - 1) 0)).done.map fun b => [bV b])), .own 5, .p (bV (true || Pl.doO c.work ((c.dq.getD P default).getD ((c.dq.getD P default).length - 1) 0))), .p (iV (c.steps + 1)), .p (iV c.idle)]])), (4, (.row 4 [[.p (iV (P : Int)), .p (iV (P : Int)), .p (iV ((c.dq.getD P default).getD ((c.dq.getD P default).length - 1) 0)), .p (bV false)]])), (5, (.row 1 (lift ((c.dq.set P ((c.dq.getD P default).take ((c.dq.getD P default).length - 1))).map lV))))], 1⟩ : LS) from le_of [(1, _), (2, _), (3, _), (4, _), (5, 5)] (by rfl) (by rfl) ⟨⟨_, rfl, .ptr rfl⟩, ⟨_, rfl, .ptr rfl⟩, ⟨_, rfl, .ptr rfl⟩, ⟨_, rfl, .ptr rfl⟩, trivial⟩ ⟨⟨_, rfl, _, rfl, .one (.cons (.p (.refl _)) (.cons (.p (.refl _)) (.cons (.p (.refl _)) (.cons (.p (.refl _)) (.cons (.p (.refl _)) (.cons (.p (.refl _)) (.cons (.p (.refl _)) (.nil))))))))⟩, ⟨_, rfl, _, rfl, .one (.cons (.p (.refl _)) (.cons (.p (.refl _)) (.cons (.p (.refl _)) (.cons (.p (.refl _)) (.nil)))))⟩, ⟨_, rfl, _, rfl, .one (.cons (.p (.refl _)) (.cons (.p (.refl _)) (.cons (.p (.refl _)) (.cons (.own rfl) (.cons (.p (.refl _)) (.cons (.p (.refl _)) (.cons (.p (.refl _)) (.nil))))))))⟩, ⟨_, rfl, _, rfl, .one (.cons (.p (.refl _)) (.cons (.p (.refl _)) (.cons (.p (.refl _)) (.cons (.p (.refl _)) (.nil)))))⟩, ⟨_, rfl, _, rfl, leB_outF (k := 6) (by rfl) (by rfl)⟩, trivial⟩) ?_
       refine awp_sd [141] ⟨[0, 0, 1, 7, 15], [], [2, 3], [], some [1, 2]⟩ (by rw [hC]; rfl) (by kernel_rfl) (by kernel_rfl) fun k hk => ?_
       simp (maxSteps := 9^9) (disch := (try simp only [lens]); omega) only [zJ, sm, ↓amb, zQ, simprocAttr, sz110, sz139, lE, mx, dx]
       repeat refine ⟨by first | omega | (simp; done) | (unfold maxLen; omega) | (simp [maxLen]; omega) | assumption, ?_⟩
       refine hk _ ?_; clear hk k
       refine yQ ?_
       subst hg
       rw [hgp.2, ← hov]
       refine retl rfl rfl ⟨retc rfl sz110 ?_, retc rfl sz139 ?_, rett rfl ?_, trivial⟩
       all_goals first | (simp (maxSteps := 9^9) (disch := (try simp only [lens]); omega) only [zJ, sm, ↓amb, zQ, simprocAttr, sz110, sz139, lE, mx, dx]) | skip
       ·exact .agg_cons (.p (LeP.refl _)) (.agg_cons (.p (LeP.refl _)) (.agg_cons (.p (LeP.refl _)) (.agg_cons (.ownE rfl rfl) (.agg_cons (.p (LeP.refl _)) (.agg_cons (.p (LeP.refl _)) (.agg_cons (.p (LeP.refl _)) (.agg_nil)))))))
       ·exact .p (LeP.refl _)
       ·exact .p (LeP.refl _)
   ·exact absurd hb (by simp)
end Go.Proofs.Ytjkkjiaeeobnkaa
end
section
set_option linter.unusedSimpArgs false
set_option linter.unusedVariables false
set_option maxRecDepth 100000
namespace Go.Proofs.Ytjkkjiaeeobnkaa
open Go.Am Go.Proofs
theorem en118 : enters Try.prog 118 = true := by kernel_rfl
set_option maxHeartbeats 4000000 in
theorem c_Step_s (c : Pl.Crew) (p v : Int) (hl : ∀ l, l ∈ c.dq → l.length ≤ 1000000 ∧ ∀ t, t ∈ l → -9223372036854775808 ≤ t ∧ t ≤ 9223372036854775807) (h0 : (Pl.step c p v).2.2 = 0) (hp : ¬ 0 < (c.dq.getD (Pl.num c.dq p).toNat default).length) (hv : 0 < (c.dq.getD (Pl.num c.dq v).toNat default).length) : PCall Try.prog 103 [.agg (crewC c), iV p, iV v] (.tup [.agg (crewC (Pl.step c p v).1), .agg (evC (Pl.step c p v).2.1), iV 0]) := by
 obtain ⟨P, V, hcp, hcv, hP, hV, hN, hPl, hVl, hcr, hst⟩ := Pl.step_at h0
 obtain ⟨hr1, hr2, hr3, hr4, hr5, hr6, hr7⟩ := id hcr
 have hRr : c.work.ts.length ≤ 2000 ∧ c.work.done.length ≤ 1000 := ⟨hr1.2.2.1, by have := hr1.1; unfold Pl.cnt at this; omega⟩
 have hlP := hl _ (Pl.getD_mem c.dq P default hPl)
 have hlV := hl _ (Pl.getD_mem c.dq V default hVl)
 rw [hP] at hp
 rw [hV] at hv
 have hso := Pl.step_steal h0 hP hN hV hp hv (t := ((c.dq.getD V default).getD 0 0)) rfl
 have hle : (c.dq.getD P default) = [] := List.eq_nil_of_length_eq_zero (by omega)
 have hpop : PCall Try.prog 117 [ints false (c.dq.getD P default)] (.tup [ints false [], iV 0, iV 4]) := by rw [hle]; exact c18 false [] (by decide)
 have hne : V ≠ P := fun e => hp (e ▸ hv)
 have hgP : ((c.dq.map lE).set V [PV.seq false (((c.dq.getD V default).drop 1).map fun n => [iV n])]).getD P [] = [PV.seq true []] := lE_get hPl hne hle _
 have hsl : PCall Try.prog 118 [ints false (c.dq.getD V default)] (.tup [ints false ((c.dq.getD V default).drop 1), iV ((c.dq.getD V default).getD 0 0), iV 0]) := by have q := c20 false (c.dq.getD V default) hlV.1; unfold stealS at q; rw [if_neg (by intro e; rw [e] at hv; exact absurd hv (by decide))] at q; exact q
 refine yV Try.func103 rfl (by simp [Try.ntmps103]) fun C hC => ?_
 refine zW (zV [0, 1, 2]) ?_
 simp only [kp, zJ, simprocAttr]
 refine zK [] (by rw [hC]; rfl) fun k hk => ?_
 simp (maxSteps := 9^9) (disch := (try simp only [lens]); omega) only [zJ, sm, ↓amb, zQ, simprocAttr, vr110, vr139, lE, mx, hgP, dx]
 repeat refine ⟨by first | omega | (simp; done) | (unfold maxLen; omega) | (simp [maxLen]; omega) | assumption, ?_⟩
 refine hk _ ?_; clear hk k
 refine zY fun k1 h1 => ?_
 refine yK ?_
 refine zW (zV [1, 2, 3, 6, 7, 8]) ?_
 simp only [kp, zJ, simprocAttr]
 refine zK [] (by rw [hC]; rfl) fun k hk => ?_
 simp (maxSteps := 9^9) (disch := (try simp only [lens]); omega) only [zJ, sm, ↓amb, zQ, simprocAttr, sz110, en114, lE, mx, hgP, dx]
 repeat refine ⟨by first | omega | (simp; done) | (unfold maxLen; omega) | (simp [maxLen]; omega) | assumption, ?_⟩
 refine yW (c_ref05_Right _ hl) rfl ?_
 simp (maxSteps := 9^9) (disch := (try simp only [lens]); omega) only [zJ, sm, ↓amb, zQ, simprocAttr, sz110, en114, lE, mx, hgP, dx]
 repeat refine ⟨by first | omega | (simp; done) | (unfold maxLen; omega) | (simp [maxLen]; omega) | assumption, ?_⟩
 refine hk _ ?_; clear hk k
 refine zX rfl (fun hb => ?_) (fun hb => ?_)
 ·exact absurd hcr (by simpa using hb)
 ·try simp only [hbx] at hb
  refine zW (zV [1, 2, 3, 6, 7, 8]) ?_
  simp only [kp, zJ, simprocAttr]
  refine zK [] (by rw [hC]; rfl) fun k hk => ?_
  simp (maxSteps := 9^9) (disch := (try simp only [lens]); omega) only [zJ, sm, ↓amb, zQ, simprocAttr, fl110_3, sz3, lE, mx, hgP, dx]
  repeat refine ⟨by first | omega | (simp; done) | (unfold maxLen; omega) | (simp [maxLen]; omega) | assumption, ?_⟩
  refine hk _ ?_; clear hk k
  refine zX rfl (fun hb => ?_) (fun hb => ?_)
  ·exact absurd (beq_iff_eq.mp hb) hst
  ·try simp only [hbx] at hb
   refine yJ ?_
   refine h1 _ ?_; clear h1 k1
   refine zW (zV [1, 2, 3, 6, 7]) ?_
   simp only [kp, zJ, simprocAttr]
   refine zK [] (by rw [hC]; rfl) fun k hk => ?_
   simp (maxSteps := 9^9) (disch := (try simp only [lens]); omega) only [zJ, sm, ↓amb, zQ, simprocAttr, fl110_1, sz108, el108, lE, mx, hgP, dx]
   repeat refine ⟨by first | omega | (simp; done) | (unfold maxLen; omega) | (simp [maxLen]; omega) | assumption, ?_⟩
   refine hk _ ?_; clear hk k
   refine zW (zV [1, 2, 3, 6, 7, 9]) ?_
   simp only [kp, zJ, simprocAttr]
   refine zK [] (by rw [hC]; rfl) fun k hk => ?_
   simp (maxSteps := 9^9) (disch := (try simp only [lens]); omega) only [zJ, sm, ↓amb, zQ, simprocAttr, en115, lE, mx, hgP, dx]
   repeat refine ⟨by first | omega | (simp; done) | (unfold maxLen; omega) | (simp [maxLen]; omega) | assumption, ?_⟩
   refine yW (c_ref05_cut _ _ (by omega)) rfl ?_
   simp (maxSteps := 9^9) (disch := (try simp only [lens]); omega) only [zJ, sm, ↓amb, zQ, simprocAttr, en115, lE, mx, hgP, dx]
   repeat refine ⟨by first | omega | (simp; done) | (unfold maxLen; omega) | (simp [maxLen]; omega) | assumption, ?_⟩
   refine yW (c_ref05_cut _ _ (by omega)) rfl ?_
   simp (maxSteps := 9^9) (disch := (try simp only [lens]); omega) only [zJ, sm, ↓amb, zQ, simprocAttr, en115, lE, mx, hgP, dx]
   repeat refine ⟨by first | omega | (simp; done) | (unfold maxLen; omega) | (simp [maxLen]; omega) | assumption, ?_⟩
   refine hk _ ?_; clear hk k
   refine zW (zV [1, 2, 3, 6, 7]) ?_
   simp only [kp, zJ, simprocAttr]
   rw [hcp, hcv]
   refine zK [] (by rw [hC]; rfl) fun k hk => ?_
   simp (maxSteps := 9^9) (disch := (try simp only [lens]); omega) only [zJ, sm, ↓amb, zQ, simprocAttr, sz110, en116, vr110, lE, mx, hgP, dx]
   repeat refine ⟨by first | omega | (simp; done) | (unfold maxLen; omega) | (simp [maxLen]; omega) | assumption, ?_⟩
   refine callK_h (c_Copy_h c (by omega) (by omega) (by omega) (fun l h => (hl l h).1)) [] [] (by first | rfl | (simp only [hm]; done)) (by first | rfl | (simp [namesOk, lkp]; done)) ?_ ?_ ?_ ?_ ?_ ?_ ?_
   (iterate 6 (focus (first | trivial | (intro n hn; cases hn; done) | (simp (maxSteps := 9^9) (disch := (try simp only [lens]); omega) only [zJ, sm, ↓amb, zQ, simprocAttr, sz110, en116, vr110, lE, mx, hgP, dx, hmx, List.filter_cons, Nat.reduceBNe, imp_self, implies_true]; done))))
   simp (maxSteps := 9^9) (disch := (try simp only [lens]); omega) only [zJ, sm, ↓amb, zQ, simprocAttr, sz110, en116, vr110, lE, mx, hgP, dx, hm, List.filter_cons, List.filter_nil, Nat.reduceBNe, Option.map_none]
   repeat refine ⟨by first | omega | (simp; done) | (unfold maxLen; omega) | (simp [maxLen]; omega) | assumption, ?_⟩
   refine hk _ ?_; clear hk k
   refine zW (zV [1, 2, 3, 6, 7, 10]) ?_
   simp only [kp, zJ, simprocAttr]
   refine zK [] (by rw [hC]; rfl) fun k hk => ?_
   simp (maxSteps := 9^9) (disch := (try simp only [lens]); omega) only [zJ, sm, ↓amb, zQ, simprocAttr, fl110_3, sz3, lE, mx, hgP, dx]
   repeat refine ⟨by first | omega | (simp; done) | (unfold maxLen; omega) | (simp [maxLen]; omega) | assumption, ?_⟩
   refine hk _ ?_; clear hk k
   refine zW (zV [1, 2, 3, 6, 7, 10]) ?_
   simp only [kp, zJ, simprocAttr]
   refine zK [] (by rw [hC]; rfl) fun k hk => ?_
   simp (maxSteps := 9^9) (disch := (try simp only [lens]); omega) only [zJ, sm, ↓amb, zQ, simprocAttr, vr139, bt139, pl139_0, pl139_1, pl139_2, sz139, lE, mx, hgP, dx]
   repeat refine ⟨by first | omega | (simp; done) | (unfold maxLen; omega) | (simp [maxLen]; omega) | assumption, ?_⟩
   refine hk _ ?_; clear hk k
   refine zY fun k2 h2 => ?_
   refine zW (zV [1, 2, 3, 6, 7, 8, 10, 11]) ?_
   simp only [kp, zJ, simprocAttr]
   refine zK [] (by rw [hC]; rfl) fun k hk => ?_
   simp (maxSteps := 9^9) (disch := (try simp only [lens]); omega) only [zJ, sm, ↓amb, zQ, simprocAttr, fl110_1, sz108, el108, sz67, en117, lE, mx, hgP, dx]
   repeat refine ⟨by first | omega | (simp; done) | (unfold maxLen; omega) | (simp [maxLen]; omega) | assumption, ?_⟩
   refine yW (hpop) rfl ?_
   simp (maxSteps := 9^9) (disch := (try simp only [lens]); omega) only [zJ, sm, ↓amb, zQ, simprocAttr, fl110_1, sz108, el108, sz67, en117, lE, mx, hgP, dx]
   repeat refine ⟨by first | omega | (simp; done) | (unfold maxLen; omega) | (simp [maxLen]; omega) | assumption, ?_⟩
   refine hk _ ?_; clear hk k
   refine zW (zV [1, 2, 3, 6, 7, 8, 10, 11, 12, 13, 14]) ?_
   simp only [kp, zJ, simprocAttr]
   refine zK [] (by rw [hC]; rfl) fun k hk => ?_
   simp (maxSteps := 9^9) (disch := (try simp only [lens]); omega) only [zJ, sm, ↓amb, zQ, simprocAttr, lE, mx, hgP, dx]
   repeat refine ⟨by first | omega | (simp; done) | (unfold maxLen; omega) | (simp [maxLen]; omega) | assumption, ?_⟩
   refine hk _ ?_; clear hk k
   refine zX rfl (fun hb => ?_) (fun hb => ?_)
   ·exact absurd hb (by simp)
   ·try simp only [hbx] at hb
    refine zW (zV [1, 2, 3, 6, 7, 8, 10, 11]) ?_
    simp only [kp, zJ, simprocAttr]
    refine zK [] (by rw [hC]; rfl) fun k hk => ?_
    simp (maxSteps := 9^9) (disch := (try simp only [lens]); omega) only [zJ, sm, ↓amb, zQ, simprocAttr, fl110_1, sz108, el108, sz67, en118, lE, mx, hgP, dx]
    repeat refine ⟨by first | omega | (simp; done) | (unfold maxLen; omega) | (simp [maxLen]; omega) | assumption, ?_⟩
    refine yW (hsl) rfl ?_
    simp (maxSteps := 9^9) (disch := (try simp only [lens]); omega) only [zJ, sm, ↓amb, zQ, simprocAttr, fl110_1, sz108, el108, sz67, en118, lE, mx, hgP, dx]
    repeat refine ⟨by first | omega | (simp; done) | (unfold maxLen; omega) | (simp [maxLen]; omega) | assumption, ?_⟩
    refine hk _ ?_; clear hk k
    refine zW (zV [1, 2, 3, 6, 7, 8, 10, 11, 15, 16, 17]) ?_
    simp only [kp, zJ, simprocAttr]
    refine zK [] (by rw [hC]; rfl) fun k hk => ?_
    simp (maxSteps := 9^9) (disch := (try simp only [lens]); omega) only [zJ, sm, ↓amb, zQ, simprocAttr, lE, mx, hgP, dx]
    repeat refine ⟨by first | omega | (simp; done) | (unfold maxLen; omega) | (simp [maxLen]; omega) | assumption, ?_⟩
    refine hk _ ?_; clear hk k
    refine zX rfl (fun hb => ?_) (fun hb => ?_)
    ·try simp only [hbx] at hb
     refine yZ [] (by rw [hC]; rfl) fun k hk => ?_
     simp (maxSteps := 9^9) (disch := (try simp only [lens]); omega) only [zJ, sm, ↓amb, zQ, simprocAttr, fl110_1, sz108, el108, sz67, fl139_1, sz3, fl139_2, lE, mx, hgP, dx]
     repeat refine ⟨by first | omega | (simp; done) | (unfold maxLen; omega) | (simp [maxLen]; omega) | assumption, ?_⟩
     refine hk _ ?_; clear hk k
     refine h2 _ ?_; clear h2 k2
     refine zY fun k3 h3 => ?_
     refine zW (zV [1, 3, 6, 7, 8, 10, 11]) ?_
     simp only [kp, zJ, simprocAttr]
     refine zW (show LE _ (⟨[(1, (.p (iV (P : Int)))), (3, (.ptr 0 7 0 0)), (6, (.ptr 1 7 0 0)), (7, (.ptr 2 4 0 0)), (10, (.ptr 3 7 0 0)), (11, (.ptr 4 4 0 0))], [(0, (.row 7 [[.p (.seq false (c.work.ts.map taskC)), .p (iV c.work.grain), .p (.seq false (c.work.done.map fun b => [bV b])), .p (.seq false (c.dq.map lV)), .p (bV c.over), .p (iV c.steps), .p (iV c.idle)]])), (1, (.row 7 [[.p (.seq true []), .p (iV 0), .p (.seq true []), .p (.seq true []), .p (bV false), .p (iV 0), .p (iV 0)]])), (2, (.row 4 [[.p (iV 0), .p (iV 0), .p (iV 0), .p (bV false)]])), (3, (.row 7 [[.p (.seq false (c.work.ts.map taskC)), .p (iV c.work.grain), .p (.seq false (c.work.done.map fun b => [bV b])), .own 5, .p (bV c.over), .p (iV (c.steps + 1)), .p (iV c.idle)]])), (4, (.row 4 [[.p (iV (P : Int)), .p (iV (V : Int)), .p (iV ((c.dq.getD V default).getD 0 0)), .p (bV false)]])), (5, (.row 1 (lift ((c.dq.map lE).set V [PV.seq false (((c.dq.getD V default).drop 1).map fun n => [iV n])]))))], 1⟩ : LS) from le_of [(0, _), (1, _), (2, _), (3, _), (4, _), (5, _)] (by rfl) (by rfl) ⟨⟨_, rfl, .p (.of_eq (by first | rfl | (simp only [PV.lit.injEq, Value.int.injEq, true_and]; omega) | (simp; done) | (simp; omega)))⟩, ⟨_, rfl, .ptr rfl⟩, ⟨_, rfl, .ptr rfl⟩, ⟨_, rfl, .ptr rfl⟩, ⟨_, rfl, .ptr rfl⟩, ⟨_, rfl, .ptr rfl⟩, trivial⟩ ⟨⟨_, rfl, _, rfl, .one (.cons (.p (.refl _)) (.cons (.p (.refl _)) (.cons (.p (.refl _)) (.cons (.p (.refl _)) (.cons (.p (.refl _)) (.cons (.p (.refl _)) (.cons (.p (.refl _)) (.nil))))))))⟩, ⟨_, rfl, _, rfl, .one (.cons (.p (.refl _)) (.cons (.p (.refl _)) (.cons (.p (.refl _)) (.cons (.p (.refl _)) (.cons (.p (.refl _)) (.cons (.p (.refl _)) (.cons (.p (.refl _)) (.nil))))))))⟩, ⟨_, rfl, _, rfl, .one (.cons (.p (.refl _)) (.cons (.p (.refl _)) (.cons (.p (.refl _)) (.cons (.p (.refl _)) (.nil)))))⟩, ⟨_, rfl, _, rfl, .one (.cons (.p (.refl _)) (.cons (.p (.refl _)) (.cons (.p (.refl _)) (.cons (.own rfl) (.cons (.p (.refl _)) (.cons (.p (.refl _)) (.cons (.p (.refl _)) (.nil))))))))⟩, ⟨_, rfl, _, rfl, .one (.cons (.p (.refl _)) (.cons (.p (.refl _)) (.cons (.p (.refl _)) (.cons (.p (.refl _)) (.nil)))))⟩, ⟨_, rfl, _, rfl, .liftE rfl⟩, trivial⟩) ?_
     refine zK [] (by rw [hC]; rfl) fun k hk => ?_
     simp (maxSteps := 9^9) (disch := (try simp only [lens]); omega) only [zJ, sm, ↓amb, zQ, simprocAttr, fl110_0, sz107, fl139_2, sz3, en119, lE, mx, hgP, dx]
     repeat refine ⟨by first | omega | (simp; done) | (unfold maxLen; omega) | (simp [maxLen]; omega) | assumption, ?_⟩
     refine yW (c40 _ _ _ _) rfl ?_
     simp (maxSteps := 9^9) (disch := (try simp only [lens]); omega) only [zJ, sm, ↓amb, zQ, simprocAttr, fl110_0, sz107, fl139_2, sz3, en119, lE, mx, hgP, dx]
     repeat refine ⟨by first | omega | (simp; done) | (unfold maxLen; omega) | (simp [maxLen]; omega) | assumption, ?_⟩
     refine hk _ ?_; clear hk k
     refine zX rfl (fun hb => ?_) (fun hb => ?_)
     ·try simp only [hbx] at hb
      refine zW (zV [1, 3, 6, 7, 10, 11]) ?_
      simp only [kp, zJ, simprocAttr]
      have hgp := hso.1 hb
      refine zK [] (by rw [hC]; rfl) fun k hk => ?_
      simp (maxSteps := 9^9) (disch := (try simp only [lens]); omega) only [zJ, sm, ↓amb, zQ, simprocAttr, fl110_0, sz107, fl139_2, sz3, en120, vr107, lE, mx, hgP, dx]
      repeat refine ⟨by first | omega | (simp; done) | (unfold maxLen; omega) | (simp [maxLen]; omega) | assumption, ?_⟩
      refine yW (c29 _ _ _ _) rfl ?_
      simp (maxSteps := 9^9) (disch := (try simp only [lens]); omega) only [zJ, sm, ↓amb, zQ, simprocAttr, fl110_0, sz107, fl139_2, sz3, en120, vr107, lE, mx, hgP, dx]
      repeat refine ⟨by first | omega | (simp; done) | (unfold maxLen; omega) | (simp [maxLen]; omega) | assumption, ?_⟩
      refine hk _ ?_; clear hk k
      refine zY fun k4 h4 => ?_
      refine zW (zV [1, 3, 6, 7, 8, 10, 11, 18, 19, 20, 21]) ?_
      simp only [kp, zJ, simprocAttr]
      refine zK [] (by rw [hC]; rfl) fun k hk => ?_
      simp (maxSteps := 9^9) (disch := (try simp only [lens]); omega) only [zJ, sm, ↓amb, zQ, simprocAttr, lE, mx, hgP, dx]
      repeat refine ⟨by first | omega | (simp; done) | (unfold maxLen; omega) | (simp [maxLen]; omega) | assumption, ?_⟩
      refine hk _ ?_; clear hk k
      refine zX rfl (fun hb => ?_) (fun hb => ?_)
      ·rw [hgp.1] at hb; exact absurd hb (by simp)
      ·try simp only [hbx] at hb
       refine yJ ?_
       refine h4 _ ?_; clear h4 k4
       refine zW (zV [1, 6, 7, 10, 11, 18, 19, 20]) ?_
       simp only [kp, zJ, simprocAttr]
       refine zK [] (by rw [hC]; rfl) fun k hk => ?_
       simp (maxSteps := 9^9) (disch := (try simp only [lens]); omega) only [zJ, sm, ↓amb, zQ, simprocAttr, sz107, fl110_0, fl139_3, sz4, lE, mx, hgP, dx]
       repeat refine ⟨by first | omega | (simp; done) | (unfold maxLen; omega) | (simp [maxLen]; omega) | assumption, ?_⟩
       refine hk _ ?_; clear hk k
       refine zW (zV [1, 6, 7, 10, 11, 19, 20]) ?_
       simp only [kp, zJ, simprocAttr]
       refine awp_sd [] ⟨[0, 1, 0, 0, 8, 0, 56, 120, 0, 0, 768, 2040, 4095, 8191], [6, 7, 12], [13], [], some [5]⟩ (by rw [hC]; rfl) (by kernel_rfl) (by kernel_rfl) fun k hk => ?_
       simp (maxSteps := 9^9) (disch := (try simp only [lens]); omega) only [zJ, sm, ↓amb, zQ, simprocAttr, fl110_1, sz108, el108, sz67, el67, vr3, by3, lE, mx, hgP, dx]
       repeat refine ⟨by first | omega | (simp; done) | (unfold maxLen; omega) | (simp [maxLen]; omega) | assumption, ?_⟩
       refine hk _ ?_; clear hk k
       refine zW (zV [6, 7, 10, 11]) ?_
       simp only [kp, zJ, simprocAttr]
       refine zW (show LE _ (⟨[(6, (.ptr 1 7 0 0)), (7, (.ptr 2 4 0 0)), (10, (.ptr 3 7 0 0)), (11, (.ptr 4 4 0 0))], [(1, (.row 7 [[.p (.seq true []), .p (iV 0), .p (.seq true []), .p (.seq true []), .p (bV false), .p (iV 0), .p (iV 0)]])), (2, (.row 4 [[.p (iV 0), .p (iV 0), .p (iV 0), .p (bV false)]])), (3, (.row 7 [[.p (.seq false ((Pl.partW c.work ((c.dq.getD V default).getD 0 0)).ts.map taskC)), .p (iV (Pl.partW c.work ((c.dq.getD V default).getD 0 0)).grain), .p (.seq false ((Pl.partW c.work ((c.dq.getD V default).getD 0 0)).done.map fun b => [bV b])), .own 5, .p (bV c.over), .p (iV (c.steps + 1)), .p (iV c.idle)]])), (4, (.row 4 [[.p (iV (P : Int)), .p (iV (V : Int)), .p (iV ((c.dq.getD V default).getD 0 0)), .p (bV true)]])), (5, (.row 1 (lift (((c.dq.set V ((c.dq.getD V default).drop 1)).set P [Pl.partB c.work ((c.dq.getD V default).getD 0 0), Pl.partA c.work ((c.dq.getD V default).getD 0 0)]).map lV))))], 1⟩ : LS) from le_of [(1, _), (2, _), (3, _), (4, _), (5, 5)] (by rfl) (by rfl) ⟨⟨_, rfl, .ptr rfl⟩, ⟨_, rfl, .ptr rfl⟩, ⟨_, rfl, .ptr rfl⟩, ⟨_, rfl, .ptr rfl⟩, trivial⟩ ⟨⟨_, rfl, _, rfl, .one (.cons (.p (.refl _)) (.cons (.p (.refl _)) (.cons (.p (.refl _)) (.cons (.p (.refl _)) (.cons (.p (.refl _)) (.cons (.p (.refl _)) (.cons (.p (.refl _)) (.nil))))))))⟩, ⟨_, rfl, _, rfl, .one (.cons (.p (.refl _)) (.cons (.p (.refl _)) (.cons (.p (.refl _)) (.cons (.p (.refl _)) (.nil)))))⟩, ⟨_, rfl, _, rfl, .one (.cons (.p (.refl _)) (.cons (.p (.refl _)) (.cons (.p (.refl _)) (.cons (.own rfl) (.cons (.p (.refl _)) (.cons (.p (.refl _)) (.cons (.p (.refl _)) (.nil))))))))⟩, ⟨_, rfl, _, rfl, .one (.cons (.p (.refl _)) (.cons (.p (.refl _)) (.cons (.p (.refl _)) (.cons (.p (.refl _)) (.nil)))))⟩, ⟨_, rfl, _, rfl, leB_outV (lE_set (lE_set (lE_all _) V false ((c.dq.getD V default).drop 1)) P false [Pl.partB c.work ((c.dq.getD V default).getD 0 0), Pl.partA c.work ((c.dq.getD V default).getD 0 0)])⟩, trivial⟩) ?_
       refine awp_sd [] ⟨[0, 0, 1, 7, 15], [], [2, 3], [], some [1, 2]⟩ (by rw [hC]; rfl) (by kernel_rfl) (by kernel_rfl) fun k hk => ?_
       simp (maxSteps := 9^9) (disch := (try simp only [lens]); omega) only [zJ, sm, ↓amb, zQ, simprocAttr, sz110, sz139, lE, mx, hgP, dx]
       repeat refine ⟨by first | omega | (simp; done) | (unfold maxLen; omega) | (simp [maxLen]; omega) | assumption, ?_⟩
       refine hk _ ?_; clear hk k
       refine yQ ?_
       rw [hgp.2]
       refine retl rfl rfl ⟨retc rfl sz110 ?_, retc rfl sz139 ?_, rett rfl ?_, trivial⟩
       all_goals first | (simp (maxSteps := 9^9) (disch := (try simp only [lens]); omega) only [zJ, sm, ↓amb, zQ, simprocAttr, sz110, sz139, lE, mx, hgP, dx]) | skip
       ·exact .agg_cons (.p (LeP.refl _)) (.agg_cons (.p (LeP.refl _)) (.agg_cons (.p (LeP.refl _)) (.agg_cons (.ownE rfl rfl) (.agg_cons (.p (LeP.refl _)) (.agg_cons (.p (LeP.refl _)) (.agg_cons (.p (LeP.refl _)) (.agg_nil)))))))
       ·exact .p (LeP.refl _)
       ·exact .p (LeP.refl _)
     ·try simp only [hbx] at hb
      refine yJ ?_
      refine h3 _ ?_; clear h3 k3
      refine zW (zV [3, 6, 7, 10, 11]) ?_
      simp only [kp, zJ, simprocAttr]
      have hgp := hso.2 hb
      refine zK [] (by rw [hC]; rfl) fun k hk => ?_
      simp (maxSteps := 9^9) (disch := (try simp only [lens]); omega) only [zJ, sm, ↓amb, zQ, simprocAttr, fl110_0, sz107, fl139_2, sz3, en121, vr107, lE, mx, hgP, dx]
      repeat refine ⟨by first | omega | (simp; done) | (unfold maxLen; omega) | (simp [maxLen]; omega) | assumption, ?_⟩
      refine yW (c31 _ _ _ _) rfl ?_
      simp (maxSteps := 9^9) (disch := (try simp only [lens]); omega) only [zJ, sm, ↓amb, zQ, simprocAttr, fl110_0, sz107, fl139_2, sz3, en121, vr107, lE, mx, hgP, dx]
      repeat refine ⟨by first | omega | (simp; done) | (unfold maxLen; omega) | (simp [maxLen]; omega) | assumption, ?_⟩
      refine hk _ ?_; clear hk k
      refine zY fun k5 h5 => ?_
      refine zW (zV [3, 6, 7, 8, 10, 11, 22, 23, 24]) ?_
      simp only [kp, zJ, simprocAttr]
      refine zK [] (by rw [hC]; rfl) fun k hk => ?_
      simp (maxSteps := 9^9) (disch := (try simp only [lens]); omega) only [zJ, sm, ↓amb, zQ, simprocAttr, lE, mx, hgP, dx]
      repeat refine ⟨by first | omega | (simp; done) | (unfold maxLen; omega) | (simp [maxLen]; omega) | assumption, ?_⟩
      refine hk _ ?_; clear hk k
      refine zX rfl (fun hb => ?_) (fun hb => ?_)
      ·rw [hgp.1] at hb; exact absurd hb (by simp)
      ·try simp only [hbx] at hb
       refine yJ ?_
       refine h5 _ ?_; clear h5 k5
       refine zW (zV [6, 7, 10, 11, 22, 23]) ?_
       simp only [kp, zJ, simprocAttr]
       refine zK [] (by rw [hC]; rfl) fun k hk => ?_
       simp (maxSteps := 9^9) (disch := (try simp only [lens]); omega) only [zJ, sm, ↓amb, zQ, simprocAttr, sz107, fl110_0, lE, mx, hgP, dx]
       repeat refine ⟨by first | omega | (simp; done) | (unfold maxLen; omega) | (simp [maxLen]; omega) | assumption, ?_⟩
       refine hk _ ?_; clear hk k
       refine zW (zV [6, 7, 10, 11, 23]) ?_
       simp only [kp, zJ, simprocAttr]
       obtain ⟨ov, hov⟩ : ∃ o, o = c.over := ⟨_, rfl⟩
       rw [← hov]
       refine awp_srg [] (by rw [hC]; rfl) fun gd hgd k hk => ?_
       have g2 : gd 2 = some 163 := by rw [hgd]; rfl
       clear hgd
       simp (maxSteps := 9^9) (disch := (try simp only [lens]); omega) only [zJ, sm, ↓amb, zQ, simprocAttr, fl110_2, sz4, g2, a07, lE, mx, hgP, dx]
       repeat refine ⟨by first | omega | (simp; done) | (unfold maxLen; omega) | (simp [maxLen]; omega) | assumption, ?_⟩
       refine ⟨fun hg => ?_, fun hg => ?_⟩
       ·try simp only [hbx] at hg
        repeat refine ⟨by first | omega | (simp; done) | (unfold maxLen; omega) | (simp [maxLen]; omega) | assumption, ?_⟩
        refine hk _ ?_; clear hk k
        refine zW (zV [6, 7, 10, 11]) ?_
        simp only [kp, zJ, simprocAttr]
        refine zW (show LE _ (⟨[(6, (.ptr 1 7 0 0)), (7, (.ptr 2 4 0 0)), (10, (.ptr 3 7 0 0)), (11, (.ptr 4 4 0 0))], [(1, (.row 7 [[.p (.seq true []), .p (iV 0), .p (.seq true []), .p (.seq true []), .p (bV false), .p (iV 0), .p (iV 0)]])), (2, (.row 4 [[.p (iV 0), .p (iV 0), .p (iV 0), .p (bV false)]])), (3, (.row 7 [[.p (.seq false ((Pl.doW c.work ((c.dq.getD V default).getD 0 0)).ts.map taskC)), .p (iV (Pl.doW c.work ((c.dq.getD V default).getD 0 0)).grain), .p (.seq false ((Pl.doW c.work ((c.dq.getD V default).getD 0 0)).done.map fun b => [bV b])), .own 5, .p (bV (false || Pl.doO c.work ((c.dq.getD V default).getD 0 0))), .p (iV (c.steps + 1)), .p (iV c.idle)]])), (4, (.row 4 [[.p (iV (P : Int)), .p (iV (V : Int)), .p (iV ((c.dq.getD V default).getD 0 0)), .p (bV false)]])), (5, (.row 1 (lift ((c.dq.set V ((c.dq.getD V default).drop 1)).map lV))))], 1⟩ : LS) from le_of [(1, _), (2, _), (3, _), (4, _), (5, 5)] (by rfl) (by rfl) ⟨⟨_, rfl, .ptr rfl⟩, ⟨_, rfl, .ptr rfl⟩, ⟨_, rfl, .ptr rfl⟩, ⟨_, rfl, .ptr rfl⟩, trivial⟩ ⟨⟨_, rfl, _, rfl, .one (.cons (.p (.refl _)) (.cons (.p (.refl _)) (.cons (.p (.refl _)) (.cons (.p (.refl _)) (.cons (.p (.refl _)) (.cons (.p (.refl _)) (.cons (.p (.refl _)) (.nil))))))))⟩, ⟨_, rfl, _, rfl, .one (.cons (.p (.refl _)) (.cons (.p (.refl _)) (.cons (.p (.refl _)) (.cons (.p (.refl _)) (.nil)))))⟩, ⟨_, rfl, _, rfl, .one (.cons (.p (.refl _)) (.cons (.p (.refl _)) (.cons (.p (.refl _)) (.cons (.own rfl) (.cons (.p (.refl _)) (.cons (.p (.refl _)) (.cons (.p (.refl _)) (.nil))))))))⟩, ⟨_, rfl, _, rfl, .one (.cons (.p (.refl _)) (.cons (.p (.refl _)) (.cons (.p (.refl _)) (.cons (.p (.refl _)) (.nil)))))⟩, ⟨_, rfl, _, rfl, leB_outV (lE_set (lE_all _) V false ((c.dq.getD V default).drop 1))⟩, trivial⟩) ?_
        refine awp_sd [] ⟨[0, 0, 1, 7, 15], [], [2, 3], [], some [1, 2]⟩ (by rw [hC]; rfl) (by kernel_rfl) (by kernel_rfl) fun k hk => ?_
        simp (maxSteps := 9^9) (disch := (try simp only [lens]); omega) only [zJ, sm, ↓amb, zQ, simprocAttr, sz110, sz139, lE, mx, hgP, dx]
        repeat refine ⟨by first | omega | (simp; done) | (unfold maxLen; omega) | (simp [maxLen]; omega) | assumption, ?_⟩
        refine hk _ ?_; clear hk k
        refine yQ ?_
        subst hg
        rw [hgp.2, ← hov]
        refine retl rfl rfl ⟨retc rfl sz110 ?_, retc rfl sz139 ?_, rett rfl ?_, trivial⟩
        all_goals first | (simp (maxSteps := 9^9) (disch := (try simp only [lens]); omega) only [zJ, sm, ↓amb, zQ, simprocAttr, sz110, sz139, lE, mx, hgP, dx]) | skip
        ·exact .agg_cons (.p (LeP.refl _)) (.agg_cons (.p (LeP.refl _)) (.agg_cons (.p (LeP.refl _)) (.agg_cons (.ownE rfl rfl) (.agg_cons (.p (LeP.refl _)) (.agg_cons (.p (LeP.refl _)) (.agg_cons (.p (LeP.refl _)) (.agg_nil)))))))
        ·exact .p (LeP.refl _)
        ·exact .p (LeP.refl _)
       ·try simp only [hbx] at hg
        repeat refine ⟨by first | omega | (simp; done) | (unfold maxLen; omega) | (simp [maxLen]; omega) | assumption, ?_⟩
        refine hk _ ?_; clear hk k
        refine zW (zV [6, 7, 10, 11]) ?_
        simp only [kp, zJ, simprocAttr]
        refine zW (show LE _ (⟨[(6, (.ptr 1 7 0 0)), (7, (.ptr 2 4 0 0)), (10, (.ptr 3 7 0 0)), (11, (.ptr 4 4 0 0))], [(1, (.row 7 [[.p (.seq true []), .p (iV 0), .p (.seq true []), .p (.seq true []), .p (bV false), .p (iV 0), .p (iV 0)]])), (2, (.row 4 [[.p (iV 0), .p (iV 0), .p (iV 0), .p (bV false)]])), (3, (.row 7 [[.p (.seq false ((Pl.doW c.work ((c.dq.getD V default).getD 0 0)).ts.map taskC)), .p (iV (Pl.doW c.work ((c.dq.getD V default).getD 0 0)).grain), .p (.seq false ((Pl.doW c.work ((c.dq.getD V default).getD 0 0)).done.map fun b => [bV b])), .own 5, .p (bV (true || Pl.doO c.work ((c.dq.getD V default).getD 0 0))), .p (iV (c.steps + 1)), .p (iV c.idle)]])), (4, (.row 4 [[.p (iV (P : Int)), .p (iV (V : Int)), .p (iV ((c.dq.getD V default).getD 0 0)), .p (bV false)]])), (5, (.row 1 (lift ((c.dq.set V ((c.dq.getD V default).drop 1)).map lV))))], 1⟩ : LS) from le_of [(1, _), (2, _), (3, _), (4, _), (5, 5)] (by rfl) (by rfl) ⟨⟨_, rfl, .ptr rfl⟩, ⟨_, rfl, .ptr rfl⟩, ⟨_, rfl, .ptr rfl⟩, ⟨_, rfl, .ptr rfl⟩, trivial⟩ ⟨⟨_, rfl, _, rfl, .one (.cons (.p (.refl _)) (.cons (.p (.refl _)) (.cons (.p (.refl _)) (.cons (.p (.refl _)) (.cons (.p (.refl _)) (.cons (.p (.refl _)) (.cons (.p (.refl _)) (.nil))))))))⟩, ⟨_, rfl, _, rfl, .one (.cons (.p (.refl _)) (.cons (.p (.refl _)) (.cons (.p (.refl _)) (.cons (.p (.refl _)) (.nil)))))⟩, ⟨_, rfl, _, rfl, .one (.cons (.p (.refl _)) (.cons (.p (.refl _)) (.cons (.p (.refl _)) (.cons (.own rfl) (.cons (.p (.refl _)) (.cons (.p (.refl _)) (.cons (.p (.refl _)) (.nil))))))))⟩, ⟨_, rfl, _, rfl, .one (.cons (.p (.refl _)) (.cons (.p (.refl _)) (.cons (.p (.refl _)) (.cons (.p (.refl _)) (.nil)))))⟩, ⟨_, rfl, _, rfl, leB_outV (lE_set (lE_all _) V false ((c.dq.getD V default).drop 1))⟩, trivial⟩) ?_
        refine awp_sd [] ⟨[0, 0, 1, 7, 15], [], [2, 3], [], some [1, 2]⟩ (by rw [hC]; rfl) (by kernel_rfl) (by kernel_rfl) fun k hk => ?_
        simp (maxSteps := 9^9) (disch := (try simp only [lens]); omega) only [zJ, sm, ↓amb, zQ, simprocAttr, sz110, sz139, lE, mx, hgP, dx]
        repeat refine ⟨by first | omega | (simp; done) | (unfold maxLen; omega) | (simp [maxLen]; omega) | assumption, ?_⟩
        refine hk _ ?_; clear hk k
        refine yQ ?_
        subst hg
        rw [hgp.2, ← hov]
        refine retl rfl rfl ⟨retc rfl sz110 ?_, retc rfl sz139 ?_, rett rfl ?_, trivial⟩
        all_goals first | (simp (maxSteps := 9^9) (disch := (try simp only [lens]); omega) only [zJ, sm, ↓amb, zQ, simprocAttr, sz110, sz139, lE, mx, hgP, dx]) | skip
        ·exact .agg_cons (.p (LeP.refl _)) (.agg_cons (.p (LeP.refl _)) (.agg_cons (.p (LeP.refl _)) (.agg_cons (.ownE rfl rfl) (.agg_cons (.p (LeP.refl _)) (.agg_cons (.p (LeP.refl _)) (.agg_cons (.p (LeP.refl _)) (.agg_nil)))))))
        ·exact .p (LeP.refl _)
        ·exact .p (LeP.refl _)
    ·exact absurd hb (by simp)
set_option maxHeartbeats 4000000 in
theorem c_Step_i (c : Pl.Crew) (p v : Int) (hl : ∀ l, l ∈ c.dq → l.length ≤ 1000000 ∧ ∀ t, t ∈ l → -9223372036854775808 ≤ t ∧ t ≤ 9223372036854775807) (h0 : (Pl.step c p v).2.2 = 0) (hp : ¬ 0 < (c.dq.getD (Pl.num c.dq p).toNat default).length) (hv : ¬ 0 < (c.dq.getD (Pl.num c.dq v).toNat default).length) : PCall Try.prog 103 [.agg (crewC c), iV p, iV v] (.tup [.agg (crewC (Pl.step c p v).1), .agg (evC (Pl.step c p v).2.1), iV 0]) := by
 obtain ⟨P, V, hcp, hcv, hP, hV, hN, hPl, hVl, hcr, hst⟩ := Pl.step_at h0
 obtain ⟨hr1, hr2, hr3, hr4, hr5, hr6, hr7⟩ := id hcr
 have hRr : c.work.ts.length ≤ 2000 ∧ c.work.done.length ≤ 1000 := ⟨hr1.2.2.1, by have := hr1.1; unfold Pl.cnt at this; omega⟩
 have hlP := hl _ (Pl.getD_mem c.dq P default hPl)
 have hlV := hl _ (Pl.getD_mem c.dq V default hVl)
 rw [hP] at hp
 rw [hV] at hv
 have hso := Pl.step_idle' h0 hP hN hV hp hv
 have hle : (c.dq.getD P default) = [] := List.eq_nil_of_length_eq_zero (by omega)
 have hpop : PCall Try.prog 117 [ints false (c.dq.getD P default)] (.tup [ints false [], iV 0, iV 4]) := by rw [hle]; exact c18 false [] (by decide)
 have hlv : (c.dq.getD V default) = [] := List.eq_nil_of_length_eq_zero (by omega)
 have hsl : PCall Try.prog 118 [ints false (c.dq.getD V default)] (.tup [ints false [], iV 0, iV 4]) := by rw [hlv]; exact c20 false [] (by decide)
 refine yV Try.func103 rfl (by simp [Try.ntmps103]) fun C hC => ?_
 refine zW (zV [0, 1, 2]) ?_
 simp only [kp, zJ, simprocAttr]
 refine zK [] (by rw [hC]; rfl) fun k hk => ?_
 simp (maxSteps := 9^9) (disch := (try simp only [lens]); omega) only [zJ, sm, ↓amb, zQ, simprocAttr, vr110, vr139, lE, mx, dx]
 repeat refine ⟨by first | omega | (simp; done) | (unfold maxLen; omega) | (simp [maxLen]; omega) | assumption, ?_⟩
 refine hk _ ?_; clear hk k
 refine zY fun k1 h1 => ?_
 refine yK ?_
 refine zW (zV [1, 2, 3, 6, 7, 8]) ?_
 simp only [kp, zJ, simprocAttr]
 refine zK [] (by rw [hC]; rfl) fun k hk => ?_
 simp (maxSteps := 9^9) (disch := (try simp only [lens]); omega) only [zJ, sm, ↓amb, zQ, simprocAttr, sz110, en114, lE, mx, dx]
 repeat refine ⟨by first | omega | (simp; done) | (unfold maxLen; omega) | (simp [maxLen]; omega) | assumption, ?_⟩
 refine yW (c_ref05_Right _ hl) rfl ?_
 simp (maxSteps := 9^9) (disch := (try simp only [lens]); omega) only [zJ, sm, ↓amb, zQ, simprocAttr, sz110, en114, lE, mx, dx]
 repeat refine ⟨by first | omega | (simp; done) | (unfold maxLen; omega) | (simp [maxLen]; omega) | assumption, ?_⟩
 refine hk _ ?_; clear hk k
 refine zX rfl (fun hb => ?_) (fun hb => ?_)
 ·exact absurd hcr (by simpa using hb)
 ·try simp only [hbx] at hb
  refine zW (zV [1, 2, 3, 6, 7, 8]) ?_
  simp only [kp, zJ, simprocAttr]
  refine zK [] (by rw [hC]; rfl) fun k hk => ?_
  simp (maxSteps := 9^9) (disch := (try simp only [lens]); omega) only [zJ, sm, ↓amb, zQ, simprocAttr, fl110_3, sz3, lE, mx, dx]
  repeat refine ⟨by first | omega | (simp; done) | (unfold maxLen; omega) | (simp [maxLen]; omega) | assumption, ?_⟩
  refine hk _ ?_; clear hk k
  refine zX rfl (fun hb => ?_) (fun hb => ?_)
  ·exact absurd (beq_iff_eq.mp hb) hst
  ·try simp only [hbx] at hb
   refine yJ ?_
   refine h1 _ ?_; clear h1 k1
   refine zW (zV [1, 2, 3, 6, 7]) ?_
   simp only [kp, zJ, simprocAttr]
   refine zK [] (by rw [hC]; rfl) fun k hk => ?_
   simp (maxSteps := 9^9) (disch := (try simp only [lens]); omega) only [zJ, sm, ↓amb, zQ, simprocAttr, fl110_1, sz108, el108, lE, mx, dx]
   repeat refine ⟨by first | omega | (simp; done) | (unfold maxLen; omega) | (simp [maxLen]; omega) | assumption, ?_⟩
   refine hk _ ?_; clear hk k
   refine zW (zV [1, 2, 3, 6, 7, 9]) ?_
   simp only [kp, zJ, simprocAttr]
   refine zK [] (by rw [hC]; rfl) fun k hk => ?_
   simp (maxSteps := 9^9) (disch := (try simp only [lens]); omega) only [zJ, sm, ↓amb, zQ, simprocAttr, en115, lE, mx, dx]
   repeat refine ⟨by first | omega | (simp; done) | (unfold maxLen; omega) | (simp [maxLen]; omega) | assumption, ?_⟩
   refine yW (c_ref05_cut _ _ (by omega)) rfl ?_
   simp (maxSteps := 9^9) (disch := (try simp only [lens]); omega) only [zJ, sm, ↓amb, zQ, simprocAttr, en115, lE, mx, dx]
   repeat refine ⟨by first | omega | (simp; done) | (unfold maxLen; omega) | (simp [maxLen]; omega) | assumption, ?_⟩
   refine yW (c_ref05_cut _ _ (by omega)) rfl ?_
   simp (maxSteps := 9^9) (disch := (try simp only [lens]); omega) only [zJ, sm, ↓amb, zQ, simprocAttr, en115, lE, mx, dx]
   repeat refine ⟨by first | omega | (simp; done) | (unfold maxLen; omega) | (simp [maxLen]; omega) | assumption, ?_⟩
   refine hk _ ?_; clear hk k
   refine zW (zV [1, 2, 3, 6, 7]) ?_
   simp only [kp, zJ, simprocAttr]
   rw [hcp, hcv]
   refine zK [] (by rw [hC]; rfl) fun k hk => ?_
   simp (maxSteps := 9^9) (disch := (try simp only [lens]); omega) only [zJ, sm, ↓amb, zQ, simprocAttr, sz110, en116, vr110, lE, mx, dx]
   repeat refine ⟨by first | omega | (simp; done) | (unfold maxLen; omega) | (simp [maxLen]; omega) | assumption, ?_⟩
   refine callK_h (c_Copy_h c (by omega) (by omega) (by omega) (fun l h => (hl l h).1)) [] [] (by first | rfl | (simp only [hm]; done)) (by first | rfl | (simp [namesOk, lkp]; done)) ?_ ?_ ?_ ?_ ?_ ?_ ?_
   (iterate 6 (focus (first | trivial | (intro n hn; cases hn; done) | (simp (maxSteps := 9^9) (disch := (try simp only [lens]); omega) only [zJ, sm, ↓amb, zQ, simprocAttr, sz110, en116, vr110, lE, mx, dx, hmx, List.filter_cons, Nat.reduceBNe, imp_self, implies_true]; done))))
   simp (maxSteps := 9^9) (disch := (try simp only [lens]); omega) only [zJ, sm, ↓amb, zQ, simprocAttr, sz110, en116, vr110, lE, mx, dx, hm, List.filter_cons, List.filter_nil, Nat.reduceBNe, Option.map_none]
   repeat refine ⟨by first | omega | (simp; done) | (unfold maxLen; omega) | (simp [maxLen]; omega) | assumption, ?_⟩
   refine hk _ ?_; clear hk k
   refine zW (zV [1, 2, 3, 6, 7, 10]) ?_
   simp only [kp, zJ, simprocAttr]
   refine zK [] (by rw [hC]; rfl) fun k hk => ?_
   simp (maxSteps := 9^9) (disch := (try simp only [lens]); omega) only [zJ, sm, ↓amb, zQ, simprocAttr, fl110_3, sz3, lE, mx, dx]
   repeat refine ⟨by first | omega | (simp; done) | (unfold maxLen; omega) | (simp [maxLen]; omega) | assumption, ?_⟩
   refine hk _ ?_; clear hk k
   refine zW (zV [1, 2, 3, 6, 7, 10]) ?_
   simp only [kp, zJ, simprocAttr]
   refine zK [] (by rw [hC]; rfl) fun k hk => ?_
   simp (maxSteps := 9^9) (disch := (try simp only [lens]); omega) only [zJ, sm, ↓amb, zQ, simprocAttr, vr139, bt139, pl139_0, pl139_1, pl139_2, sz139, lE, mx, dx]
   repeat refine ⟨by first | omega | (simp; done) | (unfold maxLen; omega) | (simp [maxLen]; omega) | assumption, ?_⟩
   refine hk _ ?_; clear hk k
   refine zY fun k2 h2 => ?_
   refine zW (zV [1, 2, 3, 6, 7, 8, 10, 11]) ?_
   simp only [kp, zJ, simprocAttr]
   refine zK [] (by rw [hC]; rfl) fun k hk => ?_
   simp (maxSteps := 9^9) (disch := (try simp only [lens]); omega) only [zJ, sm, ↓amb, zQ, simprocAttr, fl110_1, sz108, el108, sz67, en117, lE, mx, dx]
   repeat refine ⟨by first | omega | (simp; done) | (unfold maxLen; omega) | (simp [maxLen]; omega) | assumption, ?_⟩
   refine yW (hpop) rfl ?_
   simp (maxSteps := 9^9) (disch := (try simp only [lens]); omega) only [zJ, sm, ↓amb, zQ, simprocAttr, fl110_1, sz108, el108, sz67, en117, lE, mx, dx]
   repeat refine ⟨by first | omega | (simp; done) | (unfold maxLen; omega) | (simp [maxLen]; omega) | assumption, ?_⟩
   refine hk _ ?_; clear hk k
   refine zW (zV [1, 2, 3, 6, 7, 8, 10, 11, 12, 13, 14]) ?_
   simp only [kp, zJ, simprocAttr]
   refine zK [] (by rw [hC]; rfl) fun k hk => ?_
   simp (maxSteps := 9^9) (disch := (try simp only [lens]); omega) only [zJ, sm, ↓amb, zQ, simprocAttr, lE, mx, dx]
   repeat refine ⟨by first | omega | (simp; done) | (unfold maxLen; omega) | (simp [maxLen]; omega) | assumption, ?_⟩
   refine hk _ ?_; clear hk k
   refine zX rfl (fun hb => ?_) (fun hb => ?_)
   ·exact absurd hb (by simp)
   ·try simp only [hbx] at hb
    refine zW (zV [1, 2, 3, 6, 7, 8, 10, 11]) ?_
    simp only [kp, zJ, simprocAttr]
    refine zK [] (by rw [hC]; rfl) fun k hk => ?_
    simp (maxSteps := 9^9) (disch := (try simp only [lens]); omega) only [zJ, sm, ↓amb, zQ, simprocAttr, fl110_1, sz108, el108, sz67, en118, lE, mx, dx]
    repeat refine ⟨by first | omega | (simp; done) | (unfold maxLen; omega) | (simp [maxLen]; omega) | assumption, ?_⟩
    refine yW (hsl) rfl ?_
    simp (maxSteps := 9^9) (disch := (try simp only [lens]); omega) only [zJ, sm, ↓amb, zQ, simprocAttr, fl110_1, sz108, el108, sz67, en118, lE, mx, dx]
    repeat refine ⟨by first | omega | (simp; done) | (unfold maxLen; omega) | (simp [maxLen]; omega) | assumption, ?_⟩
    refine hk _ ?_; clear hk k
    refine zW (zV [1, 2, 3, 6, 7, 8, 10, 11, 15, 16, 17]) ?_
    simp only [kp, zJ, simprocAttr]
    refine zK [] (by rw [hC]; rfl) fun k hk => ?_
    simp (maxSteps := 9^9) (disch := (try simp only [lens]); omega) only [zJ, sm, ↓amb, zQ, simprocAttr, lE, mx, dx]
    repeat refine ⟨by first | omega | (simp; done) | (unfold maxLen; omega) | (simp [maxLen]; omega) | assumption, ?_⟩
    refine hk _ ?_; clear hk k
    refine zX rfl (fun hb => ?_) (fun hb => ?_)
    ·exact absurd hb (by simp)
    ·try simp only [hbx] at hb
     refine zY fun k3 h3 => ?_
     refine zW (zV [1, 3, 6, 7, 8, 10, 11]) ?_
     simp only [kp, zJ, simprocAttr]
     refine zK [] (by rw [hC]; rfl) fun k hk => ?_
     simp (maxSteps := 9^9) (disch := (try simp only [lens]); omega) only [zJ, sm, ↓amb, zQ, simprocAttr, fl110_4, sz3, lE, mx, dx]
     repeat refine ⟨by first | omega | (simp; done) | (unfold maxLen; omega) | (simp [maxLen]; omega) | assumption, ?_⟩
     refine hk _ ?_; clear hk k
     refine zX rfl (fun hb => ?_) (fun hb => ?_)
     ·exact absurd (beq_iff_eq.mp hb) hso.1
     ·try simp only [hbx] at hb
      refine yJ ?_
      refine h3 _ ?_; clear h3 k3
      refine zW (zV [6, 7, 10, 11]) ?_
      simp only [kp, zJ, simprocAttr]
      refine zK [] (by rw [hC]; rfl) fun k hk => ?_
      simp (maxSteps := 9^9) (disch := (try simp only [lens]); omega) only [zJ, sm, ↓amb, zQ, simprocAttr, fl110_4, sz3, lE, mx, dx]
      repeat refine ⟨by first | omega | (simp; done) | (unfold maxLen; omega) | (simp [maxLen]; omega) | assumption, ?_⟩
      refine hk _ ?_; clear hk k
      refine zW (zV [6, 7, 10, 11]) ?_
      simp only [kp, zJ, simprocAttr]
      refine zW (show LE _ (⟨[(6, (.ptr 1 7 0 0)), (7, (.ptr 2 4 0 0)), (10, (.ptr 3 7 0 0)), (11, (.ptr 4 4 0 0))], [(1, (.row 7 [[.p (.seq true []), .p (iV 0), .p (.seq true []), .p (.seq true []), .p (bV false), .p (iV 0), .p (iV 0)]])), (2, (.row 4 [[.p (iV 0), .p (iV 0), .p (iV 0), .p (bV false)]])), (3, (.row 7 [[.p (.seq false (c.work.ts.map taskC)), .p (iV c.work.grain), .p (.seq false (c.work.done.map fun b => [bV b])), .own 5, .p (bV c.over), .p (iV (c.steps + 1)), .p (iV (c.idle + 1))]])), (4, (.row 4 [[.p (iV (P : Int)), .p (iV (-1)), .p (iV (-1)), .p (bV false)]])), (5, (.row 1 (lift (c.dq.map lV))))], 1⟩ : LS) from le_of [(1, _), (2, _), (3, _), (4, _), (5, _)] (by rfl) (by rfl) ⟨⟨_, rfl, .ptr rfl⟩, ⟨_, rfl, .ptr rfl⟩, ⟨_, rfl, .ptr rfl⟩, ⟨_, rfl, .ptr rfl⟩, trivial⟩ ⟨⟨_, rfl, _, rfl, .one (.cons (.p (.refl _)) (.cons (.p (.refl _)) (.cons (.p (.refl _)) (.cons (.p (.refl _)) (.cons (.p (.refl _)) (.cons (.p (.refl _)) (.cons (.p (.refl _)) (.nil))))))))⟩, ⟨_, rfl, _, rfl, .one (.cons (.p (.refl _)) (.cons (.p (.refl _)) (.cons (.p (.refl _)) (.cons (.p (.refl _)) (.nil)))))⟩, ⟨_, rfl, _, rfl, .one (.cons (.p (.refl _)) (.cons (.p (.refl _)) (.cons (.p (.refl _)) (.cons (.own rfl) (.cons (.p (.refl _)) (.cons (.p (.refl _)) (.cons (.p (.refl _)) (.nil))))))))⟩, ⟨_, rfl, _, rfl, .one (.cons (.p (.refl _)) (.cons (.p (.refl _)) (.cons (.p (.refl _)) (.cons (.p (.refl _)) (.nil)))))⟩, ⟨_, rfl, _, rfl, leB_outV (lE_all _)⟩, trivial⟩) ?_
      refine awp_sd [] ⟨[0, 0, 1, 7, 15], [], [2, 3], [], some [1, 2]⟩ (by rw [hC]; rfl) (by kernel_rfl) (by kernel_rfl) fun k hk => ?_
      simp (maxSteps := 9^9) (disch := (try simp only [lens]); omega) only [zJ, sm, ↓amb, zQ, simprocAttr, sz110, sz139, lE, mx, dx]
      repeat refine ⟨by first | omega | (simp; done) | (unfold maxLen; omega) | (simp [maxLen]; omega) | assumption, ?_⟩
      refine hk _ ?_; clear hk k
      refine yQ ?_
      rw [hso.2]
      refine retl rfl rfl ⟨retc rfl sz110 ?_, retc rfl sz139 ?_, rett rfl ?_, trivial⟩
      all_goals first | (simp (maxSteps := 9^9) (disch := (try simp only [lens]); omega) only [zJ, sm, ↓amb, zQ, simprocAttr, sz110, sz139, lE, mx, dx]) | skip
      ·exact .agg_cons (.p (LeP.refl _)) (.agg_cons (.p (LeP.refl _)) (.agg_cons (.p (LeP.refl _)) (.agg_cons (.ownE rfl rfl) (.agg_cons (.p (LeP.refl _)) (.agg_cons (.p (LeP.refl _)) (.agg_cons (.p (LeP.refl _)) (.agg_nil)))))))
      ·exact .p (LeP.refl _)
      ·exact .p (LeP.refl _)
end Go.Proofs.Ytjkkjiaeeobnkaa
end
section
set_option linter.unusedSimpArgs false
set_option linter.unusedVariables false
set_option maxRecDepth 100000
namespace Go.Proofs.Ytjkkjiaeeobnkaa
open Go.Am Go.Proofs
theorem c_ref05_Step (c : Pl.Crew) (p v : Int) (hl : ∀ l, l ∈ c.dq → l.length ≤ 1000000 ∧ ∀ t, t ∈ l → -9223372036854775808 ≤ t ∧ t ≤ 9223372036854775807) (h0 : (Pl.step c p v).2.2 = 0) :
    PCall Try.prog 103 [.agg (crewC c), iV p, iV v] (.tup [.agg (crewC (Pl.step c p v).1), .agg (evC (Pl.step c p v).2.1), iV 0]) := by
  by_cases hp : 0 < (c.dq.getD (Pl.num c.dq p).toNat default).length
  · exact c_Step_p c p v hl h0 hp
  · by_cases hv : 0 < (c.dq.getD (Pl.num c.dq v).toNat default).length
    · exact c_Step_s c p v hl h0 hp hv
    · exact c_Step_i c p v hl h0 hp hv
end Go.Proofs.Ytjkkjiaeeobnkaa
end
section
set_option linter.unusedSimpArgs false
set_option linter.unusedVariables false
set_option maxRecDepth 100000
namespace Go.Proofs.Ytjkkjiaeeobnkaa
open Go.Am Go.Proofs
theorem en103 : enters Try.prog 103 = true := by kernel_rfl
theorem en122 : enters Try.prog 122 = true := by kernel_rfl
set_option maxHeartbeats 4000000 in
theorem c_ref06_Drain (n g : Int) (c : Pl.Crew) (ev : List Pl.Event) (hR : Pl.Run n g c ev) (hM : Pl.most n g 0 c ev ≤ 16010) (he : ev.length ≤ 70000) : PCall Try.prog 104 [.agg (crewC c)] (.tup [.agg (crewC (Pl.rounds 20000 0 c ev).1), .seq false (((Pl.rounds 20000 0 c ev).2.1.drop ev.length).map evC), iV 0]) := by
 have hcr := hR.right (by omega)
 refine yV Try.func104 rfl (by simp [Try.ntmps104]) fun C hC => ?_
 refine zW (zV [0]) ?_
 simp only [kp, zJ, simprocAttr]
 refine zK [63] (by rw [hC]; rfl) fun k hk => ?_
 simp (maxSteps := 9^9) (disch := (try simp only [lens]); omega) only [zJ, sm, ↓amb, zQ, simprocAttr, vr110, dx]
 repeat refine ⟨by first | omega | (simp; done) | (unfold maxLen; omega) | (simp [maxLen]; omega) | assumption, ?_⟩
 refine hk _ ?_; clear hk k
 refine zY fun k1 h1 => ?_
 refine xQ [63] 23 (decide (False)) [1, 2, 3, 4] (by rw [hC]; rfl) (fun gd hgd k hk => ?_) ?_
 ·have g3 : gd 3 = some 14 := by rw [hgd]; rfl
  have g7 : gd 7 = some 18 := by rw [hgd]; rfl
  clear hgd
  simp (maxSteps := 9^9) (disch := (try simp only [lens]); omega) only [zJ, sm, ↓amb, zQ, simprocAttr, sz110, en114, fl110_2, sz4, en122, zZ, g3, g7, dx]
  repeat' first | refine hk _ _ rfl rfl rfl rfl ?_ | (refine gsplit (fun hg => ?_) (fun hg => ?_) <;> (try simp only [hbx] at hg) <;> simp (maxSteps := 9^9) (disch := (try simp only [lens]); omega) only [zJ, sm, ↓amb, zQ, simprocAttr, sz110, en114, fl110_2, sz4, en122, zZ, g3, g7, dx]) | apply And.intro | (refine yW (c_ref05_Right _ (Pl.good_hl hR.gd)) rfl ?_; (try simp (maxSteps := 9^9) (disch := (try simp only [lens]); omega) only [zJ, sm, ↓amb, zQ, simprocAttr, sz110, en114, fl110_2, sz4, en122, zZ, g3, g7, dx])) | (refine yW (c_ref05_Held _ hR.held.2 (by have := hR.dqlen; omega)) rfl ?_; (try simp (maxSteps := 9^9) (disch := (try simp only [lens]); omega) only [zJ, sm, ↓amb, zQ, simprocAttr, sz110, en114, fl110_2, sz4, en122, zZ, g3, g7, dx])) | fail
  all_goals first | rfl | omega | exact (decide_eq_true (by omega)).symm | exact (decide_eq_false (by omega)).symm | exact decide_eq_decide.mpr (by omega) | (refine Bool.eq_iff_iff.mpr ?_; simp only [beq_iff_eq, bne_iff_ne, ne_eq, decide_eq_true_eq]; omega) | (refine Bool.eq_iff_iff.mpr ?_; simp only [Bool.not_eq_true', Bool.not_eq_false', decide_eq_false_iff_not, decide_eq_true_eq, beq_iff_eq, bne_iff_ne, ne_eq]; omega) | assumption | (simp; done) | (simp [maxLen]; omega) | skip
  all_goals first | exact absurd hcr (by assumption) | (have hov : ¬ c.over = true := (by rw [show c.over = false from by assumption]; decide); have hne : ¬ Pl.held c.dq = 0 := (fun q => hov (hR.held.1.2 q)); rw [beq_eq_false_iff_ne.mpr (by omega)]; rfl) | rfl | trace_state
 simp only [kp, zJ, simprocAttr, List.length_cons, List.length_nil]
 refine zX rfl (fun hb => ?_) (fun hb => ?_)
 ·exact absurd hb (by simp)
 ·try simp only [hbx] at hb
  refine yJ ?_
  refine h1 _ ?_; clear h1 k1
  refine zW (zV [1, 2]) ?_
  simp only [kp, zJ, simprocAttr]
  refine zK [63] (by rw [hC]; rfl) fun k hk => ?_
  simp (maxSteps := 9^9) (disch := (try simp only [lens]); omega) only [zJ, sm, ↓amb, zQ, simprocAttr, dx]
  repeat refine ⟨by first | omega | (simp; done) | (unfold maxLen; omega) | (simp [maxLen]; omega) | assumption, ?_⟩
  refine hk _ ?_; clear hk k
  refine zW (zV [1, 2, 5]) ?_
  simp only [kp, zJ, simprocAttr]
  refine awp_own' 5 4 rfl ?_
  refine zK [63] (by rw [hC]; rfl) fun k hk => ?_
  simp (maxSteps := 9^9) (disch := (try simp only [lens]); omega) only [zJ, sm, ↓amb, zQ, simprocAttr, dx]
  repeat refine ⟨by first | omega | (simp; done) | (unfold maxLen; omega) | (simp [maxLen]; omega) | assumption, ?_⟩
  refine hk _ ?_; clear hk k
  refine yK ?_
  refine yY (σ := Nat × Pl.Crew × List Pl.Event) (fun x => Pl.Run n g x.2.1 (ev ++ x.2.2) ∧ x.2.1.dq.length = c.dq.length ∧ Pl.rounds (20000 - (x.1 * c.dq.length)) (x.1 * c.dq.length) x.2.1 (ev ++ x.2.2) = (Pl.rounds 20000 0 c ev) ∧ Pl.most n g (x.1 * c.dq.length) x.2.1 (ev ++ x.2.2) + (((x.1 * c.dq.length) : Nat) : Int) ≤ 16010 ∧ (ev ++ x.2.2).length = ev.length + (x.1 * c.dq.length)) (fun x => ⟨[(1, (.ptr 0 7 0 0)), (2, (.ptr 1 7 0 0)), (5, (.own 2)), (6, (.p (iV (x.1 : Int))))], [(0, (.row 7 [[.p (.seq false (x.2.1.work.ts.map taskC)), .p (iV x.2.1.work.grain), .p (.seq false (x.2.1.work.done.map fun b => [bV b])), .p (.seq false (x.2.1.dq.map lV)), .p (bV x.2.1.over), .p (iV x.2.1.steps), .p (iV x.2.1.idle)]])), (1, (.row 7 [[.p (.seq true []), .p (iV 0), .p (.seq true []), .p (.seq true []), .p (bV false), .p (iV 0), .p (iV 0)]])), (2, (.row 4 (lift (x.2.2.map evC))))], 1⟩) (fun x => 16011 - x.1 * c.dq.length) (0, c, []) ?_ ?_ fun x hx => ?_
  ·dsimp only; rw [Nat.zero_mul, List.append_nil]; exact ⟨hR, rfl, rfl, by omega, by omega⟩
  ·exact le_of [(0, _), (1, _), (2, _)] (by rfl) (by rfl) ⟨⟨_, rfl, .ptr rfl⟩, ⟨_, rfl, .ptr rfl⟩, ⟨_, rfl, .own rfl⟩, ⟨_, rfl, .p (.of_eq (by first | rfl | (simp only [PV.lit.injEq, Value.int.injEq, true_and]; omega) | (simp; done) | (simp; omega)))⟩, trivial⟩ ⟨⟨_, rfl, _, rfl, .one (.cons (.p (.refl _)) (.cons (.p (.refl _)) (.cons (.p (.refl _)) (.cons (.p (.refl _)) (.cons (.p (.refl _)) (.cons (.p (.refl _)) (.cons (.p (.refl _)) (.nil))))))))⟩, ⟨_, rfl, _, rfl, .one (.cons (.p (.refl _)) (.cons (.p (.refl _)) (.cons (.p (.refl _)) (.cons (.p (.refl _)) (.cons (.p (.refl _)) (.cons (.p (.refl _)) (.cons (.p (.refl _)) (.nil))))))))⟩, ⟨_, rfl, _, rfl, .liftE (by first | rfl | (rw [List.map_append]; rfl))⟩, trivial⟩
  obtain ⟨r, c1, m1⟩ := x
  obtain ⟨hR1, hRw, hRr, hRm, hRe⟩ := hx
  dsimp only at hR1 hRw hRr hRm hRe
  refine zY fun k3 h3 => ?_
  refine yK ?_
  refine zW (zV [0, 1, 2, 3, 4, 5, 6]) ?_
  simp only [kp, zJ, simprocAttr]
  refine zK [63] (by rw [hC]; rfl) fun k hk => ?_
  simp (maxSteps := 9^9) (disch := (try simp only [lens]); omega) only [zJ, sm, ↓amb, zQ, simprocAttr, dx]
  repeat refine ⟨by first | omega | (simp; done) | (unfold maxLen; omega) | (simp [maxLen]; omega) | assumption, ?_⟩
  refine hk _ ?_; clear hk k
  refine yK ?_
  refine yY (σ := Nat × Pl.Crew × List Pl.Event) (fun x => x.1 ≤ c.dq.length ∧ Pl.Run n g x.2.1 (ev ++ x.2.2) ∧ x.2.1.dq.length = c.dq.length ∧ Pl.rounds (20000 - (r * c.dq.length + x.1)) (r * c.dq.length + x.1) x.2.1 (ev ++ x.2.2) = (Pl.rounds 20000 0 c ev) ∧ Pl.most n g (r * c.dq.length + x.1) x.2.1 (ev ++ x.2.2) + (((r * c.dq.length + x.1) : Nat) : Int) ≤ 16010 ∧ (ev ++ x.2.2).length = ev.length + (r * c.dq.length + x.1)) (fun x => ⟨[(1, (.ptr 0 7 0 0)), (2, (.ptr 1 7 0 0)), (5, (.own 2)), (6, (.p (iV (r : Int)))), (7, (.p (iV (x.1 : Int))))], [(0, (.row 7 [[.p (.seq false (x.2.1.work.ts.map taskC)), .p (iV x.2.1.work.grain), .p (.seq false (x.2.1.work.done.map fun b => [bV b])), .p (.seq false (x.2.1.dq.map lV)), .p (bV x.2.1.over), .p (iV x.2.1.steps), .p (iV x.2.1.idle)]])), (1, (.row 7 [[.p (.seq true []), .p (iV 0), .p (.seq true []), .p (.seq true []), .p (bV false), .p (iV 0), .p (iV 0)]])), (2, (.row 4 (lift (x.2.2.map evC))))], 1⟩) (fun x => c.dq.length - x.1) (0, c1, m1) ?_ ?_ fun x hx => ?_
  ·dsimp only; rw [Nat.add_zero]; exact ⟨Nat.zero_le _, hR1, hRw, hRr, hRm, hRe⟩
  ·exact le_of [(0, _), (1, _), (2, _)] (by rfl) (by rfl) ⟨⟨_, rfl, .ptr rfl⟩, ⟨_, rfl, .ptr rfl⟩, ⟨_, rfl, .own rfl⟩, ⟨_, rfl, .p (.of_eq (by first | rfl | (simp only [PV.lit.injEq, Value.int.injEq, true_and]; omega) | (simp; done) | (simp; omega)))⟩, ⟨_, rfl, .p (.of_eq (by first | rfl | (simp only [PV.lit.injEq, Value.int.injEq, true_and]; omega) | (simp; done) | (simp; omega)))⟩, trivial⟩ ⟨⟨_, rfl, _, rfl, .one (.cons (.p (.refl _)) (.cons (.p (.refl _)) (.cons (.p (.refl _)) (.cons (.p (.refl _)) (.cons (.p (.refl _)) (.cons (.p (.refl _)) (.cons (.p (.refl _)) (.nil))))))))⟩, ⟨_, rfl, _, rfl, .one (.cons (.p (.refl _)) (.cons (.p (.refl _)) (.cons (.p (.refl _)) (.cons (.p (.refl _)) (.cons (.p (.refl _)) (.cons (.p (.refl _)) (.cons (.p (.refl _)) (.nil))))))))⟩, ⟨_, rfl, _, rfl, .liftE (by first | rfl | (rw [List.map_append]; rfl))⟩, trivial⟩
  obtain ⟨p, c2, m2⟩ := x
  obtain ⟨hp1, hR2, hR3, hR4, hR5, hR6⟩ := hx
  dsimp only at hp1 hR2 hR3 hR4 hR5 hR6
  have hdl := hR1.dqlen
  have hm0 := hR1.most_0 (k := r * c.dq.length) (r := r) (by rw [hRw])
  have hrr : r ≤ r * c.dq.length := Nat.le_mul_of_pos_right r (by omega)
  have hml : m2.length = r * c.dq.length + p := by rw [List.length_append] at hR6; omega
  refine zY fun k5 h5 => ?_
  refine zW (zV [0, 1, 2, 3, 4, 5, 6, 7]) ?_
  simp only [kp, zJ, simprocAttr]
  refine zK [63] (by rw [hC]; rfl) fun k hk => ?_
  simp (maxSteps := 9^9) (disch := (try simp only [lens]); omega) only [zJ, sm, ↓amb, zQ, simprocAttr, fl110_1, sz108, el108, dx]
  repeat refine ⟨by first | omega | (simp; done) | (unfold maxLen; omega) | (simp [maxLen]; omega) | assumption, ?_⟩
  refine hk _ ?_; clear hk k
  refine zX rfl (fun hb => ?_) (fun hb => ?_)
  ·try simp only [hbx] at hb
   refine yJ ?_
   refine h5 _ ?_; clear h5 k5
   refine zY fun k6 h6 => ?_
   refine yK ?_
   refine zY fun k7 h7 => ?_
   refine zW (zV [0, 1, 2, 3, 4, 5, 6, 7]) ?_
   simp only [kp, zJ, simprocAttr]
   refine zK [63] (by rw [hC]; rfl) fun k hk => ?_
   simp (maxSteps := 9^9) (disch := (try simp only [lens]); omega) only [zJ, sm, ↓amb, zQ, simprocAttr, fl110_2, sz4, dx]
   repeat refine ⟨by first | omega | (simp; done) | (unfold maxLen; omega) | (simp [maxLen]; omega) | assumption, ?_⟩
   refine hk _ ?_; clear hk k
   refine zX rfl (fun hb => ?_) (fun hb => ?_)
   ·try simp only [hbx] at hb
    refine zW (zV [1, 2, 5]) ?_
    simp only [kp, zJ, simprocAttr]
    have ho := hb
    refine zK [63] (by rw [hC]; rfl) fun k hk => ?_
    simp (maxSteps := 9^9) (disch := (try simp only [lens]); omega) only [zJ, sm, ↓amb, zQ, simprocAttr, sz110, dx]
    repeat refine ⟨by first | omega | (simp; done) | (unfold maxLen; omega) | (simp [maxLen]; omega) | assumption, ?_⟩
    refine hk _ ?_; clear hk k
    refine yQ ?_
    rw [Pl.rounds_over ho] at hR4
    rw [← hR4, List.drop_left]
    refine retl rfl rfl ⟨retc rfl sz110 ?_, rett rfl ?_, rett rfl ?_, trivial⟩
    simp (maxSteps := 9^9) (disch := (try simp only [lens]); omega) only [zJ, sm, ↓amb, zQ, simprocAttr, sz110, dx]
    ·exact .p (LeP.refl _)
    ·exact .ownE rfl rfl
    ·exact .p (LeP.refl _)
   ·try simp only [hbx] at hb
    refine yJ ?_
    refine h7 _ ?_; clear h7 k7
    refine zY fun k8 h8 => ?_
    refine zW (zV [0, 1, 2, 3, 4, 5, 6, 7]) ?_
    simp only [kp, zJ, simprocAttr]
    have ho : ¬ c2.over = true := by simp [hb]
    refine zK [63] (by rw [hC]; rfl) fun k hk => ?_
    simp (maxSteps := 9^9) (disch := (try simp only [lens]); omega) only [zJ, sm, ↓amb, zQ, simprocAttr, sz110, en122, dx]
    repeat refine ⟨by first | omega | (simp; done) | (unfold maxLen; omega) | (simp [maxLen]; omega) | assumption, ?_⟩
    refine yW (c_ref05_Held _ hR2.held.2 (by have := hR2.dqlen; omega)) rfl ?_
    simp (maxSteps := 9^9) (disch := (try simp only [lens]); omega) only [zJ, sm, ↓amb, zQ, simprocAttr, sz110, en122, dx]
    repeat refine ⟨by first | omega | (simp; done) | (unfold maxLen; omega) | (simp [maxLen]; omega) | assumption, ?_⟩
    refine hk _ ?_; clear hk k
    refine zX rfl (fun hb => ?_) (fun hb => ?_)
    ·exact absurd (hR2.held.1.2 (by have := beq_iff_eq.mp hb; omega)) ho
    ·try simp only [hbx] at hb
     refine yJ ?_
     refine h8 _ ?_; clear h8 k8
     refine zW (zV [0, 1, 2, 3, 4, 5, 6, 7]) ?_
     simp only [kp, zJ, simprocAttr]
     have hh : ¬ Pl.held c2.dq = 0 := by omega
     have hk1 := (hR2.most_pos (r * c.dq.length + p) ho).1
     obtain ⟨hs1, hs2⟩ := hR2.step (by omega) p (p + 1 + r)
     have hs3 := Pl.rounds_on (f := 20000) (k := r * c.dq.length + p) (W := c.dq.length) (r := r) (p := p) (ev := ev ++ m2) hR3 (by omega) rfl ho hh hs1 (by omega)
     have hs4 := hR2.most_on (by omega) (W := c.dq.length) (r := r) (p := p) hR3 (by omega) rfl ho
     refine zK [63] (by rw [hC]; rfl) fun k hk => ?_
     simp (maxSteps := 9^9) (disch := (try simp only [lens]); omega) only [zJ, sm, ↓amb, zQ, simprocAttr, sz110, en103, vr110, vr139, sz139, dx]
     repeat refine ⟨by first | omega | (simp; done) | (unfold maxLen; omega) | (simp [maxLen]; omega) | assumption, ?_⟩
     refine yW (c_ref05_Step c2 p (p + 1 + r) (Pl.good_hl hR2.gd) hs1) rfl ?_
     simp (maxSteps := 9^9) (disch := (try simp only [lens]); omega) only [zJ, sm, ↓amb, zQ, simprocAttr, sz110, en103, vr110, vr139, sz139, dx]
     repeat refine ⟨by first | omega | (simp; done) | (unfold maxLen; omega) | (simp [maxLen]; omega) | assumption, ?_⟩
     refine hk _ ?_; clear hk k
     refine zY fun k9 h9 => ?_
     refine zW (zV [0, 1, 2, 3, 4, 5, 6, 7, 8, 9, 10]) ?_
     simp only [kp, zJ, simprocAttr]
     refine zK [63] (by rw [hC]; rfl) fun k hk => ?_
     simp (maxSteps := 9^9) (disch := (try simp only [lens]); omega) only [zJ, sm, ↓amb, zQ, simprocAttr, dx]
     repeat refine ⟨by first | omega | (simp; done) | (unfold maxLen; omega) | (simp [maxLen]; omega) | assumption, ?_⟩
     refine hk _ ?_; clear hk k
     refine zX rfl (fun hb => ?_) (fun hb => ?_)
     ·exact absurd hb (by simp)
     ·try simp only [hbx] at hb
      refine yJ ?_
      refine h9 _ ?_; clear h9 k9
      refine awp_draw [63] ⟨[0, 0, 0, 4, 14, 31, 63], [], [4, 5], [(4, 5)], some [0, 2]⟩ (by rw [hC]; rfl) (by kernel_rfl) (by kernel_rfl) fun k hk => ?_
      simp (maxSteps := 9^9) (disch := (try simp only [lens]); omega) only [zJ, sm, ↓amb, zQ, simprocAttr, sz110, sz139, el111, vr139, by139, dx]
      repeat refine ⟨by first | omega | (simp; done) | (unfold maxLen; omega) | (simp [maxLen]; omega) | assumption, ?_⟩
      refine hk _ ?_; clear hk k
      refine h6 _ ?_; clear h6 k6
      refine yZ [63] (by rw [hC]; rfl) fun k hk => ?_
      simp (maxSteps := 9^9) (disch := (try simp only [lens]); omega) only [zJ, sm, ↓amb, zQ, simprocAttr, dx]
      repeat refine ⟨by first | omega | (simp; done) | (unfold maxLen; omega) | (simp [maxLen]; omega) | assumption, ?_⟩
      refine hk _ ?_; clear hk k
      refine ⟨(p + 1, (Pl.step c2 p (p + 1 + r)).1, m2 ++ [(Pl.step c2 p (p + 1 + r)).2.1]), (by dsimp only; rw [← Nat.add_assoc, ← List.append_assoc]; exact ⟨by omega, hs2, by rw [Pl.step_dqlen]; exact hR3, by rw [← hs3]; exact hR4, by omega, by rw [List.length_append, List.length_singleton]; omega⟩), le_of [(0, _), (1, _), (2, _)] (by rfl) (by rfl) ⟨⟨_, rfl, .ptr rfl⟩, ⟨_, rfl, .ptr rfl⟩, ⟨_, rfl, .own rfl⟩, ⟨_, rfl, .p (.of_eq (by first | rfl | (simp only [PV.lit.injEq, Value.int.injEq, true_and]; omega) | (simp; done) | (simp; omega)))⟩, ⟨_, rfl, .p (.of_eq (by first | rfl | (simp only [PV.lit.injEq, Value.int.injEq, true_and]; omega) | (simp; done) | (simp; omega)))⟩, trivial⟩ ⟨⟨_, rfl, _, rfl, .one (.cons (.p (.refl _)) (.cons (.p (.refl _)) (.cons (.p (.refl _)) (.cons (.p (.refl _)) (.cons (.p (.refl _)) (.cons (.p (.refl _)) (.cons (.p (.refl _)) (.nil))))))))⟩, ⟨_, rfl, _, rfl, .one (.cons (.p (.refl _)) (.cons (.p (.refl _)) (.cons (.p (.refl _)) (.cons (.p (.refl _)) (.cons (.p (.refl _)) (.cons (.p (.refl _)) (.cons (.p (.refl _)) (.nil))))))))⟩, ⟨_, rfl, _, rfl, .liftE (by first | rfl | (rw [List.map_append]; rfl))⟩, trivial⟩, (by dsimp only; omega)⟩
  ·try simp only [hbx] at hb
   refine yX ((if_pos rfl).mpr ?_)
   refine h3 _ ?_; clear h5 k5; clear h3 k3
   have hp2 : r * c.dq.length + p = r * c.dq.length + c.dq.length := by omega
   refine yZ [63] (by rw [hC]; rfl) fun k hk => ?_
   simp (maxSteps := 9^9) (disch := (try simp only [lens]); omega) only [zJ, sm, ↓amb, zQ, simprocAttr, dx]
   repeat refine ⟨by first | omega | (simp; done) | (unfold maxLen; omega) | (simp [maxLen]; omega) | assumption, ?_⟩
   refine hk _ ?_; clear hk k
   refine ⟨(r + 1, c2, m2), (by dsimp only; rw [Nat.add_mul, Nat.one_mul]; rw [hp2] at hR4 hR5 hR6; exact ⟨hR2, hR3, hR4, hR5, hR6⟩), le_of [(0, _), (1, _), (2, _)] (by rfl) (by rfl) ⟨⟨_, rfl, .ptr rfl⟩, ⟨_, rfl, .ptr rfl⟩, ⟨_, rfl, .own rfl⟩, ⟨_, rfl, .p (.of_eq (by first | rfl | (simp only [PV.lit.injEq, Value.int.injEq, true_and]; omega) | (simp; done) | (simp; omega)))⟩, trivial⟩ ⟨⟨_, rfl, _, rfl, .one (.cons (.p (.refl _)) (.cons (.p (.refl _)) (.cons (.p (.refl _)) (.cons (.p (.refl _)) (.cons (.p (.refl _)) (.cons (.p (.refl _)) (.cons (.p (.refl _)) (.nil))))))))⟩, ⟨_, rfl, _, rfl, .one (.cons (.p (.refl _)) (.cons (.p (.refl _)) (.cons (.p (.refl _)) (.cons (.p (.refl _)) (.cons (.p (.refl _)) (.cons (.p (.refl _)) (.cons (.p (.refl _)) (.nil))))))))⟩, ⟨_, rfl, _, rfl, .liftE (by first | rfl | (rw [List.map_append]; rfl))⟩, trivial⟩, (by dsimp only; rw [Nat.add_mul, Nat.one_mul]; have := hR1.most_0 (k := r * c.dq.length) (r := r) (by rw [hRw]); have := hR1.dqlen; omega)⟩
end Go.Proofs.Ytjkkjiaeeobnkaa
end
section
set_option linter.unusedSimpArgs false
set_option linter.unusedVariables false
set_option maxRecDepth 100000
namespace Go.Proofs.Ytjkkjiaeeobnkaa
open Go.Am Go.Proofs
theorem en104 : enters Try.prog 104 = true := by kernel_rfl
set_option maxHeartbeats 4000000 in
theorem c_ref06_Whole (cp : Bool) (n g w : Int) (P : List (Int × Int)) (hok : Pl.bdOk n g w) (hP : P.length ≤ 70000) : PCall Try.prog 80 [iV n, iV g, iV w, picksV cp P] (.tup [.agg (crewC (Pl.whole n g w P).1), .seq false ((Pl.whole n g w P).2.1.map evC), iV 0]) := by
 obtain ⟨hcn, hww⟩ := hok
 obtain ⟨b0, b1, b2, b3, b4, b5, b6⟩ := Pl.picked_ok (P := P) hcn hww hP
 have hcn' := hcn
 unfold Pl.cnt at hcn'
 refine yV Try.func80 rfl (by simp [Try.ntmps80]) fun C hC => ?_
 refine zW (zV [0, 1, 2, 3]) ?_
 simp only [kp, zJ, simprocAttr]
 refine zK [66, 76] (by rw [hC]; rfl) fun k hk => ?_
 simp (maxSteps := 9^9) (disch := (try simp only [lens]); omega) only [zJ, sm, ↓amb, zQ, simprocAttr, vr110, dx]
 repeat refine ⟨by first | omega | (simp; done) | (unfold maxLen; omega) | (simp [maxLen]; omega) | assumption, ?_⟩
 refine hk _ ?_; clear hk k
 refine zW (zV [0, 1, 2, 3, 8]) ?_
 simp only [kp, zJ, simprocAttr]
 refine zK [66, 76] (by rw [hC]; rfl) fun k hk => ?_
 simp (maxSteps := 9^9) (disch := (try simp only [lens]); omega) only [zJ, sm, ↓amb, zQ, simprocAttr, en89, vr110, sz110, dx]
 repeat refine ⟨by first | omega | (simp; done) | (unfold maxLen; omega) | (simp [maxLen]; omega) | assumption, ?_⟩
 refine yW (c_ref05_Begin _ _ _ (by omega)) rfl ?_
 simp (maxSteps := 9^9) (disch := (try simp only [lens]); omega) only [zJ, sm, ↓amb, zQ, simprocAttr, en89, vr110, sz110, dx]
 repeat refine ⟨by first | omega | (simp; done) | (unfold maxLen; omega) | (simp [maxLen]; omega) | assumption, ?_⟩
 refine hk _ ?_; clear hk k
 refine zY fun k1 h1 => ?_
 refine zW (zV [3, 8, 9, 10, 11, 12]) ?_
 simp only [kp, zJ, simprocAttr]
 rw [b0]
 refine zK [66, 76] (by rw [hC]; rfl) fun k hk => ?_
 simp (maxSteps := 9^9) (disch := (try simp only [lens]); omega) only [zJ, sm, ↓amb, zQ, simprocAttr, dx]
 repeat refine ⟨by first | omega | (simp; done) | (unfold maxLen; omega) | (simp [maxLen]; omega) | assumption, ?_⟩
 refine hk _ ?_; clear hk k
 refine zX rfl (fun hb => ?_) (fun hb => ?_)
 ·exact absurd hb (by simp)
 ·try simp only [hbx] at hb
  refine yJ ?_
  refine h1 _ ?_; clear h1 k1
  refine zW (zV [3, 8, 11]) ?_
  simp only [kp, zJ, simprocAttr]
  refine zK [66, 76] (by rw [hC]; rfl) fun k hk => ?_
  simp (maxSteps := 9^9) (disch := (try simp only [lens]); omega) only [zJ, sm, ↓amb, zQ, simprocAttr, dx]
  repeat refine ⟨by first | omega | (simp; done) | (unfold maxLen; omega) | (simp [maxLen]; omega) | assumption, ?_⟩
  refine hk _ ?_; clear hk k
  refine zY fun k2 h2 => ?_
  refine zW (zV [3, 8, 9, 10, 11, 13]) ?_
  simp only [kp, zJ, simprocAttr]
  refine awp_own' 13 4 rfl ?_
  refine zK [66, 76] (by rw [hC]; rfl) fun k hk => ?_
  simp (maxSteps := 9^9) (disch := (try simp only [lens]); omega) only [zJ, sm, ↓amb, zQ, simprocAttr, dx]
  repeat refine ⟨by first | omega | (simp; done) | (unfold maxLen; omega) | (simp [maxLen]; omega) | assumption, ?_⟩
  refine hk _ ?_; clear hk k
  refine yK ?_
  refine yY (σ := Nat × Pl.Crew × List Pl.Event) (fun x => x.1 ≤ P.length ∧ Pl.Run n g x.2.1 x.2.2 ∧ Pl.picked (P.drop x.1) x.2.1 x.2.2 = (Pl.picked P (Pl.crewBegin n g w).1 []) ∧ x.2.2.length ≤ x.1) (fun x => ⟨[(3, (.p (picksV cp P))), (8, (.ptr 0 7 0 0)), (11, (.ptr 1 7 0 0)), (13, (.own 2)), (14, (.p (iV (x.1 : Int))))], [(0, (.row 7 [[.p (.seq true []), .p (iV 0), .p (.seq true []), .p (.seq true []), .p (bV false), .p (iV 0), .p (iV 0)]])), (1, (.row 7 [[.p (.seq false (x.2.1.work.ts.map taskC)), .p (iV x.2.1.work.grain), .p (.seq false (x.2.1.work.done.map fun b => [bV b])), .p (.seq false (x.2.1.dq.map lV)), .p (bV x.2.1.over), .p (iV x.2.1.steps), .p (iV x.2.1.idle)]])), (2, (.row 4 (lift (x.2.2.map evC))))], 1⟩) (fun x => P.length - x.1) (0, (Pl.crewBegin n g w).1, []) ?_ ?_ fun x hx => ?_
  ·exact ⟨Nat.zero_le _, b1, rfl, Nat.le_refl _⟩
  ·exact le_of [(0, _), (1, _), (2, _)] (by rfl) (by rfl) ⟨⟨_, rfl, .p (.of_eq (by first | rfl | (simp only [PV.lit.injEq, Value.int.injEq, true_and]; omega) | (simp; done) | (simp; omega)))⟩, ⟨_, rfl, .ptr rfl⟩, ⟨_, rfl, .ptr rfl⟩, ⟨_, rfl, .own rfl⟩, ⟨_, rfl, .p (.of_eq (by first | rfl | (simp only [PV.lit.injEq, Value.int.injEq, true_and]; omega) | (simp; done) | (simp; omega)))⟩, trivial⟩ ⟨⟨_, rfl, _, rfl, .one (.cons (.p (.refl _)) (.cons (.p (.refl _)) (.cons (.p (.refl _)) (.cons (.p (.refl _)) (.cons (.p (.refl _)) (.cons (.p (.refl _)) (.cons (.p (.refl _)) (.nil))))))))⟩, ⟨_, rfl, _, rfl, .one (.cons (.p (.refl _)) (.cons (.p (.refl _)) (.cons (.p (.refl _)) (.cons (.p (.refl _)) (.cons (.p (.refl _)) (.cons (.p (.refl _)) (.cons (.p (.refl _)) (.nil))))))))⟩, ⟨_, rfl, _, rfl, .liftE (by first | rfl | (rw [List.map_append]; rfl))⟩, trivial⟩
  obtain ⟨i, c, ev⟩ := x
  obtain ⟨hi, hR, hK, hel⟩ := hx
  dsimp only at hi hR hK hel
  refine zY fun k4 h4 => ?_
  refine xQ [66, 76] 38 (decide ((i : Int) < P.length ∧ ¬ c.over = true)) [0, 1, 2, 3, 8, 9, 10, 11, 13, 14] (by rw [hC]; rfl) (fun gd hgd k hk => ?_) ?_
  ·have g4 : gd 4 = some 34 := by rw [hgd]; rfl
   clear hgd
   simp (maxSteps := 9^9) (disch := (try simp only [lens]); omega) only [zJ, sm, ↓amb, zQ, simprocAttr, el49, fl110_2, sz4, zZ, g4, dx]
   repeat' first | refine hk _ _ rfl rfl rfl rfl ?_ | (refine gsplit (fun hg => ?_) (fun hg => ?_) <;> (try simp only [hbx] at hg) <;> simp (maxSteps := 9^9) (disch := (try simp only [lens]); omega) only [zJ, sm, ↓amb, zQ, simprocAttr, el49, fl110_2, sz4, zZ, g4, dx]) | apply And.intro | fail
   all_goals first | rfl | omega | exact (decide_eq_true (by omega)).symm | exact (decide_eq_false (by omega)).symm | exact decide_eq_decide.mpr (by omega) | (refine Bool.eq_iff_iff.mpr ?_; simp only [beq_iff_eq, bne_iff_ne, ne_eq, decide_eq_true_eq]; omega) | (refine Bool.eq_iff_iff.mpr ?_; simp only [Bool.not_eq_true', Bool.not_eq_false', decide_eq_false_iff_not, decide_eq_true_eq, beq_iff_eq, bne_iff_ne, ne_eq]; omega) | assumption | (simp; done) | (simp [maxLen]; omega) | skip
   all_goals first | (refine Bool.eq_iff_iff.mpr ?_; simp_all; done) | (refine (decide_eq_false ?_).symm; omega) | (refine (decide_eq_false ?_); omega) | trace_state
  simp only [kp, zJ, simprocAttr, List.length_cons, List.length_nil]
  refine zX rfl (fun hb => ?_) (fun hb => ?_)
  ·try simp only [hbx] at hb
   refine yJ ?_
   refine h4 _ ?_; clear h4 k4
   refine zY fun k5 h5 => ?_
   refine yK ?_
   refine zW (zV [0, 1, 2, 3, 8, 9, 10, 11, 13, 14]) ?_
   simp only [kp, zJ, simprocAttr]
   have ho : ¬ c.over = true := by simp [hb.2]
   obtain ⟨hs1, hs2⟩ := hR.step (by omega) (P.getD i default).1 (P.getD i default).2
   have hs3 := Pl.picked_on (l := ev) (P := P) (i := i) (by omega) ho hs1
   refine awp_sd [66, 76] ⟨[0, 0, 0, 6, 14, 30, 0, 0, 192, 448, 960, 2047, 4095, 8191, 8191, 8191, 0, 0, 212991, 491519, 1048575], [0, 5, 10], [18, 19], [(11, 18), (16, 18), (17, 18), (11, 19), (16, 19), (17, 19)], none⟩ (by rw [hC]; rfl) (by kernel_rfl) (by kernel_rfl) fun k hk => ?_
   simp (maxSteps := 9^9) (disch := (try simp only [lens]); omega) only [zJ, sm, ↓amb, zQ, simprocAttr, sz110, el49, sz93, el93, ar93, sz3, en103, vr110, vr139, sz139, dx]
   repeat refine ⟨by first | omega | (simp; done) | (unfold maxLen; omega) | (simp [maxLen]; omega) | assumption, ?_⟩
   refine yW (c_ref05_Step c (P.getD i default).1 (P.getD i default).2 (Pl.good_hl hR.gd) hs1) rfl ?_
   simp (maxSteps := 9^9) (disch := (try simp only [lens]); omega) only [zJ, sm, ↓amb, zQ, simprocAttr, sz110, el49, sz93, el93, ar93, sz3, en103, vr110, vr139, sz139, dx]
   repeat refine ⟨by first | omega | (simp; done) | (unfold maxLen; omega) | (simp [maxLen]; omega) | assumption, ?_⟩
   refine hk _ ?_; clear hk k
   refine zY fun k6 h6 => ?_
   refine zW (zV [0, 1, 2, 3, 8, 9, 10, 11, 13, 14, 15, 16, 17]) ?_
   simp only [kp, zJ, simprocAttr]
   refine zK [66, 76] (by rw [hC]; rfl) fun k hk => ?_
   simp (maxSteps := 9^9) (disch := (try simp only [lens]); omega) only [zJ, sm, ↓amb, zQ, simprocAttr, dx]
   repeat refine ⟨by first | omega | (simp; done) | (unfold maxLen; omega) | (simp [maxLen]; omega) | assumption, ?_⟩
   refine hk _ ?_; clear hk k
   refine zX rfl (fun hb => ?_) (fun hb => ?_)
   ·exact absurd hb (by simp)
   ·try simp only [hbx] at hb
    refine yJ ?_
    refine h6 _ ?_; clear h6 k6
    refine awp_draw [66, 76] ⟨[0, 0, 0, 4, 14, 31, 63], [], [4, 5], [(4, 5)], some [1, 2]⟩ (by rw [hC]; rfl) (by kernel_rfl) (by kernel_rfl) fun k hk => ?_
    simp (maxSteps := 9^9) (disch := (try simp only [lens]); omega) only [zJ, sm, ↓amb, zQ, simprocAttr, sz110, sz139, el111, vr139, by139, dx]
    repeat refine ⟨by first | omega | (simp; done) | (unfold maxLen; omega) | (simp [maxLen]; omega) | assumption, ?_⟩
    refine hk _ ?_; clear hk k
    refine h5 _ ?_; clear h5 k5
    refine yZ [66, 76] (by rw [hC]; rfl) fun k hk => ?_
    simp (maxSteps := 9^9) (disch := (try simp only [lens]); omega) only [zJ, sm, ↓amb, zQ, simprocAttr, dx]
    repeat refine ⟨by first | omega | (simp; done) | (unfold maxLen; omega) | (simp [maxLen]; omega) | assumption, ?_⟩
    refine hk _ ?_; clear hk k
    refine ⟨(i + 1, (Pl.step c (P.getD i default).1 (P.getD i default).2).1, ev ++ [(Pl.step c (P.getD i default).1 (P.getD i default).2).2.1]), ⟨by dsimp only; omega, hs2, by rw [← hK, hs3], by simp; omega⟩, le_of [(0, _), (1, _), (2, _)] (by rfl) (by rfl) ⟨⟨_, rfl, .p (.of_eq (by first | rfl | (simp only [PV.lit.injEq, Value.int.injEq, true_and]; omega) | (simp; done) | (simp; omega)))⟩, ⟨_, rfl, .ptr rfl⟩, ⟨_, rfl, .ptr rfl⟩, ⟨_, rfl, .own rfl⟩, ⟨_, rfl, .p (.of_eq (by first | rfl | (simp only [PV.lit.injEq, Value.int.injEq, true_and]; omega) | (simp; done) | (simp; omega)))⟩, trivial⟩ ⟨⟨_, rfl, _, rfl, .one (.cons (.p (.refl _)) (.cons (.p (.refl _)) (.cons (.p (.refl _)) (.cons (.p (.refl _)) (.cons (.p (.refl _)) (.cons (.p (.refl _)) (.cons (.p (.refl _)) (.nil))))))))⟩, ⟨_, rfl, _, rfl, .one (.cons (.p (.refl _)) (.cons (.p (.refl _)) (.cons (.p (.refl _)) (.cons (.p (.refl _)) (.cons (.p (.refl _)) (.cons (.p (.refl _)) (.cons (.p (.refl _)) (.nil))))))))⟩, ⟨_, rfl, _, rfl, .liftE (by first | rfl | (rw [List.map_append]; rfl))⟩, trivial⟩, by dsimp only; omega⟩
  ·try simp only [hbx] at hb
   refine yX ((if_pos rfl).mpr ?_)
   refine h2 _ ?_; clear h4 k4; clear h2 k2
   refine zW (zV [8, 11, 13]) ?_
   simp only [kp, zJ, simprocAttr]
   have he0 : (Pl.picked P (Pl.crewBegin n g w).1 []) = (c, ev, 0) := by
    rw [← hK]
    by_cases hov : c.over = true
    ·exact Pl.picked_over _ hov
    ·exact Pl.picked_nil (Nat.le_of_not_lt fun q => hb ⟨by omega, by simpa using hov⟩)
   have hM : Pl.most n g 0 c ev ≤ 16010 := by rw [he0] at b5; exact b5
   have hW : (Pl.whole n g w P) = Pl.rounds 20000 0 c ev := by rw [b6, he0]
   rw [hW]
   have hrl : (Pl.rounds 20000 0 c ev).2.1.length - ev.length ≤ 1000000 := by
    have h1 := (Pl.whole_ok (P := P) hcn hww hP).2.2.2.2.2.1
    have h2 := Pl.bd_nn ⟨hcn, hww⟩
    rw [hW] at h1; rw [Int.mul_add, Int.mul_comm w] at h2; omega
   have hall : ∀ y, y ∈ List.map evC ((Pl.rounds 20000 0 c ev).2.1.drop ev.length) → y.length = 4 := fun y hy => by
    obtain ⟨e, _, rfl⟩ := List.mem_map.1 hy; rfl
   refine zK [66, 76] (by rw [hC]; rfl) fun k hk => ?_
   simp (maxSteps := 9^9) (disch := (try simp only [lens]); omega) only [zJ, sm, ↓amb, zQ, simprocAttr, sz110, en104, dx]
   repeat refine ⟨by first | omega | (simp; done) | (unfold maxLen; omega) | (simp [maxLen]; omega) | assumption, ?_⟩
   refine yW (c_ref06_Drain n g c ev hR hM (by omega)) rfl ?_
   simp (maxSteps := 9^9) (disch := (try simp only [lens]); omega) only [zJ, sm, ↓amb, zQ, simprocAttr, sz110, en104, dx]
   repeat refine ⟨by first | omega | (simp; done) | (unfold maxLen; omega) | (simp [maxLen]; omega) | assumption, ?_⟩
   refine hk _ ?_; clear hk k
   refine zW (zV [8, 11, 12, 13, 18]) ?_
   simp only [kp, zJ, simprocAttr]
   refine awp_sd [66, 76] ⟨[0, 0, 0, 6, 0, 15, 47, 127], [], [3, 5], [(3, 5)], some [0, 2]⟩ (by rw [hC]; rfl) (by kernel_rfl) (by kernel_rfl) fun k hk => ?_
   simp (maxSteps := 9^9) (disch := (try simp only [lens]); omega) only [zJ, sm, ↓amb, zQ, simprocAttr, sz110, el111, vr139, by139, dx]
   repeat refine ⟨by first | omega | (simp; done) | (unfold maxLen; omega) | (simp [maxLen]; omega) | assumption, ?_⟩
   refine hk _ ?_; clear hk k
   refine yQ ?_
   refine retl rfl rfl ⟨retc rfl sz110 ?_, rett rfl ?_, rett rfl ?_, trivial⟩
   simp (maxSteps := 9^9) (disch := (try simp only [lens]); omega) only [zJ, sm, ↓amb, zQ, simprocAttr, sz110, dx]
   ·exact .p (LeP.refl _)
   ·exact .ownE rfl (by rw [Pl.rounds_rest])
   ·exact .p (LeP.refl _)
end Go.Proofs.Ytjkkjiaeeobnkaa
end
section
set_option linter.unusedSimpArgs false
set_option linter.unusedVariables false
set_option maxRecDepth 100000
namespace Go.Proofs.Ytjkkjiaeeobnkaa
open Go.Am Go.Proofs
theorem en80 : enters Try.prog 80 = true := by kernel_rfl
theorem en81 : enters Try.prog 81 = true := by kernel_rfl
set_option maxHeartbeats 4000000 in
theorem c_ref06_Leaves (ce : Bool) (c : Pl.Crew) (ev : List Pl.Event) (he : ev.length ≤ 1000000) : PCall Try.prog 81 [.agg (crewC c), .seq ce (ev.map evC)] (.seq false ((Pl.leaves' c.work.ts ev).map (fun s => [iV s.1, iV s.2]))) := by
 refine yV Try.func81 rfl (by simp [Try.ntmps81]) fun C hC => ?_
 refine zW (zV [0, 1]) ?_
 simp only [kp, zJ, simprocAttr]
 refine zK [57] (by rw [hC]; rfl) fun k hk => ?_
 simp (maxSteps := 9^9) (disch := (try simp only [lens]); omega) only [zJ, sm, ↓amb, zQ, simprocAttr, dx]
 repeat refine ⟨by first | omega | (simp; done) | (unfold maxLen; omega) | (simp [maxLen]; omega) | assumption, ?_⟩
 refine hk _ ?_; clear hk k
 refine zW (zV [1, 2]) ?_
 simp only [kp, zJ, simprocAttr]
 refine zK [57] (by rw [hC]; rfl) fun k hk => ?_
 simp (maxSteps := 9^9) (disch := (try simp only [lens]); omega) only [zJ, sm, ↓amb, zQ, simprocAttr, dx]
 repeat refine ⟨by first | omega | (simp; done) | (unfold maxLen; omega) | (simp [maxLen]; omega) | assumption, ?_⟩
 refine hk _ ?_; clear hk k
 refine zY fun k1 h1 => ?_
 refine zW (zV [1, 2, 4, 5]) ?_
 simp only [kp, zJ, simprocAttr]
 refine awp_own' 5 2 rfl ?_
 refine zK [57] (by rw [hC]; rfl) fun k hk => ?_
 simp (maxSteps := 9^9) (disch := (try simp only [lens]); omega) only [zJ, sm, ↓amb, zQ, simprocAttr, dx]
 repeat refine ⟨by first | omega | (simp; done) | (unfold maxLen; omega) | (simp [maxLen]; omega) | assumption, ?_⟩
 refine hk _ ?_; clear hk k
 refine yK ?_
 refine yY (σ := Nat) (fun i => i ≤ ev.length) (fun (i : Nat) => ⟨[(1, (.p (.seq ce (ev.map evC)))), (2, (.ptr 0 7 0 0)), (5, (.own 1)), (6, (.p (iV (i : Int))))], [(0, (.row 7 [[.p (.seq false (c.work.ts.map taskC)), .p (iV c.work.grain), .p (.seq false (c.work.done.map fun b => [bV b])), .p (.seq false (c.dq.map lV)), .p (bV c.over), .p (iV c.steps), .p (iV c.idle)]])), (1, (.row 2 (lift ((Pl.leaves' c.work.ts (ev.take i)).map (fun s => [iV s.1, iV s.2])))))], 1⟩) (fun i => ev.length - i) 0 ?_ ?_ fun i hi => ?_
 ·exact Nat.zero_le _
 ·exact le_of [(0, _), (1, _)] (by rfl) (by rfl) ⟨⟨_, rfl, .p (.of_eq (by first | rfl | (simp only [PV.lit.injEq, Value.int.injEq, true_and]; omega) | (simp; done) | (simp; omega)))⟩, ⟨_, rfl, .ptr rfl⟩, ⟨_, rfl, .own rfl⟩, ⟨_, rfl, .p (.of_eq (by first | rfl | (simp only [PV.lit.injEq, Value.int.injEq, true_and]; omega) | (simp; done) | (simp; omega)))⟩, trivial⟩ ⟨⟨_, rfl, _, rfl, .one (.cons (.p (.refl _)) (.cons (.p (.refl _)) (.cons (.p (.refl _)) (.cons (.p (.refl _)) (.cons (.p (.refl _)) (.cons (.p (.refl _)) (.cons (.p (.refl _)) (.nil))))))))⟩, ⟨_, rfl, _, rfl, .liftE (by first | (rw [List.take_zero]; rfl) | (rw [Pl.leaves_take _ _ i (by omega), if_neg (by rw [hnl]; decide), List.append_nil]; done) | (rw [Pl.leaves_take _ _ i (by omega), if_pos hlf, List.map_append]; rfl) | trace_state)⟩, trivial⟩
 refine zY fun k3 h3 => ?_
 refine zW (zV [0, 1, 2, 4, 5, 6]) ?_
 simp only [kp, zJ, simprocAttr]
 refine zK [57] (by rw [hC]; rfl) fun k hk => ?_
 simp (maxSteps := 9^9) (disch := (try simp only [lens]); omega) only [zJ, sm, ↓amb, zQ, simprocAttr, el111, dx]
 repeat refine ⟨by first | omega | (simp; done) | (unfold maxLen; omega) | (simp [maxLen]; omega) | assumption, ?_⟩
 refine hk _ ?_; clear hk k
 refine zX rfl (fun hb => ?_) (fun hb => ?_)
 ·try simp only [hbx] at hb
  refine yJ ?_
  refine h3 _ ?_; clear h3 k3
  refine zY fun k4 h4 => ?_
  refine yK ?_
  refine awp_testD [57] ⟨[0, 0, 3, 7, 15, 31, 63, 127, 127, 511, 1023, 2047, 127, 4223, 12415, 28799, 65535, 131071, 262143, 524287, 524287, 2097151, 4194303, 8388607, 16777215, 33554431], [4, 11, 14, 15, 23], [], [], some []⟩ 39 (decide (0 ≤ (ev.getD i default).task ∧ (ev.getD i default).task < c.work.ts.length ∧ (ev.getD i default).parted = false)) [0, 1, 2, 4, 5, 6] (by rw [hC]; rfl) (by kernel_rfl) (by kernel_rfl) (fun gd hgd k hk => ?_) ?_
  ·have g6 : gd 6 = some 20 := by rw [hgd]; rfl
   have g18 : gd 18 = some 32 := by rw [hgd]; rfl
   clear hgd
   simp (maxSteps := 9^9) (disch := (try simp only [lens]); omega) only [zJ, sm, ↓amb, zQ, simprocAttr, el111, sz139, fl139_2, sz3, fl110_0, fl107_0, sz104, el104, fl139_3, sz4, zZ, g6, g18, dx]
   repeat' first | refine hk _ _ rfl rfl rfl rfl ?_ | (refine gsplit (fun hg => ?_) (fun hg => ?_) <;> (try simp only [hbx] at hg) <;> simp (maxSteps := 9^9) (disch := (try simp only [lens]); omega) only [zJ, sm, ↓amb, zQ, simprocAttr, el111, sz139, fl139_2, sz3, fl110_0, fl107_0, sz104, el104, fl139_3, sz4, zZ, g6, g18, dx]) | apply And.intro | fail
   all_goals first | rfl | omega | exact (decide_eq_true (by omega)).symm | exact (decide_eq_false (by omega)).symm | exact decide_eq_decide.mpr (by omega) | (refine Bool.eq_iff_iff.mpr ?_; simp only [beq_iff_eq, bne_iff_ne, ne_eq, decide_eq_true_eq]; omega) | (refine Bool.eq_iff_iff.mpr ?_; simp only [Bool.not_eq_true', Bool.not_eq_false', decide_eq_false_iff_not, decide_eq_true_eq, beq_iff_eq, bne_iff_ne, ne_eq]; omega) | assumption | (simp; done) | (simp [maxLen]; omega) | skip
   all_goals first | (refine (decide_eq_false ?_).symm; intro q; omega) | (refine Bool.eq_iff_iff.mpr ?_; simp only [Bool.not_eq_true', decide_eq_true_eq]; exact ⟨fun h => ⟨by omega, by omega, h⟩, fun h => h.2.2⟩) | trace_state
  simp only [kp, zJ, simprocAttr, List.length_cons, List.length_nil]
  refine zX rfl (fun hb => ?_) (fun hb => ?_)
  ·try simp only [hbx] at hb
   refine zW (zV [0, 1, 2, 4, 5, 6]) ?_
   simp only [kp, zJ, simprocAttr]
   obtain ⟨hlf, hlf2, hlf3⟩ := Pl.isLeaf_yes (ts := c.work.ts) (e := (ev.getD i default)) (by rintro (q | q | q); rw [hb.2.2] at q; cases q; omega; omega)
   have hll := Pl.leaves_len c.work.ts (ev.take i)
   rw [List.length_take] at hll
   refine awp_sd [57] ⟨[0, 1, 3, 0, 0, 24, 56, 120, 255, 511, 0, 2047], [2, 7, 9], [11], [(10, 11)], none⟩ (by rw [hC]; rfl) (by kernel_rfl) (by kernel_rfl) fun k hk => ?_
   simp (maxSteps := 9^9) (disch := (try simp only [lens]); omega) only [zJ, sm, ↓amb, zQ, simprocAttr, fl110_0, fl107_0, sz104, el111, sz139, fl139_2, sz3, el104, sz128, vr128, dx]
   repeat refine ⟨by first | omega | (simp; done) | (unfold maxLen; omega) | (simp [maxLen]; omega) | assumption, ?_⟩
   refine hk _ ?_; clear hk k
   refine yZ [57] (by rw [hC]; rfl) fun k hk => ?_
   simp (maxSteps := 9^9) (disch := (try simp only [lens]); omega) only [zJ, sm, ↓amb, zQ, simprocAttr, fl128_0, sz3, fl128_1, vr117, bt117, pl117_0, pl117_1, el114, by117, dx]
   repeat refine ⟨by first | omega | (simp; done) | (unfold maxLen; omega) | (simp [maxLen]; omega) | assumption, ?_⟩
   refine hk _ ?_; clear hk k
   refine h4 _ ?_; clear h4 k4
   refine yZ [57] (by rw [hC]; rfl) fun k hk => ?_
   simp (maxSteps := 9^9) (disch := (try simp only [lens]); omega) only [zJ, sm, ↓amb, zQ, simprocAttr, dx]
   repeat refine ⟨by first | omega | (simp; done) | (unfold maxLen; omega) | (simp [maxLen]; omega) | assumption, ?_⟩
   refine hk _ ?_; clear hk k
   refine ⟨i + 1, by omega, le_of [(0, _), (1, _)] (by rfl) (by rfl) ⟨⟨_, rfl, .p (.of_eq (by first | rfl | (simp only [PV.lit.injEq, Value.int.injEq, true_and]; omega) | (simp; done) | (simp; omega)))⟩, ⟨_, rfl, .ptr rfl⟩, ⟨_, rfl, .own rfl⟩, ⟨_, rfl, .p (.of_eq (by first | rfl | (simp only [PV.lit.injEq, Value.int.injEq, true_and]; omega) | (simp; done) | (simp; omega)))⟩, trivial⟩ ⟨⟨_, rfl, _, rfl, .one (.cons (.p (.refl _)) (.cons (.p (.refl _)) (.cons (.p (.refl _)) (.cons (.p (.refl _)) (.cons (.p (.refl _)) (.cons (.p (.refl _)) (.cons (.p (.refl _)) (.nil))))))))⟩, ⟨_, rfl, _, rfl, .liftE (by first | (rw [List.take_zero]; rfl) | (rw [Pl.leaves_take _ _ i (by omega), if_neg (by rw [hnl]; decide), List.append_nil]; done) | (rw [Pl.leaves_take _ _ i (by omega), if_pos hlf, List.map_append]; rfl) | trace_state)⟩, trivial⟩, by omega⟩
  ·try simp only [hbx] at hb
   refine yJ ?_
   refine h4 _ ?_; clear h4 k4
   have hnl := Pl.isLeaf_no (ts := c.work.ts) (e := (ev.getD i default)) (by by_cases q1 : (ev.getD i default).task < 0; exact .inr (.inl q1); by_cases q2 : (c.work.ts.length : Int) ≤ (ev.getD i default).task; exact .inr (.inr q2); refine .inl (by cases q3 : (ev.getD i default).parted; exact absurd ⟨by omega, by omega, q3⟩ hb; rfl))
   refine yZ [57] (by rw [hC]; rfl) fun k hk => ?_
   simp (maxSteps := 9^9) (disch := (try simp only [lens]); omega) only [zJ, sm, ↓amb, zQ, simprocAttr, dx]
   repeat refine ⟨by first | omega | (simp; done) | (unfold maxLen; omega) | (simp [maxLen]; omega) | assumption, ?_⟩
   refine hk _ ?_; clear hk k
   refine ⟨i + 1, by omega, le_of [(0, _), (1, _)] (by rfl) (by rfl) ⟨⟨_, rfl, .p (.of_eq (by first | rfl | (simp only [PV.lit.injEq, Value.int.injEq, true_and]; omega) | (simp; done) | (simp; omega)))⟩, ⟨_, rfl, .ptr rfl⟩, ⟨_, rfl, .own rfl⟩, ⟨_, rfl, .p (.of_eq (by first | rfl | (simp only [PV.lit.injEq, Value.int.injEq, true_and]; omega) | (simp; done) | (simp; omega)))⟩, trivial⟩ ⟨⟨_, rfl, _, rfl, .one (.cons (.p (.refl _)) (.cons (.p (.refl _)) (.cons (.p (.refl _)) (.cons (.p (.refl _)) (.cons (.p (.refl _)) (.cons (.p (.refl _)) (.cons (.p (.refl _)) (.nil))))))))⟩, ⟨_, rfl, _, rfl, .liftE (by first | (rw [List.take_zero]; rfl) | (rw [Pl.leaves_take _ _ i (by omega), if_neg (by rw [hnl]; decide), List.append_nil]; done) | (rw [Pl.leaves_take _ _ i (by omega), if_pos hlf, List.map_append]; rfl) | trace_state)⟩, trivial⟩, by omega⟩
 ·try simp only [hbx] at hb
  refine yX ((if_pos rfl).mpr ?_)
  refine h1 _ ?_; clear h3 k3; clear h1 k1
  refine zW (zV [5]) ?_
  simp only [kp, zJ, simprocAttr]
  have htk : ev.take i = ev := List.take_of_length_le (by omega)
  rw [htk]
  refine zK [57] (by rw [hC]; rfl) fun k hk => ?_
  simp (maxSteps := 9^9) (disch := (try simp only [lens]); omega) only [zJ, sm, ↓amb, zQ, simprocAttr, dx]
  repeat refine ⟨by first | omega | (simp; done) | (unfold maxLen; omega) | (simp [maxLen]; omega) | assumption, ?_⟩
  refine hk _ ?_; clear hk k
  refine yQ ?_
  refine ret1 rfl rfl ?_
  exact .ownE rfl rfl
set_option maxHeartbeats 4000000 in
theorem c_ref07_Order (c : Bool) (n : Int) (p : Pl.Plan) : PCall Try.prog 44 [iV n, .agg (planC c p)] (.tup [ints false (Pl.ordU n p), iV (Pl.ordS n p), iV (Pl.ordE n p)]) := by
 refine yV Try.func44 rfl (by simp [Try.ntmps44]) fun C hC => ?_
 refine zW (zV [0, 1]) ?_
 simp only [kp, zJ, simprocAttr]
 refine zK [68] (by rw [hC]; rfl) fun k hk => ?_
 simp (maxSteps := 9^9) (disch := (try simp only [lens]); omega) only [zJ, sm, ↓amb, zQ, simprocAttr, dx]
 repeat refine ⟨by first | omega | (simp; done) | (unfold maxLen; omega) | (simp [maxLen]; omega) | assumption, ?_⟩
 refine hk _ ?_; clear hk k
 refine zY fun k1 h1 => ?_
 refine xQ [68] 24 (decide (¬ Pl.ordOk n p)) [0, 3, 4, 5, 6] (by rw [hC]; rfl) (fun gd hgd k hk => ?_) ?_
 ·have g2 : gd 2 = some 16 := by rw [hgd]; rfl
  have g6 : gd 6 = some 20 := by rw [hgd]; rfl
  clear hgd
  simp (maxSteps := 9^9) (disch := (try simp only [lens]); omega) only [zJ, sm, ↓amb, zQ, simprocAttr, sz51, en65, zZ, g2, g6, dx]
  repeat' first | refine hk _ _ rfl rfl rfl rfl ?_ | (refine gsplit (fun hg => ?_) (fun hg => ?_) <;> (try simp only [hbx] at hg) <;> simp (maxSteps := 9^9) (disch := (try simp only [lens]); omega) only [zJ, sm, ↓amb, zQ, simprocAttr, sz51, en65, zZ, g2, g6, dx]) | apply And.intro | (refine yW (c_ref07_Right _ _) rfl ?_; (try simp (maxSteps := 9^9) (disch := (try simp only [lens]); omega) only [zJ, sm, ↓amb, zQ, simprocAttr, sz51, en65, zZ, g2, g6, dx])) | fail
  all_goals first | rfl | omega | exact (decide_eq_true (by omega)).symm | exact (decide_eq_false (by omega)).symm | exact decide_eq_decide.mpr (by omega) | (refine Bool.eq_iff_iff.mpr ?_; simp only [beq_iff_eq, bne_iff_ne, ne_eq, decide_eq_true_eq]; omega) | (refine Bool.eq_iff_iff.mpr ?_; simp only [Bool.not_eq_true', Bool.not_eq_false', decide_eq_false_iff_not, decide_eq_true_eq, beq_iff_eq, bne_iff_ne, ne_eq]; omega) | assumption | (simp; done) | (simp [maxLen]; omega) | skip
  all_goals first | (refine (decide_eq_true ?_).symm; intro q; exact absurd q.1 (by omega)) | (refine (decide_eq_true ?_).symm; intro q; exact absurd q.2.1 (by omega)) | (refine Bool.eq_iff_iff.mpr ?_; simp only [Bool.not_eq_true', decide_eq_false_iff_not, decide_eq_true_eq]; exact ⟨fun h q => h q.2.2, fun h q => h ⟨by omega, by omega, q⟩⟩)
 simp only [kp, zJ, simprocAttr, List.length_cons, List.length_nil]
 refine zX rfl (fun hb => ?_) (fun hb => ?_)
 ·try simp only [hbx] at hb
  refine zW (zV []) ?_
  simp only [kp, zJ, simprocAttr]
  refine zK [68] (by rw [hC]; rfl) fun k hk => ?_
  simp (maxSteps := 9^9) (disch := (try simp only [lens]); omega) only [zJ, sm, ↓amb, zQ, simprocAttr, dx]
  repeat refine ⟨by first | omega | (simp; done) | (unfold maxLen; omega) | (simp [maxLen]; omega) | assumption, ?_⟩
  refine hk _ ?_; clear hk k
  refine yQ ?_
  obtain ⟨e1, e2, e3⟩ := Pl.ord_no (n := n) (p := p) (by first | exact hb | simpa using hb)
  rw [e1, e2, e3]
  refine ret3 rfl rfl rfl rfl ?_ ?_ ?_
  ·exact .p (LeP.seq _ _)
  ·exact .p (LeP.refl _)
  ·exact .p (LeP.refl _)
 ·try simp only [hbx] at hb
  refine yJ ?_
  refine h1 _ ?_; clear h1 k1
  refine zY fun k2 h2 => ?_
  refine zW (zV [0, 3, 4, 5, 6]) ?_
  simp only [kp, zJ, simprocAttr]
  have hok : Pl.ordOk n p := by first | exact hb | (simpa using hb)
  refine zK [68] (by rw [hC]; rfl) fun k hk => ?_
  simp (maxSteps := 9^9) (disch := (try simp only [lens]); omega) only [zJ, sm, ↓amb, zQ, simprocAttr, dx]
  repeat refine ⟨by first | omega | (simp; done) | (unfold maxLen; omega) | (simp [maxLen]; omega) | assumption, ?_⟩
  refine hk _ ?_; clear hk k
  refine zX rfl (fun hb => ?_) (fun hb => ?_)
  ·try simp only [hbx] at hb
   refine zW (zV []) ?_
   simp only [kp, zJ, simprocAttr]
   refine zK [68] (by rw [hC]; rfl) fun k hk => ?_
   simp (maxSteps := 9^9) (disch := (try simp only [lens]); omega) only [zJ, sm, ↓amb, zQ, simprocAttr, dx]
   repeat refine ⟨by first | omega | (simp; done) | (unfold maxLen; omega) | (simp [maxLen]; omega) | assumption, ?_⟩
   refine hk _ ?_; clear hk k
   refine yQ ?_
   subst hb
   obtain ⟨e1, e2⟩ := Pl.ord_zero p
   rw [e1, e2, Pl.ordE0 hok]
   refine ret3 rfl rfl rfl rfl ?_ ?_ ?_
   ·exact .p (LeP.seq _ _)
   ·exact .p (LeP.refl _)
   ·exact .p (LeP.refl _)
  ·try simp only [hbx] at hb
   refine yJ ?_
   refine h2 _ ?_; clear h2 k2
   refine zW (zV [0, 3]) ?_
   simp only [kp, zJ, simprocAttr]
   have hn0 := hb
   have hbd := Pl.ord_bd hok hn0
   obtain ⟨u1, u2, u3, u4, u5, u6, u7⟩ := Pl.ordL_ok hok hn0
   have hn1 := hok.2.1
   refine zK [68] (by rw [hC]; rfl) fun k hk => ?_
   simp (maxSteps := 9^9) (disch := (try simp only [lens]); omega) only [zJ, sm, ↓amb, zQ, simprocAttr, fl51_0, sz3, fl51_1, fl51_2, sz49, en80, vr110, sz110, dx]
   repeat refine ⟨by first | omega | (simp; done) | (unfold maxLen; omega) | (simp [maxLen]; omega) | assumption, ?_⟩
   refine yW (c_ref06_Whole _ n p.grain p.workers p.picks hbd.1 (by omega)) rfl ?_
   simp (maxSteps := 9^9) (disch := (try simp only [lens]); omega) only [zJ, sm, ↓amb, zQ, simprocAttr, fl51_0, sz3, fl51_1, fl51_2, sz49, en80, vr110, sz110, dx]
   repeat refine ⟨by first | omega | (simp; done) | (unfold maxLen; omega) | (simp [maxLen]; omega) | assumption, ?_⟩
   refine hk _ ?_; clear hk k
   refine zY fun k3 h3 => ?_
   refine zW (zV [4, 5, 6, 7, 8, 9]) ?_
   simp only [kp, zJ, simprocAttr]
   refine zK [68] (by rw [hC]; rfl) fun k hk => ?_
   simp (maxSteps := 9^9) (disch := (try simp only [lens]); omega) only [zJ, sm, ↓amb, zQ, simprocAttr, dx]
   repeat refine ⟨by first | omega | (simp; done) | (unfold maxLen; omega) | (simp [maxLen]; omega) | assumption, ?_⟩
   refine hk _ ?_; clear hk k
   refine zX rfl (fun hb => ?_) (fun hb => ?_)
   ·exact absurd hb (by simp)
   ·try simp only [hbx] at hb
    refine yJ ?_
    refine h3 _ ?_; clear h3 k3
    refine zW (zV [7, 8]) ?_
    simp only [kp, zJ, simprocAttr]
    refine zK [68] (by rw [hC]; rfl) fun k hk => ?_
    simp (maxSteps := 9^9) (disch := (try simp only [lens]); omega) only [zJ, sm, ↓amb, zQ, simprocAttr, dx]
    repeat refine ⟨by first | omega | (simp; done) | (unfold maxLen; omega) | (simp [maxLen]; omega) | assumption, ?_⟩
    refine hk _ ?_; clear hk k
    refine zW (zV [7, 8, 10]) ?_
    simp only [kp, zJ, simprocAttr]
    have hws : (Pl.whole n p.grain p.workers p.picks).2.1.length ≤ 1000000 := by have := u6; unfold Pl.ordW at this; omega
    refine awp_own' 10 1 rfl ?_
    refine zK [68] (by rw [hC]; rfl) fun k hk => ?_
    simp (maxSteps := 9^9) (disch := (try simp only [lens]); omega) only [zJ, sm, ↓amb, zQ, simprocAttr, sz110, en81, dx]
    repeat refine ⟨by first | omega | (simp; done) | (unfold maxLen; omega) | (simp [maxLen]; omega) | assumption, ?_⟩
    refine yW (c_ref06_Leaves _ _ _ hws) rfl ?_
    simp (maxSteps := 9^9) (disch := (try simp only [lens]); omega) only [zJ, sm, ↓amb, zQ, simprocAttr, sz110, en81, dx]
    repeat refine ⟨by first | omega | (simp; done) | (unfold maxLen; omega) | (simp [maxLen]; omega) | assumption, ?_⟩
    refine hk _ ?_; clear hk k
    refine zY fun k4 h4 => ?_
    refine zW (zV [4, 5, 6, 8, 10, 11]) ?_
    simp only [kp, zJ, simprocAttr]
    refine zK [68] (by rw [hC]; rfl) fun k hk => ?_
    simp (maxSteps := 9^9) (disch := (try simp only [lens]); omega) only [zJ, sm, ↓amb, zQ, simprocAttr, dx]
    repeat refine ⟨by first | omega | (simp; done) | (unfold maxLen; omega) | (simp [maxLen]; omega) | assumption, ?_⟩
    refine hk _ ?_; clear hk k
    refine yK ?_
    refine yY (σ := Nat) (fun i => i ≤ (Pl.ordL n p).length) (fun (i : Nat) => ⟨[(8, (.p (.seq false ((Pl.whole n p.grain p.workers p.picks).2.1.map evC)))), (10, (.own 0)), (11, (.p (.seq false ((Pl.ordL n p).map (fun s => [iV s.1, iV s.2]))))), (12, (.p (iV (i : Int))))], [(0, (.row 1 (lift ((Pl.unitsOf ((Pl.ordL n p).take i)).map fun x => [iV x]))))], 1⟩) (fun i => (Pl.ordL n p).length - i) 0 ?_ ?_ fun i hi => ?_
    ·exact Nat.zero_le _
    ·exact le_of [(0, _)] (by rfl) (by rfl) ⟨⟨_, rfl, .p (.of_eq (by first | rfl | (simp only [PV.lit.injEq, Value.int.injEq, true_and]; omega) | (simp; done) | (simp; omega)))⟩, ⟨_, rfl, .own rfl⟩, ⟨_, rfl, .p (.of_eq (by first | rfl | (simp only [PV.lit.injEq, Value.int.injEq, true_and]; omega) | (simp; done) | (simp; omega)))⟩, ⟨_, rfl, .p (.of_eq (by first | rfl | (simp only [PV.lit.injEq, Value.int.injEq, true_and]; omega) | (simp; done) | (simp; omega)))⟩, trivial⟩ ⟨⟨_, rfl, _, rfl, .liftE (by first | (rw [List.take_zero]; rfl) | (rw [Pl.unitsOf_take _ i (by omega), hke]))⟩, trivial⟩
    refine zY fun k6 h6 => ?_
    refine zW (zV [0, 4, 5, 6, 8, 10, 11, 12]) ?_
    simp only [kp, zJ, simprocAttr]
    refine zK [68] (by rw [hC]; rfl) fun k hk => ?_
    simp (maxSteps := 9^9) (disch := (try simp only [lens]); omega) only [zJ, sm, ↓amb, zQ, simprocAttr, el114, dx]
    repeat refine ⟨by first | omega | (simp; done) | (unfold maxLen; omega) | (simp [maxLen]; omega) | assumption, ?_⟩
    refine hk _ ?_; clear hk k
    refine zX rfl (fun hb => ?_) (fun hb => ?_)
    ·try simp only [hbx] at hb
     refine yJ ?_
     refine h6 _ ?_; clear h6 k6
     refine zY fun k7 h7 => ?_
     refine yK ?_
     refine zW (zV [0, 4, 5, 6, 8, 10, 11, 12]) ?_
     simp only [kp, zJ, simprocAttr]
     obtain ⟨s1, s2, s3⟩ := u3 ((Pl.ordL n p).getD i default) (Pl.getD_mem _ i default (by omega))
     refine zK [68] (by rw [hC]; rfl) fun k hk => ?_
     simp (maxSteps := 9^9) (disch := (try simp only [lens]); omega) only [zJ, sm, ↓amb, zQ, simprocAttr, el114, sz117, fl117_0, sz3, dx]
     repeat refine ⟨by first | omega | (simp; done) | (unfold maxLen; omega) | (simp [maxLen]; omega) | assumption, ?_⟩
     refine hk _ ?_; clear hk k
     refine yK ?_
     refine yY (σ := Nat) (fun k => (k : Int) ≤ ((Pl.ordL n p).getD i default).2 - ((Pl.ordL n p).getD i default).1) (fun (k : Nat) => ⟨[(8, (.p (.seq false ((Pl.whole n p.grain p.workers p.picks).2.1.map evC)))), (10, (.own 0)), (11, (.p (.seq false ((Pl.ordL n p).map (fun s => [iV s.1, iV s.2]))))), (12, (.p (iV (i : Int)))), (13, (.p (iV (((Pl.ordL n p).getD i default).1 + (k : Int)))))], [(0, (.row 1 (lift ((Pl.unitsOf ((Pl.ordL n p).take i) ++ Pl.upto ((Pl.ordL n p).getD i default).1 (((Pl.ordL n p).getD i default).1 + (k : Int))).map fun x => [iV x]))))], 1⟩) (fun k => (((Pl.ordL n p).getD i default).2 - ((Pl.ordL n p).getD i default).1).toNat - k) 0 ?_ ?_ fun k hk => ?_
     ·show ((0 : Nat) : Int) ≤ _; omega
     ·exact le_of [(0, _)] (by rfl) (by rfl) ⟨⟨_, rfl, .p (.of_eq (by first | rfl | (simp only [PV.lit.injEq, Value.int.injEq, true_and]; omega) | (simp; done) | (simp; omega)))⟩, ⟨_, rfl, .own rfl⟩, ⟨_, rfl, .p (.of_eq (by first | rfl | (simp only [PV.lit.injEq, Value.int.injEq, true_and]; omega) | (simp; done) | (simp; omega)))⟩, ⟨_, rfl, .p (.of_eq (by first | rfl | (simp only [PV.lit.injEq, Value.int.injEq, true_and]; omega) | (simp; done) | (simp; omega)))⟩, ⟨_, rfl, .p (.of_eq (by first | rfl | (simp only [PV.lit.injEq, Value.int.injEq, true_and]; omega) | (simp; done) | (simp; omega)))⟩, trivial⟩ ⟨⟨_, rfl, _, rfl, .liftE (by first | (rw [Pl.upto_nil (by simp), List.append_nil]; done) | (rw [← Pl.upto_snoc, ← List.append_assoc]; simp only [List.map_append, List.map_cons, List.map_nil]))⟩, trivial⟩
     refine zY fun k9 h9 => ?_
     refine zW (zV [0, 4, 5, 6, 8, 10, 11, 12, 13]) ?_
     simp only [kp, zJ, simprocAttr]
     refine zK [68] (by rw [hC]; rfl) fun k hk => ?_
     simp (maxSteps := 9^9) (disch := (try simp only [lens]); omega) only [zJ, sm, ↓amb, zQ, simprocAttr, el114, sz117, fl117_1, sz3, dx]
     repeat refine ⟨by first | omega | (simp; done) | (unfold maxLen; omega) | (simp [maxLen]; omega) | assumption, ?_⟩
     refine hk _ ?_; clear hk k
     refine zX rfl (fun hb => ?_) (fun hb => ?_)
     ·try simp only [hbx] at hb
      refine yJ ?_
      refine h9 _ ?_; clear h9 k9
      refine zY fun k10 h10 => ?_
      refine yK ?_
      have hul := Pl.upto_take_len (Pl.ordL n p) i k (by omega) (by omega)
      rw [List.length_append] at hul
      refine yZ [68] (by rw [hC]; rfl) fun k hk => ?_
      simp (maxSteps := 9^9) (disch := (try simp only [lens]); omega) only [zJ, sm, ↓amb, zQ, simprocAttr, el67, vr3, by3, dx]
      repeat refine ⟨by first | omega | (simp; done) | (unfold maxLen; omega) | (simp [maxLen]; omega) | assumption, ?_⟩
      refine hk _ ?_; clear hk k
      refine h10 _ ?_; clear h10 k10
      refine yZ [68] (by rw [hC]; rfl) fun k hk => ?_
      simp (maxSteps := 9^9) (disch := (try simp only [lens]); omega) only [zJ, sm, ↓amb, zQ, simprocAttr, dx]
      repeat refine ⟨by first | omega | (simp; done) | (unfold maxLen; omega) | (simp [maxLen]; omega) | assumption, ?_⟩
      refine hk _ ?_; clear hk k
      refine ⟨k + 1, by omega, le_of [(0, _)] (by rfl) (by rfl) ⟨⟨_, rfl, .p (.of_eq (by first | rfl | (simp only [PV.lit.injEq, Value.int.injEq, true_and]; omega) | (simp; done) | (simp; omega)))⟩, ⟨_, rfl, .own rfl⟩, ⟨_, rfl, .p (.of_eq (by first | rfl | (simp only [PV.lit.injEq, Value.int.injEq, true_and]; omega) | (simp; done) | (simp; omega)))⟩, ⟨_, rfl, .p (.of_eq (by first | rfl | (simp only [PV.lit.injEq, Value.int.injEq, true_and]; omega) | (simp; done) | (simp; omega)))⟩, ⟨_, rfl, .p (.of_eq (by first | rfl | (simp only [PV.lit.injEq, Value.int.injEq, true_and]; omega) | (simp; done) | (simp; omega)))⟩, trivial⟩ ⟨⟨_, rfl, _, rfl, .liftE (by first | (rw [Pl.upto_nil (by simp), List.append_nil]; done) | (rw [← Pl.upto_snoc, ← List.append_assoc]; simp only [List.map_append, List.map_cons, List.map_nil]))⟩, trivial⟩, by omega⟩
     ·try simp only [hbx] at hb
      refine yX ((if_pos rfl).mpr ?_)
      refine h7 _ ?_; clear h9 k9; clear h7 k7
      have hke : ((Pl.ordL n p).getD i default).1 + (k : Int) = ((Pl.ordL n p).getD i default).2 := by omega
      refine yZ [68] (by rw [hC]; rfl) fun k hk => ?_
      simp (maxSteps := 9^9) (disch := (try simp only [lens]); omega) only [zJ, sm, ↓amb, zQ, simprocAttr, dx]
      repeat refine ⟨by first | omega | (simp; done) | (unfold maxLen; omega) | (simp [maxLen]; omega) | assumption, ?_⟩
      refine hk _ ?_; clear hk k
      refine ⟨i + 1, by omega, le_of [(0, _)] (by rfl) (by rfl) ⟨⟨_, rfl, .p (.of_eq (by first | rfl | (simp only [PV.lit.injEq, Value.int.injEq, true_and]; omega) | (simp; done) | (simp; omega)))⟩, ⟨_, rfl, .own rfl⟩, ⟨_, rfl, .p (.of_eq (by first | rfl | (simp only [PV.lit.injEq, Value.int.injEq, true_and]; omega) | (simp; done) | (simp; omega)))⟩, ⟨_, rfl, .p (.of_eq (by first | rfl | (simp only [PV.lit.injEq, Value.int.injEq, true_and]; omega) | (simp; done) | (simp; omega)))⟩, trivial⟩ ⟨⟨_, rfl, _, rfl, .liftE (by first | (rw [List.take_zero]; rfl) | (rw [Pl.unitsOf_take _ i (by omega), hke]))⟩, trivial⟩, by omega⟩
    ·try simp only [hbx] at hb
     refine yX ((if_pos rfl).mpr ?_)
     refine h4 _ ?_; clear h6 k6; clear h4 k4
     refine zW (zV [8, 10]) ?_
     simp only [kp, zJ, simprocAttr]
     have htk : (Pl.ordL n p).take i = (Pl.ordL n p) := List.take_of_length_le (by omega)
     rw [htk]
     refine zK [68] (by rw [hC]; rfl) fun k hk => ?_
     simp (maxSteps := 9^9) (disch := (try simp only [lens]); omega) only [zJ, sm, ↓amb, zQ, simprocAttr, el111, dx]
     repeat refine ⟨by first | omega | (simp; done) | (unfold maxLen; omega) | (simp [maxLen]; omega) | assumption, ?_⟩
     refine hk _ ?_; clear hk k
     refine yQ ?_
     rw [u1, u2, Pl.ordE0 hok]
     refine ret3 rfl rfl rfl rfl ?_ ?_ ?_
     ·exact .ownE rfl rfl
     ·exact .p (LeP.refl _)
     ·exact .p (LeP.refl _)
end Go.Proofs.Ytjkkjiaeeobnkaa
end
section
set_option linter.unusedSimpArgs false
set_option linter.unusedVariables false
set_option maxRecDepth 100000
namespace Go.Proofs.Ytjkkjiaeeobnkaa
open Go.Am Go.Proofs
theorem en44 : enters Try.prog 44 = true := by kernel_rfl
end Go.Proofs.Ytjkkjiaeeobnkaa
end
section
set_option linter.unusedSimpArgs false
set_option linter.unusedVariables false
set_option maxRecDepth 100000
namespace Go.Proofs.Ytjkkjiaeeobnkaa
open Go.Am Go.Proofs
theorem el24 : tEl Try.prog 24 = some 47 := by kernel_rfl
theorem el25 : tEl Try.prog 25 = some 45 := by kernel_rfl
theorem en54 : enters Try.prog 54 = true := by kernel_rfl
theorem en55 : enters Try.prog 55 = true := by kernel_rfl
theorem en56 : enters Try.prog 56 = true := by kernel_rfl
theorem en57 : enters Try.prog 57 = true := by kernel_rfl
theorem en58 : enters Try.prog 58 = true := by kernel_rfl
theorem en59 : enters Try.prog 59 = true := by kernel_rfl
theorem en85 : enters Try.prog 85 = true := by kernel_rfl
theorem en86 : enters Try.prog 86 = true := by kernel_rfl
theorem fl27_0 : tFld Try.prog 27 0 = some (0, 1, false) := by kernel_rfl
theorem fl27_1 : tFld Try.prog 27 1 = some (1, 1, false) := by kernel_rfl
theorem fl27_2 : tFld Try.prog 27 2 = some (2, 1, false) := by kernel_rfl
theorem fl45_0 : tFld Try.prog 45 0 = some (0, 1, false) := by kernel_rfl
theorem fl45_1 : tFld Try.prog 45 1 = some (1, 1, false) := by kernel_rfl
theorem fl45_2 : tFld Try.prog 45 2 = some (2, 1, false) := by kernel_rfl
theorem fl47_0 : tFld Try.prog 47 0 = some (0, 1, false) := by kernel_rfl
theorem fl47_1 : tFld Try.prog 47 1 = some (1, 1, false) := by kernel_rfl
theorem it3 : tInt Try.prog 3 = some .i64 := by kernel_rfl
theorem it61 : tInt Try.prog 61 = some .u16 := by kernel_rfl
theorem sz24 : tSz Try.prog 24 = some (false, 1) := by kernel_rfl
theorem sz25 : tSz Try.prog 25 = some (false, 1) := by kernel_rfl
theorem sz45 : tSz Try.prog 45 = some (true, 3) := by kernel_rfl
theorem sz47 : tSz Try.prog 47 = some (true, 2) := by kernel_rfl
theorem un61 : (Try.prog.underlying 61).isSome = true := by kernel_rfl
theorem vr45 : tVar Try.prog 45 = some (true, [.lit (.int .i64 0), .lit (.int .i64 0), .lit (.int .i64 0)]) := by kernel_rfl
set_option maxHeartbeats 4000000 in
theorem c_wire_fits (n : Int) : PCall Try.prog 55 [iV n] (bV (decide (Pl.fits n))) := by
 refine yV Try.func55 rfl (by simp [Try.ntmps55]) fun C hC => ?_
 refine zK [] (by rw [hC]; rfl) fun k hk => ?_
 simp (maxSteps := 9^9) (disch := (try simp only [lens]); omega) only [zJ, sm, ↓amb, zQ, simprocAttr, wr_u16, dx]
 repeat refine ⟨by first | omega | (simp; done) | (unfold maxLen; omega) | (simp [maxLen]; omega) | assumption, ?_⟩
 refine hk _ ?_; clear hk k
 refine xQ [] 2 (decide (Pl.fits n)) [] (by rw [hC]; rfl) (fun gd hgd k hk => ?_) ?_
 ·clear hgd
  simp (maxSteps := 9^9) (disch := (try simp only [lens]); omega) only [zJ, sm, ↓amb, zQ, simprocAttr, it61, un3, it3, un61, zZ, wr_u16, dx]
  repeat' first | refine hk _ _ rfl rfl rfl rfl ?_ | (refine gsplit (fun hg => ?_) (fun hg => ?_) <;> (try simp only [hbx] at hg) <;> simp (maxSteps := 9^9) (disch := (try simp only [lens]); omega) only [zJ, sm, ↓amb, zQ, simprocAttr, it61, un3, it3, un61, zZ, wr_u16, dx]) | apply And.intro | fail
  all_goals first | rfl | omega | exact (decide_eq_true (by (try simp only [Pl.fits] at *); omega)).symm | exact (decide_eq_false (by (try simp only [Pl.fits] at *); omega)).symm | exact decide_eq_decide.mpr (by (try simp only [Pl.fits] at *); omega) | (refine Bool.eq_iff_iff.mpr ?_; (try simp only [Pl.fits] at *); simp only [beq_iff_eq, bne_iff_ne, ne_eq, decide_eq_true_eq]; omega) | (refine Bool.eq_iff_iff.mpr ?_; simp only [Bool.not_eq_true', Bool.not_eq_false', decide_eq_false_iff_not, decide_eq_true_eq, beq_iff_eq, bne_iff_ne, ne_eq]; (try simp only [Pl.fits] at *); omega) | assumption | (simp; done) | (simp [maxLen]; omega) | skip
 simp only [kp, zJ, simprocAttr, List.length_cons, List.length_nil]
 refine yQ ?_
 refine ret1 rfl rfl ?_
 exact .p (LeP.refl _)
set_option maxHeartbeats 4000000 in
theorem c_wire_known (n : Int) : PCall Try.prog 58 [iV n] (bV (decide (1 ≤ n ∧ n ≤ 4))) := by
 refine yV Try.func58 rfl (by simp [Try.ntmps58]) fun C hC => ?_
 refine zK [] (by rw [hC]; rfl) fun k hk => ?_
 simp (maxSteps := 9^9) (disch := (try simp only [lens]); omega) only [zJ, sm, ↓amb, zQ, simprocAttr, dx]
 repeat refine ⟨by first | omega | (simp; done) | (unfold maxLen; omega) | (simp [maxLen]; omega) | assumption, ?_⟩
 refine hk _ ?_; clear hk k
 refine xQ [] 2 (decide (1 ≤ n ∧ n ≤ 4)) [] (by rw [hC]; rfl) (fun gd hgd k hk => ?_) ?_
 ·have g2 : gd 2 = some 5 := by rw [hgd]; rfl
  clear hgd
  simp (maxSteps := 9^9) (disch := (try simp only [lens]); omega) only [zJ, sm, ↓amb, zQ, simprocAttr, zZ, g2, dx]
  repeat' first | refine hk _ _ rfl rfl rfl rfl ?_ | (refine gsplit (fun hg => ?_) (fun hg => ?_) <;> (try simp only [hbx] at hg) <;> simp (maxSteps := 9^9) (disch := (try simp only [lens]); omega) only [zJ, sm, ↓amb, zQ, simprocAttr, zZ, g2, dx]) | apply And.intro | fail
  all_goals first | rfl | omega | exact (decide_eq_true (by omega)).symm | exact (decide_eq_false (by omega)).symm | exact decide_eq_decide.mpr (by omega) | (refine Bool.eq_iff_iff.mpr ?_; simp only [beq_iff_eq, bne_iff_ne, ne_eq, decide_eq_true_eq]; omega) | (refine Bool.eq_iff_iff.mpr ?_; simp only [Bool.not_eq_true', Bool.not_eq_false', decide_eq_false_iff_not, decide_eq_true_eq, beq_iff_eq, bne_iff_ne, ne_eq]; omega) | assumption | (simp; done) | (simp [maxLen]; omega) | skip
 simp only [kp, zJ, simprocAttr, List.length_cons, List.length_nil]
 refine yQ ?_
 refine ret1 rfl rfl ?_
 exact .p (LeP.refl _)
set_option maxHeartbeats 4000000 in
theorem c_wire_Right_1 (e : Pl.Edge) : PCall Try.prog 54 [.agg (edgeC e)] (bV (decide (¬ Pl.okEdge e))) := by
 refine yV Try.func54 rfl (by simp [Try.ntmps54]) fun C hC => ?_
 refine zK [] (by rw [hC]; rfl) fun k hk => ?_
 simp (maxSteps := 9^9) (disch := (try simp only [lens]); omega) only [zJ, sm, ↓amb, zQ, simprocAttr, dx]
 repeat refine ⟨by first | omega | (simp; done) | (unfold maxLen; omega) | (simp [maxLen]; omega) | assumption, ?_⟩
 refine hk _ ?_; clear hk k
 refine xQ [] 2 (decide (¬ Pl.okEdge e)) [] (by rw [hC]; rfl) (fun gd hgd k hk => ?_) ?_
 ·have g4 : gd 4 = some 7 := by rw [hgd]; rfl
  clear hgd
  simp (maxSteps := 9^9) (disch := (try simp only [lens]); omega) only [zJ, sm, ↓amb, zQ, simprocAttr, fl47_0, sz3, en55, fl47_1, zZ, g4, dx]
  repeat' first | refine hk _ _ rfl rfl rfl rfl ?_ | (refine gsplit (fun hg => ?_) (fun hg => ?_) <;> (try simp only [hbx] at hg) <;> simp (maxSteps := 9^9) (disch := (try simp only [lens]); omega) only [zJ, sm, ↓amb, zQ, simprocAttr, fl47_0, sz3, en55, fl47_1, zZ, g4, dx]) | apply And.intro | (refine yW (c_wire_fits _) rfl ?_; (try simp (maxSteps := 9^9) (disch := (try simp only [lens]); omega) only [zJ, sm, ↓amb, zQ, simprocAttr, fl47_0, sz3, en55, fl47_1, zZ, g4, dx])) | (refine yW (c_wire_fits _) rfl ?_; (try simp (maxSteps := 9^9) (disch := (try simp only [lens]); omega) only [zJ, sm, ↓amb, zQ, simprocAttr, fl47_0, sz3, en55, fl47_1, zZ, g4, dx])) | fail
  all_goals first | rfl | omega | exact (decide_eq_true (by (try simp only [Pl.okEdge, Pl.fits] at *); omega)).symm | exact (decide_eq_false (by (try simp only [Pl.okEdge, Pl.fits] at *); omega)).symm | exact decide_eq_decide.mpr (by (try simp only [Pl.okEdge, Pl.fits] at *); omega) | (refine Bool.eq_iff_iff.mpr ?_; (try simp only [Pl.okEdge, Pl.fits] at *); simp only [beq_iff_eq, bne_iff_ne, ne_eq, decide_eq_true_eq]; omega) | (refine Bool.eq_iff_iff.mpr ?_; simp only [Bool.not_eq_true', Bool.not_eq_false', decide_eq_false_iff_not, decide_eq_true_eq, beq_iff_eq, bne_iff_ne, ne_eq]; (try simp only [Pl.okEdge, Pl.fits] at *); omega) | assumption | (simp; done) | (simp [maxLen]; omega) | skip
 simp only [kp, zJ, simprocAttr, List.length_cons, List.length_nil]
 refine yQ ?_
 refine ret1 rfl rfl ?_
 exact .p (LeP.refl _)
set_option maxHeartbeats 4000000 in
theorem c_wire_Right_2 (a : Pl.Ask) : PCall Try.prog 57 [.agg (askC a)] (bV (decide (¬ Pl.okAsk a))) := by
 refine yV Try.func57 rfl (by simp [Try.ntmps57]) fun C hC => ?_
 refine zK [] (by rw [hC]; rfl) fun k hk => ?_
 simp (maxSteps := 9^9) (disch := (try simp only [lens]); omega) only [zJ, sm, ↓amb, zQ, simprocAttr, dx]
 repeat refine ⟨by first | omega | (simp; done) | (unfold maxLen; omega) | (simp [maxLen]; omega) | assumption, ?_⟩
 refine hk _ ?_; clear hk k
 refine xQ [] 2 (decide (¬ Pl.okAsk a)) [] (by rw [hC]; rfl) (fun gd hgd k hk => ?_) ?_
 ·have g4 : gd 4 = some 7 := by rw [hgd]; rfl
  have g10 : gd 10 = some 13 := by rw [hgd]; rfl
  clear hgd
  simp (maxSteps := 9^9) (disch := (try simp only [lens]); omega) only [zJ, sm, ↓amb, zQ, simprocAttr, fl45_0, sz3, en58, fl45_1, en55, fl45_2, zZ, g4, g10, dx]
  repeat' first | refine hk _ _ rfl rfl rfl rfl ?_ | (refine gsplit (fun hg => ?_) (fun hg => ?_) <;> (try simp only [hbx] at hg) <;> simp (maxSteps := 9^9) (disch := (try simp only [lens]); omega) only [zJ, sm, ↓amb, zQ, simprocAttr, fl45_0, sz3, en58, fl45_1, en55, fl45_2, zZ, g4, g10, dx]) | apply And.intro | (refine yW (c_wire_known _) rfl ?_; (try simp (maxSteps := 9^9) (disch := (try simp only [lens]); omega) only [zJ, sm, ↓amb, zQ, simprocAttr, fl45_0, sz3, en58, fl45_1, en55, fl45_2, zZ, g4, g10, dx])) | (refine yW (c_wire_fits _) rfl ?_; (try simp (maxSteps := 9^9) (disch := (try simp only [lens]); omega) only [zJ, sm, ↓amb, zQ, simprocAttr, fl45_0, sz3, en58, fl45_1, en55, fl45_2, zZ, g4, g10, dx])) | (refine yW (c_wire_fits _) rfl ?_; (try simp (maxSteps := 9^9) (disch := (try simp only [lens]); omega) only [zJ, sm, ↓amb, zQ, simprocAttr, fl45_0, sz3, en58, fl45_1, en55, fl45_2, zZ, g4, g10, dx])) | fail
  all_goals first | rfl | omega | exact (decide_eq_true (by (try simp only [Pl.okAsk, Pl.fits] at *); omega)).symm | exact (decide_eq_false (by (try simp only [Pl.okAsk, Pl.fits] at *); omega)).symm | exact decide_eq_decide.mpr (by (try simp only [Pl.okAsk, Pl.fits] at *); omega) | (refine Bool.eq_iff_iff.mpr ?_; (try simp only [Pl.okAsk, Pl.fits] at *); simp only [beq_iff_eq, bne_iff_ne, ne_eq, decide_eq_true_eq]; omega) | (refine Bool.eq_iff_iff.mpr ?_; simp only [Bool.not_eq_true', Bool.not_eq_false', decide_eq_false_iff_not, decide_eq_true_eq, beq_iff_eq, bne_iff_ne, ne_eq]; (try simp only [Pl.okAsk, Pl.fits] at *); omega) | assumption | (simp; done) | (simp [maxLen]; omega) | skip
 simp only [kp, zJ, simprocAttr, List.length_cons, List.length_nil]
 refine yQ ?_
 refine ret1 rfl rfl ?_
 exact .p (LeP.refl _)
set_option maxHeartbeats 4000000 in
theorem c_IndexEdge (c : Bool) (l : List Pl.Edge) (hl : l.length ≤ 1000000) : HCall Try.prog 85 [.p (.seq c (l.map edgeC)), .fn 54 []] [] (.p (iV (Pl.firstB (fun x => decide (¬ Pl.okEdge x)) l))) [] := by
 refine xJ Try.func85 rfl (by simp [Try.ntmps85]) fun C hC => ?_
 refine zW (zV [0, 1]) ?_
 simp only [kp, zJ, simprocAttr]
 refine zK [] (by rw [hC]; rfl) fun k hk => ?_
 simp (maxSteps := 9^9) (disch := (try simp only [lens]); omega) only [zJ, sm, ↓amb, zQ, simprocAttr, dx, en54]
 repeat refine ⟨by first | omega | (simp; done) | (unfold maxLen; omega) | (simp [maxLen]; omega) | assumption, ?_⟩
 refine hk _ ?_; clear hk k
 refine zY fun k1 h1 => ?_
 refine zW (zV [0, 1, 4]) ?_
 simp only [kp, zJ, simprocAttr]
 refine zK [] (by rw [hC]; rfl) fun k hk => ?_
 simp (maxSteps := 9^9) (disch := (try simp only [lens]); omega) only [zJ, sm, ↓amb, zQ, simprocAttr, el24, dx, en54]
 repeat refine ⟨by first | omega | (simp; done) | (unfold maxLen; omega) | (simp [maxLen]; omega) | assumption, ?_⟩
 refine hk _ ?_; clear hk k
 refine yK ?_
 refine yY (σ := Nat) (fun i => i ≤ l.length ∧ ∀ j, j < i → (fun x => decide (¬ Pl.okEdge x)) (l.getD j default) = false) (fun (i : Nat) => ⟨[(0, (.p (.seq c (l.map edgeC)))), (1, (.fn 54 [])), (7, (.p (iV l.length))), (8, (.p (iV (i : Int))))], [], 1⟩) (fun i => l.length - i) 0 ?_ ?_ fun i hi => ?_
 ·exact ⟨Nat.zero_le _, fun j hj => by omega⟩
 ·exact le_of [] (by rfl) (by rfl) ⟨⟨_, rfl, .p (.of_eq (by first | rfl | (simp only [PV.lit.injEq, Value.int.injEq, true_and]; omega) | (simp; done) | (simp; omega)))⟩, ⟨_, rfl, .fn rfl LeRow.nil.2⟩, ⟨_, rfl, .p (.of_eq (by first | rfl | (simp only [PV.lit.injEq, Value.int.injEq, true_and]; omega) | (simp; done) | (simp; omega)))⟩, ⟨_, rfl, .p (.of_eq (by first | rfl | (simp only [PV.lit.injEq, Value.int.injEq, true_and]; omega) | (simp; done) | (simp; omega)))⟩, trivial⟩ trivial
 obtain ⟨hi1, hi2⟩ := hi
 refine zW (zV [0, 1, 4, 7, 8]) ?_
 simp only [kp, zJ, simprocAttr]
 refine zK [] (by rw [hC]; rfl) fun k hk => ?_
 simp (maxSteps := 9^9) (disch := (try simp only [lens]); omega) only [zJ, sm, ↓amb, zQ, simprocAttr, dx, en54]
 repeat refine ⟨by first | omega | (simp; done) | (unfold maxLen; omega) | (simp [maxLen]; omega) | assumption, ?_⟩
 refine hk _ ?_; clear hk k
 refine zY fun k3 h3 => ?_
 refine zX rfl (fun hb => ?_) (fun hb => ?_)
 ·try simp only [hbx] at hb
  refine yJ ?_
  refine h3 _ ?_; clear h3 k3
  refine zY fun k4 h4 => ?_
  refine yK ?_
  refine zW (zV [0, 1, 4, 7, 8]) ?_
  simp only [kp, zJ, simprocAttr]
  refine zK [] (by rw [hC]; rfl) fun k hk => ?_
  simp (maxSteps := 9^9) (disch := (try simp only [lens]); omega) only [zJ, sm, ↓amb, zQ, simprocAttr, dx, en54]
  repeat refine ⟨by first | omega | (simp; done) | (unfold maxLen; omega) | (simp [maxLen]; omega) | assumption, ?_⟩
  refine hk _ ?_; clear hk k
  refine zW (zV [0, 1, 4, 5, 7, 8]) ?_
  simp only [kp, zJ, simprocAttr]
  refine zK [] (by rw [hC]; rfl) fun k hk => ?_
  simp (maxSteps := 9^9) (disch := (try simp only [lens]); omega) only [zJ, sm, ↓amb, zQ, simprocAttr, el24, sz47, dx, en54]
  repeat refine ⟨by first | omega | (simp; done) | (unfold maxLen; omega) | (simp [maxLen]; omega) | assumption, ?_⟩
  refine yW (c_wire_Right_1 _) rfl ?_
  simp (maxSteps := 9^9) (disch := (try simp only [lens]); omega) only [zJ, sm, ↓amb, zQ, simprocAttr, el24, sz47, dx, en54]
  repeat refine ⟨by first | omega | (simp; done) | (unfold maxLen; omega) | (simp [maxLen]; omega) | assumption, ?_⟩
  refine hk _ ?_; clear hk k
  refine zX rfl (fun hb => ?_) (fun hb => ?_)
  ·try simp only [hbx] at hb
   refine zW (zV [5]) ?_
   simp only [kp, zJ, simprocAttr]
   refine zK [] (by rw [hC]; rfl) fun k hk => ?_
   simp (maxSteps := 9^9) (disch := (try simp only [lens]); omega) only [zJ, sm, ↓amb, zQ, simprocAttr, dx, en54]
   repeat refine ⟨by first | omega | (simp; done) | (unfold maxLen; omega) | (simp [maxLen]; omega) | assumption, ?_⟩
   refine hk _ ?_; clear hk k
   refine yQ ?_
   rw [Pl.firstB_at (p := (fun x => decide (¬ Pl.okEdge x))) (i := i) (by omega) hi2 (decide_eq_true hb)]
   refine reth1 rfl rfl ?_
   exact le_of [] (by rfl) (by rfl) ⟨⟨_, rfl, .p (.refl _)⟩, trivial⟩ trivial
  ·try simp only [hbx] at hb
   refine yJ ?_
   refine h4 _ ?_; clear h4 k4
   refine yZ [] (by rw [hC]; rfl) fun k hk => ?_
   simp (maxSteps := 9^9) (disch := (try simp only [lens]); omega) only [zJ, sm, ↓amb, zQ, simprocAttr, dx, en54]
   repeat refine ⟨by first | omega | (simp; done) | (unfold maxLen; omega) | (simp [maxLen]; omega) | assumption, ?_⟩
   refine hk _ ?_; clear hk k
   refine ⟨i + 1, ⟨by omega, fun j hj => by by_cases e : j = i; subst e; exact (by first | exact decide_eq_false hb | exact decide_eq_false (fun q => q hb)); exact hi2 j (by omega)⟩, le_of [] (by rfl) (by rfl) ⟨⟨_, rfl, .p (.of_eq (by first | rfl | (simp only [PV.lit.injEq, Value.int.injEq, true_and]; omega) | (simp; done) | (simp; omega)))⟩, ⟨_, rfl, .fn rfl LeRow.nil.2⟩, ⟨_, rfl, .p (.of_eq (by first | rfl | (simp only [PV.lit.injEq, Value.int.injEq, true_and]; omega) | (simp; done) | (simp; omega)))⟩, ⟨_, rfl, .p (.of_eq (by first | rfl | (simp only [PV.lit.injEq, Value.int.injEq, true_and]; omega) | (simp; done) | (simp; omega)))⟩, trivial⟩ trivial, by omega⟩
 ·try simp only [hbx] at hb
  refine yX ((if_pos rfl).mpr ?_)
  refine h1 _ ?_; clear h3 k3; clear h1 k1
  refine zW (zV []) ?_
  simp only [kp, zJ, simprocAttr]
  refine zK [] (by rw [hC]; rfl) fun k hk => ?_
  simp (maxSteps := 9^9) (disch := (try simp only [lens]); omega) only [zJ, sm, ↓amb, zQ, simprocAttr, dx, en54]
  repeat refine ⟨by first | omega | (simp; done) | (unfold maxLen; omega) | (simp [maxLen]; omega) | assumption, ?_⟩
  refine hk _ ?_; clear hk k
  refine yQ ?_
  rw [Pl.firstB_no (p := (fun x => decide (¬ Pl.okEdge x))) (i := i) (by omega) (fun j hj _ => hi2 j hj)]
  refine reth1 rfl rfl ?_
  exact le_of [] (by rfl) (by rfl) ⟨⟨_, rfl, .p (.refl _)⟩, trivial⟩ trivial
set_option maxHeartbeats 4000000 in
theorem c_ContainsEdge (c : Bool) (l : List Pl.Edge) (hl : l.length ≤ 1000000) : HCall Try.prog 56 [.p (.seq c (l.map edgeC)), .fn 54 []] [] (.p (bV (decide (¬ ∀ x ∈ l, Pl.okEdge x)))) [] := by
 refine xJ Try.func56 rfl (by simp [Try.ntmps56]) fun C hC => ?_
 refine zW (zV [0, 1]) ?_
 simp only [kp, zJ, simprocAttr]
 refine zK [] (by rw [hC]; rfl) fun k hk => ?_
 simp (maxSteps := 9^9) (disch := (try simp only [lens]); omega) only [zJ, sm, ↓amb, zQ, simprocAttr, dx, en54]
 repeat refine ⟨by first | omega | (simp; done) | (unfold maxLen; omega) | (simp [maxLen]; omega) | assumption, ?_⟩
 refine hk _ ?_; clear hk k
 refine zW (zV [0, 1]) ?_
 simp only [kp, zJ, simprocAttr]
 refine zK [] (by rw [hC]; rfl) fun k hk => ?_
 simp (maxSteps := 9^9) (disch := (try simp only [lens]); omega) only [zJ, sm, ↓amb, zQ, simprocAttr, en85, dx, en54]
 repeat refine ⟨by first | omega | (simp; done) | (unfold maxLen; omega) | (simp [maxLen]; omega) | assumption, ?_⟩
 refine callK_h (c_IndexEdge c l hl) [] [] (by first | rfl | (simp only [hm]; done)) (by first | rfl | (simp [namesOk, lkp]; done)) ?_ ?_ ?_ ?_ ?_ ?_ ?_
 (iterate 6 (focus (first | trivial | (intro n hn; cases hn; done) | (simp (maxSteps := 9^9) (disch := (try simp only [lens]); omega) only [zJ, sm, ↓amb, zQ, simprocAttr, en85, dx, en54, hmx, List.filter_cons, Nat.reduceBNe, imp_self, implies_true]; done))))
 simp (maxSteps := 9^9) (disch := (try simp only [lens]); omega) only [zJ, sm, ↓amb, zQ, simprocAttr, en85, dx, en54, hm, List.filter_cons, List.filter_nil, Nat.reduceBNe, Option.map_none]
 repeat refine ⟨by first | omega | (simp; done) | (unfold maxLen; omega) | (simp [maxLen]; omega) | assumption, ?_⟩
 refine hk _ ?_; clear hk k
 refine yQ ?_
 rw [← Pl.contains_eq (fun x => decide (¬ Pl.okEdge x)) Pl.okEdge l (fun _ => rfl)]
 refine reth1 rfl rfl ?_
 exact le_of [] (by rfl) (by rfl) ⟨⟨_, rfl, .p (.refl _)⟩, trivial⟩ trivial
set_option maxHeartbeats 4000000 in
theorem c_IndexAsk (c : Bool) (l : List Pl.Ask) (hl : l.length ≤ 1000000) : HCall Try.prog 86 [.p (.seq c (l.map askC)), .fn 57 []] [] (.p (iV (Pl.firstB (fun x => decide (¬ Pl.okAsk x)) l))) [] := by
 refine xJ Try.func86 rfl (by simp [Try.ntmps86]) fun C hC => ?_
 refine zW (zV [0, 1]) ?_
 simp only [kp, zJ, simprocAttr]
 refine zK [] (by rw [hC]; rfl) fun k hk => ?_
 simp (maxSteps := 9^9) (disch := (try simp only [lens]); omega) only [zJ, sm, ↓amb, zQ, simprocAttr, dx, en57]
 repeat refine ⟨by first | omega | (simp; done) | (unfold maxLen; omega) | (simp [maxLen]; omega) | assumption, ?_⟩
 refine hk _ ?_; clear hk k
 refine zY fun k1 h1 => ?_
 refine zW (zV [0, 1, 4]) ?_
 simp only [kp, zJ, simprocAttr]
 refine zK [] (by rw [hC]; rfl) fun k hk => ?_
 simp (maxSteps := 9^9) (disch := (try simp only [lens]); omega) only [zJ, sm, ↓amb, zQ, simprocAttr, el25, dx, en57]
 repeat refine ⟨by first | omega | (simp; done) | (unfold maxLen; omega) | (simp [maxLen]; omega) | assumption, ?_⟩
 refine hk _ ?_; clear hk k
 refine yK ?_
 refine yY (σ := Nat) (fun i => i ≤ l.length ∧ ∀ j, j < i → (fun x => decide (¬ Pl.okAsk x)) (l.getD j default) = false) (fun (i : Nat) => ⟨[(0, (.p (.seq c (l.map askC)))), (1, (.fn 57 [])), (7, (.p (iV l.length))), (8, (.p (iV (i : Int))))], [], 1⟩) (fun i => l.length - i) 0 ?_ ?_ fun i hi => ?_
 ·exact ⟨Nat.zero_le _, fun j hj => by omega⟩
 ·exact le_of [] (by rfl) (by rfl) ⟨⟨_, rfl, .p (.of_eq (by first | rfl | (simp only [PV.lit.injEq, Value.int.injEq, true_and]; omega) | (simp; done) | (simp; omega)))⟩, ⟨_, rfl, .fn rfl LeRow.nil.2⟩, ⟨_, rfl, .p (.of_eq (by first | rfl | (simp only [PV.lit.injEq, Value.int.injEq, true_and]; omega) | (simp; done) | (simp; omega)))⟩, ⟨_, rfl, .p (.of_eq (by first | rfl | (simp only [PV.lit.injEq, Value.int.injEq, true_and]; omega) | (simp; done) | (simp; omega)))⟩, trivial⟩ trivial
 obtain ⟨hi1, hi2⟩ := hi
 refine zW (zV [0, 1, 4, 7, 8]) ?_
 simp only [kp, zJ, simprocAttr]
 refine zK [] (by rw [hC]; rfl) fun k hk => ?_
 simp (maxSteps := 9^9) (disch := (try simp only [lens]); omega) only [zJ, sm, ↓amb, zQ, simprocAttr, dx, en57]
 repeat refine ⟨by first | omega | (simp; done) | (unfold maxLen; omega) | (simp [maxLen]; omega) | assumption, ?_⟩
 refine hk _ ?_; clear hk k
 refine zY fun k3 h3 => ?_
 refine zX rfl (fun hb => ?_) (fun hb => ?_)
 ·try simp only [hbx] at hb
  refine yJ ?_
  refine h3 _ ?_; clear h3 k3
  refine zY fun k4 h4 => ?_
  refine yK ?_
  refine zW (zV [0, 1, 4, 7, 8]) ?_
  simp only [kp, zJ, simprocAttr]
  refine zK [] (by rw [hC]; rfl) fun k hk => ?_
  simp (maxSteps := 9^9) (disch := (try simp only [lens]); omega) only [zJ, sm, ↓amb, zQ, simprocAttr, dx, en57]
  repeat refine ⟨by first | omega | (simp; done) | (unfold maxLen; omega) | (simp [maxLen]; omega) | assumption, ?_⟩
  refine hk _ ?_; clear hk k
  refine zW (zV [0, 1, 4, 5, 7, 8]) ?_
  simp only [kp, zJ, simprocAttr]
  refine zK [] (by rw [hC]; rfl) fun k hk => ?_
  simp (maxSteps := 9^9) (disch := (try simp only [lens]); omega) only [zJ, sm, ↓amb, zQ, simprocAttr, el25, sz45, dx, en57]
  repeat refine ⟨by first | omega | (simp; done) | (unfold maxLen; omega) | (simp [maxLen]; omega) | assumption, ?_⟩
  refine yW (c_wire_Right_2 _) rfl ?_
  simp (maxSteps := 9^9) (disch := (try simp only [lens]); omega) only [zJ, sm, ↓amb, zQ, simprocAttr, el25, sz45, dx, en57]
  repeat refine ⟨by first | omega | (simp; done) | (unfold maxLen; omega) | (simp [maxLen]; omega) | assumption, ?_⟩
  refine hk _ ?_; clear hk k
  refine zX rfl (fun hb => ?_) (fun hb => ?_)
  ·try simp only [hbx] at hb
   refine zW (zV [5]) ?_
   simp only [kp, zJ, simprocAttr]
   refine zK [] (by rw [hC]; rfl) fun k hk => ?_
   simp (maxSteps := 9^9) (disch := (try simp only [lens]); omega) only [zJ, sm, ↓amb, zQ, simprocAttr, dx, en57]
   repeat refine ⟨by first | omega | (simp; done) | (unfold maxLen; omega) | (simp [maxLen]; omega) | assumption, ?_⟩
   refine hk _ ?_; clear hk k
   refine yQ ?_
   rw [Pl.firstB_at (p := (fun x => decide (¬ Pl.okAsk x))) (i := i) (by omega) hi2 (decide_eq_true hb)]
   refine reth1 rfl rfl ?_
   exact le_of [] (by rfl) (by rfl) ⟨⟨_, rfl, .p (.refl _)⟩, trivial⟩ trivial
  ·try simp only [hbx] at hb
   refine yJ ?_
   refine h4 _ ?_; clear h4 k4
   refine yZ [] (by rw [hC]; rfl) fun k hk => ?_
   simp (maxSteps := 9^9) (disch := (try simp only [lens]); omega) only [zJ, sm, ↓amb, zQ, simprocAttr, dx, en57]
   repeat refine ⟨by first | omega | (simp; done) | (unfold maxLen; omega) | (simp [maxLen]; omega) | assumption, ?_⟩
   refine hk _ ?_; clear hk k
   refine ⟨i + 1, ⟨by omega, fun j hj => by by_cases e : j = i; subst e; exact (by first | exact decide_eq_false hb | exact decide_eq_false (fun q => q hb)); exact hi2 j (by omega)⟩, le_of [] (by rfl) (by rfl) ⟨⟨_, rfl, .p (.of_eq (by first | rfl | (simp only [PV.lit.injEq, Value.int.injEq, true_and]; omega) | (simp; done) | (simp; omega)))⟩, ⟨_, rfl, .fn rfl LeRow.nil.2⟩, ⟨_, rfl, .p (.of_eq (by first | rfl | (simp only [PV.lit.injEq, Value.int.injEq, true_and]; omega) | (simp; done) | (simp; omega)))⟩, ⟨_, rfl, .p (.of_eq (by first | rfl | (simp only [PV.lit.injEq, Value.int.injEq, true_and]; omega) | (simp; done) | (simp; omega)))⟩, trivial⟩ trivial, by omega⟩
 ·try simp only [hbx] at hb
  refine yX ((if_pos rfl).mpr ?_)
  refine h1 _ ?_; clear h3 k3; clear h1 k1
  refine zW (zV []) ?_
  simp only [kp, zJ, simprocAttr]
  refine zK [] (by rw [hC]; rfl) fun k hk => ?_
  simp (maxSteps := 9^9) (disch := (try simp only [lens]); omega) only [zJ, sm, ↓amb, zQ, simprocAttr, dx, en57]
  repeat refine ⟨by first | omega | (simp; done) | (unfold maxLen; omega) | (simp [maxLen]; omega) | assumption, ?_⟩
  refine hk _ ?_; clear hk k
  refine yQ ?_
  rw [Pl.firstB_no (p := (fun x => decide (¬ Pl.okAsk x))) (i := i) (by omega) (fun j hj _ => hi2 j hj)]
  refine reth1 rfl rfl ?_
  exact le_of [] (by rfl) (by rfl) ⟨⟨_, rfl, .p (.refl _)⟩, trivial⟩ trivial
set_option maxHeartbeats 4000000 in
theorem c_ContainsAsk (c : Bool) (l : List Pl.Ask) (hl : l.length ≤ 1000000) : HCall Try.prog 59 [.p (.seq c (l.map askC)), .fn 57 []] [] (.p (bV (decide (¬ ∀ x ∈ l, Pl.okAsk x)))) [] := by
 refine xJ Try.func59 rfl (by simp [Try.ntmps59]) fun C hC => ?_
 refine zW (zV [0, 1]) ?_
 simp only [kp, zJ, simprocAttr]
 refine zK [] (by rw [hC]; rfl) fun k hk => ?_
 simp (maxSteps := 9^9) (disch := (try simp only [lens]); omega) only [zJ, sm, ↓amb, zQ, simprocAttr, dx, en57]
 repeat refine ⟨by first | omega | (simp; done) | (unfold maxLen; omega) | (simp [maxLen]; omega) | assumption, ?_⟩
 refine hk _ ?_; clear hk k
 refine zW (zV [0, 1]) ?_
 simp only [kp, zJ, simprocAttr]
 refine zK [] (by rw [hC]; rfl) fun k hk => ?_
 simp (maxSteps := 9^9) (disch := (try simp only [lens]); omega) only [zJ, sm, ↓amb, zQ, simprocAttr, en86, dx, en57]
 repeat refine ⟨by first | omega | (simp; done) | (unfold maxLen; omega) | (simp [maxLen]; omega) | assumption, ?_⟩
 refine callK_h (c_IndexAsk c l hl) [] [] (by first | rfl | (simp only [hm]; done)) (by first | rfl | (simp [namesOk, lkp]; done)) ?_ ?_ ?_ ?_ ?_ ?_ ?_
 (iterate 6 (focus (first | trivial | (intro n hn; cases hn; done) | (simp (maxSteps := 9^9) (disch := (try simp only [lens]); omega) only [zJ, sm, ↓amb, zQ, simprocAttr, en86, dx, en57, hmx, List.filter_cons, Nat.reduceBNe, imp_self, implies_true]; done))))
 simp (maxSteps := 9^9) (disch := (try simp only [lens]); omega) only [zJ, sm, ↓amb, zQ, simprocAttr, en86, dx, en57, hm, List.filter_cons, List.filter_nil, Nat.reduceBNe, Option.map_none]
 repeat refine ⟨by first | omega | (simp; done) | (unfold maxLen; omega) | (simp [maxLen]; omega) | assumption, ?_⟩
 refine hk _ ?_; clear hk k
 refine yQ ?_
 rw [← Pl.contains_eq (fun x => decide (¬ Pl.okAsk x)) Pl.okAsk l (fun _ => rfl)]
 refine reth1 rfl rfl ?_
 exact le_of [] (by rfl) (by rfl) ⟨⟨_, rfl, .p (.refl _)⟩, trivial⟩ trivial
set_option maxHeartbeats 4000000 in
theorem c_wire_Right (c d : Bool) (x : Pl.Batch) : PCall Try.prog 24 [.agg (batchC c d x)] (bV (decide (Pl.batchRight x))) := by
 refine yV Try.func24 rfl (by simp [Try.ntmps24]) fun C hC => ?_
 refine zW (zV [0]) ?_
 simp only [kp, zJ, simprocAttr]
 refine zK [] (by rw [hC]; rfl) fun k hk => ?_
 simp (maxSteps := 9^9) (disch := (try simp only [lens]); omega) only [zJ, sm, ↓amb, zQ, simprocAttr, dx, en54, en57]
 repeat refine ⟨by first | omega | (simp; done) | (unfold maxLen; omega) | (simp [maxLen]; omega) | assumption, ?_⟩
 refine hk _ ?_; clear hk k
 refine zY fun k1 h1 => ?_
 refine zW (zV [1, 2]) ?_
 simp only [kp, zJ, simprocAttr]
 refine zK [] (by rw [hC]; rfl) fun k hk => ?_
 simp (maxSteps := 9^9) (disch := (try simp only [lens]); omega) only [zJ, sm, ↓amb, zQ, simprocAttr, fl27_0, sz3, dx, en54, en57]
 repeat refine ⟨by first | omega | (simp; done) | (unfold maxLen; omega) | (simp [maxLen]; omega) | assumption, ?_⟩
 refine hk _ ?_; clear hk k
 refine yK ?_
 refine zY fun k2 h2 => ?_
 refine zW (zV [1, 2, 6]) ?_
 simp only [kp, zJ, simprocAttr]
 refine zK [] (by rw [hC]; rfl) fun k hk => ?_
 simp (maxSteps := 9^9) (disch := (try simp only [lens]); omega) only [zJ, sm, ↓amb, zQ, simprocAttr, dx, en54, en57]
 repeat refine ⟨by first | omega | (simp; done) | (unfold maxLen; omega) | (simp [maxLen]; omega) | assumption, ?_⟩
 refine hk _ ?_; clear hk k
 refine zX rfl (fun hb => ?_) (fun hb => ?_)
 ·try simp only [hbx] at hb
  refine yJ ?_
  refine h2 _ ?_; clear h2 k2
  refine zX rfl (fun hb => ?_) (fun hb => ?_)
  ·try simp only [hbx] at hb
   refine zW (zV [1]) ?_
   simp only [kp, zJ, simprocAttr]
   have hk := hb
   refine zK [] (by rw [hC]; rfl) fun k hk => ?_
   simp (maxSteps := 9^9) (disch := (try simp only [lens]); omega) only [zJ, sm, ↓amb, zQ, simprocAttr, dx, en54, en57]
   repeat refine ⟨by first | omega | (simp; done) | (unfold maxLen; omega) | (simp [maxLen]; omega) | assumption, ?_⟩
   refine hk _ ?_; clear hk k
   refine xQ [] 2 (decide (x.asks.length = 0 ∧ x.edges.length ≤ 60 ∧ ∀ e ∈ x.edges, Pl.okEdge e)) [] (by rw [hC]; rfl) (fun gd hgd k hk => ?_) ?_
   ·have g4 : gd 4 = some 14 := by rw [hgd]; rfl
    have g10 : gd 10 = some 20 := by rw [hgd]; rfl
    clear hgd
    simp (maxSteps := 9^9) (disch := (try simp only [lens]); omega) only [zJ, sm, ↓amb, zQ, simprocAttr, fl27_2, sz25, el25, fl27_1, sz24, el24, en56, zZ, g4, g10, dx, en54, en57]
    repeat' first | refine hk _ _ rfl rfl rfl rfl ?_ | (refine gsplit (fun hg => ?_) (fun hg => ?_) <;> (try simp only [hbx] at hg) <;> simp (maxSteps := 9^9) (disch := (try simp only [lens]); omega) only [zJ, sm, ↓amb, zQ, simprocAttr, fl27_2, sz25, el25, fl27_1, sz24, el24, en56, zZ, g4, g10, dx, en54, en57]) | apply And.intro | (refine callK_h (c_ContainsEdge c x.edges (by omega)) [] [] (by first | rfl | (simp only [hm]; done)) (by first | rfl | (simp [namesOk, lkp]; done)) ?_ ?_ ?_ ?_ ?_ ?_ ?_; (iterate 6 (focus (first | trivial | (intro n hn; cases hn; done) | (simp (maxSteps := 9^9) (disch := (try simp only [lens]); omega) only [zJ, sm, ↓amb, zQ, simprocAttr, fl27_2, sz25, el25, fl27_1, sz24, el24, en56, zZ, g4, g10, dx, en54, en57, hmx, List.filter_cons, Nat.reduceBNe, imp_self, implies_true]; done)))); simp (maxSteps := 9^9) (disch := (try simp only [lens]); omega) only [zJ, sm, ↓amb, zQ, simprocAttr, fl27_2, sz25, el25, fl27_1, sz24, el24, en56, zZ, g4, g10, dx, en54, en57, hm, List.filter_cons, List.filter_nil, Nat.reduceBNe, Option.map_none]; (try simp (maxSteps := 9^9) (disch := (try simp only [lens]); omega) only [zJ, sm, ↓amb, zQ, simprocAttr, fl27_2, sz25, el25, fl27_1, sz24, el24, en56, zZ, g4, g10, dx, en54, en57])) | fail
    all_goals first | rfl | omega | exact (decide_eq_true (by omega)).symm | exact (decide_eq_false (by omega)).symm | exact decide_eq_decide.mpr (by omega) | (refine Bool.eq_iff_iff.mpr ?_; simp only [beq_iff_eq, bne_iff_ne, ne_eq, decide_eq_true_eq]; omega) | (refine Bool.eq_iff_iff.mpr ?_; simp only [Bool.not_eq_true', Bool.not_eq_false', decide_eq_false_iff_not, decide_eq_true_eq, beq_iff_eq, bne_iff_ne, ne_eq]; omega) | assumption | (simp; done) | (simp [maxLen]; omega) | skip
    all_goals first | rfl | (rw [decide_eq_false (by omega)]; done) | (refine Bool.eq_iff_iff.mpr ?_; simp only [Bool.not_eq_true', decide_eq_false_iff_not, Decidable.not_not, decide_eq_true_eq]; exact ⟨fun h => ⟨by omega, by omega, h⟩, fun h => h.2.2⟩) | (refine (decide_eq_false ?_).symm; rintro ⟨q1, q2, _⟩; omega)
   simp only [kp, zJ, simprocAttr, List.length_cons, List.length_nil]
   refine yQ ?_
   refine ret1 rfl rfl ?_
   exact .p (LeP.of_eq (by rw [decide_eq_decide.mpr (Pl.br_1 (x := x) (.inl hk))]))
  ·(have hq : x.kind = 1 := by assumption); rw [hq] at hb; exact absurd hb (by decide)
 ·try simp only [hbx] at hb
  have hk1 := hb
  refine yZ [] (by rw [hC]; rfl) fun k hk => ?_
  simp (maxSteps := 9^9) (disch := (try simp only [lens]); omega) only [zJ, sm, ↓amb, zQ, simprocAttr, dx, en54, en57]
  repeat refine ⟨by first | omega | (simp; done) | (unfold maxLen; omega) | (simp [maxLen]; omega) | assumption, ?_⟩
  refine hk _ ?_; clear hk k
  refine h2 _ ?_; clear h2 k2
  refine zX rfl (fun hb => ?_) (fun hb => ?_)
  ·try simp only [hbx] at hb
   refine zW (zV [1]) ?_
   simp only [kp, zJ, simprocAttr]
   have hk := hb
   refine zK [] (by rw [hC]; rfl) fun k hk => ?_
   simp (maxSteps := 9^9) (disch := (try simp only [lens]); omega) only [zJ, sm, ↓amb, zQ, simprocAttr, dx, en54, en57]
   repeat refine ⟨by first | omega | (simp; done) | (unfold maxLen; omega) | (simp [maxLen]; omega) | assumption, ?_⟩
   refine hk _ ?_; clear hk k
   refine xQ [] 2 (decide (x.asks.length = 0 ∧ x.edges.length ≤ 60 ∧ ∀ e ∈ x.edges, Pl.okEdge e)) [] (by rw [hC]; rfl) (fun gd hgd k hk => ?_) ?_
   ·have g4 : gd 4 = some 14 := by rw [hgd]; rfl
    have g10 : gd 10 = some 20 := by rw [hgd]; rfl
    clear hgd
    simp (maxSteps := 9^9) (disch := (try simp only [lens]); omega) only [zJ, sm, ↓amb, zQ, simprocAttr, fl27_2, sz25, el25, fl27_1, sz24, el24, en56, zZ, g4, g10, dx, en54, en57]
    repeat' first | refine hk _ _ rfl rfl rfl rfl ?_ | (refine gsplit (fun hg => ?_) (fun hg => ?_) <;> (try simp only [hbx] at hg) <;> simp (maxSteps := 9^9) (disch := (try simp only [lens]); omega) only [zJ, sm, ↓amb, zQ, simprocAttr, fl27_2, sz25, el25, fl27_1, sz24, el24, en56, zZ, g4, g10, dx, en54, en57]) | apply And.intro | (refine callK_h (c_ContainsEdge c x.edges (by omega)) [] [] (by first | rfl | (simp only [hm]; done)) (by first | rfl | (simp [namesOk, lkp]; done)) ?_ ?_ ?_ ?_ ?_ ?_ ?_; (iterate 6 (focus (first | trivial | (intro n hn; cases hn; done) | (simp (maxSteps := 9^9) (disch := (try simp only [lens]); omega) only [zJ, sm, ↓amb, zQ, simprocAttr, fl27_2, sz25, el25, fl27_1, sz24, el24, en56, zZ, g4, g10, dx, en54, en57, hmx, List.filter_cons, Nat.reduceBNe, imp_self, implies_true]; done)))); simp (maxSteps := 9^9) (disch := (try simp only [lens]); omega) only [zJ, sm, ↓amb, zQ, simprocAttr, fl27_2, sz25, el25, fl27_1, sz24, el24, en56, zZ, g4, g10, dx, en54, en57, hm, List.filter_cons, List.filter_nil, Nat.reduceBNe, Option.map_none]; (try simp (maxSteps := 9^9) (disch := (try simp only [lens]); omega) only [zJ, sm, ↓amb, zQ, simprocAttr, fl27_2, sz25, el25, fl27_1, sz24, el24, en56, zZ, g4, g10, dx, en54, en57])) | fail
    all_goals first | rfl | omega | exact (decide_eq_true (by omega)).symm | exact (decide_eq_false (by omega)).symm | exact decide_eq_decide.mpr (by omega) | (refine Bool.eq_iff_iff.mpr ?_; simp only [beq_iff_eq, bne_iff_ne, ne_eq, decide_eq_true_eq]; omega) | (refine Bool.eq_iff_iff.mpr ?_; simp only [Bool.not_eq_true', Bool.not_eq_false', decide_eq_false_iff_not, decide_eq_true_eq, beq_iff_eq, bne_iff_ne, ne_eq]; omega) | assumption | (simp; done) | (simp [maxLen]; omega) | skip
    all_goals first | rfl | (rw [decide_eq_false (by omega)]; done) | (refine Bool.eq_iff_iff.mpr ?_; simp only [Bool.not_eq_true', decide_eq_false_iff_not, Decidable.not_not, decide_eq_true_eq]; exact ⟨fun h => ⟨by omega, by omega, h⟩, fun h => h.2.2⟩) | (refine (decide_eq_false ?_).symm; rintro ⟨q1, q2, _⟩; omega)
   simp only [kp, zJ, simprocAttr, List.length_cons, List.length_nil]
   refine yQ ?_
   refine ret1 rfl rfl ?_
   exact .p (LeP.of_eq (by rw [decide_eq_decide.mpr (Pl.br_1 (x := x) (.inr hk))]))
  ·try simp only [hbx] at hb
   refine zW (zV [1, 2, 6]) ?_
   simp only [kp, zJ, simprocAttr]
   have hk2 := hb
   refine zK [] (by rw [hC]; rfl) fun k hk => ?_
   simp (maxSteps := 9^9) (disch := (try simp only [lens]); omega) only [zJ, sm, ↓amb, zQ, simprocAttr, dx, en54, en57]
   repeat refine ⟨by first | omega | (simp; done) | (unfold maxLen; omega) | (simp [maxLen]; omega) | assumption, ?_⟩
   refine hk _ ?_; clear hk k
   refine zX rfl (fun hb => ?_) (fun hb => ?_)
   ·try simp only [hbx] at hb
    refine zW (zV [1]) ?_
    simp only [kp, zJ, simprocAttr]
    have hk := hb
    refine zK [] (by rw [hC]; rfl) fun k hk => ?_
    simp (maxSteps := 9^9) (disch := (try simp only [lens]); omega) only [zJ, sm, ↓amb, zQ, simprocAttr, dx, en54, en57]
    repeat refine ⟨by first | omega | (simp; done) | (unfold maxLen; omega) | (simp [maxLen]; omega) | assumption, ?_⟩
    refine hk _ ?_; clear hk k
    refine xQ [] 2 (decide (x.edges.length = 0 ∧ x.asks.length ≤ 60 ∧ ∀ a ∈ x.asks, Pl.okAsk a)) [] (by rw [hC]; rfl) (fun gd hgd k hk => ?_) ?_
    ·have g4 : gd 4 = some 33 := by rw [hgd]; rfl
     have g10 : gd 10 = some 39 := by rw [hgd]; rfl
     clear hgd
     simp (maxSteps := 9^9) (disch := (try simp only [lens]); omega) only [zJ, sm, ↓amb, zQ, simprocAttr, fl27_1, sz24, el24, fl27_2, sz25, el25, en59, zZ, g4, g10, dx, en54, en57]
     repeat' first | refine hk _ _ rfl rfl rfl rfl ?_ | (refine gsplit (fun hg => ?_) (fun hg => ?_) <;> (try simp only [hbx] at hg) <;> simp (maxSteps := 9^9) (disch := (try simp only [lens]); omega) only [zJ, sm, ↓amb, zQ, simprocAttr, fl27_1, sz24, el24, fl27_2, sz25, el25, en59, zZ, g4, g10, dx, en54, en57]) | apply And.intro | (refine callK_h (c_ContainsAsk d x.asks (by omega)) [] [] (by first | rfl | (simp only [hm]; done)) (by first | rfl | (simp [namesOk, lkp]; done)) ?_ ?_ ?_ ?_ ?_ ?_ ?_; (iterate 6 (focus (first | trivial | (intro n hn; cases hn; done) | (simp (maxSteps := 9^9) (disch := (try simp only [lens]); omega) only [zJ, sm, ↓amb, zQ, simprocAttr, fl27_1, sz24, el24, fl27_2, sz25, el25, en59, zZ, g4, g10, dx, en54, en57, hmx, List.filter_cons, Nat.reduceBNe, imp_self, implies_true]; done)))); simp (maxSteps := 9^9) (disch := (try simp only [lens]); omega) only [zJ, sm, ↓amb, zQ, simprocAttr, fl27_1, sz24, el24, fl27_2, sz25, el25, en59, zZ, g4, g10, dx, en54, en57, hm, List.filter_cons, List.filter_nil, Nat.reduceBNe, Option.map_none]; (try simp (maxSteps := 9^9) (disch := (try simp only [lens]); omega) only [zJ, sm, ↓amb, zQ, simprocAttr, fl27_1, sz24, el24, fl27_2, sz25, el25, en59, zZ, g4, g10, dx, en54, en57])) | fail
     all_goals first | rfl | omega | exact (decide_eq_true (by omega)).symm | exact (decide_eq_false (by omega)).symm | exact decide_eq_decide.mpr (by omega) | (refine Bool.eq_iff_iff.mpr ?_; simp only [beq_iff_eq, bne_iff_ne, ne_eq, decide_eq_true_eq]; omega) | (refine Bool.eq_iff_iff.mpr ?_; simp only [Bool.not_eq_true', Bool.not_eq_false', decide_eq_false_iff_not, decide_eq_true_eq, beq_iff_eq, bne_iff_ne, ne_eq]; omega) | assumption | (simp; done) | (simp [maxLen]; omega) | skip
     all_goals first | rfl | (rw [decide_eq_false (by omega)]; done) | (refine Bool.eq_iff_iff.mpr ?_; simp only [Bool.not_eq_true', decide_eq_false_iff_not, Decidable.not_not, decide_eq_true_eq]; exact ⟨fun h => ⟨by omega, by omega, h⟩, fun h => h.2.2⟩) | (refine (decide_eq_false ?_).symm; rintro ⟨q1, q2, _⟩; omega)
    simp only [kp, zJ, simprocAttr, List.length_cons, List.length_nil]
    refine yQ ?_
    refine ret1 rfl rfl ?_
    exact .p (LeP.of_eq (by rw [decide_eq_decide.mpr (Pl.br_3 (x := x) hk)]))
   ·try simp only [hbx] at hb
    refine yJ ?_
    refine h1 _ ?_; clear h1 k1
    refine zW (zV []) ?_
    simp only [kp, zJ, simprocAttr]
    have hk3 := hb
    refine zK [] (by rw [hC]; rfl) fun k hk => ?_
    simp (maxSteps := 9^9) (disch := (try simp only [lens]); omega) only [zJ, sm, ↓amb, zQ, simprocAttr, dx, en54, en57]
    repeat refine ⟨by first | omega | (simp; done) | (unfold maxLen; omega) | (simp [maxLen]; omega) | assumption, ?_⟩
    refine hk _ ?_; clear hk k
    refine yQ ?_
    refine ret1 rfl rfl ?_
    exact .p (LeP.of_eq (by rw [decide_eq_false (Pl.br_no (x := x) hk1 hk2 hk3)]))
end Go.Proofs.Ytjkkjiaeeobnkaa
end
section
set_option linter.unusedSimpArgs false
set_option linter.unusedVariables false
set_option maxRecDepth 100000
namespace Go.Proofs.Ytjkkjiaeeobnkaa
open Go.Am Go.Proofs
theorem bt27 : tBuilt Try.prog 27 = true := by kernel_rfl
theorem bt45 : tBuilt Try.prog 45 = true := by kernel_rfl
theorem bt47 : tBuilt Try.prog 47 = true := by kernel_rfl
theorem bt51 : tBuilt Try.prog 51 = true := by kernel_rfl
theorem bt53 : tBuilt Try.prog 53 = true := by kernel_rfl
theorem bt93 : tBuilt Try.prog 93 = true := by kernel_rfl
theorem el31 : tEl Try.prog 31 = some 27 := by kernel_rfl
theorem en24 : enters Try.prog 24 = true := by kernel_rfl
theorem en32 : enters Try.prog 32 = true := by kernel_rfl
theorem en34 : enters Try.prog 34 = true := by kernel_rfl
theorem en36 : enters Try.prog 36 = true := by kernel_rfl
theorem en38 : enters Try.prog 38 = true := by kernel_rfl
theorem pl27_0 : tPlace Try.prog 27 0 = some (0, 1) := by kernel_rfl
theorem pl27_1 : tPlace Try.prog 27 1 = some (1, 1) := by kernel_rfl
theorem pl27_2 : tPlace Try.prog 27 2 = some (2, 1) := by kernel_rfl
theorem pl45_0 : tPlace Try.prog 45 0 = some (0, 1) := by kernel_rfl
theorem pl47_0 : tPlace Try.prog 47 0 = some (0, 1) := by kernel_rfl
theorem pl47_1 : tPlace Try.prog 47 1 = some (1, 1) := by kernel_rfl
theorem pl51_0 : tPlace Try.prog 51 0 = some (0, 1) := by kernel_rfl
theorem pl51_1 : tPlace Try.prog 51 1 = some (1, 1) := by kernel_rfl
theorem pl51_2 : tPlace Try.prog 51 2 = some (2, 1) := by kernel_rfl
theorem pl53_0 : tPlace Try.prog 53 0 = some (0, 1) := by kernel_rfl
theorem pl53_1 : tPlace Try.prog 53 1 = some (1, 1) := by kernel_rfl
theorem pl53_2 : tPlace Try.prog 53 2 = some (2, 3) := by kernel_rfl
theorem pl93_0 : tPlace Try.prog 93 0 = some (0, 1) := by kernel_rfl
theorem pl93_1 : tPlace Try.prog 93 1 = some (1, 1) := by kernel_rfl
theorem sz27 : tSz Try.prog 27 = some (true, 3) := by kernel_rfl
theorem vr27 : tVar Try.prog 27 = some (true, [.lit (.int .i64 0), .seq true [], .seq true []]) := by kernel_rfl
theorem vr47 : tVar Try.prog 47 = some (true, [.lit (.int .i64 0), .lit (.int .i64 0)]) := by kernel_rfl
theorem vr51 : tVar Try.prog 51 = some (true, [.lit (.int .i64 0), .lit (.int .i64 0), .seq true []]) := by kernel_rfl
theorem vr53 : tVar Try.prog 53 = some (true, [.lit (.int .i64 0), .lit (.int .i64 0), .lit (.int .i64 0), .lit (.int .i64 0), .seq true []]) := by kernel_rfl
set_option maxHeartbeats 4000000 in
theorem c_bound_Batch (c d e : Bool) (x : Pl.Batch) (w : Pl.Way) : PCall Try.prog 36 [.agg (batchC c d x), .agg (wayC e w)] (iV (Pl.baB x w)) := by
 refine yV Try.func36 rfl (by simp [Try.ntmps36]) fun C hC => ?_
 refine zW (zV [0, 1]) ?_
 simp only [kp, zJ, simprocAttr]
 refine zK [] (by rw [hC]; rfl) fun k hk => ?_
 simp (maxSteps := 9^9) (disch := (try simp only [lens]); omega) only [zJ, sm, ↓amb, zQ, simprocAttr, dx]
 repeat refine ⟨by first | omega | (simp; done) | (unfold maxLen; omega) | (simp [maxLen]; omega) | assumption, ?_⟩
 refine hk _ ?_; clear hk k
 refine zY fun k1 h1 => ?_
 refine yK ?_
 refine zW (zV [2, 3, 4]) ?_
 simp only [kp, zJ, simprocAttr]
 refine zK [] (by rw [hC]; rfl) fun k hk => ?_
 simp (maxSteps := 9^9) (disch := (try simp only [lens]); omega) only [zJ, sm, ↓amb, zQ, simprocAttr, sz27, en24, dx]
 repeat refine ⟨by first | omega | (simp; done) | (unfold maxLen; omega) | (simp [maxLen]; omega) | assumption, ?_⟩
 refine yW (c_wire_Right _ _ _) rfl ?_
 simp (maxSteps := 9^9) (disch := (try simp only [lens]); omega) only [zJ, sm, ↓amb, zQ, simprocAttr, sz27, en24, dx]
 repeat refine ⟨by first | omega | (simp; done) | (unfold maxLen; omega) | (simp [maxLen]; omega) | assumption, ?_⟩
 refine hk _ ?_; clear hk k
 refine zX rfl (fun hb => ?_) (fun hb => ?_)
 ·try simp only [hbx] at hb
  refine zW (zV []) ?_
  simp only [kp, zJ, simprocAttr]
  refine zK [] (by rw [hC]; rfl) fun k hk => ?_
  simp (maxSteps := 9^9) (disch := (try simp only [lens]); omega) only [zJ, sm, ↓amb, zQ, simprocAttr, dx]
  repeat refine ⟨by first | omega | (simp; done) | (unfold maxLen; omega) | (simp [maxLen]; omega) | assumption, ?_⟩
  refine hk _ ?_; clear hk k
  refine yQ ?_
  rw [show Pl.baB x w = 0 from if_pos hb]
  refine ret1 rfl rfl ?_
  exact .p (LeP.refl _)
 ·try simp only [hbx] at hb
  refine zW (zV [2, 3, 4]) ?_
  simp only [kp, zJ, simprocAttr]
  have hr := hb
  refine zK [] (by rw [hC]; rfl) fun k hk => ?_
  simp (maxSteps := 9^9) (disch := (try simp only [lens]); omega) only [zJ, sm, ↓amb, zQ, simprocAttr, fl27_0, sz3, dx]
  repeat refine ⟨by first | omega | (simp; done) | (unfold maxLen; omega) | (simp [maxLen]; omega) | assumption, ?_⟩
  refine hk _ ?_; clear hk k
  refine zX rfl (fun hb => ?_) (fun hb => ?_)
  ·try simp only [hbx] at hb
   refine zW (zV [2, 3]) ?_
   simp only [kp, zJ, simprocAttr]
   refine zK [] (by rw [hC]; rfl) fun k hk => ?_
   simp (maxSteps := 9^9) (disch := (try simp only [lens]); omega) only [zJ, sm, ↓amb, zQ, simprocAttr, fl27_2, sz25, el25, fl53_2, sz51, en28, dx]
   repeat refine ⟨by first | omega | (simp; done) | (unfold maxLen; omega) | (simp [maxLen]; omega) | assumption, ?_⟩
   refine yW (c_bound_Phase _ _ w.plan) rfl ?_
   simp (maxSteps := 9^9) (disch := (try simp only [lens]); omega) only [zJ, sm, ↓amb, zQ, simprocAttr, fl27_2, sz25, el25, fl53_2, sz51, en28, dx]
   repeat refine ⟨by first | omega | (simp; done) | (unfold maxLen; omega) | (simp [maxLen]; omega) | assumption, ?_⟩
   refine hk _ ?_; clear hk k
   refine yQ ?_
   rw [show Pl.baB x w = _ from (if_neg (fun q => q hr)).trans (if_pos hb)]
   refine ret1 rfl rfl ?_
   exact .p (LeP.refl _)
  ·try simp only [hbx] at hb
   refine zW (zV [2, 3, 4]) ?_
   simp only [kp, zJ, simprocAttr]
   have hk := hb
   refine zK [] (by rw [hC]; rfl) fun k hk => ?_
   simp (maxSteps := 9^9) (disch := (try simp only [lens]); omega) only [zJ, sm, ↓amb, zQ, simprocAttr, sz53, en32, dx]
   repeat refine ⟨by first | omega | (simp; done) | (unfold maxLen; omega) | (simp [maxLen]; omega) | assumption, ?_⟩
   refine yW (c_bound_Sort _ _ w) rfl ?_
   simp (maxSteps := 9^9) (disch := (try simp only [lens]); omega) only [zJ, sm, ↓amb, zQ, simprocAttr, sz53, en32, dx]
   repeat refine ⟨by first | omega | (simp; done) | (unfold maxLen; omega) | (simp [maxLen]; omega) | assumption, ?_⟩
   refine hk _ ?_; clear hk k
   refine zX rfl (fun hb => ?_) (fun hb => ?_)
   ·try simp only [hbx] at hb
    refine zW (zV []) ?_
    simp only [kp, zJ, simprocAttr]
    refine zK [] (by rw [hC]; rfl) fun k hk => ?_
    simp (maxSteps := 9^9) (disch := (try simp only [lens]); omega) only [zJ, sm, ↓amb, zQ, simprocAttr, dx]
    repeat refine ⟨by first | omega | (simp; done) | (unfold maxLen; omega) | (simp [maxLen]; omega) | assumption, ?_⟩
    refine hk _ ?_; clear hk k
    refine yQ ?_
    rw [show Pl.baB x w = _ from (if_neg (fun q => q hr)).trans ((if_neg hk).trans (if_pos hb))]
    refine ret1 rfl rfl ?_
    exact .p (LeP.refl _)
   ·try simp only [hbx] at hb
    refine yJ ?_
    refine h1 _ ?_; clear h1 k1
    refine zW (zV [2, 3]) ?_
    simp only [kp, zJ, simprocAttr]
    have hs := hb
    have q1 := Pl.soB_nn x.edges.length w
    have q2 := Pl.phB_nn x.edges.length w.plan
    refine awp_sd [] ⟨[0, 1, 3, 0, 15, 0, 32, 96, 0, 256, 1023, 2047, 4095], [1, 2, 3, 6, 7, 9], [], [], some []⟩ (by rw [hC]; rfl) (by kernel_rfl) (by kernel_rfl) fun k hk => ?_
    simp (maxSteps := 9^9) (disch := (try simp only [lens]); omega) only [zJ, sm, ↓amb, zQ, simprocAttr, fl27_1, sz24, el24, sz53, en32, fl53_2, sz51, en28, dx]
    repeat refine ⟨by first | omega | (simp; done) | (unfold maxLen; omega) | (simp [maxLen]; omega) | assumption, ?_⟩
    refine yW (c_bound_Sort _ _ w) rfl ?_
    simp (maxSteps := 9^9) (disch := (try simp only [lens]); omega) only [zJ, sm, ↓amb, zQ, simprocAttr, fl27_1, sz24, el24, sz53, en32, fl53_2, sz51, en28, dx]
    repeat refine ⟨by first | omega | (simp; done) | (unfold maxLen; omega) | (simp [maxLen]; omega) | assumption, ?_⟩
    refine yW (c_bound_Phase _ _ w.plan) rfl ?_
    simp (maxSteps := 9^9) (disch := (try simp only [lens]); omega) only [zJ, sm, ↓amb, zQ, simprocAttr, fl27_1, sz24, el24, sz53, en32, fl53_2, sz51, en28, dx]
    repeat refine ⟨by first | omega | (simp; done) | (unfold maxLen; omega) | (simp [maxLen]; omega) | assumption, ?_⟩
    refine hk _ ?_; clear hk k
    refine yQ ?_
    rw [show Pl.baB x w = _ from (if_neg (fun q => q hr)).trans ((if_neg hk).trans (if_neg hs))]
    refine ret1 rfl rfl ?_
    exact .p (LeP.refl _)
set_option maxHeartbeats 4000000 in
theorem c_bound_Stream (c d e g : Bool) (l : List Pl.Batch) (w : Pl.Way) (hl : l.length ≤ 1000) : PCall Try.prog 38 [.seq c (l.map (batchC d e)), .agg (wayC g w)] (iV (Pl.stB l w)) := by
 refine yV Try.func38 rfl (by simp [Try.ntmps38]) fun C hC => ?_
 refine zW (zV [0, 1]) ?_
 simp only [kp, zJ, simprocAttr]
 refine zK [] (by rw [hC]; rfl) fun k hk => ?_
 simp (maxSteps := 9^9) (disch := (try simp only [lens]); omega) only [zJ, sm, ↓amb, zQ, simprocAttr, dx]
 repeat refine ⟨by first | omega | (simp; done) | (unfold maxLen; omega) | (simp [maxLen]; omega) | assumption, ?_⟩
 refine hk _ ?_; clear hk k
 refine zY fun k1 h1 => ?_
 refine zW (zV [0, 3, 4]) ?_
 simp only [kp, zJ, simprocAttr]
 refine zK [] (by rw [hC]; rfl) fun k hk => ?_
 simp (maxSteps := 9^9) (disch := (try simp only [lens]); omega) only [zJ, sm, ↓amb, zQ, simprocAttr, el31, dx]
 repeat refine ⟨by first | omega | (simp; done) | (unfold maxLen; omega) | (simp [maxLen]; omega) | assumption, ?_⟩
 refine hk _ ?_; clear hk k
 refine yK ?_
 refine yY (σ := Nat) (fun i => i ≤ l.length) (fun (i : Nat) => ⟨[(3, (.ptr 0 5 0 0)), (4, (.p (iV (Pl.stB (l.take i) w)))), (7, (.p (.seq c (l.map (batchC d e))))), (8, (.p (iV l.length))), (9, (.p (iV i)))], [(0, (.row 5 [[.p (iV w.bits), .p (iV w.block), .p (iV w.plan.grain), .p (iV w.plan.workers), .p (.seq g (w.plan.picks.map fun q => [iV q.1, iV q.2]))]]))], 1⟩) (fun i => l.length - i) 0 ?_ ?_ fun i hi => ?_
 ·exact Nat.zero_le _
 ·exact le_of [(0, _)] (by rfl) (by rfl) ⟨⟨_, rfl, .ptr rfl⟩, ⟨_, rfl, .p (.of_eq (by first | rfl | (simp only [PV.lit.injEq, Value.int.injEq, true_and]; omega)))⟩, ⟨_, rfl, .p (.of_eq (by first | rfl | (simp only [PV.lit.injEq, Value.int.injEq, true_and]; omega) | (simp; done) | (simp; omega)))⟩, ⟨_, rfl, .p (.of_eq (by first | rfl | (simp only [PV.lit.injEq, Value.int.injEq, true_and]; omega) | (simp; done) | (simp; omega)))⟩, ⟨_, rfl, .p (.of_eq (by first | rfl | (simp only [PV.lit.injEq, Value.int.injEq, true_and]; omega) | (simp; done) | (simp; omega)))⟩, trivial⟩ ⟨⟨_, rfl, _, rfl, .one (.cons (.p (.refl _)) (.cons (.p (.refl _)) (.cons (.p (.refl _)) (.cons (.p (.refl _)) (.cons (.p (.refl _)) (.nil))))))⟩, trivial⟩
 refine zW (zV [0, 3, 4, 7, 8, 9]) ?_
 simp only [kp, zJ, simprocAttr]
 refine zK [] (by rw [hC]; rfl) fun k hk => ?_
 simp (maxSteps := 9^9) (disch := (try simp only [lens]); omega) only [zJ, sm, ↓amb, zQ, simprocAttr, dx]
 repeat refine ⟨by first | omega | (simp; done) | (unfold maxLen; omega) | (simp [maxLen]; omega) | assumption, ?_⟩
 refine hk _ ?_; clear hk k
 refine zY fun k3 h3 => ?_
 refine zX rfl (fun hb => ?_) (fun hb => ?_)
 ·try simp only [hbx] at hb
  refine yJ ?_
  refine h3 _ ?_; clear h3 k3
  refine zY fun k4 h4 => ?_
  refine yK ?_
  refine zW (zV [0, 3, 4, 7, 8, 9]) ?_
  simp only [kp, zJ, simprocAttr]
  refine zK [] (by rw [hC]; rfl) fun k hk => ?_
  simp (maxSteps := 9^9) (disch := (try simp only [lens]); omega) only [zJ, sm, ↓amb, zQ, simprocAttr, el31, sz27, vr27, dx]
  repeat refine ⟨by first | omega | (simp; done) | (unfold maxLen; omega) | (simp [maxLen]; omega) | assumption, ?_⟩
  refine hk _ ?_; clear hk k
  have q1 := Pl.baB_nn (l.getD i default) w
  have q2 := Pl.stB_nn w (l.take i)
  have q3 := Pl.stB_take l w i (by omega)
  have q4 : (l.take i).length ≤ 1000 := by rw [List.length_take]; omega
  refine yZ [] (by rw [hC]; rfl) fun k hk => ?_
  simp (maxSteps := 9^9) (disch := (try simp only [lens]); omega) only [zJ, sm, ↓amb, zQ, simprocAttr, sz27, sz53, en36, dx]
  repeat refine ⟨by first | omega | (simp; done) | (unfold maxLen; omega) | (simp [maxLen]; omega) | assumption, ?_⟩
  refine yW (c_bound_Batch d e g _ w) rfl ?_
  simp (maxSteps := 9^9) (disch := (try simp only [lens]); omega) only [zJ, sm, ↓amb, zQ, simprocAttr, sz27, sz53, en36, dx]
  repeat refine ⟨by first | omega | (simp; done) | (unfold maxLen; omega) | (simp [maxLen]; omega) | assumption, ?_⟩
  refine hk _ ?_; clear hk k
  refine h4 _ ?_; clear h4 k4
  refine yZ [] (by rw [hC]; rfl) fun k hk => ?_
  simp (maxSteps := 9^9) (disch := (try simp only [lens]); omega) only [zJ, sm, ↓amb, zQ, simprocAttr, dx]
  repeat refine ⟨by first | omega | (simp; done) | (unfold maxLen; omega) | (simp [maxLen]; omega) | assumption, ?_⟩
  refine hk _ ?_; clear hk k
  refine ⟨i + 1, by omega, le_of [(0, _)] (by rfl) (by rfl) ⟨⟨_, rfl, .ptr rfl⟩, ⟨_, rfl, .p (.of_eq (by first | rfl | (simp only [PV.lit.injEq, Value.int.injEq, true_and]; omega)))⟩, ⟨_, rfl, .p (.of_eq (by first | rfl | (simp only [PV.lit.injEq, Value.int.injEq, true_and]; omega) | (simp; done) | (simp; omega)))⟩, ⟨_, rfl, .p (.of_eq (by first | rfl | (simp only [PV.lit.injEq, Value.int.injEq, true_and]; omega) | (simp; done) | (simp; omega)))⟩, ⟨_, rfl, .p (.of_eq (by first | rfl | (simp only [PV.lit.injEq, Value.int.injEq, true_and]; omega) | (simp; done) | (simp; omega)))⟩, trivial⟩ ⟨⟨_, rfl, _, rfl, .one (.cons (.p (.refl _)) (.cons (.p (.refl _)) (.cons (.p (.refl _)) (.cons (.p (.refl _)) (.cons (.p (.refl _)) (.nil))))))⟩, trivial⟩, by omega⟩
 ·try simp only [hbx] at hb
  refine yX ((if_pos rfl).mpr ?_)
  refine h1 _ ?_; clear h3 k3; clear h1 k1
  refine zW (zV [4]) ?_
  simp only [kp, zJ, simprocAttr]
  have htk : l.take i = l := List.take_of_length_le (by omega)
  rw [htk]
  refine zK [] (by rw [hC]; rfl) fun k hk => ?_
  simp (maxSteps := 9^9) (disch := (try simp only [lens]); omega) only [zJ, sm, ↓amb, zQ, simprocAttr, dx]
  repeat refine ⟨by first | omega | (simp; done) | (unfold maxLen; omega) | (simp [maxLen]; omega) | assumption, ?_⟩
  refine hk _ ?_; clear hk k
  refine yQ ?_
  refine ret1 rfl rfl ?_
  exact .p (LeP.refl _)
set_option maxHeartbeats 4000000 in
theorem c_law31_alive : PCall Try.prog 27 [] (bV true) := by
 refine yV Try.func27 rfl (by simp [Try.ntmps27]) fun C hC => ?_
 have a1 := c_bound_Phase true 3 (⟨1, 2, []⟩ : Pl.Plan)
 rw [show Pl.phB 3 (⟨1, 2, []⟩ : Pl.Plan) = 12 by decide +kernel] at a1
 have a2 := c_bound_Least true 3 (⟨1, 2, []⟩ : Pl.Plan)
 rw [show Pl.leB 3 (⟨1, 2, []⟩ : Pl.Plan) = 5 by decide +kernel] at a2
 have a3 := c_bound_Scan true 3 2 (⟨1, 2, []⟩ : Pl.Plan)
 rw [show Pl.scB 3 2 (⟨1, 2, []⟩ : Pl.Plan) = 16 by decide +kernel] at a3
 have a4 := c_bound_Sort true 3 (⟨8, 2, (⟨1, 2, []⟩ : Pl.Plan)⟩ : Pl.Way)
 rw [show Pl.soB 3 (⟨8, 2, (⟨1, 2, []⟩ : Pl.Plan)⟩ : Pl.Way) = 92 by decide +kernel] at a4
 have a5 := c_bound_Batch true true true (⟨1, [⟨1, 0⟩, ⟨0, 2⟩, ⟨1, 2⟩], []⟩ : Pl.Batch) (⟨8, 2, (⟨1, 2, []⟩ : Pl.Plan)⟩ : Pl.Way)
 rw [show Pl.baB (⟨1, [⟨1, 0⟩, ⟨0, 2⟩, ⟨1, 2⟩], []⟩ : Pl.Batch) (⟨8, 2, (⟨1, 2, []⟩ : Pl.Plan)⟩ : Pl.Way) = 104 by decide +kernel] at a5
 have a6 := c_bound_Batch true true true (⟨3, [], [⟨4, 0, 0⟩]⟩ : Pl.Batch) (⟨8, 2, (⟨1, 2, []⟩ : Pl.Plan)⟩ : Pl.Way)
 rw [show Pl.baB (⟨3, [], [⟨4, 0, 0⟩]⟩ : Pl.Batch) (⟨8, 2, (⟨1, 2, []⟩ : Pl.Plan)⟩ : Pl.Way) = 4 by decide +kernel] at a6
 have a7 := c_bound_Stream true true true true [(⟨1, [⟨1, 0⟩, ⟨0, 2⟩, ⟨1, 2⟩], []⟩ : Pl.Batch), (⟨3, [], [⟨4, 0, 0⟩]⟩ : Pl.Batch), (⟨7, [], []⟩ : Pl.Batch)] (⟨8, 2, (⟨1, 2, []⟩ : Pl.Plan)⟩ : Pl.Way) (by decide)
 rw [show Pl.stB [(⟨1, [⟨1, 0⟩, ⟨0, 2⟩, ⟨1, 2⟩], []⟩ : Pl.Batch), (⟨3, [], [⟨4, 0, 0⟩]⟩ : Pl.Batch), (⟨7, [], []⟩ : Pl.Batch)] (⟨8, 2, (⟨1, 2, []⟩ : Pl.Plan)⟩ : Pl.Way) = 108 by decide +kernel] at a7
 have a8 := c_bound_Phase true 1001 (⟨1, 2, []⟩ : Pl.Plan)
 rw [show Pl.phB 1001 (⟨1, 2, []⟩ : Pl.Plan) = 0 by decide +kernel] at a8
 have a9 := c_bound_Scan true 3 0 (⟨1, 2, []⟩ : Pl.Plan)
 rw [show Pl.scB 3 0 (⟨1, 2, []⟩ : Pl.Plan) = 0 by decide +kernel] at a9
 have a10 := c_bound_Sort true 3 ⟨17, 2, (⟨1, 2, []⟩ : Pl.Plan)⟩
 rw [show Pl.soB 3 ⟨17, 2, (⟨1, 2, []⟩ : Pl.Plan)⟩ = 0 by decide +kernel] at a10
 have a11 := c_bound_Phase true 2 ⟨1, 3, [(1, 1)]⟩
 rw [show Pl.phB 2 ⟨1, 3, [(1, 1)]⟩ = 13 by decide +kernel] at a11
 refine zK [] (by rw [hC]; rfl) fun k hk => ?_
 simp (maxSteps := 9^9) (disch := (try simp only [lens]); omega) only [zJ, sm, ↓amb, zQ, simprocAttr, dx]
 repeat refine ⟨by first | omega | (simp; done) | (unfold maxLen; omega) | (simp [maxLen]; omega) | assumption, ?_⟩
 refine hk _ ?_; clear hk k
 refine zK [] (by rw [hC]; rfl) fun k hk => ?_
 simp (maxSteps := 9^9) (disch := (try simp only [lens]); omega) only [zJ, sm, ↓amb, zQ, simprocAttr, vr51, bt51, pl51_0, pl51_1, sz51, dx]
 repeat refine ⟨by first | omega | (simp; done) | (unfold maxLen; omega) | (simp [maxLen]; omega) | assumption, ?_⟩
 refine hk _ ?_; clear hk k
 refine zK [] (by rw [hC]; rfl) fun k hk => ?_
 simp (maxSteps := 9^9) (disch := (try simp only [lens]); omega) only [zJ, sm, ↓amb, zQ, simprocAttr, sz51, vr53, bt53, pl53_0, pl53_1, pl53_2, sz53, dx]
 repeat refine ⟨by first | omega | (simp; done) | (unfold maxLen; omega) | (simp [maxLen]; omega) | assumption, ?_⟩
 refine hk _ ?_; clear hk k
 refine zK [] (by rw [hC]; rfl) fun k hk => ?_
 simp (maxSteps := 9^9) (disch := (try simp only [lens]); omega) only [zJ, sm, ↓amb, zQ, simprocAttr, vr47, bt47, pl47_0, pl47_1, el24, vr27, bt27, pl27_0, pl27_1, vr45, bt45, pl45_0, el25, pl27_2, el31, dx]
 repeat refine ⟨by first | omega | (simp; done) | (unfold maxLen; omega) | (simp [maxLen]; omega) | assumption, ?_⟩
 refine hk _ ?_; clear hk k
 refine awp_sdg [] ⟨[0, 1, 3, 7, 15, 31, 63, 127, 255, 511, 1023, 2047, 4095, 8191, 16383, 32767, 65535, 131071, 262143, 524287, 1048575, 2097151, 524287, 8388607, 16777215, 33554431, 67108863, 134217727, 268435455, 536870911, 134217727, 2147483647, 4294967295, 8589934591, 17179869183, 34359738367, 34359738367, 137438953471, 274877906943, 549755813887, 1099511627775, 2199023255551, 4398046511103, 8796093022207, 17592186044415, 35184372088831, 70368744177663, 140737488355327, 281474976710655, 562949953421311, 1125899906842623, 2251799813685247, 4503599627370495, 9007199254740991, 18014398509481983, 36028797018963967, 72057594037927935, 144115188075855871, 288230376151711743, 576460752303423487, 1152921504606846975, 2305843009213693951, 4611686018427387903, 9223372036854775807], [0, 4, 9, 14, 21, 22, 29, 30, 36, 41, 46, 51], [], [(1, 4), (1, 9), (5, 9), (1, 14), (5, 14), (10, 14), (1, 21), (5, 21), (10, 21), (15, 21), (1, 22), (5, 22), (10, 22), (15, 22), (1, 29), (5, 29), (10, 29), (15, 29), (23, 29), (1, 30), (5, 30), (10, 30), (15, 30), (23, 30), (1, 36), (5, 36), (10, 36), (15, 36), (23, 36), (31, 36), (1, 41), (5, 41), (10, 41), (15, 41), (23, 41), (31, 41), (37, 41), (1, 46), (5, 46), (10, 46), (15, 46), (23, 46), (31, 46), (37, 46), (42, 46), (1, 51), (5, 51), (10, 51), (15, 51), (23, 51), (31, 51), (37, 51), (42, 51), (47, 51)], some []⟩ (by rw [hC]; rfl) (by kernel_rfl) (by kernel_rfl) fun gd hgd k hk => ?_
 have g3 : gd 3 = some 20 := by rw [hgd]; rfl
 have g8 : gd 8 = some 25 := by rw [hgd]; rfl
 have g13 : gd 13 = some 30 := by rw [hgd]; rfl
 have g18 : gd 18 = some 35 := by rw [hgd]; rfl
 have g26 : gd 26 = some 43 := by rw [hgd]; rfl
 have g34 : gd 34 = some 51 := by rw [hgd]; rfl
 have g40 : gd 40 = some 57 := by rw [hgd]; rfl
 have g45 : gd 45 = some 62 := by rw [hgd]; rfl
 have g50 : gd 50 = some 67 := by rw [hgd]; rfl
 have g56 : gd 56 = some 73 := by rw [hgd]; rfl
 clear hgd
 simp (maxSteps := 9^9) (disch := (try simp only [lens]); omega) only [zJ, sm, ↓amb, zQ, simprocAttr, sz51, en28, en34, en30, sz53, en32, el31, sz27, en36, en38, vr53, bt53, pl53_0, pl53_1, pl53_2, vr93, bt93, pl93_0, pl93_1, el49, vr51, bt51, pl51_0, pl51_1, pl51_2, g3, g8, g13, g18, g26, g34, g40, g45, g50, g56, dx]
 repeat refine ⟨by first | omega | (simp; done) | (unfold maxLen; omega) | (simp [maxLen]; omega) | assumption, ?_⟩
 refine yW (a1) rfl ?_
 simp (maxSteps := 9^9) (disch := (try simp only [lens]); omega) only [zJ, sm, ↓amb, zQ, simprocAttr, sz51, en28, en34, en30, sz53, en32, el31, sz27, en36, en38, vr53, bt53, pl53_0, pl53_1, pl53_2, vr93, bt93, pl93_0, pl93_1, el49, vr51, bt51, pl51_0, pl51_1, pl51_2, g3, g8, g13, g18, g26, g34, g40, g45, g50, g56, dx]
 repeat refine ⟨by first | omega | (simp; done) | (unfold maxLen; omega) | (simp [maxLen]; omega) | assumption, ?_⟩
 refine yW (a2) rfl ?_
 simp (maxSteps := 9^9) (disch := (try simp only [lens]); omega) only [zJ, sm, ↓amb, zQ, simprocAttr, sz51, en28, en34, en30, sz53, en32, el31, sz27, en36, en38, vr53, bt53, pl53_0, pl53_1, pl53_2, vr93, bt93, pl93_0, pl93_1, el49, vr51, bt51, pl51_0, pl51_1, pl51_2, g3, g8, g13, g18, g26, g34, g40, g45, g50, g56, dx]
 repeat refine ⟨by first | omega | (simp; done) | (unfold maxLen; omega) | (simp [maxLen]; omega) | assumption, ?_⟩
 refine yW (a3) rfl ?_
 simp (maxSteps := 9^9) (disch := (try simp only [lens]); omega) only [zJ, sm, ↓amb, zQ, simprocAttr, sz51, en28, en34, en30, sz53, en32, el31, sz27, en36, en38, vr53, bt53, pl53_0, pl53_1, pl53_2, vr93, bt93, pl93_0, pl93_1, el49, vr51, bt51, pl51_0, pl51_1, pl51_2, g3, g8, g13, g18, g26, g34, g40, g45, g50, g56, dx]
 repeat refine ⟨by first | omega | (simp; done) | (unfold maxLen; omega) | (simp [maxLen]; omega) | assumption, ?_⟩
 refine yW (a4) rfl ?_
 simp (maxSteps := 9^9) (disch := (try simp only [lens]); omega) only [zJ, sm, ↓amb, zQ, simprocAttr, sz51, en28, en34, en30, sz53, en32, el31, sz27, en36, en38, vr53, bt53, pl53_0, pl53_1, pl53_2, vr93, bt93, pl93_0, pl93_1, el49, vr51, bt51, pl51_0, pl51_1, pl51_2, g3, g8, g13, g18, g26, g34, g40, g45, g50, g56, dx]
 repeat refine ⟨by first | omega | (simp; done) | (unfold maxLen; omega) | (simp [maxLen]; omega) | assumption, ?_⟩
 refine yW (a5) rfl ?_
 simp (maxSteps := 9^9) (disch := (try simp only [lens]); omega) only [zJ, sm, ↓amb, zQ, simprocAttr, sz51, en28, en34, en30, sz53, en32, el31, sz27, en36, en38, vr53, bt53, pl53_0, pl53_1, pl53_2, vr93, bt93, pl93_0, pl93_1, el49, vr51, bt51, pl51_0, pl51_1, pl51_2, g3, g8, g13, g18, g26, g34, g40, g45, g50, g56, dx]
 repeat refine ⟨by first | omega | (simp; done) | (unfold maxLen; omega) | (simp [maxLen]; omega) | assumption, ?_⟩
 refine yW (a6) rfl ?_
 simp (maxSteps := 9^9) (disch := (try simp only [lens]); omega) only [zJ, sm, ↓amb, zQ, simprocAttr, sz51, en28, en34, en30, sz53, en32, el31, sz27, en36, en38, vr53, bt53, pl53_0, pl53_1, pl53_2, vr93, bt93, pl93_0, pl93_1, el49, vr51, bt51, pl51_0, pl51_1, pl51_2, g3, g8, g13, g18, g26, g34, g40, g45, g50, g56, dx]
 repeat refine ⟨by first | omega | (simp; done) | (unfold maxLen; omega) | (simp [maxLen]; omega) | assumption, ?_⟩
 refine yW (a7) rfl ?_
 simp (maxSteps := 9^9) (disch := (try simp only [lens]); omega) only [zJ, sm, ↓amb, zQ, simprocAttr, sz51, en28, en34, en30, sz53, en32, el31, sz27, en36, en38, vr53, bt53, pl53_0, pl53_1, pl53_2, vr93, bt93, pl93_0, pl93_1, el49, vr51, bt51, pl51_0, pl51_1, pl51_2, g3, g8, g13, g18, g26, g34, g40, g45, g50, g56, dx]
 repeat refine ⟨by first | omega | (simp; done) | (unfold maxLen; omega) | (simp [maxLen]; omega) | assumption, ?_⟩
 refine yW (a8) rfl ?_
 simp (maxSteps := 9^9) (disch := (try simp only [lens]); omega) only [zJ, sm, ↓amb, zQ, simprocAttr, sz51, en28, en34, en30, sz53, en32, el31, sz27, en36, en38, vr53, bt53, pl53_0, pl53_1, pl53_2, vr93, bt93, pl93_0, pl93_1, el49, vr51, bt51, pl51_0, pl51_1, pl51_2, g3, g8, g13, g18, g26, g34, g40, g45, g50, g56, dx]
 repeat refine ⟨by first | omega | (simp; done) | (unfold maxLen; omega) | (simp [maxLen]; omega) | assumption, ?_⟩
 refine yW (a9) rfl ?_
 simp (maxSteps := 9^9) (disch := (try simp only [lens]); omega) only [zJ, sm, ↓amb, zQ, simprocAttr, sz51, en28, en34, en30, sz53, en32, el31, sz27, en36, en38, vr53, bt53, pl53_0, pl53_1, pl53_2, vr93, bt93, pl93_0, pl93_1, el49, vr51, bt51, pl51_0, pl51_1, pl51_2, g3, g8, g13, g18, g26, g34, g40, g45, g50, g56, dx]
 repeat refine ⟨by first | omega | (simp; done) | (unfold maxLen; omega) | (simp [maxLen]; omega) | assumption, ?_⟩
 refine yW (a10) rfl ?_
 simp (maxSteps := 9^9) (disch := (try simp only [lens]); omega) only [zJ, sm, ↓amb, zQ, simprocAttr, sz51, en28, en34, en30, sz53, en32, el31, sz27, en36, en38, vr53, bt53, pl53_0, pl53_1, pl53_2, vr93, bt93, pl93_0, pl93_1, el49, vr51, bt51, pl51_0, pl51_1, pl51_2, g3, g8, g13, g18, g26, g34, g40, g45, g50, g56, dx]
 repeat refine ⟨by first | omega | (simp; done) | (unfold maxLen; omega) | (simp [maxLen]; omega) | assumption, ?_⟩
 refine yW (a11) rfl ?_
 simp (maxSteps := 9^9) (disch := (try simp only [lens]); omega) only [zJ, sm, ↓amb, zQ, simprocAttr, sz51, en28, en34, en30, sz53, en32, el31, sz27, en36, en38, vr53, bt53, pl53_0, pl53_1, pl53_2, vr93, bt93, pl93_0, pl93_1, el49, vr51, bt51, pl51_0, pl51_1, pl51_2, g3, g8, g13, g18, g26, g34, g40, g45, g50, g56, dx]
 repeat refine ⟨by first | omega | (simp; done) | (unfold maxLen; omega) | (simp [maxLen]; omega) | assumption, ?_⟩
 refine hk _ ?_; clear hk k
 refine yQ ?_
 refine ret1 rfl rfl ?_
 exact .p (LeP.refl _)
end Go.Proofs.Ytjkkjiaeeobnkaa
end
section
set_option linter.unusedSimpArgs false
set_option linter.unusedVariables false
set_option maxRecDepth 100000
namespace Go.Proofs.Ytjkkjiaeeobnkaa
open Go.Am Go.Proofs
theorem en27 : enters Try.prog 27 = true := by kernel_rfl
theorem en43 : enters Try.prog 43 = true := by kernel_rfl
theorem en46 : enters Try.prog 46 = true := by kernel_rfl
set_option maxHeartbeats 4000000 in
theorem c_law31_steps (c : Bool) (n : Int) (p : Pl.Plan) : PCall Try.prog 46 [iV n, .agg (planC c p)] (iV (Pl.ordS n p)) := by
 refine yV Try.func46 rfl (by simp [Try.ntmps46]) fun C hC => ?_
 refine zW (zV [0, 1]) ?_
 simp only [kp, zJ, simprocAttr]
 refine zK [] (by rw [hC]; rfl) fun k hk => ?_
 simp (maxSteps := 9^9) (disch := (try simp only [lens]); omega) only [zJ, sm, ↓amb, zQ, simprocAttr, dx]
 repeat refine ⟨by first | omega | (simp; done) | (unfold maxLen; omega) | (simp [maxLen]; omega) | assumption, ?_⟩
 refine hk _ ?_; clear hk k
 refine zW (zV [0, 3]) ?_
 simp only [kp, zJ, simprocAttr]
 refine zK [] (by rw [hC]; rfl) fun k hk => ?_
 simp (maxSteps := 9^9) (disch := (try simp only [lens]); omega) only [zJ, sm, ↓amb, zQ, simprocAttr, sz51, en44, dx]
 repeat refine ⟨by first | omega | (simp; done) | (unfold maxLen; omega) | (simp [maxLen]; omega) | assumption, ?_⟩
 refine yW (c_ref07_Order c n p) rfl ?_
 simp (maxSteps := 9^9) (disch := (try simp only [lens]); omega) only [zJ, sm, ↓amb, zQ, simprocAttr, sz51, en44, dx]
 repeat refine ⟨by first | omega | (simp; done) | (unfold maxLen; omega) | (simp [maxLen]; omega) | assumption, ?_⟩
 refine hk _ ?_; clear hk k
 refine zW (zV [6]) ?_
 simp only [kp, zJ, simprocAttr]
 refine zK [] (by rw [hC]; rfl) fun k hk => ?_
 simp (maxSteps := 9^9) (disch := (try simp only [lens]); omega) only [zJ, sm, ↓amb, zQ, simprocAttr, dx]
 repeat refine ⟨by first | omega | (simp; done) | (unfold maxLen; omega) | (simp [maxLen]; omega) | assumption, ?_⟩
 refine hk _ ?_; clear hk k
 refine yQ ?_
 refine ret1 rfl rfl ?_
 exact .p (LeP.refl _)
set_option maxHeartbeats 4000000 in
theorem c_law31_BoundScans (l : List Int) (w : Pl.Way) (hl : ∀ x, x ∈ l → Pl.W32 x) : PCall Try.prog 12 [words false l, .agg (wayC false w)] (bV true) := by
 refine yV Try.func12 rfl (by simp [Try.ntmps12]) fun C hC => ?_
 refine zW (zV [0, 1]) ?_
 simp only [kp, zJ, simprocAttr]
 refine zK [] (by rw [hC]; rfl) fun k hk => ?_
 simp (maxSteps := 9^9) (disch := (try simp only [lens]); omega) only [zJ, sm, ↓amb, zQ, simprocAttr, dx]
 repeat refine ⟨by first | omega | (simp; done) | (unfold maxLen; omega) | (simp [maxLen]; omega) | assumption, ?_⟩
 refine hk _ ?_; clear hk k
 refine zY fun k1 h1 => ?_
 refine zW (zV [0, 3, 4]) ?_
 simp only [kp, zJ, simprocAttr]
 refine zK [] (by rw [hC]; rfl) fun k hk => ?_
 simp (maxSteps := 9^9) (disch := (try simp only [lens]); omega) only [zJ, sm, ↓amb, zQ, simprocAttr, en27, dx]
 repeat refine ⟨by first | omega | (simp; done) | (unfold maxLen; omega) | (simp [maxLen]; omega) | assumption, ?_⟩
 refine yW (c_law31_alive) rfl ?_
 simp (maxSteps := 9^9) (disch := (try simp only [lens]); omega) only [zJ, sm, ↓amb, zQ, simprocAttr, en27, dx]
 repeat refine ⟨by first | omega | (simp; done) | (unfold maxLen; omega) | (simp [maxLen]; omega) | assumption, ?_⟩
 refine hk _ ?_; clear hk k
 refine zX rfl (fun hb => ?_) (fun hb => ?_)
 ·try simp only [hbx] at hb
  refine zW (zV []) ?_
  simp only [kp, zJ, simprocAttr]
  refine zK [] (by rw [hC]; rfl) fun k hk => ?_
  simp (maxSteps := 9^9) (disch := (try simp only [lens]); omega) only [zJ, sm, ↓amb, zQ, simprocAttr, dx]
  repeat refine ⟨by first | omega | (simp; done) | (unfold maxLen; omega) | (simp [maxLen]; omega) | assumption, ?_⟩
  refine hk _ ?_; clear hk k
  refine yQ ?_
  exact absurd hb (by simp)
 ·try simp only [hbx] at hb
  refine yJ ?_
  refine h1 _ ?_; clear h1 k1
  refine zY fun k2 h2 => ?_
  refine xQ [] 27 (decide (40 < l.length ∨ 100 < w.plan.picks.length)) [0, 3, 4] (by rw [hC]; rfl) (fun gd hgd k hk => ?_) ?_
  ·have g3 : gd 3 = some 21 := by rw [hgd]; rfl
   clear hgd
   simp (maxSteps := 9^9) (disch := (try simp only [lens]); omega) only [zJ, sm, ↓amb, zQ, simprocAttr, el63, fl53_2, fl51_2, sz49, el49, zZ, g3, dx]
   repeat' first | refine hk _ _ rfl rfl rfl rfl ?_ | (refine gsplit (fun hg => ?_) (fun hg => ?_) <;> (try simp only [hbx] at hg) <;> simp (maxSteps := 9^9) (disch := (try simp only [lens]); omega) only [zJ, sm, ↓amb, zQ, simprocAttr, el63, fl53_2, fl51_2, sz49, el49, zZ, g3, dx]) | apply And.intro | fail
   all_goals first | rfl | omega | exact (decide_eq_true (by omega)).symm | exact (decide_eq_false (by omega)).symm | exact decide_eq_decide.mpr (by omega) | (refine Bool.eq_iff_iff.mpr ?_; simp only [beq_iff_eq, bne_iff_ne, ne_eq, decide_eq_true_eq]; omega) | (refine Bool.eq_iff_iff.mpr ?_; simp only [Bool.not_eq_true', Bool.not_eq_false', decide_eq_false_iff_not, decide_eq_true_eq, beq_iff_eq, bne_iff_ne, ne_eq]; omega) | assumption | (simp; done) | (simp [maxLen]; omega) | skip
  simp only [kp, zJ, simprocAttr, List.length_cons, List.length_nil]
  refine zX rfl (fun hb => ?_) (fun hb => ?_)
  ·try simp only [hbx] at hb
   refine zW (zV []) ?_
   simp only [kp, zJ, simprocAttr]
   refine zK [] (by rw [hC]; rfl) fun k hk => ?_
   simp (maxSteps := 9^9) (disch := (try simp only [lens]); omega) only [zJ, sm, ↓amb, zQ, simprocAttr, dx]
   repeat refine ⟨by first | omega | (simp; done) | (unfold maxLen; omega) | (simp [maxLen]; omega) | assumption, ?_⟩
   refine hk _ ?_; clear hk k
   refine yQ ?_
   refine ret1 rfl rfl ?_
   exact .p (LeP.refl _)
  ·try simp only [hbx] at hb
   refine yJ ?_
   refine h2 _ ?_; clear h2 k2
   refine zW (zV [0, 3]) ?_
   simp only [kp, zJ, simprocAttr]
   refine zK [] (by rw [hC]; rfl) fun k hk => ?_
   simp (maxSteps := 9^9) (disch := (try simp only [lens]); omega) only [zJ, sm, ↓amb, zQ, simprocAttr, fl53_1, sz3, fl53_2, sz51, en42, dx]
   repeat refine ⟨by first | omega | (simp; done) | (unfold maxLen; omega) | (simp [maxLen]; omega) | assumption, ?_⟩
   refine yW (c_scan_Sums false false l w.block w.plan hl) rfl ?_
   simp (maxSteps := 9^9) (disch := (try simp only [lens]); omega) only [zJ, sm, ↓amb, zQ, simprocAttr, fl53_1, sz3, fl53_2, sz51, en42, dx]
   repeat refine ⟨by first | omega | (simp; done) | (unfold maxLen; omega) | (simp [maxLen]; omega) | assumption, ?_⟩
   refine hk _ ?_; clear hk k
   refine zW (zV [0, 3, 7, 8]) ?_
   simp only [kp, zJ, simprocAttr]
   refine zK [] (by rw [hC]; rfl) fun k hk => ?_
   simp (maxSteps := 9^9) (disch := (try simp only [lens]); omega) only [zJ, sm, ↓amb, zQ, simprocAttr, sz53, en43, dx]
   repeat refine ⟨by first | omega | (simp; done) | (unfold maxLen; omega) | (simp [maxLen]; omega) | assumption, ?_⟩
   refine yW (c_dedup_Once false false l w hl (by omega)) rfl ?_
   simp (maxSteps := 9^9) (disch := (try simp only [lens]); omega) only [zJ, sm, ↓amb, zQ, simprocAttr, sz53, en43, dx]
   repeat refine ⟨by first | omega | (simp; done) | (unfold maxLen; omega) | (simp [maxLen]; omega) | assumption, ?_⟩
   refine hk _ ?_; clear hk k
   refine zY fun k3 h3 => ?_
   refine zW (zV [0, 3, 4, 7, 8, 10, 11]) ?_
   simp only [kp, zJ, simprocAttr]
   refine zK [] (by rw [hC]; rfl) fun k hk => ?_
   simp (maxSteps := 9^9) (disch := (try simp only [lens]); omega) only [zJ, sm, ↓amb, zQ, simprocAttr, dx]
   repeat refine ⟨by first | omega | (simp; done) | (unfold maxLen; omega) | (simp [maxLen]; omega) | assumption, ?_⟩
   refine hk _ ?_; clear hk k
   refine zX rfl (fun hb => ?_) (fun hb => ?_)
   ·try simp only [hbx] at hb
    have he8 := hb
    obtain ⟨y1, y2⟩ := Pl.scan_bad (by omega) hb
    have y3 : Pl.soB l.length w = 0 := Pl.soB_bad (fun z => y2 ⟨z.2.1, z.2.2⟩)
    have y4 : ¬ Pl.grE l.length w = 0 := by
     intro z
     unfold Pl.grE Pl.raE at z
     split at z
     ·exact absurd z (by decide)
     ·exact he8 z
    refine xQ [] 4 (decide (True)) [] (by rw [hC]; rfl) (fun gd hgd k hk => ?_) ?_
    ·have g2 : gd 2 = some 50 := by rw [hgd]; rfl
     have g12 : gd 12 = some 60 := by rw [hgd]; rfl
     clear hgd
     simp (maxSteps := 9^9) (disch := (try simp only [lens]); omega) only [zJ, sm, ↓amb, zQ, simprocAttr, el63, fl53_1, sz3, fl53_2, sz51, en30, sz53, en32, zZ, g2, g12, dx]
     repeat' first | refine hk _ _ rfl rfl rfl rfl ?_ | (refine gsplit (fun hg => ?_) (fun hg => ?_) <;> (try simp only [hbx] at hg) <;> simp (maxSteps := 9^9) (disch := (try simp only [lens]); omega) only [zJ, sm, ↓amb, zQ, simprocAttr, el63, fl53_1, sz3, fl53_2, sz51, en30, sz53, en32, zZ, g2, g12, dx]) | apply And.intro | (refine yW (c_bound_Scan _ _ _ w.plan) rfl ?_; (try simp (maxSteps := 9^9) (disch := (try simp only [lens]); omega) only [zJ, sm, ↓amb, zQ, simprocAttr, el63, fl53_1, sz3, fl53_2, sz51, en30, sz53, en32, zZ, g2, g12, dx])) | (refine yW (c_bound_Sort _ _ w) rfl ?_; (try simp (maxSteps := 9^9) (disch := (try simp only [lens]); omega) only [zJ, sm, ↓amb, zQ, simprocAttr, el63, fl53_1, sz3, fl53_2, sz51, en30, sz53, en32, zZ, g2, g12, dx])) | fail
     all_goals first | rfl | omega | exact (decide_eq_true (by omega)).symm | exact (decide_eq_false (by omega)).symm | exact decide_eq_decide.mpr (by omega) | (refine Bool.eq_iff_iff.mpr ?_; simp only [beq_iff_eq, bne_iff_ne, ne_eq, decide_eq_true_eq]; omega) | (refine Bool.eq_iff_iff.mpr ?_; simp only [Bool.not_eq_true', Bool.not_eq_false', decide_eq_false_iff_not, decide_eq_true_eq, beq_iff_eq, bne_iff_ne, ne_eq]; omega) | assumption | (simp; done) | (simp [maxLen]; omega) | skip
     all_goals first | (exfalso; omega) | rfl | (exfalso; exact absurd rfl (by assumption)) | (simp; done) | (simp_all; done) | (exact decide_eq_true (by omega)) | trace_state
    simp only [kp, zJ, simprocAttr, List.length_cons, List.length_nil]
    refine yQ ?_
    refine ret1 rfl rfl ?_
    exact .p (LeP.refl _)
   ·try simp only [hbx] at hb
    refine yJ ?_
    refine h3 _ ?_; clear h3 k3
    refine zY fun k4 h4 => ?_
    have hs0 := hb
    obtain ⟨k6, k1⟩ := Pl.sc_steps hb
    refine xQ [] 75 (decide (False)) [0, 3, 4, 7, 10, 11] (by rw [hC]; rfl) (fun gd hgd k hk => ?_) ?_
    ·clear hgd
     simp (maxSteps := 9^9) (disch := (try simp only [lens]); omega) only [zJ, sm, ↓amb, zQ, simprocAttr, el63, fl53_1, sz3, fl53_2, sz51, en30, zZ, dx]
     repeat' first | refine hk _ _ rfl rfl rfl rfl ?_ | (refine gsplit (fun hg => ?_) (fun hg => ?_) <;> (try simp only [hbx] at hg) <;> simp (maxSteps := 9^9) (disch := (try simp only [lens]); omega) only [zJ, sm, ↓amb, zQ, simprocAttr, el63, fl53_1, sz3, fl53_2, sz51, en30, zZ, dx]) | apply And.intro | (refine yW (c_bound_Scan _ _ _ w.plan) rfl ?_; (try simp (maxSteps := 9^9) (disch := (try simp only [lens]); omega) only [zJ, sm, ↓amb, zQ, simprocAttr, el63, fl53_1, sz3, fl53_2, sz51, en30, zZ, dx])) | fail
     all_goals first | rfl | omega | exact (decide_eq_true (by omega)).symm | exact (decide_eq_false (by omega)).symm | exact decide_eq_decide.mpr (by omega) | (refine Bool.eq_iff_iff.mpr ?_; simp only [beq_iff_eq, bne_iff_ne, ne_eq, decide_eq_true_eq]; omega) | (refine Bool.eq_iff_iff.mpr ?_; simp only [Bool.not_eq_true', Bool.not_eq_false', decide_eq_false_iff_not, decide_eq_true_eq, beq_iff_eq, bne_iff_ne, ne_eq]; omega) | assumption | (simp; done) | (simp [maxLen]; omega) | skip
     all_goals first | (exact (decide_eq_false (by omega))) | (exact decide_eq_decide.mpr ⟨fun h => by omega, False.elim⟩) | trace_state
    simp only [kp, zJ, simprocAttr, List.length_cons, List.length_nil]
    refine zX rfl (fun hb => ?_) (fun hb => ?_)
    ·exact absurd hb (by simp)
    ·try simp only [hbx] at hb
     refine yJ ?_
     refine h4 _ ?_; clear h4 k4
     refine zY fun k5 h5 => ?_
     refine zW (zV [0, 3, 4, 7, 10, 11]) ?_
     simp only [kp, zJ, simprocAttr]
     refine zK [] (by rw [hC]; rfl) fun k hk => ?_
     simp (maxSteps := 9^9) (disch := (try simp only [lens]); omega) only [zJ, sm, ↓amb, zQ, simprocAttr, dx]
     repeat refine ⟨by first | omega | (simp; done) | (unfold maxLen; omega) | (simp [maxLen]; omega) | assumption, ?_⟩
     refine hk _ ?_; clear hk k
     refine zX rfl (fun hb => ?_) (fun hb => ?_)
     ·try simp only [hbx] at hb
      refine zW (zV [0, 3]) ?_
      simp only [kp, zJ, simprocAttr]
      have hg := hb
      have y3 : Pl.soB l.length w = 0 := Pl.soB_bad (fun z => hg (by unfold Pl.grE Pl.raE; rw [if_neg z.1]; exact hs0))
      have f12 := c_bound_Sort false l.length w
      rw [y3] at f12
      refine zK [] (by rw [hC]; rfl) fun k hk => ?_
      simp (maxSteps := 9^9) (disch := (try simp only [lens]); omega) only [zJ, sm, ↓amb, zQ, simprocAttr, el63, sz53, en32, dx]
      repeat refine ⟨by first | omega | (simp; done) | (unfold maxLen; omega) | (simp [maxLen]; omega) | assumption, ?_⟩
      refine yW (f12) rfl ?_
      simp (maxSteps := 9^9) (disch := (try simp only [lens]); omega) only [zJ, sm, ↓amb, zQ, simprocAttr, el63, sz53, en32, dx]
      repeat refine ⟨by first | omega | (simp; done) | (unfold maxLen; omega) | (simp [maxLen]; omega) | assumption, ?_⟩
      refine hk _ ?_; clear hk k
      refine yQ ?_
      refine ret1 rfl rfl ?_
      exact .p (LeP.refl _)
     ·try simp only [hbx] at hb
      refine yJ ?_
      refine h5 _ ?_; clear h5 k5
      refine zW (zV [0, 3, 7, 10]) ?_
      simp only [kp, zJ, simprocAttr]
      obtain ⟨k2, k3, k4, k5⟩ := Pl.gr_steps hb
      have k7 := Pl.ordS_up (Pl.blk l.length w.block) w.plan
      refine zK [] (by rw [hC]; rfl) fun k hk => ?_
      simp (maxSteps := 9^9) (disch := (try simp only [lens]); omega) only [zJ, sm, ↓amb, zQ, simprocAttr, el63, fl53_2, sz51, en44, dx]
      repeat refine ⟨by first | omega | (simp; done) | (unfold maxLen; omega) | (simp [maxLen]; omega) | assumption, ?_⟩
      refine yW (c_ref07_Order false l.length w.plan) rfl ?_
      simp (maxSteps := 9^9) (disch := (try simp only [lens]); omega) only [zJ, sm, ↓amb, zQ, simprocAttr, el63, fl53_2, sz51, en44, dx]
      repeat refine ⟨by first | omega | (simp; done) | (unfold maxLen; omega) | (simp [maxLen]; omega) | assumption, ?_⟩
      refine hk _ ?_; clear hk k
      refine zW (zV [0, 3, 7, 10, 13, 14]) ?_
      simp only [kp, zJ, simprocAttr]
      refine zK [] (by rw [hC]; rfl) fun k hk => ?_
      simp (maxSteps := 9^9) (disch := (try simp only [lens]); omega) only [zJ, sm, ↓amb, zQ, simprocAttr, el63, fl53_1, sz3, en45, dx]
      repeat refine ⟨by first | omega | (simp; done) | (unfold maxLen; omega) | (simp [maxLen]; omega) | assumption, ?_⟩
      refine yW (c_ref08_Blocks _ _) rfl ?_
      simp (maxSteps := 9^9) (disch := (try simp only [lens]); omega) only [zJ, sm, ↓amb, zQ, simprocAttr, el63, fl53_1, sz3, en45, dx]
      repeat refine ⟨by first | omega | (simp; done) | (unfold maxLen; omega) | (simp [maxLen]; omega) | assumption, ?_⟩
      refine hk _ ?_; clear hk k
      refine xQ [] 4 (decide (True)) [] (by rw [hC]; rfl) (fun gd hgd k hk => ?_) ?_
      ·have g2 : gd 2 = some 99 := by rw [hgd]; rfl
       have g10 : gd 10 = some 107 := by rw [hgd]; rfl
       have g15 : gd 15 = some 112 := by rw [hgd]; rfl
       have g24 : gd 24 = some 121 := by rw [hgd]; rfl
       have g28 : gd 28 = some 125 := by rw [hgd]; rfl
       clear hgd
       simp (maxSteps := 9^9) (disch := (try simp only [lens]); omega) only [zJ, sm, ↓amb, zQ, simprocAttr, el63, sz53, en32, fl53_2, sz51, en46, zZ, g2, g10, g15, g24, g28, dx]
       repeat' first | refine hk _ _ rfl rfl rfl rfl ?_ | (refine gsplit (fun hg => ?_) (fun hg => ?_) <;> (try simp only [hbx] at hg) <;> simp (maxSteps := 9^9) (disch := (try simp only [lens]); omega) only [zJ, sm, ↓amb, zQ, simprocAttr, el63, sz53, en32, fl53_2, sz51, en46, zZ, g2, g10, g15, g24, g28, dx]) | apply And.intro | (refine yW (c_bound_Sort _ _ w) rfl ?_; (try simp (maxSteps := 9^9) (disch := (try simp only [lens]); omega) only [zJ, sm, ↓amb, zQ, simprocAttr, el63, sz53, en32, fl53_2, sz51, en46, zZ, g2, g10, g15, g24, g28, dx])) | (refine yW (c_law31_steps _ _ w.plan) rfl ?_; (try simp (maxSteps := 9^9) (disch := (try simp only [lens]); omega) only [zJ, sm, ↓amb, zQ, simprocAttr, el63, sz53, en32, fl53_2, sz51, en46, zZ, g2, g10, g15, g24, g28, dx])) | fail
       all_goals first | rfl | omega | exact (decide_eq_true (by omega)).symm | exact (decide_eq_false (by omega)).symm | exact decide_eq_decide.mpr (by omega) | (refine Bool.eq_iff_iff.mpr ?_; simp only [beq_iff_eq, bne_iff_ne, ne_eq, decide_eq_true_eq]; omega) | (refine Bool.eq_iff_iff.mpr ?_; simp only [Bool.not_eq_true', Bool.not_eq_false', decide_eq_false_iff_not, decide_eq_true_eq, beq_iff_eq, bne_iff_ne, ne_eq]; omega) | assumption | (simp; done) | (simp [maxLen]; omega) | skip
       all_goals first | (exfalso; omega) | rfl | (exfalso; exact absurd rfl (by assumption)) | (simp; done) | (simp_all; done) | (exact decide_eq_true (by omega)) | trace_state
      simp only [kp, zJ, simprocAttr, List.length_cons, List.length_nil]
      refine yQ ?_
      refine ret1 rfl rfl ?_
      exact .p (LeP.refl _)
end Go.Proofs.Ytjkkjiaeeobnkaa
end
section
namespace Go.Proofs.Ytjkkjiaeeobnkaa
open Go.Am Go.Proofs
theorem Try.own : ownKnob Try.prog.godebug = none := by kernel_rfl
theorem Try.laidOut : laidOutB Try.prog = true := by kernel_rfl
abbrev W64 (n : Int) : Prop := (Lit.int .i64 n).wf = true
theorem wf32 {n : Int} (h : (Lit.int .u32 n).wf = true) : 0 ≤ n ∧ n ≤ 4294967295 := by
  simp only [Lit.wf, Bool.and_eq_true, decide_eq_true_eq, show IntKind.u32.min = 0 from rfl, show IntKind.u32.max = 4294967295 from rfl] at h; exact h
theorem op_int : Opens Try.prog 3 Int (fun n => (Lit.int .i64 n).wf = true) (fun n => [.lit (.int .i64 n)]) := opens_int Try.underlying3
theorem op_pair : Opens Try.prog 93 (Int × Int) (fun p => W64 p.1 ∧ W64 p.2) (fun p => [iV p.1, iV p.2]) := (opens_agg (ts := [3, 3]) (by kernel_rfl) (.cons op_int (.cons op_int .nil))).map (fun p => (p.1, p.2.1)) (fun _ h => ⟨⟨h.1, h.2.1⟩, rfl⟩)
theorem op_picks : Opens Try.prog 49 (List (Int × Int)) (fun l => l.length ≤ maxLen ∧ ∀ p, p ∈ l → W64 p.1 ∧ W64 p.2) (fun l => [picksV false l]) := opens_slice Try.underlying49 (of_decide_eq_true (by kernel_rfl)) op_pair
theorem op_plan : Opens Try.prog 51 Pl.Plan (fun p => W64 p.grain ∧ W64 p.workers ∧ p.picks.length ≤ maxLen ∧ ∀ q, q ∈ p.picks → W64 q.1 ∧ W64 q.2) (planC false) := (opens_agg (ts := [3, 3, 49]) (by kernel_rfl) (.cons op_int (.cons op_int (.cons op_picks .nil)))).map (fun p => ⟨p.1, p.2.1, p.2.2.1⟩) (fun _ h => ⟨⟨h.1, h.2.1, h.2.2.1.1, h.2.2.1.2⟩, rfl⟩)
theorem op_way : Opens Try.prog 53 Pl.Way (fun w => W64 w.bits ∧ W64 w.block ∧ W64 w.plan.grain ∧ W64 w.plan.workers ∧ w.plan.picks.length ≤ maxLen ∧ ∀ q, q ∈ w.plan.picks → W64 q.1 ∧ W64 q.2) (wayC false) := (opens_agg (ts := [3, 3, 51]) (by kernel_rfl) (.cons op_int (.cons op_int (.cons op_plan .nil)))).map (fun p => ⟨p.1, p.2.1, p.2.2.1⟩) (fun _ h => ⟨⟨h.1, h.2.1, h.2.2.1.1, h.2.2.1.2.1, h.2.2.1.2.2.1, h.2.2.1.2.2.2⟩, rfl⟩)
theorem op_u32 : Opens Try.prog 71 Int (fun n => (Lit.int .u32 n).wf = true) (fun n => [.lit (.int .u32 n)]) := opens_int Try.underlying71
theorem op_words : Opens Try.prog 63 (List Int) (fun l => l.length ≤ maxLen ∧ ∀ a, a ∈ l → (Lit.int .u32 a).wf = true) (fun l => [words false l]) := opens_slice Try.underlying63 (of_decide_eq_true (by kernel_rfl)) op_u32
end Go.Proofs.Ytjkkjiaeeobnkaa
end
section
namespace Go.Proofs.Ytjkkjiaeeobnkaa
open Go.ChangeShapes Go.WideShapes Go.ChangeAt Go.RowKit Go.Am
set_option maxRecDepth 100000 in
theorem boundScans_lifted (os : Os) (started : os.Started) (H : Type) (enc : TypeId × Value → H) :
    ReturnsInHanded {} Try.checked os 12 .any (Rows.boundScansSpec.pre6 enc Try.prog Try.f12 Rows.boundScansRow.domain false) (Rows.boundScansSpec.post enc Try.prog Try.f12 false true false false) := by
  refine returnsInHanded_of_change (C := Try.checked) Try.own started (by kernel_rfl) Try.func12
    (ChangeSpec.witness6 (enc := enc) (C := Try.checked) false ⟨#[], #[.slice none 0 0, .agg #[.int .i64 0, .int .i64 0, .int .i64 0, .int .i64 0, .slice none 0 0]], []⟩ 20 (by kernel_rfl) (by kernel_rfl) (by kernel_rfl) (by kernel_rfl)) ?_
  intro W base args ds gs before hval0 hW hcnd _
  have hval : ∀ (j : Nat) t v, Try.f12.params[j]? = some t → args[j]? = some v → Value.okWide Try.prog W .any base t v := hval0
  have hW' := hW
  have hlt := hW.lt
  obtain ⟨p, q, hA0, hV, rfl, hfz, hnd⟩ := hW
  have hA : DataW.TrodAll enc Try.prog W 0 (fun _ => true) true Try.f12.params.toList args.toList ds p := hA0
  rw [Try.params12] at hA hval
  obtain ⟨v0, v1, d0, d1, p0, p1, rfl, rfl, rfl, h0, h1⟩ := trodAll_two hA
  obtain ⟨rfl, rfl⟩ := trodVars_none hV
  obtain ⟨a0, k0, r0⟩ := arg_one op_words (okWide_one_s Try.underlying63 (hval 0 63 _ rfl rfl)) h0
  obtain ⟨cs1, rfl⟩ := okWide_agg (by kernel_rfl) (hval 1 53 _ rfl rfl)
  obtain ⟨a1, k1, r1⟩ := arg_agg op_way h1
  clear hA0 hval0
  simp only [List.append_nil] at hW' hlt
  refine (law_calls (c_law31_BoundScans a0 a1 (fun x hx => wf32 (k0.2 x hx))) rfl ?_).mono fun e W' ⟨he, hB⟩ => ?_
  · intro i x hx
    match i, hx with
    | 0, hx => simp only [List.getElem?_cons_zero, Option.some.injEq] at hx; subst hx; exact r0
    | 1, hx => simp only [List.getElem?_cons_succ, List.getElem?_cons_zero, Option.some.injEq] at hx; subst hx; exact r1
    | i + 2, hx => simp at hx
  subst he
  exact ⟨_, rfl, law_post (pv := []) hW' (fun _ _ _ => trodAll_mk1 (shut_bool Try.underlying4 _))
    (fun sp hs => trodAll_mk2 (WideElems.Trod_stays Try.laidOut (by kernel_rfl) (of_decide_eq_true (by kernel_rfl)) h0 (fun x hx => hB.same (hlt x (by simp [hx]))) (fun x hx => hs x (by simp [hx]))) (WideElems.Trod_stays Try.laidOut (by kernel_rfl) (of_decide_eq_true (by kernel_rfl)) h1 (fun x hx => hB.same (hlt x (by simp [hx]))) (fun x hx => hs x (by simp [hx]))))
    (fun _ _ => rfl) (by simp) hB (ok_one (by kernel_rfl) rfl (okWide_bool_mk Try.underlying4 _))⟩
theorem boundScans_holds : Rows.BoundScansSaid :=
  OpenClaim.holds_of_wide 12 Try.f12 rfl rfl rfl rfl rfl rfl rfl ⟨rfl, rfl, rfl, rfl, rfl⟩ rfl rfl rfl rfl rfl (by kernel_rfl) Try.func12 (by kernel_rfl)
    (of_decide_eq_true (by kernel_rfl)) (by unfold Func.isWrapper; first | (rw [if_pos (by decide +kernel)]; kernel_rfl) | (rw [if_neg (by decide +kernel)]; exact ⟨rfl, rfl⟩))
    (fun os started H enc _ => boundScans_lifted os started H enc)
#print axioms boundScans_holds
end Go.Proofs.Ytjkkjiaeeobnkaa
end
