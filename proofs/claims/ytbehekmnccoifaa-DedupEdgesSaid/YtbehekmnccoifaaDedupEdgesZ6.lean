/-
  DedupEdges, part 6 of 7: what the proof that the law holds at whatever arguments stands on; the last part holds the theorem. No condition.
-/
import Derived.Test.YtbehekmnccoifaaDedupEdgesZ5
import Derived.Test.YtbehekmnccoifaaRows
section
set_option linter.unusedSimpArgs false
set_option linter.unusedVariables false
namespace Go.Pl
section
variable {α : Type}
def cntD (p : α → Bool) (l : List α) (j : Nat) : Nat := ((l.take j).filter fun x => !p x).length
structure DelI (p : α → Bool) (l r : List α) (j : Nat) : Prop where
  len : r.length = l.length
  pre : r.take (cntD p l j) = (l.take j).filter fun x => !p x
  suf : r.drop j = l.drop j
  lt : cntD p l j < j
theorem cntD_yes [Inhabited α] {p : α → Bool} {l : List α} {j : Nat} (hj : j < l.length) (hp : p (l.getD j default) = false) : (l.take (j + 1)).filter (fun x => !p x) = (l.take j).filter (fun x => !p x) ++ [l.getD j default] := by
  rw [take_snocE l j hj, List.filter_append, List.filter_cons_of_pos (by rw [hp]; rfl), List.filter_nil]
theorem cntD_no [Inhabited α] {p : α → Bool} {l : List α} {j : Nat} (hj : j < l.length) (hp : p (l.getD j default) = true) : (l.take (j + 1)).filter (fun x => !p x) = (l.take j).filter (fun x => !p x) := by
  rw [take_snocE l j hj, List.filter_append, List.filter_cons_of_neg (by rw [hp]; decide), List.filter_nil, List.append_nil]
theorem firstB_spec [Inhabited α] {p : α → Bool} {l : List α} {i : Nat} (h : firstB p l = (i : Int)) : i < l.length ∧ p (l.getD i default) = true ∧ ∀ j, j < i → p (l.getD j default) = false := by
  unfold firstB at h
  split at h
  · rename_i k hk
    rw [List.findIdx?_eq_some_iff_getElem] at hk
    obtain ⟨h1, h2, h3⟩ := hk
    obtain rfl : k = i := by omega
    refine ⟨h1, by rw [List.getD_eq_getElem?_getD, List.getElem?_eq_getElem h1]; exact h2, fun j hj => ?_⟩
    have := h3 j hj
    rw [List.getD_eq_getElem?_getD, List.getElem?_eq_getElem (by omega)]
    simpa using this
  · omega
theorem filter_take [Inhabited α] {p : α → Bool} {l : List α} {i : Nat} (hi : i ≤ l.length) (h : ∀ j, j < i → p (l.getD j default) = false) : (l.take i).filter (fun x => !p x) = l.take i := by
  rw [List.filter_eq_self]
  intro x hx
  obtain ⟨k, hk, rfl⟩ := List.getElem_of_mem hx
  rw [List.length_take] at hk
  have := h k (by omega)
  rw [List.getD_eq_getElem?_getD, List.getElem?_eq_getElem (by omega)] at this
  rw [List.getElem_take]
  simpa using this
theorem del_start [Inhabited α] {p : α → Bool} {l : List α} {i : Nat} (h : firstB p l = (i : Int)) : DelI p l l (i + 1) ∧ cntD p l (i + 1) = i := by
  obtain ⟨h1, h2, h3⟩ := firstB_spec h
  have e := cntD_no h1 h2
  have e2 := filter_take (Nat.le_of_lt h1) h3
  have e3 : cntD p l (i + 1) = i := by unfold cntD; rw [e, e2, List.length_take]; omega
  exact ⟨⟨rfl, by rw [e3, e, e2], rfl, by omega⟩, e3⟩
theorem del_none {p : α → Bool} {l : List α} (h : firstB p l = -1) : l.filter (fun x => !p x) = l := by
  rw [List.filter_eq_self]
  intro x hx
  have := mt (firstB_iff p l).mpr (by omega)
  cases hp : p x with
  | false => rfl
  | true => exact absurd ⟨x, hx, hp⟩ this
variable {p : α → Bool} {l r : List α} {j : Nat}
theorem DelI.get [Inhabited α] (h : DelI p l r j) (hj : j < l.length) : r.getD j default = l.getD j default := by
  have e : (r.drop j)[0]? = (l.drop j)[0]? := by rw [h.suf]
  rw [List.getElem?_drop, List.getElem?_drop] at e
  rw [List.getD_eq_getElem?_getD, List.getD_eq_getElem?_getD]
  simpa using congrArg (fun o => o.getD default) e
theorem DelI.keep [Inhabited α] (h : DelI p l r j) (hj : j < l.length) (hp : p (l.getD j default) = false) : DelI p l (r.set (cntD p l j) (l.getD j default)) (j + 1) ∧ cntD p l (j + 1) = cntD p l j + 1 := by
  have e := cntD_yes hj hp
  have e2 : cntD p l (j + 1) = cntD p l j + 1 := by unfold cntD; rw [e, List.length_append]; rfl
  have hl := h.len
  have hlt := h.lt
  refine ⟨⟨by rw [List.length_set]; exact h.len, ?_, ?_, by omega⟩, e2⟩
  · rw [e2, e, ← h.pre, List.take_set, List.take_add_one, List.getElem?_eq_getElem (by omega)]
    rw [List.set_append_right _ _ (by rw [List.length_take]; omega), List.length_take, Nat.min_eq_left (by omega), Nat.sub_self]
    rfl
  · rw [List.drop_set_of_lt (by omega)]
    have := congrArg (List.drop 1) h.suf
    rwa [List.drop_drop, List.drop_drop] at this
theorem DelI.skip [Inhabited α] (h : DelI p l r j) (hj : j < l.length) (hp : p (l.getD j default) = true) : DelI p l r (j + 1) ∧ cntD p l (j + 1) = cntD p l j := by
  have e := cntD_no hj hp
  have e2 : cntD p l (j + 1) = cntD p l j := by unfold cntD; rw [e]
  have hlt := h.lt
  refine ⟨⟨h.len, by rw [e2, e]; exact h.pre, ?_, by omega⟩, e2⟩
  have := congrArg (List.drop 1) h.suf
  rwa [List.drop_drop, List.drop_drop] at this
theorem DelI.all (h : DelI p l r l.length) : r.take (cntD p l l.length) = l.filter fun x => !p x := by
  have := h.pre
  rwa [List.take_length] at this
theorem cntD_le (p : α → Bool) (l : List α) (j : Nat) : cntD p l j ≤ l.length := by
  unfold cntD
  refine Nat.le_trans (List.length_filter_le _ _) ?_
  rw [List.length_take]; omega
end
theorem DelI.keepI {p : Int → Bool} {l r : List Int} {j : Nat} (h : DelI p l r j) (hj : j < l.length) (hp : p (r.getD j 0) = false) : DelI p l (r.set (cntD p l j) (r.getD j 0)) (j + 1) ∧ cntD p l (j + 1) = cntD p l j + 1 := by
  have e := h.get hj
  have e2 : r.getD j 0 = l.getD j default := e
  rw [e2] at hp ⊢
  exact h.keep hj hp
theorem DelI.skipI {p : Int → Bool} {l r : List Int} {j : Nat} (h : DelI p l r j) (hj : j < l.length) (hp : p (r.getD j 0) = true) : DelI p l r (j + 1) ∧ cntD p l (j + 1) = cntD p l j := by
  have e := h.get hj
  have e2 : r.getD j 0 = l.getD j default := e
  rw [e2] at hp
  exact h.skip hj hp
theorem hasL_first (l : List Int) (x : Int) : decide (0 ≤ firstB (fun y => decide (x = y)) l) = hasL l x := by
  unfold hasL
  refine decide_eq_decide.mpr ?_
  rw [firstB_iff]
  constructor
  · rintro ⟨y, h1, h2⟩
    rw [decide_eq_true_eq] at h2
    exact h2 ▸ h1
  · exact fun h => ⟨x, h, decide_eq_true rfl⟩
end Go.Pl
end
section
set_option linter.unusedSimpArgs false
set_option linter.unusedVariables false
set_option maxRecDepth 100000
namespace Go.Proofs.Ytbehekmnccoifaa
open Go.Am Go.Proofs
theorem take_liftA {n : Nat} {A B : List (List PV)} (h : A.length = n) : List.take n (lift (A ++ B)) = lift A := by
  subst h
  simp [lift]
theorem en45 : enters Try.prog 45 = true := by kernel_rfl
theorem en46 : enters Try.prog 46 = true := by kernel_rfl
theorem en47 : enters Try.prog 47 = true := by kernel_rfl
theorem en48 : enters Try.prog 48 = true := by kernel_rfl
theorem en63 : enters Try.prog 63 = true := by kernel_rfl
theorem en64 : enters Try.prog 64 = true := by kernel_rfl
theorem sz22 : tSz Try.prog 22 = some (false, 1) := by kernel_rfl
set_option maxHeartbeats 4000000 in
theorem c_IndexW (c : Bool) (l : List Int) (x : Int) (hn : l.length ≤ 1000000) : PCall Try.prog 64 [words c l, u32V x] (iV (Pl.firstB (fun y => decide (x = y)) l)) := by
 refine yV Try.func64 rfl (by simp [Try.ntmps64]) fun C hC => ?_
 refine zW (zV [0, 1]) ?_
 simp only [kp, zJ, simprocAttr]
 refine zK [] (by rw [hC]; rfl) fun k hk => ?_
 simp (maxSteps := 9^9) (disch := (try simp only [lens]); omega) only [zJ, sm, ↓amb, zQ, simprocAttr, dx]
 repeat refine an ?_
 refine hk _ ?_; clear hk k
 refine zY fun k1 h1 => ?_
 refine zW (zV [0, 1, 4]) ?_
 simp only [kp, zJ, simprocAttr]
 refine zK [] (by rw [hC]; rfl) fun k hk => ?_
 simp (maxSteps := 9^9) (disch := (try simp only [lens]); omega) only [zJ, sm, ↓amb, zQ, simprocAttr, el22, dx]
 repeat refine an ?_
 refine hk _ ?_; clear hk k
 refine yK ?_
 refine yY (σ := Nat) (fun i => i ≤ l.length ∧ ∀ j, j < i → ¬ x = l.getD j 0) (fun (i : Nat) => ⟨[(0, (.p (words c l))), (1, (.p (u32V x))), (7, (.p (iV l.length))), (8, (.p (iV (i : Int))))], [], 1⟩) (fun i => l.length - i) 0 ?_ ?_ fun i hi => ?_
 ·exact ⟨Nat.zero_le _, fun j hj => by omega⟩
 ·exact le_of [] (by rfl) (by rfl) ⟨⟨_, rfl, .oe⟩, ⟨_, rfl, .oe⟩, ⟨_, rfl, .oe⟩, ⟨_, rfl, .oe⟩, trivial⟩ trivial
 obtain ⟨hi1, hi2⟩ := hi
 refine zW (zV [0, 1, 4, 7, 8]) ?_
 simp only [kp, zJ, simprocAttr]
 refine zK [] (by rw [hC]; rfl) fun k hk => ?_
 simp (maxSteps := 9^9) (disch := (try simp only [lens]); omega) only [zJ, sm, ↓amb, zQ, simprocAttr, dx]
 repeat refine an ?_
 refine hk _ ?_; clear hk k
 refine zY fun k3 h3 => ?_
 refine zX rfl (fun hb => ?_) (fun hb => ?_)
 ·try simp only [hbx] at hb
  refine yJ ?_
  refine h3 _ ?_; clear h3 k3
  refine zY fun k4 h4 => ?_
  refine yK ?_
  refine zW (zV [0, 1, 4, 7, 8]) ?_
  simp only [kp, zJ, simprocAttr]
  refine zK [] (by rw [hC]; rfl) fun k hk => ?_
  simp (maxSteps := 9^9) (disch := (try simp only [lens]); omega) only [zJ, sm, ↓amb, zQ, simprocAttr, dx]
  repeat refine an ?_
  refine hk _ ?_; clear hk k
  refine zW (zV [0, 1, 4, 5, 7, 8]) ?_
  simp only [kp, zJ, simprocAttr]
  refine zK [] (by rw [hC]; rfl) fun k hk => ?_
  simp (maxSteps := 9^9) (disch := (try simp only [lens]); omega) only [zJ, sm, ↓amb, zQ, simprocAttr, el22, sz41, dx]
  repeat refine an ?_
  refine hk _ ?_; clear hk k
  refine zX rfl (fun hb => ?_) (fun hb => ?_)
  ·try simp only [hbx] at hb
   refine zW (zV [5]) ?_
   simp only [kp, zJ, simprocAttr]
   refine zK [] (by rw [hC]; rfl) fun k hk => ?_
   simp (maxSteps := 9^9) (disch := (try simp only [lens]); omega) only [zJ, sm, ↓amb, zQ, simprocAttr, dx]
   repeat refine an ?_
   refine hk _ ?_; clear hk k
   refine yQ ?_
   rw [Pl.firstB_at (p := (fun y => decide (x = y))) (i := i) (by omega) (fun j hj => decide_eq_false (hi2 j hj)) (decide_eq_true hb)]
   refine ret1 rfl rfl ?_
   exact .p (LeP.refl _)
  ·try simp only [hbx] at hb
   refine yJ ?_
   refine h4 _ ?_; clear h4 k4
   refine yZ [] (by rw [hC]; rfl) fun k hk => ?_
   simp (maxSteps := 9^9) (disch := (try simp only [lens]); omega) only [zJ, sm, ↓amb, zQ, simprocAttr, dx]
   repeat refine an ?_
   refine hk _ ?_; clear hk k
   refine ⟨i + 1, ⟨by omega, fun j hj => by by_cases e : j = i; (subst e; exact hb); exact hi2 j (by omega)⟩, le_of [] (by rfl) (by rfl) ⟨⟨_, rfl, .oe⟩, ⟨_, rfl, .oe⟩, ⟨_, rfl, .oe⟩, ⟨_, rfl, .oe⟩, trivial⟩ trivial, by omega⟩
 ·try simp only [hbx] at hb
  refine yX ((if_pos rfl).mpr ?_)
  refine h1 _ ?_; clear h3 k3; clear h1 k1
  refine zW (zV []) ?_
  simp only [kp, zJ, simprocAttr]
  refine zK [] (by rw [hC]; rfl) fun k hk => ?_
  simp (maxSteps := 9^9) (disch := (try simp only [lens]); omega) only [zJ, sm, ↓amb, zQ, simprocAttr, dx]
  repeat refine an ?_
  refine hk _ ?_; clear hk k
  refine yQ ?_
  rw [Pl.firstB_no (p := (fun y => decide (x = y))) (i := i) (by omega) (fun j hj _ => decide_eq_false (hi2 j hj))]
  refine ret1 rfl rfl ?_
  exact .p (LeP.refl _)
set_option maxHeartbeats 4000000 in
theorem c_ContainsW (c : Bool) (l : List Int) (x : Int) (hn : l.length ≤ 1000000) : PCall Try.prog 48 [words c l, u32V x] (bV (Pl.hasL l x)) := by
 refine yV Try.func48 rfl (by simp [Try.ntmps48]) fun C hC => ?_
 refine zW (zV [0, 1]) ?_
 simp only [kp, zJ, simprocAttr]
 refine zK [] (by rw [hC]; rfl) fun k hk => ?_
 simp (maxSteps := 9^9) (disch := (try simp only [lens]); omega) only [zJ, sm, ↓amb, zQ, simprocAttr, dx]
 repeat refine an ?_
 refine hk _ ?_; clear hk k
 refine zW (zV [0, 1]) ?_
 simp only [kp, zJ, simprocAttr]
 refine zK [] (by rw [hC]; rfl) fun k hk => ?_
 simp (maxSteps := 9^9) (disch := (try simp only [lens]); omega) only [zJ, sm, ↓amb, zQ, simprocAttr, en64, dx]
 repeat refine an ?_
 refine yW (c_IndexW _ _ _ hn) rfl ?_
 simp (maxSteps := 9^9) (disch := (try simp only [lens]); omega) only [zJ, sm, ↓amb, zQ, simprocAttr, en64, dx]
 repeat refine an ?_
 refine hk _ ?_; clear hk k
 refine yQ ?_
 rw [← Pl.hasL_first]
 refine ret1 rfl rfl ?_
 exact .p (LeP.refl _)
set_option maxHeartbeats 4000000 in
theorem c_Without1 (d : Bool) (ban : List Int) (x : Int) (hn : ban.length ≤ 1000000) : HCall Try.prog 47 [.p (u32V x), .ptr 7 1 0 0] [(7, (.row 1 [[.p (words d ban)]]))] (.p (bV (Pl.hasL ban x))) [(7, (.row 1 [[.p (words d ban)]]))] := by
 refine xJ Try.func47 rfl (by simp [Try.ntmps47]) fun C hC => ?_
 refine zW (zV [0, 1]) ?_
 simp only [kp, zJ, simprocAttr]
 refine zK [] (by rw [hC]; rfl) fun k hk => ?_
 simp (maxSteps := 9^9) (disch := (try simp only [lens]); omega) only [zJ, sm, ↓amb, zQ, simprocAttr, dx]
 repeat refine an ?_
 refine hk _ ?_; clear hk k
 refine zW (zV [0, 1]) ?_
 simp only [kp, zJ, simprocAttr]
 refine zK [] (by rw [hC]; rfl) fun k hk => ?_
 simp (maxSteps := 9^9) (disch := (try simp only [lens]); omega) only [zJ, sm, ↓amb, zQ, simprocAttr, sz22, en48, dx]
 repeat refine an ?_
 refine yW (c_ContainsW _ _ _ hn) rfl ?_
 simp (maxSteps := 9^9) (disch := (try simp only [lens]); omega) only [zJ, sm, ↓amb, zQ, simprocAttr, sz22, en48, dx]
 repeat refine an ?_
 refine hk _ ?_; clear hk k
 refine yQ ?_
 refine reth1 rfl rfl ?_
 exact le_of [] (by rfl) (by rfl) ⟨⟨_, rfl, .p (.refl _)⟩, trivial⟩ ⟨⟨_, rfl, _, rfl, .one (.cons (.p (.refl _)) (.nil))⟩, trivial⟩
set_option maxHeartbeats 4000000 in
theorem c_IndexFuncW (d : Bool) (l ban : List Int) (hl : l.length ≤ 1000000) (hn : ban.length ≤ 1000000) : HCall Try.prog 63 [.own 7, (.fn 47 [.ptr 15 1 0 0])] [(7, (.row 1 (lift (l.map fun x => [u32V x])))), (15, (.row 1 [[.p (words d ban)]]))] (.p (iV (Pl.firstB (Pl.hasL ban) l))) [(7, (.row 1 (lift (l.map fun x => [u32V x])))), (15, (.row 1 [[.p (words d ban)]]))] := by
 refine xJ Try.func63 rfl (by simp [Try.ntmps63]) fun C hC => ?_
 refine zW (zV [0, 1]) ?_
 simp only [kp, zJ, simprocAttr]
 refine zK [] (by rw [hC]; rfl) fun k hk => ?_
 simp (maxSteps := 9^9) (disch := (try simp only [lens]); omega) only [zJ, sm, ↓amb, zQ, simprocAttr, dx, en47]
 repeat refine an ?_
 refine hk _ ?_; clear hk k
 refine zY fun k1 h1 => ?_
 refine zW (zV [0, 1, 4]) ?_
 simp only [kp, zJ, simprocAttr]
 refine zK [] (by rw [hC]; rfl) fun k hk => ?_
 simp (maxSteps := 9^9) (disch := (try simp only [lens]); omega) only [zJ, sm, ↓amb, zQ, simprocAttr, el22, dx, en47]
 repeat refine an ?_
 refine hk _ ?_; clear hk k
 refine yK ?_
 refine yY (σ := Nat) (fun i => i ≤ l.length ∧ ∀ j, j < i → Pl.hasL ban (l.getD j 0) = false) (fun (i : Nat) => ⟨[(0, (.own 7)), (1, (.fn 47 [.ptr 15 1 0 0])), (7, (.p (iV l.length))), (8, (.p (iV (i : Int))))], [(7, (.row 1 (lift (l.map fun x => [u32V x])))), (15, (.row 1 [[.p (words d ban)]]))], 1⟩) (fun i => l.length - i) 0 ?_ ?_ fun i hi => ?_
 ·exact ⟨Nat.zero_le _, fun j hj => by omega⟩
 ·exact le_of [] (by rfl) (by rfl) ⟨⟨_, rfl, .own rfl⟩, ⟨_, rfl, .fn rfl (LeRow.cons (.ptr rfl) .nil).2⟩, ⟨_, rfl, .oe⟩, ⟨_, rfl, .oe⟩, trivial⟩ ⟨⟨_, rfl, _, rfl, .liftE rfl⟩, ⟨_, rfl, _, rfl, .one (.cons (.p (.refl _)) (.nil))⟩, trivial⟩
 obtain ⟨hi1, hi2⟩ := hi
 refine zW (zV [0, 1, 4, 7, 8, 15]) ?_
 simp only [kp, zJ, simprocAttr]
 refine zK [] (by rw [hC]; rfl) fun k hk => ?_
 simp (maxSteps := 9^9) (disch := (try simp only [lens]); omega) only [zJ, sm, ↓amb, zQ, simprocAttr, dx, en47]
 repeat refine an ?_
 refine hk _ ?_; clear hk k
 refine zY fun k3 h3 => ?_
 refine zX rfl (fun hb => ?_) (fun hb => ?_)
 ·try simp only [hbx] at hb
  refine yJ ?_
  refine h3 _ ?_; clear h3 k3
  refine zY fun k4 h4 => ?_
  refine yK ?_
  refine zW (zV [0, 1, 4, 7, 8]) ?_
  simp only [kp, zJ, simprocAttr]
  refine zK [] (by rw [hC]; rfl) fun k hk => ?_
  simp (maxSteps := 9^9) (disch := (try simp only [lens]); omega) only [zJ, sm, ↓amb, zQ, simprocAttr, dx, en47]
  repeat refine an ?_
  refine hk _ ?_; clear hk k
  refine zW (zV [0, 1, 4, 5, 7, 8]) ?_
  simp only [kp, zJ, simprocAttr]
  refine zK [] (by rw [hC]; rfl) fun k hk => ?_
  simp (maxSteps := 9^9) (disch := (try simp only [lens]); omega) only [zJ, sm, ↓amb, zQ, simprocAttr, el22, sz41, dx, en47]
  repeat refine an ?_
  refine callK_h (c_Without1 d ban _ hn) [15] [7] (by first | rfl | (simp only [hm]; done)) (by first | rfl | (simp [namesOk, lkp]; done)) ?_ ?_ ?_ ?_ ?_ ?_ ?_
  (iterate 6 (focus (first | trivial | (intro n hn; cases hn; done) | (simp (maxSteps := 9^9) (disch := (try simp only [lens]); omega) only [zJ, sm, ↓amb, zQ, simprocAttr, el22, sz41, dx, en47, hmx, List.filter_cons, Nat.reduceBNe, imp_self, implies_true]; done))))
  simp (maxSteps := 9^9) (disch := (try simp only [lens]); omega) only [zJ, sm, ↓amb, zQ, simprocAttr, el22, sz41, dx, en47, hm, List.filter_cons, List.filter_nil, Nat.reduceBNe, Option.map_none]
  repeat refine an ?_
  refine hk _ ?_; clear hk k
  refine zX rfl (fun hb => ?_) (fun hb => ?_)
  ·try simp only [hbx] at hb
   refine zW (zV [5]) ?_
   simp only [kp, zJ, simprocAttr]
   refine zK [] (by rw [hC]; rfl) fun k hk => ?_
   simp (maxSteps := 9^9) (disch := (try simp only [lens]); omega) only [zJ, sm, ↓amb, zQ, simprocAttr, dx, en47]
   repeat refine an ?_
   refine hk _ ?_; clear hk k
   refine yQ ?_
   rw [Pl.firstB_at (p := Pl.hasL ban) (i := i) (by omega) hi2 hb]
   refine reth1 rfl rfl ?_
   exact le_of [] (by rfl) (by rfl) ⟨⟨_, rfl, .p (.refl _)⟩, trivial⟩ ⟨⟨_, rfl, _, rfl, .liftE (rfl)⟩, ⟨_, rfl, _, rfl, .one (.cons (.p (.refl _)) (.nil))⟩, trivial⟩
  ·try simp only [hbx] at hb
   refine yJ ?_
   refine h4 _ ?_; clear h4 k4
   refine yZ [] (by rw [hC]; rfl) fun k hk => ?_
   simp (maxSteps := 9^9) (disch := (try simp only [lens]); omega) only [zJ, sm, ↓amb, zQ, simprocAttr, dx, en47]
   repeat refine an ?_
   refine hk _ ?_; clear hk k
   refine ⟨i + 1, ⟨by omega, fun j hj => by by_cases e : j = i; (subst e; exact hb); exact hi2 j (by omega)⟩, le_of [] (by rfl) (by rfl) ⟨⟨_, rfl, .own rfl⟩, ⟨_, rfl, .fn rfl (LeRow.cons (.ptr rfl) .nil).2⟩, ⟨_, rfl, .oe⟩, ⟨_, rfl, .oe⟩, trivial⟩ ⟨⟨_, rfl, _, rfl, .liftE rfl⟩, ⟨_, rfl, _, rfl, .one (.cons (.p (.refl _)) (.nil))⟩, trivial⟩, by omega⟩
 ·try simp only [hbx] at hb
  refine yX ((if_pos rfl).mpr ?_)
  refine h1 _ ?_; clear h3 k3; clear h1 k1
  refine zW (zV []) ?_
  simp only [kp, zJ, simprocAttr]
  refine zK [] (by rw [hC]; rfl) fun k hk => ?_
  simp (maxSteps := 9^9) (disch := (try simp only [lens]); omega) only [zJ, sm, ↓amb, zQ, simprocAttr, dx, en47]
  repeat refine an ?_
  refine hk _ ?_; clear hk k
  refine yQ ?_
  rw [Pl.firstB_no (p := Pl.hasL ban) (i := i) (by omega) (fun j hj _ => hi2 j hj)]
  refine reth1 rfl rfl ?_
  exact le_of [] (by rfl) (by rfl) ⟨⟨_, rfl, .p (.refl _)⟩, trivial⟩ ⟨⟨_, rfl, _, rfl, .liftE (rfl)⟩, ⟨_, rfl, _, rfl, .one (.cons (.p (.refl _)) (.nil))⟩, trivial⟩
set_option maxHeartbeats 4000000 in
theorem c_DeleteFuncW (d : Bool) (l ban : List Int) (hl : l.length ≤ 1000000) (hn : ban.length ≤ 1000000) : HCall Try.prog 45 [.own 7, (.fn 47 [.ptr 15 1 0 0])] [(7, (.row 1 (lift (l.map fun x => [u32V x])))), (15, (.row 1 [[.p (words d ban)]]))] (.own 0) [(0, (.row 1 (lift ((Pl.woL l ban).map fun x => [u32V x])))), (15, (.row 1 [[.p (words d ban)]]))] := by
 refine xJ Try.func45 rfl (by simp [Try.ntmps45]) fun C hC => ?_
 refine zW (zV [0, 1]) ?_
 simp only [kp, zJ, simprocAttr]
 refine zK [41] (by rw [hC]; rfl) fun k hk => ?_
 simp (maxSteps := 9^9) (disch := (try simp only [lens]); omega) only [zJ, sm, ↓amb, zQ, simprocAttr, dx, en47]
 repeat refine an ?_
 refine hk _ ?_; clear hk k
 refine zW (zV [0, 1]) ?_
 simp only [kp, zJ, simprocAttr]
 refine zK [41] (by rw [hC]; rfl) fun k hk => ?_
 simp (maxSteps := 9^9) (disch := (try simp only [lens]); omega) only [zJ, sm, ↓amb, zQ, simprocAttr, en63, dx, en47]
 repeat refine an ?_
 refine callK_h (c_IndexFuncW d l ban hl hn) [7, 15] [7, 15] (by first | rfl | (simp only [hm]; done)) (by first | rfl | (simp [namesOk, lkp]; done)) ?_ ?_ ?_ ?_ ?_ ?_ ?_
 (iterate 6 (focus (first | trivial | (intro n hn; cases hn; done) | (simp (maxSteps := 9^9) (disch := (try simp only [lens]); omega) only [zJ, sm, ↓amb, zQ, simprocAttr, en63, dx, en47, hmx, List.filter_cons, Nat.reduceBNe, imp_self, implies_true]; done))))
 simp (maxSteps := 9^9) (disch := (try simp only [lens]); omega) only [zJ, sm, ↓amb, zQ, simprocAttr, en63, dx, en47, hm, List.filter_cons, List.filter_nil, Nat.reduceBNe, Option.map_none]
 repeat refine an ?_
 refine hk _ ?_; clear hk k
 refine zY fun k1 h1 => ?_
 refine zW (zV [0, 1, 4, 5]) ?_
 simp only [kp, zJ, simprocAttr]
 refine zK [41] (by rw [hC]; rfl) fun k hk => ?_
 simp (maxSteps := 9^9) (disch := (try simp only [lens]); omega) only [zJ, sm, ↓amb, zQ, simprocAttr, dx, en47]
 repeat refine an ?_
 refine hk _ ?_; clear hk k
 refine zX rfl (fun hb => ?_) (fun hb => ?_)
 ·try simp only [hbx] at hb
  refine zW (zV [0]) ?_
  simp only [kp, zJ, simprocAttr]
  refine zK [41] (by rw [hC]; rfl) fun k hk => ?_
  simp (maxSteps := 9^9) (disch := (try simp only [lens]); omega) only [zJ, sm, ↓amb, zQ, simprocAttr, dx, en47]
  repeat refine an ?_
  refine hk _ ?_; clear hk k
  refine yQ ?_
  have he : Pl.woL l ban = l := Pl.del_none hb
  rw [he]
  refine reth1 rfl rfl ?_
  exact le_of2 [(0, 7)] (by rfl) (by rfl) ⟨⟨_, rfl, .own rfl⟩, trivial⟩ ⟨⟨_, rfl, _, rfl, .liftE (rfl)⟩, ⟨_, rfl, _, rfl, .one (.cons (.p (.refl _)) (.nil))⟩, trivial⟩
 ·try simp only [hbx] at hb
  refine yJ ?_
  refine h1 _ ?_; clear h1 k1
  refine zY fun k2 h2 => ?_
  refine zW (zV [0, 1, 4, 5]) ?_
  simp only [kp, zJ, simprocAttr]
  have hg := Pl.firstB_ge (Pl.hasL ban) l
  obtain ⟨i, hi⟩ : ∃ i : Nat, (Pl.firstB (Pl.hasL ban) l) = i := ⟨(Pl.firstB (Pl.hasL ban) l).toNat, by omega⟩
  obtain ⟨hs1, hs2⟩ := Pl.del_start hi
  rw [hi]
  refine zK [41] (by rw [hC]; rfl) fun k hk => ?_
  simp (maxSteps := 9^9) (disch := (try simp only [lens]); omega) only [zJ, sm, ↓amb, zQ, simprocAttr, dx, en47]
  repeat refine an ?_
  refine hk _ ?_; clear hk k
  refine yK ?_
  refine yY (σ := Nat × List Int) (fun x => x.1 ≤ l.length ∧ Pl.DelI (Pl.hasL ban) l x.2 x.1) (fun x => ⟨[(0, (.own 7)), (1, (.fn 47 [.ptr 15 1 0 0])), (5, (.p (iV ((Pl.cntD (Pl.hasL ban) l x.1) : Nat)))), (6, (.p (iV (x.1 : Nat))))], [(7, (.row 1 (lift (x.2.map fun x => [u32V x])))), (15, (.row 1 [[.p (words d ban)]]))], 1⟩) (fun x => l.length - x.1) (i + 1, l) ?_ ?_ fun x hx => ?_
  ·exact ⟨by have := (Pl.firstB_spec hi).1; dsimp only; omega, hs1⟩
  ·exact le_of [] (by rfl) (by rfl) ⟨⟨_, rfl, .own rfl⟩, ⟨_, rfl, .fn rfl (LeRow.cons (.ptr rfl) .nil).2⟩, ⟨_, rfl, .oe⟩, ⟨_, rfl, .oe⟩, trivial⟩ ⟨⟨_, rfl, _, rfl, .liftE (by first | rfl | (dsimp only; rw [List.map_set]; done) | trace_state)⟩, ⟨_, rfl, _, rfl, .one (.cons (.p (.refl _)) (.nil))⟩, trivial⟩
  obtain ⟨j, r⟩ := x
  obtain ⟨hx1, hx2⟩ := hx
  dsimp only at hx1 hx2 ⊢
  refine zY fun k4 h4 => ?_
  refine zW (zV [0, 1, 4, 5, 6, 7, 15]) ?_
  simp only [kp, zJ, simprocAttr]
  refine zK [41] (by rw [hC]; rfl) fun k hk => ?_
  simp (maxSteps := 9^9) (disch := (try simp only [lens]); omega) only [zJ, sm, ↓amb, zQ, simprocAttr, el22, dx, en47]
  repeat refine an ?_
  refine hk _ ?_; clear hk k
  refine zX rfl (fun hb => ?_) (fun hb => ?_)
  ·try simp only [hbx] at hb
   refine yJ ?_
   refine h4 _ ?_; clear h4 k4
   refine zY fun k5 h5 => ?_
   refine yK ?_
   refine zW (zV [0, 1, 4, 5, 6, 15]) ?_
   simp only [kp, zJ, simprocAttr]
   have hlt := hx2.lt
   have hlen := hx2.len
   refine zK [41] (by rw [hC]; rfl) fun k hk => ?_
   simp (maxSteps := 9^9) (disch := (try simp only [lens]); omega) only [zJ, sm, ↓amb, zQ, simprocAttr, el22, sz41, dx, en47]
   repeat refine an ?_
   refine hk _ ?_; clear hk k
   refine zW (zV [0, 1, 4, 5, 6, 7, 15]) ?_
   simp only [kp, zJ, simprocAttr]
   refine zK [41] (by rw [hC]; rfl) fun k hk => ?_
   simp (maxSteps := 9^9) (disch := (try simp only [lens]); omega) only [zJ, sm, ↓amb, zQ, simprocAttr, dx, en47]
   repeat refine an ?_
   refine callK_h (c_Without1 d ban _ hn) [15] [7] (by first | rfl | (simp only [hm]; done)) (by first | rfl | (simp [namesOk, lkp]; done)) ?_ ?_ ?_ ?_ ?_ ?_ ?_
   (iterate 6 (focus (first | trivial | (intro n hn; cases hn; done) | (simp (maxSteps := 9^9) (disch := (try simp only [lens]); omega) only [zJ, sm, ↓amb, zQ, simprocAttr, dx, en47, hmx, List.filter_cons, Nat.reduceBNe, imp_self, implies_true]; done))))
   simp (maxSteps := 9^9) (disch := (try simp only [lens]); omega) only [zJ, sm, ↓amb, zQ, simprocAttr, dx, en47, hm, List.filter_cons, List.filter_nil, Nat.reduceBNe, Option.map_none]
   repeat refine an ?_
   refine hk _ ?_; clear hk k
   refine zX rfl (fun hb => ?_) (fun hb => ?_)
   ·try simp only [hbx] at hb
    refine zW (zV [0, 1, 4, 5, 6, 7, 15]) ?_
    simp only [kp, zJ, simprocAttr]
    have hlt := hx2.lt
    have hlen := hx2.len
    refine zK [41] (by rw [hC]; rfl) fun k hk => ?_
    simp (maxSteps := 9^9) (disch := (try simp only [lens]); omega) only [zJ, sm, ↓amb, zQ, simprocAttr, el22, sz41, dx, en47]
    repeat refine an ?_
    refine hk _ ?_; clear hk k
    refine yZ [41] (by rw [hC]; rfl) fun k hk => ?_
    simp (maxSteps := 9^9) (disch := (try simp only [lens]); omega) only [zJ, sm, ↓amb, zQ, simprocAttr, dx, en47]
    repeat refine an ?_
    refine hk _ ?_; clear hk k
    refine h5 _ ?_; clear h5 k5
    obtain ⟨hk1, hk2⟩ := hx2.keepI (by omega) hb
    refine yZ [41] (by rw [hC]; rfl) fun k hk => ?_
    simp (maxSteps := 9^9) (disch := (try simp only [lens]); omega) only [zJ, sm, ↓amb, zQ, simprocAttr, dx, en47]
    repeat refine an ?_
    refine hk _ ?_; clear hk k
    refine ⟨(j + 1, r.set (Pl.cntD (Pl.hasL ban) l j) (r.getD j 0)), ⟨by dsimp only; omega, hk1⟩, le_of [] (by rfl) (by rfl) ⟨⟨_, rfl, .own rfl⟩, ⟨_, rfl, .fn rfl (LeRow.cons (.ptr rfl) .nil).2⟩, ⟨_, rfl, .oe⟩, ⟨_, rfl, .oe⟩, trivial⟩ ⟨⟨_, rfl, _, rfl, .liftE (by first | rfl | (dsimp only; rw [List.map_set]; done) | trace_state)⟩, ⟨_, rfl, _, rfl, .one (.cons (.p (.refl _)) (.nil))⟩, trivial⟩, (by dsimp only; omega)⟩
   ·try simp only [hbx] at hb
    refine yJ ?_
    refine h5 _ ?_; clear h5 k5
    obtain ⟨hk1, hk2⟩ := hx2.skipI (by omega) hb
    refine yZ [41] (by rw [hC]; rfl) fun k hk => ?_
    simp (maxSteps := 9^9) (disch := (try simp only [lens]); omega) only [zJ, sm, ↓amb, zQ, simprocAttr, dx, en47]
    repeat refine an ?_
    refine hk _ ?_; clear hk k
    refine ⟨(j + 1, r), ⟨by dsimp only; omega, hk1⟩, le_of [] (by rfl) (by rfl) ⟨⟨_, rfl, .own rfl⟩, ⟨_, rfl, .fn rfl (LeRow.cons (.ptr rfl) .nil).2⟩, ⟨_, rfl, .oe⟩, ⟨_, rfl, .oe⟩, trivial⟩ ⟨⟨_, rfl, _, rfl, .liftE (by first | rfl | (dsimp only; rw [List.map_set]; done) | trace_state)⟩, ⟨_, rfl, _, rfl, .one (.cons (.p (.refl _)) (.nil))⟩, trivial⟩, (by dsimp only; omega)⟩
  ·try simp only [hbx] at hb
   refine yX ((if_pos rfl).mpr ?_)
   refine h2 _ ?_; clear h4 k4; clear h2 k2
   refine zW (zV [0, 5]) ?_
   simp only [kp, zJ, simprocAttr]
   have hlen := hx2.len
   obtain rfl : j = l.length := by omega
   have hcl := Pl.cntD_le (Pl.hasL ban) l l.length
   refine zK [41] (by rw [hC]; rfl) fun k hk => ?_
   simp (maxSteps := 9^9) (disch := (try simp only [lens]); omega) only [zJ, sm, ↓amb, zQ, simprocAttr, el22, sz41, vr41, dx, en47]
   repeat refine an ?_
   refine hk _ ?_; clear hk k
   refine zW (zV [0, 5]) ?_
   simp only [kp, zJ, simprocAttr]
   refine zK [41] (by rw [hC]; rfl) fun k hk => ?_
   simp (maxSteps := 9^9) (disch := (try simp only [lens]); omega) only [zJ, sm, ↓amb, zQ, simprocAttr, el22, sz41, dx, en47]
   repeat refine an ?_
   refine hk _ ?_; clear hk k
   refine yQ ?_
   have he := hx2.all
   rw [show Pl.woL l ban = _ from he.symm]
   refine reth1 rfl rfl ?_
   exact le_of2 [(0, _)] (by rfl) (by rfl) ⟨⟨_, rfl, .own rfl⟩, trivial⟩ ⟨⟨_, rfl, _, rfl, (by rw [take_liftA (by rw [List.length_map, List.length_take]; omega)]; exact .liftE rfl)⟩, ⟨_, rfl, _, rfl, .one (.cons (.p (.refl _)) (.nil))⟩, trivial⟩
set_option maxHeartbeats 4000000 in
theorem c_CloneW (c : Bool) (l : List Int) (hl : l.length ≤ 1000000) : OCall Try.prog 46 [words c l] 1 (l.map fun x => [u32V x]) := by
 refine ocall_of_awp Try.func46 rfl (by simp [Try.ntmps46]) fun C hC => ?_
 refine zK [7] (by rw [hC]; rfl) fun k hk => ?_
 simp (maxSteps := 9^9) (disch := (try simp only [lens]); omega) only [zJ, sm, ↓amb, zQ, simprocAttr, dx]
 repeat refine an ?_
 refine hk _ ?_; clear hk k
 refine zY fun k1 h1 => ?_
 refine awp_nil 41 (of_decide_eq_true (by rw [hC]; rfl)) (of_decide_eq_true (by rw [hC]; rfl)) el22 rfl fun bq1 hq1 => ?_
 refine zX rfl (fun hb => ?_) (fun hb => ?_)
 ·try simp only [hbx] at hb
  have he := hq1 hb
  refine zK [7] (by rw [hC]; rfl) fun k hk => ?_
  simp (maxSteps := 9^9) (disch := (try simp only [lens]); omega) only [zJ, sm, ↓amb, zQ, simprocAttr, dx]
  repeat refine an ?_
  refine hk _ ?_; clear hk k
  refine yQ ?_
  exact reton (by rw [he]) rfl rfl
 ·try simp only [hbx] at hb
  refine yJ ?_
  refine h1 _ ?_; clear h1 k1
  refine zK [7] (by rw [hC]; rfl) fun k hk => ?_
  simp (maxSteps := 9^9) (disch := (try simp only [lens]); omega) only [zJ, sm, ↓amb, zQ, simprocAttr, el22, vr41, by41, dx]
  repeat refine an ?_
  refine hk _ ?_; clear hk k
  refine yQ ?_
  refine reto1 rfl rfl ?_
  rfl
set_option maxHeartbeats 4000000 in
theorem c_dedup_Without (c d : Bool) (l ban : List Int) (hl : l.length ≤ 1000000) (hn : ban.length ≤ 1000000) : PCall Try.prog 26 [words c l, words d ban] (words false (Pl.woL l ban)) := by
 refine yV Try.func26 rfl (by simp [Try.ntmps26]) fun C hC => ?_
 refine zW (zV [0, 1]) ?_
 simp only [kp, zJ, simprocAttr]
 refine zK [] (by rw [hC]; rfl) fun k hk => ?_
 simp (maxSteps := 9^9) (disch := (try simp only [lens]); omega) only [zJ, sm, ↓amb, zQ, simprocAttr, dx]
 repeat refine an ?_
 refine hk _ ?_; clear hk k
 refine zW (zV [0, 3]) ?_
 simp only [kp, zJ, simprocAttr]
 refine zK [] (by rw [hC]; rfl) fun k hk => ?_
 simp (maxSteps := 9^9) (disch := (try simp only [lens]); omega) only [zJ, sm, ↓amb, zQ, simprocAttr, en46, en45, dx]
 repeat refine an ?_
 refine callK_o (c_CloneW c l hl) rfl ?_
 simp (maxSteps := 9^9) (disch := (try simp only [lens]); omega) only [zJ, sm, ↓amb, zQ, simprocAttr, en46, en45, dx]
 repeat refine an ?_
 refine callK_h (c_DeleteFuncW d l ban hl hn) [24, 0] [15] (by first | rfl | (simp only [hm]; done)) (by first | rfl | (simp [namesOk, lkp]; done)) ?_ ?_ ?_ ?_ ?_ ?_ ?_
 (iterate 6 (focus (first | trivial | (intro n hn; cases hn; done) | (simp (maxSteps := 9^9) (disch := (try simp only [lens]); omega) only [zJ, sm, ↓amb, zQ, simprocAttr, en46, en45, dx, hmx, List.filter_cons, Nat.reduceBNe, imp_self, implies_true]; done))))
 simp (maxSteps := 9^9) (disch := (try simp only [lens]); omega) only [zJ, sm, ↓amb, zQ, simprocAttr, en46, en45, dx, hm, List.filter_cons, List.filter_nil, Nat.reduceBNe, Option.map_none]
 repeat refine an ?_
 refine hk _ ?_; clear hk k
 refine yQ ?_
 refine ret1 rfl rfl ?_
 exact .ownE rfl rfl
end Go.Proofs.Ytbehekmnccoifaa
end
section
set_option linter.unusedSimpArgs false
set_option linter.unusedVariables false
set_option maxRecDepth 100000
namespace Go.Proofs.Ytbehekmnccoifaa
open Go.Am Go.Proofs
theorem bt59 : tBuilt Try.prog 59 = true := by kernel_rfl
theorem it3 : tInt Try.prog 3 = some .i64 := by kernel_rfl
theorem it82 : tInt Try.prog 82 = some .u16 := by kernel_rfl
theorem pl59_0 : tPlace Try.prog 59 0 = some (0, 1) := by kernel_rfl
theorem pl59_1 : tPlace Try.prog 59 1 = some (1, 1) := by kernel_rfl
theorem sz59 : tSz Try.prog 59 = some (true, 2) := by kernel_rfl
theorem un41 : (Try.prog.underlying 41).isSome = true := by kernel_rfl
theorem un82 : (Try.prog.underlying 82).isSome = true := by kernel_rfl
theorem vr59 : tVar Try.prog 59 = some (true, [.lit (.int .i64 0), .lit (.int .i64 0)]) := by kernel_rfl
set_option maxHeartbeats 4000000 in
theorem c_dedup_Edge (k : Int) (hk' : Pl.W32 k) : PCall Try.prog 32 [u32V k] (.agg (edgeC (Pl.unkey k))) := by
 refine yV Try.func32 rfl (by simp [Try.ntmps32]) fun C hC => ?_
 refine zW (zV [0]) ?_
 simp only [kp, zJ, simprocAttr]
 refine zK [] (by rw [hC]; rfl) fun k hk => ?_
 simp (maxSteps := 9^9) (disch := (try simp only [lens]); omega) only [zJ, sm, ↓amb, zQ, simprocAttr, vr59, wr_u32, dx]
 repeat refine an ?_
 refine hk _ ?_; clear hk k
 refine zW (zV [0, 2]) ?_
 simp only [kp, zJ, simprocAttr]
 refine zK [] (by rw [hC]; rfl) fun k hk => ?_
 simp (maxSteps := 9^9) (disch := (try simp only [lens]); omega) only [zJ, sm, ↓amb, zQ, simprocAttr, it3, un41, it82, un82, vr59, bt59, pl59_0, pl59_1, sz59, wr_u32, dx]
 repeat refine an ?_
 refine hk _ ?_; clear hk k
 refine yQ ?_
 have u1 : (2 : Int) ^ min 16 IntKind.u32.bits = 65536 := by decide
 have u2 := wrap64_of (x := k / 65536) (by omega) (by omega)
 have u3 := wrap64_of (x := k % 65536) (by omega) (by omega)
 refine retone rfl (retc rfl sz59 ?_)
 simp (maxSteps := 9^9) (disch := (try simp only [lens]); omega) only [zJ, sm, ↓amb, zQ, simprocAttr, sz59, wr_u32, dx]
 refine .p (LeP.of_eq ?_)
 first | (rw [u1, u2]; first | done | rfl | (rw [wr_u16, u3]; rfl)) | (show PV.agg [iV _, iV _] = PV.agg [iV (k / 65536), iV (k % 65536)]; rw [show k / 65536 % 4294967296 = k / 65536 from by omega]) | trace_state
set_option maxHeartbeats 4000000 in
theorem c_ref11_Edge (k : Int) (hk' : Pl.W32 k) : PCall Try.prog 33 [u32V k] (.agg (edgeC (Pl.unkey k))) := by
 refine yV Try.func33 rfl (by simp [Try.ntmps33]) fun C hC => ?_
 refine zW (zV [0]) ?_
 simp only [kp, zJ, simprocAttr]
 refine zK [] (by rw [hC]; rfl) fun k hk => ?_
 simp (maxSteps := 9^9) (disch := (try simp only [lens]); omega) only [zJ, sm, ↓amb, zQ, simprocAttr, vr59, wr_u32, dx]
 repeat refine an ?_
 refine hk _ ?_; clear hk k
 refine zW (zV [0, 2]) ?_
 simp only [kp, zJ, simprocAttr]
 refine zK [] (by rw [hC]; rfl) fun k hk => ?_
 simp (maxSteps := 9^9) (disch := (try simp only [lens]); omega) only [zJ, sm, ↓amb, zQ, simprocAttr, it3, un41, vr59, bt59, pl59_0, pl59_1, sz59, wr_u32, dx]
 repeat refine an ?_
 refine hk _ ?_; clear hk k
 refine yQ ?_
 have u1 : (2 : Int) ^ min 16 IntKind.u32.bits = 65536 := by decide
 have u2 := wrap64_of (x := k / 65536) (by omega) (by omega)
 have u3 := wrap64_of (x := k % 65536) (by omega) (by omega)
 refine retone rfl (retc rfl sz59 ?_)
 simp (maxSteps := 9^9) (disch := (try simp only [lens]); omega) only [zJ, sm, ↓amb, zQ, simprocAttr, sz59, wr_u32, dx]
 refine .p (LeP.of_eq ?_)
 first | (rw [u1, u2]; first | done | rfl | (rw [wr_u16, u3]; rfl)) | (show PV.agg [iV _, iV _] = PV.agg [iV (k / 65536), iV (k % 65536)]; rw [show k / 65536 % 4294967296 = k / 65536 from by omega]) | trace_state
set_option maxHeartbeats 4000000 in
theorem c_ref11_Key (e : Pl.Edge) : PCall Try.prog 31 [.agg (edgeC e)] (.tup [u32V (Pl.keyE e), bV (decide ((0 ≤ e.u ∧ e.u < 65536) ∧ 0 ≤ e.v ∧ e.v < 65536))]) := by
 refine yV Try.func31 rfl (by simp [Try.ntmps31]) fun C hC => ?_
 refine zW (zV [0]) ?_
 simp only [kp, zJ, simprocAttr]
 refine zK [] (by rw [hC]; rfl) fun k hk => ?_
 simp (maxSteps := 9^9) (disch := (try simp only [lens]); omega) only [zJ, sm, ↓amb, zQ, simprocAttr, wr_u32, dx]
 repeat refine an ?_
 refine hk _ ?_; clear hk k
 refine zY fun k1 h1 => ?_
 refine xQ [] 21 (decide (¬ ((0 ≤ e.u ∧ e.u < 65536) ∧ 0 ≤ e.v ∧ e.v < 65536))) [1, 2, 3] (by rw [hC]; rfl) (fun gd hgd k hk => ?_) ?_
 ·have g3 : gd 3 = some 7 := by rw [hgd]; rfl
  have g8 : gd 8 = some 12 := by rw [hgd]; rfl
  have g13 : gd 13 = some 17 := by rw [hgd]; rfl
  clear hgd
  simp (maxSteps := 9^9) (disch := (try simp only [lens]); omega) only [zJ, sm, ↓amb, zQ, simprocAttr, fl59_0, sz3, fl59_1, zZ, g3, g8, g13, wr_u32, dx]
  repeat' first | refine hk _ _ rfl rfl rfl rfl ?_ | (refine gsplit (fun hg => ?_) (fun hg => ?_) <;> (try simp only [hbx] at hg) <;> simp (maxSteps := 9^9) (disch := (try simp only [lens]); omega) only [zJ, sm, ↓amb, zQ, simprocAttr, fl59_0, sz3, fl59_1, zZ, g3, g8, g13, wr_u32, dx]) | apply And.intro | fail
  all_goals first | rfl | omega | exact (decide_eq_true (by omega)).symm | exact (decide_eq_false (by omega)).symm | exact decide_eq_decide.mpr (by omega) | (refine Bool.eq_iff_iff.mpr ?_; simp only [beq_iff_eq, bne_iff_ne, ne_eq, decide_eq_true_eq]; omega) | (refine Bool.eq_iff_iff.mpr ?_; simp only [Bool.not_eq_true', Bool.not_eq_false', decide_eq_false_iff_not, decide_eq_true_eq, beq_iff_eq, bne_iff_ne, ne_eq]; omega) | assumption | (simp; done) | (simp [maxLen]; omega) | skip
 simp only [kp, zJ, simprocAttr, List.length_cons, List.length_nil]
 refine zX rfl (fun hb => ?_) (fun hb => ?_)
 ·try simp only [hbx] at hb
  refine zW (zV []) ?_
  simp only [kp, zJ, simprocAttr]
  refine zK [] (by rw [hC]; rfl) fun k hk => ?_
  simp (maxSteps := 9^9) (disch := (try simp only [lens]); omega) only [zJ, sm, ↓amb, zQ, simprocAttr, wr_u32, dx]
  repeat refine an ?_
  refine hk _ ?_; clear hk k
  refine yQ ?_
  have hk0 : ¬ ((0 ≤ e.u ∧ e.u < 65536) ∧ 0 ≤ e.v ∧ e.v < 65536) := by first | exact hb | simpa using hb
  rw [show Pl.keyE e = 0 from if_neg hk0, decide_eq_false hk0]
  refine ret2 rfl rfl rfl ?_ ?_
  ·exact .p (LeP.refl _)
  ·exact .p (LeP.refl _)
 ·try simp only [hbx] at hb
  refine yJ ?_
  refine h1 _ ?_; clear h1 k1
  refine zW (zV [1]) ?_
  simp only [kp, zJ, simprocAttr]
  have hk0 : ((0 ≤ e.u ∧ e.u < 65536) ∧ 0 ≤ e.v ∧ e.v < 65536) := by first | exact hb | exact Decidable.not_not.1 hb
  refine zK [] (by rw [hC]; rfl) fun k hk => ?_
  simp (maxSteps := 9^9) (disch := (try simp only [lens]); omega) only [zJ, sm, ↓amb, zQ, simprocAttr, fl59_0, sz3, fl59_1, it41, un3, wr_u32, dx]
  repeat refine an ?_
  refine hk _ ?_; clear hk k
  refine yQ ?_
  rw [show Pl.keyE e = min e.u e.v * 65536 + max e.u e.v from if_pos hk0, decide_eq_true hk0]
  refine ret2 rfl rfl rfl ?_ ?_
  ·exact .p (LeP.of_eq (by first | rfl | (show PV.lit (.int .u32 _) = PV.lit (.int .u32 _); congr 2; omega) | trace_state))
  ·exact .p (LeP.refl _)
end Go.Proofs.Ytbehekmnccoifaa
end
section
set_option linter.unusedSimpArgs false
set_option linter.unusedVariables false
set_option maxRecDepth 100000
namespace Go.Proofs.Ytbehekmnccoifaa
open Go.Am Go.Proofs
theorem el53 : tEl Try.prog 53 = some 59 := by kernel_rfl
theorem ff59 : tFlat Try.prog 59 = some [some .i64, some .i64] := by kernel_rfl
set_option maxHeartbeats 4000000 in
theorem c_ref11_Same (c d : Bool) (a b : List Pl.Edge) (ha : a.length ≤ 1000000) : PCall Try.prog 34 [.seq c (a.map edgeC), .seq d (b.map edgeC)] (bV (decide (a = b))) := by
 refine yV Try.func34 rfl (by simp [Try.ntmps34]) fun C hC => ?_
 refine zW (zV [0, 1]) ?_
 simp only [kp, zJ, simprocAttr]
 refine zK [] (by rw [hC]; rfl) fun k hk => ?_
 simp (maxSteps := 9^9) (disch := (try simp only [lens]); omega) only [zJ, sm, ↓amb, zQ, simprocAttr, dx]
 repeat refine an ?_
 refine hk _ ?_; clear hk k
 refine zY fun k1 h1 => ?_
 refine zW (zV [0, 1, 4]) ?_
 simp only [kp, zJ, simprocAttr]
 refine zK [] (by rw [hC]; rfl) fun k hk => ?_
 simp (maxSteps := 9^9) (disch := (try simp only [lens]); omega) only [zJ, sm, ↓amb, zQ, simprocAttr, el53, dx]
 repeat refine an ?_
 refine hk _ ?_; clear hk k
 refine zX rfl (fun hb => ?_) (fun hb => ?_)
 ·try simp only [hbx] at hb
  refine zW (zV []) ?_
  simp only [kp, zJ, simprocAttr]
  refine zK [] (by rw [hC]; rfl) fun k hk => ?_
  simp (maxSteps := 9^9) (disch := (try simp only [lens]); omega) only [zJ, sm, ↓amb, zQ, simprocAttr, dx]
  repeat refine an ?_
  refine hk _ ?_; clear hk k
  refine yQ ?_
  refine ret1 rfl rfl ?_
  exact .p (LeP.of_eq (by rw [decide_eq_false (fun e => hb (by rw [e]))]))
 ·try simp only [hbx] at hb
  refine yJ ?_
  refine h1 _ ?_; clear h1 k1
  refine zY fun k2 h2 => ?_
  refine zW (zV [0, 1, 4]) ?_
  simp only [kp, zJ, simprocAttr]
  have hab : a.length = b.length := by omega
  refine zK [] (by rw [hC]; rfl) fun k hk => ?_
  simp (maxSteps := 9^9) (disch := (try simp only [lens]); omega) only [zJ, sm, ↓amb, zQ, simprocAttr, dx]
  repeat refine an ?_
  refine hk _ ?_; clear hk k
  refine yK ?_
  refine yY (σ := Nat) (fun i => i ≤ a.length ∧ ∀ j, j < i → a.getD j default = b.getD j default) (fun (i : Nat) => ⟨[(0, (.p (.seq c (a.map edgeC)))), (1, (.p (.seq d (b.map edgeC)))), (5, (.p (iV i)))], [], 1⟩) (fun i => a.length - i) 0 ?_ ?_ fun i hi => ?_
  ·exact ⟨Nat.zero_le _, fun j hj => by omega⟩
  ·exact le_of [] (by rfl) (by rfl) ⟨⟨_, rfl, .oe⟩, ⟨_, rfl, .oe⟩, ⟨_, rfl, .oe⟩, trivial⟩ trivial
  obtain ⟨hi1, hi2⟩ := hi
  refine zY fun k4 h4 => ?_
  refine zW (zV [0, 1, 4, 5]) ?_
  simp only [kp, zJ, simprocAttr]
  refine zK [] (by rw [hC]; rfl) fun k hk => ?_
  simp (maxSteps := 9^9) (disch := (try simp only [lens]); omega) only [zJ, sm, ↓amb, zQ, simprocAttr, el53, dx]
  repeat refine an ?_
  refine hk _ ?_; clear hk k
  refine zX rfl (fun hb => ?_) (fun hb => ?_)
  ·try simp only [hbx] at hb
   refine yJ ?_
   refine h4 _ ?_; clear h4 k4
   refine zY fun k5 h5 => ?_
   refine yK ?_
   refine awp_testD [] ⟨[0, 0, 3, 7, 0, 0, 48, 112, 255], [3, 7], [], [], some []⟩ 25 (decide (¬ a.getD i default = b.getD i default)) [0, 1, 4, 5] (by rw [hC]; rfl) (by kernel_rfl) (by kernel_rfl) (fun gd hgd k hk => ?_) ?_
   ·clear hgd
    simp (maxSteps := 9^9) (disch := (try simp only [lens]); omega) only [zJ, sm, ↓amb, zQ, simprocAttr, el53, sz59, ff59, zZ, dx]
    repeat' first | refine hk _ _ rfl rfl rfl rfl ?_ | (refine gsplit (fun hg => ?_) (fun hg => ?_) <;> (try simp only [hbx] at hg) <;> simp (maxSteps := 9^9) (disch := (try simp only [lens]); omega) only [zJ, sm, ↓amb, zQ, simprocAttr, el53, sz59, ff59, zZ, dx]) | apply And.intro | fail
    all_goals first | rfl | omega | exact (decide_eq_true (by omega)).symm | exact (decide_eq_false (by omega)).symm | exact decide_eq_decide.mpr (by omega) | (refine Bool.eq_iff_iff.mpr ?_; simp only [beq_iff_eq, bne_iff_ne, ne_eq, decide_eq_true_eq]; omega) | (refine Bool.eq_iff_iff.mpr ?_; simp only [Bool.not_eq_true', Bool.not_eq_false', decide_eq_false_iff_not, decide_eq_true_eq, beq_iff_eq, bne_iff_ne, ne_eq]; omega) | assumption | (simp; done) | (simp [maxLen]; omega) | skip
    all_goals exact Pl.edge_ne _ _
   simp only [kp, zJ, simprocAttr, List.length_cons, List.length_nil]
   refine zX rfl (fun hb => ?_) (fun hb => ?_)
   ·try simp only [hbx] at hb
    refine zW (zV []) ?_
    simp only [kp, zJ, simprocAttr]
    refine zK [] (by rw [hC]; rfl) fun k hk => ?_
    simp (maxSteps := 9^9) (disch := (try simp only [lens]); omega) only [zJ, sm, ↓amb, zQ, simprocAttr, dx]
    repeat refine an ?_
    refine hk _ ?_; clear hk k
    refine yQ ?_
    refine ret1 rfl rfl ?_
    exact .p (LeP.of_eq (by rw [decide_eq_false (fun e => hb (by rw [e]))]))
   ·try simp only [hbx] at hb
    refine yJ ?_
    refine h5 _ ?_; clear h5 k5
    refine yZ [] (by rw [hC]; rfl) fun k hk => ?_
    simp (maxSteps := 9^9) (disch := (try simp only [lens]); omega) only [zJ, sm, ↓amb, zQ, simprocAttr, dx]
    repeat refine an ?_
    refine hk _ ?_; clear hk k
    refine ⟨i + 1, ⟨by omega, fun j hj => by by_cases e : j = i; (subst e; first | exact hb | exact Decidable.not_not.1 hb); exact hi2 j (by omega)⟩, le_of [] (by rfl) (by rfl) ⟨⟨_, rfl, .oe⟩, ⟨_, rfl, .oe⟩, ⟨_, rfl, .oe⟩, trivial⟩ trivial, by omega⟩
  ·try simp only [hbx] at hb
   refine yX ((if_pos rfl).mpr ?_)
   refine h2 _ ?_; clear h4 k4; clear h2 k2
   refine zW (zV []) ?_
   simp only [kp, zJ, simprocAttr]
   refine zK [] (by rw [hC]; rfl) fun k hk => ?_
   simp (maxSteps := 9^9) (disch := (try simp only [lens]); omega) only [zJ, sm, ↓amb, zQ, simprocAttr, dx]
   repeat refine an ?_
   refine hk _ ?_; clear hk k
   refine yQ ?_
   refine ret1 rfl rfl ?_
   exact .p (LeP.of_eq (by rw [decide_eq_true (Pl.edges_of hab (by omega) hi2)]))
end Go.Proofs.Ytbehekmnccoifaa
end
section
set_option linter.unusedSimpArgs false
set_option linter.unusedVariables false
set_option maxRecDepth 100000
namespace Go.Proofs.Ytbehekmnccoifaa
open Go.Am Go.Proofs
theorem awp_regiong {P : Program} {C : Ctx} {K : Exit → LS → Prop} {s : LS} {id : Nat} {l : List Oper} (H : List Nat) (hf : inFrame C.n l.toArray = true)
    (h : ∀ gd, gd = gdOf l.toArray → ∀ k : LS → Prop, (∀ s', K .normal s' → k s') → aops P H gd (fun s' => k ⟨s'.sl, s'.hp, s'.nx + l.length⟩) 0 l s) : Awp P C (.region id l.toArray false) K s := yZ H hf (h _ rfl)
set_option maxHeartbeats 4000000 in
theorem c_dedup_firsts (c : Bool) (l : List Int) (hl : ∀ x, x ∈ l → Pl.W32 x) (hn : l.length ≤ 1000000) : PCall Try.prog 43 [words c l] (.seq false ((Pl.firstsL l).map fun q => [bV q])) := by
 refine yV Try.func43 rfl (by simp [Try.ntmps43]) fun C hC => ?_
 refine zW (zV [0]) ?_
 simp only [kp, zJ, simprocAttr]
 refine zK [] (by rw [hC]; rfl) fun k hk => ?_
 simp (maxSteps := 9^9) (disch := (try simp only [lens]); omega) only [zJ, sm, ↓amb, zQ, simprocAttr, dx]
 repeat refine an ?_
 refine hk _ ?_; clear hk k
 refine zW (zV [0]) ?_
 simp only [kp, zJ, simprocAttr]
 refine zK [] (by rw [hC]; rfl) fun k hk => ?_
 simp (maxSteps := 9^9) (disch := (try simp only [lens]); omega) only [zJ, sm, ↓amb, zQ, simprocAttr, el22, el23, by4, vr4, dx]
 repeat refine an ?_
 refine hk _ ?_; clear hk k
 refine zY fun k1 h1 => ?_
 refine zW (zV [0, 2, 3]) ?_
 simp only [kp, zJ, simprocAttr]
 refine zK [] (by rw [hC]; rfl) fun k hk => ?_
 simp (maxSteps := 9^9) (disch := (try simp only [lens]); omega) only [zJ, sm, ↓amb, zQ, simprocAttr, el22, dx]
 repeat refine an ?_
 refine hk _ ?_; clear hk k
 refine yK ?_
 refine yY (σ := Nat) (fun i => i ≤ l.length) (fun (i : Nat) => ⟨[(0, (.p (words c l))), (3, (.own 0)), (9, (.p (words c l))), (10, (.p (iV l.length))), (11, (.p (iV (i : Int))))], [(0, (.row 1 (lift ((Pl.firT l i).map fun q => [bV q]))))], 1⟩) (fun i => l.length - i) 0 ?_ ?_ fun i hi => ?_
 ·exact Nat.zero_le _
 ·exact le_of [(0, _)] (by rfl) (by rfl) ⟨⟨_, rfl, .oe⟩, ⟨_, rfl, .own rfl⟩, ⟨_, rfl, .oe⟩, ⟨_, rfl, .oe⟩, ⟨_, rfl, .oe⟩, trivial⟩ ⟨⟨_, rfl, _, rfl, .liftE (by first | (rw [Pl.firT_0, List.map_replicate]; done) | (rw [← Pl.firT_set, List.map_set, z1 (by omega)]; first | done | rfl) | (rw [← Pl.firT_set, List.map_set, z2 (by omega), ← z3]; first | done | rfl) | trace_state)⟩, trivial⟩
 refine zW (zV [0, 2, 3, 9, 10, 11]) ?_
 simp only [kp, zJ, simprocAttr]
 refine zK [] (by rw [hC]; rfl) fun k hk => ?_
 simp (maxSteps := 9^9) (disch := (try simp only [lens]); omega) only [zJ, sm, ↓amb, zQ, simprocAttr, dx]
 repeat refine an ?_
 refine hk _ ?_; clear hk k
 refine zY fun k3 h3 => ?_
 refine zX rfl (fun hb => ?_) (fun hb => ?_)
 ·try simp only [hbx] at hb
  refine yJ ?_
  refine h3 _ ?_; clear h3 k3
  refine zY fun k4 h4 => ?_
  refine yK ?_
  refine zW (zV [0, 2, 3, 9, 10, 11]) ?_
  simp only [kp, zJ, simprocAttr]
  refine zK [] (by rw [hC]; rfl) fun k hk => ?_
  simp (maxSteps := 9^9) (disch := (try simp only [lens]); omega) only [zJ, sm, ↓amb, zQ, simprocAttr, el22, sz41, dx]
  repeat refine an ?_
  refine hk _ ?_; clear hk k
  have zl := Pl.firT_len l i
  have z1 := fun h => Pl.firB_0 (l := l) (i := i) h
  have z2 := fun h => Pl.firB_1 (l := l) (i := i) h
  have z3 : ((i : Int) - 1).toNat = i - 1 := by omega
  refine awp_regiong [] (by rw [hC]; rfl) fun gd hgd k hk => ?_
  have g4 : gd 4 = some 20 := by rw [hgd]; rfl
  clear hgd
  simp (maxSteps := 9^9) (disch := (try simp only [lens]); omega) only [zJ, sm, ↓amb, zQ, simprocAttr, el22, sz41, el23, sz4, g4, a07, dx]
  repeat refine an ?_
  refine ⟨fun hg => ?_, fun hg => ?_⟩
  ·try simp only [hbx] at hg
   repeat refine an ?_
   refine hk _ ?_; clear hk k
   refine h4 _ ?_; clear h4 k4
   refine yZ [] (by rw [hC]; rfl) fun k hk => ?_
   simp (maxSteps := 9^9) (disch := (try simp only [lens]); omega) only [zJ, sm, ↓amb, zQ, simprocAttr, dx]
   repeat refine an ?_
   refine hk _ ?_; clear hk k
   refine ⟨i + 1, by omega, le_of [(0, _)] (by rfl) (by rfl) ⟨⟨_, rfl, .oe⟩, ⟨_, rfl, .own rfl⟩, ⟨_, rfl, .oe⟩, ⟨_, rfl, .oe⟩, ⟨_, rfl, .oe⟩, trivial⟩ ⟨⟨_, rfl, _, rfl, .liftE (by first | (rw [Pl.firT_0, List.map_replicate]; done) | (rw [← Pl.firT_set, List.map_set, z1 (by omega)]; first | done | rfl) | (rw [← Pl.firT_set, List.map_set, z2 (by omega), ← z3]; first | done | rfl) | trace_state)⟩, trivial⟩, by omega⟩
  ·try simp only [hbx] at hg
   repeat refine an ?_
   refine hk _ ?_; clear hk k
   refine h4 _ ?_; clear h4 k4
   refine yZ [] (by rw [hC]; rfl) fun k hk => ?_
   simp (maxSteps := 9^9) (disch := (try simp only [lens]); omega) only [zJ, sm, ↓amb, zQ, simprocAttr, dx]
   repeat refine an ?_
   refine hk _ ?_; clear hk k
   refine ⟨i + 1, by omega, le_of [(0, _)] (by rfl) (by rfl) ⟨⟨_, rfl, .oe⟩, ⟨_, rfl, .own rfl⟩, ⟨_, rfl, .oe⟩, ⟨_, rfl, .oe⟩, ⟨_, rfl, .oe⟩, trivial⟩ ⟨⟨_, rfl, _, rfl, .liftE (by first | (rw [Pl.firT_0, List.map_replicate]; done) | (rw [← Pl.firT_set, List.map_set, z1 (by omega)]; first | done | rfl) | (rw [← Pl.firT_set, List.map_set, z2 (by omega), ← z3]; first | done | rfl) | trace_state)⟩, trivial⟩, by omega⟩
 ·try simp only [hbx] at hb
  refine yX ((if_pos rfl).mpr ?_)
  refine h1 _ ?_; clear h3 k3; clear h1 k1
  refine zW (zV [3]) ?_
  simp only [kp, zJ, simprocAttr]
  obtain rfl : i = l.length := by omega
  rw [Pl.firT_end]
  refine zK [] (by rw [hC]; rfl) fun k hk => ?_
  simp (maxSteps := 9^9) (disch := (try simp only [lens]); omega) only [zJ, sm, ↓amb, zQ, simprocAttr, dx]
  repeat refine an ?_
  refine hk _ ?_; clear hk k
  refine yQ ?_
  refine ret1 rfl rfl ?_
  exact .ownE rfl rfl
end Go.Proofs.Ytbehekmnccoifaa
end
section
set_option linter.unusedSimpArgs false
set_option linter.unusedVariables false
set_option maxRecDepth 100000
namespace Go.Proofs.Ytbehekmnccoifaa
open Go.Am Go.Proofs
theorem en23 : enters Try.prog 23 = true := by kernel_rfl
theorem en41 : enters Try.prog 41 = true := by kernel_rfl
theorem en42 : enters Try.prog 42 = true := by kernel_rfl
theorem en43 : enters Try.prog 43 = true := by kernel_rfl
theorem fl47_0 : tFld Try.prog 47 0 = some (0, 1, false) := by kernel_rfl
theorem fl47_1 : tFld Try.prog 47 1 = some (1, 1, false) := by kernel_rfl
theorem fl47_2 : tFld Try.prog 47 2 = some (2, 3, true) := by kernel_rfl
theorem sz47 : tSz Try.prog 47 = some (true, 5) := by kernel_rfl
set_option maxHeartbeats 4000000 in
theorem c_dedup_Groups (c d : Bool) (l : List Int) (w : Pl.Way) (hl : ∀ x, x ∈ l → Pl.W32 x) (hn : l.length ≤ 1000000) : PCall Try.prog 23 [words c l, .agg (wayC d w)] (.tup [words false (Pl.grK l w), ints false (Pl.grC l w), iV (Pl.grT l.length w), iV (Pl.grE l.length w)]) := by
 have f1 := c_radix_Sort c d l w.bits w.block w.plan hl hn
 refine yV Try.func23 rfl (by simp [Try.ntmps23]) fun C hC => ?_
 refine zW (zV [0, 1]) ?_
 simp only [kp, zJ, simprocAttr]
 refine zK [80, 86] (by rw [hC]; rfl) fun k hk => ?_
 simp (maxSteps := 9^9) (disch := (try simp only [lens]); omega) only [zJ, sm, ↓amb, zQ, simprocAttr, dx]
 repeat refine an ?_
 refine hk _ ?_; clear hk k
 refine zW (zV [0, 3]) ?_
 simp only [kp, zJ, simprocAttr]
 refine zK [80, 86] (by rw [hC]; rfl) fun k hk => ?_
 simp (maxSteps := 9^9) (disch := (try simp only [lens]); omega) only [zJ, sm, ↓amb, zQ, simprocAttr, fl47_0, sz3, fl47_1, fl47_2, sz26, en41, dx]
 repeat refine an ?_
 refine yW (f1) rfl ?_
 simp (maxSteps := 9^9) (disch := (try simp only [lens]); omega) only [zJ, sm, ↓amb, zQ, simprocAttr, fl47_0, sz3, fl47_1, fl47_2, sz26, en41, dx]
 repeat refine an ?_
 refine hk _ ?_; clear hk k
 refine zY fun k1 h1 => ?_
 refine zW (zV [0, 3, 4, 5, 6, 7, 8, 9, 10]) ?_
 simp only [kp, zJ, simprocAttr]
 refine zK [80, 86] (by rw [hC]; rfl) fun k hk => ?_
 simp (maxSteps := 9^9) (disch := (try simp only [lens]); omega) only [zJ, sm, ↓amb, zQ, simprocAttr, dx]
 repeat refine an ?_
 refine hk _ ?_; clear hk k
 refine zX rfl (fun hb => ?_) (fun hb => ?_)
 ·try simp only [hbx] at hb
  refine zW (zV [10]) ?_
  simp only [kp, zJ, simprocAttr]
  refine zK [80, 86] (by rw [hC]; rfl) fun k hk => ?_
  simp (maxSteps := 9^9) (disch := (try simp only [lens]); omega) only [zJ, sm, ↓amb, zQ, simprocAttr, dx]
  repeat refine an ?_
  refine hk _ ?_; clear hk k
  refine yQ ?_
  rw [show Pl.grK l w = [] from if_neg hb, show Pl.grC l w = [] from if_neg hb, show Pl.grT l.length w = 0 from if_neg hb]
  refine ret4 rfl rfl rfl rfl rfl ?_ ?_ ?_ ?_
  ·exact .p (LeP.seq _ _)
  ·exact .p (LeP.seq _ _)
  ·exact .p (LeP.refl _)
  ·exact .p (LeP.refl _)
 ·try simp only [hbx] at hb
  refine yJ ?_
  refine h1 _ ?_; clear h1 k1
  refine zW (zV [0, 3, 8, 9]) ?_
  simp only [kp, zJ, simprocAttr]
  have he0 : Pl.grE l.length w = 0 := hb
  have hra : Pl.raE l.length w.bits w.block w.plan = 0 := he0
  have hs0 : Pl.scE l.length w.block w.plan = 0 := by
   unfold Pl.raE at hra; split at hra
   ·exact absurd hra (by decide)
   ·exact hra
  have ho : Pl.onceP (Pl.raL l w.bits w.block w.plan) l.length := by unfold Pl.raL; rw [if_pos hra]; exact Pl.passes_once hl _ _
  have f2 := c_radix_Sorted c false l (Pl.raL l w.bits w.block w.plan) hl (fun x hx => by have := ho.2.1 x hx; omega) hn (by have := ho.1; omega)
  rw [if_pos ho, decide_eq_true ho, show Pl.sortedL l (Pl.raL l w.bits w.block w.plan) = Pl.grS l w from rfl] at f2
  have hsl : (Pl.grS l w).length = l.length := by unfold Pl.grS; rw [Pl.sortedL_len]; exact ho.1
  have hgs : ∀ x, x ∈ Pl.grS l w → Pl.W32 x := fun x hx => by
   unfold Pl.grS Pl.sortedL at hx
   obtain ⟨j, _, rfl⟩ := List.mem_map.1 hx
   exact Pl.getD_w hl _
  have hfl := Pl.firstsL_len (Pl.grS l w)
  have f3 := c_pack_Where false d (Pl.firstsL (Pl.grS l w)) w.block w.plan (by omega)
  rw [show Pl.whL (Pl.firstsL (Pl.grS l w)) false w.block w.plan = Pl.grW l w from rfl, hfl, hsl, hs0] at f3
  have hwm : ∀ x, x ∈ Pl.grW l w → 0 ≤ x ∧ x < l.length := fun x hx => by have := Pl.wh_mem x hx; rwa [hfl, hsl] at this
  have hwn : (Pl.grW l w).length ≤ l.length := by have := Pl.wh_len (Pl.firstsL (Pl.grS l w)) false w.block w.plan; rwa [hfl, hsl] at this
  refine zK [80, 86] (by rw [hC]; rfl) fun k hk => ?_
  simp (maxSteps := 9^9) (disch := (try simp only [lens]); omega) only [zJ, sm, ↓amb, zQ, simprocAttr, en42, dx]
  repeat refine an ?_
  refine yW (f2) rfl ?_
  simp (maxSteps := 9^9) (disch := (try simp only [lens]); omega) only [zJ, sm, ↓amb, zQ, simprocAttr, en42, dx]
  repeat refine an ?_
  refine hk _ ?_; clear hk k
  refine zW (zV [3, 9, 11]) ?_
  simp only [kp, zJ, simprocAttr]
  refine awp_sd [80, 86] ⟨[0, 1, 0, 4, 0, 16, 63, 127, 255, 255, 255, 511, 3071, 8191], [3, 5], [], [], some []⟩ (by rw [hC]; rfl) (by kernel_rfl) (by kernel_rfl) fun k hk => ?_
  simp (maxSteps := 9^9) (disch := (try simp only [lens]); omega) only [zJ, sm, ↓amb, zQ, simprocAttr, en43, fl47_1, sz3, fl47_2, sz26, en14, dx]
  repeat refine an ?_
  refine yW (c_dedup_firsts false (Pl.grS l w) hgs (by omega)) rfl ?_
  simp (maxSteps := 9^9) (disch := (try simp only [lens]); omega) only [zJ, sm, ↓amb, zQ, simprocAttr, en43, fl47_1, sz3, fl47_2, sz26, en14, dx]
  repeat refine an ?_
  refine yW (f3) rfl ?_
  simp (maxSteps := 9^9) (disch := (try simp only [lens]); omega) only [zJ, sm, ↓amb, zQ, simprocAttr, en43, fl47_1, sz3, fl47_2, sz26, en14, dx]
  repeat refine an ?_
  refine hk _ ?_; clear hk k
  refine zY fun k2 h2 => ?_
  refine zW (zV [4, 5, 6, 7, 9, 10, 11, 13, 14]) ?_
  simp only [kp, zJ, simprocAttr]
  refine zK [80, 86] (by rw [hC]; rfl) fun k hk => ?_
  simp (maxSteps := 9^9) (disch := (try simp only [lens]); omega) only [zJ, sm, ↓amb, zQ, simprocAttr, dx]
  repeat refine an ?_
  refine hk _ ?_; clear hk k
  refine zX rfl (fun hb => ?_) (fun hb => ?_)
  ·exact absurd hb (by simp)
  ·try simp only [hbx] at hb
   refine yJ ?_
   refine h2 _ ?_; clear h2 k2
   refine zW (zV [9, 11, 13, 14]) ?_
   simp only [kp, zJ, simprocAttr]
   refine zK [80, 86] (by rw [hC]; rfl) fun k hk => ?_
   simp (maxSteps := 9^9) (disch := (try simp only [lens]); omega) only [zJ, sm, ↓amb, zQ, simprocAttr, dx]
   repeat refine an ?_
   refine hk _ ?_; clear hk k
   refine zW (zV [9, 11, 13, 14, 15]) ?_
   simp only [kp, zJ, simprocAttr]
   refine zK [80, 86] (by rw [hC]; rfl) fun k hk => ?_
   simp (maxSteps := 9^9) (disch := (try simp only [lens]); omega) only [zJ, sm, ↓amb, zQ, simprocAttr, dx]
   repeat refine an ?_
   refine hk _ ?_; clear hk k
   refine zY fun k3 h3 => ?_
   refine zW (zV [4, 5, 6, 7, 9, 11, 13, 14, 15, 16]) ?_
   simp only [kp, zJ, simprocAttr]
   refine awp_own' 15 1 rfl ?_
   simp only [am, List.set_cons_succ, List.set_cons_zero, Nat.reduceEqDiff, ↓reduceIte, reduceCtorEq, Nat.reduceAdd, Nat.reduceMul]
   refine awp_own' 16 1 rfl ?_
   refine zK [80, 86] (by rw [hC]; rfl) fun k hk => ?_
   simp (maxSteps := 9^9) (disch := (try simp only [lens]); omega) only [zJ, sm, ↓amb, zQ, simprocAttr, el33, dx]
   repeat refine an ?_
   refine hk _ ?_; clear hk k
   refine yK ?_
   refine yY (σ := Nat) (fun i => i ≤ (Pl.grW l w).length) (fun (i : Nat) => ⟨[(9, (.p (iV (Pl.raS l.length w.bits w.block w.plan)))), (11, (.p (words false (Pl.grS l w)))), (13, (.p (ints false (Pl.grW l w)))), (14, (.p (iV (Pl.whS l.length w.block w.plan)))), (15, (.own 0)), (16, (.own 1)), (55, (.p (ints false (Pl.grW l w)))), (56, (.p (iV (Pl.grW l w).length))), (57, (.p (iV (i : Int))))], [(0, (.row 1 (lift ((Pl.sortedL (Pl.grS l w) ((Pl.grW l w).take i)).map fun x => [u32V x])))), (1, (.row 1 (lift ((Pl.cntG l.length (Pl.grW l w) i).map fun x => [iV x]))))], 1⟩) (fun i => (Pl.grW l w).length - i) 0 ?_ ?_ fun i hi => ?_
   ·exact Nat.zero_le _
   ·exact le_of [(0, _), (1, _)] (by rfl) (by rfl) ⟨⟨_, rfl, .oe⟩, ⟨_, rfl, .oe⟩, ⟨_, rfl, .oe⟩, ⟨_, rfl, .oe⟩, ⟨_, rfl, .own rfl⟩, ⟨_, rfl, .own rfl⟩, ⟨_, rfl, .oe⟩, ⟨_, rfl, .oe⟩, ⟨_, rfl, .oe⟩, trivial⟩ ⟨⟨_, rfl, _, rfl, .liftE (by first | rfl | (rw [Pl.take_snoc' (Pl.grW l w) i (by omega), Pl.sortedL_snoc, List.map_append]; first | done | rfl) | trace_state)⟩, ⟨_, rfl, _, rfl, .liftE (by first | rfl | (rw [Pl.cntG_snoc, List.map_append, if_pos (by omega)]; first | done | rfl) | (rw [Pl.cntG_snoc, List.map_append, if_neg (by omega)]; first | done | rfl | (rw [hsl]; rfl)) | trace_state)⟩, trivial⟩
   refine zW (zV [0, 1, 4, 5, 6, 7, 9, 11, 13, 14, 15, 16, 55, 56, 57]) ?_
   simp only [kp, zJ, simprocAttr]
   refine zK [80, 86] (by rw [hC]; rfl) fun k hk => ?_
   simp (maxSteps := 9^9) (disch := (try simp only [lens]); omega) only [zJ, sm, ↓amb, zQ, simprocAttr, dx]
   repeat refine an ?_
   refine hk _ ?_; clear hk k
   refine zY fun k5 h5 => ?_
   refine zX rfl (fun hb => ?_) (fun hb => ?_)
   ·try simp only [hbx] at hb
    refine yJ ?_
    refine h5 _ ?_; clear h5 k5
    refine zY fun k6 h6 => ?_
    refine yK ?_
    refine zW (zV [0, 1, 4, 5, 6, 7, 9, 11, 13, 14, 15, 16, 55, 56, 57]) ?_
    simp only [kp, zJ, simprocAttr]
    have hx := hwm _ (Pl.getD_mem (Pl.grW l w) i 0 (by omega))
    refine zK [80, 86] (by rw [hC]; rfl) fun k hk => ?_
    simp (maxSteps := 9^9) (disch := (try simp only [lens]); omega) only [zJ, sm, ↓amb, zQ, simprocAttr, el33, sz3, dx]
    repeat refine an ?_
    refine hk _ ?_; clear hk k
    refine zW (zV [0, 1, 4, 5, 6, 7, 9, 11, 13, 14, 15, 16, 17, 18, 55, 56, 57]) ?_
    simp only [kp, zJ, simprocAttr]
    refine zK [80, 86] (by rw [hC]; rfl) fun k hk => ?_
    simp (maxSteps := 9^9) (disch := (try simp only [lens]); omega) only [zJ, sm, ↓amb, zQ, simprocAttr, el22, dx]
    repeat refine an ?_
    refine hk _ ?_; clear hk k
    refine zY fun k7 h7 => ?_
    refine zW (zV [0, 1, 4, 5, 6, 7, 9, 11, 13, 14, 15, 16, 17, 18, 19, 55, 56, 57]) ?_
    simp only [kp, zJ, simprocAttr]
    have hcl := Pl.cntG_len l.length (Pl.grW l w) i
    have hkl : (Pl.sortedL (Pl.grS l w) ((Pl.grW l w).take i)).length = i := by rw [Pl.sortedL_len, List.length_take]; omega
    refine zK [80, 86] (by rw [hC]; rfl) fun k hk => ?_
    simp (maxSteps := 9^9) (disch := (try simp only [lens]); omega) only [zJ, sm, ↓amb, zQ, simprocAttr, el33, dx]
    repeat refine an ?_
    refine hk _ ?_; clear hk k
    refine zX rfl (fun hb => ?_) (fun hb => ?_)
    ·try simp only [hbx] at hb
     have hy := hwm _ (Pl.getD_mem (Pl.grW l w) (i + 1) 0 (by omega))
     refine yZ [80, 86] (by rw [hC]; rfl) fun k hk => ?_
     simp (maxSteps := 9^9) (disch := (try simp only [lens]); omega) only [zJ, sm, ↓amb, zQ, simprocAttr, el33, sz3, dx]
     repeat refine an ?_
     refine hk _ ?_; clear hk k
     refine h7 _ ?_; clear h7 k7
     refine yZ [80, 86] (by rw [hC]; rfl) fun k hk => ?_
     simp (maxSteps := 9^9) (disch := (try simp only [lens]); omega) only [zJ, sm, ↓amb, zQ, simprocAttr, el22, sz41, vr41, by41, el33, vr3, by3, dx]
     repeat refine an ?_
     refine hk _ ?_; clear hk k
     refine h6 _ ?_; clear h6 k6
     refine yZ [80, 86] (by rw [hC]; rfl) fun k hk => ?_
     simp (maxSteps := 9^9) (disch := (try simp only [lens]); omega) only [zJ, sm, ↓amb, zQ, simprocAttr, dx]
     repeat refine an ?_
     refine hk _ ?_; clear hk k
     refine ⟨i + 1, by omega, le_of [(0, _), (1, _)] (by rfl) (by rfl) ⟨⟨_, rfl, .oe⟩, ⟨_, rfl, .oe⟩, ⟨_, rfl, .oe⟩, ⟨_, rfl, .oe⟩, ⟨_, rfl, .own rfl⟩, ⟨_, rfl, .own rfl⟩, ⟨_, rfl, .oe⟩, ⟨_, rfl, .oe⟩, ⟨_, rfl, .oe⟩, trivial⟩ ⟨⟨_, rfl, _, rfl, .liftE (by first | rfl | (rw [Pl.take_snoc' (Pl.grW l w) i (by omega), Pl.sortedL_snoc, List.map_append]; first | done | rfl) | trace_state)⟩, ⟨_, rfl, _, rfl, .liftE (by first | rfl | (rw [Pl.cntG_snoc, List.map_append, if_pos (by omega)]; first | done | rfl) | (rw [Pl.cntG_snoc, List.map_append, if_neg (by omega)]; first | done | rfl | (rw [hsl]; rfl)) | trace_state)⟩, trivial⟩, by omega⟩
    ·try simp only [hbx] at hb
     refine yJ ?_
     refine h7 _ ?_; clear h7 k7
     refine yZ [80, 86] (by rw [hC]; rfl) fun k hk => ?_
     simp (maxSteps := 9^9) (disch := (try simp only [lens]); omega) only [zJ, sm, ↓amb, zQ, simprocAttr, el22, sz41, vr41, by41, el33, vr3, by3, dx]
     repeat refine an ?_
     refine hk _ ?_; clear hk k
     refine h6 _ ?_; clear h6 k6
     refine yZ [80, 86] (by rw [hC]; rfl) fun k hk => ?_
     simp (maxSteps := 9^9) (disch := (try simp only [lens]); omega) only [zJ, sm, ↓amb, zQ, simprocAttr, dx]
     repeat refine an ?_
     refine hk _ ?_; clear hk k
     refine ⟨i + 1, by omega, le_of [(0, _), (1, _)] (by rfl) (by rfl) ⟨⟨_, rfl, .oe⟩, ⟨_, rfl, .oe⟩, ⟨_, rfl, .oe⟩, ⟨_, rfl, .oe⟩, ⟨_, rfl, .own rfl⟩, ⟨_, rfl, .own rfl⟩, ⟨_, rfl, .oe⟩, ⟨_, rfl, .oe⟩, ⟨_, rfl, .oe⟩, trivial⟩ ⟨⟨_, rfl, _, rfl, .liftE (by first | rfl | (rw [Pl.take_snoc' (Pl.grW l w) i (by omega), Pl.sortedL_snoc, List.map_append]; first | done | rfl) | trace_state)⟩, ⟨_, rfl, _, rfl, .liftE (by first | rfl | (rw [Pl.cntG_snoc, List.map_append, if_pos (by omega)]; first | done | rfl) | (rw [Pl.cntG_snoc, List.map_append, if_neg (by omega)]; first | done | rfl | (rw [hsl]; rfl)) | trace_state)⟩, trivial⟩, by omega⟩
   ·try simp only [hbx] at hb
    refine yX ((if_pos rfl).mpr ?_)
    refine h3 _ ?_; clear h5 k5; clear h3 k3
    refine zW (zV [9, 14, 15, 16]) ?_
    simp only [kp, zJ, simprocAttr]
    obtain rfl : i = (Pl.grW l w).length := by omega
    rw [List.take_of_length_le (Nat.le_refl _)]
    have r1 := Pl.scS_nn l.length w.block w.plan
    have r2 := Pl.pas_nn w.bits
    have r3 : 0 ≤ Pl.raS l.length w.bits w.block w.plan ∧ Pl.raS l.length w.bits w.block w.plan ≤ 40000 * 33 := by
     unfold Pl.raS; split
     ·exact ⟨Int.mul_nonneg r1.1 r2.1, Pl.mul_up r1.2 (by omega) r2.1 (by omega)⟩
     ·omega
    have r4 := Pl.ordS_up l.length w.plan
    have r5 : 0 ≤ Pl.whS l.length w.block w.plan ∧ Pl.whS l.length w.block w.plan ≤ 60000 := by unfold Pl.whS; split <;> omega
    refine zK [80, 86] (by rw [hC]; rfl) fun k hk => ?_
    simp (maxSteps := 9^9) (disch := (try simp only [lens]); omega) only [zJ, sm, ↓amb, zQ, simprocAttr, dx]
    repeat refine an ?_
    refine hk _ ?_; clear hk k
    refine yQ ?_
    rw [show Pl.grK l w = Pl.sortedL (Pl.grS l w) (Pl.grW l w) from if_pos he0, show Pl.grC l w = Pl.cntG l.length (Pl.grW l w) (Pl.grW l w).length from if_pos he0, show Pl.grT l.length w = Pl.raS l.length w.bits w.block w.plan + Pl.whS l.length w.block w.plan from if_pos he0, he0]
    refine ret4 rfl rfl rfl rfl rfl ?_ ?_ ?_ ?_
    ·exact .ownE rfl rfl
    ·exact .ownE rfl rfl
    ·exact .p (LeP.refl _)
    ·exact .p (LeP.refl _)
set_option maxHeartbeats 4000000 in
theorem c_dedup_Once (c d : Bool) (l : List Int) (w : Pl.Way) (hl : ∀ x, x ∈ l → Pl.W32 x) (hn : l.length ≤ 1000000) : PCall Try.prog 25 [words c l, .agg (wayC d w)] (.tup [words false (Pl.grK l w), iV (Pl.grT l.length w), iV (Pl.grE l.length w)]) := by
 refine yV Try.func25 rfl (by simp [Try.ntmps25]) fun C hC => ?_
 refine zW (zV [0, 1]) ?_
 simp only [kp, zJ, simprocAttr]
 refine zK [] (by rw [hC]; rfl) fun k hk => ?_
 simp (maxSteps := 9^9) (disch := (try simp only [lens]); omega) only [zJ, sm, ↓amb, zQ, simprocAttr, dx]
 repeat refine an ?_
 refine hk _ ?_; clear hk k
 refine zW (zV [0, 3]) ?_
 simp only [kp, zJ, simprocAttr]
 refine zK [] (by rw [hC]; rfl) fun k hk => ?_
 simp (maxSteps := 9^9) (disch := (try simp only [lens]); omega) only [zJ, sm, ↓amb, zQ, simprocAttr, sz47, en23, dx]
 repeat refine an ?_
 refine yW (c_dedup_Groups c d l w hl hn) rfl ?_
 simp (maxSteps := 9^9) (disch := (try simp only [lens]); omega) only [zJ, sm, ↓amb, zQ, simprocAttr, sz47, en23, dx]
 repeat refine an ?_
 refine hk _ ?_; clear hk k
 refine zW (zV [7, 9, 10]) ?_
 simp only [kp, zJ, simprocAttr]
 refine zK [] (by rw [hC]; rfl) fun k hk => ?_
 simp (maxSteps := 9^9) (disch := (try simp only [lens]); omega) only [zJ, sm, ↓amb, zQ, simprocAttr, dx]
 repeat refine an ?_
 refine hk _ ?_; clear hk k
 refine yQ ?_
 refine ret3 rfl rfl rfl rfl ?_ ?_ ?_
 ·exact .p (LeP.refl _)
 ·exact .p (LeP.refl _)
 ·exact .p (LeP.refl _)
end Go.Proofs.Ytbehekmnccoifaa
end
section
set_option linter.unusedSimpArgs false
set_option linter.unusedVariables false
set_option maxRecDepth 100000
namespace Go.Proofs.Ytbehekmnccoifaa
open Go.Am Go.Proofs
theorem by59 : tBytes Try.prog 59 = some 16 := by kernel_rfl
theorem en25 : enters Try.prog 25 = true := by kernel_rfl
theorem en30 : enters Try.prog 30 = true := by kernel_rfl
theorem en32 : enters Try.prog 32 = true := by kernel_rfl
set_option maxHeartbeats 4000000 in
theorem c_dedup_Edges (c d : Bool) (l : List Pl.Edge) (w : Pl.Way) (hn : l.length ≤ 1000000) : PCall Try.prog 28 [.seq c (l.map edgeC), .agg (wayC d w)] (.tup [if (∀ e, e ∈ l → Pl.fitE e) then (.seq false (((Pl.grK (Pl.ksE l) w).map Pl.unkey).map edgeC)) else .seq false [], iV (if (∀ e, e ∈ l → Pl.fitE e) then Pl.grT (Pl.ksE l).length w else 0), iV (if (∀ e, e ∈ l → Pl.fitE e) then Pl.grE (Pl.ksE l).length w else 10)]) := by
 refine yV Try.func28 rfl (by simp [Try.ntmps28]) fun C hC => ?_
 refine zW (zV [0, 1]) ?_
 simp only [kp, zJ, simprocAttr]
 refine zK [39, 58] (by rw [hC]; rfl) fun k hk => ?_
 simp (maxSteps := 9^9) (disch := (try simp only [lens]); omega) only [zJ, sm, ↓amb, zQ, simprocAttr, dx]
 repeat refine an ?_
 refine hk _ ?_; clear hk k
 refine zW (zV [0, 3]) ?_
 simp only [kp, zJ, simprocAttr]
 refine zK [39, 58] (by rw [hC]; rfl) fun k hk => ?_
 simp (maxSteps := 9^9) (disch := (try simp only [lens]); omega) only [zJ, sm, ↓amb, zQ, simprocAttr, dx]
 repeat refine an ?_
 refine hk _ ?_; clear hk k
 refine zY fun k1 h1 => ?_
 refine zW (zV [0, 3, 4, 5, 6, 7]) ?_
 simp only [kp, zJ, simprocAttr]
 refine awp_own' 7 1 rfl ?_
 refine zK [39, 58] (by rw [hC]; rfl) fun k hk => ?_
 simp (maxSteps := 9^9) (disch := (try simp only [lens]); omega) only [zJ, sm, ↓amb, zQ, simprocAttr, el53, dx]
 repeat refine an ?_
 refine hk _ ?_; clear hk k
 refine yK ?_
 refine yY (σ := Nat) (fun i => i ≤ l.length ∧ ∀ j, j < i → Pl.fitE (l.getD j default)) (fun (i : Nat) => ⟨[(3, (.ptr 0 5 0 0)), (7, (.own 1)), (18, (.p (.seq c (l.map edgeC)))), (19, (.p (iV l.length))), (20, (.p (iV (i : Int))))], [(0, (.row 5 [[.p (iV w.bits), .p (iV w.block), .p (iV w.plan.grain), .p (iV w.plan.workers), .p (picksV d w.plan.picks)]])), (1, (.row 1 (lift ((Pl.ksE (l.take i)).map fun x => [u32V x]))))], 1⟩) (fun i => l.length - i) 0 ?_ ?_ fun i hi => ?_
 ·exact ⟨Nat.zero_le _, fun j hj => by omega⟩
 ·exact le_of [(0, _), (1, _)] (by rfl) (by rfl) ⟨⟨_, rfl, .ptr rfl⟩, ⟨_, rfl, .own rfl⟩, ⟨_, rfl, .oe⟩, ⟨_, rfl, .oe⟩, ⟨_, rfl, .oe⟩, trivial⟩ ⟨⟨_, rfl, _, rfl, .one (.cons (.p (.refl _)) (.cons (.p (.refl _)) (.cons (.p (.refl _)) (.cons (.p (.refl _)) (.cons (.p (.refl _)) (.nil))))))⟩, ⟨_, rfl, _, rfl, .liftE (by first | rfl | (rw [Pl.ksE_yes (by omega) (by assumption), List.map_append]; rfl) | (rw [Pl.ksE_no (by omega) (by first | assumption | omega)]) | trace_state)⟩, trivial⟩
 obtain ⟨hi1, hi2⟩ := hi
 refine zW (zV [0, 1, 3, 4, 5, 6, 7, 18, 19, 20]) ?_
 simp only [kp, zJ, simprocAttr]
 refine zK [39, 58] (by rw [hC]; rfl) fun k hk => ?_
 simp (maxSteps := 9^9) (disch := (try simp only [lens]); omega) only [zJ, sm, ↓amb, zQ, simprocAttr, dx]
 repeat refine an ?_
 refine hk _ ?_; clear hk k
 refine zY fun k3 h3 => ?_
 refine zX rfl (fun hb => ?_) (fun hb => ?_)
 ·try simp only [hbx] at hb
  refine yJ ?_
  refine h3 _ ?_; clear h3 k3
  refine zY fun k4 h4 => ?_
  refine yK ?_
  refine zW (zV [0, 1, 3, 4, 5, 6, 7, 18, 19, 20]) ?_
  simp only [kp, zJ, simprocAttr]
  have hkl1 := Pl.ksE_len (l.take i)
  rw [List.length_take] at hkl1
  refine zK [39, 58] (by rw [hC]; rfl) fun k hk => ?_
  simp (maxSteps := 9^9) (disch := (try simp only [lens]); omega) only [zJ, sm, ↓amb, zQ, simprocAttr, el53, sz59, vr59, dx]
  repeat refine an ?_
  refine hk _ ?_; clear hk k
  refine zW (zV [0, 1, 3, 4, 5, 6, 7, 9, 18, 19, 20]) ?_
  simp only [kp, zJ, simprocAttr]
  refine zK [39, 58] (by rw [hC]; rfl) fun k hk => ?_
  simp (maxSteps := 9^9) (disch := (try simp only [lens]); omega) only [zJ, sm, ↓amb, zQ, simprocAttr, sz59, en30, dx]
  repeat refine an ?_
  refine yW (c_dedup_Key _) rfl ?_
  simp (maxSteps := 9^9) (disch := (try simp only [lens]); omega) only [zJ, sm, ↓amb, zQ, simprocAttr, sz59, en30, dx]
  repeat refine an ?_
  refine hk _ ?_; clear hk k
  refine zY fun k5 h5 => ?_
  refine zW (zV [0, 1, 3, 4, 5, 6, 7, 9, 10, 11, 18, 19, 20]) ?_
  simp only [kp, zJ, simprocAttr]
  refine zK [39, 58] (by rw [hC]; rfl) fun k hk => ?_
  simp (maxSteps := 9^9) (disch := (try simp only [lens]); omega) only [zJ, sm, ↓amb, zQ, simprocAttr, dx]
  repeat refine an ?_
  refine hk _ ?_; clear hk k
  refine zX rfl (fun hb => ?_) (fun hb => ?_)
  ·try simp only [hbx] at hb
   refine zW (zV []) ?_
   simp only [kp, zJ, simprocAttr]
   refine zK [39, 58] (by rw [hC]; rfl) fun k hk => ?_
   simp (maxSteps := 9^9) (disch := (try simp only [lens]); omega) only [zJ, sm, ↓amb, zQ, simprocAttr, dx]
   repeat refine an ?_
   refine hk _ ?_; clear hk k
   refine yQ ?_
   have ho : ¬ (∀ e, e ∈ l → Pl.fitE e) := fun z => hb (by have := z _ (Pl.getD_mem l i default (by omega)); unfold Pl.fitE at this; omega)
   rw [if_neg ho, if_neg ho, if_neg ho]
   refine ret3 rfl rfl rfl rfl ?_ ?_ ?_
   ·exact .p (LeP.seq _ _)
   ·exact .p (LeP.refl _)
   ·exact .p (LeP.refl _)
  ·try simp only [hbx] at hb
   refine yJ ?_
   refine h5 _ ?_; clear h5 k5
   refine zW (zV [0, 1, 3, 4, 5, 6, 7, 9, 10, 18, 19, 20]) ?_
   simp only [kp, zJ, simprocAttr]
   refine zK [39, 58] (by rw [hC]; rfl) fun k hk => ?_
   simp (maxSteps := 9^9) (disch := (try simp only [lens]); omega) only [zJ, sm, ↓amb, zQ, simprocAttr, fl59_0, sz3, fl59_1, dx]
   repeat refine an ?_
   refine hk _ ?_; clear hk k
   refine zX rfl (fun hb => ?_) (fun hb => ?_)
   ·try simp only [hbx] at hb
    refine yZ [39, 58] (by rw [hC]; rfl) fun k hk => ?_
    simp (maxSteps := 9^9) (disch := (try simp only [lens]); omega) only [zJ, sm, ↓amb, zQ, simprocAttr, el22, vr41, by41, dx]
    repeat refine an ?_
    refine hk _ ?_; clear hk k
    refine h4 _ ?_; clear h4 k4
    refine yZ [39, 58] (by rw [hC]; rfl) fun k hk => ?_
    simp (maxSteps := 9^9) (disch := (try simp only [lens]); omega) only [zJ, sm, ↓amb, zQ, simprocAttr, dx]
    repeat refine an ?_
    refine hk _ ?_; clear hk k
    refine ⟨i + 1, ⟨by omega, fun j hj => by by_cases e : j = i; (subst e; unfold Pl.fitE; omega); exact hi2 j (by omega)⟩, le_of [(0, _), (1, _)] (by rfl) (by rfl) ⟨⟨_, rfl, .ptr rfl⟩, ⟨_, rfl, .own rfl⟩, ⟨_, rfl, .oe⟩, ⟨_, rfl, .oe⟩, ⟨_, rfl, .oe⟩, trivial⟩ ⟨⟨_, rfl, _, rfl, .one (.cons (.p (.refl _)) (.cons (.p (.refl _)) (.cons (.p (.refl _)) (.cons (.p (.refl _)) (.cons (.p (.refl _)) (.nil))))))⟩, ⟨_, rfl, _, rfl, .liftE (by first | rfl | (rw [Pl.ksE_yes (by omega) (by assumption), List.map_append]; rfl) | (rw [Pl.ksE_no (by omega) (by first | assumption | omega)]) | trace_state)⟩, trivial⟩, by omega⟩
   ·try simp only [hbx] at hb
    refine yJ ?_
    refine h4 _ ?_; clear h4 k4
    refine yZ [39, 58] (by rw [hC]; rfl) fun k hk => ?_
    simp (maxSteps := 9^9) (disch := (try simp only [lens]); omega) only [zJ, sm, ↓amb, zQ, simprocAttr, dx]
    repeat refine an ?_
    refine hk _ ?_; clear hk k
    refine ⟨i + 1, ⟨by omega, fun j hj => by by_cases e : j = i; (subst e; unfold Pl.fitE; omega); exact hi2 j (by omega)⟩, le_of [(0, _), (1, _)] (by rfl) (by rfl) ⟨⟨_, rfl, .ptr rfl⟩, ⟨_, rfl, .own rfl⟩, ⟨_, rfl, .oe⟩, ⟨_, rfl, .oe⟩, ⟨_, rfl, .oe⟩, trivial⟩ ⟨⟨_, rfl, _, rfl, .one (.cons (.p (.refl _)) (.cons (.p (.refl _)) (.cons (.p (.refl _)) (.cons (.p (.refl _)) (.cons (.p (.refl _)) (.nil))))))⟩, ⟨_, rfl, _, rfl, .liftE (by first | rfl | (rw [Pl.ksE_yes (by omega) (by assumption), List.map_append]; rfl) | (rw [Pl.ksE_no (by omega) (by first | assumption | omega)]) | trace_state)⟩, trivial⟩, by omega⟩
 ·try simp only [hbx] at hb
  refine yX ((if_pos rfl).mpr ?_)
  refine h1 _ ?_; clear h3 k3; clear h1 k1
  refine zW (zV [3, 7]) ?_
  simp only [kp, zJ, simprocAttr]
  obtain rfl : i = l.length := by omega
  rw [List.take_of_length_le (Nat.le_refl _)]
  have hkl : (Pl.ksE l).length ≤ 1000000 := by have := Pl.ksE_len l; omega
  refine zW (show LE _ (⟨[(3, (.ptr 0 5 0 0)), (7, (.p (words false (Pl.ksE l))))], [(0, (.row 5 [[.p (iV w.bits), .p (iV w.block), .p (iV w.plan.grain), .p (iV w.plan.workers), .p (picksV d w.plan.picks)]]))], 2⟩ : LS) from le_of [(0, _)] (by rfl) (by rfl) ⟨⟨_, rfl, .ptr rfl⟩, ⟨_, rfl, .frz (es := (Pl.ksE l).map fun x => [u32V x]) rfl (by rfl)⟩, trivial⟩ ⟨⟨_, rfl, _, rfl, .one (.cons (.p (.refl _)) (.cons (.p (.refl _)) (.cons (.p (.refl _)) (.cons (.p (.refl _)) (.cons (.p (.refl _)) (.nil))))))⟩, trivial⟩) ?_
  refine zK [39, 58] (by rw [hC]; rfl) fun k hk => ?_
  simp (maxSteps := 9^9) (disch := (try simp only [lens]); omega) only [zJ, sm, ↓amb, zQ, simprocAttr, sz47, en25, dx]
  repeat refine an ?_
  refine yW (c_dedup_Once false d (Pl.ksE l) w (Pl.ksE_w l) hkl) rfl ?_
  simp (maxSteps := 9^9) (disch := (try simp only [lens]); omega) only [zJ, sm, ↓amb, zQ, simprocAttr, sz47, en25, dx]
  repeat refine an ?_
  refine hk _ ?_; clear hk k
  refine zW (zV [12, 13, 14]) ?_
  simp only [kp, zJ, simprocAttr]
  refine zK [39, 58] (by rw [hC]; rfl) fun k hk => ?_
  simp (maxSteps := 9^9) (disch := (try simp only [lens]); omega) only [zJ, sm, ↓amb, zQ, simprocAttr, dx]
  repeat refine an ?_
  refine hk _ ?_; clear hk k
  refine zY fun k6 h6 => ?_
  refine zW (zV [4, 5, 6, 12, 13, 14, 15]) ?_
  simp only [kp, zJ, simprocAttr]
  refine awp_own' 15 2 rfl ?_
  have hgl := Pl.grK_len (Pl.ksE_w l) w
  refine zK [39, 58] (by rw [hC]; rfl) fun k hk => ?_
  simp (maxSteps := 9^9) (disch := (try simp only [lens]); omega) only [zJ, sm, ↓amb, zQ, simprocAttr, el22, dx]
  repeat refine an ?_
  refine hk _ ?_; clear hk k
  refine yK ?_
  refine yY (σ := Nat) (fun i => i ≤ (Pl.grK (Pl.ksE l) w).length) (fun (i : Nat) => ⟨[(13, (.p (iV (Pl.grT (Pl.ksE l).length w)))), (14, (.p (iV (Pl.grE (Pl.ksE l).length w)))), (15, (.own 0)), (48, (.p (words false (Pl.grK (Pl.ksE l) w)))), (49, (.p (iV (Pl.grK (Pl.ksE l) w).length))), (50, (.p (iV (i : Int))))], [(0, (.row 2 (lift ((((Pl.grK (Pl.ksE l) w).take i).map Pl.unkey).map edgeC))))], 1⟩) (fun i => (Pl.grK (Pl.ksE l) w).length - i) 0 ?_ ?_ fun i hi => ?_
  ·exact Nat.zero_le _
  ·exact le_of [(0, _)] (by rfl) (by rfl) ⟨⟨_, rfl, .oe⟩, ⟨_, rfl, .oe⟩, ⟨_, rfl, .own rfl⟩, ⟨_, rfl, .oe⟩, ⟨_, rfl, .oe⟩, ⟨_, rfl, .oe⟩, trivial⟩ ⟨⟨_, rfl, _, rfl, .liftE (by first | rfl | (rw [Pl.take_snoc' (Pl.grK (Pl.ksE l) w) i (by omega), List.map_append, List.map_append]; rfl) | trace_state)⟩, trivial⟩
  refine zW (zV [0, 4, 5, 6, 13, 14, 15, 48, 49, 50]) ?_
  simp only [kp, zJ, simprocAttr]
  refine zK [39, 58] (by rw [hC]; rfl) fun k hk => ?_
  simp (maxSteps := 9^9) (disch := (try simp only [lens]); omega) only [zJ, sm, ↓amb, zQ, simprocAttr, dx]
  repeat refine an ?_
  refine hk _ ?_; clear hk k
  refine zY fun k8 h8 => ?_
  refine zX rfl (fun hb => ?_) (fun hb => ?_)
  ·try simp only [hbx] at hb
   refine yJ ?_
   refine h8 _ ?_; clear h8 k8
   refine zY fun k9 h9 => ?_
   refine yK ?_
   refine zW (zV [0, 4, 5, 6, 13, 14, 15, 48, 49, 50]) ?_
   simp only [kp, zJ, simprocAttr]
   refine zK [39, 58] (by rw [hC]; rfl) fun k hk => ?_
   simp (maxSteps := 9^9) (disch := (try simp only [lens]); omega) only [zJ, sm, ↓amb, zQ, simprocAttr, el22, sz41, dx]
   repeat refine an ?_
   refine hk _ ?_; clear hk k
   have hw1 := Pl.grK_w (Pl.ksE_w l) w _ (Pl.getD_mem (Pl.grK (Pl.ksE l) w) i 0 (by omega))
   refine yZ [39, 58] (by rw [hC]; rfl) fun k hk => ?_
   simp (maxSteps := 9^9) (disch := (try simp only [lens]); omega) only [zJ, sm, ↓amb, zQ, simprocAttr, en32, el53, vr59, by59, dx]
   repeat refine an ?_
   refine yW (c_dedup_Edge _ hw1) rfl ?_
   simp (maxSteps := 9^9) (disch := (try simp only [lens]); omega) only [zJ, sm, ↓amb, zQ, simprocAttr, en32, el53, vr59, by59, dx]
   repeat refine an ?_
   refine hk _ ?_; clear hk k
   refine h9 _ ?_; clear h9 k9
   refine yZ [39, 58] (by rw [hC]; rfl) fun k hk => ?_
   simp (maxSteps := 9^9) (disch := (try simp only [lens]); omega) only [zJ, sm, ↓amb, zQ, simprocAttr, dx]
   repeat refine an ?_
   refine hk _ ?_; clear hk k
   refine ⟨i + 1, by omega, le_of [(0, _)] (by rfl) (by rfl) ⟨⟨_, rfl, .oe⟩, ⟨_, rfl, .oe⟩, ⟨_, rfl, .own rfl⟩, ⟨_, rfl, .oe⟩, ⟨_, rfl, .oe⟩, ⟨_, rfl, .oe⟩, trivial⟩ ⟨⟨_, rfl, _, rfl, .liftE (by first | rfl | (rw [Pl.take_snoc' (Pl.grK (Pl.ksE l) w) i (by omega), List.map_append, List.map_append]; rfl) | trace_state)⟩, trivial⟩, by omega⟩
  ·try simp only [hbx] at hb
   refine yX ((if_pos rfl).mpr ?_)
   refine h6 _ ?_; clear h8 k8; clear h6 k6
   refine zW (zV [13, 14, 15]) ?_
   simp only [kp, zJ, simprocAttr]
   obtain rfl : i = (Pl.grK (Pl.ksE l) w).length := by omega
   rw [List.take_of_length_le (Nat.le_refl _)]
   refine zK [39, 58] (by rw [hC]; rfl) fun k hk => ?_
   simp (maxSteps := 9^9) (disch := (try simp only [lens]); omega) only [zJ, sm, ↓amb, zQ, simprocAttr, dx]
   repeat refine an ?_
   refine hk _ ?_; clear hk k
   refine yQ ?_
   have ho : (∀ e, e ∈ l → Pl.fitE e) := fun e he => by
    obtain ⟨j, hj, rfl⟩ := List.getElem_of_mem he
    have := hi2 j hj
    rwa [List.getD_eq_getElem?_getD, List.getElem?_eq_getElem hj] at this
   rw [if_pos ho, if_pos ho, if_pos ho]
   refine ret3 rfl rfl rfl rfl ?_ ?_ ?_
   ·exact .ownE rfl rfl
   ·exact .p (LeP.refl _)
   ·exact .p (LeP.refl _)
end Go.Proofs.Ytbehekmnccoifaa
end
section
set_option linter.unusedSimpArgs false
set_option linter.unusedVariables false
namespace Go.Pl
open Go.Am
theorem cut_eq {n w : Int} (h : 0 < w) : (n.tmod w < 0 → n.tmod w + w = n % w) ∧ (¬ n.tmod w < 0 → n.tmod w = n % w) := by
  obtain ⟨h1, h2⟩ := tmod_bound n h
  have h3 := Int.mul_tdiv_add_tmod n w
  constructor
  · intro h0
    have e : n = (n.tmod w + w) + w * (n.tdiv w - 1) := by rw [Int.mul_sub]; omega
    conv => rhs; rw [e]
    rw [Int.add_mul_emod_self_left, Int.emod_eq_of_lt (by omega) (by omega)]
  · intro h0
    have e : n = n.tmod w + w * n.tdiv w := by omega
    conv => rhs; rw [e]
    rw [Int.add_mul_emod_self_left, Int.emod_eq_of_lt (by omega) (by omega)]
theorem num_eq (d : List (List Int)) (n : Int) (h : 1 ≤ d.length) : num d n = n % (d.length : Int) := by
  have hw : (0 : Int) < (d.length : Int) := by omega
  obtain ⟨h1, h2⟩ := tmod_bound n hw
  obtain ⟨c1, c2⟩ := cut_eq (n := n) hw
  unfold num
  by_cases h0 : n.tmod (d.length : Int) < 0
  · rw [← c1 h0, Int.emod_eq_of_lt (by omega) (by omega)]
  · rw [← c2 h0, Int.add_emod_right, Int.emod_eq_of_lt (by omega) (by omega)]
theorem metL_at {n : Nat} {l : List Int} {t : Int} (h0 : 0 ≤ t) (h1 : t < n) : (metL n l).getD t.toNat default = decide (t ∈ l) := by
  unfold metL
  rw [List.getD_eq_getElem?_getD, List.getElem?_map, List.getElem?_range (by omega)]
  simp [Int.toNat_of_nonneg h0]
theorem metL_in {n : Nat} {l : List Int} {t : Int} (h0 : 0 ≤ t) (h1 : t < n) (h : (metL n l).getD t.toNat default = true) : t ∈ l := by
  rw [metL_at h0 h1] at h; exact of_decide_eq_true h
theorem metL_out {n : Nat} {l : List Int} {t : Int} (h0 : 0 ≤ t) (h1 : t < n) (h : (metL n l).getD t.toNat default = false) : t ∉ l := by
  rw [metL_at h0 h1] at h; exact of_decide_eq_false h
def heldOk (w : Work) (l : List Int) (t : Int) : Prop := 0 ≤ t ∧ t < w.ts.length ∧ t ∉ l ∧ (w.ts.getD t.toNat default).wait = 0 ∧ (great w t ∨ ¬ w.done.getD (w.ts.getD t.toNat default).low.toNat default = true)
instance (w : Work) (l : List Int) (t : Int) : Decidable (heldOk w l t) := by unfold heldOk; infer_instance
theorem heldOk_iff (w : Work) (l : List Int) (t : Int) : heldOk w l t ↔ t ∉ l ∧ holds w t := by
  unfold heldOk holds task
  simp only [Bool.not_eq_true]
  exact ⟨fun ⟨a, b, c, d⟩ => ⟨c, a, b, d⟩, fun ⟨c, a, b, d⟩ => ⟨a, b, c, d⟩⟩
theorem held_last {w : Work} {l : List Int} {t : Int} (h0 : 0 ≤ t) (h1 : t < w.ts.length) (h2 : t ∉ l) (h3 : (w.ts.getD t.toNat default).wait = 0) (h4 : ¬ great w t) :
    w.done.getD (w.ts.getD t.toNat default).low.toNat default = decide (¬ heldOk w l t) := by
  refine Bool.eq_iff_iff.mpr ?_
  simp only [decide_eq_true_eq]
  exact ⟨fun h q => q.2.2.2.2.elim (fun z => h4 z) (fun z => z h), fun h => Decidable.byContradiction fun z => h ⟨h0, h1, h2, h3, .inr z⟩⟩
theorem metOk_more {w : Work} {l : List Int} {t : Int} (h : metOk w l) (h2 : heldOk w l t) : metOk w (l ++ [t]) := by
  obtain ⟨h3, h4⟩ := (heldOk_iff w l t).1 h2
  refine ⟨?_, fun u hu => ?_⟩
  · rw [List.nodup_append]
    refine ⟨h.1, by simp, fun a ha b hb => ?_⟩
    simp at hb; subst hb
    intro e; subst e; exact h3 ha
  · rcases List.mem_append.1 hu with q | q
    · exact h.2 u q
    · simp at q; subst q; exact h4
theorem crewRight_not {c : Crew} {l r : List Int} {t : Int} (h2 : ¬ heldOk c.work l t) (e : c.dq.flatten = (l ++ [t]) ++ r) : ¬ crewRight c := by
  intro ⟨_, _, _, _, _, hn, hh⟩
  refine h2 ((heldOk_iff _ _ _).2 ⟨fun hm => ?_, hh t (by rw [e]; simp)⟩)
  rw [e] at hn
  have h3 := (List.nodup_append.1 (List.nodup_append.1 hn).1).2.2 t hm t (by simp)
  exact h3 rfl
end Go.Pl
namespace Go.Pl
open Go.Am
theorem step_at {c : Crew} {p v : Int} (h0 : (step c p v).2.2 = 0) : ∃ P V : Nat, p % (c.dq.length : Int) = (P : Int) ∧ v % (c.dq.length : Int) = (V : Int) ∧ (num c.dq p).toNat = P ∧ (num c.dq v).toNat = V ∧ num c.dq p = (P : Int) ∧ P < c.dq.length ∧ V < c.dq.length ∧ crewRight c ∧ ¬ c.steps = 100000 := by
  obtain ⟨hr, hst, _⟩ := step_cases c p v h0
  have n1 := num_bound c.dq p hr.2.1
  have n2 := num_bound c.dq v hr.2.1
  have e1 := num_eq c.dq p hr.2.1
  have e2 := num_eq c.dq v hr.2.1
  exact ⟨(num c.dq p).toNat, (num c.dq v).toNat, by omega, by omega, rfl, rfl, by omega, by omega, by omega, hr, hst⟩
theorem step_own {c : Crew} {p v : Int} {P V : Nat} (h0 : (step c p v).2.2 = 0) (hP : (num c.dq p).toNat = P) (hN : num c.dq p = (P : Int)) (hV : (num c.dq v).toNat = V) (hp : 0 < (c.dq.getD P default).length) {t : Int} (ht : t = (c.dq.getD P default).getD ((c.dq.getD P default).length - 1) 0) :
    (great c.work t → partE c.work t = 0 ∧ step c p v = (⟨partW c.work t, c.dq.set P ((c.dq.getD P default).take ((c.dq.getD P default).length - 1) ++ [partB c.work t, partA c.work t]), c.over, c.steps + 1, c.idle⟩, ⟨P, P, t, true⟩, 0)) ∧
    (¬ great c.work t → doE c.work t = 0 ∧ step c p v = (⟨doW c.work t, c.dq.set P ((c.dq.getD P default).take ((c.dq.getD P default).length - 1)), c.over || doO c.work t, c.steps + 1, c.idle⟩, ⟨P, P, t, false⟩, 0)) := by
  obtain ⟨hr, hst, hc⟩ := step_cases c p v h0
  have n1 := num_bound c.dq p hr.2.1
  have hPl : P < c.dq.length := by omega
  have fb : foundB c.dq P V = true := decide_eq_true (.inl hp)
  have fe : evF c.dq p v = ⟨P, P, t, false⟩ := by
    unfold evF evN foundE; rw [hP, if_pos hp, hN, ← ht]
  have fd : dqF c.dq p v = c.dq.set P ((c.dq.getD P default).take ((c.dq.getD P default).length - 1)) := by
    unfold dqF foundD; rw [hP, if_pos hp]
  rw [hP, hV, fb, fe, fd] at hc
  rcases hc with ⟨_, h1, h2⟩ | ⟨h1, _⟩
  · dsimp only at h1 h2
    constructor
    · intro hg
      have hpe : partE c.work t = 0 := by rw [goE, if_pos hg] at h1; exact h1
      obtain ⟨e1, e2, e3, e4, e5⟩ := go_part (t := t) (d := c.dq.set P ((c.dq.getD P default).take ((c.dq.getD P default).length - 1))) (p := P) (o := c.over) (e := (⟨P, P, t, false⟩ : Event)) rfl hg hpe
      rw [e2, e3, e4, e5] at h2
      refine ⟨hpe, h2.trans ?_⟩
      rw [List.set_set, show (c.dq.set P ((c.dq.getD P default).take ((c.dq.getD P default).length - 1))).getD P default = (c.dq.getD P default).take ((c.dq.getD P default).length - 1) from getD_set _ _ _ _ hPl]
    · intro hg
      obtain ⟨e1, e2, e3, e4, e5⟩ := go_do (t := t) (d := c.dq.set P ((c.dq.getD P default).take ((c.dq.getD P default).length - 1))) (p := P) (o := c.over) (e := (⟨P, P, t, false⟩ : Event)) rfl hg
      rw [e1] at h1
      rw [e2, e3, e4, e5] at h2
      exact ⟨h1, h2⟩
  · cases h1
theorem step_steal {c : Crew} {p v : Int} {P V : Nat} (h0 : (step c p v).2.2 = 0) (hP : (num c.dq p).toNat = P) (hN : num c.dq p = (P : Int)) (hV : (num c.dq v).toNat = V) (hp : ¬ 0 < (c.dq.getD P default).length) (hv : 0 < (c.dq.getD V default).length) {t : Int} (ht : t = (c.dq.getD V default).getD 0 0) :
    (great c.work t → partE c.work t = 0 ∧ step c p v = (⟨partW c.work t, (c.dq.set V ((c.dq.getD V default).drop 1)).set P [partB c.work t, partA c.work t], c.over, c.steps + 1, c.idle⟩, ⟨P, V, t, true⟩, 0)) ∧
    (¬ great c.work t → doE c.work t = 0 ∧ step c p v = (⟨doW c.work t, c.dq.set V ((c.dq.getD V default).drop 1), c.over || doO c.work t, c.steps + 1, c.idle⟩, ⟨P, V, t, false⟩, 0)) := by
  obtain ⟨hr, hst, hc⟩ := step_cases c p v h0
  have n1 := num_bound c.dq p hr.2.1
  have n2 := num_bound c.dq v hr.2.1
  have hPl : P < c.dq.length := by omega
  have hne : V ≠ P := fun e => hp (e ▸ hv)
  have fb : foundB c.dq P V = true := decide_eq_true (.inr hv)
  have fe : evF c.dq p v = ⟨P, V, t, false⟩ := by
    unfold evF evN foundE; rw [hP, hV, if_neg hp, if_pos hv, hN, ← ht]
  have fd : dqF c.dq p v = c.dq.set V ((c.dq.getD V default).drop 1) := by
    unfold dqF foundD; rw [hP, hV, if_neg hp, if_pos hv]
  rw [hP, hV, fb, fe, fd] at hc
  rcases hc with ⟨_, h1, h2⟩ | ⟨h1, _⟩
  · dsimp only at h1 h2
    constructor
    · intro hg
      have hpe : partE c.work t = 0 := by rw [goE, if_pos hg] at h1; exact h1
      obtain ⟨e1, e2, e3, e4, e5⟩ := go_part (t := t) (d := c.dq.set V ((c.dq.getD V default).drop 1)) (p := P) (o := c.over) (e := (⟨P, V, t, false⟩ : Event)) rfl hg hpe
      rw [e2, e3, e4, e5] at h2
      refine ⟨hpe, h2.trans ?_⟩
      have hnil : (c.dq.set V ((c.dq.getD V default).drop 1)).getD P default = [] := by
        rw [List.getD_eq_getElem?_getD, List.getElem?_set_ne hne, ← List.getD_eq_getElem?_getD]
        exact List.eq_nil_of_length_eq_zero (by omega)
      rw [hnil, List.nil_append]
    · intro hg
      obtain ⟨e1, e2, e3, e4, e5⟩ := go_do (t := t) (d := c.dq.set V ((c.dq.getD V default).drop 1)) (p := P) (o := c.over) (e := (⟨P, V, t, false⟩ : Event)) rfl hg
      rw [e1] at h1
      rw [e2, e3, e4, e5] at h2
      exact ⟨h1, h2⟩
  · cases h1
theorem step_idle' {c : Crew} {p v : Int} {P V : Nat} (h0 : (step c p v).2.2 = 0) (hP : (num c.dq p).toNat = P) (hN : num c.dq p = (P : Int)) (hV : (num c.dq v).toNat = V) (hp : ¬ 0 < (c.dq.getD P default).length) (hv : ¬ 0 < (c.dq.getD V default).length) :
    ¬ c.idle = 100000 ∧ step c p v = (⟨c.work, c.dq, c.over, c.steps + 1, c.idle + 1⟩, ⟨P, -1, -1, false⟩, 0) := by
  obtain ⟨hr, hst, hc⟩ := step_cases c p v h0
  have fb : foundB c.dq P V = false := decide_eq_false (fun q => q.elim hp hv)
  rw [hP, hV, fb] at hc
  rcases hc with ⟨h1, _⟩ | ⟨_, h1, h2⟩
  · cases h1
  · refine ⟨h1, h2.trans ?_⟩
    unfold evN; rw [hN]
end Go.Pl
namespace Go.Pl
theorem rounds_pre : ∀ (f k : Nat) (c : Crew) (ev : List Event), ∃ m, (rounds f k c ev).2.1 = ev ++ m
  | 0, k, c, ev => ⟨[], by simp [rounds]⟩
  | f + 1, k, c, ev => by
    simp only [rounds]
    split
    · exact ⟨[], by simp⟩
    · split
      · exact ⟨[], by simp⟩
      · split
        · exact ⟨[], by simp⟩
        · obtain ⟨m, hm⟩ := rounds_pre f (k + 1) (step c (rp c k) (rv c k)).1 (ev ++ [(step c (rp c k) (rv c k)).2.1])
          exact ⟨[(step c (rp c k) (rv c k)).2.1] ++ m, by rw [hm, List.append_assoc]⟩
theorem rounds_rest (f k : Nat) (c : Crew) (ev : List Event) : ev ++ (rounds f k c ev).2.1.drop ev.length = (rounds f k c ev).2.1 := by
  obtain ⟨m, hm⟩ := rounds_pre f k c ev
  rw [hm, List.drop_left]
end Go.Pl
end
section
set_option linter.unusedSimpArgs false
set_option linter.unusedVariables false
set_option maxRecDepth 100000
namespace Go.Proofs.Ytbehekmnccoifaa
open Go.Am Go.Proofs
theorem en88 : enters Try.prog 88 = true := by kernel_rfl
theorem en96 : enters Try.prog 96 = true := by kernel_rfl
theorem en97 : enters Try.prog 97 = true := by kernel_rfl
theorem en98 : enters Try.prog 98 = true := by kernel_rfl
set_option maxHeartbeats 4000000 in
theorem c38 (c d : Bool) (w : Pl.Work) : PCall Try.prog 96 [workV c d w] (bV (decide (Pl.right w))) := by
 refine yV Try.func96 rfl (by simp [Try.ntmps96]) fun C hC => ?_
 refine zW (zV [0]) ?_
 simp only [kp, zJ, simprocAttr]
 refine zK [] (by rw [hC]; rfl) fun k hk => ?_
 simp (maxSteps := 9^9) (disch := (try simp only [lens]); omega) only [zJ, sm, ↓amb, zQ, simprocAttr, dx]
 repeat refine an ?_
 refine hk _ ?_; clear hk k
 refine zW (zV [1]) ?_
 simp only [kp, zJ, simprocAttr]
 refine zK [] (by rw [hC]; rfl) fun k hk => ?_
 simp (maxSteps := 9^9) (disch := (try simp only [lens]); omega) only [zJ, sm, ↓amb, zQ, simprocAttr, fl88_2, sz23, el23, dx]
 repeat refine an ?_
 refine hk _ ?_; clear hk k
 refine zY fun k1 h1 => ?_
 refine xQ [] 36 (decide (¬ (Pl.cnt w.done.length w.grain ∧ 1 ≤ w.ts.length ∧ w.ts.length ≤ 2000))) [1, 2, 3] (by rw [hC]; rfl) (fun gd hgd k hk => ?_) ?_
 ·have g3 : gd 3 = some 12 := by rw [hgd]; rfl
  have g8 : gd 8 = some 17 := by rw [hgd]; rfl
  have g12 : gd 12 = some 21 := by rw [hgd]; rfl
  have g16 : gd 16 = some 25 := by rw [hgd]; rfl
  have g22 : gd 22 = some 31 := by rw [hgd]; rfl
  clear hgd
  simp (maxSteps := 9^9) (disch := (try simp only [lens]); omega) only [zJ, sm, ↓amb, zQ, simprocAttr, fl88_1, sz3, fl88_0, sz86, el86, zZ, g3, g8, g12, g16, g22, dx]
  repeat' first | refine hk _ _ rfl rfl rfl rfl ?_ | (refine gsplit (fun hg => ?_) (fun hg => ?_) <;> (try simp only [hbx] at hg) <;> simp (maxSteps := 9^9) (disch := (try simp only [lens]); omega) only [zJ, sm, ↓amb, zQ, simprocAttr, fl88_1, sz3, fl88_0, sz86, el86, zZ, g3, g8, g12, g16, g22, dx]) | apply And.intro | fail
  all_goals first | rfl | omega | exact (decide_eq_true (by (try simp only [Pl.right, Pl.cnt, Pl.okT] at *); omega)).symm | exact (decide_eq_false (by (try simp only [Pl.right, Pl.cnt, Pl.okT] at *); omega)).symm | exact decide_eq_decide.mpr (by (try simp only [Pl.right, Pl.cnt, Pl.okT] at *); omega) | (refine Bool.eq_iff_iff.mpr ?_; (try simp only [Pl.right, Pl.cnt, Pl.okT] at *); simp only [beq_iff_eq, bne_iff_ne, ne_eq, decide_eq_true_eq]; omega) | (refine Bool.eq_iff_iff.mpr ?_; simp only [Bool.not_eq_true', Bool.not_eq_false', decide_eq_false_iff_not, decide_eq_true_eq, beq_iff_eq, bne_iff_ne, ne_eq]; (try simp only [Pl.right, Pl.cnt, Pl.okT] at *); omega) | assumption | (simp; done) | (simp [maxLen]; omega) | skip
 simp only [kp, zJ, simprocAttr, List.length_cons, List.length_nil]
 refine zX rfl (fun hb => ?_) (fun hb => ?_)
 ·try simp only [hbx] at hb
  refine zW (zV []) ?_
  simp only [kp, zJ, simprocAttr]
  refine zK [] (by rw [hC]; rfl) fun k hk => ?_
  simp (maxSteps := 9^9) (disch := (try simp only [lens]); omega) only [zJ, sm, ↓amb, zQ, simprocAttr, dx]
  repeat refine an ?_
  refine hk _ ?_; clear hk k
  refine yQ ?_
  refine ret1 rfl rfl ?_
  exact .p (LeP.of_eq (by rw [decide_eq_false (by intro h; simp only [Pl.right, Pl.cnt] at h hb; omega)]))
 ·try simp only [hbx] at hb
  refine yJ ?_
  refine h1 _ ?_; clear h1 k1
  refine zY fun k2 h2 => ?_
  refine zW (zV [1, 2, 3]) ?_
  simp only [kp, zJ, simprocAttr]
  have hb0 := hb
  refine zK [] (by rw [hC]; rfl) fun k hk => ?_
  simp (maxSteps := 9^9) (disch := (try simp only [lens]); omega) only [zJ, sm, ↓amb, zQ, simprocAttr, dx]
  repeat refine an ?_
  refine hk _ ?_; clear hk k
  refine yK ?_
  refine yY (σ := Nat) (fun (i : Nat) => i ≤ w.ts.length ∧ ∀ j, j < i → Pl.okT w.done.length j (w.ts.getD j default)) (fun (i : Nat) => ⟨[(1, (.ptr 0 3 0 0)), (3, (.p (iV w.done.length))), (4, (.p (iV i)))], [(0, (.row 3 [[.p (.seq c (w.ts.map taskC)), .p (iV w.grain), .p (.seq d (w.done.map fun b => [bV b]))]]))], 1⟩) (fun i => w.ts.length - i) 0 ?_ ?_ fun x hx => ?_
  ·exact ⟨Nat.zero_le _, fun j hj => by omega⟩
  ·exact le_of [(0, _)] (by rfl) (by rfl) ⟨⟨_, rfl, .ptr rfl⟩, ⟨_, rfl, .oe⟩, ⟨_, rfl, .oe⟩, trivial⟩ ⟨⟨_, rfl, _, rfl, .one (.cons (.p (.refl _)) (.cons (.p (.refl _)) (.cons (.p (.refl _)) .nil)))⟩, trivial⟩
  obtain ⟨hx1, hx2⟩ := hx
  refine zY fun k4 h4 => ?_
  refine zW (zV [0, 1, 2, 3, 4]) ?_
  simp only [kp, zJ, simprocAttr]
  refine zK [] (by rw [hC]; rfl) fun k hk => ?_
  simp (maxSteps := 9^9) (disch := (try simp only [lens]); omega) only [zJ, sm, ↓amb, zQ, simprocAttr, fl88_0, sz86, el86, dx]
  repeat refine an ?_
  refine hk _ ?_; clear hk k
  refine zX rfl (fun hb => ?_) (fun hb => ?_)
  ·try simp only [hbx] at hb
   refine yJ ?_
   refine h4 _ ?_; clear h4 k4
   refine zY fun k5 h5 => ?_
   refine yK ?_
   refine zW (zV [0, 1, 2, 3, 4]) ?_
   simp only [kp, zJ, simprocAttr]
   refine zK [] (by rw [hC]; rfl) fun k hk => ?_
   simp (maxSteps := 9^9) (disch := (try simp only [lens]); omega) only [zJ, sm, ↓amb, zQ, simprocAttr, fl88_0, sz86, el86, sz118, vr118, dx]
   repeat refine an ?_
   refine hk _ ?_; clear hk k
   refine xQ [] 85 (decide (¬ Pl.okT w.done.length x (w.ts.getD x default))) [0, 1, 2, 3, 4] (by rw [hC]; rfl) (fun gd hgd k hk => ?_) ?_
   ·have g3 : gd 3 = some 52 := by rw [hgd]; rfl
    have g10 : gd 10 = some 59 := by rw [hgd]; rfl
    have g16 : gd 16 = some 65 := by rw [hgd]; rfl
    have g21 : gd 21 = some 70 := by rw [hgd]; rfl
    have g27 : gd 27 = some 76 := by rw [hgd]; rfl
    have g32 : gd 32 = some 81 := by rw [hgd]; rfl
    clear hgd
    simp (maxSteps := 9^9) (disch := (try simp only [lens]); omega) only [zJ, sm, ↓amb, zQ, simprocAttr, fl118_0, sz3, fl118_1, fl118_2, fl118_3, zZ, g3, g10, g16, g21, g27, g32, dx]
    repeat' first | refine hk _ _ rfl rfl rfl rfl ?_ | (refine gsplit (fun hg => ?_) (fun hg => ?_) <;> (try simp only [hbx] at hg) <;> simp (maxSteps := 9^9) (disch := (try simp only [lens]); omega) only [zJ, sm, ↓amb, zQ, simprocAttr, fl118_0, sz3, fl118_1, fl118_2, fl118_3, zZ, g3, g10, g16, g21, g27, g32, dx]) | apply And.intro | fail
    all_goals first | rfl | omega | exact (decide_eq_true (by (try simp only [Pl.right, Pl.cnt, Pl.okT] at *); omega)).symm | exact (decide_eq_false (by (try simp only [Pl.right, Pl.cnt, Pl.okT] at *); omega)).symm | exact decide_eq_decide.mpr (by (try simp only [Pl.right, Pl.cnt, Pl.okT] at *); omega) | (refine Bool.eq_iff_iff.mpr ?_; (try simp only [Pl.right, Pl.cnt, Pl.okT] at *); simp only [beq_iff_eq, bne_iff_ne, ne_eq, decide_eq_true_eq]; omega) | (refine Bool.eq_iff_iff.mpr ?_; simp only [Bool.not_eq_true', Bool.not_eq_false', decide_eq_false_iff_not, decide_eq_true_eq, beq_iff_eq, bne_iff_ne, ne_eq]; (try simp only [Pl.right, Pl.cnt, Pl.okT] at *); omega) | assumption | (simp; done) | (simp [maxLen]; omega) | skip
   simp only [kp, zJ, simprocAttr, List.length_cons, List.length_nil]
   refine zX rfl (fun hb => ?_) (fun hb => ?_)
   ·try simp only [hbx] at hb
    refine zW (zV []) ?_
    simp only [kp, zJ, simprocAttr]
    refine zK [] (by rw [hC]; rfl) fun k hk => ?_
    simp (maxSteps := 9^9) (disch := (try simp only [lens]); omega) only [zJ, sm, ↓amb, zQ, simprocAttr, dx]
    repeat refine an ?_
    refine hk _ ?_; clear hk k
    refine yQ ?_
    refine ret1 rfl rfl ?_
    exact .p (LeP.of_eq (by rw [decide_eq_false (fun h => by have h2 := h.2.2.2 x (by omega); have h3 := h.1; simp only [Pl.okT] at h2 hb; omega)]))
   ·try simp only [hbx] at hb
    refine yJ ?_
    refine h5 _ ?_; clear h5 k5
    refine yZ [] (by rw [hC]; rfl) fun k hk => ?_
    simp (maxSteps := 9^9) (disch := (try simp only [lens]); omega) only [zJ, sm, ↓amb, zQ, simprocAttr, dx]
    repeat refine an ?_
    refine hk _ ?_; clear hk k
    refine ⟨x + 1, ⟨by omega, fun j hj => by by_cases e : j = x; subst e; exact hb; exact hx2 j (by omega)⟩, le_of [(0, _)] (by rfl) (by rfl) ⟨⟨_, rfl, .ptr rfl⟩, ⟨_, rfl, .oe⟩, ⟨_, rfl, .oe⟩, trivial⟩ ⟨⟨_, rfl, _, rfl, .one (.cons (.p (.refl _)) (.cons (.p (.refl _)) (.cons (.p (.refl _)) .nil)))⟩, trivial⟩, by omega⟩
  ·try simp only [hbx] at hb
   refine yX ((if_pos rfl).mpr ?_)
   refine h2 _ ?_; clear h4 k4; clear h2 k2
   refine zW (zV []) ?_
   simp only [kp, zJ, simprocAttr]
   refine zK [] (by rw [hC]; rfl) fun k hk => ?_
   simp (maxSteps := 9^9) (disch := (try simp only [lens]); omega) only [zJ, sm, ↓amb, zQ, simprocAttr, dx]
   repeat refine an ?_
   refine hk _ ?_; clear hk k
   refine yQ ?_
   refine ret1 rfl rfl ?_
   exact .p (LeP.of_eq (by rw [decide_eq_true (Pl.right_of (by omega) hb0 hx2)]))
set_option maxHeartbeats 4000000 in
theorem c52 (c d : Bool) (w : Pl.Work) (i : Int) : PCall Try.prog 98 [workV c d w, iV i] (bV (decide (0 ≤ i ∧ i < w.ts.length))) := by
 refine yV Try.func98 rfl (by simp [Try.ntmps98]) fun C hC => ?_
 refine zK [] (by rw [hC]; rfl) fun k hk => ?_
 simp (maxSteps := 9^9) (disch := (try simp only [lens]); omega) only [zJ, sm, ↓amb, zQ, simprocAttr, dx]
 repeat refine an ?_
 refine hk _ ?_; clear hk k
 refine xQ [] 4 (decide (0 ≤ i ∧ i < w.ts.length)) [] (by rw [hC]; rfl) (fun gd hgd k hk => ?_) ?_
 ·have g2 : gd 2 = some 7 := by rw [hgd]; rfl
  clear hgd
  simp (maxSteps := 9^9) (disch := (try simp only [lens]); omega) only [zJ, sm, ↓amb, zQ, simprocAttr, fl88_0, sz86, el86, zZ, g2, dx]
  repeat' first | refine hk _ _ rfl rfl rfl rfl ?_ | (refine gsplit (fun hg => ?_) (fun hg => ?_) <;> (try simp only [hbx] at hg) <;> simp (maxSteps := 9^9) (disch := (try simp only [lens]); omega) only [zJ, sm, ↓amb, zQ, simprocAttr, fl88_0, sz86, el86, zZ, g2, dx]) | apply And.intro | fail
  all_goals first | rfl | omega | exact (decide_eq_true (by omega)).symm | exact (decide_eq_false (by omega)).symm | exact decide_eq_decide.mpr (by omega) | (refine Bool.eq_iff_iff.mpr ?_; simp only [beq_iff_eq, bne_iff_ne, ne_eq, decide_eq_true_eq]; omega) | (refine Bool.eq_iff_iff.mpr ?_; simp only [Bool.not_eq_true', Bool.not_eq_false', decide_eq_false_iff_not, decide_eq_true_eq, beq_iff_eq, bne_iff_ne, ne_eq]; omega) | assumption | (simp; done) | (simp [maxLen]; omega) | skip
 simp only [kp, zJ, simprocAttr, List.length_cons, List.length_nil]
 refine yQ ?_
 refine ret1 rfl rfl ?_
 exact .p (LeP.refl _)
set_option maxHeartbeats 4000000 in
theorem c40 (c d : Bool) (w : Pl.Work) (i : Int) : PCall Try.prog 88 [workV c d w, iV i] (bV (decide (Pl.great w i))) := by
 refine yV Try.func88 rfl (by simp [Try.ntmps88]) fun C hC => ?_
 refine zK [] (by rw [hC]; rfl) fun k hk => ?_
 simp (maxSteps := 9^9) (disch := (try simp only [lens]); omega) only [zJ, sm, ↓amb, zQ, simprocAttr, dx]
 repeat refine an ?_
 refine hk _ ?_; clear hk k
 refine awp_testD [] ⟨[0, 1, 3, 7, 7, 31, 63, 127, 255, 511, 255, 2047, 4095, 8191, 255, 16639, 255, 114943, 246015, 508159, 1048575, 255, 2097407, 8388607, 16777215, 33554431], [0, 3, 9, 13, 15, 19, 22], [], [(1, 3), (1, 9), (5, 9), (1, 13), (5, 13), (1, 15), (5, 15), (1, 19), (5, 19), (1, 22), (5, 22)], some []⟩ 4 (decide (Pl.great w i)) [] (by rw [hC]; rfl) (by kernel_rfl) (by kernel_rfl) (fun gd hgd k hk => ?_) ?_
 ·have g2 : gd 2 = some 7 := by rw [hgd]; rfl
  have g7 : gd 7 = some 12 := by rw [hgd]; rfl
  clear hgd
  simp (maxSteps := 9^9) (disch := (try simp only [lens]); omega) only [zJ, sm, ↓amb, zQ, simprocAttr, sz88, en96, en98, fl88_0, sz86, el86, sz118, fl118_1, sz3, fl118_0, fl88_1, zZ, g2, g7, dx]
  repeat' first | refine hk _ _ rfl rfl rfl rfl ?_ | (refine gsplit (fun hg => ?_) (fun hg => ?_) <;> (try simp only [hbx] at hg) <;> (try (have hth := Pl.there_of (by assumption) hg; have q := Pl.ok_of hth; obtain ⟨_, hi0, hi1, hok, _, _, _, _⟩ := q; simp only [Pl.okT, Pl.task] at hok)) <;> simp (maxSteps := 9^9) (disch := (try simp only [lens]); omega) only [zJ, sm, ↓amb, zQ, simprocAttr, sz88, en96, en98, fl88_0, sz86, el86, sz118, fl118_1, sz3, fl118_0, fl88_1, zZ, g2, g7, dx]) | apply And.intro | (refine yW (c38 _ _ _) rfl ?_; (try simp (maxSteps := 9^9) (disch := (try simp only [lens]); omega) only [zJ, sm, ↓amb, zQ, simprocAttr, sz88, en96, en98, fl88_0, sz86, el86, sz118, fl118_1, sz3, fl118_0, fl88_1, zZ, g2, g7, dx])) | (refine yW (c52 _ _ _ _) rfl ?_; (try simp (maxSteps := 9^9) (disch := (try simp only [lens]); omega) only [zJ, sm, ↓amb, zQ, simprocAttr, sz88, en96, en98, fl88_0, sz86, el86, sz118, fl118_1, sz3, fl118_0, fl88_1, zZ, g2, g7, dx])) | fail
  all_goals first | rfl | omega | exact (decide_eq_true (by (try simp only [Pl.great] at *); omega)).symm | exact (decide_eq_false (by (try simp only [Pl.great] at *); omega)).symm | exact decide_eq_decide.mpr (by (try simp only [Pl.great] at *); omega) | (refine Bool.eq_iff_iff.mpr ?_; (try simp only [Pl.great] at *); simp only [beq_iff_eq, bne_iff_ne, ne_eq, decide_eq_true_eq]; omega) | (refine Bool.eq_iff_iff.mpr ?_; simp only [Bool.not_eq_true', Bool.not_eq_false', decide_eq_false_iff_not, decide_eq_true_eq, beq_iff_eq, bne_iff_ne, ne_eq]; (try simp only [Pl.great] at *); omega) | assumption | (simp; done) | (simp [maxLen]; omega) | skip
  all_goals first | exact decide_eq_decide.mpr ⟨fun h => ⟨hth, h⟩, fun h => h.2⟩ | exact (decide_eq_false (p := Pl.great w i) (by intro h; obtain ⟨a, b, e, _⟩ := Pl.ok_of h.1; first | exact hg a | exact hg ⟨b, e⟩ | omega)).symm
 simp only [kp, zJ, simprocAttr, List.length_cons, List.length_nil]
 refine yQ ?_
 refine ret1 rfl rfl ?_
 exact .p (LeP.refl _)
set_option maxHeartbeats 4000000 in
theorem c27 (c d : Bool) (w : Pl.Work) (h1 : w.ts.length ≤ 1000000) (h2 : w.done.length ≤ 1000000) : HCall Try.prog 97 [.p (workV c d w)] [] (.agg [.own 0, .p (iV w.grain), .own 1]) [(0, .row 4 (lift (w.ts.map taskC))), (1, .row 1 (lift (w.done.map fun b => [bV b])))] := by
 refine xJ Try.func97 rfl (by simp [Try.ntmps97]) fun C hC => ?_
 refine zK [6, 12] (by rw [hC]; rfl) fun k hk => ?_
 simp (maxSteps := 9^9) (disch := (try simp only [lens]); omega) only [zJ, sm, ↓amb, zQ, simprocAttr, vr88, dx]
 repeat refine an ?_
 refine hk _ ?_; clear hk k
 refine awp_sd [6, 12] ⟨[0, 0, 2, 7, 0, 16, 0, 0, 128, 463, 1023, 2047], [2, 3, 5, 8, 9], [11], [(3, 9), (3, 11), (9, 11)], none⟩ (by rw [hC]; rfl) (by kernel_rfl) (by kernel_rfl) fun k hk => ?_
 simp (maxSteps := 9^9) (disch := (try simp only [lens]); omega) only [zJ, sm, ↓amb, zQ, simprocAttr, el86, vr118, fl88_0, sz86, by118, fl88_1, sz3, el23, vr4, fl88_2, sz23, by4, vr88, bt88, pl88_0, pl88_1, pl88_2, sz88, dx]
 repeat refine an ?_
 refine hk _ ?_; clear hk k
 refine yQ ?_
 refine rethc rfl rfl sz88 ?_
 simp (maxSteps := 9^9) (disch := (try simp only [lens]); omega) only [zJ, sm, ↓amb, zQ, simprocAttr, sz88, dx]
 exact le_of [(0, _), (1, _)] (by rfl) (by rfl) ⟨⟨_, rfl, .agg rfl (LeRow.cons (.own rfl) (LeRow.cons (.p (.refl _)) (LeRow.cons (.own rfl) .nil))).2⟩, trivial⟩ ⟨⟨_, rfl, _, rfl, .lift _⟩, ⟨_, rfl, _, rfl, .lift _⟩, trivial⟩
set_option maxHeartbeats 4000000 in
theorem c27p (c d : Bool) (w : Pl.Work) (h1 : w.ts.length ≤ 1000000) (h2 : w.done.length ≤ 1000000) : PCall Try.prog 97 [workV c d w] (workV false false w) := by
 refine yV Try.func97 rfl (by simp [Try.ntmps97]) fun C hC => ?_
 refine zK [6, 12] (by rw [hC]; rfl) fun k hk => ?_
 simp (maxSteps := 9^9) (disch := (try simp only [lens]); omega) only [zJ, sm, ↓amb, zQ, simprocAttr, vr88, dx]
 repeat refine an ?_
 refine hk _ ?_; clear hk k
 refine awp_sd [6, 12] ⟨[0, 0, 2, 7, 0, 16, 0, 0, 128, 463, 1023, 2047], [2, 3, 5, 8, 9], [11], [(3, 9), (3, 11), (9, 11)], none⟩ (by rw [hC]; rfl) (by kernel_rfl) (by kernel_rfl) fun k hk => ?_
 simp (maxSteps := 9^9) (disch := (try simp only [lens]); omega) only [zJ, sm, ↓amb, zQ, simprocAttr, el86, vr118, fl88_0, sz86, by118, fl88_1, sz3, el23, vr4, fl88_2, sz23, by4, vr88, bt88, pl88_0, pl88_1, pl88_2, sz88, dx]
 repeat refine an ?_
 refine hk _ ?_; clear hk k
 refine yQ ?_
 refine retone rfl (retc rfl sz88 ?_)
 simp (maxSteps := 9^9) (disch := (try simp only [lens]); omega) only [zJ, sm, ↓amb, zQ, simprocAttr, sz88, dx]
 exact .agg_cons (.ownE rfl rfl) (.agg_cons (.p (LeP.refl _)) (.agg_cons (.ownE rfl rfl) (.agg_nil)))
set_option maxHeartbeats 4000000 in
theorem c29 (c d : Bool) (w : Pl.Work) (i : Int) : PCall Try.prog 89 [workV c d w, iV i] (.tup [workV false false (Pl.partW w i), iV (Pl.partA w i), iV (Pl.partB w i), iV (Pl.partE w i)]) := by
 refine yV Try.func89 rfl (by simp [Try.ntmps89]) fun C hC => ?_
 refine zK [] (by rw [hC]; rfl) fun k hk => ?_
 simp (maxSteps := 9^9) (disch := (try simp only [lens]); omega) only [zJ, sm, ↓amb, zQ, simprocAttr, vr88, dx]
 repeat refine an ?_
 refine hk _ ?_; clear hk k
 refine zY fun k1 h1 => ?_
 refine yK ?_
 refine zK [] (by rw [hC]; rfl) fun k hk => ?_
 simp (maxSteps := 9^9) (disch := (try simp only [lens]); omega) only [zJ, sm, ↓amb, zQ, simprocAttr, sz88, en96, dx]
 repeat refine an ?_
 refine yW (c38 _ _ _) rfl ?_
 simp (maxSteps := 9^9) (disch := (try simp only [lens]); omega) only [zJ, sm, ↓amb, zQ, simprocAttr, sz88, en96, dx]
 repeat refine an ?_
 refine hk _ ?_; clear hk k
 refine zX rfl (fun hb => ?_) (fun hb => ?_)
 ·try simp only [hbx] at hb
  refine zK [] (by rw [hC]; rfl) fun k hk => ?_
  simp (maxSteps := 9^9) (disch := (try simp only [lens]); omega) only [zJ, sm, ↓amb, zQ, simprocAttr, sz88, dx]
  repeat refine an ?_
  refine hk _ ?_; clear hk k
  refine yQ ?_
  obtain ⟨e1, e2, e3, e4⟩ := Pl.part_err (w := w) (i := i) ((Pl.partE1 (by rw [Pl.there, if_pos hb]; decide)).trans (by rw [Pl.there, if_pos hb])) (by decide)
  rw [e1, e2, e3, e4]
  refine retl rfl rfl ⟨retc rfl sz88 ?_, rett rfl ?_, rett rfl ?_, rett rfl ?_, trivial⟩
  simp (maxSteps := 9^9) (disch := (try simp only [lens]); omega) only [zJ, sm, ↓amb, zQ, simprocAttr, sz88, dx]
  ·exact .p (LeP.agg (.cons (LeP.seq _ _) (.cons (LeP.refl _) (.cons (LeP.seq _ _) .nil))))
  ·exact .p (LeP.refl _)
  ·exact .p (LeP.refl _)
  ·exact .p (LeP.refl _)
 ·try simp only [hbx] at hb
  have hR := hb
  refine zK [] (by rw [hC]; rfl) fun k hk => ?_
  simp (maxSteps := 9^9) (disch := (try simp only [lens]); omega) only [zJ, sm, ↓amb, zQ, simprocAttr, sz88, en98, dx]
  repeat refine an ?_
  refine yW (c52 _ _ _ _) rfl ?_
  simp (maxSteps := 9^9) (disch := (try simp only [lens]); omega) only [zJ, sm, ↓amb, zQ, simprocAttr, sz88, en98, dx]
  repeat refine an ?_
  refine hk _ ?_; clear hk k
  refine zX rfl (fun hb => ?_) (fun hb => ?_)
  ·try simp only [hbx] at hb
   refine zK [] (by rw [hC]; rfl) fun k hk => ?_
   simp (maxSteps := 9^9) (disch := (try simp only [lens]); omega) only [zJ, sm, ↓amb, zQ, simprocAttr, sz88, dx]
   repeat refine an ?_
   refine hk _ ?_; clear hk k
   refine yQ ?_
   obtain ⟨e1, e2, e3, e4⟩ := Pl.part_err (w := w) (i := i) ((Pl.partE1 (by rw [Pl.there, if_neg (by simpa using hR), if_pos (by omega)]; decide)).trans (by rw [Pl.there, if_neg (by simpa using hR), if_pos (by omega)])) (by decide)
   rw [e1, e2, e3, e4]
   refine retl rfl rfl ⟨retc rfl sz88 ?_, rett rfl ?_, rett rfl ?_, rett rfl ?_, trivial⟩
   simp (maxSteps := 9^9) (disch := (try simp only [lens]); omega) only [zJ, sm, ↓amb, zQ, simprocAttr, sz88, dx]
   ·exact .p (LeP.agg (.cons (LeP.seq _ _) (.cons (LeP.refl _) (.cons (LeP.seq _ _) .nil))))
   ·exact .p (LeP.refl _)
   ·exact .p (LeP.refl _)
   ·exact .p (LeP.refl _)
  ·try simp only [hbx] at hb
   have hth := Pl.there_of hR (by assumption)
   obtain ⟨_, hi0, hi1, hok, hd1, hg1, hg2, ht1⟩ := Pl.ok_of hth
   simp only [Pl.okT, Pl.task] at hok
   have hin : i.toNat < w.ts.length := by omega
   refine xQ [] 23 (decide (¬ Pl.great w i ∨ ¬ (w.ts.getD i.toNat default).wait = 0)) [1, 2, 4, 5, 6, 7] (by rw [hC]; rfl) (fun gd hgd k hk => ?_) ?_
   ·have g4 : gd 4 = some 28 := by rw [hgd]; rfl
    clear hgd
    simp (maxSteps := 9^9) (disch := (try simp only [lens]); omega) only [zJ, sm, ↓amb, zQ, simprocAttr, sz88, en88, fl88_0, sz86, el86, sz118, fl118_3, sz3, zZ, g4, dx]
    repeat' first | refine hk _ _ rfl rfl rfl rfl ?_ | (refine gsplit (fun hg => ?_) (fun hg => ?_) <;> (try simp only [hbx] at hg) <;> simp (maxSteps := 9^9) (disch := (try simp only [lens]); omega) only [zJ, sm, ↓amb, zQ, simprocAttr, sz88, en88, fl88_0, sz86, el86, sz118, fl118_3, sz3, zZ, g4, dx]) | apply And.intro | (refine yW (c40 _ _ _ _) rfl ?_; (try simp (maxSteps := 9^9) (disch := (try simp only [lens]); omega) only [zJ, sm, ↓amb, zQ, simprocAttr, sz88, en88, fl88_0, sz86, el86, sz118, fl118_3, sz3, zZ, g4, dx])) | fail
    all_goals first | rfl | omega | exact (decide_eq_true (by (try simp only [Pl.great, Pl.task] at *); omega)).symm | exact (decide_eq_false (by (try simp only [Pl.great, Pl.task] at *); omega)).symm | exact decide_eq_decide.mpr (by (try simp only [Pl.great, Pl.task] at *); omega) | (refine Bool.eq_iff_iff.mpr ?_; (try simp only [Pl.great, Pl.task] at *); simp only [beq_iff_eq, bne_iff_ne, ne_eq, decide_eq_true_eq]; omega) | (refine Bool.eq_iff_iff.mpr ?_; simp only [Bool.not_eq_true', Bool.not_eq_false', decide_eq_false_iff_not, decide_eq_true_eq, beq_iff_eq, bne_iff_ne, ne_eq]; (try simp only [Pl.great, Pl.task] at *); omega) | assumption | (simp; done) | (simp [maxLen]; omega) | skip
    all_goals first | (simp only [hg, not_true_eq_false, false_or]; exact Pl.int_ne _) | (simp [hg]; done)
   simp only [kp, zJ, simprocAttr, List.length_cons, List.length_nil]
   refine zX rfl (fun hb => ?_) (fun hb => ?_)
   ·try simp only [hbx] at hb
    refine zK [] (by rw [hC]; rfl) fun k hk => ?_
    simp (maxSteps := 9^9) (disch := (try simp only [lens]); omega) only [zJ, sm, ↓amb, zQ, simprocAttr, sz88, dx]
    repeat refine an ?_
    refine hk _ ?_; clear hk k
    refine yQ ?_
    obtain ⟨e1, e2, e3, e4⟩ := Pl.part_err (w := w) (i := i) (Pl.partE2 hth (by simp only [Pl.great, Pl.task] at *; omega)) (by decide)
    rw [e1, e2, e3, e4]
    refine retl rfl rfl ⟨retc rfl sz88 ?_, rett rfl ?_, rett rfl ?_, rett rfl ?_, trivial⟩
    simp (maxSteps := 9^9) (disch := (try simp only [lens]); omega) only [zJ, sm, ↓amb, zQ, simprocAttr, sz88, dx]
    ·exact .p (LeP.agg (.cons (LeP.seq _ _) (.cons (LeP.refl _) (.cons (LeP.seq _ _) .nil))))
    ·exact .p (LeP.refl _)
    ·exact .p (LeP.refl _)
    ·exact .p (LeP.refl _)
   ·try simp only [hbx] at hb
    have hgr := hb
    refine zK [] (by rw [hC]; rfl) fun k hk => ?_
    simp (maxSteps := 9^9) (disch := (try simp only [lens]); omega) only [zJ, sm, ↓amb, zQ, simprocAttr, fl88_0, sz86, el86, dx]
    repeat refine an ?_
    refine hk _ ?_; clear hk k
    refine zX rfl (fun hb => ?_) (fun hb => ?_)
    ·try simp only [hbx] at hb
     refine zK [] (by rw [hC]; rfl) fun k hk => ?_
     simp (maxSteps := 9^9) (disch := (try simp only [lens]); omega) only [zJ, sm, ↓amb, zQ, simprocAttr, sz88, dx]
     repeat refine an ?_
     refine hk _ ?_; clear hk k
     refine yQ ?_
     obtain ⟨e1, e2, e3, e4⟩ := Pl.part_err (w := w) (i := i) (Pl.partE3 hth (by simp only [Pl.great, Pl.task] at *; omega) (by omega)) (by decide)
     rw [e1, e2, e3, e4]
     refine retl rfl rfl ⟨retc rfl sz88 ?_, rett rfl ?_, rett rfl ?_, rett rfl ?_, trivial⟩
     simp (maxSteps := 9^9) (disch := (try simp only [lens]); omega) only [zJ, sm, ↓amb, zQ, simprocAttr, sz88, dx]
     ·exact .p (LeP.agg (.cons (LeP.seq _ _) (.cons (LeP.refl _) (.cons (LeP.seq _ _) .nil))))
     ·exact .p (LeP.refl _)
     ·exact .p (LeP.refl _)
     ·exact .p (LeP.refl _)
    ·try simp only [hbx] at hb
     refine yJ ?_
     refine h1 _ ?_; clear h1 k1
     have h0 := Pl.partE0 hth (by simp only [Pl.great, Pl.task] at *; omega) (by omega)
     refine zK [] (by rw [hC]; rfl) fun k hk => ?_
     simp (maxSteps := 9^9) (disch := (try simp only [lens]); omega) only [zJ, sm, ↓amb, zQ, simprocAttr, sz88, en97, vr88, dx]
     repeat refine an ?_
     refine callK_h (c27 c d w (by omega) (by omega)) [] [] (by first | rfl | (simp only [hm]; done)) (by first | rfl | (simp [namesOk, lkp]; done)) ?_ ?_ ?_ ?_ ?_ ?_ ?_
     (iterate 6 (focus (first | trivial | (intro n hn; cases hn; done) | (simp (maxSteps := 9^9) (disch := (try simp only [lens]); omega) only [zJ, sm, ↓amb, zQ, simprocAttr, sz88, en97, vr88, dx, hmx, List.filter_cons, Nat.reduceBNe, imp_self, implies_true]; done))))
     simp (maxSteps := 9^9) (disch := (try simp only [lens]); omega) only [zJ, sm, ↓amb, zQ, simprocAttr, sz88, en97, vr88, dx, hm, List.filter_cons, List.filter_nil, Nat.reduceBNe, Option.map_none]
     repeat refine an ?_
     refine hk _ ?_; clear hk k
     refine zK [] (by rw [hC]; rfl) fun k hk => ?_
     simp (maxSteps := 9^9) (disch := (try simp only [lens]); omega) only [zJ, sm, ↓amb, zQ, simprocAttr, fl88_0, sz86, el86, dx]
     repeat refine an ?_
     refine hk _ ?_; clear hk k
     refine zK [] (by rw [hC]; rfl) fun k hk => ?_
     simp (maxSteps := 9^9) (disch := (try simp only [lens]); omega) only [zJ, sm, ↓amb, zQ, simprocAttr, fl88_0, sz86, el86, sz118, vr118, dx]
     repeat refine an ?_
     refine hk _ ?_; clear hk k
     refine zK [] (by rw [hC]; rfl) fun k hk => ?_
     simp (maxSteps := 9^9) (disch := (try simp only [lens]); omega) only [zJ, sm, ↓amb, zQ, simprocAttr, fl118_0, sz3, fl118_1, dx]
     repeat refine an ?_
     refine hk _ ?_; clear hk k
     refine zK [] (by rw [hC]; rfl) fun k hk => ?_
     simp (maxSteps := 9^9) (disch := (try simp only [lens]); omega) only [zJ, sm, ↓amb, zQ, simprocAttr, fl88_0, sz86, el86, sz118, fl118_3, sz3, dx]
     repeat refine an ?_
     refine hk _ ?_; clear hk k
     refine zK [] (by rw [hC]; rfl) fun k hk => ?_
     simp (maxSteps := 9^9) (disch := (try simp only [lens]); omega) only [zJ, sm, ↓amb, zQ, simprocAttr, fl88_0, sz86, fl118_0, sz3, vr118, bt118, pl118_0, pl118_1, pl118_2, fl118_1, el86, by118, dx]
     repeat refine an ?_
     refine hk _ ?_; clear hk k
     refine zK [] (by rw [hC]; rfl) fun k hk => ?_
     simp (maxSteps := 9^9) (disch := (try simp only [lens]); omega) only [zJ, sm, ↓amb, zQ, simprocAttr, sz88, dx]
     repeat refine an ?_
     refine hk _ ?_; clear hk k
     refine yQ ?_
     obtain ⟨e1, e2, e3, e4⟩ := Pl.part_ok h0
     rw [e1, e2, e3, e4]
     refine retl rfl rfl ⟨retc rfl sz88 ?_, rett rfl ?_, rett rfl ?_, rett rfl ?_, trivial⟩
     simp (maxSteps := 9^9) (disch := (try simp only [lens]); omega) only [zJ, sm, ↓amb, zQ, simprocAttr, sz88, dx]
     ·exact .agg_cons (.p (LeP.sq (by simp [Pl.parted, Pl.mid, List.map_set]))) (.agg_cons (.p (LeP.refl _)) (.agg_cons (.ownE rfl rfl) (.agg_nil)))
     ·exact .p (LeP.refl _)
     ·exact .p (LeP.refl _)
     ·exact .p (LeP.refl _)
set_option maxHeartbeats 4000000 in
theorem c31 (c d : Bool) (w : Pl.Work) (i : Int) : PCall Try.prog 90 [workV c d w, iV i] (.tup [workV false false (Pl.doW w i), bV (Pl.doO w i), iV (Pl.doE w i)]) := by
 refine yV Try.func90 rfl (by simp [Try.ntmps90]) fun C hC => ?_
 refine zW (zV [0, 1]) ?_
 simp only [kp, zJ, simprocAttr]
 refine zK [] (by rw [hC]; rfl) fun k hk => ?_
 simp (maxSteps := 9^9) (disch := (try simp only [lens]); omega) only [zJ, sm, ↓amb, zQ, simprocAttr, vr88, dx]
 repeat refine an ?_
 refine hk _ ?_; clear hk k
 refine zY fun k1 h1 => ?_
 refine yK ?_
 refine zW (zV [1, 2, 4, 5, 6]) ?_
 simp only [kp, zJ, simprocAttr]
 refine zK [] (by rw [hC]; rfl) fun k hk => ?_
 simp (maxSteps := 9^9) (disch := (try simp only [lens]); omega) only [zJ, sm, ↓amb, zQ, simprocAttr, sz88, en96, dx]
 repeat refine an ?_
 refine yW (c38 _ _ _) rfl ?_
 simp (maxSteps := 9^9) (disch := (try simp only [lens]); omega) only [zJ, sm, ↓amb, zQ, simprocAttr, sz88, en96, dx]
 repeat refine an ?_
 refine hk _ ?_; clear hk k
 refine zX rfl (fun hb => ?_) (fun hb => ?_)
 ·try simp only [hbx] at hb
  refine zW (zV [2, 4]) ?_
  simp only [kp, zJ, simprocAttr]
  refine zK [] (by rw [hC]; rfl) fun k hk => ?_
  simp (maxSteps := 9^9) (disch := (try simp only [lens]); omega) only [zJ, sm, ↓amb, zQ, simprocAttr, sz88, dx]
  repeat refine an ?_
  refine hk _ ?_; clear hk k
  refine yQ ?_
  obtain ⟨e1, e2, e4⟩ := Pl.do_err (w := w) (i := i) ((Pl.doE1 (by rw [Pl.there, if_pos hb]; decide)).trans (by rw [Pl.there, if_pos hb])) (by decide)
  rw [e1, e2, e4]
  refine retl rfl rfl ⟨retc rfl sz88 ?_, rett rfl ?_, rett rfl ?_, trivial⟩
  simp (maxSteps := 9^9) (disch := (try simp only [lens]); omega) only [zJ, sm, ↓amb, zQ, simprocAttr, sz88, dx]
  ·exact .p (LeP.agg (.cons (LeP.seq _ _) (.cons (LeP.refl _) (.cons (LeP.seq _ _) .nil))))
  ·exact .p (LeP.refl _)
  ·exact .p (LeP.refl _)
 ·try simp only [hbx] at hb
  refine zW (zV [1, 2, 4, 5, 6]) ?_
  simp only [kp, zJ, simprocAttr]
  have hR := hb
  refine zK [] (by rw [hC]; rfl) fun k hk => ?_
  simp (maxSteps := 9^9) (disch := (try simp only [lens]); omega) only [zJ, sm, ↓amb, zQ, simprocAttr, sz88, en98, dx]
  repeat refine an ?_
  refine yW (c52 _ _ _ _) rfl ?_
  simp (maxSteps := 9^9) (disch := (try simp only [lens]); omega) only [zJ, sm, ↓amb, zQ, simprocAttr, sz88, en98, dx]
  repeat refine an ?_
  refine hk _ ?_; clear hk k
  refine zX rfl (fun hb => ?_) (fun hb => ?_)
  ·try simp only [hbx] at hb
   refine zW (zV [2, 4]) ?_
   simp only [kp, zJ, simprocAttr]
   refine zK [] (by rw [hC]; rfl) fun k hk => ?_
   simp (maxSteps := 9^9) (disch := (try simp only [lens]); omega) only [zJ, sm, ↓amb, zQ, simprocAttr, sz88, dx]
   repeat refine an ?_
   refine hk _ ?_; clear hk k
   refine yQ ?_
   obtain ⟨e1, e2, e4⟩ := Pl.do_err (w := w) (i := i) ((Pl.doE1 (by rw [Pl.there, if_neg (by simpa using hR), if_pos (by omega)]; decide)).trans (by rw [Pl.there, if_neg (by simpa using hR), if_pos (by omega)])) (by decide)
   rw [e1, e2, e4]
   refine retl rfl rfl ⟨retc rfl sz88 ?_, rett rfl ?_, rett rfl ?_, trivial⟩
   simp (maxSteps := 9^9) (disch := (try simp only [lens]); omega) only [zJ, sm, ↓amb, zQ, simprocAttr, sz88, dx]
   ·exact .p (LeP.agg (.cons (LeP.seq _ _) (.cons (LeP.refl _) (.cons (LeP.seq _ _) .nil))))
   ·exact .p (LeP.refl _)
   ·exact .p (LeP.refl _)
  ·try simp only [hbx] at hb
   have hth := Pl.there_of hR (by assumption)
   obtain ⟨_, hi0, hi1, hok, hd1, hg1, hg2, ht1⟩ := Pl.ok_of hth
   simp only [Pl.okT, Pl.task] at hok
   have hin : i.toNat < w.ts.length := by omega
   refine awp_testD [] ⟨[0, 0, 3, 7, 15, 31, 15, 127, 255, 511, 1023, 2047, 4095, 8191, 16383, 8191, 40959, 8191, 237567, 499711, 1023999, 2097151, 4194303, 8388607, 16777215], [0, 5, 9, 14, 16, 20, 22], [], [(2, 5), (2, 9), (2, 14), (2, 16), (2, 20), (2, 22)], some []⟩ 21 (decide (Pl.great w i ∨ 0 < (w.ts.getD i.toNat default).wait ∨ w.done.getD (w.ts.getD i.toNat default).low.toNat false = true)) [1, 2, 4, 5, 6] (by rw [hC]; rfl) (by kernel_rfl) (by kernel_rfl) (fun gd hgd k hk => ?_) ?_
   ·have g3 : gd 3 = some 25 := by rw [hgd]; rfl
    have g12 : gd 12 = some 34 := by rw [hgd]; rfl
    clear hgd
    simp (maxSteps := 9^9) (disch := (try simp only [lens]); omega) only [zJ, sm, ↓amb, zQ, simprocAttr, sz88, en88, fl88_0, sz86, el86, sz118, fl118_3, sz3, fl88_2, sz23, fl118_0, el23, sz4, zZ, g3, g12, dx]
    repeat' first | refine hk _ _ rfl rfl rfl rfl ?_ | (refine gsplit (fun hg => ?_) (fun hg => ?_) <;> (try simp only [hbx] at hg) <;> simp (maxSteps := 9^9) (disch := (try simp only [lens]); omega) only [zJ, sm, ↓amb, zQ, simprocAttr, sz88, en88, fl88_0, sz86, el86, sz118, fl118_3, sz3, fl88_2, sz23, fl118_0, el23, sz4, zZ, g3, g12, dx]) | apply And.intro | (refine yW (c40 _ _ _ _) rfl ?_; (try simp (maxSteps := 9^9) (disch := (try simp only [lens]); omega) only [zJ, sm, ↓amb, zQ, simprocAttr, sz88, en88, fl88_0, sz86, el86, sz118, fl118_3, sz3, fl88_2, sz23, fl118_0, el23, sz4, zZ, g3, g12, dx])) | fail
    all_goals first | rfl | omega | exact (decide_eq_true (by omega)).symm | exact (decide_eq_false (by omega)).symm | exact decide_eq_decide.mpr (by omega) | (refine Bool.eq_iff_iff.mpr ?_; simp only [beq_iff_eq, bne_iff_ne, ne_eq, decide_eq_true_eq]; omega) | (refine Bool.eq_iff_iff.mpr ?_; simp only [Bool.not_eq_true', Bool.not_eq_false', decide_eq_false_iff_not, decide_eq_true_eq, beq_iff_eq, bne_iff_ne, ne_eq]; omega) | assumption | (simp; done) | (simp [maxLen]; omega) | skip
    all_goals first | exact (decide_eq_true (.inl (by assumption))).symm | (refine Bool.eq_iff_iff.mpr ?_; simp only [decide_eq_true_eq]; exact ⟨fun h => .inr (.inr h), fun h => by (rcases h with h | h | h; exact absurd h (by assumption); omega; exact h)⟩) | (exact (decide_eq_true (.inr (.inl (by omega)))).symm)
   simp only [kp, zJ, simprocAttr, List.length_cons, List.length_nil]
   refine zX rfl (fun hb => ?_) (fun hb => ?_)
   ·try simp only [hbx] at hb
    refine zW (zV [2, 4]) ?_
    simp only [kp, zJ, simprocAttr]
    refine zK [] (by rw [hC]; rfl) fun k hk => ?_
    simp (maxSteps := 9^9) (disch := (try simp only [lens]); omega) only [zJ, sm, ↓amb, zQ, simprocAttr, sz88, dx]
    repeat refine an ?_
    refine hk _ ?_; clear hk k
    refine yQ ?_
    obtain ⟨e1, e2, e4⟩ := Pl.do_err (w := w) (i := i) (Pl.doE2 hth (by simp only [Pl.great, Pl.task] at *; rcases hb with h | h | h; exact .inl h.2; exact .inr (.inl h); exact .inr (.inr h))) (by decide)
    rw [e1, e2, e4]
    refine retl rfl rfl ⟨retc rfl sz88 ?_, rett rfl ?_, rett rfl ?_, trivial⟩
    simp (maxSteps := 9^9) (disch := (try simp only [lens]); omega) only [zJ, sm, ↓amb, zQ, simprocAttr, sz88, dx]
    ·exact .p (LeP.agg (.cons (LeP.seq _ _) (.cons (LeP.refl _) (.cons (LeP.seq _ _) .nil))))
    ·exact .p (LeP.refl _)
    ·exact .p (LeP.refl _)
   ·try simp only [hbx] at hb
    refine yJ ?_
    refine h1 _ ?_; clear h1 k1
    refine zW (zV [1, 2, 4]) ?_
    simp only [kp, zJ, simprocAttr]
    have h0 : Pl.doE w i = 0 := Pl.doE0 hth (by simp only [Pl.great, Pl.task] at *; intro h; rcases h with h | h | h; exact hb (.inl ⟨hth, h⟩); exact hb (.inr (.inl h)); exact hb (.inr (.inr h)))
    refine zK [] (by rw [hC]; rfl) fun k hk => ?_
    simp (maxSteps := 9^9) (disch := (try simp only [lens]); omega) only [zJ, sm, ↓amb, zQ, simprocAttr, sz88, en97, vr88, dx]
    repeat refine an ?_
    refine callK_h (c27 c d w (by omega) (by omega)) [] [] (by first | rfl | (simp only [hm]; done)) (by first | rfl | (simp [namesOk, lkp]; done)) ?_ ?_ ?_ ?_ ?_ ?_ ?_
    (iterate 6 (focus (first | trivial | (intro n hn; cases hn; done) | (simp (maxSteps := 9^9) (disch := (try simp only [lens]); omega) only [zJ, sm, ↓amb, zQ, simprocAttr, sz88, en97, vr88, dx, hmx, List.filter_cons, Nat.reduceBNe, imp_self, implies_true]; done))))
    simp (maxSteps := 9^9) (disch := (try simp only [lens]); omega) only [zJ, sm, ↓amb, zQ, simprocAttr, sz88, en97, vr88, dx, hm, List.filter_cons, List.filter_nil, Nat.reduceBNe, Option.map_none]
    repeat refine an ?_
    refine hk _ ?_; clear hk k
    refine zY fun k2 h2 => ?_
    refine zW (zV [1, 2, 4, 5, 6, 7]) ?_
    simp only [kp, zJ, simprocAttr]
    refine zK [] (by rw [hC]; rfl) fun k hk => ?_
    simp (maxSteps := 9^9) (disch := (try simp only [lens]); omega) only [zJ, sm, ↓amb, zQ, simprocAttr, fl88_0, sz86, el86, sz118, fl118_0, sz3, dx]
    repeat refine an ?_
    refine hk _ ?_; clear hk k
    refine yK ?_
    refine yY (σ := Nat) (fun x => (w.ts.getD i.toNat default).low.toNat ≤ x ∧ x ≤ (w.ts.getD i.toNat default).high.toNat) (fun (x : Nat) => ⟨[(1, (.p (iV i))), (2, (.ptr 0 3 0 0)), (4, (.ptr 1 3 0 0)), (7, (.ptr 2 3 0 0)), (8, (.p (iV (x : Int))))], [(0, (.row 3 [[.p (.seq c (w.ts.map taskC)), .p (iV w.grain), .p (.seq d (w.done.map fun b => [bV b]))]])), (1, (.row 3 [[.p (.seq true []), .p (iV 0), .p (.seq true [])]])), (2, (.row 3 [[.own 3, .p (iV w.grain), .own 4]])), (3, (.row 4 (lift (w.ts.map taskC)))), (4, (.row 1 (lift ((Pl.marked w.done (w.ts.getD i.toNat default).low.toNat x).map fun b => [bV b]))))], 1⟩) (fun x => (w.ts.getD i.toNat default).high.toNat - x) (w.ts.getD i.toNat default).low.toNat ?_ ?_ fun x hx => ?_
    ·exact ⟨Nat.le_refl _, by omega⟩
    ·exact le_of [(0, _), (1, _), (2, _), (3, _), (4, _)] (by rfl) (by rfl) ⟨⟨_, rfl, .oe⟩, ⟨_, rfl, .ptr rfl⟩, ⟨_, rfl, .ptr rfl⟩, ⟨_, rfl, .ptr rfl⟩, ⟨_, rfl, .oe⟩, trivial⟩ ⟨⟨_, rfl, _, rfl, .one (.cons (.p (.refl _)) (.cons (.p (.refl _)) (.cons (.p (.refl _)) .nil)))⟩, ⟨_, rfl, _, rfl, .one (.cons (.p (.refl _)) (.cons (.p (.refl _)) (.cons (.p (.refl _)) .nil)))⟩, ⟨_, rfl, _, rfl, .one (.cons (.own rfl) (.cons (.p (.refl _)) (.cons (.own rfl) .nil)))⟩, ⟨_, rfl, _, rfl, .lift _⟩, ⟨_, rfl, _, rfl, .liftE (by first | (rw [Pl.marked_start]; done) | (rw [← Pl.marked_set (by omega) (by omega), List.map_set]; try simp; done))⟩, trivial⟩
    obtain ⟨hx1, hx2⟩ := hx
    have hml := Pl.marked_len (d := w.done) hx1 (by omega)
    refine zY fun k4 h4 => ?_
    refine zW (zV [0, 1, 2, 3, 4, 5, 6, 7, 8]) ?_
    simp only [kp, zJ, simprocAttr]
    refine zK [] (by rw [hC]; rfl) fun k hk => ?_
    simp (maxSteps := 9^9) (disch := (try simp only [lens]); omega) only [zJ, sm, ↓amb, zQ, simprocAttr, fl88_0, sz86, el86, sz118, fl118_1, sz3, dx]
    repeat refine an ?_
    refine hk _ ?_; clear hk k
    refine zX rfl (fun hb => ?_) (fun hb => ?_)
    ·try simp only [hbx] at hb
     refine yJ ?_
     refine h4 _ ?_; clear h4 k4
     refine zY fun k5 h5 => ?_
     refine yK ?_
     refine yZ [] (by rw [hC]; rfl) fun k hk => ?_
     simp (maxSteps := 9^9) (disch := (try simp only [lens]); omega) only [zJ, sm, ↓amb, zQ, simprocAttr, fl88_2, sz23, el23, sz4, dx]
     repeat refine an ?_
     refine hk _ ?_; clear hk k
     refine h5 _ ?_; clear h5 k5
     refine yZ [] (by rw [hC]; rfl) fun k hk => ?_
     simp (maxSteps := 9^9) (disch := (try simp only [lens]); omega) only [zJ, sm, ↓amb, zQ, simprocAttr, dx]
     repeat refine an ?_
     refine hk _ ?_; clear hk k
     refine ⟨x + 1, ⟨by omega, by omega⟩, le_of [(0, _), (1, _), (2, _), (3, _), (4, _)] (by rfl) (by rfl) ⟨⟨_, rfl, .oe⟩, ⟨_, rfl, .ptr rfl⟩, ⟨_, rfl, .ptr rfl⟩, ⟨_, rfl, .ptr rfl⟩, ⟨_, rfl, .oe⟩, trivial⟩ ⟨⟨_, rfl, _, rfl, .one (.cons (.p (.refl _)) (.cons (.p (.refl _)) (.cons (.p (.refl _)) .nil)))⟩, ⟨_, rfl, _, rfl, .one (.cons (.p (.refl _)) (.cons (.p (.refl _)) (.cons (.p (.refl _)) .nil)))⟩, ⟨_, rfl, _, rfl, .one (.cons (.own rfl) (.cons (.p (.refl _)) (.cons (.own rfl) .nil)))⟩, ⟨_, rfl, _, rfl, .lift _⟩, ⟨_, rfl, _, rfl, .liftE (by first | (rw [Pl.marked_start]; done) | (rw [← Pl.marked_set (by omega) (by omega), List.map_set]; try simp; done))⟩, trivial⟩, by omega⟩
    ·try simp only [hbx] at hb
     refine yX ((if_pos rfl).mpr ?_)
     refine h2 _ ?_; clear h4 k4; clear h2 k2
     refine zY fun k6 h6 => ?_
     refine zW (zV [1, 2, 4, 5, 6, 7]) ?_
     simp only [kp, zJ, simprocAttr]
     have hxe : x = (w.ts.getD i.toNat default).high.toNat := by omega
     subst hxe
     have huo := Pl.upOk_of hR
     refine zK [] (by rw [hC]; rfl) fun k hk => ?_
     simp (maxSteps := 9^9) (disch := (try simp only [lens]); omega) only [zJ, sm, ↓amb, zQ, simprocAttr, fl88_0, sz86, el86, sz118, fl118_2, sz3, dx]
     repeat refine an ?_
     refine hk _ ?_; clear hk k
     refine yK ?_
     refine yY (σ := Nat × List Pl.Task × Int) (fun x => Pl.fin x.1 x.2.1 x.2.2 = Pl.fin (w.ts.length + 1) w.ts (w.ts.getD i.toNat default).up ∧ Pl.upOk x.2.1 ∧ x.2.1.length = w.ts.length ∧ -1 ≤ x.2.2 ∧ x.2.2 < w.ts.length ∧ x.2.2 + 1 < x.1) (fun x => ⟨[(4, (.ptr 1 3 0 0)), (7, (.ptr 2 3 0 0)), (9, (.p (iV x.2.2)))], [(1, (.row 3 [[.p (.seq true []), .p (iV 0), .p (.seq true [])]])), (2, (.row 3 [[.own 3, .p (iV w.grain), .own 4]])), (3, (.row 4 (lift (x.2.1.map taskC)))), (4, (.row 1 (lift ((Pl.marked w.done (w.ts.getD i.toNat default).low.toNat (w.ts.getD i.toNat default).high.toNat).map fun b => [bV b]))))], 1⟩) (fun x => x.1) (w.ts.length + 1, w.ts, (w.ts.getD i.toNat default).up) ?_ ?_ fun x hx => ?_
     ·exact ⟨rfl, huo, rfl, by show -1 ≤ (w.ts.getD i.toNat default).up; omega, by show (w.ts.getD i.toNat default).up < _; omega, by show (w.ts.getD i.toNat default).up + 1 < ((w.ts.length + 1 : Nat) : Int); omega⟩
     ·exact le_of [(1, _), (2, _), (3, _), (4, _)] (by rfl) (by rfl) ⟨⟨_, rfl, .ptr rfl⟩, ⟨_, rfl, .ptr rfl⟩, ⟨_, rfl, .oe⟩, trivial⟩ ⟨⟨_, rfl, _, rfl, .one (.cons (.p (.refl _)) (.cons (.p (.refl _)) (.cons (.p (.refl _)) .nil)))⟩, ⟨_, rfl, _, rfl, .one (.cons (.own rfl) (.cons (.p (.refl _)) (.cons (.own rfl) .nil)))⟩, ⟨_, rfl, _, rfl, .liftE (by first | rfl | rw [List.map_set])⟩, ⟨_, rfl, _, rfl, .lift _⟩, trivial⟩
     obtain ⟨q, us, p⟩ := x
     obtain ⟨hf, hu, hlen, hp0, hp1, hq⟩ := hx
     dsimp only at hf hu hlen hp0 hp1 hq
     obtain ⟨q, rfl⟩ : ∃ q', q = q' + 1 := ⟨q - 1, by omega⟩
     refine zY fun k8 h8 => ?_
     refine zW (zV [1, 2, 3, 4, 5, 6, 7, 9]) ?_
     simp only [kp, zJ, simprocAttr]
     refine zK [] (by rw [hC]; rfl) fun k hk => ?_
     simp (maxSteps := 9^9) (disch := (try simp only [lens]); omega) only [zJ, sm, ↓amb, zQ, simprocAttr, dx]
     repeat refine an ?_
     refine hk _ ?_; clear hk k
     refine zX rfl (fun hb => ?_) (fun hb => ?_)
     ·try simp only [hbx] at hb
      refine yJ ?_
      refine h8 _ ?_; clear h8 k8
      refine zY fun k9 h9 => ?_
      refine yK ?_
      refine zY fun k10 h10 => ?_
      refine zW (zV [1, 2, 3, 4, 5, 6, 7, 9]) ?_
      simp only [kp, zJ, simprocAttr]
      have hpn := hb
      have hup := hu p.toNat (by omega)
      refine zK [] (by rw [hC]; rfl) fun k hk => ?_
      simp (maxSteps := 9^9) (disch := (try simp only [lens]); omega) only [zJ, sm, ↓amb, zQ, simprocAttr, fl88_0, sz86, el86, sz118, fl118_3, sz3, dx]
      repeat refine an ?_
      refine hk _ ?_; clear hk k
      refine zX rfl (fun hb => ?_) (fun hb => ?_)
      ·try simp only [hbx] at hb
       refine zW (zV [4, 7]) ?_
       simp only [kp, zJ, simprocAttr]
       refine zK [] (by rw [hC]; rfl) fun k hk => ?_
       simp (maxSteps := 9^9) (disch := (try simp only [lens]); omega) only [zJ, sm, ↓amb, zQ, simprocAttr, sz88, dx]
       repeat refine an ?_
       refine hk _ ?_; clear hk k
       refine yQ ?_
       obtain ⟨e1, e2, e4⟩ := Pl.do_ok h0
       rw [e1, e2, e4]
       refine retl rfl rfl ⟨retc rfl sz88 ?_, rett rfl ?_, rett rfl ?_, trivial⟩
       simp (maxSteps := 9^9) (disch := (try simp only [lens]); omega) only [zJ, sm, ↓amb, zQ, simprocAttr, sz88, dx]
       ·exact .agg_cons (.ownE rfl (by simp only [Pl.did, Pl.task]; rw [← hf, Pl.fin_zero hpn hb])) (.agg_cons (.p (LeP.refl _)) (.agg_cons (.ownE rfl rfl) (.agg_nil)))
       ·exact .p (LeP.of_eq (by simp only [Pl.did, Pl.task]; rw [← hf, Pl.fin_zero hpn hb]))
       ·exact .p (LeP.refl _)
      ·try simp only [hbx] at hb
       refine yJ ?_
       refine h10 _ ?_; clear h10 k10
       refine zW (zV [1, 2, 3, 4, 5, 6, 7, 9]) ?_
       simp only [kp, zJ, simprocAttr]
       refine zK [] (by rw [hC]; rfl) fun k hk => ?_
       simp (maxSteps := 9^9) (disch := (try simp only [lens]); omega) only [zJ, sm, ↓amb, zQ, simprocAttr, fl88_0, sz86, el86, sz118, fl118_3, sz3, dx]
       repeat refine an ?_
       refine hk _ ?_; clear hk k
       refine zW (zV [1, 2, 3, 4, 5, 6, 7, 9]) ?_
       simp only [kp, zJ, simprocAttr]
       refine zK [] (by rw [hC]; rfl) fun k hk => ?_
       simp (maxSteps := 9^9) (disch := (try simp only [lens]); omega) only [zJ, sm, ↓amb, zQ, simprocAttr, fl88_0, sz86, el86, sz118, fl118_3, sz3, dx]
       repeat refine an ?_
       refine hk _ ?_; clear hk k
       refine zX rfl (fun hb => ?_) (fun hb => ?_)
       ·try simp only [hbx] at hb
        refine zW (zV [4, 7]) ?_
        simp only [kp, zJ, simprocAttr]
        refine zK [] (by rw [hC]; rfl) fun k hk => ?_
        simp (maxSteps := 9^9) (disch := (try simp only [lens]); omega) only [zJ, sm, ↓amb, zQ, simprocAttr, sz88, dx]
        repeat refine an ?_
        refine hk _ ?_; clear hk k
        refine yQ ?_
        obtain ⟨e1, e2, e4⟩ := Pl.do_ok h0
        rw [e1, e2, e4]
        refine retl rfl rfl ⟨retc rfl sz88 ?_, rett rfl ?_, rett rfl ?_, trivial⟩
        simp (maxSteps := 9^9) (disch := (try simp only [lens]); omega) only [zJ, sm, ↓amb, zQ, simprocAttr, sz88, dx]
        ·exact .agg_cons (.ownE rfl (by simp only [Pl.did, Pl.task]; rw [← hf, Pl.fin_stop hpn (by omega) (by omega)]; try rw [List.map_set])) (.agg_cons (.p (LeP.refl _)) (.agg_cons (.ownE rfl rfl) (.agg_nil)))
        ·exact .p (LeP.of_eq (by simp only [Pl.did, Pl.task]; rw [← hf, Pl.fin_stop hpn (by omega) (by omega)]))
        ·exact .p (LeP.refl _)
       ·try simp only [hbx] at hb
        refine yJ ?_
        refine h9 _ ?_; clear h9 k9
        refine yZ [] (by rw [hC]; rfl) fun k hk => ?_
        simp (maxSteps := 9^9) (disch := (try simp only [lens]); omega) only [zJ, sm, ↓amb, zQ, simprocAttr, fl88_0, sz86, el86, sz118, fl118_2, sz3, dx]
        repeat refine an ?_
        refine hk _ ?_; clear hk k
        refine ⟨(q, us.set p.toNat { us.getD p.toNat default with wait := (us.getD p.toNat default).wait - 1 }, (us.getD p.toNat default).up), ⟨by rw [← hf, Pl.fin_on hpn (by omega) (by omega)], Pl.upOk_set hu (by omega) (by omega), by simpa using hlen, by show -1 ≤ (us.getD p.toNat default).up; omega, by show (us.getD p.toNat default).up < _; omega, by show (us.getD p.toNat default).up + 1 < (q : Int); omega⟩, le_of [(1, _), (2, _), (3, _), (4, _)] (by rfl) (by rfl) ⟨⟨_, rfl, .ptr rfl⟩, ⟨_, rfl, .ptr rfl⟩, ⟨_, rfl, .oe⟩, trivial⟩ ⟨⟨_, rfl, _, rfl, .one (.cons (.p (.refl _)) (.cons (.p (.refl _)) (.cons (.p (.refl _)) .nil)))⟩, ⟨_, rfl, _, rfl, .one (.cons (.own rfl) (.cons (.p (.refl _)) (.cons (.own rfl) .nil)))⟩, ⟨_, rfl, _, rfl, .liftE (by first | rfl | rw [List.map_set])⟩, ⟨_, rfl, _, rfl, .lift _⟩, trivial⟩, Nat.lt_succ_self q⟩
     ·try simp only [hbx] at hb
      refine yX ((if_pos rfl).mpr ?_)
      refine h6 _ ?_; clear h8 k8; clear h6 k6
      refine zW (zV [4, 7]) ?_
      simp only [kp, zJ, simprocAttr]
      refine zK [] (by rw [hC]; rfl) fun k hk => ?_
      simp (maxSteps := 9^9) (disch := (try simp only [lens]); omega) only [zJ, sm, ↓amb, zQ, simprocAttr, sz88, dx]
      repeat refine an ?_
      refine hk _ ?_; clear hk k
      refine yQ ?_
      have hpe : p = -1 := by omega
      subst hpe
      obtain ⟨e1, e2, e4⟩ := Pl.do_ok h0
      rw [e1, e2, e4]
      refine retl rfl rfl ⟨retc rfl sz88 ?_, rett rfl ?_, rett rfl ?_, trivial⟩
      simp (maxSteps := 9^9) (disch := (try simp only [lens]); omega) only [zJ, sm, ↓amb, zQ, simprocAttr, sz88, dx]
      ·exact .agg_cons (.ownE rfl (by simp only [Pl.did, Pl.task]; rw [← hf, Pl.fin_end])) (.agg_cons (.p (LeP.refl _)) (.agg_cons (.ownE rfl rfl) (.agg_nil)))
      ·exact .p (LeP.of_eq (by simp only [Pl.did, Pl.task]; rw [← hf, Pl.fin_end]))
      ·exact .p (LeP.refl _)
set_option maxHeartbeats 4000000 in
theorem c18 (c : Bool) (l : List Int) (hl : l.length ≤ 1000000) : PCall Try.prog 86 [ints c l] (popS l) := by
 refine yV Try.func86 rfl (by simp [Try.ntmps86]) fun C hC => ?_
 refine zK [] (by rw [hC]; rfl) fun k hk => ?_
 simp (maxSteps := 9^9) (disch := (try simp only [lens]); omega) only [zJ, sm, ↓amb, zQ, simprocAttr, dx]
 repeat refine an ?_
 refine hk _ ?_; clear hk k
 refine zY fun k1 h1 => ?_
 refine zK [] (by rw [hC]; rfl) fun k hk => ?_
 simp (maxSteps := 9^9) (disch := (try simp only [lens]); omega) only [zJ, sm, ↓amb, zQ, simprocAttr, el33, dx]
 repeat refine an ?_
 refine hk _ ?_; clear hk k
 refine zX rfl (fun hb => ?_) (fun hb => ?_)
 ·try simp only [hbx] at hb
  refine zK [] (by rw [hC]; rfl) fun k hk => ?_
  simp (maxSteps := 9^9) (disch := (try simp only [lens]); omega) only [zJ, sm, ↓amb, zQ, simprocAttr, dx]
  repeat refine an ?_
  refine hk _ ?_; clear hk k
  refine yQ ?_
  obtain rfl : l = [] := List.eq_nil_of_length_eq_zero (by omega)
  refine ret3 rfl rfl rfl rfl ?_ ?_ ?_
  ·exact .p (LeP.seq _ _)
  ·exact .p (LeP.refl _)
  ·exact .p (LeP.refl _)
 ·try simp only [hbx] at hb
  refine yJ ?_
  refine h1 _ ?_; clear h1 k1
  refine zK [] (by rw [hC]; rfl) fun k hk => ?_
  simp (maxSteps := 9^9) (disch := (try simp only [lens]); omega) only [zJ, sm, ↓amb, zQ, simprocAttr, el33, dx]
  repeat refine an ?_
  refine hk _ ?_; clear hk k
  refine awp_sd [] ⟨[0, 0, 0, 6, 15, 0, 0, 96, 224, 31, 1023, 2047], [4, 8], [], [], some []⟩ (by rw [hC]; rfl) (by kernel_rfl) (by kernel_rfl) fun k hk => ?_
  simp (maxSteps := 9^9) (disch := (try simp only [lens]); omega) only [zJ, sm, ↓amb, zQ, simprocAttr, el33, vr3, sz3, by3, dx]
  repeat refine an ?_
  refine hk _ ?_; clear hk k
  refine yQ ?_
  refine ret3 rfl rfl rfl rfl ?_ ?_ ?_
  ·exact .p (LeP.sq (by simp [List.dropLast_eq_take]))
  ·exact .p (LeP.refl _)
  ·exact .p (LeP.of_eq (by rw [if_neg (by omega)]))
set_option maxHeartbeats 4000000 in
theorem c20 (c : Bool) (l : List Int) (hl : l.length ≤ 1000000) : PCall Try.prog 87 [ints c l] (stealS l) := by
 refine yV Try.func87 rfl (by simp [Try.ntmps87]) fun C hC => ?_
 refine zK [] (by rw [hC]; rfl) fun k hk => ?_
 simp (maxSteps := 9^9) (disch := (try simp only [lens]); omega) only [zJ, sm, ↓amb, zQ, simprocAttr, dx]
 repeat refine an ?_
 refine hk _ ?_; clear hk k
 refine zY fun k1 h1 => ?_
 refine zK [] (by rw [hC]; rfl) fun k hk => ?_
 simp (maxSteps := 9^9) (disch := (try simp only [lens]); omega) only [zJ, sm, ↓amb, zQ, simprocAttr, el33, dx]
 repeat refine an ?_
 refine hk _ ?_; clear hk k
 refine zX rfl (fun hb => ?_) (fun hb => ?_)
 ·try simp only [hbx] at hb
  refine zK [] (by rw [hC]; rfl) fun k hk => ?_
  simp (maxSteps := 9^9) (disch := (try simp only [lens]); omega) only [zJ, sm, ↓amb, zQ, simprocAttr, dx]
  repeat refine an ?_
  refine hk _ ?_; clear hk k
  refine yQ ?_
  obtain rfl : l = [] := List.eq_nil_of_length_eq_zero (by omega)
  refine ret3 rfl rfl rfl rfl ?_ ?_ ?_
  ·exact .p (LeP.seq _ _)
  ·exact .p (LeP.refl _)
  ·exact .p (LeP.refl _)
 ·try simp only [hbx] at hb
  refine yJ ?_
  refine h1 _ ?_; clear h1 k1
  refine awp_sd [] ⟨[0, 0, 2, 7, 0, 16, 48, 15, 255, 511], [3, 6], [], [], some []⟩ (by rw [hC]; rfl) (by kernel_rfl) (by kernel_rfl) fun k hk => ?_
  simp (maxSteps := 9^9) (disch := (try simp only [lens]); omega) only [zJ, sm, ↓amb, zQ, simprocAttr, el33, vr3, sz3, by3, dx]
  repeat refine an ?_
  refine hk _ ?_; clear hk k
  refine yQ ?_
  refine ret3 rfl rfl rfl rfl ?_ ?_ ?_
  ·exact .p (LeP.sq (by simp))
  ·exact .p (LeP.refl _)
  ·exact .p (LeP.of_eq (by rw [if_neg (by omega)]))
set_option maxHeartbeats 4000000 in
theorem c_ref05_cut (n w : Int) (hw : 1 ≤ w ∧ w ≤ 8) : PCall Try.prog 84 [iV n, iV w] (iV (n % w)) := by
 refine yV Try.func84 rfl (by simp [Try.ntmps84]) fun C hC => ?_
 refine zK [] (by rw [hC]; rfl) fun k hk => ?_
 simp (maxSteps := 9^9) (disch := (try simp only [lens]); omega) only [zJ, sm, ↓amb, zQ, simprocAttr, dx]
 repeat refine an ?_
 refine hk _ ?_; clear hk k
 obtain ⟨hm1, hm2⟩ := Pl.tmod_bound n (m := w) (by omega)
 obtain ⟨hc1, hc2⟩ := Pl.cut_eq (n := n) (w := w) (by omega)
 refine zK [] (by rw [hC]; rfl) fun k hk => ?_
 simp (maxSteps := 9^9) (disch := (try simp only [lens]); omega) only [zJ, sm, ↓amb, zQ, simprocAttr, dx]
 repeat refine an ?_
 refine hk _ ?_; clear hk k
 refine zY fun k1 h1 => ?_
 refine zK [] (by rw [hC]; rfl) fun k hk => ?_
 simp (maxSteps := 9^9) (disch := (try simp only [lens]); omega) only [zJ, sm, ↓amb, zQ, simprocAttr, dx]
 repeat refine an ?_
 refine hk _ ?_; clear hk k
 refine zX rfl (fun hb => ?_) (fun hb => ?_)
 ·try simp only [hbx] at hb
  refine yZ [] (by rw [hC]; rfl) fun k hk => ?_
  simp (maxSteps := 9^9) (disch := (try simp only [lens]); omega) only [zJ, sm, ↓amb, zQ, simprocAttr, dx]
  repeat refine an ?_
  refine hk _ ?_; clear hk k
  refine h1 _ ?_; clear h1 k1
  refine zK [] (by rw [hC]; rfl) fun k hk => ?_
  simp (maxSteps := 9^9) (disch := (try simp only [lens]); omega) only [zJ, sm, ↓amb, zQ, simprocAttr, dx]
  repeat refine an ?_
  refine hk _ ?_; clear hk k
  refine yQ ?_
  refine ret1 rfl rfl ?_
  exact .p (LeP.of_eq (by rw [hc1 (by omega)]))
 ·try simp only [hbx] at hb
  refine yJ ?_
  refine h1 _ ?_; clear h1 k1
  refine zK [] (by rw [hC]; rfl) fun k hk => ?_
  simp (maxSteps := 9^9) (disch := (try simp only [lens]); omega) only [zJ, sm, ↓amb, zQ, simprocAttr, dx]
  repeat refine an ?_
  refine hk _ ?_; clear hk k
  refine yQ ?_
  refine ret1 rfl rfl ?_
  exact .p (LeP.of_eq (by rw [hc2 (by omega)]))
set_option maxHeartbeats 4000000 in
theorem c_ref05_Held (c : Pl.Crew) (hb' : Pl.held c.dq ≤ 1000000000) (hd : c.dq.length ≤ 1000000) : PCall Try.prog 91 [.agg (crewC c)] (iV (Pl.held c.dq)) := by
 refine yV Try.func91 rfl (by simp [Try.ntmps91]) fun C hC => ?_
 refine zW (zV [0]) ?_
 simp only [kp, zJ, simprocAttr]
 refine zK [] (by rw [hC]; rfl) fun k hk => ?_
 simp (maxSteps := 9^9) (disch := (try simp only [lens]); omega) only [zJ, sm, ↓amb, zQ, simprocAttr, dx]
 repeat refine an ?_
 refine hk _ ?_; clear hk k
 refine zW (zV [1]) ?_
 simp only [kp, zJ, simprocAttr]
 refine zK [] (by rw [hC]; rfl) fun k hk => ?_
 simp (maxSteps := 9^9) (disch := (try simp only [lens]); omega) only [zJ, sm, ↓amb, zQ, simprocAttr, dx]
 repeat refine an ?_
 refine hk _ ?_; clear hk k
 refine zY fun k1 h1 => ?_
 refine zW (zV [1, 2, 3]) ?_
 simp only [kp, zJ, simprocAttr]
 refine zK [] (by rw [hC]; rfl) fun k hk => ?_
 simp (maxSteps := 9^9) (disch := (try simp only [lens]); omega) only [zJ, sm, ↓amb, zQ, simprocAttr, dx]
 repeat refine an ?_
 refine hk _ ?_; clear hk k
 refine yK ?_
 refine yY (σ := Nat) (fun i => i ≤ c.dq.length) (fun (i : Nat) => ⟨[(1, (.ptr 0 7 0 0)), (3, (.p (iV (Pl.held (c.dq.take i))))), (4, (.p (iV (i : Int))))], [(0, (.row 7 [[.p (.seq false (c.work.ts.map taskC)), .p (iV c.work.grain), .p (.seq false (c.work.done.map fun b => [bV b])), .p (.seq false (c.dq.map lV)), .p (bV c.over), .p (iV c.steps), .p (iV c.idle)]]))], 1⟩) (fun i => c.dq.length - i) 0 ?_ ?_ fun x hx => ?_
 ·exact Nat.zero_le _
 ·exact le_of [(0, _)] (by rfl) (by rfl) ⟨⟨_, rfl, .ptr rfl⟩, ⟨_, rfl, .p (.of_eq (by first | rfl | (rw [Pl.held_take_succ c.dq x (by omega)]; simp only [PV.lit.injEq, Value.int.injEq, true_and]; omega)))⟩, ⟨_, rfl, .oe⟩, trivial⟩ ⟨⟨_, rfl, _, rfl, .one (.cons (.p (.refl _)) (.cons (.p (.refl _)) (.cons (.p (.refl _)) (.cons (.p (.refl _)) (.cons (.p (.refl _)) (.cons (.p (.refl _)) (.cons (.p (.refl _)) (.nil))))))))⟩, trivial⟩
 refine zY fun k3 h3 => ?_
 refine zW (zV [0, 1, 2, 3, 4]) ?_
 simp only [kp, zJ, simprocAttr]
 refine zK [] (by rw [hC]; rfl) fun k hk => ?_
 simp (maxSteps := 9^9) (disch := (try simp only [lens]); omega) only [zJ, sm, ↓amb, zQ, simprocAttr, fl91_1, sz89, el89, dx]
 repeat refine an ?_
 refine hk _ ?_; clear hk k
 refine zX rfl (fun hb => ?_) (fun hb => ?_)
 ·try simp only [hbx] at hb
  refine yJ ?_
  refine h3 _ ?_; clear h3 k3
  refine zY fun k4 h4 => ?_
  refine yK ?_
  have hs := Pl.held_take_succ c.dq x (by omega)
  have hl := Pl.held_le c.dq (x + 1)
  refine yZ [] (by rw [hC]; rfl) fun k hk => ?_
  simp (maxSteps := 9^9) (disch := (try simp only [lens]); omega) only [zJ, sm, ↓amb, zQ, simprocAttr, fl91_1, sz89, el89, sz33, el33, dx]
  repeat refine an ?_
  refine hk _ ?_; clear hk k
  refine h4 _ ?_; clear h4 k4
  refine yZ [] (by rw [hC]; rfl) fun k hk => ?_
  simp (maxSteps := 9^9) (disch := (try simp only [lens]); omega) only [zJ, sm, ↓amb, zQ, simprocAttr, dx]
  repeat refine an ?_
  refine hk _ ?_; clear hk k
  refine ⟨x + 1, by omega, le_of [(0, _)] (by rfl) (by rfl) ⟨⟨_, rfl, .ptr rfl⟩, ⟨_, rfl, .p (.of_eq (by first | rfl | (rw [Pl.held_take_succ c.dq x (by omega)]; simp only [PV.lit.injEq, Value.int.injEq, true_and]; omega)))⟩, ⟨_, rfl, .oe⟩, trivial⟩ ⟨⟨_, rfl, _, rfl, .one (.cons (.p (.refl _)) (.cons (.p (.refl _)) (.cons (.p (.refl _)) (.cons (.p (.refl _)) (.cons (.p (.refl _)) (.cons (.p (.refl _)) (.cons (.p (.refl _)) (.nil))))))))⟩, trivial⟩, by omega⟩
 ·try simp only [hbx] at hb
  refine yX ((if_pos rfl).mpr ?_)
  refine h1 _ ?_; clear h3 k3; clear h1 k1
  refine zW (zV [3]) ?_
  simp only [kp, zJ, simprocAttr]
  have hx2 : c.dq.take x = c.dq := List.take_of_length_le (by omega)
  rw [hx2]
  refine zK [] (by rw [hC]; rfl) fun k hk => ?_
  simp (maxSteps := 9^9) (disch := (try simp only [lens]); omega) only [zJ, sm, ↓amb, zQ, simprocAttr, dx]
  repeat refine an ?_
  refine hk _ ?_; clear hk k
  refine yQ ?_
  refine ret1 rfl rfl ?_
  exact .p (LeP.refl _)
end Go.Proofs.Ytbehekmnccoifaa
end
section
set_option linter.unusedSimpArgs false
set_option linter.unusedVariables false
set_option maxRecDepth 100000
namespace Go.Proofs.Ytbehekmnccoifaa
open Go.Am Go.Proofs
set_option maxHeartbeats 4000000 in
theorem c_ref05_Right (c : Pl.Crew) (hl : ∀ l, l ∈ c.dq → l.length ≤ 1000000 ∧ ∀ t, t ∈ l → -9223372036854775808 ≤ t ∧ t ≤ 9223372036854775807) : PCall Try.prog 83 [.agg (crewC c)] (bV (decide (Pl.crewRight c))) := by
 refine yV Try.func83 rfl (by simp [Try.ntmps83]) fun C hC => ?_
 refine zW (zV [0]) ?_
 simp only [kp, zJ, simprocAttr]
 refine zK [47] (by rw [hC]; rfl) fun k hk => ?_
 simp (maxSteps := 9^9) (disch := (try simp only [lens]); omega) only [zJ, sm, ↓amb, zQ, simprocAttr, taskC, lV, dx]
 repeat refine an ?_
 refine hk _ ?_; clear hk k
 refine zW (zV [1]) ?_
 simp only [kp, zJ, simprocAttr]
 refine zK [47] (by rw [hC]; rfl) fun k hk => ?_
 simp (maxSteps := 9^9) (disch := (try simp only [lens]); omega) only [zJ, sm, ↓amb, zQ, simprocAttr, fl91_1, sz89, el89, taskC, lV, dx]
 repeat refine an ?_
 refine hk _ ?_; clear hk k
 refine zY fun k1 h1 => ?_
 refine xQ [47] 42 (decide (¬ (Pl.right c.work ∧ 1 ≤ c.dq.length ∧ c.dq.length ≤ 8 ∧ (0 ≤ c.steps ∧ c.steps ≤ 100000) ∧ (0 ≤ c.idle ∧ c.idle ≤ 100000)))) [1, 2, 3] (by rw [hC]; rfl) (fun gd hgd k hk => ?_) ?_
 ·have g4 : gd 4 = some 15 := by rw [hgd]; rfl
  have g8 : gd 8 = some 19 := by rw [hgd]; rfl
  have g12 : gd 12 = some 23 := by rw [hgd]; rfl
  have g17 : gd 17 = some 28 := by rw [hgd]; rfl
  have g22 : gd 22 = some 33 := by rw [hgd]; rfl
  have g27 : gd 27 = some 38 := by rw [hgd]; rfl
  clear hgd
  simp (maxSteps := 9^9) (disch := (try simp only [lens]); omega) only [zJ, sm, ↓amb, zQ, simprocAttr, fl91_0, sz88, en96, fl91_3, sz3, fl91_4, zZ, g4, g8, g12, g17, g22, g27, taskC, lV, dx]
  repeat' first | refine hk _ _ rfl rfl rfl rfl ?_ | (refine gsplit (fun hg => ?_) (fun hg => ?_) <;> (try simp only [hbx] at hg) <;> (try (have hin : ((c.dq.getD x default).getD y 0).toNat < c.work.ts.length := by omega); try (have hok := hR.2.2.2 _ hin; simp only [Pl.okT] at hok; have hcn := hR.1; simp only [Pl.cnt] at hcn)) <;> simp (maxSteps := 9^9) (disch := (try simp only [lens]); omega) only [zJ, sm, ↓amb, zQ, simprocAttr, fl91_0, sz88, en96, fl91_3, sz3, fl91_4, zZ, g4, g8, g12, g17, g22, g27, taskC, lV, dx]) | apply And.intro | (refine yW (c38 _ _ _) rfl ?_; (try simp (maxSteps := 9^9) (disch := (try simp only [lens]); omega) only [zJ, sm, ↓amb, zQ, simprocAttr, fl91_0, sz88, en96, fl91_3, sz3, fl91_4, zZ, g4, g8, g12, g17, g22, g27, taskC, lV, dx])) | fail
  all_goals first | rfl | omega | exact (decide_eq_true (by omega)).symm | exact (decide_eq_false (by omega)).symm | exact decide_eq_decide.mpr (by omega) | (refine Bool.eq_iff_iff.mpr ?_; simp only [beq_iff_eq, bne_iff_ne, ne_eq, decide_eq_true_eq]; omega) | (refine Bool.eq_iff_iff.mpr ?_; simp only [Bool.not_eq_true', Bool.not_eq_false', decide_eq_false_iff_not, decide_eq_true_eq, beq_iff_eq, bne_iff_ne, ne_eq]; omega) | assumption | (simp; done) | (simp [maxLen]; omega) | skip
  all_goals first | (refine Eq.symm (decide_eq_true ?_); intro q; exact absurd q.1 (by assumption)) | (refine Eq.symm (decide_eq_true ?_); intro q; omega) | (rw [← decide_not]; exact decide_eq_decide.mpr ⟨fun h q => by omega, fun h => by refine Decidable.byContradiction fun w => h ⟨by assumption, by omega, by omega, by omega, by omega⟩⟩) | (refine decide_eq_decide.mpr ⟨fun h q => by omega, fun h => by refine Decidable.byContradiction fun w => h ⟨by assumption, by omega, by omega, by omega, by omega⟩⟩) | trace_state
 simp only [kp, zJ, simprocAttr, List.length_cons, List.length_nil]
 refine zX rfl (fun hb => ?_) (fun hb => ?_)
 ·try simp only [hbx] at hb
  refine zW (zV []) ?_
  simp only [kp, zJ, simprocAttr]
  have hb1 := hb
  refine zK [47] (by rw [hC]; rfl) fun k hk => ?_
  simp (maxSteps := 9^9) (disch := (try simp only [lens]); omega) only [zJ, sm, ↓amb, zQ, simprocAttr, taskC, lV, dx]
  repeat refine an ?_
  refine hk _ ?_; clear hk k
  refine yQ ?_
  refine ret1 rfl rfl ?_
  exact .p (LeP.of_eq (by rw [decide_eq_false (fun q => hb ⟨q.1, q.2.1, q.2.2.1, q.2.2.2.1, q.2.2.2.2.1⟩)]))
 ·try simp only [hbx] at hb
  refine yJ ?_
  refine h1 _ ?_; clear h1 k1
  refine zW (zV [1, 3]) ?_
  simp only [kp, zJ, simprocAttr]
  have hq := hb
  have hR := hq.1
  have hts : c.work.ts.length ≤ 2000 := hR.2.2.1
  refine zK [47] (by rw [hC]; rfl) fun k hk => ?_
  simp (maxSteps := 9^9) (disch := (try simp only [lens]); omega) only [zJ, sm, ↓amb, zQ, simprocAttr, fl91_0, fl88_0, sz86, el86, el23, by4, vr4, taskC, lV, dx]
  repeat refine an ?_
  refine hk _ ?_; clear hk k
  refine zY fun k2 h2 => ?_
  refine zW (zV [1, 2, 3, 4]) ?_
  simp only [kp, zJ, simprocAttr]
  refine zK [47] (by rw [hC]; rfl) fun k hk => ?_
  simp (maxSteps := 9^9) (disch := (try simp only [lens]); omega) only [zJ, sm, ↓amb, zQ, simprocAttr, taskC, lV, dx]
  repeat refine an ?_
  refine hk _ ?_; clear hk k
  refine yK ?_
  refine yY (σ := Nat) (fun i => i ≤ c.dq.length ∧ Pl.metOk c.work (c.dq.take i).flatten) (fun (i : Nat) => ⟨[(1, (.ptr 0 7 0 0)), (3, (.p (iV c.dq.length))), (4, (.own 1)), (5, (.p (iV (i : Int))))], [(0, (.row 7 [[.p (.seq false (c.work.ts.map taskC)), .p (iV c.work.grain), .p (.seq false (c.work.done.map fun b => [bV b])), .p (.seq false (c.dq.map lV)), .p (bV c.over), .p (iV c.steps), .p (iV c.idle)]])), (1, (.row 1 (lift ((Pl.metL c.work.ts.length (c.dq.take i).flatten).map fun b => [bV b]))))], 1⟩) (fun i => c.dq.length - i) 0 ?_ ?_ fun x hx => ?_
  ·exact ⟨Nat.zero_le _, Pl.metOk_nil _⟩
  ·exact le_of [(0, _), (1, _)] (by rfl) (by rfl) ⟨⟨_, rfl, .ptr rfl⟩, ⟨_, rfl, .oe⟩, ⟨_, rfl, .own rfl⟩, ⟨_, rfl, .oe⟩, trivial⟩ ⟨⟨_, rfl, _, rfl, .one (.cons (.p (.refl _)) (.cons (.p (.refl _)) (.cons (.p (.refl _)) (.cons (.p (.refl _)) (.cons (.p (.refl _)) (.cons (.p (.refl _)) (.cons (.p (.refl _)) (.nil))))))))⟩, ⟨_, rfl, _, rfl, .liftE (by first | (rw [show (c.dq.take 0).flatten = [] from rfl, Pl.metL_nil, List.map_replicate]; done) | (rw [Pl.flat_succ c.dq x (by omega), List.take_of_length_le (l := (c.dq.getD x default)) (i := y) (by omega)]; done) | trace_state)⟩, trivial⟩
  obtain ⟨hx1, hx2⟩ := hx
  refine zY fun k4 h4 => ?_
  refine zW (zV [0, 1, 2, 3, 4, 5]) ?_
  simp only [kp, zJ, simprocAttr]
  refine zK [47] (by rw [hC]; rfl) fun k hk => ?_
  simp (maxSteps := 9^9) (disch := (try simp only [lens]); omega) only [zJ, sm, ↓amb, zQ, simprocAttr, taskC, lV, dx]
  repeat refine an ?_
  refine hk _ ?_; clear hk k
  refine zX rfl (fun hb => ?_) (fun hb => ?_)
  ·try simp only [hbx] at hb
   refine yJ ?_
   refine h4 _ ?_; clear h4 k4
   refine zY fun k5 h5 => ?_
   refine yK ?_
   refine zW (zV [0, 1, 2, 3, 4, 5]) ?_
   simp only [kp, zJ, simprocAttr]
   refine zK [47] (by rw [hC]; rfl) fun k hk => ?_
   simp (maxSteps := 9^9) (disch := (try simp only [lens]); omega) only [zJ, sm, ↓amb, zQ, simprocAttr, taskC, lV, dx]
   repeat refine an ?_
   refine hk _ ?_; clear hk k
   refine yK ?_
   refine yY (σ := Nat) (fun y => y ≤ (c.dq.getD x default).length ∧ Pl.metOk c.work ((c.dq.take x).flatten ++ (c.dq.getD x default).take y)) (fun (y : Nat) => ⟨[(1, (.ptr 0 7 0 0)), (3, (.p (iV c.dq.length))), (4, (.own 1)), (5, (.p (iV (x : Int)))), (6, (.p (iV (y : Int))))], [(0, (.row 7 [[.p (.seq false (c.work.ts.map taskC)), .p (iV c.work.grain), .p (.seq false (c.work.done.map fun b => [bV b])), .p (.seq false (c.dq.map lV)), .p (bV c.over), .p (iV c.steps), .p (iV c.idle)]])), (1, (.row 1 (lift ((Pl.metL c.work.ts.length ((c.dq.take x).flatten ++ (c.dq.getD x default).take y)).map fun b => [bV b]))))], 1⟩) (fun y => (c.dq.getD x default).length - y) 0 ?_ ?_ fun y hy => ?_
   ·exact ⟨Nat.zero_le _, by rw [List.take_zero, List.append_nil]; exact hx2⟩
   ·exact le_of [(0, _), (1, _)] (by rfl) (by rfl) ⟨⟨_, rfl, .ptr rfl⟩, ⟨_, rfl, .oe⟩, ⟨_, rfl, .own rfl⟩, ⟨_, rfl, .oe⟩, ⟨_, rfl, .oe⟩, trivial⟩ ⟨⟨_, rfl, _, rfl, .one (.cons (.p (.refl _)) (.cons (.p (.refl _)) (.cons (.p (.refl _)) (.cons (.p (.refl _)) (.cons (.p (.refl _)) (.cons (.p (.refl _)) (.cons (.p (.refl _)) (.nil))))))))⟩, ⟨_, rfl, _, rfl, .liftE (by first | (rw [List.take_zero, List.append_nil]; done) | (rw [Pl.take_succ_at _ _ (by omega), ← List.append_assoc]; exact (List.map_set ..).symm.trans (congrArg (List.map _) (Pl.metL_snoc hho.1))) | trace_state)⟩, trivial⟩
   obtain ⟨hy1, hy2⟩ := hy
   refine zY fun k7 h7 => ?_
   refine zW (zV [0, 1, 2, 3, 4, 5, 6]) ?_
   simp only [kp, zJ, simprocAttr]
   have hll := hl (c.dq.getD x default) (Pl.getD_mem _ _ _ (by omega))
   refine zK [47] (by rw [hC]; rfl) fun k hk => ?_
   simp (maxSteps := 9^9) (disch := (try simp only [lens]); omega) only [zJ, sm, ↓amb, zQ, simprocAttr, fl91_1, sz89, el89, sz33, el33, taskC, lV, dx]
   repeat refine an ?_
   refine hk _ ?_; clear hk k
   refine zX rfl (fun hb => ?_) (fun hb => ?_)
   ·try simp only [hbx] at hb
    refine yJ ?_
    refine h7 _ ?_; clear h7 k7
    refine zY fun k8 h8 => ?_
    refine yK ?_
    refine zW (zV [0, 1, 2, 3, 4, 5, 6]) ?_
    simp only [kp, zJ, simprocAttr]
    refine zK [47] (by rw [hC]; rfl) fun k hk => ?_
    simp (maxSteps := 9^9) (disch := (try simp only [lens]); omega) only [zJ, sm, ↓amb, zQ, simprocAttr, fl91_1, sz89, el89, sz33, el33, sz3, taskC, lV, dx]
    repeat refine an ?_
    refine hk _ ?_; clear hk k
    refine zY fun k9 h9 => ?_
    have hkl := hll.2 ((c.dq.getD x default).getD y 0) (Pl.getD_mem _ _ _ (by omega))
    have hml := Pl.metL_len c.work.ts.length ((c.dq.take x).flatten ++ (c.dq.getD x default).take y)
    refine awp_testD [47] ⟨[0, 1, 3, 7, 7, 23, 63, 127, 255, 511, 511, 2047, 4095, 8191, 16383, 32767, 65535, 131071, 32767, 524287, 1048575, 2097151, 4194303, 8388607, 16777215, 33554431, 67108863, 33554431, 268435455, 536870911, 1073741823, 2147483647, 4294967295, 8589934591, 2147483647, 19327352831, 53687091199, 2147483647, 259845521407, 534723428351, 1084479242239, 2199023255551, 4398046511103, 8796093022207, 17592186044415], [5, 12, 17, 21, 26, 33, 36, 40, 42], [], [(28, 33), (28, 36), (28, 40), (28, 42)], some []⟩ 115 (decide (¬ Pl.heldOk c.work ((c.dq.take x).flatten ++ (c.dq.getD x default).take y) ((c.dq.getD x default).getD y 0))) [0, 1, 2, 3, 4, 5, 6, 7] (by rw [hC]; rfl) (by kernel_rfl) (by kernel_rfl) (fun gd hgd k hk => ?_) ?_
    ·have g2 : gd 2 = some 73 := by rw [hgd]; rfl
     have g8 : gd 8 = some 79 := by rw [hgd]; rfl
     have g14 : gd 14 = some 85 := by rw [hgd]; rfl
     have g24 : gd 24 = some 95 := by rw [hgd]; rfl
     have g30 : gd 30 = some 101 := by rw [hgd]; rfl
     clear hgd
     simp (maxSteps := 9^9) (disch := (try simp only [lens]); omega) only [zJ, sm, ↓amb, zQ, simprocAttr, el23, sz4, fl91_0, fl88_0, sz86, el86, sz118, fl118_3, sz3, sz88, en88, fl88_2, sz23, fl118_0, zZ, g2, g8, g14, g24, g30, taskC, lV, dx]
     repeat' first | refine hk _ _ rfl rfl rfl rfl ?_ | (refine gsplit (fun hg => ?_) (fun hg => ?_) <;> (try simp only [hbx] at hg) <;> (try (have hin : ((c.dq.getD x default).getD y 0).toNat < c.work.ts.length := by omega); try (have hok := hR.2.2.2 _ hin; simp only [Pl.okT] at hok; have hcn := hR.1; simp only [Pl.cnt] at hcn)) <;> simp (maxSteps := 9^9) (disch := (try simp only [lens]); omega) only [zJ, sm, ↓amb, zQ, simprocAttr, el23, sz4, fl91_0, fl88_0, sz86, el86, sz118, fl118_3, sz3, sz88, en88, fl88_2, sz23, fl118_0, zZ, g2, g8, g14, g24, g30, taskC, lV, dx]) | apply And.intro | (refine yW (c40 _ _ _ _) rfl ?_; (try simp (maxSteps := 9^9) (disch := (try simp only [lens]); omega) only [zJ, sm, ↓amb, zQ, simprocAttr, el23, sz4, fl91_0, fl88_0, sz86, el86, sz118, fl118_3, sz3, sz88, en88, fl88_2, sz23, fl118_0, zZ, g2, g8, g14, g24, g30, taskC, lV, dx])) | fail
     all_goals first | rfl | omega | exact (decide_eq_true (by omega)).symm | exact (decide_eq_false (by omega)).symm | exact decide_eq_decide.mpr (by omega) | (refine Bool.eq_iff_iff.mpr ?_; simp only [beq_iff_eq, bne_iff_ne, ne_eq, decide_eq_true_eq]; omega) | (refine Bool.eq_iff_iff.mpr ?_; simp only [Bool.not_eq_true', Bool.not_eq_false', decide_eq_false_iff_not, decide_eq_true_eq, beq_iff_eq, bne_iff_ne, ne_eq]; omega) | assumption | (simp; done) | (simp [maxLen]; omega) | skip
     all_goals first | (refine (decide_eq_true ?_).symm; intro q; first | (have q1 := q.1; have q2 := q.2.1; omega) | exact q.2.2.1 (Pl.metL_in q.1 q.2.1 (by assumption)) | exact absurd q.2.2.2.1 (by assumption)) | (refine (decide_eq_false ?_).symm; intro q; exact q ⟨by omega, by omega, Pl.metL_out (n := c.work.ts.length) (by omega) (by omega) (by assumption), by assumption, .inl (by assumption)⟩) | exact Pl.held_last (by omega) (by omega) (Pl.metL_out (n := c.work.ts.length) (by omega) (by omega) (by assumption)) (by assumption) (by assumption) | trace_state
    simp only [kp, zJ, simprocAttr, List.length_cons, List.length_nil]
    refine zX rfl (fun hb => ?_) (fun hb => ?_)
    ·try simp only [hbx] at hb
     refine zW (zV []) ?_
     simp only [kp, zJ, simprocAttr]
     refine zK [47] (by rw [hC]; rfl) fun k hk => ?_
     simp (maxSteps := 9^9) (disch := (try simp only [lens]); omega) only [zJ, sm, ↓amb, zQ, simprocAttr, taskC, lV, dx]
     repeat refine an ?_
     refine hk _ ?_; clear hk k
     refine yQ ?_
     obtain ⟨r, hr⟩ := Pl.flat_at c.dq x y (by omega) (by omega)
     refine ret1 rfl rfl ?_
     exact .p (LeP.of_eq (by rw [decide_eq_false (Pl.crewRight_not hb hr)]))
    ·try simp only [hbx] at hb
     refine yJ ?_
     refine h9 _ ?_; clear h9 k9
     have hho := hb
     have hq0 := hho.1
     have hq1 := hho.2.1
     refine yZ [47] (by rw [hC]; rfl) fun k hk => ?_
     simp (maxSteps := 9^9) (disch := (try simp only [lens]); omega) only [zJ, sm, ↓amb, zQ, simprocAttr, el23, sz4, taskC, lV, dx]
     repeat refine an ?_
     refine hk _ ?_; clear hk k
     refine h8 _ ?_; clear h8 k8
     refine yZ [47] (by rw [hC]; rfl) fun k hk => ?_
     simp (maxSteps := 9^9) (disch := (try simp only [lens]); omega) only [zJ, sm, ↓amb, zQ, simprocAttr, taskC, lV, dx]
     repeat refine an ?_
     refine hk _ ?_; clear hk k
     refine ⟨y + 1, ⟨by omega, by rw [Pl.take_succ_at _ _ (by omega), ← List.append_assoc]; exact Pl.metOk_more hy2 hho⟩, le_of [(0, _), (1, _)] (by rfl) (by rfl) ⟨⟨_, rfl, .ptr rfl⟩, ⟨_, rfl, .oe⟩, ⟨_, rfl, .own rfl⟩, ⟨_, rfl, .oe⟩, ⟨_, rfl, .oe⟩, trivial⟩ ⟨⟨_, rfl, _, rfl, .one (.cons (.p (.refl _)) (.cons (.p (.refl _)) (.cons (.p (.refl _)) (.cons (.p (.refl _)) (.cons (.p (.refl _)) (.cons (.p (.refl _)) (.cons (.p (.refl _)) (.nil))))))))⟩, ⟨_, rfl, _, rfl, .liftE (by first | (rw [List.take_zero, List.append_nil]; done) | (rw [Pl.take_succ_at _ _ (by omega), ← List.append_assoc]; exact (List.map_set ..).symm.trans (congrArg (List.map _) (Pl.metL_snoc hho.1))) | trace_state)⟩, trivial⟩, by omega⟩
   ·try simp only [hbx] at hb
    refine yX ((if_pos rfl).mpr ?_)
    refine h5 _ ?_; clear h7 k7; clear h5 k5
    refine yZ [47] (by rw [hC]; rfl) fun k hk => ?_
    simp (maxSteps := 9^9) (disch := (try simp only [lens]); omega) only [zJ, sm, ↓amb, zQ, simprocAttr, taskC, lV, dx]
    repeat refine an ?_
    refine hk _ ?_; clear hk k
    refine ⟨x + 1, ⟨by omega, by rw [Pl.flat_succ c.dq x (by omega)]; rw [List.take_of_length_le (l := (c.dq.getD x default)) (i := y) (by omega)] at hy2; exact hy2⟩, le_of [(0, _), (1, _)] (by rfl) (by rfl) ⟨⟨_, rfl, .ptr rfl⟩, ⟨_, rfl, .oe⟩, ⟨_, rfl, .own rfl⟩, ⟨_, rfl, .oe⟩, trivial⟩ ⟨⟨_, rfl, _, rfl, .one (.cons (.p (.refl _)) (.cons (.p (.refl _)) (.cons (.p (.refl _)) (.cons (.p (.refl _)) (.cons (.p (.refl _)) (.cons (.p (.refl _)) (.cons (.p (.refl _)) (.nil))))))))⟩, ⟨_, rfl, _, rfl, .liftE (by first | (rw [show (c.dq.take 0).flatten = [] from rfl, Pl.metL_nil, List.map_replicate]; done) | (rw [Pl.flat_succ c.dq x (by omega), List.take_of_length_le (l := (c.dq.getD x default)) (i := y) (by omega)]; done) | trace_state)⟩, trivial⟩, by omega⟩
  ·try simp only [hbx] at hb
   refine yX ((if_pos rfl).mpr ?_)
   refine h2 _ ?_; clear h4 k4; clear h2 k2
   refine zW (zV []) ?_
   simp only [kp, zJ, simprocAttr]
   refine zK [47] (by rw [hC]; rfl) fun k hk => ?_
   simp (maxSteps := 9^9) (disch := (try simp only [lens]); omega) only [zJ, sm, ↓amb, zQ, simprocAttr, taskC, lV, dx]
   repeat refine an ?_
   refine hk _ ?_; clear hk k
   refine yQ ?_
   rw [List.take_of_length_le (by omega)] at hx2
   refine ret1 rfl rfl ?_
   exact .p (LeP.of_eq (by rw [decide_eq_true (show Pl.crewRight c from ⟨hq.1, hq.2.1, hq.2.2.1, hq.2.2.2.1, hq.2.2.2.2, hx2.1, hx2.2⟩)]))
end Go.Proofs.Ytbehekmnccoifaa
end
section
set_option linter.unusedSimpArgs false
set_option linter.unusedVariables false
set_option maxRecDepth 100000
namespace Go.Proofs.Ytbehekmnccoifaa
open Go.Am Go.Proofs
@[reducible] def lE (l : List Int) : List PV := [.seq l.isEmpty (l.map fun n => [iV n])]
theorem lE_next (d : List (List Int)) (x : Nat) (h : x < d.length) : (d.take x).map lE ++ [[PV.seq (List.map (fun n => [iV n]) (d.getD x default)).isEmpty ((d.getD x default).map fun n => [iV n])]] = (d.take (x + 1)).map lE := by
  rw [take_snoc d x h, List.map_append, List.isEmpty_map]; rfl
theorem pl91_2 : tPlace Try.prog 91 2 = some (4, 1) := by kernel_rfl
theorem pl91_3 : tPlace Try.prog 91 3 = some (5, 1) := by kernel_rfl
theorem pl91_4 : tPlace Try.prog 91 4 = some (6, 1) := by kernel_rfl
set_option maxHeartbeats 4000000 in
theorem c_Copy_h (c : Pl.Crew) (h1 : c.work.ts.length ≤ 1000000) (h2 : c.work.done.length ≤ 1000000) (h3 : c.dq.length ≤ 1000000) (hl : ∀ l, l ∈ c.dq → l.length ≤ 1000000) : HCall Try.prog 85 [.p (.agg (crewC c))] [] (.agg [.p (.seq false (c.work.ts.map taskC)), .p (iV c.work.grain), .p (.seq false (c.work.done.map fun b => [bV b])), .own 0, .p (bV c.over), .p (iV c.steps), .p (iV c.idle)]) [(0, .row 1 (lift (c.dq.map lE)))] := by
 refine xJ Try.func85 rfl (by simp [Try.ntmps85]) fun C hC => ?_
 refine zW (zV [0]) ?_
 simp only [kp, zJ, simprocAttr]
 refine zK [32] (by rw [hC]; rfl) fun k hk => ?_
 simp (maxSteps := 9^9) (disch := (try simp only [lens]); omega) only [zJ, sm, ↓amb, zQ, simprocAttr, vr91, dx]
 repeat refine an ?_
 refine hk _ ?_; clear hk k
 refine zW (zV [1, 2]) ?_
 simp only [kp, zJ, simprocAttr]
 refine awp_sd [32] ⟨[0, 1, 3, 0, 8, 0, 32, 0, 128, 511, 0, 2047], [1, 4, 6, 8], [11], [(2, 11), (10, 11)], none⟩ (by rw [hC]; rfl) (by kernel_rfl) (by kernel_rfl) fun k hk => ?_
 simp (maxSteps := 9^9) (disch := (try simp only [lens]); omega) only [zJ, sm, ↓amb, zQ, simprocAttr, fl91_0, sz88, en97, fl91_2, sz4, fl91_3, sz3, fl91_4, vr91, bt91, pl91_0, pl91_2, pl91_3, pl91_4, sz91, dx]
 repeat refine an ?_
 refine yW (c27p _ _ _ h1 h2) rfl ?_
 simp (maxSteps := 9^9) (disch := (try simp only [lens]); omega) only [zJ, sm, ↓amb, zQ, simprocAttr, fl91_0, sz88, en97, fl91_2, sz4, fl91_3, sz3, fl91_4, vr91, bt91, pl91_0, pl91_2, pl91_3, pl91_4, sz91, dx]
 repeat refine an ?_
 refine hk _ ?_; clear hk k
 refine zY fun k1 h1 => ?_
 refine zW (zV [1, 2, 3]) ?_
 simp only [kp, zJ, simprocAttr]
 refine awp_ownCs 3 1 3 rfl rfl rfl ?_
 simp only [am, List.set_cons_succ, List.set_cons_zero, Nat.reduceEqDiff, ↓reduceIte, reduceCtorEq, Nat.reduceAdd, Nat.reduceMul]
 refine zK [32] (by rw [hC]; rfl) fun k hk => ?_
 simp (maxSteps := 9^9) (disch := (try simp only [lens]); omega) only [zJ, sm, ↓amb, zQ, simprocAttr, dx]
 repeat refine an ?_
 refine hk _ ?_; clear hk k
 refine yK ?_
 refine yY (σ := Nat) (fun i => i ≤ c.dq.length) (fun (i : Nat) => ⟨[(1, (.ptr 0 7 0 0)), (2, (.ptr 1 7 0 0)), (3, (.ptr 2 7 0 0)), (4, (.p (iV (i : Int))))], [(0, (.row 7 [[.p (.seq false (c.work.ts.map taskC)), .p (iV c.work.grain), .p (.seq false (c.work.done.map fun b => [bV b])), .p (.seq false (c.dq.map lV)), .p (bV c.over), .p (iV c.steps), .p (iV c.idle)]])), (1, (.row 7 [[.p (.seq true []), .p (iV 0), .p (.seq true []), .p (.seq true []), .p (bV false), .p (iV 0), .p (iV 0)]])), (2, (.row 7 [[.p (.seq false (c.work.ts.map taskC)), .p (iV c.work.grain), .p (.seq false (c.work.done.map fun b => [bV b])), .own 3, .p (bV c.over), .p (iV c.steps), .p (iV c.idle)]])), (3, (.row 1 (lift ((c.dq.take i).map lE))))], 1⟩) (fun i => c.dq.length - i) 0 ?_ ?_ fun i hi => ?_
 ·exact Nat.zero_le _
 ·exact le_of [(0, _), (1, _), (2, _), (3, _)] (by rfl) (by rfl) ⟨⟨_, rfl, .ptr rfl⟩, ⟨_, rfl, .ptr rfl⟩, ⟨_, rfl, .ptr rfl⟩, ⟨_, rfl, .oe⟩, trivial⟩ ⟨⟨_, rfl, _, rfl, .one (.cons (.p (.refl _)) (.cons (.p (.refl _)) (.cons (.p (.refl _)) (.cons (.p (.refl _)) (.cons (.p (.refl _)) (.cons (.p (.refl _)) (.cons (.p (.refl _)) (.nil))))))))⟩, ⟨_, rfl, _, rfl, .one (.cons (.p (.refl _)) (.cons (.p (.refl _)) (.cons (.p (.refl _)) (.cons (.p (.refl _)) (.cons (.p (.refl _)) (.cons (.p (.refl _)) (.cons (.p (.refl _)) (.nil))))))))⟩, ⟨_, rfl, _, rfl, .one (.cons (.p (.refl _)) (.cons (.p (.refl _)) (.cons (.p (.refl _)) (.cons (.own rfl) (.cons (.p (.refl _)) (.cons (.p (.refl _)) (.cons (.p (.refl _)) (.nil))))))))⟩, ⟨_, rfl, _, rfl, .liftE (by first | rfl | exact lE_next _ _ (by omega) | trace_state)⟩, trivial⟩
 refine zY fun k3 h3 => ?_
 refine zW (zV [0, 1, 2, 3, 4]) ?_
 simp only [kp, zJ, simprocAttr]
 refine zK [32] (by rw [hC]; rfl) fun k hk => ?_
 simp (maxSteps := 9^9) (disch := (try simp only [lens]); omega) only [zJ, sm, ↓amb, zQ, simprocAttr, fl91_1, sz89, el89, dx]
 repeat refine an ?_
 refine hk _ ?_; clear hk k
 refine zX rfl (fun hb => ?_) (fun hb => ?_)
 ·try simp only [hbx] at hb
  refine yJ ?_
  refine h3 _ ?_; clear h3 k3
  refine zY fun k4 h4 => ?_
  refine yK ?_
  have hll := hl (c.dq.getD i default) (Pl.getD_mem _ _ _ (by omega))
  refine awp_draw [32] ⟨[0, 1, 0, 0, 8, 0, 56, 120, 252, 508, 1023, 2047, 4095], [1], [10, 12], [(10, 12)], some [2, 3]⟩ (by rw [hC]; rfl) (by kernel_rfl) (by kernel_rfl) fun k hk => ?_
  simp (maxSteps := 9^9) (disch := (try simp only [lens]); omega) only [zJ, sm, ↓amb, zQ, simprocAttr, fl91_1, sz89, el33, vr3, el89, sz33, by3, vr33, by33, dx]
  repeat refine an ?_
  refine hk _ ?_; clear hk k
  refine h4 _ ?_; clear h4 k4
  refine yZ [32] (by rw [hC]; rfl) fun k hk => ?_
  simp (maxSteps := 9^9) (disch := (try simp only [lens]); omega) only [zJ, sm, ↓amb, zQ, simprocAttr, dx]
  repeat refine an ?_
  refine hk _ ?_; clear hk k
  refine ⟨i + 1, by omega, le_of [(0, _), (1, _), (2, _), (3, _)] (by rfl) (by rfl) ⟨⟨_, rfl, .ptr rfl⟩, ⟨_, rfl, .ptr rfl⟩, ⟨_, rfl, .ptr rfl⟩, ⟨_, rfl, .oe⟩, trivial⟩ ⟨⟨_, rfl, _, rfl, .one (.cons (.p (.refl _)) (.cons (.p (.refl _)) (.cons (.p (.refl _)) (.cons (.p (.refl _)) (.cons (.p (.refl _)) (.cons (.p (.refl _)) (.cons (.p (.refl _)) (.nil))))))))⟩, ⟨_, rfl, _, rfl, .one (.cons (.p (.refl _)) (.cons (.p (.refl _)) (.cons (.p (.refl _)) (.cons (.p (.refl _)) (.cons (.p (.refl _)) (.cons (.p (.refl _)) (.cons (.p (.refl _)) (.nil))))))))⟩, ⟨_, rfl, _, rfl, .one (.cons (.p (.refl _)) (.cons (.p (.refl _)) (.cons (.p (.refl _)) (.cons (.own rfl) (.cons (.p (.refl _)) (.cons (.p (.refl _)) (.cons (.p (.refl _)) (.nil))))))))⟩, ⟨_, rfl, _, rfl, .liftE (by first | rfl | exact lE_next _ _ (by omega) | trace_state)⟩, trivial⟩, by omega⟩
 ·try simp only [hbx] at hb
  refine yX ((if_pos rfl).mpr ?_)
  refine h1 _ ?_; clear h3 k3; clear h1 k1
  refine zW (zV [2, 3]) ?_
  simp only [kp, zJ, simprocAttr]
  have htk : c.dq.take i = c.dq := List.take_of_length_le (by omega)
  rw [htk]
  refine zK [32] (by rw [hC]; rfl) fun k hk => ?_
  simp (maxSteps := 9^9) (disch := (try simp only [lens]); omega) only [zJ, sm, ↓amb, zQ, simprocAttr, sz91, dx]
  repeat refine an ?_
  refine hk _ ?_; clear hk k
  refine yQ ?_
  refine rethc rfl rfl sz91 ?_
  simp (maxSteps := 9^9) (disch := (try simp only [lens]); omega) only [zJ, sm, ↓amb, zQ, simprocAttr, sz91, dx]
  exact le_of [(0, _)] (by rfl) (by rfl) ⟨⟨_, rfl, .agg rfl (LeRow.cons (.p (.refl _)) (LeRow.cons (.p (.refl _)) (LeRow.cons (.p (.refl _)) (LeRow.cons (.own rfl) (LeRow.cons (.p (.refl _)) (LeRow.cons (.p (.refl _)) (LeRow.cons (.p (.refl _)) .nil))))))).2⟩, trivial⟩ ⟨⟨_, rfl, _, rfl, .liftE rfl⟩, trivial⟩
set_option maxHeartbeats 4000000 in
theorem c_Pop_h (c : Bool) (l : List Int) (hl : l.length ≤ 1000000) (h0 : 0 < l.length) : HCall Try.prog 86 [.p (ints c l)] [] (.tup [.own 0, .p (iV (l.getD (l.length - 1) 0)), .p (iV 0)]) [(0, .row 1 (lift ((l.take (l.length - 1)).map fun n => [iV n])))] := by
 refine xJ Try.func86 rfl (by simp [Try.ntmps86]) fun C hC => ?_
 refine zW (zV [0]) ?_
 simp only [kp, zJ, simprocAttr]
 refine zK [17] (by rw [hC]; rfl) fun k hk => ?_
 simp (maxSteps := 9^9) (disch := (try simp only [lens]); omega) only [zJ, sm, ↓amb, zQ, simprocAttr, dx]
 repeat refine an ?_
 refine hk _ ?_; clear hk k
 refine zY fun k1 h1 => ?_
 refine zW (zV [0, 2, 3, 4]) ?_
 simp only [kp, zJ, simprocAttr]
 refine zK [17] (by rw [hC]; rfl) fun k hk => ?_
 simp (maxSteps := 9^9) (disch := (try simp only [lens]); omega) only [zJ, sm, ↓amb, zQ, simprocAttr, el33, dx]
 repeat refine an ?_
 refine hk _ ?_; clear hk k
 refine zX rfl (fun hb => ?_) (fun hb => ?_)
 ·exact absurd (beq_iff_eq.mp hb) (by omega)
 ·try simp only [hbx] at hb
  refine yJ ?_
  refine h1 _ ?_; clear h1 k1
  refine zW (zV [0]) ?_
  simp only [kp, zJ, simprocAttr]
  refine zK [17] (by rw [hC]; rfl) fun k hk => ?_
  simp (maxSteps := 9^9) (disch := (try simp only [lens]); omega) only [zJ, sm, ↓amb, zQ, simprocAttr, el33, dx]
  repeat refine an ?_
  refine hk _ ?_; clear hk k
  refine zW (zV [0, 5]) ?_
  simp only [kp, zJ, simprocAttr]
  refine awp_sd [17] ⟨[0, 0, 0, 6, 15, 0, 0, 96, 224, 31, 1023, 2047], [4, 8], [], [], some []⟩ (by rw [hC]; rfl) (by kernel_rfl) (by kernel_rfl) fun k hk => ?_
  simp (maxSteps := 9^9) (disch := (try simp only [lens]); omega) only [zJ, sm, ↓amb, zQ, simprocAttr, el33, vr3, sz3, by3, dx]
  repeat refine an ?_
  refine hk _ ?_; clear hk k
  refine yQ ?_
  refine reth3 rfl rfl rfl rfl ?_
  exact le_of [(0, _)] (by rfl) (by rfl) ⟨⟨_, rfl, leTup (LeRow.cons (.own rfl) (LeRow.cons (.p (.of_eq (by first | rfl | trace_state))) (LeRow.cons (.p (.refl _)) .nil)))⟩, trivial⟩ ⟨⟨_, rfl, _, rfl, .liftE (by first | rfl | trace_state)⟩, trivial⟩
end Go.Proofs.Ytbehekmnccoifaa
end
section
set_option linter.unusedSimpArgs false
set_option linter.unusedVariables false
set_option maxRecDepth 100000
namespace Go.Proofs.Ytbehekmnccoifaa
open Go.Am Go.Proofs
theorem mx1 (es : List (List PV)) (id sz k off : Nat) (vs : List AV) (K : Upd → Prop) : storeL none es id sz k off vs K = K ⟨.p (.lit undef), [(id, some (.row sz ((lift es).set k (splice ((es.getD k []).map .p) off vs))))]⟩ := rfl
theorem mx2 (es : List (List PV)) (sz k off n : Nat) (cs : List AV) (K : AV → Prop) : loadB (some (.row sz ((lift es).set k cs))) sz k off false n K = (k < es.length ∧ onE cs[off]? K) := by
  have hl : (lift es).length = es.length := by simp [lift]
  refine propext ⟨?_, ?_⟩
  · rintro ⟨_, h, ds, hd, hk⟩
    injection h with h; injection h with h1 h2; subst h2
    rw [List.getElem?_set] at hd
    split at hd
    · split at hd
      · injection hd with hd; subst hd; exact ⟨by omega, by simpa [onE] using hk⟩
      · cases hd
    · exact absurd rfl ‹_›
  · rintro ⟨h1, x, h2, h3⟩
    exact ⟨_, rfl, cs, List.getElem?_set_self (by omega), by simpa using ⟨x, h2, h3⟩⟩
theorem mx3 (es : List (List PV)) (id sz k off : Nat) (cs vs : List AV) (K : Upd → Prop) : storeB (some (.row sz ((lift es).set k cs))) id sz k off vs K = (k < es.length ∧ off + vs.length ≤ cs.length ∧ K ⟨.p (.lit undef), [(id, some (.row sz ((lift es).set k (splice cs off vs))))]⟩) := by
  have hl : (lift es).length = es.length := by simp [lift]
  refine propext ⟨?_, ?_⟩
  · rintro ⟨_, h, ds, hd, h4, hk⟩
    injection h with h; injection h with h1 h2; subst h2
    rw [List.getElem?_set] at hd
    split at hd
    · split at hd
      · injection hd with hd; subst hd
        rw [List.set_set] at hk
        exact ⟨by omega, h4, hk⟩
      · cases hd
    · exact absurd rfl ‹_›
  · rintro ⟨h1, h2, h3⟩
    exact ⟨_, rfl, cs, List.getElem?_set_self (by omega), h2, by rw [List.set_set]; exact h3⟩
theorem mx4 (es : List (List PV)) (k : Nat) (cs : List AV) : ((lift es).set k cs).length = es.length := by simp [lift]
theorem mx : type_of% (And.intro (And.intro @mx1 @mx2) (And.intro @mx3 @mx4)) := And.intro (And.intro @mx1 @mx2) (And.intro @mx3 @mx4)
theorem leB_setO {hp : List (Nat × Blk)} {π : List (Nat × Nat)} {sz : Nat} {es : List (List PV)} {i a b : Nat} (h : lkq π b = some a) : LeB hp π (.row sz ((lift es).set i [.own a])) (.row sz ((lift es).set i [.own b])) := by
  refine ⟨rfl, by simp, fun k cs ds h1 h2 => ?_⟩
  rw [List.getElem?_set] at h1 h2
  by_cases e : i = k
  · rw [if_pos e] at h1 h2
    split at h1
    · rename_i hlt
      rw [if_pos hlt] at h2
      injection h1 with h1; injection h2 with h2; subst h1 h2
      exact LeRow.cons (.own h) LeRow.nil
    · cases h1
  · rw [if_neg e] at h1 h2
    rw [h1] at h2; injection h2 with h2; subst h2
    simp only [lift, List.getElem?_map, Option.map_eq_some_iff] at h1
    obtain ⟨r, _, rfl⟩ := h1
    exact ⟨rfl, fun j u w hu hw => by
      rw [hu] at hw; injection hw with hw; subst hw
      rw [List.getElem?_map, Option.map_eq_some_iff] at hu
      obtain ⟨z, _, rfl⟩ := hu
      exact .p (.refl _)⟩
theorem leB_outF {hp : List (Nat × Blk)} {π : List (Nat × Nat)} {D : List (List Int)} {P k : Nat} {X : List Int} (hk : lkp hp k = some (.row 1 (lift (X.map fun n => [iV n])))) (hn : (π.all (fun q => q.2 != k) && k % 8 != 7) = true) :
    LeB hp π (.row 1 ((lift (D.map lE)).set P [.own k])) (.row 1 (lift ((D.set P X).map lV))) := by
  refine ⟨rfl, by simp [lift], fun i cs ds h1 h2 => ?_⟩
  rw [List.getElem?_set] at h1
  simp only [lift, List.getElem?_map, List.getElem?_set, List.length_map] at h1 h2
  by_cases e : P = i
  · rw [if_pos e] at h1 h2
    split at h1
    · rename_i hlt
      rw [if_pos hlt] at h2
      injection h1 with h1; simp only [Option.map_some, Option.some.injEq] at h2; subst h1 h2
      exact LeRow.cons (.frz hk hn) LeRow.nil
    · cases h1
  · rw [if_neg e] at h1 h2
    cases hd : D[i]? with
    | none => rw [hd] at h1; cases h1
    | some l =>
      rw [hd] at h1 h2
      simp only [Option.map_some, Option.some.injEq] at h1 h2; subst h1 h2
      exact LeRow.cons (.p (LeP.seq _ _)) LeRow.nil
def LvE (es : List (List PV)) (D : List (List Int)) : Prop := es.length = D.length ∧ ∀ (i : Nat) (l : List Int), D[i]? = some l → ∃ b, es[i]? = some [PV.seq b (l.map fun n => [iV n])]
theorem leB_outV {hp : List (Nat × Blk)} {π : List (Nat × Nat)} {es : List (List PV)} {D : List (List Int)} (h : LvE es D) :
    LeB hp π (.row 1 (lift es)) (.row 1 (lift (D.map lV))) := by
  refine Pl.leB_pt (by simpa using h.1) fun i x y h1 h2 => ?_
  rw [List.getElem?_map, Option.map_eq_some_iff] at h2
  obtain ⟨l, hl2, rfl⟩ := h2
  obtain ⟨b, hb⟩ := h.2 i l hl2
  rw [hb] at h1; injection h1 with h1; subst h1
  exact LeRow.cons (.p (LeP.seq _ _)) LeRow.nil
theorem lE_all (D : List (List Int)) : LvE (D.map lE) D := ⟨by simp, fun i l h => by
  rw [List.getElem?_map, h]; exact ⟨_, rfl⟩⟩
theorem lE_set {D : List (List Int)} {es : List (List PV)} (h : LvE es D) (P : Nat) (b : Bool) (X : List Int) : LvE (es.set P [PV.seq b (X.map fun n => [iV n])]) (D.set P X) := ⟨by simpa using h.1, fun i l hi => by
  rw [List.getElem?_set] at hi ⊢
  by_cases e : P = i
  · rw [if_pos e] at hi ⊢
    split at hi
    · rename_i hlt
      injection hi with hi; subst hi
      rw [if_pos (by rw [h.1]; exact hlt)]; exact ⟨_, rfl⟩
    · cases hi
  · rw [if_neg e] at hi ⊢; exact h.2 i l hi⟩
theorem lE_get {D : List (List Int)} {P V : Nat} (hP : P < D.length) (hne : V ≠ P) (h : D.getD P default = []) (y : List PV) : ((D.map lE).set V y).getD P default = [.seq true []] := by
  rw [List.getD_eq_getElem?_getD, List.getElem?_set_ne hne, List.getElem?_map, List.getElem?_eq_getElem hP]
  rw [List.getD_eq_getElem?_getD, List.getElem?_eq_getElem hP] at h
  simp only [Option.getD_some] at h
  simp [lE, h]
theorem en83 : enters Try.prog 83 = true := by kernel_rfl
theorem en84 : enters Try.prog 84 = true := by kernel_rfl
theorem en85 : enters Try.prog 85 = true := by kernel_rfl
theorem en86 : enters Try.prog 86 = true := by kernel_rfl
theorem en89 : enters Try.prog 89 = true := by kernel_rfl
theorem en90 : enters Try.prog 90 = true := by kernel_rfl
theorem pl112_0 : tPlace Try.prog 112 0 = some (0, 1) := by kernel_rfl
set_option maxHeartbeats 4000000 in
theorem c_Step_p (c : Pl.Crew) (p v : Int) (hl : ∀ l, l ∈ c.dq → l.length ≤ 1000000 ∧ ∀ t, t ∈ l → -9223372036854775808 ≤ t ∧ t ≤ 9223372036854775807) (h0 : (Pl.step c p v).2.2 = 0) (hp : 0 < (c.dq.getD (Pl.num c.dq p).toNat default).length) : PCall Try.prog 72 [.agg (crewC c), iV p, iV v] (.tup [.agg (crewC (Pl.step c p v).1), .agg (evC (Pl.step c p v).2.1), iV 0]) := by
 obtain ⟨P, V, hcp, hcv, hP, hV, hN, hPl, hVl, hcr, hst⟩ := Pl.step_at h0
 obtain ⟨hr1, hr2, hr3, hr4, hr5, hr6, hr7⟩ := id hcr
 have hRr : c.work.ts.length ≤ 2000 ∧ c.work.done.length ≤ 1000 := ⟨hr1.2.2.1, by have := hr1.1; unfold Pl.cnt at this; omega⟩
 have hlP := hl _ (Pl.getD_mem c.dq P default hPl)
 have hlV := hl _ (Pl.getD_mem c.dq V default hVl)
 rw [hP] at hp
 have hso := Pl.step_own h0 hP hN hV hp (t := ((c.dq.getD P default).getD ((c.dq.getD P default).length - 1) 0)) rfl
 refine yV Try.func72 rfl (by simp [Try.ntmps72]) fun C hC => ?_
 refine zW (zV [0, 1, 2]) ?_
 simp only [kp, zJ, simprocAttr]
 refine zK [141] (by rw [hC]; rfl) fun k hk => ?_
 simp (maxSteps := 9^9) (disch := (try simp only [lens]); omega) only [zJ, sm, ↓amb, zQ, simprocAttr, vr91, vr112, lE, mx, dx]
 repeat refine an ?_
 refine hk _ ?_; clear hk k
 refine zY fun k1 h1 => ?_
 refine yK ?_
 refine zW (zV [1, 2, 3, 6, 7, 8]) ?_
 simp only [kp, zJ, simprocAttr]
 refine zK [141] (by rw [hC]; rfl) fun k hk => ?_
 simp (maxSteps := 9^9) (disch := (try simp only [lens]); omega) only [zJ, sm, ↓amb, zQ, simprocAttr, sz91, en83, lE, mx, dx]
 repeat refine an ?_
 refine yW (c_ref05_Right _ hl) rfl ?_
 simp (maxSteps := 9^9) (disch := (try simp only [lens]); omega) only [zJ, sm, ↓amb, zQ, simprocAttr, sz91, en83, lE, mx, dx]
 repeat refine an ?_
 refine hk _ ?_; clear hk k
 refine zX rfl (fun hb => ?_) (fun hb => ?_)
 ·exact absurd hcr (by simpa using hb)
 ·try simp only [hbx] at hb
  refine zW (zV [1, 2, 3, 6, 7, 8]) ?_
  simp only [kp, zJ, simprocAttr]
  refine zK [141] (by rw [hC]; rfl) fun k hk => ?_
  simp (maxSteps := 9^9) (disch := (try simp only [lens]); omega) only [zJ, sm, ↓amb, zQ, simprocAttr, fl91_3, sz3, lE, mx, dx]
  repeat refine an ?_
  refine hk _ ?_; clear hk k
  refine zX rfl (fun hb => ?_) (fun hb => ?_)
  ·exact absurd (beq_iff_eq.mp hb) hst
  ·try simp only [hbx] at hb
   refine yJ ?_
   refine h1 _ ?_; clear h1 k1
   refine zW (zV [1, 2, 3, 6, 7]) ?_
   simp only [kp, zJ, simprocAttr]
   refine zK [141] (by rw [hC]; rfl) fun k hk => ?_
   simp (maxSteps := 9^9) (disch := (try simp only [lens]); omega) only [zJ, sm, ↓amb, zQ, simprocAttr, fl91_1, sz89, el89, lE, mx, dx]
   repeat refine an ?_
   refine hk _ ?_; clear hk k
   refine zW (zV [1, 2, 3, 6, 7, 9]) ?_
   simp only [kp, zJ, simprocAttr]
   refine zK [141] (by rw [hC]; rfl) fun k hk => ?_
   simp (maxSteps := 9^9) (disch := (try simp only [lens]); omega) only [zJ, sm, ↓amb, zQ, simprocAttr, en84, lE, mx, dx]
   repeat refine an ?_
   refine yW (c_ref05_cut _ _ (by omega)) rfl ?_
   simp (maxSteps := 9^9) (disch := (try simp only [lens]); omega) only [zJ, sm, ↓amb, zQ, simprocAttr, en84, lE, mx, dx]
   repeat refine an ?_
   refine yW (c_ref05_cut _ _ (by omega)) rfl ?_
   simp (maxSteps := 9^9) (disch := (try simp only [lens]); omega) only [zJ, sm, ↓amb, zQ, simprocAttr, en84, lE, mx, dx]
   repeat refine an ?_
   refine hk _ ?_; clear hk k
   refine zW (zV [1, 2, 3, 6, 7]) ?_
   simp only [kp, zJ, simprocAttr]
   rw [hcp, hcv]
   refine zK [141] (by rw [hC]; rfl) fun k hk => ?_
   simp (maxSteps := 9^9) (disch := (try simp only [lens]); omega) only [zJ, sm, ↓amb, zQ, simprocAttr, sz91, en85, vr91, lE, mx, dx]
   repeat refine an ?_
   refine callK_h (c_Copy_h c (by omega) (by omega) (by omega) (fun l h => (hl l h).1)) [] [] (by first | rfl | (simp only [hm]; done)) (by first | rfl | (simp [namesOk, lkp]; done)) ?_ ?_ ?_ ?_ ?_ ?_ ?_
   (iterate 6 (focus (first | trivial | (intro n hn; cases hn; done) | (simp (maxSteps := 9^9) (disch := (try simp only [lens]); omega) only [zJ, sm, ↓amb, zQ, simprocAttr, sz91, en85, vr91, lE, mx, dx, hmx, List.filter_cons, Nat.reduceBNe, imp_self, implies_true]; done))))
   simp (maxSteps := 9^9) (disch := (try simp only [lens]); omega) only [zJ, sm, ↓amb, zQ, simprocAttr, sz91, en85, vr91, lE, mx, dx, hm, List.filter_cons, List.filter_nil, Nat.reduceBNe, Option.map_none]
   repeat refine an ?_
   refine hk _ ?_; clear hk k
   refine zW (zV [1, 2, 3, 6, 7, 10]) ?_
   simp only [kp, zJ, simprocAttr]
   refine zK [141] (by rw [hC]; rfl) fun k hk => ?_
   simp (maxSteps := 9^9) (disch := (try simp only [lens]); omega) only [zJ, sm, ↓amb, zQ, simprocAttr, fl91_3, sz3, lE, mx, dx]
   repeat refine an ?_
   refine hk _ ?_; clear hk k
   refine zW (zV [1, 2, 3, 6, 7, 10]) ?_
   simp only [kp, zJ, simprocAttr]
   refine zK [141] (by rw [hC]; rfl) fun k hk => ?_
   simp (maxSteps := 9^9) (disch := (try simp only [lens]); omega) only [zJ, sm, ↓amb, zQ, simprocAttr, vr112, bt112, pl112_0, pl112_1, pl112_2, sz112, lE, mx, dx]
   repeat refine an ?_
   refine hk _ ?_; clear hk k
   refine zY fun k2 h2 => ?_
   refine zW (zV [1, 2, 3, 6, 7, 8, 10, 11]) ?_
   simp only [kp, zJ, simprocAttr]
   refine zK [141] (by rw [hC]; rfl) fun k hk => ?_
   simp (maxSteps := 9^9) (disch := (try simp only [lens]); omega) only [zJ, sm, ↓amb, zQ, simprocAttr, fl91_1, sz89, el89, sz33, en86, lE, mx, dx]
   repeat refine an ?_
   refine callK_h (c_Pop_h false (c.dq.getD P default) hlP.1 hp) [] [] (by first | rfl | (simp only [hm]; done)) (by first | rfl | (simp [namesOk, lkp]; done)) ?_ ?_ ?_ ?_ ?_ ?_ ?_
   (iterate 6 (focus (first | trivial | (intro n hn; cases hn; done) | (simp (maxSteps := 9^9) (disch := (try simp only [lens]); omega) only [zJ, sm, ↓amb, zQ, simprocAttr, fl91_1, sz89, el89, sz33, en86, lE, mx, dx, hmx, List.filter_cons, Nat.reduceBNe, imp_self, implies_true]; done))))
   simp (maxSteps := 9^9) (disch := (try simp only [lens]); omega) only [zJ, sm, ↓amb, zQ, simprocAttr, fl91_1, sz89, el89, sz33, en86, lE, mx, dx, hm, List.filter_cons, List.filter_nil, Nat.reduceBNe, Option.map_none]
   repeat refine an ?_
   refine hk _ ?_; clear hk k
   refine zW (zV [1, 2, 3, 6, 7, 8, 10, 11, 12, 13, 14]) ?_
   simp only [kp, zJ, simprocAttr]
   refine zK [141] (by rw [hC]; rfl) fun k hk => ?_
   simp (maxSteps := 9^9) (disch := (try simp only [lens]); omega) only [zJ, sm, ↓amb, zQ, simprocAttr, lE, mx, dx]
   repeat refine an ?_
   refine hk _ ?_; clear hk k
   refine zX rfl (fun hb => ?_) (fun hb => ?_)
   ·try simp only [hbx] at hb
    refine yZ [141] (by rw [hC]; rfl) fun k hk => ?_
    simp (maxSteps := 9^9) (disch := (try simp only [lens]); omega) only [zJ, sm, ↓amb, zQ, simprocAttr, fl91_1, sz89, el89, sz33, fl112_1, sz3, fl112_2, lE, mx, dx]
    repeat refine an ?_
    refine hk _ ?_; clear hk k
    refine h2 _ ?_; clear h2 k2
    refine zY fun k3 h3 => ?_
    refine zW (zV [1, 3, 6, 7, 8, 10, 11]) ?_
    simp only [kp, zJ, simprocAttr]
    refine zW (show LE _ (⟨[(1, (.p (iV (P : Int)))), (3, (.ptr 0 7 0 0)), (6, (.ptr 1 7 0 0)), (7, (.ptr 2 4 0 0)), (10, (.ptr 3 7 0 0)), (11, (.ptr 4 4 0 0))], [(0, (.row 7 [[.p (.seq false (c.work.ts.map taskC)), .p (iV c.work.grain), .p (.seq false (c.work.done.map fun b => [bV b])), .p (.seq false (c.dq.map lV)), .p (bV c.over), .p (iV c.steps), .p (iV c.idle)]])), (1, (.row 7 [[.p (.seq true []), .p (iV 0), .p (.seq true []), .p (.seq true []), .p (bV false), .p (iV 0), .p (iV 0)]])), (2, (.row 4 [[.p (iV 0), .p (iV 0), .p (iV 0), .p (bV false)]])), (3, (.row 7 [[.p (.seq false (c.work.ts.map taskC)), .p (iV c.work.grain), .p (.seq false (c.work.done.map fun b => [bV b])), .own 5, .p (bV c.over), .p (iV (c.steps + 1)), .p (iV c.idle)]])), (4, (.row 4 [[.p (iV (P : Int)), .p (iV (P : Int)), .p (iV ((c.dq.getD P default).getD ((c.dq.getD P default).length - 1) 0)), .p (bV false)]])), (5, (.row 1 ((lift (c.dq.map lE)).set P [.own 6]))), (6, (.row 1 (lift (((c.dq.getD P default).take ((c.dq.getD P default).length - 1)).map fun n => [iV n]))))], 1⟩ : LS) from le_of [(0, _), (1, _), (2, _), (3, _), (4, _), (5, _), (6, 336)] (by rfl) (by rfl) ⟨⟨_, rfl, .oe⟩, ⟨_, rfl, .ptr rfl⟩, ⟨_, rfl, .ptr rfl⟩, ⟨_, rfl, .ptr rfl⟩, ⟨_, rfl, .ptr rfl⟩, ⟨_, rfl, .ptr rfl⟩, trivial⟩ ⟨⟨_, rfl, _, rfl, .one (.cons (.p (.refl _)) (.cons (.p (.refl _)) (.cons (.p (.refl _)) (.cons (.p (.refl _)) (.cons (.p (.refl _)) (.cons (.p (.refl _)) (.cons (.p (.refl _)) (.nil))))))))⟩, ⟨_, rfl, _, rfl, .one (.cons (.p (.refl _)) (.cons (.p (.refl _)) (.cons (.p (.refl _)) (.cons (.p (.refl _)) (.cons (.p (.refl _)) (.cons (.p (.refl _)) (.cons (.p (.refl _)) (.nil))))))))⟩, ⟨_, rfl, _, rfl, .one (.cons (.p (.refl _)) (.cons (.p (.refl _)) (.cons (.p (.refl _)) (.cons (.p (.refl _)) (.nil)))))⟩, ⟨_, rfl, _, rfl, .one (.cons (.p (.refl _)) (.cons (.p (.refl _)) (.cons (.p (.refl _)) (.cons (.own rfl) (.cons (.p (.refl _)) (.cons (.p (.refl _)) (.cons (.p (.refl _)) (.nil))))))))⟩, ⟨_, rfl, _, rfl, .one (.cons (.p (.refl _)) (.cons (.p (.refl _)) (.cons (.p (.refl _)) (.cons (.p (.refl _)) (.nil)))))⟩, ⟨_, rfl, _, rfl, leB_setO (by rfl)⟩, ⟨_, rfl, _, rfl, .liftE rfl⟩, trivial⟩) ?_
    refine zK [141] (by rw [hC]; rfl) fun k hk => ?_
    simp (maxSteps := 9^9) (disch := (try simp only [lens]); omega) only [zJ, sm, ↓amb, zQ, simprocAttr, fl91_0, sz88, fl112_2, sz3, en88, lE, mx, dx]
    repeat refine an ?_
    refine yW (c40 _ _ _ _) rfl ?_
    simp (maxSteps := 9^9) (disch := (try simp only [lens]); omega) only [zJ, sm, ↓amb, zQ, simprocAttr, fl91_0, sz88, fl112_2, sz3, en88, lE, mx, dx]
    repeat refine an ?_
    refine hk _ ?_; clear hk k
    refine zX rfl (fun hb => ?_) (fun hb => ?_)
    ·try simp only [hbx] at hb
     refine zW (zV [1, 3, 6, 7, 10, 11]) ?_
     simp only [kp, zJ, simprocAttr]
     have hgp := hso.1 hb
     refine zK [141] (by rw [hC]; rfl) fun k hk => ?_
     simp (maxSteps := 9^9) (disch := (try simp only [lens]); omega) only [zJ, sm, ↓amb, zQ, simprocAttr, fl91_0, sz88, fl112_2, sz3, en89, vr88, lE, mx, dx]
     repeat refine an ?_
     refine yW (c29 _ _ _ _) rfl ?_
     simp (maxSteps := 9^9) (disch := (try simp only [lens]); omega) only [zJ, sm, ↓amb, zQ, simprocAttr, fl91_0, sz88, fl112_2, sz3, en89, vr88, lE, mx, dx]
     repeat refine an ?_
     refine hk _ ?_; clear hk k
     refine zY fun k4 h4 => ?_
     refine zW (zV [1, 3, 6, 7, 8, 10, 11, 18, 19, 20, 21]) ?_
     simp only [kp, zJ, simprocAttr]
     refine zK [141] (by rw [hC]; rfl) fun k hk => ?_
     simp (maxSteps := 9^9) (disch := (try simp only [lens]); omega) only [zJ, sm, ↓amb, zQ, simprocAttr, lE, mx, dx]
     repeat refine an ?_
     refine hk _ ?_; clear hk k
     refine zX rfl (fun hb => ?_) (fun hb => ?_)
     ·rw [hgp.1] at hb; exact absurd hb (by simp)
     ·try simp only [hbx] at hb
      refine yJ ?_
      refine h4 _ ?_; clear h4 k4
      refine zW (zV [1, 6, 7, 10, 11, 18, 19, 20]) ?_
      simp only [kp, zJ, simprocAttr]
      refine zK [141] (by rw [hC]; rfl) fun k hk => ?_
      simp (maxSteps := 9^9) (disch := (try simp only [lens]); omega) only [zJ, sm, ↓amb, zQ, simprocAttr, sz88, fl91_0, fl112_3, sz4, lE, mx, dx]
      repeat refine an ?_
      refine hk _ ?_; clear hk k
      refine zW (zV [1, 6, 7, 10, 11, 19, 20]) ?_
      simp only [kp, zJ, simprocAttr]
      refine awp_sd [141] ⟨[0, 1, 0, 0, 8, 0, 56, 120, 0, 0, 768, 2040, 4095, 8191], [6, 7, 12], [11, 13], [(11, 13)], some [5, 6]⟩ (by rw [hC]; rfl) (by kernel_rfl) (by kernel_rfl) fun k hk => ?_
      simp (maxSteps := 9^9) (disch := (try simp only [lens]); omega) only [zJ, sm, ↓amb, zQ, simprocAttr, fl91_1, sz89, el89, sz33, el33, vr3, by3, lE, mx, dx]
      repeat refine an ?_
      refine hk _ ?_; clear hk k
      refine zW (zV [6, 7, 10, 11]) ?_
      simp only [kp, zJ, simprocAttr]
      refine zW (show LE _ (⟨[(6, (.ptr 1 7 0 0)), (7, (.ptr 2 4 0 0)), (10, (.ptr 3 7 0 0)), (11, (.ptr 4 4 0 0))], [(1, (.row 7 [[.p (.seq true []), .p (iV 0), .p (.seq true []), .p (.seq true []), .p (bV false), .p (iV 0), .p (iV 0)]])), (2, (.row 4 [[.p (iV 0), .p (iV 0), .p (iV 0), .p (bV false)]])), (3, (.row 7 [[.p (.seq false ((Pl.partW c.work ((c.dq.getD P default).getD ((c.dq.getD P default).length - 1) 0)).ts.map taskC)), .p (iV (Pl.partW c.work ((c.dq.getD P default).getD ((c.dq.getD P default).length - 1) 0)).grain), .p (.seq false ((Pl.partW c.work ((c.dq.getD P default).getD ((c.dq.getD P default).length - 1) 0)).done.map fun b => [bV b])), .own 5, .p (bV c.over), .p (iV (c.steps + 1)), .p (iV c.idle)]])), (4, (.row 4 [[.p (iV (P : Int)), .p (iV (P : Int)), .p (iV ((c.dq.getD P default).getD ((c.dq.getD P default).length - 1) 0)), .p (bV true)]])), (5, (.row 1 (lift ((c.dq.set P (((c.dq.getD P default).take ((c.dq.getD P default).length - 1)) ++ [Pl.partB c.work ((c.dq.getD P default).getD ((c.dq.getD P default).length - 1) 0), Pl.partA c.work ((c.dq.getD P default).getD ((c.dq.getD P default).length - 1) 0)])).map lV))))], 1⟩ : LS) from le_of [(1, _), (2, _), (3, _), (4, _), (5, 5)] (by rfl) (by rfl) ⟨⟨_, rfl, .ptr rfl⟩, ⟨_, rfl, .ptr rfl⟩, ⟨_, rfl, .ptr rfl⟩, ⟨_, rfl, .ptr rfl⟩, trivial⟩ ⟨⟨_, rfl, _, rfl, .one (.cons (.p (.refl _)) (.cons (.p (.refl _)) (.cons (.p (.refl _)) (.cons (.p (.refl _)) (.cons (.p (.refl _)) (.cons (.p (.refl _)) (.cons (.p (.refl _)) (.nil))))))))⟩, ⟨_, rfl, _, rfl, .one (.cons (.p (.refl _)) (.cons (.p (.refl _)) (.cons (.p (.refl _)) (.cons (.p (.refl _)) (.nil)))))⟩, ⟨_, rfl, _, rfl, .one (.cons (.p (.refl _)) (.cons (.p (.refl _)) (.cons (.p (.refl _)) (.cons (.own rfl) (.cons (.p (.refl _)) (.cons (.p (.refl _)) (.cons (.p (.refl _)) (.nil))))))))⟩, ⟨_, rfl, _, rfl, .one (.cons (.p (.refl _)) (.cons (.p (.refl _)) (.cons (.p (.refl _)) (.cons (.p (.refl _)) (.nil)))))⟩, ⟨_, rfl, _, rfl, leB_outF (k := 312) (by rw [List.map_append]; rfl) (by rfl)⟩, trivial⟩) ?_
      refine awp_sd [141] ⟨[0, 0, 1, 7, 15], [], [2, 3], [], some [1, 2]⟩ (by rw [hC]; rfl) (by kernel_rfl) (by kernel_rfl) fun k hk => ?_
      simp (maxSteps := 9^9) (disch := (try simp only [lens]); omega) only [zJ, sm, ↓amb, zQ, simprocAttr, sz91, sz112, lE, mx, dx]
      repeat refine an ?_
      refine hk _ ?_; clear hk k
      refine yQ ?_
      rw [hgp.2]
      refine retl rfl rfl ⟨retc rfl sz91 ?_, retc rfl sz112 ?_, rett rfl ?_, trivial⟩
      all_goals first | (simp (maxSteps := 9^9) (disch := (try simp only [lens]); omega) only [zJ, sm, ↓amb, zQ, simprocAttr, sz112, sz91, lE, mx, dx]) | skip
      ·exact .agg_cons (.p (LeP.refl _)) (.agg_cons (.p (LeP.refl _)) (.agg_cons (.p (LeP.refl _)) (.agg_cons (.ownE rfl rfl) (.agg_cons (.p (LeP.refl _)) (.agg_cons (.p (LeP.refl _)) (.agg_cons (.p (LeP.refl _)) (.agg_nil)))))))
      ·exact .p (LeP.refl _)
      ·exact .p (LeP.refl _)
    ·try simp only [hbx] at hb
     refine yJ ?_
     refine h3 _ ?_; clear h3 k3
     refine zW (zV [3, 6, 7, 10, 11]) ?_
     simp only [kp, zJ, simprocAttr]
     have hgp := hso.2 hb
     refine zK [141] (by rw [hC]; rfl) fun k hk => ?_
     simp (maxSteps := 9^9) (disch := (try simp only [lens]); omega) only [zJ, sm, ↓amb, zQ, simprocAttr, fl91_0, sz88, fl112_2, sz3, en90, vr88, lE, mx, dx]
     repeat refine an ?_
     refine yW (c31 _ _ _ _) rfl ?_
     simp (maxSteps := 9^9) (disch := (try simp only [lens]); omega) only [zJ, sm, ↓amb, zQ, simprocAttr, fl91_0, sz88, fl112_2, sz3, en90, vr88, lE, mx, dx]
     repeat refine an ?_
     refine hk _ ?_; clear hk k
     refine zY fun k5 h5 => ?_
     refine zW (zV [3, 6, 7, 8, 10, 11, 22, 23, 24]) ?_
     simp only [kp, zJ, simprocAttr]
     refine zK [141] (by rw [hC]; rfl) fun k hk => ?_
     simp (maxSteps := 9^9) (disch := (try simp only [lens]); omega) only [zJ, sm, ↓amb, zQ, simprocAttr, lE, mx, dx]
     repeat refine an ?_
     refine hk _ ?_; clear hk k
     refine zX rfl (fun hb => ?_) (fun hb => ?_)
     ·rw [hgp.1] at hb; exact absurd hb (by simp)
     ·try simp only [hbx] at hb
      refine yJ ?_
      refine h5 _ ?_; clear h5 k5
      refine zW (zV [6, 7, 10, 11, 22, 23]) ?_
      simp only [kp, zJ, simprocAttr]
      refine zK [141] (by rw [hC]; rfl) fun k hk => ?_
      simp (maxSteps := 9^9) (disch := (try simp only [lens]); omega) only [zJ, sm, ↓amb, zQ, simprocAttr, sz88, fl91_0, lE, mx, dx]
      repeat refine an ?_
      refine hk _ ?_; clear hk k
      refine zW (zV [6, 7, 10, 11, 23]) ?_
      simp only [kp, zJ, simprocAttr]
      obtain ⟨ov, hov⟩ : ∃ o, o = c.over := ⟨_, rfl⟩
      rw [← hov]
      refine awp_srg [141] (by rw [hC]; rfl) fun gd hgd k hk => ?_
      have g2 : gd 2 = some 163 := by rw [hgd]; rfl
      clear hgd
      simp (maxSteps := 9^9) (disch := (try simp only [lens]); omega) only [zJ, sm, ↓amb, zQ, simprocAttr, fl91_2, sz4, g2, a07, lE, mx, dx]
      repeat refine an ?_
      refine ⟨fun hg => ?_, fun hg => ?_⟩
      ·try simp only [hbx] at hg
       repeat refine an ?_
       refine hk _ ?_; clear hk k
       refine zW (zV [6, 7, 10, 11]) ?_
       simp only [kp, zJ, simprocAttr]
       refine zW (show LE _ (⟨[(6, (.ptr 1 7 0 0)), (7, (.ptr 2 4 0 0)), (10, (.ptr 3 7 0 0)), (11, (.ptr 4 4 0 0))], [(1, (.row 7 [[.p (.seq true []), .p (iV 0), .p (.seq true []), .p (.seq true []), .p (bV false), .p (iV 0), .p (iV 0)]])), (2, (.row 4 [[.p (iV 0), .p (iV 0), .p (iV 0), .p (bV false)]])), (3, (.row 7 [[.p (.seq false ((Pl.doW c.work ((c.dq.getD P default).getD ((c.dq.getD P default).length - 1) 0)).ts.map taskC)), .p (iV (Pl.doW c.work ((c.dq.getD P default).getD ((c.dq.getD P default).length - 1) 0)).grain), .p (.seq false ((Pl.doW c.work ((c.dq.getD P default).getD ((c.dq.getD P default).length - 1) 0)).done.map fun b => [bV b])), .own 5, .p (bV (false || Pl.doO c.work ((c.dq.getD P default).getD ((c.dq.getD P default).length - 1) 0))), .p (iV (c.steps + 1)), .p (iV c.idle)]])), (4, (.row 4 [[.p (iV (P : Int)), .p (iV (P : Int)), .p (iV ((c.dq.getD P default).getD ((c.dq.getD P default).length - 1) 0)), .p (bV false)]])), (5, (.row 1 (lift ((c.dq.set P ((c.dq.getD P default).take ((c.dq.getD P default).length - 1))).map lV))))], 1⟩ : LS) from le_of [(1, _), (2, _), (3, _), (4, _), (5, 5)] (by rfl) (by rfl) ⟨⟨_, rfl, .ptr rfl⟩, ⟨_, rfl, .ptr rfl⟩, ⟨_, rfl, .ptr rfl⟩, ⟨_, rfl, .ptr rfl⟩, trivial⟩ ⟨⟨_, rfl, _, rfl, .one (.cons (.p (.refl _)) (.cons (.p (.refl _)) (.cons (.p (.refl _)) (.cons (.p (.refl _)) (.cons (.p (.refl _)) (.cons (.p (.refl _)) (.cons (.p (.refl _)) (.nil))))))))⟩, ⟨_, rfl, _, rfl, .one (.cons (.p (.refl _)) (.cons (.p (.refl _)) (.cons (.p (.refl _)) (.cons (.p (.refl _)) (.nil)))))⟩, ⟨_, rfl, _, rfl, .one (.cons (.p (.refl _)) (.cons (.p (.refl _)) (.cons (.p (.refl _)) (.cons (.own rfl) (.cons (.p (.refl _)) (.cons (.p (.refl _)) (.cons (.p (.refl _)) (.nil))))))))⟩, ⟨_, rfl, _, rfl, .one (.cons (.p (.refl _)) (.cons (.p (.refl _)) (.cons (.p (.refl _)) (.cons (.p (.refl _)) (.nil)))))⟩, ⟨_, rfl, _, rfl, leB_outF (k := 6) (by rfl) (by rfl)⟩, trivial⟩) ?_
       refine awp_sd [141] ⟨[0, 0, 1, 7, 15], [], [2, 3], [], some [1, 2]⟩ (by rw [hC]; rfl) (by kernel_rfl) (by kernel_rfl) fun k hk => ?_
       simp (maxSteps := 9^9) (disch := (try simp only [lens]); omega) only [zJ, sm, ↓amb, zQ, simprocAttr, sz91, sz112, lE, mx, dx]
       repeat refine an ?_
       refine hk _ ?_; clear hk k
       refine yQ ?_
       subst hg
       rw [hgp.2, ← hov]
       refine retl rfl rfl ⟨retc rfl sz91 ?_, retc rfl sz112 ?_, rett rfl ?_, trivial⟩
       all_goals first | (simp (maxSteps := 9^9) (disch := (try simp only [lens]); omega) only [zJ, sm, ↓amb, zQ, simprocAttr, sz112, sz91, lE, mx, dx]) | skip
       ·exact .agg_cons (.p (LeP.refl _)) (.agg_cons (.p (LeP.refl _)) (.agg_cons (.p (LeP.refl _)) (.agg_cons (.ownE rfl rfl) (.agg_cons (.p (LeP.refl _)) (.agg_cons (.p (LeP.refl _)) (.agg_cons (.p (LeP.refl _)) (.agg_nil)))))))
       ·exact .p (LeP.refl _)
       ·exact .p (LeP.refl _)
      ·try simp only [hbx] at hg
       repeat refine an ?_
       refine hk _ ?_; clear hk k
       refine zW (zV [6, 7, 10, 11]) ?_
       simp only [kp, zJ, simprocAttr]
       refine zW (show LE _ (⟨[(6, (.ptr 1 7 0 0)), (7, (.ptr 2 4 0 0)), (10, (.ptr 3 7 0 0)), (11, (.ptr 4 4 0 0))], [(1, (.row 7 [[.p (.seq true []), .p (iV 0), .p (.seq true []), .p (.seq true []), .p (bV false), .p (iV 0), .p (iV 0)]])), (2, (.row 4 [[.p (iV 0), .p (iV 0), .p (iV 0), .p (bV false)]])), (3, (.row 7 [[.p (.seq false ((Pl.doW c.work ((c.dq.getD P default).getD ((c.dq.getD P default).length - 1) 0)).ts.map taskC)), .p (iV (Pl.doW c.work ((c.dq.getD P default).getD ((c.dq.getD P default).length - 1) 0)).grain), .p (.seq false ((Pl.doW c.work ((c.dq.getD P default).getD ((c.dq.getD P default).length - 1) 0)).done.map fun b => [bV b])), .own 5, .p (bV (true || Pl.doO c.work ((c.dq.getD P default).getD ((c.dq.getD P default).length - 1) 0))), .p (iV (c.steps + 1)), .p (iV c.idle)]])), (4, (.row 4 [[.p (iV (P : Int)), .p (iV (P : Int)), .p (iV ((c.dq.getD P default).getD ((c.dq.getD P default).length - 1) 0)), .p (bV false)]])), (5, (.row 1 (lift ((c.dq.set P ((c.dq.getD P default).take ((c.dq.getD P default).length - 1))).map lV))))], 1⟩ : LS) from le_of [(1, _), (2, _), (3, _), (4, _), (5, 5)] (by rfl) (by rfl) ⟨⟨_, rfl, .ptr rfl⟩, ⟨_, rfl, .ptr rfl⟩, ⟨_, rfl, .ptr rfl⟩, ⟨_, rfl, .ptr rfl⟩, trivial⟩ ⟨⟨_, rfl, _, rfl, .one (.cons (.p (.refl _)) (.cons (.p (.refl _)) (.cons (.p (.refl _)) (.cons (.p (.refl _)) (.cons (.p (.refl _)) (.cons (.p (.refl _)) (.cons (.p (.refl _)) (.nil))))))))⟩, ⟨_, rfl, _, rfl, .one (.cons (.p (.refl _)) (.cons (.p (.refl _)) (.cons (.p (.refl _)) (.cons (.p (.refl _)) (.nil)))))⟩, ⟨_, rfl, _, rfl, .one (.cons (.p (.refl _)) (.cons (.p (.refl _)) (.cons (.p (.refl _)) (.cons (.own rfl) (.cons (.p (.refl _)) (.cons (.p (.refl _)) (.cons (.p (.refl _)) (.nil))))))))⟩, ⟨_, rfl, _, rfl, .one (.cons (.p (.refl _)) (.cons (.p (.refl _)) (.cons (.p (.refl _)) (.cons (.p (.refl _)) (.nil)))))⟩, ⟨_, rfl, _, rfl, leB_outF (k := 6) (by rfl) (by rfl)⟩, trivial⟩) ?_
       refine awp_sd [141] ⟨[0, 0, 1, 7, 15], [], [2, 3], [], some [1, 2]⟩ (by rw [hC]; rfl) (by kernel_rfl) (by kernel_rfl) fun k hk => ?_
       simp (maxSteps := 9^9) (disch := (try simp only [lens]); omega) only [zJ, sm, ↓amb, zQ, simprocAttr, sz91, sz112, lE, mx, dx]
       repeat refine an ?_
       refine hk _ ?_; clear hk k
       refine yQ ?_
       subst hg
       rw [hgp.2, ← hov]
       refine retl rfl rfl ⟨retc rfl sz91 ?_, retc rfl sz112 ?_, rett rfl ?_, trivial⟩
       all_goals first | (simp (maxSteps := 9^9) (disch := (try simp only [lens]); omega) only [zJ, sm, ↓amb, zQ, simprocAttr, sz112, sz91, lE, mx, dx]) | skip
       ·exact .agg_cons (.p (LeP.refl _)) (.agg_cons (.p (LeP.refl _)) (.agg_cons (.p (LeP.refl _)) (.agg_cons (.ownE rfl rfl) (.agg_cons (.p (LeP.refl _)) (.agg_cons (.p (LeP.refl _)) (.agg_cons (.p (LeP.refl _)) (.agg_nil)))))))
       ·exact .p (LeP.refl _)
       ·exact .p (LeP.refl _)
   ·exact absurd hb (by simp)
end Go.Proofs.Ytbehekmnccoifaa
end
