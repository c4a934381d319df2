/-
  Plain data: what the walks of rounds, of leaves and of units ask.
-/
import Derived.Test.YthelnccjcbnjfaaPA
set_option linter.unusedSimpArgs false
set_option linter.unusedVariables false
namespace Go.Pl
theorem rp_eq {c : Crew} {W r p : Nat} (hW : c.dq.length = W) (hp : p < W) : rp c (r * W + p) = p ∧ rv c (r * W + p) = p + 1 + r := by
  unfold rp rv
  rw [hW, Nat.mul_comm, Nat.mul_add_mod, Nat.mod_eq_of_lt hp, Nat.mul_add_div (by omega), Nat.div_eq_of_lt hp, Nat.add_zero]
  exact ⟨rfl, rfl⟩
theorem rounds_over {f k : Nat} {c : Crew} {ev : List Event} (h : c.over = true) : rounds f k c ev = (c, ev, 0) := by
  cases f with
  | zero => rfl
  | succ f => simp only [rounds]; rw [if_pos h]
theorem rounds_on {f k W r p : Nat} {c : Crew} {ev : List Event} (hW : c.dq.length = W) (hp : p < W) (hk : k = r * W + p) (ho : ¬ c.over = true) (hh : ¬ held c.dq = 0) (h0 : (step c p (p + 1 + r)).2.2 = 0) (hf : k < f) :
    rounds (f - k) k c ev = rounds (f - (k + 1)) (k + 1) (step c p (p + 1 + r)).1 (ev ++ [(step c p (p + 1 + r)).2.1]) := by
  obtain ⟨e1, e2⟩ := rp_eq (r := r) hW hp
  rw [← hk] at e1 e2
  rw [show f - k = (f - (k + 1)) + 1 by omega]
  simp only [rounds]
  rw [if_neg ho, if_neg hh, e1, e2, if_neg (by simpa using h0)]
theorem Run.most_on {n g : Int} {c : Crew} {ev : List Event} (h : Run n g c ev) (hs : ev.length < 100000) {k W r p : Nat} (hW : c.dq.length = W) (hp : p < W) (hk : k = r * W + p) (ho : ¬ c.over = true) :
    most n g (k + 1) (Pl.step c p (p + 1 + r)).1 (ev ++ [(Pl.step c p (p + 1 + r)).2.1]) + 1 ≤ most n g k c ev := by
  obtain ⟨e1, e2⟩ := rp_eq (r := r) hW hp
  rw [← hk] at e1 e2
  have := h.most_step hs k ho
  rw [e1, e2] at this; exact this
theorem Run.most_0 {n g : Int} {c : Crew} {ev : List Event} (h : Run n g c ev) {k r : Nat} (hk : k = r * c.dq.length) : 0 ≤ most n g k c ev := by
  by_cases ho : c.over = true
  · have h3 := h.rem.2.2.1 ho
    unfold most
    rw [if_pos (.inr ho), h3, hk, Nat.mul_mod_left]; simp
  · have := (h.most_pos k ho).1; omega
theorem picked_ok {n g w : Int} {P : List (Int × Int)} (hc : cnt n g) (hw : 1 ≤ w ∧ w ≤ 8) (hP : P.length ≤ 70000) :
    (crewBegin n g w).2 = 0 ∧ Run n g (crewBegin n g w).1 [] ∧ (picked P (crewBegin n g w).1 []).2.2 = 0 ∧ Run n g (picked P (crewBegin n g w).1 []).1 (picked P (crewBegin n g w).1 []).2.1 ∧ (picked P (crewBegin n g w).1 []).2.1.length ≤ P.length ∧
    most n g 0 (picked P (crewBegin n g w).1 []).1 (picked P (crewBegin n g w).1 []).2.1 ≤ 16010 ∧ whole n g w P = rounds 20000 0 (picked P (crewBegin n g w).1 []).1 (picked P (crewBegin n g w).1 []).2.1 := by
  obtain ⟨b0, b1, b2, b3, b4, b5⟩ := CInv.begins hc hw
  obtain ⟨p1, p2, p3, p4⟩ := picked_end P _ _ (Run.begins hc hw) (by simp; omega)
  have hr0 := p2.rem
  rw [b4] at p4
  have hT : toCome n g (picked P (crewBegin n g w).1 []).2.1 ≤ 1999 := hr0.2.1
  have e2 : (((picked P (crewBegin n g w).1 []).1.dq.length : Nat) : Int) = w := by rw [p4]; omega
  have hTw : toCome n g (picked P (crewBegin n g w).1 []).2.1 * w ≤ 1999 * 8 := mul_up hT hw.2 (by omega) (by omega)
  simp only [List.length_nil] at p3
  refine ⟨b0, Run.begins hc hw, p1, p2, by omega, ?_, ?_⟩
  · unfold most
    rw [Nat.zero_mod, e2]
    split <;> omega
  · unfold whole; rw [if_neg (by simpa using b0)]
theorem leaves_len (ts : List Task) (ev : List Event) : (leaves' ts ev).length ≤ ev.length := by
  induction ev with
  | nil => exact Nat.le_refl _
  | cons e l ih => simp only [leaves']; split <;> simp <;> omega
theorem leaves_mem {ts : List Task} {s : Int × Int} : ∀ {ev : List Event}, s ∈ leaves' ts ev → ∃ t : Nat, t < ts.length ∧ s = ((ts.getD t default).low, (ts.getD t default).high)
  | e :: l, h => by
    simp only [leaves'] at h
    split at h
    · rename_i hc
      rcases List.mem_cons.1 h with q | q
      · unfold isLeaf at hc
        simp only [Bool.and_eq_true, decide_eq_true_eq] at hc
        exact ⟨e.task.toNat, by omega, q⟩
      · exact leaves_mem q
    · exact leaves_mem h
theorem Run.leaf {n g : Int} {c : Crew} {ev : List Event} (h : Run n g c ev) {s : Int × Int} (hs : s ∈ leaves' c.work.ts ev) : 0 ≤ s.1 ∧ s.1 < s.2 ∧ s.2 ≤ n := by
  obtain ⟨un, hci⟩ := h.ci
  obtain ⟨t, ht, rfl⟩ := leaves_mem hs
  have h1 := hci.inv.ok t ht
  have h2 := hci.inv.dl
  unfold okT at h1
  dsimp only; omega
theorem unitsOf_take_len (l : List (Int × Int)) (i : Nat) : (unitsOf (l.take i)).length ≤ (unitsOf l).length := by
  have : unitsOf l = unitsOf (l.take i) ++ unitsOf (l.drop i) := by rw [← unitsOf_app, List.take_append_drop]
  rw [this, List.length_append]; omega
/-- the spans that were done -/
def ordL (n : Int) (p : Plan) : List (Int × Int) := leaves' (ordW n p).1.work.ts (ordW n p).2.1
theorem ordL_ok {n : Int} {p : Plan} (h : ordOk n p) (h0 : n ≠ 0) : ordU n p = unitsOf (ordL n p) ∧ ordS n p = (ordW n p).2.1.length ∧ (∀ s, s ∈ ordL n p → 0 ≤ s.1 ∧ s.1 < s.2 ∧ s.2 ≤ n) ∧ ((unitsOf (ordL n p)).length : Int) = n ∧ (ordL n p).length ≤ 100000 ∧ (ordW n p).2.1.length ≤ 100000 ∧ (ordW n p).2.2 = 0 := by
  obtain ⟨h1, h2, h3⟩ := ord_cnt h h0
  obtain ⟨_, _, e, r, o, l1, _⟩ := whole_ok (P := p.picks) h1 h2 (by omega)
  have hu := (ordU_ok h).2.2
  have hT := (cntT_pos h1).2
  have h1' := h1
  unfold cnt at h1'
  have hTw : cntT n p.grain * p.workers ≤ 1999 * 8 := mul_up (by omega) (by omega) (by omega) (by omega)
  have e1 : ordU n p = unitsOf (ordL n p) := by unfold ordU ordL; rw [if_pos ⟨h, h0⟩]
  have hl := leaves_len (ordW n p).1.work.ts (ordW n p).2.1
  have hW : ((ordW n p).2.1.length : Int) ≤ p.picks.length + cntT n p.grain * p.workers := l1
  refine ⟨e1, by unfold ordS; rw [if_pos ⟨h, h0⟩], fun s hs => r.leaf hs, by rw [← e1]; exact hu, by unfold ordL; omega, by omega, e⟩
theorem ord_bd {n : Int} {p : Plan} (h : ordOk n p) (h0 : n ≠ 0) : bdOk n p.grain p.workers ∧ p.picks.length ≤ 4000 := by
  obtain ⟨h1, h2, h3⟩ := ord_cnt h h0
  exact ⟨⟨h1, h2⟩, h3⟩
theorem upto_take_len (l : List (Int × Int)) (i k : Nat) (h : i < l.length) (hk : (k : Int) < (l.getD i default).2 - (l.getD i default).1) : (unitsOf (l.take i) ++ upto (l.getD i default).1 ((l.getD i default).1 + k)).length < (unitsOf l).length := by
  have h1 := unitsOf_take_len l (i + 1)
  rw [unitsOf_take l i h, List.length_append, upto_len] at h1
  rw [List.length_append, upto_len]; omega
theorem ordE0 {n : Int} {p : Plan} (h : ordOk n p) : ordE n p = 0 := by unfold ordE; rw [if_pos h]
theorem ord_no {n : Int} {p : Plan} (h : ¬ ordOk n p) : ordE n p = 1 ∧ ordU n p = [] ∧ ordS n p = 0 := by
  unfold ordE ordU ordS
  rw [if_neg h, if_neg (fun q => h q.1), if_neg (fun q => h q.1)]; exact ⟨rfl, rfl, rfl⟩
theorem ord_zero (p : Plan) : ordU 0 p = [] ∧ ordS 0 p = 0 := by
  unfold ordU ordS
  rw [if_neg (fun q => q.2 rfl), if_neg (fun q => q.2 rfl)]; exact ⟨rfl, rfl⟩
end Go.Pl
namespace Go.Pl
theorem isLeaf_no {ts : List Task} {e : Event} (h : e.parted = true ∨ e.task < 0 ∨ (ts.length : Int) ≤ e.task) : isLeaf ts e = false := by
  unfold isLeaf
  rcases h with q | q | q
  · rw [q]; rfl
  · rw [decide_eq_false (show ¬ 0 ≤ e.task by omega)]; simp
  · rw [decide_eq_false (show ¬ e.task < ts.length by omega)]; simp
theorem isLeaf_yes {ts : List Task} {e : Event} (h : ¬ (e.parted = true ∨ e.task < 0 ∨ (ts.length : Int) ≤ e.task)) : isLeaf ts e = true ∧ 0 ≤ e.task ∧ e.task < ts.length := by
  have h1 : e.parted = false := by
    cases hp : e.parted with
    | false => rfl
    | true => exact absurd (.inl hp) h
  have h2 : 0 ≤ e.task := Int.not_lt.1 fun q => h (.inr (.inl q))
  have h3 : e.task < ts.length := Int.not_le.1 fun q => h (.inr (.inr q))
  refine ⟨?_, h2, h3⟩
  unfold isLeaf
  rw [h1, decide_eq_true h2, decide_eq_true h3]; rfl
end Go.Pl
namespace Go.Pl
/-- a phase: between how many steps -/
theorem ord_steps {n : Int} {p : Plan} (h : ordOk n p) : leB n p ≤ ordS n p ∧ ordS n p ≤ phB n p ∧ (p.picks.length = 0 → p.workers = 1 → ordS n p = leB n p) ∧ min n 1 ≤ leB n p ∧ leB n p ≤ 2 * n ∧ ordS n p ≤ 20000 := by
  by_cases h0 : n = 0
  · subst h0
    have h1 : leB 0 p = 0 := if_neg (fun q => absurd q.1 (by decide))
    have h2 : phB 0 p = 0 := if_neg (fun q => absurd q.1 (by decide))
    rw [h1, h2, (ord_zero p).2]
    exact ⟨by omega, by omega, fun _ _ => rfl, by omega, by omega, by omega⟩
  · obtain ⟨h1, h2, h3⟩ := ord_cnt h h0
    obtain ⟨_, _, e, r, o, l1, l2⟩ := whole_ok (P := p.picks) h1 h2 (by omega)
    have hph : phOk n p := by
      have := h1; unfold cnt at this
      exact ⟨by omega, by omega, h.2.2⟩
    have e1 : leB n p = cntT n p.grain := if_pos hph
    have e2 : phB n p = p.picks.length + p.workers * (cntT n p.grain + 1) := if_pos hph
    have e3 : ordS n p = (whole n p.grain p.workers p.picks).2.1.length := by unfold ordS ordW; rw [if_pos ⟨h, h0⟩]
    have e4 : p.workers * (cntT n p.grain + 1) = cntT n p.grain * p.workers + p.workers := by rw [Int.mul_add, Int.mul_one, Int.mul_comm]
    have h5 := cntT_pos h1
    have h6 := (phB_nn n p).2
    have hn : 0 ≤ n := h.1
    rw [e1, e3]
    refine ⟨l2, by rw [e2, e4]; omega, fun a b => ?_, by omega, by omega, by rw [e2, e4] at h6; omega⟩
    have l3 : cntT n p.grain * p.workers = cntT n p.grain := by rw [b, Int.mul_one]
    omega
theorem ph_bad {n : Int} {p : Plan} (h : ¬ ordOk n p) (hn : 0 ≤ n ∧ n ≤ 1000) : phB n p = 0 ∧ leB n p = 0 := by
  have hp : ¬ planRight p := fun q => h ⟨hn.1, hn.2, q⟩
  exact ⟨if_neg (fun q => hp q.2.2), if_neg (fun q => hp q.2.2)⟩
end Go.Pl
