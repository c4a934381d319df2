/-
  Plain data: what the document's crews reckon with.
-/
import Derived.Test.YthelnccjcbnjfaaPB
set_option linter.unusedSimpArgs false
set_option linter.unusedVariables false
namespace Go.Pl
open Go.Am
theorem cut_eq {n w : Int} (h : 0 < w) : (n.tmod w < 0 → n.tmod w + w = n % w) ∧ (¬ n.tmod w < 0 → n.tmod w = n % w) := by
  obtain ⟨h1, h2⟩ := tmod_bound n h
  have h3 := Int.mul_tdiv_add_tmod n w
  constructor
  · intro h0
    have e : n = (n.tmod w + w) + w * (n.tdiv w - 1) := by rw [Int.mul_sub]; omega
    conv => rhs; rw [e]
    rw [Int.add_mul_emod_self_left, Int.emod_eq_of_lt (by omega) (by omega)]
  · intro h0
    have e : n = n.tmod w + w * n.tdiv w := by omega
    conv => rhs; rw [e]
    rw [Int.add_mul_emod_self_left, Int.emod_eq_of_lt (by omega) (by omega)]
theorem num_eq (d : List (List Int)) (n : Int) (h : 1 ≤ d.length) : num d n = n % (d.length : Int) := by
  have hw : (0 : Int) < (d.length : Int) := by omega
  obtain ⟨h1, h2⟩ := tmod_bound n hw
  obtain ⟨c1, c2⟩ := cut_eq (n := n) hw
  unfold num
  by_cases h0 : n.tmod (d.length : Int) < 0
  · rw [← c1 h0, Int.emod_eq_of_lt (by omega) (by omega)]
  · rw [← c2 h0, Int.add_emod_right, Int.emod_eq_of_lt (by omega) (by omega)]
theorem metL_at {n : Nat} {l : List Int} {t : Int} (h0 : 0 ≤ t) (h1 : t < n) : (metL n l).getD t.toNat default = decide (t ∈ l) := by
  unfold metL
  rw [List.getD_eq_getElem?_getD, List.getElem?_map, List.getElem?_range (by omega)]
  simp [Int.toNat_of_nonneg h0]
theorem metL_in {n : Nat} {l : List Int} {t : Int} (h0 : 0 ≤ t) (h1 : t < n) (h : (metL n l).getD t.toNat default = true) : t ∈ l := by
  rw [metL_at h0 h1] at h; exact of_decide_eq_true h
theorem metL_out {n : Nat} {l : List Int} {t : Int} (h0 : 0 ≤ t) (h1 : t < n) (h : (metL n l).getD t.toNat default = false) : t ∉ l := by
  rw [metL_at h0 h1] at h; exact of_decide_eq_false h
/-- what the document looks at, of a task in a deque -/
def heldOk (w : Work) (l : List Int) (t : Int) : Prop := 0 ≤ t ∧ t < w.ts.length ∧ t ∉ l ∧ (w.ts.getD t.toNat default).wait = 0 ∧ (great w t ∨ ¬ w.done.getD (w.ts.getD t.toNat default).low.toNat default = true)
instance (w : Work) (l : List Int) (t : Int) : Decidable (heldOk w l t) := by unfold heldOk; infer_instance
theorem heldOk_iff (w : Work) (l : List Int) (t : Int) : heldOk w l t ↔ t ∉ l ∧ holds w t := by
  unfold heldOk holds task
  simp only [Bool.not_eq_true]
  exact ⟨fun ⟨a, b, c, d⟩ => ⟨c, a, b, d⟩, fun ⟨c, a, b, d⟩ => ⟨a, b, c, d⟩⟩
theorem held_last {w : Work} {l : List Int} {t : Int} (h0 : 0 ≤ t) (h1 : t < w.ts.length) (h2 : t ∉ l) (h3 : (w.ts.getD t.toNat default).wait = 0) (h4 : ¬ great w t) :
    w.done.getD (w.ts.getD t.toNat default).low.toNat default = decide (¬ heldOk w l t) := by
  refine Bool.eq_iff_iff.mpr ?_
  simp only [decide_eq_true_eq]
  exact ⟨fun h q => q.2.2.2.2.elim (fun z => h4 z) (fun z => z h), fun h => Decidable.byContradiction fun z => h ⟨h0, h1, h2, h3, .inr z⟩⟩
theorem metOk_more {w : Work} {l : List Int} {t : Int} (h : metOk w l) (h2 : heldOk w l t) : metOk w (l ++ [t]) := by
  obtain ⟨h3, h4⟩ := (heldOk_iff w l t).1 h2
  refine ⟨?_, fun u hu => ?_⟩
  · rw [List.nodup_append]
    refine ⟨h.1, by simp, fun a ha b hb => ?_⟩
    simp at hb; subst hb
    intro e; subst e; exact h3 ha
  · rcases List.mem_append.1 hu with q | q
    · exact h.2 u q
    · simp at q; subst q; exact h4
theorem crewRight_not {c : Crew} {l r : List Int} {t : Int} (h2 : ¬ heldOk c.work l t) (e : c.dq.flatten = (l ++ [t]) ++ r) : ¬ crewRight c := by
  intro ⟨_, _, _, _, _, hn, hh⟩
  refine h2 ((heldOk_iff _ _ _).2 ⟨fun hm => ?_, hh t (by rw [e]; simp)⟩)
  rw [e] at hn
  have h3 := (List.nodup_append.1 (List.nodup_append.1 hn).1).2.2 t hm t (by simp)
  exact h3 rfl
end Go.Pl
namespace Go.Pl
open Go.Am
theorem step_at {c : Crew} {p v : Int} (h0 : (step c p v).2.2 = 0) : ∃ P V : Nat, p % (c.dq.length : Int) = (P : Int) ∧ v % (c.dq.length : Int) = (V : Int) ∧ (num c.dq p).toNat = P ∧ (num c.dq v).toNat = V ∧ num c.dq p = (P : Int) ∧ P < c.dq.length ∧ V < c.dq.length ∧ crewRight c ∧ ¬ c.steps = 100000 := by
  obtain ⟨hr, hst, _⟩ := step_cases c p v h0
  have n1 := num_bound c.dq p hr.2.1
  have n2 := num_bound c.dq v hr.2.1
  have e1 := num_eq c.dq p hr.2.1
  have e2 := num_eq c.dq v hr.2.1
  exact ⟨(num c.dq p).toNat, (num c.dq v).toNat, by omega, by omega, rfl, rfl, by omega, by omega, by omega, hr, hst⟩
/-- a step at one's own task -/
theorem step_own {c : Crew} {p v : Int} {P V : Nat} (h0 : (step c p v).2.2 = 0) (hP : (num c.dq p).toNat = P) (hN : num c.dq p = (P : Int)) (hV : (num c.dq v).toNat = V) (hp : 0 < (c.dq.getD P default).length) {t : Int} (ht : t = (c.dq.getD P default).getD ((c.dq.getD P default).length - 1) 0) :
    (great c.work t → partE c.work t = 0 ∧ step c p v = (⟨partW c.work t, c.dq.set P ((c.dq.getD P default).take ((c.dq.getD P default).length - 1) ++ [partB c.work t, partA c.work t]), c.over, c.steps + 1, c.idle⟩, ⟨P, P, t, true⟩, 0)) ∧
    (¬ great c.work t → doE c.work t = 0 ∧ step c p v = (⟨doW c.work t, c.dq.set P ((c.dq.getD P default).take ((c.dq.getD P default).length - 1)), c.over || doO c.work t, c.steps + 1, c.idle⟩, ⟨P, P, t, false⟩, 0)) := by
  obtain ⟨hr, hst, hc⟩ := step_cases c p v h0
  have n1 := num_bound c.dq p hr.2.1
  have hPl : P < c.dq.length := by omega
  have fb : foundB c.dq P V = true := decide_eq_true (.inl hp)
  have fe : evF c.dq p v = ⟨P, P, t, false⟩ := by
    unfold evF evN foundE; rw [hP, if_pos hp, hN, ← ht]
  have fd : dqF c.dq p v = c.dq.set P ((c.dq.getD P default).take ((c.dq.getD P default).length - 1)) := by
    unfold dqF foundD; rw [hP, if_pos hp]
  rw [hP, hV, fb, fe, fd] at hc
  rcases hc with ⟨_, h1, h2⟩ | ⟨h1, _⟩
  · dsimp only at h1 h2
    constructor
    · intro hg
      have hpe : partE c.work t = 0 := by rw [goE, if_pos hg] at h1; exact h1
      obtain ⟨e1, e2, e3, e4, e5⟩ := go_part (t := t) (d := c.dq.set P ((c.dq.getD P default).take ((c.dq.getD P default).length - 1))) (p := P) (o := c.over) (e := (⟨P, P, t, false⟩ : Event)) rfl hg hpe
      rw [e2, e3, e4, e5] at h2
      refine ⟨hpe, h2.trans ?_⟩
      rw [List.set_set, show (c.dq.set P ((c.dq.getD P default).take ((c.dq.getD P default).length - 1))).getD P default = (c.dq.getD P default).take ((c.dq.getD P default).length - 1) from getD_set _ _ _ _ hPl]
    · intro hg
      obtain ⟨e1, e2, e3, e4, e5⟩ := go_do (t := t) (d := c.dq.set P ((c.dq.getD P default).take ((c.dq.getD P default).length - 1))) (p := P) (o := c.over) (e := (⟨P, P, t, false⟩ : Event)) rfl hg
      rw [e1] at h1
      rw [e2, e3, e4, e5] at h2
      exact ⟨h1, h2⟩
  · cases h1
/-- a step at another's task -/
theorem step_steal {c : Crew} {p v : Int} {P V : Nat} (h0 : (step c p v).2.2 = 0) (hP : (num c.dq p).toNat = P) (hN : num c.dq p = (P : Int)) (hV : (num c.dq v).toNat = V) (hp : ¬ 0 < (c.dq.getD P default).length) (hv : 0 < (c.dq.getD V default).length) {t : Int} (ht : t = (c.dq.getD V default).getD 0 0) :
    (great c.work t → partE c.work t = 0 ∧ step c p v = (⟨partW c.work t, (c.dq.set V ((c.dq.getD V default).drop 1)).set P [partB c.work t, partA c.work t], c.over, c.steps + 1, c.idle⟩, ⟨P, V, t, true⟩, 0)) ∧
    (¬ great c.work t → doE c.work t = 0 ∧ step c p v = (⟨doW c.work t, c.dq.set V ((c.dq.getD V default).drop 1), c.over || doO c.work t, c.steps + 1, c.idle⟩, ⟨P, V, t, false⟩, 0)) := by
  obtain ⟨hr, hst, hc⟩ := step_cases c p v h0
  have n1 := num_bound c.dq p hr.2.1
  have n2 := num_bound c.dq v hr.2.1
  have hPl : P < c.dq.length := by omega
  have hne : V ≠ P := fun e => hp (e ▸ hv)
  have fb : foundB c.dq P V = true := decide_eq_true (.inr hv)
  have fe : evF c.dq p v = ⟨P, V, t, false⟩ := by
    unfold evF evN foundE; rw [hP, hV, if_neg hp, if_pos hv, hN, ← ht]
  have fd : dqF c.dq p v = c.dq.set V ((c.dq.getD V default).drop 1) := by
    unfold dqF foundD; rw [hP, hV, if_neg hp, if_pos hv]
  rw [hP, hV, fb, fe, fd] at hc
  rcases hc with ⟨_, h1, h2⟩ | ⟨h1, _⟩
  · dsimp only at h1 h2
    constructor
    · intro hg
      have hpe : partE c.work t = 0 := by rw [goE, if_pos hg] at h1; exact h1
      obtain ⟨e1, e2, e3, e4, e5⟩ := go_part (t := t) (d := c.dq.set V ((c.dq.getD V default).drop 1)) (p := P) (o := c.over) (e := (⟨P, V, t, false⟩ : Event)) rfl hg hpe
      rw [e2, e3, e4, e5] at h2
      refine ⟨hpe, h2.trans ?_⟩
      have hnil : (c.dq.set V ((c.dq.getD V default).drop 1)).getD P default = [] := by
        rw [List.getD_eq_getElem?_getD, List.getElem?_set_ne hne, ← List.getD_eq_getElem?_getD]
        exact List.eq_nil_of_length_eq_zero (by omega)
      rw [hnil, List.nil_append]
    · intro hg
      obtain ⟨e1, e2, e3, e4, e5⟩ := go_do (t := t) (d := c.dq.set V ((c.dq.getD V default).drop 1)) (p := P) (o := c.over) (e := (⟨P, V, t, false⟩ : Event)) rfl hg
      rw [e1] at h1
      rw [e2, e3, e4, e5] at h2
      exact ⟨h1, h2⟩
  · cases h1
/-- an idle step -/
theorem step_idle' {c : Crew} {p v : Int} {P V : Nat} (h0 : (step c p v).2.2 = 0) (hP : (num c.dq p).toNat = P) (hN : num c.dq p = (P : Int)) (hV : (num c.dq v).toNat = V) (hp : ¬ 0 < (c.dq.getD P default).length) (hv : ¬ 0 < (c.dq.getD V default).length) :
    ¬ c.idle = 100000 ∧ step c p v = (⟨c.work, c.dq, c.over, c.steps + 1, c.idle + 1⟩, ⟨P, -1, -1, false⟩, 0) := by
  obtain ⟨hr, hst, hc⟩ := step_cases c p v h0
  have fb : foundB c.dq P V = false := decide_eq_false (fun q => q.elim hp hv)
  rw [hP, hV, fb] at hc
  rcases hc with ⟨h1, _⟩ | ⟨_, h1, h2⟩
  · cases h1
  · refine ⟨h1, h2.trans ?_⟩
    unfold evN; rw [hN]
end Go.Pl
namespace Go.Pl
theorem rounds_pre : ∀ (f k : Nat) (c : Crew) (ev : List Event), ∃ m, (rounds f k c ev).2.1 = ev ++ m
  | 0, k, c, ev => ⟨[], by simp [rounds]⟩
  | f + 1, k, c, ev => by
    simp only [rounds]
    split
    · exact ⟨[], by simp⟩
    · split
      · exact ⟨[], by simp⟩
      · split
        · exact ⟨[], by simp⟩
        · obtain ⟨m, hm⟩ := rounds_pre f (k + 1) (step c (rp c k) (rv c k)).1 (ev ++ [(step c (rp c k) (rv c k)).2.1])
          exact ⟨[(step c (rp c k) (rv c k)).2.1] ++ m, by rw [hm, List.append_assoc]⟩
theorem rounds_rest (f k : Nat) (c : Crew) (ev : List Event) : ev ++ (rounds f k c ev).2.1.drop ev.length = (rounds f k c ev).2.1 := by
  obtain ⟨m, hm⟩ := rounds_pre f k c ev
  rw [hm, List.drop_left]
end Go.Pl
