/-
  Plain data: work from the beginning to the end, whoever works.
-/
import Derived.Test.YthelnccjcbnjfaaP5
set_option linter.unusedSimpArgs false
set_option linter.unusedVariables false
namespace Go.Pl
/-- what is picked, as long as the work isn't over -/
def picked : List (Int × Int) → Crew → List Event → Crew × List Event × Int
  | [], c, ev => (c, ev, 0)
  | q :: r, c, ev => if c.over = true then (c, ev, 0) else if (step c q.1 q.2).2.2 ≠ 0 then (c, ev, (step c q.1 q.2).2.2) else picked r (step c q.1 q.2).1 (ev ++ [(step c q.1 q.2).2.1])
@[reducible] def rp (c : Crew) (k : Nat) : Int := (k % c.dq.length : Nat)
@[reducible] def rv (c : Crew) (k : Nat) : Int := (k % c.dq.length : Nat) + 1 + (k / c.dq.length : Nat)
/-- round by round, from the k-th step on -/
def rounds : Nat → Nat → Crew → List Event → Crew × List Event × Int
  | 0, k, c, ev => (c, ev, 0)
  | f + 1, k, c, ev => if c.over = true then (c, ev, 0) else if held c.dq = 0 then (c, ev, 4) else
      if (step c (rp c k) (rv c k)).2.2 ≠ 0 then (c, ev, (step c (rp c k) (rv c k)).2.2) else rounds f (k + 1) (step c (rp c k) (rv c k)).1 (ev ++ [(step c (rp c k) (rv c k)).2.1])
structure Run (n g : Int) (c : Crew) (ev : List Event) : Prop where
  ci : ∃ units, CInv n g c units
  ti : TInv c ev
  gd : good c
  id : c.idle ≤ c.steps
  st : c.steps = ev.length
  ui : UInv c ev
theorem Run.begins {n g p : Int} (hc : cnt n g) (hp : 1 ≤ p ∧ p ≤ 8) : Run n g (crewBegin n g p).1 [] := by
  obtain ⟨b0, b1, b2, _, _, b5⟩ := CInv.begins hc hp
  exact ⟨⟨0, b5⟩, TInv.begins hc hp, begin_good, by omega, b1, UInv.begins hc hp⟩
theorem Run.step {n g : Int} {c : Crew} {ev : List Event} (h : Run n g c ev) (hs : ev.length < 100000) (p v : Int) :
    (step c p v).2.2 = 0 ∧ Run n g (step c p v).1 (ev ++ [(step c p v).2.1]) := by
  obtain ⟨un, hci⟩ := h.ci
  have hst := h.st
  have hid := h.id
  obtain ⟨s1, s2⟩ := hci.s_ok (p := p) (v := v) (by omega) (by omega)
  obtain ⟨u', hI', hid'⟩ := hci.next (p := p) (v := v) (by omega) (by omega)
  exact ⟨s1, ⟨⟨u', hI'⟩, h.ti.step hci (by omega) (by omega) p v, step_good h.gd s1, by omega, by rw [s2, hst]; simp, h.ui.step hci (by omega) (by omega) p v⟩⟩
theorem Run.dqlen {n g : Int} {c : Crew} {ev : List Event} (h : Run n g c ev) : 1 ≤ c.dq.length ∧ c.dq.length ≤ 8 := by
  obtain ⟨un, hci⟩ := h.ci; exact ⟨hci.len1, hci.len8⟩
theorem step_dqlen (c : Crew) (p v : Int) : (step c p v).1.dq.length = c.dq.length := by
  unfold step
  split
  · rfl
  · split
    · rfl
    · split
      · split
        · rfl
        · dsimp only
          unfold goD
          split
          · rw [List.length_set, foundD_len]
          · rw [foundD_len]
      · split <;> rfl
theorem Run.right {n g : Int} {c : Crew} {ev : List Event} (h : Run n g c ev) (hs : ev.length ≤ 100000) : crewRight c := by
  obtain ⟨un, hci⟩ := h.ci
  have hst := h.st
  have hid := h.id
  exact hci.right (by omega) (by omega)
theorem Run.held {n g : Int} {c : Crew} {ev : List Event} (h : Run n g c ev) : (c.over = true ↔ held c.dq = 0) ∧ held c.dq ≤ 1000000000 := by
  obtain ⟨un, hci⟩ := h.ci
  refine ⟨?_, (hci.held_small h.gd).1⟩
  rw [hci.ov, held_flat, List.length_eq_zero_iff]
/-- how many steps are to come that do something -/
def toCome (n g : Int) (ev : List Event) : Int := cntT n g - (gone ev).length
theorem Run.rem {n g : Int} {c : Crew} {ev : List Event} (h : Run n g c ev) : Pl.held c.dq ≤ toCome n g ev ∧ toCome n g ev ≤ 1999 ∧ (c.over = true ↔ toCome n g ev = 0) := by
  obtain ⟨un, hci⟩ := h.ci
  have h1 := h.ti.len
  have h2 := hci.inv.len
  obtain ⟨h3, h4⟩ := tasks_end hci h.ti
  unfold Pl.toCome
  exact ⟨by omega, by omega, by rw [h4]; omega⟩
/-- some deque from a worker on holds a task -/
def someB (d : List (List Int)) (p : Nat) : Bool := (d.drop p).any fun l => decide (0 < l.length)
theorem someB_iff (d : List (List Int)) (p : Nat) : someB d p = true ↔ ∃ j, p ≤ j ∧ j < d.length ∧ 0 < (d.getD j default).length := by
  unfold someB
  rw [List.any_eq_true]
  constructor
  · rintro ⟨l, hl, h⟩
    obtain ⟨i, hi, e⟩ := List.getElem_of_mem hl
    rw [List.length_drop] at hi
    rw [List.getElem_drop] at e
    exact ⟨p + i, by omega, by omega, by rw [List.getD_eq_getElem?_getD, List.getElem?_eq_getElem (by omega), Option.getD_some, e]; simpa using h⟩
  · rintro ⟨j, j1, j2, j3⟩
    rw [List.getD_eq_getElem?_getD, List.getElem?_eq_getElem j2, Option.getD_some] at j3
    refine ⟨d[j], ?_, by simpa using j3⟩
    have : (d.drop p)[j - p]? = some d[j] := by rw [List.getElem?_drop, show p + (j - p) = j by omega, List.getElem?_eq_getElem j2]
    exact List.mem_of_getElem? this
def most (n g : Int) (k : Nat) (c : Crew) (ev : List Event) : Int :=
  if someB c.dq (k % c.dq.length) = true ∨ c.over = true then toCome n g ev * c.dq.length - (k % c.dq.length : Nat) else toCome n g ev * c.dq.length + c.dq.length - (k % c.dq.length : Nat)
theorem some0 {c : Crew} (h : 0 < held c.dq) : someB c.dq 0 = true := by
  rw [someB_iff]
  rw [held_flat] at h
  have hne : c.dq.flatten ≠ [] := fun e => by rw [e] at h; cases h
  obtain ⟨x, hx⟩ := List.exists_mem_of_ne_nil _ hne
  obtain ⟨l, hl, hxl⟩ := List.mem_flatten.1 hx
  obtain ⟨j, hj, e⟩ := List.getElem_of_mem hl
  refine ⟨j, Nat.zero_le _, hj, ?_⟩
  rw [List.getD_eq_getElem?_getD, List.getElem?_eq_getElem hj, Option.getD_some, e]
  exact List.length_pos_of_mem hxl
theorem num_of (d : List (List Int)) (p : Nat) (h : p < d.length) : num d p = p := by
  unfold num
  rw [Int.tmod_eq_of_lt (by omega) (by omega), Int.add_emod_right, Int.emod_eq_of_lt (by omega) (by omega)]
theorem toCome_snoc (n g : Int) (ev : List Event) (e : Event) : toCome n g (ev ++ [e]) = toCome n g ev - (if e.task < 0 then 0 else 1) := by
  unfold toCome
  rw [gone_app]
  simp only [gone]
  split <;> simp <;> omega
theorem succ_mod (k : Nat) {w : Nat} (hw : 0 < w) : (k + 1) % w = if k % w + 1 = w then 0 else k % w + 1 := by
  have h1 := Nat.div_add_mod k w
  have h2 := Nat.mod_lt k hw
  split
  · rename_i e
    rw [show k + 1 = w * (k / w + 1) by rw [Nat.mul_add]; omega, Nat.mul_mod_right]
  · rename_i e
    rw [show k + 1 = w * (k / w) + (k % w + 1) by omega, Nat.mul_add_mod, Nat.mod_eq_of_lt (by omega)]
theorem Run.most_pos {n g : Int} {c : Crew} {ev : List Event} (h : Run n g c ev) (k : Nat) (ho : ¬ c.over = true) : 1 ≤ most n g k c ev ∧ most n g k c ev ≤ toCome n g ev * c.dq.length + c.dq.length - (k % c.dq.length : Nat) := by
  obtain ⟨l1, l8⟩ := h.dqlen
  obtain ⟨r1, r2, r3⟩ := h.rem
  have hk := Nat.mod_lt k (show 0 < c.dq.length by omega)
  have hh := h.held.1
  have hr : 1 ≤ toCome n g ev := by
    have : Pl.held c.dq ≠ 0 := fun e => ho (hh.2 e)
    omega
  have hm : (c.dq.length : Int) ≤ toCome n g ev * c.dq.length := by
    have := Int.mul_le_mul_of_nonneg_right hr (show (0 : Int) ≤ c.dq.length by omega)
    omega
  unfold most
  split <;> omega
theorem Run.most_step {n g : Int} {c : Crew} {ev : List Event} (h : Run n g c ev) (hs : ev.length < 100000) (k : Nat) (ho : ¬ c.over = true) :
    most n g (k + 1) (Pl.step c (rp c k) (rv c k)).1 (ev ++ [(Pl.step c (rp c k) (rv c k)).2.1]) + 1 ≤ most n g k c ev := by
  obtain ⟨l1, l8⟩ := h.dqlen
  obtain ⟨r1, r2, r3⟩ := h.rem
  obtain ⟨un, hci⟩ := h.ci
  have hst := h.st
  have hid := h.id
  have hk := Nat.mod_lt k (show 0 < c.dq.length by omega)
  have hh := h.held.1
  have hheld : 0 < Pl.held c.dq := by
    rcases Nat.eq_zero_or_pos (Pl.held c.dq) with e | e
    · exact absurd (hh.2 e) ho
    · exact e
  obtain ⟨_, hR'⟩ := h.step hs (rp c k) (rv c k)
  have hn := num_of c.dq (k % c.dq.length) hk
  have hlen := step_dqlen c (rp c k) (rv c k)
  have hmod := succ_mod k (show 0 < c.dq.length by omega)
  -- a step that does something
  have hdo : ∀ (T : Int), toCome n g (ev ++ [(Pl.step c (rp c k) (rv c k)).2.1]) = toCome n g ev - 1 →
      most n g (k + 1) (Pl.step c (rp c k) (rv c k)).1 (ev ++ [(Pl.step c (rp c k) (rv c k)).2.1]) + 1 ≤ most n g k c ev := fun T hr => by
    have e1 : (toCome n g ev - 1) * (c.dq.length : Int) = toCome n g ev * c.dq.length - c.dq.length := by rw [Int.sub_mul]; omega
    have hm : (k + 1) % c.dq.length = 0 ∧ k % c.dq.length + 1 = c.dq.length ∨ (k + 1) % c.dq.length = k % c.dq.length + 1 := by rw [hmod]; split <;> omega
    unfold most
    rw [hr, hlen]
    generalize (toCome n g ev - 1) * (c.dq.length : Int) = z at *
    rcases hm with ⟨hm, c3⟩ | hm
    · have hs0 : someB (Pl.step c (rp c k) (rv c k)).1.dq 0 = true ∨ (Pl.step c (rp c k) (rv c k)).1.over = true := by
        rcases Nat.eq_zero_or_pos (Pl.held (Pl.step c (rp c k) (rv c k)).1.dq) with e | e
        · exact .inr (hR'.held.1.2 e)
        · exact .inl (some0 e)
      rw [hm, if_pos hs0]; split <;> omega
    · rw [hm]; split <;> split <;> omega
  obtain ⟨_, _, hc⟩ := hci.step (by omega) (by omega) (rp c k) (rv c k)
  rcases hc with ⟨qb, q0, q1, q2, q3, _⟩ | ⟨qb, q0, q1, _⟩ | ⟨qb, q0, q1, _⟩
  · have hr : toCome n g (ev ++ [(Pl.step c (rp c k) (rv c k)).2.1]) = toCome n g ev := by
      rw [toCome_snoc, q0]; simp
    have hown : ¬ 0 < (c.dq.getD (k % c.dq.length) default).length := fun e => by
      have := of_decide_eq_false qb
      rw [hn] at this
      exact this (.inl (by rw [Int.toNat_natCast]; exact e))
    unfold most
    rw [hr, hlen, q3]
    by_cases c1 : someB c.dq (k % c.dq.length) = true
    · have c2 : someB c.dq (k % c.dq.length + 1) = true ∧ ¬ k % c.dq.length + 1 = c.dq.length := by
        obtain ⟨j, j1, j2, j3⟩ := (someB_iff _ _).1 c1
        have hj : k % c.dq.length + 1 ≤ j := by
          rcases Nat.eq_or_lt_of_le j1 with e | e
          · subst e; exact absurd j3 hown
          · exact e
        exact ⟨(someB_iff _ _).2 ⟨j, hj, j2, j3⟩, by omega⟩
      rw [hmod, if_neg c2.2, if_pos (.inl c2.1), if_pos (.inl c1)]; omega
    · rw [if_neg (c := someB c.dq (k % c.dq.length) = true ∨ c.over = true) (by rintro (q | q); exact c1 q; exact ho q)]
      by_cases c3 : k % c.dq.length + 1 = c.dq.length
      · rw [hmod, if_pos c3, if_pos (.inl (some0 hheld))]; omega
      · rw [hmod, if_neg c3]; split <;> omega
  · refine hdo 0 ?_
    rw [toCome_snoc, q0]; dsimp only; rw [if_neg (by omega)]
  · refine hdo 0 ?_
    rw [toCome_snoc, q0]; rw [if_neg (by omega)]
theorem rounds_end {n g : Int} : ∀ (f k : Nat) (c : Crew) (ev : List Event), Run n g c ev → most n g k c ev ≤ f → ev.length + f ≤ 100000 →
    (rounds f k c ev).2.2 = 0 ∧ Run n g (rounds f k c ev).1 (rounds f k c ev).2.1 ∧ (rounds f k c ev).1.over = true ∧ ((rounds f k c ev).2.1.length : Int) ≤ ev.length + (if c.over = true then 0 else most n g k c ev)
  | 0, k, c, ev, h, hm, hs => by
    by_cases ho : c.over = true
    · exact ⟨rfl, h, ho, by simp only [rounds]; rw [if_pos ho]; omega⟩
    · have := (h.most_pos k ho).1; omega
  | f + 1, k, c, ev, h, hm, hs => by
    simp only [rounds]
    by_cases ho : c.over = true
    · rw [if_pos ho, if_pos ho]; exact ⟨rfl, h, ho, by dsimp only; omega⟩
    · have hh : ¬ held c.dq = 0 := fun e => ho (h.held.1.2 e)
      obtain ⟨s1, s2⟩ := h.step (by omega) (rp c k) (rv c k)
      have hms := h.most_step (by omega) k ho
      rw [if_neg ho, if_neg ho, if_neg hh, if_neg (by simpa using s1)]
      obtain ⟨i1, i2, i3, i4⟩ := rounds_end f (k + 1) _ _ s2 (by omega) (by simp; omega)
      refine ⟨i1, i2, i3, ?_⟩
      rw [List.length_append, List.length_singleton] at i4
      have h1 := (h.most_pos k ho).1
      split at i4 <;> omega
theorem rounds_app : ∀ (f k : Nat) (c : Crew) (a b : List Event), rounds f k c (a ++ b) = ((rounds f k c b).1, a ++ (rounds f k c b).2.1, (rounds f k c b).2.2)
  | 0, k, c, a, b => rfl
  | f + 1, k, c, a, b => by
    simp only [rounds]
    split
    · rfl
    · split
      · rfl
      · split
        · rfl
        · rw [List.append_assoc, rounds_app f]
theorem picked_end {n g : Int} : ∀ (P : List (Int × Int)) (c : Crew) (ev : List Event), Run n g c ev → ev.length + P.length ≤ 100000 →
    (picked P c ev).2.2 = 0 ∧ Run n g (picked P c ev).1 (picked P c ev).2.1 ∧ (picked P c ev).2.1.length ≤ ev.length + P.length ∧ (picked P c ev).1.dq.length = c.dq.length
  | [], c, ev, h, hs => ⟨rfl, h, by simp [picked], rfl⟩
  | q :: P, c, ev, h, hs => by
    simp only [List.length_cons] at hs
    simp only [picked]
    split
    · exact ⟨rfl, h, by simp, rfl⟩
    · obtain ⟨s1, s2⟩ := h.step (by omega) q.1 q.2
      rw [if_neg (by simpa using s1)]
      obtain ⟨i1, i2, i3, i4⟩ := picked_end P _ _ s2 (by simp; omega)
      refine ⟨i1, i2, ?_, by rw [i4, step_dqlen]⟩
      rw [List.length_append] at i3
      simp only [List.length_cons, List.length_nil] at i3 ⊢
      omega
theorem picked_over {c : Crew} {ev : List Event} (P : List (Int × Int)) (h : c.over = true) : picked P c ev = (c, ev, 0) := by
  cases P with
  | nil => rfl
  | cons q r => simp only [picked]; rw [if_pos h]
theorem picked_err {c : Crew} {P : List (Int × Int)} {l : List Event} {i : Nat} (hi : i < P.length) (ho : ¬ c.over = true) (h : ¬ (step c (P.getD i default).1 (P.getD i default).2).2.2 = 0) :
    picked (P.drop i) c l = (c, l, (step c (P.getD i default).1 (P.getD i default).2).2.2) := by
  rw [List.drop_eq_getElem_cons hi]
  have e : P.getD i default = P[i] := by rw [List.getD_eq_getElem?_getD, List.getElem?_eq_getElem hi]; rfl
  rw [e] at h ⊢
  simp only [picked]; rw [if_neg ho, if_pos h]
theorem picked_on {c : Crew} {P : List (Int × Int)} {l : List Event} {i : Nat} (hi : i < P.length) (ho : ¬ c.over = true) (h : (step c (P.getD i default).1 (P.getD i default).2).2.2 = 0) :
    picked (P.drop i) c l = picked (P.drop (i + 1)) (step c (P.getD i default).1 (P.getD i default).2).1 (l ++ [(step c (P.getD i default).1 (P.getD i default).2).2.1]) := by
  rw [List.drop_eq_getElem_cons hi]
  have e : P.getD i default = P[i] := by rw [List.getD_eq_getElem?_getD, List.getElem?_eq_getElem hi]; rfl
  rw [e] at h ⊢
  simp only [picked]; rw [if_neg ho, if_neg (by simpa using h)]
theorem picked_nil {c : Crew} {P : List (Int × Int)} {l : List Event} {i : Nat} (hi : P.length ≤ i) : picked (P.drop i) c l = (c, l, 0) := by
  rw [List.drop_eq_nil_of_le hi]; rfl
/-- from the beginning to the end -/
def whole (n g w : Int) (P : List (Int × Int)) : Crew × List Event × Int :=
  if (crewBegin n g w).2 ≠ 0 then (crewZ, [], 1) else
  rounds 20000 0 (picked P (crewBegin n g w).1 []).1 (picked P (crewBegin n g w).1 []).2.1
theorem Run.all {n g : Int} {c : Crew} {ev : List Event} (h : Run n g c ev) (ho : c.over = true) :
    (unitsOf (leaves' c.work.ts ev)).Nodup ∧ (∀ u, u ∈ unitsOf (leaves' c.work.ts ev) ↔ (0 ≤ u ∧ u < n)) ∧ ((gone ev).length : Int) = cntT n g := by
  obtain ⟨un, hci⟩ := h.ci
  have hr := h.rem.2.2.1 ho
  have e := hci.ov.1 ho
  have e2 : fl c.dq = [] := by unfold fl; rw [e]; rfl
  have h3 := hci.inv
  rw [e2] at h3
  have h4 := h3.ends.2.2.1
  have h5 := h3.dl
  refine ⟨h.ui.nd, fun u => ?_, by unfold toCome at hr; omega⟩
  rw [h.ui.mem]
  constructor
  · rintro ⟨a, b⟩
    refine ⟨a, ?_⟩
    by_cases c1 : u.toNat < c.work.done.length
    · omega
    · rw [List.getD_eq_getElem?_getD, List.getElem?_eq_none (by omega)] at b; cases b
  · rintro ⟨a, b⟩
    exact ⟨a, h4 u.toNat (by omega)⟩
theorem nodup_len {U : List Int} {n : Int} (h0 : 0 ≤ n) (h1 : U.Nodup) (h2 : ∀ u, u ∈ U ↔ (0 ≤ u ∧ u < n)) : (U.length : Int) = n := by
  have hp : U.Perm (upto 0 n) := (List.perm_ext_iff_of_nodup h1 (nodup_upto 0 n)).2 fun u => by rw [h2, mem_upto]
  rw [hp.length_eq, upto_len]; omega
theorem whole_ok {n g w : Int} {P : List (Int × Int)} (hc : cnt n g) (hw : 1 ≤ w ∧ w ≤ 8) (hP : P.length ≤ 70000) :
    (crewBegin n g w).2 = 0 ∧ (picked P (crewBegin n g w).1 []).2.2 = 0 ∧ (whole n g w P).2.2 = 0 ∧ Run n g (whole n g w P).1 (whole n g w P).2.1 ∧ (whole n g w P).1.over = true ∧
    ((whole n g w P).2.1.length : Int) ≤ P.length + cntT n g * w ∧ cntT n g ≤ (whole n g w P).2.1.length := by
  obtain ⟨b0, b1, b2, b3, b4, b5⟩ := CInv.begins hc hw
  obtain ⟨p1, p2, p3, p4⟩ := picked_end P _ _ (Run.begins hc hw) (by simp; omega)
  have hr0 := p2.rem
  have hd := p2.dqlen
  rw [b4] at p4
  have hrem : toCome n g (picked P (crewBegin n g w).1 []).2.1 ≤ cntT n g := by unfold toCome; omega
  have hM : most n g 0 (picked P (crewBegin n g w).1 []).1 (picked P (crewBegin n g w).1 []).2.1 ≤ cntT n g * w + 8 ∧ ((picked P (crewBegin n g w).1 []).1.over = true ∨ most n g 0 (picked P (crewBegin n g w).1 []).1 (picked P (crewBegin n g w).1 []).2.1 ≤ cntT n g * w) := by
    have e1 : toCome n g (picked P (crewBegin n g w).1 []).2.1 * w ≤ cntT n g * w := Int.mul_le_mul_of_nonneg_right hrem (by omega)
    have e2 : (((picked P (crewBegin n g w).1 []).1.dq.length : Nat) : Int) = w := by rw [p4]; omega
    unfold most
    rw [Nat.zero_mod, e2]
    constructor
    · split <;> omega
    · by_cases ho : (picked P (crewBegin n g w).1 []).1.over = true
      · exact .inl ho
      · right
        rw [if_pos (.inl (some0 (by
          rcases Nat.eq_zero_or_pos (Pl.held (picked P (crewBegin n g w).1 []).1.dq) with e | e
          · exact absurd (p2.held.1.2 e) ho
          · exact e)))]
        omega
  have hT : cntT n g ≤ 1999 := by
    have := (Run.begins hc hw).rem
    unfold toCome at this
    simp only [gone, List.length_nil] at this
    omega
  have hT0 : 0 ≤ cntT n g := by omega
  have hTw : cntT n g * w ≤ 15992 := by
    have h1 : cntT n g * w ≤ 1999 * w := Int.mul_le_mul_of_nonneg_right hT (by omega)
    omega
  have hTw0 : 0 ≤ cntT n g * w := Int.mul_nonneg hT0 (by omega)
  simp only [List.length_nil] at p3
  obtain ⟨r1, r2, r3, r4⟩ := rounds_end 20000 0 _ _ p2 (by omega) (by omega)
  have hwh : whole n g w P = rounds 20000 0 (picked P (crewBegin n g w).1 []).1 (picked P (crewBegin n g w).1 []).2.1 := by
    unfold whole; rw [if_neg (by simpa using b0)]
  rw [hwh]
  refine ⟨b0, p1, r1, r2, r3, ?_, ?_⟩
  · rcases hM.2 with q | q
    · rw [if_pos q] at r4; omega
    · split at r4 <;> omega
  · have h1 := (r2.all r3).2.2
    have h2 := gone_le (rounds 20000 0 (picked P (crewBegin n g w).1 []).1 (picked P (crewBegin n g w).1 []).2.1).2.1
    omega
structure Plan where
  grain : Int
  workers : Int
  picks : List (Int × Int)
deriving Inhabited
def planRight (p : Plan) : Prop := 1 ≤ p.grain ∧ p.grain ≤ 100 ∧ 1 ≤ p.workers ∧ p.workers ≤ 8 ∧ p.picks.length ≤ 4000
instance (p : Plan) : Decidable (planRight p) := by unfold planRight; infer_instance
def ordOk (n : Int) (p : Plan) : Prop := 0 ≤ n ∧ n ≤ 1000 ∧ planRight p
instance (n : Int) (p : Plan) : Decidable (ordOk n p) := by unfold ordOk; infer_instance
def ordW (n : Int) (p : Plan) : Crew × List Event × Int := whole n p.grain p.workers p.picks
def ordE (n : Int) (p : Plan) : Int := if ordOk n p then 0 else 1
def ordU (n : Int) (p : Plan) : List Int := if ordOk n p ∧ n ≠ 0 then unitsOf (leaves' (ordW n p).1.work.ts (ordW n p).2.1) else []
def ordS (n : Int) (p : Plan) : Int := if ordOk n p ∧ n ≠ 0 then (ordW n p).2.1.length else 0
theorem ord_cnt {n : Int} {p : Plan} (h : ordOk n p) (h0 : n ≠ 0) : cnt n p.grain ∧ (1 ≤ p.workers ∧ p.workers ≤ 8) ∧ p.picks.length ≤ 4000 := by
  unfold ordOk planRight at h
  unfold cnt
  omega
theorem ordU_ok {n : Int} {p : Plan} (h : ordOk n p) : (ordU n p).Nodup ∧ (∀ u, u ∈ ordU n p ↔ (0 ≤ u ∧ u < n)) ∧ ((ordU n p).length : Int) = n := by
  by_cases h0 : n = 0
  · subst h0
    unfold ordU
    rw [if_neg (by simp)]
    exact ⟨List.nodup_nil, fun u => by simp <;> omega, rfl⟩
  · obtain ⟨h1, h2, h3⟩ := ord_cnt h h0
    obtain ⟨_, _, _, r, o, _, _⟩ := whole_ok (P := p.picks) h1 h2 (by omega)
    obtain ⟨a1, a2, _⟩ := r.all o
    have hn : 0 ≤ n := h.1
    unfold ordU
    rw [if_pos ⟨h, h0⟩]
    exact ⟨a1, a2, nodup_len hn a1 a2⟩
end Go.Pl
