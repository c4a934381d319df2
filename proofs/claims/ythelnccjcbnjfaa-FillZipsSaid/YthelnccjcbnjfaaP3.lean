/-
  Texts joined: PlE, PlF.
-/
import Derived.Test.YthelnccjcbnjfaaP2
import Derived.Test.YthelnccjcbnjfaaB0
/-! 
  Plain data: a crew's beginning.
-/
set_option linter.unusedSimpArgs false
set_option linter.unusedVariables false
namespace Go.Pl
open Go.Am Go.Proofs.Ythelnccjcbnjfaa
theorem rep_get0 {α : Type} {n : Nat} (x d : α) (h : 0 < n) : (List.replicate n x).getD 0 d = x := by
  rw [List.getD_eq_getElem?_getD, List.getElem?_replicate, if_pos h]; rfl
def crewZ : Crew := ⟨⟨[], 0, []⟩, [], false, 0, 0⟩
def dq0 (p : Int) : List (List Int) := (List.replicate p.toNat ([] : List Int)).set 0 [0]
def crewBegin (n g p : Int) : Crew × Int := if p < 1 ∨ 8 < p then (crewZ, 1) else if ¬ cnt n g then (crewZ, 1) else (⟨beginW n g, dq0 p, false, 0, 0⟩, 0)
theorem crew_eq {a b : Crew} : a = b ↔ a.work.grain = b.work.grain ∧ a.work.ts = b.work.ts ∧ a.work.done = b.work.done ∧ a.dq = b.dq ∧ a.over = b.over ∧ a.steps = b.steps ∧ a.idle = b.idle := by
  constructor
  · rintro rfl; exact ⟨rfl, rfl, rfl, rfl, rfl, rfl, rfl⟩
  · obtain ⟨⟨t, g, d⟩, q, o, s, i⟩ := a
    obtain ⟨⟨t', g', d'⟩, q', o', s', i'⟩ := b
    rintro ⟨h1, h2, h3, h4, h5, h6, h7⟩
    simp only at *
    subst h1 h2 h3 h4 h5 h6 h7; rfl
theorem begin_1 {n g p : Int} (h : p < 1 ∨ 8 < p) : crewBegin n g p = (crewZ, 1) := by rw [crewBegin, if_pos h]
theorem begin_2 {n g p : Int} (h : ¬ (p < 1 ∨ 8 < p)) (h2 : ¬ beginE n g = 0) : crewBegin n g p = (crewZ, 1) ∧ beginE n g = 1 := by
  by_cases c : cnt n g
  · rw [beginE, if_pos c] at h2; exact absurd rfl h2
  · exact ⟨by rw [crewBegin, if_neg h, if_pos c], by rw [beginE, if_neg c]⟩
theorem begin_3 {n g p : Int} (h : ¬ (p < 1 ∨ 8 < p)) (h2 : beginE n g = 0) : crewBegin n g p = (⟨beginW n g, dq0 p, false, 0, 0⟩, 0) := by
  by_cases c : cnt n g
  · rw [crewBegin, if_neg h, if_neg (by simpa using c)]
  · rw [beginE, if_neg c] at h2; cases h2
theorem leB_pt {hp : List (Nat × Blk)} {π : List (Nat × Nat)} {sz : Nat} {es es' : List (List PV)} (hl : es.length = es'.length) (h : ∀ (i : Nat) (x y : List PV), es[i]? = some x → es'[i]? = some y → LeRow hp π (x.map .p) (y.map .p)) : LeB hp π (.row sz (lift es)) (.row sz (lift es')) := by
  refine ⟨rfl, by simp [lift, hl], fun k cs ds h1 h2 => ?_⟩
  simp only [lift, List.getElem?_map] at h1 h2
  obtain ⟨x, hx, rfl⟩ := Option.map_eq_some_iff.1 h1
  obtain ⟨y, hy, rfl⟩ := Option.map_eq_some_iff.1 h2
  exact h k x y hx hy
theorem leB_dq0 {hp : List (Nat × Blk)} {π : List (Nat × Nat)} {n : Nat} {p : Int} (hn : n = p.toNat) {c : Bool} : LeB hp π (.row 1 (lift ((List.replicate n [PV.seq true []]).set 0 [.seq c [[.lit (.int .i64 0)]]]))) (.row 1 (lift ((dq0 p).map lV))) := by
  subst hn
  refine leB_pt (by simp [dq0]) fun i x y hx hy => ?_
  simp only [dq0, List.map_set, List.map_replicate, List.getElem?_set] at hx hy
  by_cases e : 0 = i
  · subst e
    simp only [if_true, List.length_replicate] at hx hy
    split at hx
    · rename_i hlt
      simp only [hlt, if_true, Option.some.injEq] at hx hy
      subst hx hy
      exact LeRow.cons (.p (LeP.seq _ _)) .nil
    · cases hx
  · simp only [e, if_false, List.getElem?_replicate] at hx hy
    split at hx
    · rename_i hlt
      simp only [hlt, if_true, Option.some.injEq] at hx hy
      subst hx hy
      exact LeRow.cons (.p (LeP.seq _ _)) .nil
    · cases hx
end Go.Pl
/-! 
  Texts joined: PlF, PlG, PlH, PlI, PlJ, PlK.
-/
/-! 
  Plain data: crews that come of steps stay small.
-/
set_option linter.unusedSimpArgs false
set_option linter.unusedVariables false
namespace Go.Pl
def good (c : Crew) : Prop := 0 ≤ c.steps ∧ c.steps ≤ 100001 ∧ ∀ l, l ∈ c.dq → l.length ≤ 2 * c.steps.toNat + 1 ∧ ∀ t, t ∈ l → 0 ≤ t ∧ t ≤ 1000000
theorem good_hl {c : Crew} (h : good c) : ∀ l, l ∈ c.dq → l.length ≤ 1000000 ∧ ∀ t, t ∈ l → -9223372036854775808 ≤ t ∧ t ≤ 9223372036854775807 := fun l hl => by
  obtain ⟨h1, h2⟩ := h.2.2 l hl
  have := h.2.1
  exact ⟨by omega, fun t ht => by have := h2 t ht; omega⟩
theorem foundD_mem {d : List (List Int)} {p v : Nat} (hp : p < d.length) (hv : v < d.length) : ∀ l, l ∈ foundD d p v → ∃ k, k ∈ d ∧ l.length ≤ k.length ∧ ∀ t, t ∈ l → t ∈ k := by
  intro l hl
  unfold foundD at hl
  split at hl
  · rcases List.mem_or_eq_of_mem_set hl with q | q
    · exact ⟨l, q, Nat.le_refl _, fun _ h => h⟩
    · exact ⟨_, getD_mem d p default hp, by subst q; rw [List.length_take]; omega, fun t ht => by subst q; exact List.mem_of_mem_take ht⟩
  · split at hl
    · rcases List.mem_or_eq_of_mem_set hl with q | q
      · exact ⟨l, q, Nat.le_refl _, fun _ h => h⟩
      · exact ⟨_, getD_mem d v default hv, by subst q; rw [List.length_drop]; omega, fun t ht => by subst q; exact List.mem_of_mem_drop ht⟩
    · exact ⟨l, hl, Nat.le_refl _, fun _ h => h⟩
theorem part_small {w : Work} {t : Int} (h : right w) : 0 ≤ partA w t ∧ partA w t ≤ 1000000 ∧ 0 ≤ partB w t ∧ partB w t ≤ 1000000 := by
  have := h.2.2.1
  unfold partA partB
  split <;> omega
theorem step_cases (c : Crew) (p v : Int) (h : (step c p v).2.2 = 0) : crewRight c ∧ ¬ c.steps = 100000 ∧
    ((foundB c.dq (num c.dq p).toNat (num c.dq v).toNat = true ∧ goE c.work (evF c.dq p v).task = 0 ∧ step c p v = (⟨goW c.work (evF c.dq p v).task, goD (dqF c.dq p v) (num c.dq p).toNat c.work (evF c.dq p v).task, goO c.over c.work (evF c.dq p v).task, c.steps + 1, c.idle⟩, goV (evF c.dq p v) c.work, 0)) ∨
     (foundB c.dq (num c.dq p).toNat (num c.dq v).toNat = false ∧ ¬ c.idle = 100000 ∧ step c p v = (⟨c.work, c.dq, c.over, c.steps + 1, c.idle + 1⟩, evN c.dq p, 0))) := by
  by_cases h1 : crewRight c
  · by_cases h2 : c.steps = 100000
    · rw [step_2 h1 h2] at h; cases h
    · refine ⟨h1, h2, ?_⟩
      cases h3 : foundB c.dq (num c.dq p).toNat (num c.dq v).toNat with
      | true =>
        by_cases h4 : goE c.work (evF c.dq p v).task = 0
        · exact .inl ⟨rfl, h4, step_4 h1 h2 h3 h4⟩
        · rw [step_3 h1 h2 h3 h4] at h; exact absurd h h4
      | false =>
        by_cases h4 : c.idle = 100000
        · rw [step_5 h1 h2 h3 h4] at h; cases h
        · exact .inr ⟨rfl, h4, step_6 h1 h2 h3 h4⟩
  · rw [step_1 h1] at h; cases h
theorem step_good {c : Crew} {p v : Int} (hg : good c) (h : (step c p v).2.2 = 0) : good (step c p v).1 := by
  obtain ⟨hr, hst, hc⟩ := step_cases c p v h
  obtain ⟨hr1, hr2, hr3, hr4, hr5, _⟩ := hr
  have nb1 := num_bound c.dq p hr2
  have nb2 := num_bound c.dq v hr2
  have hs : (c.steps + 1).toNat = c.steps.toNat + 1 := by omega
  rcases hc with ⟨_, _, e⟩ | ⟨_, _, e⟩
  · rw [e]
    have hF : ∀ l, l ∈ dqF c.dq p v → l.length ≤ 2 * c.steps.toNat + 1 ∧ ∀ t, t ∈ l → 0 ≤ t ∧ t ≤ 1000000 := fun l hl => by
      obtain ⟨k, hk, h1, h2⟩ := foundD_mem (by omega) (by omega) l hl
      obtain ⟨g1, g2⟩ := hg.2.2 k hk
      exact ⟨by omega, fun t ht => g2 t (h2 t ht)⟩
    refine ⟨by dsimp only; omega, by dsimp only; omega, fun l hl => ?_⟩
    dsimp only at hl ⊢
    rw [hs]
    unfold goD at hl
    split at hl
    · rcases List.mem_or_eq_of_mem_set hl with q | q
      · obtain ⟨g1, g2⟩ := hF l q; exact ⟨by omega, g2⟩
      · have hm := hF _ (getD_mem (dqF c.dq p v) (num c.dq p).toNat default (by rw [foundD_len]; omega))
        have hp := part_small (t := (evF c.dq p v).task) hr1
        subst q
        refine ⟨by rw [List.length_append]; simp only [List.length_cons, List.length_nil]; omega, fun t ht => ?_⟩
        rcases List.mem_append.1 ht with q | q
        · exact hm.2 t q
        · simp only [List.mem_cons, List.not_mem_nil, or_false] at q
          omega
    · obtain ⟨g1, g2⟩ := hF l hl; exact ⟨by omega, g2⟩
  · rw [e]
    refine ⟨by dsimp only; omega, by dsimp only; omega, fun l hl => ?_⟩
    dsimp only at hl ⊢
    obtain ⟨g1, g2⟩ := hg.2.2 l hl
    exact ⟨by omega, g2⟩
theorem begin_good {n g p : Int} : good (crewBegin n g p).1 := by
  have hz : good crewZ := ⟨by decide, by decide, fun l hl => by cases hl⟩
  unfold crewBegin
  split
  · exact hz
  · split
    · exact hz
    · refine ⟨Int.le_refl 0, by show (0 : Int) ≤ 100001; decide, fun l hl => ?_⟩
      rcases List.mem_or_eq_of_mem_set hl with q | q
      · have := (List.mem_replicate.1 q).2; subst this
        exact ⟨by simp, fun t ht => by cases ht⟩
      · subst q; exact ⟨by simp, fun t ht => by simp at ht; omega⟩
def run : Crew → List (Int × Int) → List Event → Crew × List Event × Int
  | c, [], l => (c, l, 0)
  | c, q :: r, l => if (step c q.1 q.2).2.2 ≠ 0 then (c, l, (step c q.1 q.2).2.2) else run (step c q.1 q.2).1 r (l ++ [(step c q.1 q.2).2.1])
theorem run_err {c : Crew} {P : List (Int × Int)} {l : List Event} {i : Nat} (hi : i < P.length) (h : ¬ (step c (P.getD i default).1 (P.getD i default).2).2.2 = 0) :
    run c (P.drop i) l = (c, l, (step c (P.getD i default).1 (P.getD i default).2).2.2) := by
  rw [List.drop_eq_getElem_cons hi]
  have e : P.getD i default = P[i] := by rw [List.getD_eq_getElem?_getD, List.getElem?_eq_getElem hi]; rfl
  rw [e] at h ⊢
  simp only [run]; rw [if_pos h]
theorem run_on {c : Crew} {P : List (Int × Int)} {l : List Event} {i : Nat} (hi : i < P.length) (h : (step c (P.getD i default).1 (P.getD i default).2).2.2 = 0) :
    run c (P.drop i) l = run (step c (P.getD i default).1 (P.getD i default).2).1 (P.drop (i + 1)) (l ++ [(step c (P.getD i default).1 (P.getD i default).2).2.1]) := by
  rw [List.drop_eq_getElem_cons hi]
  have e : P.getD i default = P[i] := by rw [List.getD_eq_getElem?_getD, List.getElem?_eq_getElem hi]; rfl
  rw [e] at h ⊢
  simp only [run]; rw [if_neg (by simpa using h)]
theorem run_end {c : Crew} {P : List (Int × Int)} {l : List Event} {i : Nat} (hi : P.length ≤ i) : run c (P.drop i) l = (c, l, 0) := by
  rw [List.drop_eq_nil_of_le hi]; rfl
end Go.Pl
/-! 
  Plain data: what holds of crews that began, whatever their steps.
-/
set_option linter.unusedSimpArgs false
set_option linter.unusedVariables false
namespace Go.Pl
def fl (d : List (List Int)) : List Nat := d.flatten.map Int.toNat
structure CInv (n g : Int) (c : Crew) (units : Int) : Prop where
  inv : Inv n g c.work (fl c.dq) units
  nn : ∀ t, t ∈ c.dq.flatten → 0 ≤ t
  len1 : 1 ≤ c.dq.length
  len8 : c.dq.length ≤ 8
  st : 0 ≤ c.steps
  idl : 0 ≤ c.idle
  ov : c.over = true ↔ c.dq.flatten = []
theorem CInv.right {n g : Int} {c : Crew} {units : Int} (h : CInv n g c units) (h1 : c.steps ≤ 100000) (h2 : c.idle ≤ 100000) : crewRight c := by
  refine ⟨h.inv.right, h.len1, h.len8, ⟨h.st, h1⟩, ⟨h.idl, h2⟩, ?_, fun t ht => ?_⟩
  · have hn := h.inv.nd
    unfold fl at hn
    exact (List.pairwise_map.1 hn).imp fun hne e => hne (by rw [e])
  · have h0 := h.nn t ht
    have hm : t.toNat ∈ fl c.dq := List.mem_map_of_mem ht
    obtain ⟨r1, r2⟩ := h.inv.gg.rng _ hm
    have hok := h.inv.ok _ r1
    unfold okT at hok
    have hf := h.inv.fresh _ hm (c.work.ts.getD t.toNat default).low.toNat (by omega) (by omega)
    exact ⟨h0, by omega, r2, .inr hf⟩
theorem flat_set (d : List (List Int)) (p : Nat) (h : p < d.length) (X : List Int) : (d.set p X).flatten = (d.take p).flatten ++ (X ++ (d.drop (p + 1)).flatten) := by
  rw [List.set_eq_take_append_cons_drop, if_pos h]; simp
theorem flat_get (d : List (List Int)) (p : Nat) (h : p < d.length) : d.flatten = (d.take p).flatten ++ (d.getD p default ++ (d.drop (p + 1)).flatten) := by
  rw [← flat_set d p h]
  congr 1
  apply List.ext_getElem?
  intro i
  rw [List.getElem?_set]
  by_cases e : p = i
  · subst e; rw [if_pos rfl, if_pos h, List.getD_eq_getElem?_getD, List.getElem?_eq_getElem h]; rfl
  · rw [if_neg e]
theorem found_perm {d : List (List Int)} {p v : Nat} {e : Event} (hp : p < d.length) (hv : v < d.length) (h : foundB d p v = true) : d.flatten.Perm ((foundE d p v e).task :: (foundD d p v).flatten) := by
  have h' := of_decide_eq_true h
  by_cases h1 : 0 < (d.getD p default).length
  · rw [foundE, if_pos h1, foundD, if_pos h1, flat_set d p hp]
    have e1 := flat_get d p hp
    have e2 : d.getD p default = (d.getD p default).take ((d.getD p default).length - 1) ++ [(d.getD p default).getD ((d.getD p default).length - 1) 0] := by
      have := take_succ_at (d.getD p default) ((d.getD p default).length - 1) (by omega)
      rw [show (d.getD p default).length - 1 + 1 = (d.getD p default).length by omega, List.take_length] at this
      exact this
    rw [e1]
    conv => lhs; rw [e2]
    simp only [List.append_assoc, List.singleton_append]
    rw [← List.append_assoc, ← List.append_assoc]
    exact List.perm_middle
  · have h2 : 0 < (d.getD v default).length := by omega
    rw [foundE, if_neg h1, if_pos h2, foundD, if_neg h1, if_pos h2, flat_set d v hv]
    have e1 := flat_get d v hv
    have e2 : d.getD v default = (d.getD v default).getD 0 0 :: (d.getD v default).drop 1 := by
      cases hx : d.getD v default with
      | nil => rw [hx] at h2; cases h2
      | cons a r => rfl
    rw [e1]
    conv => lhs; rw [e2]
    simp only [List.cons_append]
    exact List.perm_middle
theorem goD_perm {d : List (List Int)} {p : Nat} (hp : p < d.length) (b a : Int) : (d.set p (d.getD p default ++ [b, a])).flatten.Perm (d.flatten ++ [a, b]) := by
  rw [flat_set d p hp, flat_get d p hp]
  simp only [List.append_assoc]
  refine List.Perm.append_left _ (List.Perm.append_left _ ?_)
  have h1 : ([b, a] ++ (d.drop (p + 1)).flatten).Perm ((d.drop (p + 1)).flatten ++ [b, a]) := List.perm_append_comm
  exact h1.trans (List.Perm.append_left _ (List.Perm.swap a b []))
theorem fl_perm {d d' : List (List Int)} (h : d.flatten.Perm d'.flatten) : (fl d).Perm (fl d') := h.map _
end Go.Pl
/-! 
  Plain data: what a step does to a crew that began.
-/
set_option linter.unusedSimpArgs false
set_option linter.unusedVariables false
namespace Go.Pl
theorem foundE_worker (d : List (List Int)) (p v : Nat) (e : Event) : (foundE d p v e).worker = e.worker ∧ (foundE d p v e).parted = e.parted := by
  unfold foundE; split
  · exact ⟨rfl, rfl⟩
  · split <;> exact ⟨rfl, rfl⟩
theorem CInv.step {n g : Int} {c : Crew} {units : Int} (h : CInv n g c units) (h1 : c.steps < 100000) (h2 : c.idle < 100000) (p v : Int) :
    (step c p v).2.2 = 0 ∧ (step c p v).1.steps = c.steps + 1 ∧
    ((foundB c.dq (num c.dq p).toNat (num c.dq v).toNat = false ∧ (step c p v).2.1 = evN c.dq p ∧ (step c p v).1.work = c.work ∧ (step c p v).1.idle = c.idle + 1 ∧ (step c p v).1.dq = c.dq ∧ CInv n g (step c p v).1 units) ∨
     (foundB c.dq (num c.dq p).toNat (num c.dq v).toNat = true ∧ (step c p v).2.1 = { evF c.dq p v with parted := true } ∧ 0 ≤ (evF c.dq p v).task ∧ (step c p v).1.idle = c.idle ∧ (step c p v).1.work.ts.length = c.work.ts.length + 2 ∧ (step c p v).1.dq = goD (dqF c.dq p v) (num c.dq p).toNat c.work (evF c.dq p v).task ∧ great c.work (evF c.dq p v).task ∧ partE c.work (evF c.dq p v).task = 0 ∧ (step c p v).1.work = partW c.work (evF c.dq p v).task ∧ CInv n g (step c p v).1 units) ∨
     (foundB c.dq (num c.dq p).toNat (num c.dq v).toNat = true ∧ (step c p v).2.1 = evF c.dq p v ∧ 0 ≤ (evF c.dq p v).task ∧ (step c p v).1.idle = c.idle ∧ (step c p v).1.work.ts.length = c.work.ts.length ∧ (step c p v).1.dq = dqF c.dq p v ∧ (evF c.dq p v).task < c.work.ts.length ∧ (step c p v).1.work = doW c.work (evF c.dq p v).task ∧
       ((step c p v).1.work.ts.getD (evF c.dq p v).task.toNat default).high = (c.work.ts.getD (evF c.dq p v).task.toNat default).high ∧ ((step c p v).1.work.ts.getD (evF c.dq p v).task.toNat default).low = (c.work.ts.getD (evF c.dq p v).task.toNat default).low ∧
       CInv n g (step c p v).1 (units + szT c.work (evF c.dq p v).task.toNat))) := by
  have hr := h.right (by omega) (by omega)
  have nb1 := num_bound c.dq p h.len1
  have nb2 := num_bound c.dq v h.len1
  have hst : ¬ c.steps = 100000 := by omega
  have hst0 := h.st
  have hid0 := h.idl
  cases hB : foundB c.dq (num c.dq p).toNat (num c.dq v).toNat with
  | false =>
    rw [step_6 hr hst hB (by omega)]
    exact ⟨rfl, rfl, .inl ⟨rfl, rfl, rfl, rfl, rfl, ⟨h.inv, h.nn, h.len1, h.len8, by dsimp only; omega, by dsimp only; omega, h.ov⟩⟩⟩
  | true =>
    have hp := found_perm (e := evN c.dq p) (by omega) (by omega) hB
    have ht0 : 0 ≤ (evF c.dq p v).task := h.nn _ (hp.mem_iff.2 (by simp))
    have hmem : ∀ x, x ∈ (dqF c.dq p v).flatten → x ∈ c.dq.flatten := fun x hx => hp.mem_iff.2 (by simp [hx])
    have hi : Inv n g c.work ((evF c.dq p v).task.toNat :: fl (dqF c.dq p v)) units := h.inv.perm (hp.map _)
    have hne : ¬ c.over = true := fun e => by
      have e2 := h.ov.1 e
      have := hp.length_eq
      rw [e2] at this; simp at this
    have htn : (((evF c.dq p v).task.toNat : Nat) : Int) = (evF c.dq p v).task := by omega
    have hlt := (hi.gg.rng _ (List.mem_cons_self ..)).1
    have hgr := hi.great (t := (evF c.dq p v).task.toNat) (List.mem_cons_self ..)
    rw [htn] at hgr
    have hdl : (dqF c.dq p v).length = c.dq.length := foundD_len _ _ _
    by_cases hg : great c.work (evF c.dq p v).task
    · have hgs := hgr.1 hg
      have hE := hi.part0 hgs
      have hI := hi.part hgs
      rw [htn] at hE hI
      obtain ⟨e1, e2, e3, e4, e5⟩ := go_part (d := dqF c.dq p v) (p := (num c.dq p).toNat) (o := c.over) (e := evF c.dq p v) rfl hg hE
      rw [step_4 hr hst hB e1, e2, e4, e5]
      obtain ⟨_, a1, a2, _⟩ := part_ok hE
      have hl2 : (partW c.work (evF c.dq p v).task).ts.length = c.work.ts.length + 2 := by rw [(part_ok hE).1]; simp [parted]
      have hpg := goD_perm (d := dqF c.dq p v) (p := (num c.dq p).toNat) (by omega) (partB c.work (evF c.dq p v).task) (partA c.work (evF c.dq p v).task)
      rw [← e3] at hpg
      refine ⟨rfl, rfl, .inr (.inl ⟨rfl, rfl, ht0, rfl, hl2, rfl, hg, hE, rfl, ⟨hI.perm ?_, fun x hx => ?_, ?_, ?_, by dsimp only; omega, by dsimp only; omega, ⟨fun q => absurd q hne, fun q => ?_⟩⟩⟩)⟩
      · have := (hpg.map Int.toNat).symm
        rw [List.map_append, a1, a2] at this
        exact this
      · rcases List.mem_append.1 (hpg.mem_iff.1 hx) with q | q
        · exact h.nn x (hmem x q)
        · rw [a1, a2] at q; simp at q; omega
      · dsimp only; rw [e3, List.length_set]; have := h.len1; omega
      · dsimp only; rw [e3, List.length_set]; have := h.len8; omega
      · have := hpg.length_eq
        dsimp only at q
        rw [q] at this; simp at this
    · have hgs : ¬ g < szT c.work (evF c.dq p v).task.toNat := fun q => hg (hgr.2 q)
      have hE := hi.do0 hgs
      obtain ⟨hI, ho1, ho2, ho3, ho4⟩ := hi.did hgs
      rw [htn] at hE hI ho1 ho2 ho3 ho4
      obtain ⟨e1, e2, e3, e4, e5⟩ := go_do (d := dqF c.dq p v) (p := (num c.dq p).toNat) (o := c.over) (e := evF c.dq p v) rfl hg
      rw [step_4 hr hst hB (e1.trans hE), e2, e3, e4, e5]
      have hov : (c.over || doO c.work (evF c.dq p v).task) = doO c.work (evF c.dq p v).task := by
        cases hc : c.over with
        | true => exact absurd hc hne
        | false => rfl
      rw [hov]
      refine ⟨rfl, rfl, .inr (.inr ⟨rfl, rfl, ht0, rfl, ho2, rfl, by omega, rfl, ho3, ho4, ⟨hI, fun x hx => h.nn x (hmem x hx), ?_, ?_, by dsimp only; omega, by dsimp only; omega, ?_⟩⟩)⟩
      · dsimp only; have := h.len1; omega
      · dsimp only; have := h.len8; omega
      · dsimp only
        rw [ho1]
        unfold fl
        exact List.map_eq_nil_iff
theorem CInv.begins {n g p : Int} (hc : cnt n g) (hp : 1 ≤ p ∧ p ≤ 8) : (crewBegin n g p).2 = 0 ∧ (crewBegin n g p).1.steps = 0 ∧ (crewBegin n g p).1.idle = 0 ∧ (crewBegin n g p).1.work = beginW n g ∧ (crewBegin n g p).1.dq.length = p.toNat ∧ CInv n g (crewBegin n g p).1 0 := by
  have e : crewBegin n g p = (⟨beginW n g, dq0 p, false, 0, 0⟩, 0) := by rw [crewBegin, if_neg (by omega), if_neg (by simpa using hc)]
  rw [e]
  have hf : (dq0 p).flatten = [0] := by
    unfold dq0
    rw [flat_set _ 0 (by simp; omega)]
    simp
  have hl : (dq0 p).length = p.toNat := by simp [dq0]
  refine ⟨rfl, rfl, rfl, rfl, hl, ⟨?_, fun t ht => ?_, by dsimp only; omega, by dsimp only; omega, Int.le_refl 0, Int.le_refl 0, ?_⟩⟩
  · have := Inv.begins hc
    unfold fl; dsimp only; rw [hf]; exact this
  · dsimp only at ht; rw [hf] at ht; simp at ht; omega
  · dsimp only; rw [hf]; simp
end Go.Pl
/-! 
  Plain data: how many units are done.
-/
set_option linter.unusedSimpArgs false
set_option linter.unusedVariables false
namespace Go.Pl
def tc (d : List Bool) : Nat := d.count true
theorem tc_marked {d : List Bool} {lo hi : Nat} (h : lo ≤ hi) (h2 : hi ≤ d.length) (hf : ∀ u : Nat, lo ≤ u → u < hi → d.getD u false = false) : tc (marked d lo hi) = tc d + (hi - lo) := by
  have e : d = d.take lo ++ ((d.drop lo).take (hi - lo) ++ d.drop hi) := by
    have e1 : (d.drop lo).drop (hi - lo) = d.drop hi := by rw [List.drop_drop]; congr 1; omega
    rw [← e1, List.take_append_drop, List.take_append_drop]
  have z : ((d.drop lo).take (hi - lo)).count true = 0 := by
    refine List.count_eq_zero.2 fun hm => ?_
    obtain ⟨i, hi', he⟩ := List.getElem_of_mem hm
    rw [List.length_take, List.length_drop] at hi'
    rw [List.getElem_take, List.getElem_drop] at he
    have := hf (lo + i) (by omega) (by omega)
    rw [List.getD_eq_getElem?_getD, List.getElem?_eq_getElem (by omega), Option.getD_some, he] at this
    cases this
  unfold tc marked
  conv => rhs; rw [e]
  simp only [List.count_append, List.count_replicate_self, z]
  omega
theorem tc_do {n g : Int} {w : Work} {t : Nat} {r : List Nat} {units : Int} (h : Inv n g w (t :: r) units) (hg : ¬ g < szT w t) : (tc (doW w t).done : Int) = tc w.done + szT w t := by
  have hE := h.do0 hg
  obtain ⟨e1, _, _⟩ := do_ok hE
  have hok := h.ok t (h.gg.rng t (by simp)).1
  unfold okT at hok
  rw [e1]
  simp only [Pl.did, task, Int.toNat_natCast]
  rw [tc_marked (by omega) (by omega) (fun u h1 h2 => h.fresh t (by simp) u (by omega) (by omega))]
  unfold szT; omega
theorem CInv.over_iff {n g : Int} {c : Crew} {units : Int} (h : CInv n g c units) : (units = n ↔ c.dq.flatten = []) := by
  have hu := h.inv.un
  constructor
  · intro e
    cases hf : c.dq.flatten with
    | nil => rfl
    | cons x r =>
      have e2 : fl c.dq = x.toNat :: r.map Int.toNat := by unfold fl; rw [hf]; rfl
      have s1 := (h.inv.sz (t := x.toNat) (by rw [e2]; simp)).1
      have s2 := tot_nn (f := szT c.work) (r.map Int.toNat) (fun t ht => by have := (h.inv.sz (t := t) (by rw [e2]; simp only [List.mem_cons]; exact .inr ht)).1; omega)
      rw [e2] at hu; simp only [tot] at hu; omega
  · intro e
    have e2 : fl c.dq = [] := by unfold fl; rw [e]; rfl
    rw [e2] at hu; simp only [tot] at hu; omega
theorem held_flat (d : List (List Int)) : held d = d.flatten.length := by
  unfold held; rw [List.length_flatten]
theorem tc_part (w : Work) (t : Int) : (partW w t).done = w.done := by unfold partW; split <;> rfl
theorem tc_begin (n g : Int) : tc (beginW n g).done = 0 := by
  unfold beginW; split
  · unfold tc; simp [List.count_replicate]
  · rfl
end Go.Pl
/-! 
  Plain data: a step of a crew that began, by what it is told.
-/
set_option linter.unusedSimpArgs false
set_option linter.unusedVariables false
namespace Go.Pl
variable {n g : Int} {c : Crew} {units : Int} {p v : Int}
theorem CInv.s_idle (h : CInv n g c units) (h1 : c.steps < 100000) (h2 : c.idle < 100000) (ht : (Pl.step c p v).2.1.task < 0) :
    (Pl.step c p v).1.work = c.work ∧ (Pl.step c p v).1.idle = c.idle + 1 ∧ CInv n g (Pl.step c p v).1 units := by
  obtain ⟨_, _, hc⟩ := h.step h1 h2 p v
  rcases hc with ⟨_, _, q1, q2, _, q3⟩ | ⟨_, q0, q1, _⟩ | ⟨_, q0, q1, _⟩
  · exact ⟨q1, q2, q3⟩
  · rw [q0] at ht; dsimp only at ht; omega
  · rw [q0] at ht; omega
theorem CInv.s_part (h : CInv n g c units) (h1 : c.steps < 100000) (h2 : c.idle < 100000) (ht : ¬ (Pl.step c p v).2.1.task < 0) (hp : (Pl.step c p v).2.1.parted = true) :
    (Pl.step c p v).1.idle = c.idle ∧ (Pl.step c p v).1.work.ts.length = c.work.ts.length + 2 ∧ (Pl.step c p v).1.work.done = c.work.done ∧ CInv n g (Pl.step c p v).1 units := by
  obtain ⟨_, _, hc⟩ := h.step h1 h2 p v
  rcases hc with ⟨_, q0, _⟩ | ⟨_, q0, q1, q2, q3, _, _, _, q4, q5⟩ | ⟨_, q0, q1, _⟩
  · rw [q0] at ht; exact absurd (show (-1 : Int) < 0 by decide) ht
  · exact ⟨q2, q3, by rw [q4, tc_part], q5⟩
  · rw [q0, (foundE_worker _ _ _ _).2] at hp; cases hp
theorem CInv.s_do (h : CInv n g c units) (h1 : c.steps < 100000) (h2 : c.idle < 100000) (ht : ¬ (Pl.step c p v).2.1.task < 0) (hp : ¬ (Pl.step c p v).2.1.parted = true) :
    (Pl.step c p v).1.idle = c.idle ∧ (Pl.step c p v).1.work.ts.length = c.work.ts.length ∧ (Pl.step c p v).2.1.task < (Pl.step c p v).1.work.ts.length ∧
    CInv n g (Pl.step c p v).1 (units + szT (Pl.step c p v).1.work (Pl.step c p v).2.1.task.toNat) ∧ (tc (Pl.step c p v).1.work.done : Int) = tc c.work.done + szT (Pl.step c p v).1.work (Pl.step c p v).2.1.task.toNat := by
  have hr := h.right (by omega) (by omega)
  have nb1 := num_bound c.dq p h.len1
  have nb2 := num_bound c.dq v h.len1
  obtain ⟨_, _, hc⟩ := h.step h1 h2 p v
  rcases hc with ⟨_, q0, _⟩ | ⟨_, q0, _⟩ | ⟨qb, q0, q1, q2, q3, q4, q5, q6, q7, q8, q9⟩
  · rw [q0] at ht; exact absurd (show (-1 : Int) < 0 by decide) ht
  · rw [q0] at hp; exact absurd rfl hp
  · have hsz : szT (Pl.step c p v).1.work (Pl.step c p v).2.1.task.toNat = szT c.work (evF c.dq p v).task.toNat := by
      unfold szT; rw [q0, q7, q8]
    rw [hsz]
    refine ⟨q2, q3, by rw [q0, q3]; exact q5, q9, ?_⟩
    have hperm := found_perm (e := evN c.dq p) (by omega) (by omega) qb
    have hi : Inv n g c.work ((evF c.dq p v).task.toNat :: fl (dqF c.dq p v)) units := h.inv.perm (hperm.map _)
    have htn : (((evF c.dq p v).task.toNat : Nat) : Int) = (evF c.dq p v).task := by omega
    have hgr := hi.great (t := (evF c.dq p v).task.toNat) (List.mem_cons_self ..)
    rw [htn] at hgr
    have hng : ¬ great c.work (evF c.dq p v).task := fun hg => by
      have hE := hi.part0 (hgr.1 hg)
      rw [htn] at hE
      have hl : (Pl.step c p v).1.work.ts.length = c.work.ts.length + 2 := by
        have h3 := go_part (d := dqF c.dq p v) (p := (num c.dq p).toNat) (o := c.over) (e := evF c.dq p v) rfl hg hE
        rw [step_4 hr (by omega) qb h3.1, h3.2.1, (part_ok hE).1]; simp [parted]
      omega
    have := tc_do hi (fun q => hng (hgr.2 q))
    rw [htn] at this
    rw [q6]; exact this
theorem CInv.s_ok (h : CInv n g c units) (h1 : c.steps < 100000) (h2 : c.idle < 100000) : (Pl.step c p v).2.2 = 0 ∧ (Pl.step c p v).1.steps = c.steps + 1 := by
  obtain ⟨a, b, _⟩ := h.step h1 h2 p v; exact ⟨a, b⟩
theorem CInv.over (h : CInv n g c units) : c.over = decide (units = n) := by
  have h1 := h.ov
  have h2 := h.over_iff
  rw [Bool.eq_iff_iff, decide_eq_true_eq, h1, h2]
theorem CInv.held (h : CInv n g c units) : (Pl.held c.dq = 0 ↔ units = n) := by
  rw [held_flat, h.over_iff, List.length_eq_zero_iff]
end Go.Pl
/-! 
  Plain data: behind a step a crew is right.
-/
set_option linter.unusedSimpArgs false
set_option linter.unusedVariables false
namespace Go.Pl
theorem CInv.s_right {n g : Int} {c : Crew} {units : Int} {p v : Int} (h : CInv n g c units) (h1 : c.steps < 100000) (h2 : c.idle < 100000) : crewRight (Pl.step c p v).1 := by
  obtain ⟨_, hs, hc⟩ := h.step h1 h2 p v
  rcases hc with ⟨_, _, _, q2, _, q3⟩ | ⟨_, _, _, q2, _, _, _, _, _, q3⟩ | ⟨_, _, _, q2, _, _, _, _, _, _, q3⟩
  · exact q3.right (by omega) (by omega)
  · exact q3.right (by omega) (by omega)
  · exact q3.right (by omega) (by omega)
theorem tc_succ (d : List Bool) (x : Nat) (h : x < d.length) : tc (d.take (x + 1)) = tc (d.take x) + (if d.getD x default = true then 1 else 0) := by
  unfold tc
  rw [List.take_add_one, List.count_append, List.getD_eq_getElem?_getD, List.getElem?_eq_getElem h]
  cases d[x] <;> simp
theorem tc_le (d : List Bool) : tc d ≤ d.length := List.count_le_length
theorem held_le_mul {m : Nat} : ∀ (d : List (List Int)), (∀ l, l ∈ d → l.length ≤ m) → Pl.held d ≤ d.length * m
  | [], _ => by simp [Pl.held]
  | x :: d, h => by
    have h1 := h x (by simp)
    have h2 := held_le_mul d (fun l hl => h l (by simp [hl]))
    have e : Pl.held (x :: d) = x.length + Pl.held d := by simp [Pl.held]
    rw [e, List.length_cons, Nat.add_mul]; omega
theorem CInv.held_small {n g : Int} {c : Crew} {units : Int} (h : CInv n g c units) (hg : good c) : Pl.held c.dq ≤ 1000000000 ∧ c.dq.length ≤ 1000000 := by
  have h1 := held_le_mul c.dq (fun l hl => (good_hl hg l hl).1)
  have h2 := h.len8
  have h3 : c.dq.length * 1000000 ≤ 8 * 1000000 := Nat.mul_le_mul_right _ h2
  omega
end Go.Pl
