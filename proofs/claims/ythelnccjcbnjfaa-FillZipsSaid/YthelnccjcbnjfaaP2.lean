/-
  Texts joined: PlB, PlC, PlD.
-/
import Derived.Test.YthelnccjcbnjfaaP1
import Derived.Test.YthelnccjcbnjfaaF3
/-! 
  Plain data: which tasks were met.
-/
set_option linter.unusedSimpArgs false
set_option linter.unusedVariables false
namespace Go.Pl
open Go.Am
def metM (l : List Int) : List Int → Option PV
  | [t] => if 0 < l.count t then some (.lit (.int .i64 (l.count t))) else none
  | _ => none
theorem metM_get (l : List Int) (t : Int) : (metM l [t]).getD (.lit (.int .i64 0)) = .lit (.int .i64 (l.count t)) := by
  simp only [metM]
  by_cases h : 0 < l.count t
  · rw [if_pos h]; rfl
  · rw [if_neg h, show l.count t = 0 by omega]; rfl
theorem metM_nil : (fun _ => none) = metM [] := by
  funext q
  match q with
  | [] => rfl
  | [u] => simp [metM]
  | _ :: _ :: _ => rfl
theorem metM_set (l : List Int) (t : Int) : setM (metM l) [t] (.lit (.int .i64 (l.count t + 1))) = metM (l ++ [t]) := by
  funext q
  unfold setM
  split
  · rename_i e; subst e
    simp [metM]
  · rename_i e
    match q, e with
    | [], _ => rfl
    | [u], e =>
      have hu : t ≠ u := fun h => e (by rw [h])
      simp [metM, List.count_append, List.count_singleton, hu]
    | _ :: _ :: _, _ => rfl
theorem flat_succ (d : List (List Int)) (x : Nat) (h : x < d.length) : (d.take (x + 1)).flatten = (d.take x).flatten ++ d.getD x default := by
  rw [List.take_add_one, List.flatten_append, List.getD_eq_getElem?_getD, List.getElem?_eq_getElem h]; simp
theorem take_succ_at (l : List Int) (y : Nat) (h : y < l.length) : l.take (y + 1) = l.take y ++ [l.getD y default] := by
  rw [List.take_add_one, List.getD_eq_getElem?_getD, List.getElem?_eq_getElem h]; simp
theorem getD_mem {α : Type} (l : List α) (i : Nat) (d : α) (h : i < l.length) : l.getD i d ∈ l := by
  rw [List.getD_eq_getElem?_getD, List.getElem?_eq_getElem h]; exact List.getElem_mem _
/-- all tasks met so far are once there, and may be held -/
def metOk (w : Work) (l : List Int) : Prop := l.Nodup ∧ ∀ t, t ∈ l → holds w t
theorem metOk_nil (w : Work) : metOk w [] := ⟨List.nodup_nil, fun _ h => by cases h⟩
theorem count_pos_end (l : List Int) (t : Int) : (l ++ [t]).count t = l.count t + 1 := by simp
theorem metOk_snoc {w : Work} {l : List Int} {t : Int} (h : metOk w l) (h2 : ¬ (1 < ((l ++ [t]).count t : Int) ∨ ¬ holds w t)) : metOk w (l ++ [t]) := by
  rw [count_pos_end] at h2
  have hh : holds w t := Decidable.not_not.mp fun q => h2 (.inr q)
  have hc : l.count t = 0 := by omega
  refine ⟨?_, fun u hu => ?_⟩
  · rw [List.nodup_append]
    refine ⟨h.1, by simp, fun a ha b hb => ?_⟩
    simp at hb; subst hb
    intro e; subst e
    exact List.count_eq_zero.1 hc ha
  · rcases List.mem_append.1 hu with q | q
    · exact h.2 u q
    · simp at q; subst q; exact hh
theorem crewRight_no {c : Crew} {l r : List Int} {t : Int} (h2 : 1 < ((l ++ [t]).count t : Int) ∨ ¬ holds c.work t) (e : c.dq.flatten = (l ++ [t]) ++ r) : ¬ crewRight c := by
  intro ⟨_, _, _, _, _, hn, hh⟩
  rcases h2 with q | q
  · rw [e] at hn
    have h3 := (List.nodup_append.1 hn).1
    have := List.nodup_iff_count.1 h3 t
    omega
  · exact q (hh t (by rw [e]; simp))
theorem flat_at (d : List (List Int)) (x y : Nat) (h : x < d.length) (hy : y < (d.getD x default).length) : ∃ r, d.flatten = (((d.take x).flatten ++ (d.getD x default).take y) ++ [(d.getD x default).getD y default]) ++ r := by
  refine ⟨(d.getD x default).drop (y + 1) ++ (d.drop (x + 1)).flatten, ?_⟩
  have e1 : d.flatten = (d.take (x + 1)).flatten ++ (d.drop (x + 1)).flatten := by rw [← List.flatten_append, List.take_append_drop]
  have e2 : d.getD x default = (d.getD x default).take (y + 1) ++ (d.getD x default).drop (y + 1) := (List.take_append_drop _ _).symm
  rw [take_succ_at _ _ hy] at e2
  rw [e1, flat_succ d x h]
  conv => lhs; rw [e2]
  simp [List.append_assoc]
theorem leB_liftS {hp : List (Nat × Blk)} {π : List (Nat × Nat)} {sz : Nat} (es : List (List PV)) (i : Nat) {x y : List PV} (h : LeRow hp π (x.map .p) (y.map .p)) : LeB hp π (.row sz (lift (es.set i x))) (.row sz (lift (es.set i y))) := by
  refine ⟨rfl, by simp [lift], fun k cs ds h1 h2 => ?_⟩
  simp only [lift, List.getElem?_map, List.getElem?_set] at h1 h2
  by_cases e : i = k
  · subst e
    simp only [if_true] at h1 h2
    split at h1
    · rename_i hlt
      simp only [hlt, if_true, Option.map_some, Option.some.injEq] at h1 h2
      subst h1 h2; exact h
    · cases h1
  · simp only [e, if_false] at h1 h2
    rw [h1] at h2
    simp only [Option.some.injEq] at h2; subst h2
    cases hk : es[k]? with
    | none => rw [hk] at h1; cases h1
    | some r =>
      rw [hk] at h1
      simp only [Option.map_some, Option.some.injEq] at h1; subst h1
      refine ⟨rfl, fun j u w hu hw => ?_⟩
      rw [hu] at hw; simp only [Option.some.injEq] at hw; subst hw
      rw [List.getElem?_map] at hu
      cases hj : r[j]? with
      | none => rw [hj] at hu; cases hu
      | some z => rw [hj] at hu; simp only [Option.map_some, Option.some.injEq] at hu; subst hu; exact .p (.refl _)
end Go.Pl
/-! 
  Plain data: a step of a crew.
-/
set_option linter.unusedSimpArgs false
set_option linter.unusedVariables false
namespace Go.Pl
def goE (w : Work) (t : Int) : Int := if great w t then partE w t else doE w t
def goW (w : Work) (t : Int) : Work := if great w t then partW w t else doW w t
def goD (d : List (List Int)) (p : Nat) (w : Work) (t : Int) : List (List Int) := if great w t ∧ partE w t = 0 then d.set p (d.getD p default ++ [partB w t, partA w t]) else d
def goO (o : Bool) (w : Work) (t : Int) : Bool := if great w t then o else (o || doO w t)
def goV (e : Event) (w : Work) : Event := if great w e.task ∧ partE w e.task = 0 then { e with parted := true } else e
theorem go_part {w : Work} {t : Int} {d : List (List Int)} {p : Nat} {o : Bool} {e : Event} (ht : e.task = t) (h : great w t) (h2 : partE w t = 0) :
    goE w t = 0 ∧ goW w t = partW w t ∧ goD d p w t = d.set p (d.getD p default ++ [partB w t, partA w t]) ∧ goO o w t = o ∧ goV e w = { e with parted := true } := by
  subst ht
  refine ⟨?_, ?_, ?_, ?_, ?_⟩
  · rw [goE, if_pos h, h2]
  · rw [goW, if_pos h]
  · rw [goD, if_pos ⟨h, h2⟩]
  · rw [goO, if_pos h]
  · rw [goV, if_pos ⟨h, h2⟩]
theorem go_parterr {w : Work} {t : Int} {d : List (List Int)} {p : Nat} {o : Bool} {e : Event} (ht : e.task = t) (h : great w t) (h2 : ¬ partE w t = 0) :
    goE w t = partE w t ∧ goW w t = partW w t ∧ goD d p w t = d ∧ goO o w t = o ∧ goV e w = e := by
  subst ht
  refine ⟨?_, ?_, ?_, ?_, ?_⟩
  · rw [goE, if_pos h]
  · rw [goW, if_pos h]
  · rw [goD, if_neg (fun q => h2 q.2)]
  · rw [goO, if_pos h]
  · rw [goV, if_neg (fun q => h2 q.2)]
theorem go_do {w : Work} {t : Int} {d : List (List Int)} {p : Nat} {o : Bool} {e : Event} (ht : e.task = t) (h : ¬ great w t) :
    goE w t = doE w t ∧ goW w t = doW w t ∧ goD d p w t = d ∧ goO o w t = (o || doO w t) ∧ goV e w = e := by
  subst ht
  refine ⟨?_, ?_, ?_, ?_, ?_⟩
  · rw [goE, if_neg h]
  · rw [goW, if_neg h]
  · rw [goD, if_neg (fun q => h q.1)]
  · rw [goO, if_neg h]
  · rw [goV, if_neg (fun q => h q.1)]
end Go.Pl
/-! 
  Plain data: a crew's step, whole.
-/
set_option linter.unusedSimpArgs false
set_option linter.unusedVariables false
namespace Go.Pl
def ev0 : Event := ⟨0, 0, 0, false⟩
@[reducible] def evN (d : List (List Int)) (p : Int) : Event := ⟨num d p, -1, -1, false⟩
@[reducible] def evF (d : List (List Int)) (p v : Int) : Event := foundE d (num d p).toNat (num d v).toNat (evN d p)
@[reducible] def dqF (d : List (List Int)) (p v : Int) : List (List Int) := foundD d (num d p).toNat (num d v).toNat
def step (c : Crew) (p v : Int) : Crew × Event × Int :=
  if ¬ crewRight c then (c, ev0, 1) else if c.steps = 100000 then (c, ev0, 2) else
  if foundB c.dq (num c.dq p).toNat (num c.dq v).toNat = true then
    if goE c.work (evF c.dq p v).task ≠ 0 then (c, ev0, goE c.work (evF c.dq p v).task)
    else (⟨goW c.work (evF c.dq p v).task, goD (dqF c.dq p v) (num c.dq p).toNat c.work (evF c.dq p v).task, goO c.over c.work (evF c.dq p v).task, c.steps + 1, c.idle⟩, goV (evF c.dq p v) c.work, 0)
  else if c.idle = 100000 then (c, ev0, 2) else (⟨c.work, c.dq, c.over, c.steps + 1, c.idle + 1⟩, evN c.dq p, 0)
variable {c : Crew} {p v : Int}
theorem step_1 (h : ¬ crewRight c) : step c p v = (c, ev0, 1) := by rw [step, if_pos h]
theorem step_2 (h : crewRight c) (h2 : c.steps = 100000) : step c p v = (c, ev0, 2) := by rw [step, if_neg (by simpa using h), if_pos h2]
theorem step_3 (h : crewRight c) (h2 : ¬ c.steps = 100000) (h3 : foundB c.dq (num c.dq p).toNat (num c.dq v).toNat = true) (h4 : goE c.work (evF c.dq p v).task ≠ 0) : step c p v = (c, ev0, goE c.work (evF c.dq p v).task) := by
  rw [step, if_neg (by simpa using h), if_neg h2, if_pos h3, if_pos h4]
theorem step_4 (h : crewRight c) (h2 : ¬ c.steps = 100000) (h3 : foundB c.dq (num c.dq p).toNat (num c.dq v).toNat = true) (h4 : goE c.work (evF c.dq p v).task = 0) : step c p v = (⟨goW c.work (evF c.dq p v).task, goD (dqF c.dq p v) (num c.dq p).toNat c.work (evF c.dq p v).task, goO c.over c.work (evF c.dq p v).task, c.steps + 1, c.idle⟩, goV (evF c.dq p v) c.work, 0) := by
  rw [step, if_neg (by simpa using h), if_neg h2, if_pos h3, if_neg (by simpa using h4)]
theorem step_5 (h : crewRight c) (h2 : ¬ c.steps = 100000) (h3 : foundB c.dq (num c.dq p).toNat (num c.dq v).toNat = false) (h4 : c.idle = 100000) : step c p v = (c, ev0, 2) := by
  rw [step, if_neg (by simpa using h), if_neg h2, if_neg (by simp [h3]), if_pos h4]
theorem step_6 (h : crewRight c) (h2 : ¬ c.steps = 100000) (h3 : foundB c.dq (num c.dq p).toNat (num c.dq v).toNat = false) (h4 : ¬ c.idle = 100000) : step c p v = (⟨c.work, c.dq, c.over, c.steps + 1, c.idle + 1⟩, evN c.dq p, 0) := by
  rw [step, if_neg (by simpa using h), if_neg h2, if_neg (by simp [h3]), if_neg h4]
theorem none_found {d : List (List Int)} {p v : Nat} {e : Event} (h : foundB d p v = false) : foundE d p v e = e ∧ foundD d p v = d := by
  have h' := of_decide_eq_false h
  have h1 : ¬ 0 < (d.getD p default).length := fun q => h' (.inl q)
  have h2 : ¬ 0 < (d.getD v default).length := fun q => h' (.inr q)
  exact ⟨by rw [foundE, if_neg h1, if_neg h2], by rw [foundD, if_neg h1, if_neg h2]⟩
theorem num_bound (d : List (List Int)) (n : Int) (h : 1 ≤ d.length) : 0 ≤ num d n ∧ num d n < d.length :=
  ⟨Int.emod_nonneg _ (by omega), Int.emod_lt_of_pos _ (by omega)⟩
theorem foundD_len (d : List (List Int)) (p v : Nat) : (foundD d p v).length = d.length := by
  unfold foundD; split
  · simp
  · split <;> simp
theorem foundD_lens {d : List (List Int)} {p v : Nat} (hp : p < d.length) (hv : v < d.length) {m : Nat} (h : ∀ l, l ∈ d → l.length ≤ m) : ∀ l, l ∈ foundD d p v → l.length ≤ m := by
  have h1 := h _ (getD_mem d p default hp)
  have h2 := h _ (getD_mem d v default hv)
  intro l hl
  unfold foundD at hl
  split at hl
  · rcases List.mem_or_eq_of_mem_set hl with q | q
    · exact h l q
    · subst q; rw [List.length_take]; omega
  · split at hl
    · rcases List.mem_or_eq_of_mem_set hl with q | q
      · exact h l q
      · subst q; rw [List.length_drop]; omega
    · exact h l hl
end Go.Pl
