/-
  Plain data: which tasks are gone at; one who works alone.
-/
import Derived.Test.YthelnccjcbnjfaaP3
set_option linter.unusedSimpArgs false
set_option linter.unusedVariables false
namespace Go.Pl
def gone : List Event → List Int
  | [] => []
  | e :: l => if e.task < 0 then gone l else e.task :: gone l
theorem gone_app (a b : List Event) : gone (a ++ b) = gone a ++ gone b := by
  induction a with
  | nil => rfl
  | cons e a ih => simp only [List.cons_append, gone]; split <;> simp [ih]
theorem gone_take (l : List Event) (i : Nat) (h : i < l.length) : gone (l.take (i + 1)) = gone (l.take i) ++ (if (l.getD i default).task < 0 then [] else [(l.getD i default).task]) := by
  rw [List.take_add_one, gone_app, List.getD_eq_getElem?_getD, List.getElem?_eq_getElem h]
  simp only [Option.toList_some, Option.getD_some, gone]
theorem gone_split (l : List Event) (i : Nat) (h : i < l.length) (ht : ¬ (l.getD i default).task < 0) : ∃ r, gone l = gone (l.take i) ++ (l.getD i default).task :: r := by
  refine ⟨gone (l.drop (i + 1)), ?_⟩
  have e : l = l.take (i + 1) ++ l.drop (i + 1) := (List.take_append_drop _ _).symm
  conv => lhs; rw [e]
  rw [gone_app, gone_take l i h, if_neg ht]; simp
theorem gone_le (ev : List Event) : (gone ev).length ≤ ev.length := by
  induction ev with
  | nil => exact Nat.le_refl _
  | cons e l ih => simp only [gone]; split <;> simp <;> omega
theorem gone_nn (l : List Event) : ∀ t, t ∈ gone l → 0 ≤ t := by
  induction l with
  | nil => intro t h; cases h
  | cons e l ih =>
    intro t h
    simp only [gone] at h
    split at h
    · exact ih t h
    · rcases List.mem_cons.1 h with rfl | q
      · omega
      · exact ih t q
def TInv (c : Crew) (ev : List Event) : Prop := ((gone ev).map Int.toNat ++ fl c.dq).Perm (List.range c.work.ts.length)
theorem TInv.step {n g : Int} {c : Crew} {units : Int} {ev : List Event} (hT : TInv c ev) (h : CInv n g c units) (h1 : c.steps < 100000) (h2 : c.idle < 100000) (p v : Int) :
    TInv (step c p v).1 (ev ++ [(step c p v).2.1]) := by
  have nb1 := num_bound c.dq p h.len1
  have nb2 := num_bound c.dq v h.len1
  obtain ⟨_, _, hc⟩ := h.step h1 h2 p v
  unfold TInv at *
  rcases hc with ⟨_, q0, q1, q2, q3, _⟩ | ⟨qb, q0, q1, q2, q3, q4, q5, q6, q7, _⟩ | ⟨qb, q0, q1, q2, q3, q4, _⟩
  · rw [q0, q1, q3, gone_app]; simp only [gone]; simp only [show (-1 : Int) < 0 by decide, if_true, List.append_nil]; exact hT
  · have hp := found_perm (e := evN c.dq p) (by omega) (by omega) qb
    have hpg := goD_perm (d := dqF c.dq p v) (p := (num c.dq p).toNat) (by rw [foundD_len]; omega) (partB c.work (evF c.dq p v).task) (partA c.work (evF c.dq p v).task)
    obtain ⟨_, a1, a2, _⟩ := part_ok q6
    rw [q0, q3, q4, gone_app]
    simp only [gone]
    rw [if_neg (by omega), goD, if_pos ⟨q5, q6⟩, List.range_succ, List.range_succ]
    have e1 := hpg.map Int.toNat
    rw [List.map_append] at e1
    simp only [List.map_cons, List.map_nil, a1, a2] at e1
    have e2 := hp.map Int.toNat
    unfold fl at *
    simp only [List.map_cons] at e2
    have e3 := (List.Perm.append_left ((gone ev).map Int.toNat) e2).symm.trans hT
    rw [List.map_append]
    simp only [List.map_cons, List.map_nil, a1, a2]
    refine (List.Perm.append_left _ e1).trans ?_
    rw [← List.append_assoc, List.append_assoc (List.range _)]
    refine List.Perm.append (by rw [List.append_assoc]; exact e3) ?_
    rw [show ((c.work.ts.length : Int)).toNat = c.work.ts.length by omega, show ((c.work.ts.length : Int) + 1).toNat = c.work.ts.length + 1 by omega]
    exact List.Perm.refl _
  · have hp := found_perm (e := evN c.dq p) (by omega) (by omega) qb
    rw [q0, q3, q4, gone_app]
    simp only [gone]
    rw [if_neg (by omega)]
    have e2 := hp.map Int.toNat
    unfold fl at *
    simp only [List.map_cons] at e2
    have e3 := (List.Perm.append_left ((gone ev).map Int.toNat) e2).symm.trans hT
    rw [List.map_append, List.append_assoc]
    exact e3
theorem TInv.begins {n g p : Int} (hc : cnt n g) (hp : 1 ≤ p ∧ p ≤ 8) : TInv (crewBegin n g p).1 [] := by
  have e : crewBegin n g p = (⟨beginW n g, dq0 p, false, 0, 0⟩, 0) := by rw [crewBegin, if_neg (by omega), if_neg (by simpa using hc)]
  have hf : (dq0 p).flatten = [0] := by
    unfold dq0
    rw [flat_set _ 0 (by simp; omega)]
    simp
  unfold TInv fl
  rw [e, beginW, if_pos hc]
  dsimp only
  rw [hf]
  simp [gone]
theorem run_inv {n g : Int} : ∀ (P : List (Int × Int)) (c : Crew) (units : Int) (ev : List Event), CInv n g c units → TInv c ev → good c → c.idle ≤ c.steps → c.steps + P.length ≤ 100000 →
    (run c P ev).2.2 = 0 ∧ (run c P ev).2.1.length = ev.length + P.length ∧ ∃ units', CInv n g (run c P ev).1 units' ∧ TInv (run c P ev).1 (run c P ev).2.1 ∧ good (run c P ev).1
  | [], c, units, ev, h, hT, hg, _, _ => ⟨rfl, rfl, units, h, hT, hg⟩
  | q :: P, c, units, ev, h, hT, hg, hi, hs => by
    simp only [List.length_cons] at hs
    have h1 : c.steps < 100000 := by omega
    have h2 : c.idle < 100000 := by omega
    obtain ⟨z0, z1, hc⟩ := h.step h1 h2 q.1 q.2
    have hT' := hT.step h h1 h2 q.1 q.2
    have hg' := step_good hg z0
    simp only [run]
    rw [if_neg (by simpa using z0)]
    have : ∃ u', CInv n g (step c q.1 q.2).1 u' ∧ (step c q.1 q.2).1.idle ≤ c.idle + 1 := by
      rcases hc with ⟨_, _, _, q2, _, q3⟩ | ⟨_, _, _, q2, _, _, _, _, _, q3⟩ | ⟨_, _, _, q2, _, _, _, _, _, _, q3⟩
      · exact ⟨_, q3, by omega⟩
      · exact ⟨_, q3, by omega⟩
      · exact ⟨_, q3, by omega⟩
    obtain ⟨u', hI', hi'⟩ := this
    have ih := run_inv P (step c q.1 q.2).1 u' (ev ++ [(step c q.1 q.2).2.1]) hI' hT' hg' (by omega) (by omega)
    refine ⟨ih.1, ?_, ih.2.2⟩
    rw [ih.2.1]; simp; omega
theorem run_tasks {n g p : Int} (hc : cnt n g) (hp : 1 ≤ p ∧ p ≤ 8) (P : List (Int × Int)) (hP : P.length ≤ 100000) :
    (run (crewBegin n g p).1 P []).2.2 = 0 ∧ (run (crewBegin n g p).1 P []).2.1.length = P.length ∧ ∃ units', CInv n g (run (crewBegin n g p).1 P []).1 units' ∧ TInv (run (crewBegin n g p).1 P []).1 (run (crewBegin n g p).1 P []).2.1 ∧ good (run (crewBegin n g p).1 P []).1 := by
  obtain ⟨b0, b1, b2, _, _, b5⟩ := CInv.begins hc hp
  have := run_inv P (crewBegin n g p).1 0 [] b5 (TInv.begins hc hp) begin_good (by omega) (by omega)
  simpa using this
theorem TInv.len {c : Crew} {ev : List Event} (h : TInv c ev) : (gone ev).length + held c.dq = c.work.ts.length := by
  have := h.length_eq
  rw [List.length_append, List.length_map, List.length_range, fl, List.length_map] at this
  rw [held_flat]; exact this
theorem TInv.at {c : Crew} {ev : List Event} (h : TInv c ev) {i : Nat} (hi : i < ev.length) (ht : ¬ (ev.getD i default).task < 0) :
    (ev.getD i default).task < c.work.ts.length ∧ (ev.getD i default).task ∉ gone (ev.take i) := by
  obtain ⟨r, hr⟩ := gone_split ev i hi ht
  unfold TInv at h
  have hn := h.nodup_iff.2 List.nodup_range
  have hm : (ev.getD i default).task.toNat ∈ List.range c.work.ts.length := h.mem_iff.1 (by rw [hr]; simp)
  refine ⟨by have := List.mem_range.1 hm; omega, fun hq => ?_⟩
  rw [hr] at hn
  have hn1 := (List.nodup_append.1 hn).1
  rw [List.map_append] at hn1
  exact (List.nodup_append.1 hn1).2.2 _ (List.mem_map_of_mem hq) (ev.getD i default).task.toNat (by simp) rfl
theorem metL_snoc {n : Nat} {a : List Int} {x : Int} (h0 : 0 ≤ x) : (metL n a).set x.toNat true = metL n (a ++ [x]) := by
  have := metL_set (n := n) (a := a ++ [x]) (i := a.length) (by simp) (by simpa using h0)
  rw [List.take_left, show (a ++ [x]).getD a.length 0 = x by simp, List.take_of_length_le (by simp)] at this
  exact this
theorem tasks_end {n g : Int} {c : Crew} {units : Int} {ev : List Event} (h : CInv n g c units) (hT : TInv c ev) :
    (c.work.ts.length : Int) ≤ cntT n g ∧ (c.over = true ↔ ((gone ev).length : Int) = cntT n g) := by
  have h1 := h.inv.len.1
  have h2 := hT.len
  refine ⟨h1, ?_⟩
  rw [h.ov]
  constructor
  · intro e
    have e2 : fl c.dq = [] := by unfold fl; rw [e]; rfl
    have h3 := h.inv
    rw [e2] at h3
    have h4 := h3.ends.2.1
    rw [held_flat, e] at h2
    simp only [List.length_nil] at h2
    omega
  · intro e
    rw [held_flat] at h2
    exact List.eq_nil_of_length_eq_zero (by omega)
/-! ## alone -/
/-- the tasks of a deque, from its bottom on, lie side by side from a place up to another one -/
def chain (ts : List Task) : Int → List Int → Int → Prop
  | a, [], b => a = b
  | a, t :: l, b => (ts.getD t.toNat default).low = a ∧ chain ts (ts.getD t.toNat default).high l b
theorem chain_app (ts : List Task) : ∀ (l m : List Int) (a b : Int), chain ts a (l ++ m) b ↔ ∃ c, chain ts a l c ∧ chain ts c m b
  | [], m, a, b => by simp [chain]
  | t :: l, m, a, b => by
    simp only [List.cons_append, chain, chain_app ts l m, and_assoc]
    constructor
    · rintro ⟨h, c, h1, h2⟩; exact ⟨c, h, h1, h2⟩
    · rintro ⟨c, h, h1, h2⟩; exact ⟨h, c, h1, h2⟩
theorem chain_congr {ts ts' : List Task} : ∀ (l : List Int) (a b : Int), (∀ t, t ∈ l → (ts'.getD t.toNat default).low = (ts.getD t.toNat default).low ∧ (ts'.getD t.toNat default).high = (ts.getD t.toNat default).high) → chain ts a l b → chain ts' a l b
  | [], a, b, _, h => h
  | t :: l, a, b, hl, h => by
    obtain ⟨e1, e2⟩ := hl t (by simp)
    simp only [chain] at h ⊢
    rw [e1, e2]
    exact ⟨h.1, chain_congr l _ b (fun x hx => hl x (by simp [hx])) h.2⟩
def Own (n : Int) (c : Crew) (at' : Int) : Prop := ∃ l, c.dq = [l] ∧ chain c.work.ts at' l.reverse n
theorem num_one (l : List Int) (p : Int) : num [l] p = 0 := by
  unfold num
  simp only [List.length_cons, List.length_nil]
  rw [show ((0 + 1 : Nat) : Int) = 1 from rfl]
  exact Int.emod_one _
theorem Own.begins {n g : Int} (hc : cnt n g) : Own n (crewBegin n g 1).1 0 := by
  have e : crewBegin n g 1 = (⟨beginW n g, dq0 1, false, 0, 0⟩, 0) := by rw [crewBegin, if_neg (by omega), if_neg (by simpa using hc)]
  rw [e, beginW, if_pos hc]
  exact ⟨[0], rfl, by simp [chain]⟩
theorem fin_low : ∀ (k : Nat) (ts : List Task) (up : Int) (x : Nat), ((fin k ts up).1.getD x default).low = (ts.getD x default).low ∧ ((fin k ts up).1.getD x default).high = (ts.getD x default).high
  | 0, ts, up, x => ⟨rfl, rfl⟩
  | k + 1, ts, up, x => by
    have hs : ∀ (w : Int), ((ts.set up.toNat { ts.getD up.toNat default with wait := w }).getD x default).low = (ts.getD x default).low ∧ ((ts.set up.toNat { ts.getD up.toNat default with wait := w }).getD x default).high = (ts.getD x default).high := fun w => by
      by_cases e : up.toNat = x
      · subst e
        by_cases hl : up.toNat < ts.length
        · rw [getD_set_self hl]; exact ⟨rfl, rfl⟩
        · rw [List.set_eq_of_length_le (by omega)]; exact ⟨rfl, rfl⟩
      · rw [getD_set_ne e]; exact ⟨rfl, rfl⟩
    simp only [fin]
    split
    · exact ⟨rfl, rfl⟩
    · split
      · exact ⟨rfl, rfl⟩
      · split
        · exact hs _
        · have h1 := fin_low k (ts.set up.toNat { ts.getD up.toNat default with wait := (ts.getD up.toNat default).wait - 1 }) (ts.getD up.toNat default).up x
          have h2 := hs ((ts.getD up.toNat default).wait - 1)
          exact ⟨h1.1.trans h2.1, h1.2.trans h2.2⟩
theorem doW_low (w : Work) (i : Int) (x : Nat) : ((doW w i).ts.getD x default).low = (w.ts.getD x default).low ∧ ((doW w i).ts.getD x default).high = (w.ts.getD x default).high := by
  unfold doW
  split
  · exact fin_low _ _ _ _
  · exact ⟨rfl, rfl⟩
theorem parted_low (w : Work) (i : Int) (x : Nat) (hx : x < w.ts.length) : ((parted w i).ts.getD x default).low = (w.ts.getD x default).low ∧ ((parted w i).ts.getD x default).high = (w.ts.getD x default).high := by
  simp only [parted]
  rw [List.getD_eq_getElem?_getD, List.getElem?_append_left (by simpa using hx), ← List.getD_eq_getElem?_getD]
  by_cases e : i.toNat = x
  · subst e; rw [getD_set_self hx]; exact ⟨rfl, rfl⟩
  · rw [getD_set_ne e]; exact ⟨rfl, rfl⟩
theorem parted_new (w : Work) (i : Int) : ((parted w i).ts.getD w.ts.length default) = ⟨(task w i).low, mid (task w i), i, 0⟩ ∧ ((parted w i).ts.getD (w.ts.length + 1) default) = ⟨mid (task w i), (task w i).high, i, 0⟩ := by
  simp only [parted]
  constructor
  · rw [List.getD_eq_getElem?_getD, List.getElem?_append_right (by simp)]; simp
  · rw [List.getD_eq_getElem?_getD, List.getElem?_append_right (by simp)]; simp
theorem found_one (l : List Int) (e : Event) : (l = [] ∧ foundB [l] 0 0 = false ∧ foundD [l] 0 0 = [l] ∧ foundE [l] 0 0 e = e) ∨
    ∃ k t, l = k ++ [t] ∧ foundB [l] 0 0 = true ∧ foundD [l] 0 0 = [k] ∧ foundE [l] 0 0 e = { e with src := 0, task := t } := by
  rcases List.eq_nil_or_concat l with rfl | ⟨k, t, rfl⟩
  · exact .inl ⟨rfl, rfl, rfl, rfl⟩
  · refine .inr ⟨k, t, by simp, ?_, ?_, ?_⟩
    · simp [foundB]
    · simp [foundD]
    · simp [foundE]
theorem Own.step {n g : Int} {c : Crew} {units a : Int} (hO : Own n c a) (h : CInv n g c units) (h1 : c.steps < 100000) (h2 : c.idle < 100000) (p v : Int) :
    (step c p v).2.1.worker = 0 ∧ (((step c p v).2.1.task = -1 ∧ (step c p v).2.1.src = -1 ∧ held c.dq = 0 ∧ Own n (step c p v).1 a) ∨
      (0 ≤ (step c p v).2.1.task ∧ (step c p v).2.1.src = 0 ∧ 0 < held c.dq ∧ (((step c p v).2.1.parted = true ∧ Own n (step c p v).1 a) ∨
        ((step c p v).2.1.parted = false ∧ (step c p v).2.1.task < (step c p v).1.work.ts.length ∧ ((step c p v).1.work.ts.getD (step c p v).2.1.task.toNat default).low = a ∧ Own n (step c p v).1 ((step c p v).1.work.ts.getD (step c p v).2.1.task.toNat default).high)))) := by
  obtain ⟨l, hd, hch⟩ := hO
  have n1 := num_one l p
  have n2 := num_one l v
  have hF := found_one l (evN [l] p)
  have hmem := h.inv.gg.rng
  have hnn := h.nn
  obtain ⟨_, _, hc⟩ := h.step h1 h2 p v
  simp only [hd, evF, dqF, n1, n2, show (0 : Int).toNat = 0 from rfl] at hc hmem hnn
  rcases hF with ⟨rfl, f1, f2, f3⟩ | ⟨k, t, rfl, f1, f2, f3⟩
  · rw [f1, f2, f3] at hc
    rcases hc with ⟨_, q0, q1, q2, q3, _⟩ | ⟨qb, _⟩ | ⟨qb, _⟩
    · rw [q0, hd]
      exact ⟨num_one [] p, .inl ⟨rfl, rfl, rfl, ⟨[], q3, by rw [q1]; exact hch⟩⟩⟩
    · cases qb
    · cases qb
  · rw [f1, f2, f3] at hc
    dsimp only at hc
    have hheld : 0 < held c.dq := by rw [hd]; simp [held]
    have hrng : ∀ x, x ∈ k → x.toNat < c.work.ts.length := fun x hx => (hmem x.toNat (by unfold fl; simp only [List.flatten_cons, List.flatten_nil, List.append_nil]; exact List.mem_map_of_mem (by simp [hx]))).1
    have ht0 : 0 ≤ t := hnn t (by simp)
    have htl : t.toNat < c.work.ts.length := (hmem t.toNat (by unfold fl; simp only [List.flatten_cons, List.flatten_nil, List.append_nil]; exact List.mem_map_of_mem (by simp))).1
    rw [List.reverse_append, List.reverse_singleton, List.singleton_append] at hch
    obtain ⟨hlow, hch⟩ := hch
    rcases hc with ⟨qb, _⟩ | ⟨_, q0, q1, q2, q3, q4, q5, q6, q7, _⟩ | ⟨_, q0, q1, q2, q3, q4, q5, q6, q7, q8, _⟩
    · cases qb
    · rw [q0]
      refine ⟨num_one _ p, .inr ⟨q1, rfl, hheld, .inl ⟨rfl, ?_⟩⟩⟩
      obtain ⟨e1, e2, e3, _⟩ := part_ok q6
      obtain ⟨g1, g2⟩ := parted_new c.work t
      refine ⟨k ++ [partB c.work t, partA c.work t], by rw [q4, goD, if_pos ⟨q5, q6⟩]; rfl, ?_⟩
      rw [q7, e1, e2, e3, List.reverse_append]
      simp only [List.reverse_cons, List.reverse_nil, List.nil_append, List.singleton_append, List.cons_append, chain]
      rw [show ((c.work.ts.length : Int)).toNat = c.work.ts.length by omega, show ((c.work.ts.length : Int) + 1).toNat = c.work.ts.length + 1 by omega, g1, g2]
      refine ⟨hlow, rfl, ?_⟩
      exact chain_congr _ _ _ (fun x hx => parted_low c.work t x.toNat (hrng x (by simpa using hx))) hch
    · rw [q0]
      refine ⟨num_one _ p, .inr ⟨q1, rfl, hheld, .inr ⟨rfl, by rw [q3]; exact q5, by rw [q8]; exact hlow, ⟨k, q4, ?_⟩⟩⟩⟩
      rw [q7, q6]
      exact chain_congr _ _ _ (fun x hx => doW_low c.work t x.toNat) hch
theorem Own.over {n g : Int} {c : Crew} {units a : Int} (hO : Own n c a) (h : CInv n g c units) : (c.over = true ↔ a = n) := by
  obtain ⟨l, hd, hch⟩ := hO
  rw [h.ov, hd]
  simp only [List.flatten_cons, List.flatten_nil, List.append_nil]
  rcases List.eq_nil_or_concat l with rfl | ⟨k, t, rfl⟩
  · simp only [List.reverse_nil, chain] at hch
    exact ⟨fun _ => hch, fun _ => rfl⟩
  · rw [List.concat_eq_append] at *
    rw [List.reverse_append, List.reverse_singleton, List.singleton_append] at hch
    obtain ⟨hlow, _⟩ := hch
    have hr := (h.inv.gg.rng t.toNat (by unfold fl; rw [hd]; simp)).1
    have hok := h.inv.ok t.toNat hr
    have hdl := h.inv.dl
    unfold okT at hok
    refine ⟨fun e => by simp at e, fun e => by omega⟩
theorem CInv.next {n g : Int} {c : Crew} {units : Int} (h : CInv n g c units) (h1 : c.steps < 100000) (h2 : c.idle < 100000) {p v : Int} : ∃ u', CInv n g (Pl.step c p v).1 u' ∧ (Pl.step c p v).1.idle ≤ c.idle + 1 := by
  obtain ⟨_, _, hc⟩ := h.step h1 h2 p v
  rcases hc with ⟨_, _, _, q2, _, q3⟩ | ⟨_, _, _, q2, _, _, _, _, _, q3⟩ | ⟨_, _, _, q2, _, _, _, _, _, _, q3⟩
  · exact ⟨_, q3, by omega⟩
  · exact ⟨_, q3, by omega⟩
  · exact ⟨_, q3, by omega⟩
end Go.Pl
