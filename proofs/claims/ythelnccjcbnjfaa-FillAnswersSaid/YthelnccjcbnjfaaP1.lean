/-
  Texts joined: Pl1, Pl2, Pl3, Pl4, Pl5, Pl6, Pl7, Pl8, Pl9, PlA.
-/
set_option linter.unusedSimpArgs false
set_option linter.unusedVariables false
/-! 
  Plain lists: what is pushed at one end, popped there, and stolen at the other, is each number once.
-/
namespace Go.Pl
def OnceI (l g : List Int) (n : Nat) (f : Int) : Prop :=
  l.Pairwise (· < ·) ∧ (∀ x, x ∈ l → f ≤ x) ∧ (l ++ g).Perm ((List.range n).map Int.ofNat) ∧ f ≤ n ∧ 0 ≤ f
theorem once_start : OnceI [] [] 0 0 := ⟨by simp, by simp, by simp, by simp, by simp⟩
theorem once_mem {l g : List Int} {n : Nat} {f : Int} (h : OnceI l g n f) {x : Int} (hx : x ∈ l ++ g) : 0 ≤ x ∧ x < n := by
  have := h.2.2.1.mem_iff.1 hx
  simp only [List.mem_map, List.mem_range] at this
  obtain ⟨k, hk, rfl⟩ := this
  simp only [Int.ofNat_eq_natCast]; omega
theorem once_len {l g : List Int} {n : Nat} {f : Int} (h : OnceI l g n f) : l.length + g.length = n := by
  have := h.2.2.1.length_eq; simpa using this
theorem once_nodup {l g : List Int} {n : Nat} {f : Int} (h : OnceI l g n f) : (l ++ g).Nodup :=
  h.2.2.1.nodup_iff.2 (List.Pairwise.map _ (fun a b hab => by simp only [Int.ofNat_eq_natCast]; omega) List.nodup_range)
theorem once_push {l g : List Int} {n : Nat} {f : Int} (h : OnceI l g n f) : OnceI (l ++ [(n : Int)]) g (n + 1) f := by
  refine ⟨List.pairwise_append.2 ⟨h.1, by simp, fun a ha b hb => ?_⟩, fun x hx => ?_, ?_, by have := h.2.2.2.1; omega, h.2.2.2.2⟩
  · simp only [List.mem_singleton] at hb; subst hb
    exact (once_mem h (List.mem_append_left _ ha)).2
  · rcases List.mem_append.1 hx with hx | hx
    · exact h.2.1 x hx
    · simp only [List.mem_singleton] at hx; subst hx; exact h.2.2.2.1
  · rw [List.range_succ, List.map_append, List.append_assoc]
    refine (List.perm_append_comm_assoc l [(n : Int)] g).trans ?_
    refine (List.Perm.append_left _ h.2.2.1).trans ?_
    exact List.perm_append_comm
theorem last_split (l : List Int) (h : l ≠ []) : l = l.dropLast ++ [l.getD (l.length - 1) 0] := by
  have := List.dropLast_concat_getLast h
  rw [List.getLast_eq_getElem] at this
  have e : l.getD (l.length - 1) 0 = l[l.length - 1]'(by have := List.length_pos_iff.2 h; omega) := by
    rw [List.getD_eq_getElem?_getD, List.getElem?_eq_getElem]; rfl
  rw [e]; exact this.symm
theorem once_pop {l g : List Int} {n : Nat} {f : Int} (h : OnceI l g n f) (hl : l.length ≠ 0) : OnceI l.dropLast (g ++ [l.getD (l.length - 1) 0]) n f := by
  have hne : l ≠ [] := fun e => hl (by simp [e])
  have hs := last_split l hne
  refine ⟨h.1.sublist (List.dropLast_sublist l), fun x hx => h.2.1 x ((List.dropLast_sublist l).subset hx), ?_, h.2.2.2.1, h.2.2.2.2⟩
  have := h.2.2.1
  rw [hs, List.append_assoc] at this
  refine List.Perm.trans (List.Perm.append_left _ ?_) this
  exact List.perm_append_comm
theorem once_steal {l g : List Int} {n : Nat} {f : Int} (h : OnceI l g n f) (hl : l.length ≠ 0) : OnceI (l.drop 1) (g ++ [l.getD 0 0]) n (l.getD 0 0) ∧ f ≤ l.getD 0 0 := by
  cases l with
  | nil => simp at hl
  | cons a r =>
    have hp := List.pairwise_cons.1 h.1
    have ha : f ≤ a := h.2.1 a (by simp)
    have hm := once_mem h (x := a) (by simp)
    simp only [List.getD_cons_zero]
    refine ⟨⟨hp.2, fun x hx => by have := hp.1 x (by simpa using hx); omega, ?_, by omega, by omega⟩, ha⟩
    have := h.2.2.1
    refine List.Perm.trans ?_ this
    simp only [List.drop_one, List.tail_cons, List.cons_append]
    rw [← List.append_assoc]
    exact List.perm_append_comm
/-- which of the numbers are among some -/
def metL (n : Nat) (a : List Int) : List Bool := (List.range n).map fun (j : Nat) => decide ((j : Int) ∈ a)
theorem metL_len (n : Nat) (a : List Int) : (metL n a).length = n := by simp [metL]
theorem metL_nil (n : Nat) : metL n [] = List.replicate n false := by
  apply List.ext_getElem <;> simp [metL]
theorem metL_get {n : Nat} {a : List Int} {x : Int} (h0 : 0 ≤ x) (hn : x < n) (h : x ∉ a) : (metL n a).getD x.toNat false = false := by
  obtain ⟨k, rfl⟩ : ∃ k : Nat, x = k := ⟨x.toNat, by omega⟩
  have hk : k < n := by omega
  rw [Int.toNat_natCast, List.getD_eq_getElem?_getD]
  simp [metL, hk, h]
theorem metL_set {n : Nat} {a : List Int} {i : Nat} (hi : i < a.length) (h0 : 0 ≤ a.getD i 0) : (metL n (a.take i)).set (a.getD i 0).toNat true = metL n (a.take (i + 1)) := by
  have e : a.take (i + 1) = a.take i ++ [a.getD i 0] := by
    rw [List.take_add_one, List.getD_eq_getElem?_getD, List.getElem?_eq_getElem hi]; rfl
  rw [e]
  obtain ⟨k, hk⟩ : ∃ k : Nat, a.getD i 0 = k := ⟨(a.getD i 0).toNat, by omega⟩
  rw [hk, Int.toNat_natCast]
  apply List.ext_getElem
  · simp [metL]
  · intro j h1 h2
    simp only [metL, List.getElem_set, List.getElem_map, List.getElem_range, List.mem_append, List.mem_singleton]
    by_cases hj : k = j
    · subst hj; simp
    · have : ¬ ((j : Int) = (k : Int)) := by omega
      simp [hj, this]
theorem not_before {a : List Int} (h : a.Nodup) {i : Nat} (hi : i < a.length) : a.getD i 0 ∉ a.take i := by
  intro hm
  have e : a.getD i 0 = a[i] := by rw [List.getD_eq_getElem?_getD, List.getElem?_eq_getElem hi]; rfl
  rw [e] at hm
  obtain ⟨j, hj, he⟩ := List.getElem_of_mem hm
  simp only [List.length_take] at hj
  rw [List.getElem_take] at he
  have := List.pairwise_iff_getElem.1 h j i (by omega) hi (by omega)
  exact this he
end Go.Pl
/-! 
  Plain data: work that is parted into tasks, and what becomes of it.
-/
namespace Go.Pl
structure Task where
  low : Int
  high : Int
  up : Int
  wait : Int
deriving DecidableEq, Inhabited
structure Work where
  ts : List Task
  grain : Int
  done : List Bool
deriving DecidableEq, Inhabited
def okT (n i : Nat) (t : Task) : Prop := 0 ≤ t.low ∧ t.low < t.high ∧ t.high ≤ n ∧ -1 ≤ t.up ∧ t.up < i ∧ 0 ≤ t.wait ∧ t.wait ≤ 2
instance (n i : Nat) (t : Task) : Decidable (okT n i t) := by unfold okT; infer_instance
def cnt (n g : Int) : Prop := 1 ≤ n ∧ n ≤ 1000 ∧ 1 ≤ g ∧ g ≤ 100
instance (n g : Int) : Decidable (cnt n g) := by unfold cnt; infer_instance
def right (w : Work) : Prop := cnt w.done.length w.grain ∧ 1 ≤ w.ts.length ∧ w.ts.length ≤ 2000 ∧ ∀ i, i < w.ts.length → okT w.done.length i (w.ts.getD i default)
instance (w : Work) : Decidable (right w) := by unfold right; infer_instance
theorem right_of {w : Work} {x : Nat} (hx : w.ts.length ≤ x) (h : cnt w.done.length w.grain ∧ 1 ≤ w.ts.length ∧ w.ts.length ≤ 2000) (ho : ∀ j, j < x → okT w.done.length j (w.ts.getD j default)) : right w :=
  ⟨h.1, h.2.1, h.2.2, fun i hi => ho i (by omega)⟩
theorem list_of {α : Type} [Inhabited α] {a b : List α} {x : Nat} (h : a.length = b.length) (hx : a.length ≤ x) (hall : ∀ j, j < x → a.getD j default = b.getD j default) : a = b := by
  apply List.ext_getElem h
  intro i h1 h2
  have := hall i (by omega)
  rw [List.getD_eq_getElem?_getD, List.getD_eq_getElem?_getD, List.getElem?_eq_getElem h1, List.getElem?_eq_getElem h2] at this
  exact this
theorem task_ne (a b : Task) : (!(a.low == b.low && (a.high == b.high && (a.up == b.up && a.wait == b.wait)))) = decide ¬ a = b := by
  rw [Bool.eq_iff_iff]
  cases a; cases b
  simp only [Bool.not_eq_true', Bool.and_eq_false_iff, beq_eq_false_iff_ne, ne_eq, Task.mk.injEq, decide_eq_true_eq]
  omega
theorem int_ne (a : Int) : (a != 0) = decide ¬ a = 0 := by rw [Bool.eq_iff_iff]; simp only [bne_iff_ne, ne_eq, decide_eq_true_eq]
theorem bool_ne (a b : Bool) : (a != b) = decide ¬ a = b := by cases a <;> cases b <;> rfl
theorem work_ext {v w : Work} (h1 : v.ts = w.ts) (h2 : v.grain = w.grain) (h3 : v.done = w.done) : v = w := by cases v; cases w; simp_all
/-- there: what error there is -/
def there (w : Work) (i : Int) : Int := if ¬ right w then 1 else if i < 0 ∨ (w.ts.length : Int) ≤ i then 6 else 0
@[reducible] def task (w : Work) (i : Int) : Task := w.ts.getD i.toNat default
def great (w : Work) (i : Int) : Prop := there w i = 0 ∧ w.grain < (task w i).high - (task w i).low
instance (w : Work) (i : Int) : Decidable (great w i) := by unfold great; infer_instance
theorem ok_of {w : Work} {i : Int} (h : there w i = 0) : right w ∧ 0 ≤ i ∧ i < w.ts.length ∧ okT w.done.length i.toNat (task w i) ∧ w.done.length ≤ 1000 ∧ 1 ≤ w.grain ∧ w.grain ≤ 100 ∧ w.ts.length ≤ 2000 := by
  unfold there at h
  split at h
  · omega
  · rename_i hr
    split at h
    · omega
    · rename_i hi
      have hr := Decidable.not_not.mp hr
      have h1 := hr.1
      have h2 := hr.2.2.1
      have hok := hr.2.2.2 i.toNat (by omega)
      unfold cnt at h1
      exact ⟨hr, by omega, by omega, hok, by omega, by omega, by omega, h2⟩
theorem there_of {w : Work} {i : Int} (h : right w) (h2 : 0 ≤ i ∧ i < w.ts.length) : there w i = 0 := by
  unfold there; rw [if_neg (by simpa using h), if_neg (by omega)]
def mid (t : Task) : Int := t.low + (t.high - t.low) / 2
def parted (w : Work) (i : Int) : Work :=
  ⟨w.ts.set i.toNat { task w i with wait := 2 } ++ [⟨(task w i).low, mid (task w i), i, 0⟩, ⟨mid (task w i), (task w i).high, i, 0⟩], w.grain, w.done⟩
def partE (w : Work) (i : Int) : Int := if there w i ≠ 0 then there w i else if (task w i).high - (task w i).low ≤ w.grain ∨ 0 < (task w i).wait then 5 else if 1998 < w.ts.length then 2 else 0
def partW (w : Work) (i : Int) : Work := if partE w i = 0 then parted w i else w
def partA (w : Work) (i : Int) : Int := if partE w i = 0 then w.ts.length else 0
def partB (w : Work) (i : Int) : Int := if partE w i = 0 then w.ts.length + 1 else 0
/-- upwards from a task whose part is finished -/
def fin : Nat → List Task → Int → List Task × Bool
  | 0, ts, _ => (ts, true)
  | k + 1, ts, up => if up = -1 then (ts, true) else
      let t := ts.getD up.toNat default
      if t.wait = 0 then (ts, false) else
      if 0 < t.wait - 1 then (ts.set up.toNat { t with wait := t.wait - 1 }, false) else fin k (ts.set up.toNat { t with wait := t.wait - 1 }) t.up
def doE (w : Work) (i : Int) : Int := if there w i ≠ 0 then there w i else if w.grain < (task w i).high - (task w i).low ∨ 0 < (task w i).wait ∨ w.done.getD (task w i).low.toNat false = true then 5 else 0
def marked (d : List Bool) (lo hi : Nat) : List Bool := d.take lo ++ List.replicate (hi - lo) true ++ d.drop hi
def did (w : Work) (i : Int) : Work × Bool :=
  let r := fin (w.ts.length + 1) w.ts (task w i).up
  (⟨r.1, w.grain, marked w.done (task w i).low.toNat (task w i).high.toNat⟩, r.2)
def doW (w : Work) (i : Int) : Work := if doE w i = 0 then (did w i).1 else w
def doO (w : Work) (i : Int) : Bool := if doE w i = 0 then (did w i).2 else false
def beginW (n g : Int) : Work := if cnt n g then ⟨[⟨0, n, -1, 0⟩], g, List.replicate n.toNat false⟩ else ⟨[], 0, []⟩
def beginE (n g : Int) : Int := if cnt n g then 0 else 1
/-- how many leaves work comes to -/
def leaves (g : Nat) : Nat → Nat → Nat
  | 0, _ => 1
  | k + 1, n => if n ≤ g then 1 else leaves g k (n / 2) + leaves g k (n - n / 2)
theorem part_err {w : Work} {i e : Int} (h : partE w i = e) (he : e ≠ 0) : partW w i = w ∧ partA w i = 0 ∧ partB w i = 0 ∧ partE w i = e := by
  have hn : ¬ partE w i = 0 := by rw [h]; exact he
  exact ⟨by rw [partW, if_neg hn], by rw [partA, if_neg hn], by rw [partB, if_neg hn], h⟩
theorem part_ok {w : Work} {i : Int} (h : partE w i = 0) : partW w i = parted w i ∧ partA w i = w.ts.length ∧ partB w i = w.ts.length + 1 ∧ partE w i = 0 :=
  ⟨by rw [partW, if_pos h], by rw [partA, if_pos h], by rw [partB, if_pos h], h⟩
theorem partE1 {w : Work} {i : Int} (h : ¬ there w i = 0) : partE w i = there w i := by unfold partE; rw [if_pos h]
theorem partE2 {w : Work} {i : Int} (h : there w i = 0) (h2 : (task w i).high - (task w i).low ≤ w.grain ∨ 0 < (task w i).wait) : partE w i = 5 := by unfold partE; rw [if_neg (by simpa using h), if_pos h2]
theorem partE3 {w : Work} {i : Int} (h : there w i = 0) (h2 : ¬ ((task w i).high - (task w i).low ≤ w.grain ∨ 0 < (task w i).wait)) (h3 : 1998 < w.ts.length) : partE w i = 2 := by unfold partE; rw [if_neg (by simpa using h), if_neg h2, if_pos h3]
theorem partE0 {w : Work} {i : Int} (h : there w i = 0) (h2 : ¬ ((task w i).high - (task w i).low ≤ w.grain ∨ 0 < (task w i).wait)) (h3 : ¬ 1998 < w.ts.length) : partE w i = 0 := by unfold partE; rw [if_neg (by simpa using h), if_neg h2, if_neg h3]
theorem do_err {w : Work} {i e : Int} (h : doE w i = e) (he : e ≠ 0) : doW w i = w ∧ doO w i = false ∧ doE w i = e := by
  have hn : ¬ doE w i = 0 := by rw [h]; exact he
  exact ⟨by rw [doW, if_neg hn], by rw [doO, if_neg hn], h⟩
theorem do_ok {w : Work} {i : Int} (h : doE w i = 0) : doW w i = (did w i).1 ∧ doO w i = (did w i).2 ∧ doE w i = 0 := ⟨by rw [doW, if_pos h], by rw [doO, if_pos h], h⟩
theorem doE1 {w : Work} {i : Int} (h : ¬ there w i = 0) : doE w i = there w i := by unfold doE; rw [if_pos h]
theorem doE2 {w : Work} {i : Int} (h : there w i = 0) (h2 : w.grain < (task w i).high - (task w i).low ∨ 0 < (task w i).wait ∨ w.done.getD (task w i).low.toNat false = true) : doE w i = 5 := by unfold doE; rw [if_neg (by simpa using h), if_pos h2]
theorem doE0 {w : Work} {i : Int} (h : there w i = 0) (h2 : ¬ (w.grain < (task w i).high - (task w i).low ∨ 0 < (task w i).wait ∨ w.done.getD (task w i).low.toNat false = true)) : doE w i = 0 := by unfold doE; rw [if_neg (by simpa using h), if_neg h2]
/-- tasks that wait for tasks ahead of them -/
def upOk (ts : List Task) : Prop := ∀ i, i < ts.length → -1 ≤ (ts.getD i default).up ∧ (ts.getD i default).up < i ∧ 0 ≤ (ts.getD i default).wait ∧ (ts.getD i default).wait ≤ 2
theorem upOk_of {w : Work} (h : right w) : upOk w.ts := fun i hi => by have := h.2.2.2 i hi; unfold okT at this; omega
theorem upOk_set {ts : List Task} (h : upOk ts) {k : Nat} (hk : k < ts.length) (hw : 0 < (ts.getD k default).wait) : upOk (ts.set k { ts.getD k default with wait := (ts.getD k default).wait - 1 }) := by
  intro i hi
  rw [List.length_set] at hi
  by_cases e : k = i
  · subst e
    have := h k hk
    rw [List.getD_eq_getElem?_getD, List.getElem?_set_self (by simpa using hk)]
    simp only [Option.getD_some]; omega
  · have := h i hi
    rw [List.getD_eq_getElem?_getD, List.getElem?_set_ne e, ← List.getD_eq_getElem?_getD]; exact this
theorem fin_end (k : Nat) (ts : List Task) : fin (k + 1) ts (-1) = (ts, true) := by simp [fin]
theorem fin_zero {k : Nat} {ts : List Task} {up : Int} (h : up ≠ -1) (h0 : (ts.getD up.toNat default).wait = 0) : fin (k + 1) ts up = (ts, false) := by simp only [fin, h, if_false, h0, if_true]
theorem fin_stop {k : Nat} {ts : List Task} {up : Int} (h : up ≠ -1) (h0 : (ts.getD up.toNat default).wait ≠ 0) (h1 : 0 < (ts.getD up.toNat default).wait - 1) :
    fin (k + 1) ts up = (ts.set up.toNat { ts.getD up.toNat default with wait := (ts.getD up.toNat default).wait - 1 }, false) := by simp only [fin, h, if_false, h0, h1, if_true]
theorem fin_on {k : Nat} {ts : List Task} {up : Int} (h : up ≠ -1) (h0 : (ts.getD up.toNat default).wait ≠ 0) (h1 : ¬ 0 < (ts.getD up.toNat default).wait - 1) :
    fin (k + 1) ts up = fin k (ts.set up.toNat { ts.getD up.toNat default with wait := (ts.getD up.toNat default).wait - 1 }) (ts.getD up.toNat default).up := by simp only [fin, h, if_false, h0, h1]
theorem marked_len {d : List Bool} {lo hi : Nat} (h : lo ≤ hi) (h2 : hi ≤ d.length) : (marked d lo hi).length = d.length := by simp [marked]; omega
theorem marked_start (d : List Bool) (lo : Nat) : marked d lo lo = d := by simp [marked]
theorem marked_set {d : List Bool} {lo k : Nat} (h : lo ≤ k) (hk : k < d.length) : (marked d lo k).set k true = marked d lo (k + 1) := by
  apply List.ext_getElem
  · rw [List.length_set, marked_len h (by omega), marked_len (by omega) (by omega)]
  · intro j h1 h2
    rw [List.getElem_set]
    simp only [marked, List.getElem_append, List.length_append, List.length_take, List.length_replicate, List.getElem_take, List.getElem_replicate, List.getElem_drop]
    by_cases e : k = j
    · subst e; rw [if_pos rfl, dif_pos (by omega)]
      by_cases e2 : k < min lo d.length
      · omega
      · rw [dif_neg e2]
    · rw [if_neg e]
      by_cases a : j < min lo d.length
      · rw [dif_pos (by omega), dif_pos a, dif_pos (by omega)]; try rw [dif_pos a]
      · by_cases b : j < min lo d.length + (k - lo)
        · rw [dif_pos b, dif_neg a, dif_pos (by omega)]; try rw [dif_neg a]
        · rw [dif_neg b, dif_neg (by omega)]
          congr 1; omega
theorem set_ts {α : Type} (ts : List Task) (k : Nat) (f : Task → List α) (t : Task) : (ts.map f).set k (f t) = (ts.set k t).map f := by rw [List.map_set]
end Go.Pl
/-! 
  Plain numbers: how many tasks, and leaves, work comes to.
-/
namespace Go.Pl
theorem leaves_fuel {g : Nat} (hg : 1 ≤ g) : ∀ (k k' n : Nat), n ≤ k → n ≤ k' → leaves g k n = leaves g k' n
  | 0, 0, n, _, _ => rfl
  | 0, k' + 1, n, h, _ => by
    simp only [leaves]; rw [if_pos (by omega)]
  | k + 1, 0, n, _, h => by
    simp only [leaves]; rw [if_pos (by omega)]
  | k + 1, k' + 1, n, h, h' => by
    simp only [leaves]
    by_cases e : n ≤ g
    · rw [if_pos e, if_pos e]
    · rw [if_neg e, if_neg e, leaves_fuel hg k k' (n / 2) (by omega) (by omega), leaves_fuel hg k k' (n - n / 2) (by omega) (by omega)]
def lv (g n : Nat) : Nat := leaves g n n
theorem lv_base {g n : Nat} (h : n ≤ g) : lv g n = 1 := by
  unfold lv; cases n with
  | zero => rfl
  | succ n => simp only [leaves]; rw [if_pos h]
theorem lv_rec {g n : Nat} (hg : 1 ≤ g) (h : g < n) : lv g n = lv g (n / 2) + lv g (n - n / 2) := by
  unfold lv
  obtain ⟨m, rfl⟩ : ∃ m, n = m + 1 := ⟨n - 1, by omega⟩
  rw [show leaves g (m + 1) (m + 1) = leaves g m ((m + 1) / 2) + leaves g m (m + 1 - (m + 1) / 2) by simp only [leaves]; rw [if_neg (by omega)]]
  rw [leaves_fuel hg m ((m + 1) / 2) _ (by omega) (by omega), leaves_fuel hg m (m + 1 - (m + 1) / 2) _ (by omega) (by omega)]
theorem lv_le {g : Nat} (hg : 1 ≤ g) (n : Nat) : 1 ≤ n → 1 ≤ lv g n ∧ lv g n ≤ n := by
  induction n using Nat.strongRecOn with
  | _ n ih =>
    intro hn
    by_cases h : n ≤ g
    · rw [lv_base h]; omega
    · rw [lv_rec hg (by omega)]
      have h1 := ih (n / 2) (by omega) (by omega)
      have h2 := ih (n - n / 2) (by omega) (by omega)
      omega
/-- what work comes to: leaves, and tasks -/
def cntL (n g : Int) : Int := if cnt n g then lv g.toNat n.toNat else 0
def cntT (n g : Int) : Int := if cnt n g then 2 * cntL n g - 1 else 0
theorem cntL_le {n g : Int} (h : cnt n g) : 1 ≤ cntL n g ∧ cntL n g ≤ n := by
  have h' := h
  unfold cnt at h'
  have := lv_le (g := g.toNat) (by omega) n.toNat (by omega)
  unfold cntL; rw [if_pos h]; omega
theorem cntL_base {n g : Int} (h : cnt n g) (h2 : n ≤ g) : cntL n g = 1 := by
  unfold cntL; rw [if_pos h, lv_base (by omega)]; rfl
theorem cnt_half {n g : Int} (h : cnt n g) (h2 : g < n) : cnt (n / 2) g ∧ cnt (n - n / 2) g := by unfold cnt at *; omega
theorem cntL_rec {n g : Int} (h : cnt n g) (h2 : g < n) : cntL n g = cntL (n / 2) g + cntL (n - n / 2) g := by
  obtain ⟨h3, h4⟩ := cnt_half h h2
  have h' := h
  unfold cnt at h'
  unfold cntL; rw [if_pos h, if_pos h3, if_pos h4, lv_rec (by omega) (by omega)]
  rw [show (n / 2).toNat = n.toNat / 2 by omega, show (n - n / 2).toNat = n.toNat - n.toNat / 2 by omega]
  omega
theorem cntT_eq {n g : Int} (h : cnt n g) : cntT n g = 2 * cntL n g - 1 := by unfold cntT; rw [if_pos h]
theorem cntT_no {n g : Int} (h : ¬ cnt n g) : cntT n g = 0 ∧ cntL n g = 0 := by unfold cntT cntL; rw [if_neg h, if_neg h]; exact ⟨rfl, rfl⟩
end Go.Pl
/-! 
  Plain numbers: how counts go with the grain.
-/
namespace Go.Pl
theorem lv_mono {g h : Nat} (hg : 1 ≤ g) (hgh : g ≤ h) (n : Nat) : lv h n ≤ lv g n := by
  induction n using Nat.strongRecOn with
  | _ n ih =>
    by_cases e : n ≤ h
    · rw [lv_base e]
      by_cases e2 : n ≤ g
      · rw [lv_base e2]; omega
      · exact (lv_le hg n (by omega)).1
    · rw [lv_rec (by omega) (by omega), lv_rec hg (by omega)]
      have h1 := ih (n / 2) (by omega)
      have h2 := ih (n - n / 2) (by omega)
      omega
theorem lv_mul {g : Nat} (hg : 1 ≤ g) (n : Nat) : n ≤ lv g n * g := by
  induction n using Nat.strongRecOn with
  | _ n ih =>
    by_cases e : n ≤ g
    · rw [lv_base e]; omega
    · rw [lv_rec hg (by omega), Nat.add_mul]
      have h1 := ih (n / 2) (by omega)
      have h2 := ih (n - n / 2) (by omega)
      omega
theorem counts {k a b : Int} (hk : 1 ≤ k ∧ k ≤ 1000) (ha : 1 ≤ a ∧ a ≤ 100) (hb : 1 ≤ b ∧ b ≤ 100) :
    cntT k (min a b) = 2 * cntL k (min a b) - 1 ∧ cntT k (max a b) = 2 * cntL k (max a b) - 1 ∧ cntL k (min a b) ≤ k ∧ cntL k (max a b) ≤ cntL k (min a b) ∧ k ≤ cntL k (max a b) * max a b ∧ cntL k (max a b) * max a b ≤ 100000
      ∧ (k ≤ max a b → cntL k (max a b) = 1) ∧ (max a b < k → 1 < cntL k (max a b)) ∧ 1 ≤ cntL k (max a b) ∧ 1 ≤ cntL k (min a b) ∧ cntL k (max a b) ≤ 1000 := by
  have c1 : cnt k (min a b) := by unfold cnt; omega
  have c2 : cnt k (max a b) := by unfold cnt; omega
  have l1 := cntL_le c1
  have l2 := cntL_le c2
  have hm : cntL k (max a b) ≤ cntL k (min a b) := by
    unfold cntL; rw [if_pos c1, if_pos c2]
    have := lv_mono (g := (min a b).toNat) (h := (max a b).toNat) (by omega) (by omega) k.toNat
    omega
  have hx : k ≤ cntL k (max a b) * max a b := by
    have := lv_mul (g := (max a b).toNat) (by omega) k.toNat
    have e : cntL k (max a b) = (lv (max a b).toNat k.toNat : Int) := by unfold cntL; rw [if_pos c2]
    rw [e]
    have h3 : (max a b) = ((max a b).toNat : Int) := by omega
    have h4 : ((k.toNat : Nat) : Int) ≤ ((lv (max a b).toNat k.toNat * (max a b).toNat : Nat) : Int) := by exact_mod_cast this
    rw [Int.natCast_mul, ← h3] at h4
    omega
  have hy : cntL k (max a b) * max a b ≤ 1000 * 100 := Int.mul_le_mul (by omega) (by omega) (by omega) (by omega)
  refine ⟨cntT_eq c1, cntT_eq c2, l1.2, hm, hx, by omega, fun h => cntL_base c2 h, fun h => ?_, l2.1, l1.1, by omega⟩
  obtain ⟨h3, h4⟩ := cnt_half c2 h
  have l3 := cntL_le h3
  have l4 := cntL_le h4
  rw [cntL_rec c2 h]; omega
end Go.Pl
/-! 
  Plain data: what becomes of work, in numbers.
-/
namespace Go.Pl
theorem there_part {w : Work} {i : Int} (h : partE w i = 0) : there w i = 0 := by
  unfold partE at h
  split at h
  · exact h
  · rename_i h2; exact Decidable.not_not.mp h2
theorem there_do {w : Work} {i : Int} (h : doE w i = 0) : there w i = 0 := by
  unfold doE at h
  split at h
  · exact h
  · rename_i h2; exact Decidable.not_not.mp h2
theorem part_at {w : Work} {i : Int} (h : partE w i = 0) :
    (partW w i).ts.getD (partA w i).toNat default = ⟨(task w i).low, mid (task w i), i, 0⟩ ∧ (partW w i).ts.getD (partB w i).toNat default = ⟨mid (task w i), (task w i).high, i, 0⟩ ∧ ((partW w i).ts.getD i.toNat default).wait = 2 := by
  obtain ⟨e1, e2, e3, _⟩ := part_ok h
  obtain ⟨_, h0, h1, _⟩ := ok_of (there_part h)
  rw [e1, e2, e3]
  refine ⟨?_, ?_, ?_⟩
  · simp [parted, List.getD_eq_getElem?_getD, List.getElem?_append_right]
  · rw [show ((w.ts.length : Int) + 1).toNat = w.ts.length + 1 by omega]
    simp [parted, List.getD_eq_getElem?_getD, List.getElem?_append_right]
  · simp only [parted, List.getD_eq_getElem?_getD]
    rw [List.getElem?_append_left (by simp; omega), List.getElem?_set_self (by omega)]; rfl
theorem mid_eq (t : Task) : mid t = t.low + (t.high - t.low) / 2 := rfl
theorem partW_len (w : Work) (i : Int) : (partW w i).ts.length ≤ w.ts.length + 2 ∧ (partW w i).done.length = w.done.length := by
  unfold partW
  split
  · simp [parted]
  · omega
theorem fin_len : ∀ (k : Nat) (ts : List Task) (up : Int), (fin k ts up).1.length = ts.length
  | 0, ts, up => rfl
  | k + 1, ts, up => by
    simp only [fin]
    split
    · rfl
    · split
      · rfl
      · split
        · simp
        · rw [fin_len k]; simp
theorem doW_len (w : Work) (i : Int) : (doW w i).ts.length = w.ts.length ∧ (doW w i).done.length = w.done.length := by
  unfold doW
  split
  · rename_i h
    obtain ⟨_, h0, h1, h2, _⟩ := ok_of (there_do h)
    unfold okT at h2
    simp only [did]
    exact ⟨fin_len _ _ _, marked_len (by omega) (by omega)⟩
  · exact ⟨rfl, rfl⟩
theorem beginW_len (n g : Int) : (beginW n g).ts.length ≤ 1 ∧ (beginW n g).done.length ≤ 1000 := by
  unfold beginW
  split
  · rename_i h; unfold cnt at h; simp; omega
  · simp
end Go.Pl
/-! 
  Plain data: work, of which some tasks are open; what parting and doing do to it.
-/
set_option linter.unusedSimpArgs false
set_option linter.unusedVariables false
namespace Go.Pl
/-! ## Tasks in a row -/
theorem getD_set_self {ts : List Task} {p : Nat} {t : Task} (h : p < ts.length) : (ts.set p t).getD p default = t := by
  rw [List.getD_eq_getElem?_getD, List.getElem?_set_self h]; rfl
theorem getD_set_ne {ts : List Task} {p j : Nat} {t : Task} (h : p ≠ j) : (ts.set p t).getD j default = ts.getD j default := by
  rw [List.getD_eq_getElem?_getD, List.getElem?_set_ne h, ← List.getD_eq_getElem?_getD]
/-- one, where a task isn't finished -/
def U (ts : List Task) (op : List Nat) (j : Nat) : Int := if j ∈ op ∨ 0 < (ts.getD j default).wait then 1 else 0
theorem U_01 (ts : List Task) (op : List Nat) (j : Nat) : U ts op j = 0 ∨ U ts op j = 1 := by unfold U; split <;> simp
theorem U_one {ts : List Task} {op : List Nat} {j : Nat} : U ts op j = 1 ↔ (j ∈ op ∨ 0 < (ts.getD j default).wait) := by unfold U; split <;> simp_all
/-- tasks wait for as many halves as aren't finished; one, that has just been, isn't yet counted off -/
structure G (ts : List Task) (op : List Nat) (p : Int) : Prop where
  up : ∀ i, i < ts.length → -1 ≤ (ts.getD i default).up ∧ (ts.getD i default).up < i ∧ 0 ≤ (ts.getD i default).wait
  up0 : ∀ i, i < ts.length → (ts.getD i default).up = -1 → i = 0
  rng : ∀ t, t ∈ op → t < ts.length ∧ (ts.getD t default).wait = 0
  node : ∀ i, i < ts.length → ((∀ j, j < ts.length → (ts.getD j default).up ≠ i) ∧ (ts.getD i default).wait = 0 ∧ (i : Int) ≠ p) ∨
    (i ∉ op ∧ ∃ a, a + 1 < ts.length ∧ (ts.getD a default).up = i ∧ (ts.getD (a + 1) default).up = i ∧ (∀ j, j < ts.length → (ts.getD j default).up = i → j = a ∨ j = a + 1) ∧
      (ts.getD i default).wait = U ts op a + U ts op (a + 1) + (if (i : Int) = p then 1 else 0))
theorem G.some_open {ts : List Task} {op : List Nat} (h : G ts op (-1)) : ∀ (k i : Nat), ts.length ≤ k + i → i < ts.length → U ts op i = 1 → op ≠ []
  | 0, i, hk, hi, _ => by omega
  | k + 1, i, hk, hi, hu => by
    rcases U_one.1 hu with ho | hw
    · intro e; rw [e] at ho; cases ho
    · rcases h.node i hi with ⟨_, hz, _⟩ | ⟨_, a, ha, u1, u2, _, hq⟩
      · omega
      · rw [if_neg (by omega)] at hq
        have l1 := (h.up a (by omega)).2.1
        have l2 := (h.up (a + 1) ha).2.1
        rcases U_01 ts op a with e1 | e1
        · rcases U_01 ts op (a + 1) with e2 | e2
          · omega
          · exact h.some_open k (a + 1) (by omega) ha e2
        · exact h.some_open k a (by omega) (by omega) e1
theorem G.root {ts : List Task} {op : List Nat} (h : G ts op (-1)) (i : Nat) : i < ts.length → U ts op i = 1 → U ts op 0 = 1 := by
  induction i using Nat.strongRecOn with
  | _ i ih =>
    intro hi hu
    by_cases e : i = 0
    · rw [← e]; exact hu
    · obtain ⟨hu0, hu1, _⟩ := h.up i hi
      have hne : (ts.getD i default).up ≠ -1 := fun q => e (h.up0 i hi q)
      obtain ⟨p, hp⟩ : ∃ p : Nat, (ts.getD i default).up = p := ⟨(ts.getD i default).up.toNat, by omega⟩
      have hpi : p < i := by omega
      refine ih p hpi (by omega) ?_
      rcases h.node p (by omega) with ⟨hn, _, _⟩ | ⟨_, a, ha, u1, u2, hall, hq⟩
      · exact absurd hp (hn i hi)
      · rw [if_neg (by omega)] at hq
        have h1 := U_01 ts op a
        have h2 := U_01 ts op (a + 1)
        refine U_one.2 (.inr ?_)
        rcases hall i hi hp with rfl | rfl <;> omega
/-- the walk upwards -/
theorem fin_G : ∀ (k : Nat) (ts : List Task) (op : List Nat) (p : Int), 0 < ts.length → G ts op p → -1 ≤ p → p < ts.length → p + 1 < k → (p = -1 → U ts op 0 = 0) →
    G (fin k ts p).1 op (-1) ∧ (fin k ts p).1.length = ts.length ∧ (∀ i, ((fin k ts p).1.getD i default).low = (ts.getD i default).low ∧ ((fin k ts p).1.getD i default).high = (ts.getD i default).high ∧ ((fin k ts p).1.getD i default).up = (ts.getD i default).up) ∧ ((fin k ts p).2 = true ↔ op = [])
  | 0, ts, op, p, _, _, _, _, hk, _ => by omega
  | k + 1, ts, op, p, hpos, h, hp0, hp1, hk, hroot => by
    by_cases e : p = -1
    · subst e
      rw [fin_end]
      refine ⟨h, rfl, fun i => ⟨rfl, rfl, rfl⟩, fun _ => ?_, fun _ => rfl⟩
      cases op with
      | nil => rfl
      | cons t r =>
        have h1 := h.root t (h.rng t (by simp)).1 (U_one.2 (.inl (by simp)))
        have h2 := hroot rfl
        omega
    · obtain ⟨q, rfl⟩ : ∃ q : Nat, p = q := ⟨p.toNat, by omega⟩
      have hq : q < ts.length := by omega
      rcases h.node q hq with ⟨_, _, hn⟩ | ⟨hno, a, ha, u1, u2, hall, hw⟩
      · exact absurd rfl hn
      rw [if_pos rfl] at hw
      have b1 := U_01 ts op a
      have b2 := U_01 ts op (a + 1)
      have la := (h.up a (by omega)).2.1
      have la' := (h.up (a + 1) ha).2.1
      generalize ht : ({ ts.getD q default with wait := (ts.getD q default).wait - 1 } : Task) = t' at *
      have tw : t'.wait = (ts.getD q default).wait - 1 := by rw [← ht]
      have tu : t'.up = (ts.getD q default).up := by rw [← ht]
      have tl : t'.low = (ts.getD q default).low := by rw [← ht]
      have th : t'.high = (ts.getD q default).high := by rw [← ht]
      have hs : (ts.set q t').getD q default = t' := getD_set_self hq
      have hn : ∀ j, q ≠ j → (ts.set q t').getD j default = ts.getD j default := fun j hj => getD_set_ne hj
      have hup : ∀ j, ((ts.set q t').getD j default).up = (ts.getD j default).up := fun j => by
        by_cases c : q = j
        · subst c; rw [hs, tu]
        · rw [hn j c]
      have hlow : ∀ j, ((ts.set q t').getD j default).low = (ts.getD j default).low ∧ ((ts.set q t').getD j default).high = (ts.getD j default).high := fun j => by
        by_cases c : q = j
        · subst c; rw [hs, tl, th]; exact ⟨rfl, rfl⟩
        · rw [hn j c]; exact ⟨rfl, rfl⟩
      have hU : ∀ j, q ≠ j → U (ts.set q t') op j = U ts op j := fun j hj => by unfold U; rw [hn j hj]
      have huq := h.up q hq
      -- the row behind the step
      have key : ∀ p' : Int, (0 < t'.wait → p' = -1) → (¬ 0 < t'.wait → p' = (ts.getD q default).up) → G (ts.set q t') op p' := by
        intro p' hA hB
        refine ⟨fun i hi => ?_, fun i hi => ?_, fun t ht' => ?_, fun i hi => ?_⟩
        · rw [List.length_set] at hi
          rw [hup]
          have := h.up i hi
          by_cases c : q = i
          · subst c; rw [hs, tw]; omega
          · rw [hn i c]; exact this
        · rw [List.length_set] at hi; rw [hup]; exact h.up0 i hi
        · rw [List.length_set]
          have c : q ≠ t := fun c => hno (c ▸ ht')
          rw [hn t c]; exact h.rng t ht'
        · simp only [List.length_set] at hi ⊢
          by_cases c : q = i
          · subst c
            refine .inr ⟨hno, a, ha, by rw [hup]; exact u1, by rw [hup]; exact u2, fun j hj hj' => hall j hj (by rw [hup] at hj'; exact hj'), ?_⟩
            rw [hs, tw, hU a (by omega), hU (a + 1) (by omega), if_neg, hw]
            · omega
            · by_cases c2 : 0 < t'.wait
              · rw [hA c2]; omega
              · rw [hB c2]; omega
          · rcases h.node i hi with ⟨n1, n2, n3⟩ | ⟨m1, b, hb, v1, v2, hall2, hw2⟩
            · refine .inl ⟨fun j hj => by rw [hup]; exact n1 j hj, by rw [hn i c]; exact n2, ?_⟩
              by_cases c2 : 0 < t'.wait
              · rw [hA c2]; omega
              · rw [hB c2]; exact fun e => n1 q hq e.symm
            · refine .inr ⟨m1, b, hb, by rw [hup]; exact v1, by rw [hup]; exact v2, fun j hj hj' => hall2 j hj (by rw [hup] at hj'; exact hj'), ?_⟩
              rw [hn i c, hw2, if_neg (by omega)]
              have Uq : U ts op q = 1 := U_one.2 (.inr (by omega))
              by_cases c2 : 0 < t'.wait
              · have Uq' : U (ts.set q t') op q = 1 := U_one.2 (.inr (by rw [hs]; exact c2))
                have hx : ∀ j, U (ts.set q t') op j = U ts op j := fun j => by
                  by_cases c3 : q = j
                  · subst c3; omega
                  · exact hU j c3
                rw [hx, hx, hA c2, if_neg (by omega)]
              · have Uq' : U (ts.set q t') op q = 0 := by
                  rcases U_01 (ts.set q t') op q with e0 | e0
                  · exact e0
                  · rcases U_one.1 e0 with o1 | o1
                    · exact absurd o1 hno
                    · rw [hs] at o1; exact absurd o1 c2
                rw [hB c2]
                by_cases c3 : (ts.getD q default).up = i
                · rw [if_pos c3.symm]
                  rcases hall2 q hq c3 with c4 | c4
                  · rw [← c4, hU (q + 1) (by omega)]; omega
                  · rw [← c4]
                    have : q ≠ b := by omega
                    rw [hU b this]; omega
                · rw [if_neg (fun e => c3 e.symm)]
                  have c5 : q ≠ b := fun e => c3 (by rw [e]; exact v1)
                  have c6 : q ≠ b + 1 := fun e => c3 (by rw [e]; exact v2)
                  rw [hU b c5, hU (b + 1) c6]
      by_cases hz : 0 < t'.wait
      · have hg := key (-1) (fun _ => rfl) (fun c => absurd hz c)
        rw [fin_stop (by omega) (by simp only [Int.toNat_natCast]; omega) (by simp only [Int.toNat_natCast]; rw [← tw]; exact hz)]
        simp only [Int.toNat_natCast, ht]
        refine ⟨hg, by simp, fun i => ⟨(hlow i).1, (hlow i).2, hup i⟩, ⟨fun hf => by simp at hf, fun ho => ?_⟩⟩
        exact absurd ho (hg.some_open ts.length q (by simp) (by simpa using hq) (U_one.2 (.inr (by rw [hs]; exact hz))))
      · have hg := key (ts.getD q default).up (fun c => absurd c hz) (fun _ => rfl)
        rw [fin_on (by omega) (by simp only [Int.toNat_natCast]; omega) (by simp only [Int.toNat_natCast]; rw [← tw]; exact hz)]
        simp only [Int.toNat_natCast, ht]
        obtain ⟨r1, r2, r3, r4⟩ := fin_G k (ts.set q t') op (ts.getD q default).up (by simpa using hpos) hg (by omega) (by rw [List.length_set]; omega) (by omega) (fun e => by
          have e0 := h.up0 q hq e
          subst e0
          rcases U_01 (ts.set 0 t') op 0 with e1 | e1
          · exact e1
          · rcases U_one.1 e1 with o1 | o1
            · exact absurd o1 hno
            · rw [hs] at o1; exact absurd o1 hz)
        refine ⟨r1, by rw [r2]; simp, fun i => ?_, r4⟩
        obtain ⟨s1, s2, s3⟩ := r3 i
        exact ⟨s1.trans (hlow i).1, s2.trans (hlow i).2, s3.trans (hup i)⟩
end Go.Pl
/-! 
  Plain data: work parted and done in any order comes to its end.
-/
set_option linter.unusedSimpArgs false
set_option linter.unusedVariables false
namespace Go.Pl
def tot (f : Nat → Int) : List Nat → Int
  | [] => 0
  | t :: r => f t + tot f r
theorem tot_app (f : Nat → Int) : ∀ a b, tot f (a ++ b) = tot f a + tot f b
  | [], b => by simp [tot]
  | x :: a, b => by simp only [List.cons_append, tot, tot_app f a b]; omega
theorem tot_congr {f h : Nat → Int} : ∀ (l : List Nat), (∀ t, t ∈ l → f t = h t) → tot f l = tot h l
  | [], _ => rfl
  | x :: l, q => by simp only [tot]; rw [q x (by simp), tot_congr l (fun t ht => q t (by simp [ht]))]
theorem tot_nn {f : Nat → Int} : ∀ (l : List Nat), (∀ t, t ∈ l → 0 ≤ f t) → 0 ≤ tot f l
  | [], _ => by simp [tot]
  | x :: l, q => by
    have h1 := q x (by simp)
    have h2 := tot_nn l (fun t ht => q t (by simp [ht]))
    simp only [tot]; omega
theorem tot_perm {f : Nat → Int} {a b : List Nat} (h : a.Perm b) : tot f a = tot f b := by
  induction h with
  | nil => rfl
  | cons x _ ih => simp only [tot, ih]
  | swap x y l => simp only [tot]; omega
  | trans _ _ ih1 ih2 => rw [ih1, ih2]
def szT (w : Work) (t : Nat) : Int := (w.ts.getD t default).high - (w.ts.getD t default).low
/-- work, whose tasks in a list are open, and as many units of which are done as are told -/
structure Inv (n g : Int) (w : Work) (op : List Nat) (units : Int) : Prop where
  c : cnt n g
  gr : w.grain = g
  dl : (w.done.length : Int) = n
  pos : 0 < w.ts.length
  ok : ∀ i, i < w.ts.length → okT w.done.length i (w.ts.getD i default)
  gg : G w.ts op (-1)
  nd : op.Nodup
  fresh : ∀ t, t ∈ op → ∀ u : Nat, (w.ts.getD t default).low ≤ u → u < (w.ts.getD t default).high → w.done.getD u false = false
  disj : ∀ t, t ∈ op → ∀ t', t' ∈ op → t ≠ t' → (w.ts.getD t default).high ≤ (w.ts.getD t' default).low ∨ (w.ts.getD t' default).high ≤ (w.ts.getD t default).low
  cover : ∀ u : Nat, u < w.done.length → w.done.getD u false = true ∨ ∃ t, t ∈ op ∧ (w.ts.getD t default).low ≤ u ∧ u < (w.ts.getD t default).high
  phi : (w.ts.length : Int) + tot (fun t => cntT (szT w t) g - 1) op = cntT n g
  un : units + tot (szT w) op = n
theorem U_perm {ts : List Task} {a b : List Nat} (h : a.Perm b) (j : Nat) : U ts a j = U ts b j := by unfold U; simp only [h.mem_iff]
theorem G.perm {ts : List Task} {a b : List Nat} {p : Int} (h : G ts a p) (q : a.Perm b) : G ts b p :=
  ⟨h.up, h.up0, fun t ht => h.rng t (q.mem_iff.2 ht), fun i hi => by
    have := h.node i hi
    simp only [U_perm q, q.mem_iff] at this
    exact this⟩
theorem Inv.perm {n g : Int} {w : Work} {a b : List Nat} {units : Int} (h : Inv n g w a units) (q : a.Perm b) : Inv n g w b units :=
  ⟨h.c, h.gr, h.dl, h.pos, h.ok, h.gg.perm q, q.nodup_iff.1 h.nd, fun t ht => h.fresh t (q.mem_iff.2 ht), fun t ht t' ht' => h.disj t (q.mem_iff.2 ht) t' (q.mem_iff.2 ht'),
    fun u hu => by have := h.cover u hu; simp only [q.mem_iff] at this; exact this, by rw [← tot_perm q]; exact h.phi, by rw [← tot_perm q]; exact h.un⟩
theorem Inv.sz {n g : Int} {w : Work} {op : List Nat} {units : Int} (h : Inv n g w op units) {t : Nat} (ht : t ∈ op) : 1 ≤ szT w t ∧ szT w t ≤ n ∧ cnt (szT w t) g := by
  have h1 := h.ok t (h.gg.rng t ht).1
  have h2 := h.c
  have h3 := h.dl
  unfold okT at h1; unfold cnt at *; unfold szT
  omega
theorem Inv.len {n g : Int} {w : Work} {op : List Nat} {units : Int} (h : Inv n g w op units) : (w.ts.length : Int) ≤ cntT n g ∧ cntT n g ≤ 1999 := by
  have h1 := tot_nn (f := fun t => cntT (szT w t) g - 1) op (fun t ht => by
    have h2 := (h.sz ht).2.2
    have h3 := cntL_le h2
    have h4 := cntT_eq h2
    show 0 ≤ cntT (szT w t) g - 1
    omega)
  have h2 := h.phi
  have h3 := cntL_le h.c
  have h4 := cntT_eq h.c
  have h5 := h.c
  unfold cnt at h5
  omega
theorem Inv.units {n g : Int} {w : Work} {op : List Nat} {units : Int} (h : Inv n g w op units) : units ≤ n := by
  have h1 := tot_nn (f := szT w) op (fun t ht => by have := (h.sz ht).1; omega)
  have h2 := h.un
  omega
theorem Inv.right {n g : Int} {w : Work} {op : List Nat} {units : Int} (h : Inv n g w op units) : right w := by
  have := h.len
  have := h.pos
  refine ⟨by rw [h.gr, h.dl]; exact h.c, by omega, by omega, h.ok⟩
theorem Inv.there {n g : Int} {w : Work} {op : List Nat} {units : Int} (h : Inv n g w op units) {t : Nat} (ht : t ∈ op) : there w t = 0 :=
  there_of h.right ⟨by omega, by have := (h.gg.rng t ht).1; omega⟩
theorem Inv.great {n g : Int} {w : Work} {op : List Nat} {units : Int} (h : Inv n g w op units) {t : Nat} (ht : t ∈ op) : great w t ↔ g < szT w t := by
  unfold Pl.great szT; rw [h.gr]; simp only [task, Int.toNat_natCast]
  exact ⟨fun q => q.2, fun q => ⟨h.there ht, q⟩⟩
theorem cntT_rec {n g : Int} (h : cnt n g) (h2 : g < n) : cntT n g = 1 + cntT (n / 2) g + cntT (n - n / 2) g := by
  obtain ⟨h3, h4⟩ := cnt_half h h2
  rw [cntT_eq h, cntT_eq h3, cntT_eq h4, cntL_rec h h2]; omega
/-! ## Parting -/
theorem Inv.part0 {n g : Int} {w : Work} {t : Nat} {r : List Nat} {units : Int} (h : Inv n g w (t :: r) units) (hg : g < szT w t) : partE w t = 0 := by
  have ht : t ∈ t :: r := by simp
  have h1 := (h.gg.rng t ht).2
  have h2 := (h.sz ht).2.2
  have h3 := cntT_rec h2 hg
  obtain ⟨h4, h5⟩ := cnt_half h2 hg
  have l4 := cntL_le h4
  have l5 := cntL_le h5
  have t4 := cntT_eq h4
  have t5 := cntT_eq h5
  have h6 := tot_nn (f := fun t => cntT (szT w t) g - 1) r (fun x hx => by
    have h2 := (h.sz (t := x) (by simp [hx])).2.2
    have h3 := cntL_le h2
    have h4 := cntT_eq h2
    show 0 ≤ cntT (szT w x) g - 1
    omega)
  have h7 := h.phi
  simp only [tot] at h7
  have h8 := h.len.2
  refine partE0 (h.there ht) ?_ (by omega)
  rw [h.gr]; simp only [task, Int.toNat_natCast]
  unfold szT at hg
  omega
theorem Inv.part {n g : Int} {w : Work} {t : Nat} {r : List Nat} {units : Int} (h : Inv n g w (t :: r) units) (hg : g < szT w t) : Inv n g (partW w t) (r ++ [w.ts.length, w.ts.length + 1]) units := by
  have ht : t ∈ t :: r := by simp
  have hE := h.part0 hg
  rw [(part_ok hE).1]
  have htl := (h.gg.rng t ht).1
  have htw := (h.gg.rng t ht).2
  have hsz := h.sz ht
  have hok := h.ok t htl
  have hnd := h.nd
  simp only [List.nodup_cons] at hnd
  -- the rows
  have hts : (parted w t).ts = w.ts.set t { w.ts.getD t default with wait := 2 } ++ [⟨(w.ts.getD t default).low, mid (w.ts.getD t default), t, 0⟩, ⟨mid (w.ts.getD t default), (w.ts.getD t default).high, t, 0⟩] := by simp [parted, task]
  have hdn : (parted w t).done = w.done := rfl
  have hgr : (parted w t).grain = w.grain := rfl
  generalize hTT : (parted w t).ts = ts' at *
  have hl : ts'.length = w.ts.length + 2 := by rw [hts]; simp
  have gt : ts'.getD t default = { w.ts.getD t default with wait := 2 } := by
    rw [hts, List.getD_eq_getElem?_getD, List.getElem?_append_left (by simpa using htl), List.getElem?_set_self htl]; rfl
  have gn : ∀ i, i < w.ts.length → i ≠ t → ts'.getD i default = w.ts.getD i default := fun i hi hne => by
    rw [hts, List.getD_eq_getElem?_getD, List.getElem?_append_left (by simpa using hi), List.getElem?_set_ne (fun e => hne e.symm), ← List.getD_eq_getElem?_getD]
  have ga : ts'.getD w.ts.length default = ⟨(w.ts.getD t default).low, mid (w.ts.getD t default), t, 0⟩ := by
    rw [hts, List.getD_eq_getElem?_getD, List.getElem?_append_right (by simp)]; simp
  have gb : ts'.getD (w.ts.length + 1) default = ⟨mid (w.ts.getD t default), (w.ts.getD t default).high, t, 0⟩ := by
    rw [hts, List.getD_eq_getElem?_getD, List.getElem?_append_right (by simp)]; simp
  have hmid : mid (w.ts.getD t default) = (w.ts.getD t default).low + ((w.ts.getD t default).high - (w.ts.getD t default).low) / 2 := rfl
  have hc := h.c
  have hgs : g < (w.ts.getD t default).high - (w.ts.getD t default).low := hg
  have hc' : 1 ≤ g := by unfold cnt at hc; omega
  unfold okT at hok
  have cases4 : ∀ i, i < w.ts.length + 2 → i = t ∨ (i < w.ts.length ∧ i ≠ t) ∨ i = w.ts.length ∨ i = w.ts.length + 1 := fun i hi => by omega
  have hup : ∀ i, i < w.ts.length → (ts'.getD i default).up = (w.ts.getD i default).up ∧ (ts'.getD i default).low = (w.ts.getD i default).low ∧ (ts'.getD i default).high = (w.ts.getD i default).high := fun i hi => by
    by_cases e : i = t
    · subst e; rw [gt]; exact ⟨rfl, rfl, rfl⟩
    · rw [gn i hi e]; exact ⟨rfl, rfl, rfl⟩
  have hr : ∀ x, x ∈ r → x < w.ts.length ∧ x ≠ t := fun x hx => ⟨(h.gg.rng x (by simp [hx])).1, fun e => hnd.1 (e ▸ hx)⟩
  have hm : ∀ x, x ∈ r ++ [w.ts.length, w.ts.length + 1] ↔ x ∈ r ∨ x = w.ts.length ∨ x = w.ts.length + 1 := fun x => by simp
  have htn : (∀ j, j < w.ts.length → (w.ts.getD j default).up ≠ t) := by
    rcases h.gg.node t htl with ⟨q, _, _⟩ | ⟨q, _⟩
    · exact q
    · exact absurd ht q
  have hU : ∀ x, x < w.ts.length → U ts' (r ++ [w.ts.length, w.ts.length + 1]) x = U w.ts (t :: r) x := fun x hx => by
    by_cases e : x = t
    · subst e
      exact (U_one.2 (.inr (by rw [gt]; exact (by omega : (0:Int) < 2)))).trans (U_one.2 (.inl (by simp))).symm
    · unfold U
      rw [gn x hx e]
      have : (x ∈ r ++ [w.ts.length, w.ts.length + 1]) ↔ x ∈ t :: r := by
        rw [hm]; simp only [List.mem_cons]
        constructor
        · rintro (q | q | q)
          · exact .inr q
          · omega
          · omega
        · rintro (q | q)
          · exact absurd q e
          · exact .inl q
      simp only [this]
  have szr : ∀ x, x ∈ r → szT ⟨ts', w.grain, w.done⟩ x = szT w x := fun x hx => by
    unfold szT; rw [gn x (hr x hx).1 (hr x hx).2]
  have hpw : parted w t = ⟨ts', w.grain, w.done⟩ := by rw [← hTT]; rfl
  rw [hpw]
  refine ⟨h.c, h.gr, h.dl, by show 0 < ts'.length; omega, fun i hi => ?_, ⟨fun i hi => ?_, fun i hi he => ?_, fun x hx => ?_, fun i hi => ?_⟩, ?_, fun x hx u hu1 hu2 => ?_, fun x hx y hy hne => ?_, fun u hu => ?_, ?_, ?_⟩
  · have hi' : i < w.ts.length + 2 := by rw [← hl]; exact hi
    show okT w.done.length i (ts'.getD i default)
    unfold okT
    rcases cases4 i hi' with rfl | ⟨h1, h2⟩ | rfl | rfl
    · rw [gt]; dsimp only; omega
    · rw [gn i h1 h2]; exact h.ok i h1
    · rw [ga]; dsimp only; omega
    · rw [gb]; dsimp only; omega
  · have hi' : i < w.ts.length + 2 := by rw [← hl]; exact hi
    show -1 ≤ (ts'.getD i default).up ∧ (ts'.getD i default).up < i ∧ 0 ≤ (ts'.getD i default).wait
    rcases cases4 i hi' with rfl | ⟨h1, h2⟩ | rfl | rfl
    · rw [gt]; dsimp only; omega
    · rw [gn i h1 h2]; exact h.gg.up i h1
    · rw [ga]; dsimp only; omega
    · rw [gb]; dsimp only; omega
  · have hi' : i < w.ts.length + 2 := by rw [← hl]; exact hi
    change (ts'.getD i default).up = -1 at he
    rcases cases4 i hi' with rfl | ⟨h1, h2⟩ | rfl | rfl
    · rw [gt] at he; exact h.gg.up0 i htl he
    · rw [gn i h1 h2] at he; exact h.gg.up0 i h1 he
    · rw [ga] at he; dsimp only at he; omega
    · rw [gb] at he; dsimp only at he; omega
  · show x < ts'.length ∧ (ts'.getD x default).wait = 0
    rcases (hm x).1 hx with q | q | q
    · obtain ⟨h1, h2⟩ := hr x q
      rw [gn x h1 h2]; exact ⟨by omega, (h.gg.rng x (by simp [q])).2⟩
    · subst q; rw [ga]; exact ⟨by omega, rfl⟩
    · subst q; rw [gb]; exact ⟨by omega, rfl⟩
  · have hi' : i < w.ts.length + 2 := by rw [← hl]; exact hi
    show ((∀ j, j < ts'.length → (ts'.getD j default).up ≠ i) ∧ (ts'.getD i default).wait = 0 ∧ (i : Int) ≠ -1) ∨ (i ∉ r ++ [w.ts.length, w.ts.length + 1] ∧ ∃ a, a + 1 < ts'.length ∧ (ts'.getD a default).up = i ∧ (ts'.getD (a + 1) default).up = i ∧ (∀ j, j < ts'.length → (ts'.getD j default).up = i → j = a ∨ j = a + 1) ∧
      (ts'.getD i default).wait = U ts' (r ++ [w.ts.length, w.ts.length + 1]) a + U ts' (r ++ [w.ts.length, w.ts.length + 1]) (a + 1) + (if (i : Int) = -1 then 1 else 0))
    rw [hl]
    have hold : ∀ j, j < w.ts.length + 2 → j < w.ts.length ∨ (ts'.getD j default).up = t := fun j hj => by
      rcases cases4 j hj with rfl | ⟨h1, h2⟩ | rfl | rfl
      · exact .inl htl
      · exact .inl h1
      · rw [ga]; exact .inr rfl
      · rw [gb]; exact .inr rfl
    rcases cases4 i hi' with rfl | ⟨h1, h2⟩ | q
    · refine .inr ⟨fun q => ?_, w.ts.length, by omega, by rw [ga], by rw [gb], fun j hj hj' => ?_, ?_⟩
      · rcases (hm i).1 q with q | q | q
        · exact (hr i q).2 rfl
        · omega
        · omega
      · rcases cases4 j hj with rfl | ⟨h1, h2⟩ | rfl | rfl
        · rw [(hup j htl).1] at hj'; exact absurd hj' (htn j htl)
        · rw [gn j h1 h2] at hj'; exact absurd hj' (htn j h1)
        · exact .inl rfl
        · exact .inr rfl
      · rw [gt, U_one.2 (.inl (by simp)), U_one.2 (.inl (by simp)), if_neg (by omega)]; rfl
    · rcases h.gg.node i h1 with ⟨n1, n2, n3⟩ | ⟨m1, a, m2, m3, m4, m5, m6⟩
      · refine .inl ⟨fun j hj => ?_, by rw [gn i h1 h2]; exact n2, n3⟩
        rcases hold j hj with q | q
        · rw [(hup j q).1]; exact n1 j q
        · rw [q]; omega
      · refine .inr ⟨fun q => ?_, a, by omega, by rw [(hup a (by omega)).1]; exact m3, by rw [(hup (a + 1) m2).1]; exact m4, fun j hj hj' => ?_, ?_⟩
        · rcases (hm i).1 q with q | q | q
          · exact m1 (by simp [q])
          · omega
          · omega
        · rcases hold j hj with q | q
          · rw [(hup j q).1] at hj'; exact m5 j q hj'
          · rw [q] at hj'; omega
        · rw [gn i h1 h2, hU a (by omega), hU (a + 1) m2]; exact m6
    · refine .inl ⟨fun j hj => ?_, ?_, by omega⟩
      · rcases hold j hj with q' | q'
        · rw [(hup j q').1]
          have := h.gg.up j q'
          omega
        · rw [q']; omega
      · rcases q with rfl | rfl
        · rw [ga]
        · rw [gb]
  · rw [List.nodup_append]
    refine ⟨hnd.2, by simp, fun a ha b hb => ?_⟩
    have := (hr a ha).1
    simp at hb; omega
  · change (ts'.getD x default).low ≤ u at hu1
    change u < (ts'.getD x default).high at hu2
    show w.done.getD u false = false
    rcases (hm x).1 hx with q | q | q
    · rw [gn x (hr x q).1 (hr x q).2] at hu1 hu2; exact h.fresh x (by simp [q]) u hu1 hu2
    · subst q; rw [ga] at hu1 hu2; dsimp only at hu1 hu2; exact h.fresh t ht u (by omega) (by omega)
    · subst q; rw [gb] at hu1 hu2; dsimp only at hu1 hu2; exact h.fresh t ht u (by omega) (by omega)
  · show (ts'.getD x default).high ≤ (ts'.getD y default).low ∨ (ts'.getD y default).high ≤ (ts'.getD x default).low
    rcases (hm x).1 hx with q | q | q
    · rw [gn x (hr x q).1 (hr x q).2]
      have d1 := h.disj x (by simp [q]) t ht (hr x q).2
      rcases (hm y).1 hy with q' | q' | q'
      · rw [gn y (hr y q').1 (hr y q').2]; exact h.disj x (by simp [q]) y (by simp [q']) hne
      · subst q'; rw [ga]; dsimp only; omega
      · subst q'; rw [gb]; dsimp only; omega
    · subst q; rw [ga]; dsimp only
      rcases (hm y).1 hy with q' | q' | q'
      · have d1 := h.disj y (by simp [q']) t ht (hr y q').2
        rw [gn y (hr y q').1 (hr y q').2]; omega
      · exact absurd q'.symm hne
      · subst q'; rw [gb]; dsimp only; omega
    · subst q; rw [gb]; dsimp only
      rcases (hm y).1 hy with q' | q' | q'
      · have d1 := h.disj y (by simp [q']) t ht (hr y q').2
        rw [gn y (hr y q').1 (hr y q').2]; omega
      · subst q'; rw [ga]; dsimp only; omega
      · exact absurd q'.symm hne
  · show w.done.getD u false = true ∨ ∃ x, x ∈ r ++ [w.ts.length, w.ts.length + 1] ∧ (ts'.getD x default).low ≤ u ∧ u < (ts'.getD x default).high
    rcases h.cover u hu with q | ⟨x, hx, q1, q2⟩
    · exact .inl q
    · right
      rcases List.mem_cons.1 hx with rfl | hx
      · by_cases e : (u : Int) < mid (w.ts.getD x default)
        · exact ⟨w.ts.length, by simp, by rw [ga]; exact q1, by rw [ga]; exact e⟩
        · exact ⟨w.ts.length + 1, by simp, by rw [gb]; dsimp only; omega, by rw [gb]; exact q2⟩
      · exact ⟨x, by simp [hx], by rw [gn x (hr x hx).1 (hr x hx).2]; exact q1, by rw [gn x (hr x hx).1 (hr x hx).2]; exact q2⟩
  · show (ts'.length : Int) + tot (fun x => cntT (szT ⟨ts', w.grain, w.done⟩ x) g - 1) (r ++ [w.ts.length, w.ts.length + 1]) = cntT n g
    have e1 := h.phi
    have e2 := cntT_rec hsz.2.2 hg
    simp only [tot] at e1
    rw [tot_app, tot_congr (h := fun x => cntT (szT w x) g - 1) r (fun x hx => by rw [szr x hx]), hl]
    simp only [tot]
    rw [show szT ⟨ts', w.grain, w.done⟩ w.ts.length = szT w t / 2 by simp only [szT]; rw [ga]; dsimp only; omega, show szT ⟨ts', w.grain, w.done⟩ (w.ts.length + 1) = szT w t - szT w t / 2 by simp only [szT]; rw [gb]; dsimp only; omega]
    omega
  · have e1 := h.un
    simp only [tot] at e1
    rw [tot_app, tot_congr (h := szT w) r (fun x hx => szr x hx)]
    simp only [tot]
    rw [show szT ⟨ts', w.grain, w.done⟩ w.ts.length = szT w t / 2 by simp only [szT]; rw [ga]; dsimp only; omega, show szT ⟨ts', w.grain, w.done⟩ (w.ts.length + 1) = szT w t - szT w t / 2 by simp only [szT]; rw [gb]; dsimp only; omega]
    omega
end Go.Pl
/-! 
  Plain data: doing a task, and the end.
-/
set_option linter.unusedSimpArgs false
set_option linter.unusedVariables false
namespace Go.Pl
theorem marked_get {d : List Bool} {lo hi : Nat} (h : lo ≤ hi) (h2 : hi ≤ d.length) (u : Nat) : (marked d lo hi).getD u false = if lo ≤ u ∧ u < hi then true else d.getD u false := by
  unfold marked
  rw [List.getD_eq_getElem?_getD, List.getD_eq_getElem?_getD]
  by_cases a : u < lo
  · rw [if_neg (by omega), List.append_assoc, List.getElem?_append_left (by simp; omega), List.getElem?_take_of_lt a]
  · by_cases b : u < hi
    · rw [if_pos (by omega), List.append_assoc, List.getElem?_append_right (by simp; omega), List.getElem?_append_left (by simp; omega)]
      rw [List.getElem?_replicate_of_lt (by simp; omega)]; rfl
    · rw [if_neg (by omega), List.getElem?_append_right (by simp; omega), List.getElem?_drop]
      congr 2; simp; omega
theorem Inv.do0 {n g : Int} {w : Work} {t : Nat} {r : List Nat} {units : Int} (h : Inv n g w (t :: r) units) (hg : ¬ g < szT w t) : doE w t = 0 := by
  have ht : t ∈ t :: r := by simp
  have h1 := (h.gg.rng t ht).2
  have hok := h.ok t (h.gg.rng t ht).1
  unfold okT at hok
  refine doE0 (h.there ht) ?_
  rw [h.gr]; simp only [task, Int.toNat_natCast]
  unfold szT at hg
  have := h.fresh t ht (w.ts.getD t default).low.toNat (by omega) (by omega)
  rintro (q | q | q)
  · exact hg q
  · omega
  · rw [this] at q; cases q
theorem Inv.did {n g : Int} {w : Work} {t : Nat} {r : List Nat} {units : Int} (h : Inv n g w (t :: r) units) (hg : ¬ g < szT w t) :
    Inv n g (doW w t) r (units + szT w t) ∧ (doO w t = true ↔ r = []) ∧ (doW w t).ts.length = w.ts.length ∧ ((doW w t).ts.getD t default).high = (w.ts.getD t default).high ∧ ((doW w t).ts.getD t default).low = (w.ts.getD t default).low := by
  have ht : t ∈ t :: r := by simp
  have hE := h.do0 hg
  obtain ⟨e1, e2, _⟩ := do_ok hE
  rw [e1, e2]
  obtain ⟨htl, htw⟩ := h.gg.rng t ht
  have hok := h.ok t htl
  have hnd := h.nd
  simp only [List.nodup_cons] at hnd
  unfold okT at hok
  have hup := h.gg.up t htl
  have hr : ∀ x, x ∈ r → x < w.ts.length ∧ x ≠ t := fun x hx => ⟨(h.gg.rng x (by simp [hx])).1, fun e => hnd.1 (e ▸ hx)⟩
  have Ut : U w.ts (t :: r) t = 1 := U_one.2 (.inl (by simp))
  have Ut' : U w.ts r t = 0 := by unfold U; rw [if_neg]; rintro (q | q); exact hnd.1 q; omega
  have hU : ∀ x, x ≠ t → U w.ts r x = U w.ts (t :: r) x := fun x hx => by unfold U; simp only [List.mem_cons, hx, false_or]
  have g0 : G w.ts r (w.ts.getD t default).up := by
    refine ⟨h.gg.up, h.gg.up0, fun x hx => h.gg.rng x (by simp [hx]), fun i hi => ?_⟩
    rcases h.gg.node i hi with ⟨n1, n2, n3⟩ | ⟨m1, a, m2, m3, m4, m5, m6⟩
    · exact .inl ⟨n1, n2, fun e => n1 t htl e.symm⟩
    · refine .inr ⟨fun q => m1 (by simp [q]), a, m2, m3, m4, m5, ?_⟩
      rw [m6, if_neg (by omega)]
      by_cases c : (w.ts.getD t default).up = i
      · rw [if_pos c.symm]
        rcases m5 t htl c with q | q
        · subst q; rw [hU (t + 1) (by omega)]; omega
        · subst q; rw [hU a (by omega)]; omega
      · rw [if_neg (fun e => c e.symm), hU a (fun e => c (by rw [← e]; exact m3)), hU (a + 1) (fun e => c (by rw [← e]; exact m4))]
  obtain ⟨r1, r2, r3, r4⟩ := fin_G (w.ts.length + 1) w.ts r (w.ts.getD t default).up h.pos g0 (by omega) (by omega) (by omega) (fun e => by
    have := h.gg.up0 t htl e; subst this; exact Ut')
  have hd : Pl.did w t = (⟨(fin (w.ts.length + 1) w.ts (w.ts.getD t default).up).1, w.grain, marked w.done (w.ts.getD t default).low.toNat (w.ts.getD t default).high.toNat⟩, (fin (w.ts.length + 1) w.ts (w.ts.getD t default).up).2) := by
    simp only [Pl.did, task, Int.toNat_natCast]
  rw [hd]
  generalize fin (w.ts.length + 1) w.ts (w.ts.getD t default).up = F at *
  obtain ⟨ts', o⟩ := F
  dsimp only at *
  have hml := marked_len (d := w.done) (lo := (w.ts.getD t default).low.toNat) (hi := (w.ts.getD t default).high.toNat) (by omega) (by omega)
  have hmg := marked_get (d := w.done) (lo := (w.ts.getD t default).low.toNat) (hi := (w.ts.getD t default).high.toNat) (by omega) (by omega)
  have hsz : ∀ (d : List Bool) (x : Nat), szT ⟨ts', w.grain, d⟩ x = szT w x := fun d x => by simp only [szT]; rw [(r3 x).1, (r3 x).2.1]
  refine ⟨⟨h.c, h.gr, by dsimp only; rw [hml]; exact h.dl, by have := h.pos; dsimp only; omega, fun i hi => ?_, r1, hnd.2, fun x hx u hu1 hu2 => ?_, fun x hx y hy hne => ?_, fun u hu => ?_, ?_, ?_⟩, r4, r2, (r3 t).2.1, (r3 t).1⟩
  · dsimp only at *
    rw [hml]
    have hi' : i < w.ts.length := by omega
    have o1 := h.ok i hi'
    unfold okT at *
    rw [(r3 i).1, (r3 i).2.1, (r3 i).2.2]
    have u1 := (r1.up i hi).2.2
    have u2 : (ts'.getD i default).wait ≤ 2 := by
      rcases r1.node i hi with ⟨_, q, _⟩ | ⟨_, a, _, _, _, _, q⟩
      · omega
      · rw [if_neg (by omega)] at q
        have b1 := U_01 ts' r a
        have b2 := U_01 ts' r (a + 1)
        omega
    omega
  · dsimp only at *
    rw [(r3 x).1] at hu1
    rw [(r3 x).2.1] at hu2
    have d1 := h.disj x (by simp [hx]) t ht (hr x hx).2
    rw [hmg, if_neg (by omega)]
    exact h.fresh x (by simp [hx]) u hu1 hu2
  · dsimp only
    rw [(r3 x).1, (r3 y).1, (r3 x).2.1, (r3 y).2.1]
    exact h.disj x (by simp [hx]) y (by simp [hy]) hne
  · dsimp only at *
    rw [hml] at hu
    rw [hmg]
    by_cases e : (w.ts.getD t default).low.toNat ≤ u ∧ u < (w.ts.getD t default).high.toNat
    · exact .inl (by rw [if_pos e])
    · rw [if_neg e]
      rcases h.cover u hu with q | ⟨x, hx, q1, q2⟩
      · exact .inl q
      · rcases List.mem_cons.1 hx with rfl | hx
        · exact absurd (by omega) e
        · exact .inr ⟨x, hx, by rw [(r3 x).1]; exact q1, by rw [(r3 x).2.1]; exact q2⟩
  · dsimp only
    rw [tot_congr (h := fun x => cntT (szT w x) g - 1) r (fun x _ => by rw [hsz]), r2]
    have e1 := h.phi
    simp only [tot] at e1
    have c1 := (h.sz ht).2.2
    have c2 := cntL_base c1 (by omega)
    have c3 := cntT_eq c1
    omega
  · rw [tot_congr (h := szT w) r (fun x _ => hsz _ x)]
    have e1 := h.un
    simp only [tot] at e1
    omega
theorem Inv.ends {n g : Int} {w : Work} {units : Int} (h : Inv n g w [] units) : units = n ∧ (w.ts.length : Int) = cntT n g ∧ (∀ u : Nat, u < w.done.length → w.done.getD u false = true) ∧ (∀ i, i < w.ts.length → (w.ts.getD i default).wait = 0) := by
  refine ⟨by have := h.un; simp only [tot] at this; omega, by have := h.phi; simp only [tot] at this; omega, fun u hu => ?_, fun i hi => ?_⟩
  · rcases h.cover u hu with q | ⟨x, hx, _⟩
    · exact q
    · cases hx
  · have h1 := (h.gg.up i hi).2.2
    rcases Int.lt_or_eq_of_le h1 with q | q
    · exact absurd rfl (h.gg.some_open w.ts.length i (by omega) hi (U_one.2 (.inr q)))
    · exact q.symm
theorem Inv.begins {n g : Int} (h : cnt n g) : Inv n g (beginW n g) [0] 0 := by
  have h' := h
  unfold cnt at h'
  have e : beginW n g = ⟨[⟨0, n, -1, 0⟩], g, List.replicate n.toNat false⟩ := by rw [beginW, if_pos h]
  rw [e]
  have one : ∀ i : Nat, i < 1 → i = 0 := fun i hi => by omega
  refine ⟨h, rfl, by simp; omega, by simp, fun i hi => ?_, ⟨fun i hi => ?_, fun i hi _ => one i hi, fun t ht => ?_, fun i hi => ?_⟩, by simp, fun t ht u _ _ => ?_, fun t ht t' ht' hne => ?_, fun u hu => ?_, ?_, ?_⟩
  · have := one i hi; subst this; simp [okT]; omega
  · have := one i hi; subst this; simp
  · simp at ht; subst ht; simp
  · have := one i hi; subst this
    refine .inl ⟨fun j hj => ?_, by simp, by omega⟩
    have := one j hj; subst this; simp
  · simp [List.getD_eq_getElem?_getD, List.getElem?_replicate]; split <;> rfl
  · simp at ht ht'; omega
  · refine .inr ⟨0, by simp, by simp, ?_⟩
    simp at hu ⊢; omega
  · simp [tot, szT]; omega
  · simp [tot, szT]
end Go.Pl
/-! 
  Plain data: one task taken out of those that are open.
-/
namespace Go.Pl
theorem perm_at (op : List Nat) (i : Nat) (h : i < op.length) : op.Perm (op.getD i default :: (op.take i ++ op.drop (i + 1))) := by
  have e : op = op.take i ++ (op.getD i default :: op.drop (i + 1)) := by
    rw [List.getD_eq_getElem?_getD, List.getElem?_eq_getElem h, Option.getD_some, ← List.drop_eq_getElem_cons h, List.take_append_drop]
  exact (List.Perm.of_eq e).trans List.perm_middle
theorem len_at (op : List Nat) (i : Nat) (h : i < op.length) : (op.take i ++ op.drop (i + 1)).length + 1 = op.length := by
  simp; omega
theorem part_list {α : Type} {w : Work} {t : Int} (h : partE w t = 0) (r : List Nat) (f : Nat → List α) (g : Int → List α) (hg : ∀ n : Nat, f n = g n) : r.map f ++ [g (partA w t), g (partB w t)] = (r ++ [w.ts.length, w.ts.length + 1]).map f := by
  obtain ⟨_, e2, e3, _⟩ := part_ok h
  rw [e2, e3, List.map_append, List.map_cons, List.map_cons, List.map_nil, hg, hg]; rfl
theorem over_eq {b : Bool} {r : List Nat} (h : b = true ↔ r = []) : (b != decide (r.length = 0)) = false := by
  cases r <;> cases b <;> simp_all
theorem over_eq2 {b : Bool} {r : List Nat} {z : Int} (h : b = true ↔ r = []) (hz : z = (r.length : Int)) : (b != (z == 0)) = decide False := by
  subst hz
  cases r <;> cases b <;> simp_all
  omega
end Go.Pl
/-! 
  Plain data: a crew, and what its steps do.
-/
set_option linter.unusedSimpArgs false
set_option linter.unusedVariables false
namespace Go.Pl
structure Event where
  worker : Int
  src : Int
  task : Int
  parted : Bool
deriving DecidableEq, Inhabited
structure Crew where
  work : Work
  dq : List (List Int)
  over : Bool
  steps : Int
  idle : Int
deriving DecidableEq, Inhabited
def held (d : List (List Int)) : Nat := (d.map List.length).sum
def holds (w : Work) (t : Int) : Prop := 0 ≤ t ∧ t < w.ts.length ∧ (task w t).wait = 0 ∧ (great w t ∨ w.done.getD (task w t).low.toNat default = false)
instance (w : Work) (t : Int) : Decidable (holds w t) := by unfold holds; infer_instance
def crewRight (c : Crew) : Prop := right c.work ∧ 1 ≤ c.dq.length ∧ c.dq.length ≤ 8 ∧ (0 ≤ c.steps ∧ c.steps ≤ 100000) ∧ (0 ≤ c.idle ∧ c.idle ≤ 100000) ∧ c.dq.flatten.Nodup ∧ ∀ t ∈ c.dq.flatten, holds c.work t
instance (c : Crew) : Decidable (crewRight c) := by unfold crewRight; infer_instance
/-- a worker's number -/
def num (d : List (List Int)) (n : Int) : Int := (n.tmod d.length + d.length) % d.length
theorem tmod_bound (n : Int) {m : Int} (h : 0 < m) : -m < n.tmod m ∧ n.tmod m < m := ⟨Int.lt_tmod_of_pos n h, Int.tmod_lt_of_pos n h⟩
def foundB (d : List (List Int)) (p v : Nat) : Bool := decide (0 < (d.getD p default).length ∨ 0 < (d.getD v default).length)
def foundE (d : List (List Int)) (p v : Nat) (e : Event) : Event :=
  if 0 < (d.getD p default).length then { e with src := p, task := (d.getD p default).getD ((d.getD p default).length - 1) 0 }
  else if 0 < (d.getD v default).length then { e with src := v, task := (d.getD v default).getD 0 0 } else e
def foundD (d : List (List Int)) (p v : Nat) : List (List Int) :=
  if 0 < (d.getD p default).length then d.set p ((d.getD p default).take ((d.getD p default).length - 1))
  else if 0 < (d.getD v default).length then d.set v ((d.getD v default).drop 1) else d
theorem held_take_succ (d : List (List Int)) (i : Nat) (h : i < d.length) : held (d.take (i + 1)) = held (d.take i) + (d.getD i default).length := by
  unfold held
  rw [List.take_add_one, List.map_append, List.sum_append, List.getD_eq_getElem?_getD, List.getElem?_eq_getElem h]
  simp
theorem held_le (d : List (List Int)) (i : Nat) : held (d.take i) ≤ held d := by
  have : held d = held (d.take i) + held (d.drop i) := by
    unfold held; rw [← List.sum_append, ← List.map_append, List.take_append_drop]
  omega
end Go.Pl
