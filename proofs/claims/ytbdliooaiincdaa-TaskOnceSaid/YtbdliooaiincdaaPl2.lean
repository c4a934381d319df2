/-
  Plain data: work that is parted into tasks, and what becomes of it.
-/
namespace Go.Pl
structure Task where
  low : Int
  high : Int
  up : Int
  wait : Int
deriving DecidableEq, Inhabited
structure Work where
  ts : List Task
  grain : Int
  done : List Bool
deriving DecidableEq, Inhabited
def okT (n i : Nat) (t : Task) : Prop := 0 ≤ t.low ∧ t.low < t.high ∧ t.high ≤ n ∧ -1 ≤ t.up ∧ t.up < i ∧ 0 ≤ t.wait ∧ t.wait ≤ 2
instance (n i : Nat) (t : Task) : Decidable (okT n i t) := by unfold okT; infer_instance
def cnt (n g : Int) : Prop := 1 ≤ n ∧ n ≤ 1000 ∧ 1 ≤ g ∧ g ≤ 100
instance (n g : Int) : Decidable (cnt n g) := by unfold cnt; infer_instance
def right (w : Work) : Prop := cnt w.done.length w.grain ∧ 1 ≤ w.ts.length ∧ w.ts.length ≤ 2000 ∧ ∀ i, i < w.ts.length → okT w.done.length i (w.ts.getD i default)
instance (w : Work) : Decidable (right w) := by unfold right; infer_instance
theorem right_of {w : Work} {x : Nat} (hx : w.ts.length ≤ x) (h : cnt w.done.length w.grain ∧ 1 ≤ w.ts.length ∧ w.ts.length ≤ 2000) (ho : ∀ j, j < x → okT w.done.length j (w.ts.getD j default)) : right w :=
  ⟨h.1, h.2.1, h.2.2, fun i hi => ho i (by omega)⟩
theorem list_of {α : Type} [Inhabited α] {a b : List α} {x : Nat} (h : a.length = b.length) (hx : a.length ≤ x) (hall : ∀ j, j < x → a.getD j default = b.getD j default) : a = b := by
  apply List.ext_getElem h
  intro i h1 h2
  have := hall i (by omega)
  rw [List.getD_eq_getElem?_getD, List.getD_eq_getElem?_getD, List.getElem?_eq_getElem h1, List.getElem?_eq_getElem h2] at this
  exact this
theorem task_ne (a b : Task) : (!(a.low == b.low && (a.high == b.high && (a.up == b.up && a.wait == b.wait)))) = decide ¬ a = b := by
  rw [Bool.eq_iff_iff]
  cases a; cases b
  simp only [Bool.not_eq_true', Bool.and_eq_false_iff, beq_eq_false_iff_ne, ne_eq, Task.mk.injEq, decide_eq_true_eq]
  omega
theorem int_ne (a : Int) : (a != 0) = decide ¬ a = 0 := by rw [Bool.eq_iff_iff]; simp only [bne_iff_ne, ne_eq, decide_eq_true_eq]
theorem bool_ne (a b : Bool) : (a != b) = decide ¬ a = b := by cases a <;> cases b <;> rfl
theorem work_ext {v w : Work} (h1 : v.ts = w.ts) (h2 : v.grain = w.grain) (h3 : v.done = w.done) : v = w := by cases v; cases w; simp_all
/-- there: what error there is -/
def there (w : Work) (i : Int) : Int := if ¬ right w then 1 else if i < 0 ∨ (w.ts.length : Int) ≤ i then 6 else 0
@[reducible] def task (w : Work) (i : Int) : Task := w.ts.getD i.toNat default
def great (w : Work) (i : Int) : Prop := there w i = 0 ∧ w.grain < (task w i).high - (task w i).low
instance (w : Work) (i : Int) : Decidable (great w i) := by unfold great; infer_instance
theorem ok_of {w : Work} {i : Int} (h : there w i = 0) : right w ∧ 0 ≤ i ∧ i < w.ts.length ∧ okT w.done.length i.toNat (task w i) ∧ w.done.length ≤ 1000 ∧ 1 ≤ w.grain ∧ w.grain ≤ 100 ∧ w.ts.length ≤ 2000 := by
  unfold there at h
  split at h
  · omega
  · rename_i hr
    split at h
    · omega
    · rename_i hi
      have hr := Decidable.not_not.mp hr
      have h1 := hr.1
      have h2 := hr.2.2.1
      have hok := hr.2.2.2 i.toNat (by omega)
      unfold cnt at h1
      exact ⟨hr, by omega, by omega, hok, by omega, by omega, by omega, h2⟩
theorem there_of {w : Work} {i : Int} (h : right w) (h2 : 0 ≤ i ∧ i < w.ts.length) : there w i = 0 := by
  unfold there; rw [if_neg (by simpa using h), if_neg (by omega)]
def mid (t : Task) : Int := t.low + (t.high - t.low) / 2
def parted (w : Work) (i : Int) : Work :=
  ⟨w.ts.set i.toNat { task w i with wait := 2 } ++ [⟨(task w i).low, mid (task w i), i, 0⟩, ⟨mid (task w i), (task w i).high, i, 0⟩], w.grain, w.done⟩
def partE (w : Work) (i : Int) : Int := if there w i ≠ 0 then there w i else if (task w i).high - (task w i).low ≤ w.grain ∨ 0 < (task w i).wait then 5 else if 1998 < w.ts.length then 2 else 0
def partW (w : Work) (i : Int) : Work := if partE w i = 0 then parted w i else w
def partA (w : Work) (i : Int) : Int := if partE w i = 0 then w.ts.length else 0
def partB (w : Work) (i : Int) : Int := if partE w i = 0 then w.ts.length + 1 else 0
/-- upwards from a task whose part is finished -/
def fin : Nat → List Task → Int → List Task × Bool
  | 0, ts, _ => (ts, true)
  | k + 1, ts, up => if up = -1 then (ts, true) else
      let t := ts.getD up.toNat default
      if t.wait = 0 then (ts, false) else
      if 0 < t.wait - 1 then (ts.set up.toNat { t with wait := t.wait - 1 }, false) else fin k (ts.set up.toNat { t with wait := t.wait - 1 }) t.up
def doE (w : Work) (i : Int) : Int := if there w i ≠ 0 then there w i else if w.grain < (task w i).high - (task w i).low ∨ 0 < (task w i).wait ∨ w.done.getD (task w i).low.toNat false = true then 5 else 0
def marked (d : List Bool) (lo hi : Nat) : List Bool := d.take lo ++ List.replicate (hi - lo) true ++ d.drop hi
def did (w : Work) (i : Int) : Work × Bool :=
  let r := fin (w.ts.length + 1) w.ts (task w i).up
  (⟨r.1, w.grain, marked w.done (task w i).low.toNat (task w i).high.toNat⟩, r.2)
def doW (w : Work) (i : Int) : Work := if doE w i = 0 then (did w i).1 else w
def doO (w : Work) (i : Int) : Bool := if doE w i = 0 then (did w i).2 else false
def beginW (n g : Int) : Work := if cnt n g then ⟨[⟨0, n, -1, 0⟩], g, List.replicate n.toNat false⟩ else ⟨[], 0, []⟩
def beginE (n g : Int) : Int := if cnt n g then 0 else 1
/-- how many leaves work comes to -/
def leaves (g : Nat) : Nat → Nat → Nat
  | 0, _ => 1
  | k + 1, n => if n ≤ g then 1 else leaves g k (n / 2) + leaves g k (n - n / 2)
theorem part_err {w : Work} {i e : Int} (h : partE w i = e) (he : e ≠ 0) : partW w i = w ∧ partA w i = 0 ∧ partB w i = 0 ∧ partE w i = e := by
  have hn : ¬ partE w i = 0 := by rw [h]; exact he
  exact ⟨by rw [partW, if_neg hn], by rw [partA, if_neg hn], by rw [partB, if_neg hn], h⟩
theorem part_ok {w : Work} {i : Int} (h : partE w i = 0) : partW w i = parted w i ∧ partA w i = w.ts.length ∧ partB w i = w.ts.length + 1 ∧ partE w i = 0 :=
  ⟨by rw [partW, if_pos h], by rw [partA, if_pos h], by rw [partB, if_pos h], h⟩
theorem partE1 {w : Work} {i : Int} (h : ¬ there w i = 0) : partE w i = there w i := by unfold partE; rw [if_pos h]
theorem partE2 {w : Work} {i : Int} (h : there w i = 0) (h2 : (task w i).high - (task w i).low ≤ w.grain ∨ 0 < (task w i).wait) : partE w i = 5 := by unfold partE; rw [if_neg (by simpa using h), if_pos h2]
theorem partE3 {w : Work} {i : Int} (h : there w i = 0) (h2 : ¬ ((task w i).high - (task w i).low ≤ w.grain ∨ 0 < (task w i).wait)) (h3 : 1998 < w.ts.length) : partE w i = 2 := by unfold partE; rw [if_neg (by simpa using h), if_neg h2, if_pos h3]
theorem partE0 {w : Work} {i : Int} (h : there w i = 0) (h2 : ¬ ((task w i).high - (task w i).low ≤ w.grain ∨ 0 < (task w i).wait)) (h3 : ¬ 1998 < w.ts.length) : partE w i = 0 := by unfold partE; rw [if_neg (by simpa using h), if_neg h2, if_neg h3]
theorem do_err {w : Work} {i e : Int} (h : doE w i = e) (he : e ≠ 0) : doW w i = w ∧ doO w i = false ∧ doE w i = e := by
  have hn : ¬ doE w i = 0 := by rw [h]; exact he
  exact ⟨by rw [doW, if_neg hn], by rw [doO, if_neg hn], h⟩
theorem do_ok {w : Work} {i : Int} (h : doE w i = 0) : doW w i = (did w i).1 ∧ doO w i = (did w i).2 ∧ doE w i = 0 := ⟨by rw [doW, if_pos h], by rw [doO, if_pos h], h⟩
theorem doE1 {w : Work} {i : Int} (h : ¬ there w i = 0) : doE w i = there w i := by unfold doE; rw [if_pos h]
theorem doE2 {w : Work} {i : Int} (h : there w i = 0) (h2 : w.grain < (task w i).high - (task w i).low ∨ 0 < (task w i).wait ∨ w.done.getD (task w i).low.toNat false = true) : doE w i = 5 := by unfold doE; rw [if_neg (by simpa using h), if_pos h2]
theorem doE0 {w : Work} {i : Int} (h : there w i = 0) (h2 : ¬ (w.grain < (task w i).high - (task w i).low ∨ 0 < (task w i).wait ∨ w.done.getD (task w i).low.toNat false = true)) : doE w i = 0 := by unfold doE; rw [if_neg (by simpa using h), if_neg h2]
/-- tasks that wait for tasks ahead of them -/
def upOk (ts : List Task) : Prop := ∀ i, i < ts.length → -1 ≤ (ts.getD i default).up ∧ (ts.getD i default).up < i ∧ 0 ≤ (ts.getD i default).wait ∧ (ts.getD i default).wait ≤ 2
theorem upOk_of {w : Work} (h : right w) : upOk w.ts := fun i hi => by have := h.2.2.2 i hi; unfold okT at this; omega
theorem upOk_set {ts : List Task} (h : upOk ts) {k : Nat} (hk : k < ts.length) (hw : 0 < (ts.getD k default).wait) : upOk (ts.set k { ts.getD k default with wait := (ts.getD k default).wait - 1 }) := by
  intro i hi
  rw [List.length_set] at hi
  by_cases e : k = i
  · subst e
    have := h k hk
    rw [List.getD_eq_getElem?_getD, List.getElem?_set_self (by simpa using hk)]
    simp only [Option.getD_some]; omega
  · have := h i hi
    rw [List.getD_eq_getElem?_getD, List.getElem?_set_ne e, ← List.getD_eq_getElem?_getD]; exact this
theorem fin_end (k : Nat) (ts : List Task) : fin (k + 1) ts (-1) = (ts, true) := by simp [fin]
theorem fin_zero {k : Nat} {ts : List Task} {up : Int} (h : up ≠ -1) (h0 : (ts.getD up.toNat default).wait = 0) : fin (k + 1) ts up = (ts, false) := by simp only [fin, h, if_false, h0, if_true]
theorem fin_stop {k : Nat} {ts : List Task} {up : Int} (h : up ≠ -1) (h0 : (ts.getD up.toNat default).wait ≠ 0) (h1 : 0 < (ts.getD up.toNat default).wait - 1) :
    fin (k + 1) ts up = (ts.set up.toNat { ts.getD up.toNat default with wait := (ts.getD up.toNat default).wait - 1 }, false) := by simp only [fin, h, if_false, h0, h1, if_true]
theorem fin_on {k : Nat} {ts : List Task} {up : Int} (h : up ≠ -1) (h0 : (ts.getD up.toNat default).wait ≠ 0) (h1 : ¬ 0 < (ts.getD up.toNat default).wait - 1) :
    fin (k + 1) ts up = fin k (ts.set up.toNat { ts.getD up.toNat default with wait := (ts.getD up.toNat default).wait - 1 }) (ts.getD up.toNat default).up := by simp only [fin, h, if_false, h0, h1]
theorem marked_len {d : List Bool} {lo hi : Nat} (h : lo ≤ hi) (h2 : hi ≤ d.length) : (marked d lo hi).length = d.length := by simp [marked]; omega
theorem marked_start (d : List Bool) (lo : Nat) : marked d lo lo = d := by simp [marked]
theorem marked_set {d : List Bool} {lo k : Nat} (h : lo ≤ k) (hk : k < d.length) : (marked d lo k).set k true = marked d lo (k + 1) := by
  apply List.ext_getElem
  · rw [List.length_set, marked_len h (by omega), marked_len (by omega) (by omega)]
  · intro j h1 h2
    rw [List.getElem_set]
    simp only [marked, List.getElem_append, List.length_append, List.length_take, List.length_replicate, List.getElem_take, List.getElem_replicate, List.getElem_drop]
    by_cases e : k = j
    · subst e; rw [if_pos rfl, dif_pos (by omega)]
      by_cases e2 : k < min lo d.length
      · omega
      · rw [dif_neg e2]
    · rw [if_neg e]
      by_cases a : j < min lo d.length
      · rw [dif_pos (by omega), dif_pos a, dif_pos (by omega)]; try rw [dif_pos a]
      · by_cases b : j < min lo d.length + (k - lo)
        · rw [dif_pos b, dif_neg a, dif_pos (by omega)]; try rw [dif_neg a]
        · rw [dif_neg b, dif_neg (by omega)]
          congr 1; omega
theorem set_ts {α : Type} (ts : List Task) (k : Nat) (f : Task → List α) (t : Task) : (ts.map f).set k (f t) = (ts.set k t).map f := by rw [List.map_set]
end Go.Pl
