/-
  The abstract machine, twenty-seventh part: what comes in, as data: each plain type's values, opened.
-/
import Derived.Test.YtbdliooaiincdaaAm26
import Derived.Test.YtbdliooaiincdaaAm24
import Derived.OpenShut
namespace Go.Am
open Go.RowKit Go.ChangeShapes Go.WideShapes

/-- cells that read as data -/
def RepC (w : World) (xs : List PV) (cs : List Value) : Prop :=
  xs.length = cs.length ∧ ∀ i x, xs[i]? = some x → RepP (fun _ => False) w x (cs.getD i undef) ∧ (cs.getD i undef).oneCell' = true

/-- what a type's cells are, if they read at all -/
def Opens (P : Program) (t : TypeId) (α : Type) (ok : α → Prop) (enc : α → List PV) : Prop :=
  ∀ (H : Type) (e : TypeId × Value → H) (w : World) (base : Nat) (spare : Nat → Bool) (held : Bool) (fuel : Nat) (cs : List Value) (x : DataW H × List MemPlace),
    DataW.trod e P w base spare held fuel t cs = some x → ∃ a, ok a ∧ RepC w (enc a) cs

theorem repC_one {w : World} {v : Value} {x : PV} (h : RepP (fun _ => False) w x v) (h1 : v.oneCell' = true) : RepC w [x] [v] :=
  ⟨rfl, fun i y hy => by
    cases i with
    | zero => simp only [List.getElem?_cons_zero, Option.some.injEq] at hy; subst hy; exact ⟨h, h1⟩
    | succ i => simp at hy⟩
theorem RepC.nil {w : World} : RepC w [] [] := ⟨rfl, fun i y hy => by simp at hy⟩
theorem RepC.append {w : World} {xs ys : List PV} {cs ds : List Value} (h : RepC w xs cs) (g : RepC w ys ds) : RepC w (xs ++ ys) (cs ++ ds) := by
  refine ⟨by simp [h.1, g.1], fun i x hx => ?_⟩
  by_cases hi : i < xs.length
  · rw [List.getElem?_append_left hi] at hx
    have := h.2 i x hx
    rw [List.getD_eq_getElem?_getD, List.getElem?_append_left (by rw [← h.1]; exact hi), ← List.getD_eq_getElem?_getD]; exact this
  · rw [List.getElem?_append_right (by omega)] at hx
    have := g.2 _ x hx
    rw [List.getD_eq_getElem?_getD, List.getElem?_append_right (by rw [← h.1]; omega), ← List.getD_eq_getElem?_getD, ← h.1]; exact this

section
variable {P : Program} {t : TypeId}
theorem opens_int {k : IntKind} (ht : P.underlying t = some (.int k)) : Opens P t Int (fun n => (Lit.int k n).wf = true) (fun n => [.lit (.int k n)]) := by
  intro H e w base spare held fuel cs x h
  obtain ⟨n, rfl, _, hw⟩ := DataW.trod_int ht h
  exact ⟨n, hw, repC_one (.lit _) rfl⟩
theorem opens_bool (ht : P.underlying t = some .bool) : Opens P t Bool (fun _ => True) (fun b => [.lit (.bool b)]) := by
  intro H e w base spare held fuel cs x h
  obtain ⟨b, rfl, _⟩ := DataW.trod_bool ht h
  exact ⟨b, trivial, repC_one (.lit _) rfl⟩

theorem pick_list {α : Type} (R : Nat → α → Prop) : ∀ n, (∀ i, i < n → ∃ a, R i a) → ∃ l : List α, l.length = n ∧ ∀ i a, l[i]? = some a → R i a
  | 0, _ => ⟨[], rfl, fun i a h => by simp at h⟩
  | n + 1, h => by
    obtain ⟨l, hl, hr⟩ := pick_list R n (fun i hi => h i (by omega))
    obtain ⟨a, ha⟩ := h n (by omega)
    refine ⟨l ++ [a], by simp [hl], fun i b hb => ?_⟩
    by_cases hi : i < n
    · rw [List.getElem?_append_left (by omega)] at hb; exact hr i b hb
    · rw [List.getElem?_append_right (by omega)] at hb
      have hi' : i - l.length = 0 := by
        have := (List.getElem?_eq_some_iff.1 hb).1; simp at this; omega
      rw [hi'] at hb
      simp only [List.getElem?_cons_zero, Option.some.injEq] at hb; subst hb
      rwa [show i = n by omega]

theorem mapM_get2 {β : Type} {f : Nat → Option β} : ∀ (l : List Nat) (r : List β), l.mapM f = some r → r.length = l.length ∧ ∀ (i n : Nat), l[i]? = some n → f n = r[i]?
  | [], r, h => by simp at h; subst h; exact ⟨rfl, fun i n hn => by simp at hn⟩
  | a :: l, r, h => by
    rw [List.mapM_cons] at h
    obtain ⟨b, hb, h⟩ := Option.bind_eq_some_iff.1 h
    obtain ⟨bs, hbs, h⟩ := Option.bind_eq_some_iff.1 h
    simp only [Option.pure_def, Option.some.injEq] at h; subst h
    obtain ⟨h1, h2⟩ := mapM_get2 l bs hbs
    refine ⟨by simp [h1], fun i n hn => ?_⟩
    cases i with
    | zero => simp only [List.getElem?_cons_zero, Option.some.injEq] at hn; subst hn; simpa using hb
    | succ i => simpa using h2 i n (by simpa using hn)

theorem cells_get {w : World} {base : Nat} {a : Addr} {n : Nat} {cs : List Value} (h : w.cells? base a n = some cs) : cs.length = n ∧ ∀ i, i < n → w.cell? (a.add i) = some (cs.getD i undef) := by
  unfold World.cells? at h
  split at h
  · obtain ⟨h1, h2⟩ := mapM_get2 _ _ h
    simp only [List.length_range] at h1
    refine ⟨h1, fun i hi => ?_⟩
    rw [h2 i i (by simp [hi]), List.getD_eq_getElem?_getD, List.getElem?_eq_getElem (by omega)]; rfl
  · cases h

theorem opens_slice {el : TypeId} {α : Type} {ok : α → Prop} {enc : α → List PV} (ht : P.underlying t = some (.slice el)) (hsz : 0 < P.cellsOf el) (he : Opens P el α ok enc) :
    Opens P t (List α) (fun l => l.length ≤ maxLen ∧ ∀ a, a ∈ l → ok a) (fun l => [.seq false (l.map enc)]) := by
  intro H e w base spare held fuel cs x h
  rcases DataW.trod_slice ht h with ⟨rfl, _⟩ | ⟨a, len, cap, elems, rest, n, _, rfl, _, hb, hl, hm, hlen, hel, _, _⟩
  · exact ⟨[], ⟨by simp, fun a ha => by cases ha⟩, repC_one (.nilseq false none 0 (fun h => by cases h)) rfl⟩
  · have each : ∀ i, i < len → ∃ q : α, ok q ∧ ∃ ds, w.cells? base (a.add (i * P.cellsOf el)) (P.cellsOf el) = some ds ∧ RepC w (enc q) ds := by
      intro i hi
      have := hel i hi
      rw [List.getElem?_eq_getElem (by omega)] at this
      obtain ⟨ds, h1, h2⟩ := Option.bind_eq_some_iff.1 this
      obtain ⟨q, hq, hr⟩ := he H e w base spare held n ds _ h2
      exact ⟨q, hq, ds, h1, hr⟩
    obtain ⟨l, hll, hall⟩ := pick_list _ len each
    refine ⟨l, ⟨by omega, fun q hq => ?_⟩, repC_one ?_ rfl⟩
    · obtain ⟨i, hi⟩ := List.getElem?_of_mem hq
      exact (hall i q hi).1
    · by_cases h0 : len = 0
      · subst h0
        have : l = [] := List.eq_nil_of_length_eq_zero hll
        subst this
        exact .nilseq false _ cap (fun h => by cases h)
      · obtain ⟨b, off, spot⟩ := a
        cases spot with
        | some s =>
          obtain ⟨q, _, ds, h1, _⟩ := each 0 (by omega)
          have := (cells_get h1).2 0 hsz
          unfold World.cell? at this
          split at this
          · simp [Addr.add] at this
          · cases this
        | none =>
          have hlens : ∀ y, y ∈ l.map enc → y.length = P.cellsOf el := by
            intro y hy
            obtain ⟨q, hq, rfl⟩ := List.mem_map.1 hy
            obtain ⟨i, hi⟩ := List.getElem?_of_mem hq
            obtain ⟨_, ds, h1, h2⟩ := hall i q hi
            rw [h2.1, (cells_get h1).1]
          have e1 : (l.map enc).length = len := by simp [hll]
          have key : ∀ j x, (l.map enc).flatten[j]? = some x → ∃ v, w.cell? ⟨b, off + j, none⟩ = some v ∧ RepP (fun _ => False) w x v ∧ v.oneCell' = true := by
            intro j x hj
            have hjl := (List.getElem?_eq_some_iff.1 hj).1
            rw [flat_len _ _ hlens] at hjl
            have hmod := Nat.mod_lt j hsz
            have hdiv : j / P.cellsOf el < (l.map enc).length := Nat.div_lt_of_lt_mul (by rw [Nat.mul_comm]; exact hjl)
            have hj2 : j = j / P.cellsOf el * P.cellsOf el + j % P.cellsOf el := by rw [Nat.mul_comm]; exact (Nat.div_add_mod j _).symm
            have hd : (l.map enc)[j / P.cellsOf el]? = some (l.map enc)[j / P.cellsOf el] := List.getElem?_eq_getElem hdiv
            have hx : (l.map enc)[j / P.cellsOf el][j % P.cellsOf el]? = some x := by rw [← flat_get _ _ _ _ _ hlens hd hmod, ← hj2]; exact hj
            have hq : l[j / P.cellsOf el]? = some (l[j / P.cellsOf el]'(by simpa using hdiv)) := List.getElem?_eq_getElem _
            obtain ⟨_, ds, h1, h2⟩ := hall _ _ hq
            have hget := (cells_get h1).2 _ hmod
            rw [List.getElem_map] at hx
            have hrep := h2.2 _ x hx
            refine ⟨_, ?_, hrep.1, hrep.2⟩
            rw [← hget]
            congr 1
            simp only [Addr.add_lit, Addr.mk.injEq, true_and, and_true]
            omega
          have := RepP.seq (O := fun _ => False) (w := w) false (l.map enc) (P.cellsOf el) b off cap (fun j => (w.cell? ⟨b, off + j, none⟩).getD undef) hlens (by omega) (fun h => by cases h)
            (fun j hj => by
              obtain ⟨v, h1, _, h3⟩ := key j _ (List.getElem?_eq_getElem hj)
              simp only [h1, Option.getD_some]
              exact ⟨fun h => h, trivial, h3⟩)
            (fun j x hx => by
              obtain ⟨v, h1, h2, _⟩ := key j x hx
              simp only [h1, Option.getD_some]; exact h2)
          rw [e1] at this
          exact this

/-- types side by side -/
inductive OpensL (P : Program) : List TypeId → (α : Type) → (α → Prop) → (α → List PV) → Prop
  | nil : OpensL P [] Unit (fun _ => True) (fun _ => [])
  | cons {t : TypeId} {ts : List TypeId} {α β : Type} {ok : α → Prop} {enc : α → List PV} {ok' : β → Prop} {enc' : β → List PV} : Opens P t α ok enc → OpensL P ts β ok' enc' →
      OpensL P (t :: ts) (α × β) (fun p => ok p.1 ∧ ok' p.2) (fun p => enc p.1 ++ enc' p.2)

def offsOf (P : Program) : Nat → List TypeId → List Nat
  | _, [] => []
  | o, t :: ts => o :: offsOf P (o + P.cellsOf t) ts
def sumOf (P : Program) (ts : List TypeId) : Nat := (ts.map P.cellsOf).sum

theorem opensL_use {ts : List TypeId} {α : Type} {ok : α → Prop} {enc : α → List PV} (h : OpensL P ts α ok enc) : ∀ {H : Type} {e : TypeId × Value → H} {w : World} {base : Nat} {spare : Nat → Bool} {held : Bool} {fuel : Nat} (cs : List Value) (o : Nat),
    cs.length = o + sumOf P ts → (∀ (i : Nat) (t : TypeId) (f : Nat), ts[i]? = some t → (offsOf P o ts)[i]? = some f → ∃ x, DataW.trod e P w base spare held fuel t ((cs.drop f).take (P.cellsOf t)) = some x) → ∃ a, ok a ∧ RepC w (enc a) (cs.drop o) := by
  induction h with
  | nil =>
    intro H e w base spare held fuel cs o hl _
    refine ⟨(), trivial, ?_⟩
    have : cs.drop o = [] := List.eq_nil_of_length_eq_zero (by rw [List.length_drop]; simp [sumOf] at hl; omega)
    rw [this]; exact .nil
  | @cons t ts α β ok enc ok' enc' h1 _ ih =>
    intro H e w base spare held fuel cs o hl hall
    obtain ⟨x, hx⟩ := hall 0 t o rfl rfl
    obtain ⟨a, ha, hr⟩ := h1 H e w base spare held fuel _ _ hx
    obtain ⟨b, hb, hr'⟩ := ih (e := e) (w := w) (base := base) (spare := spare) (held := held) (fuel := fuel) cs (o + P.cellsOf t) (by simp [sumOf] at hl ⊢; omega) (fun i t' f hi hf => hall (i + 1) t' f (by simpa using hi) (by simpa [offsOf] using hf))
    refine ⟨(a, b), ⟨ha, hb⟩, ?_⟩
    have e1 : cs.drop o = (cs.drop o).take (P.cellsOf t) ++ cs.drop (o + P.cellsOf t) := by rw [← List.drop_drop, List.take_append_drop]
    rw [e1]
    exact hr.append hr'

def tiled (P : Program) (t : TypeId) (ts : List TypeId) : Bool :=
  match P.underlying t with
  | some (.struct fs) => (fs.toList.map (·.type) == ts) && (fs.toList.map (·.offset) == offsOf P 0 ts) && (P.cellsOf t == sumOf P ts)
  | some (.array n e) => (List.replicate n e == ts) && (P.cellsOf t == sumOf P ts)
  | _ => false

theorem offsOf_rep (e : TypeId) : ∀ (n o i f : Nat), (offsOf P o (List.replicate n e))[i]? = some f → f = o + i * P.cellsOf e
  | 0, o, i, f, h => by simp [offsOf] at h
  | n + 1, o, i, f, h => by
    rw [List.replicate_succ] at h
    cases i with
    | zero => simp [offsOf] at h; omega
    | succ i =>
      simp only [offsOf, List.getElem?_cons_succ] at h
      have := offsOf_rep e n _ i f h
      rw [this, Nat.add_mul]; omega

theorem opens_agg {ts : List TypeId} {α : Type} {ok : α → Prop} {enc : α → List PV} (ht : tiled P t ts = true) (h : OpensL P ts α ok enc) : Opens P t α ok enc := by
  intro H e w base spare held fuel cs x hx
  unfold tiled at ht
  split at ht
  · rename_i fs hu
    simp only [Bool.and_eq_true, beq_iff_eq] at ht
    obtain ⟨⟨h1, h2⟩, h3⟩ := ht
    obtain ⟨xs, n, _, _, hl, hxs, hall⟩ := DataW.trod_struct hu hx
    have := opensL_use h (e := e) (w := w) (base := base) (spare := spare) (held := held) (fuel := n) cs 0 (by rw [hl, h3, Nat.zero_add]) (fun i t' f hi hf => by
      rw [← h1, List.getElem?_map] at hi
      rw [← h2, List.getElem?_map] at hf
      obtain ⟨fd, hfd, rfl⟩ := Option.map_eq_some_iff.1 hi
      rw [hfd] at hf
      simp only [Option.map_some, Option.some.injEq] at hf; subst hf
      have hfd' : fs[i]? = some fd := by simpa using hfd
      have hlt := (Array.getElem?_eq_some_iff.1 hfd').1
      rw [hall i fd hfd']
      exact ⟨xs[i]'(by omega), List.getElem?_eq_getElem _⟩)
    rwa [List.drop_zero] at this
  · rename_i n el hu
    simp only [Bool.and_eq_true, beq_iff_eq] at ht
    obtain ⟨h1, h3⟩ := ht
    obtain ⟨xs, m, _, _, hl, hxs, hall⟩ := DataW.trod_array hu hx
    have := opensL_use h (e := e) (w := w) (base := base) (spare := spare) (held := held) (fuel := m) cs 0 (by rw [hl, h3, Nat.zero_add]) (fun i t' f hi hf => by
      rw [← h1] at hi hf
      have hf' := offsOf_rep el n 0 i f hf
      rw [Nat.zero_add] at hf'
      subst hf'
      have hin : i < n := by have := (List.getElem?_eq_some_iff.1 hi).1; simpa using this
      have : t' = el := by simp [hin] at hi; exact hi.symm
      subst this
      rw [hall i hin]
      exact ⟨xs[i]'(by omega), List.getElem?_eq_getElem _⟩)
    rwa [List.drop_zero] at this
  · cases ht

theorem Opens.map {α β : Type} {ok : α → Prop} {enc : α → List PV} {ok' : β → Prop} {enc' : β → List PV} (h : Opens P t α ok enc) (f : α → β) (hf : ∀ a, ok a → ok' (f a) ∧ enc' (f a) = enc a) : Opens P t β ok' enc' := by
  intro H e w base spare held fuel cs x hx
  obtain ⟨a, ha, hr⟩ := h H e w base spare held fuel cs x hx
  exact ⟨f a, (hf a ha).1, by rw [(hf a ha).2]; exact hr⟩

theorem arg_one {α : Type} {ok : α → Prop} {enc : α → PV} {H : Type} {e : TypeId × Value → H} {w : World} {base : Nat} {spare : Nat → Bool} {held : Bool} {v : Value} {d : DataW H} {ps : List MemPlace}
    (ho : Opens P t α ok (fun a => [enc a])) (hv : v.cells = #[v]) (h : DataW.Trod e P w base spare held t v d ps) : ∃ a, ok a ∧ RepP (fun _ => False) w (enc a) v := by
  obtain ⟨fuel, hf⟩ := h
  obtain ⟨a, ha, hr⟩ := ho H e w base spare held fuel _ _ hf
  refine ⟨a, ha, ?_⟩
  have := (hr.2 0 (enc a) rfl).1
  rw [hv] at this
  simpa using this
theorem arg_agg {α : Type} {ok : α → Prop} {enc : α → List PV} {H : Type} {e : TypeId × Value → H} {w : World} {base : Nat} {spare : Nat → Bool} {held : Bool} {cs : Array Value} {d : DataW H} {ps : List MemPlace}
    (ho : Opens P t α ok enc) (h : DataW.Trod e P w base spare held t (.agg cs) d ps) : ∃ a, ok a ∧ RepP (fun _ => False) w (.agg (enc a)) (.agg cs) := by
  obtain ⟨fuel, hf⟩ := h
  obtain ⟨a, ha, hr⟩ := ho H e w base spare held fuel _ _ hf
  simp only [Value.cells] at hr
  have hg : ∀ i, cs.toList.getD i undef = cs.getD i undef := fun i => by rw [List.getD_eq_getElem?_getD, Array.getD_eq_getD_getElem?]; simp
  refine ⟨a, ha, .agg _ _ (by have := hr.1; simp at this; exact this.symm) (fun i x hx => ?_) (fun i hi => ?_)⟩
  · have := (hr.2 i x hx).1; rwa [hg] at this
  · have := (hr.2 i _ (List.getElem?_eq_getElem hi)).2; rwa [hg] at this

theorem okWide_one {k : IntKind} {r : Reach} {b0 : Nat} {v : Value} {w : World} (ht : P.underlying t = some (.int k)) (h : Value.okWide P w r b0 t v) : v.cells = #[v] := by
  obtain ⟨n, rfl⟩ := okWide_int ht h; rfl
theorem okWide_one_b {r : Reach} {b0 : Nat} {v : Value} {w : World} (ht : P.underlying t = some .bool) (h : Value.okWide P w r b0 t v) : v.cells = #[v] := by
  obtain ⟨n, rfl⟩ := okWide_bool ht h; rfl
theorem okWide_one_s {el : TypeId} {r : Reach} {b0 : Nat} {v : Value} {w : World} (ht : P.underlying t = some (.slice el)) (h : Value.okWide P w r b0 t v) : v.cells = #[v] := by
  obtain ⟨a, l, c, rfl⟩ := okWide_slice ht h; rfl
def isAgg (P : Program) (t : TypeId) : Bool := match P.underlying t with | some (.struct _) | some (.array _ _) => true | _ => false
theorem okWide_agg {r : Reach} {b0 : Nat} {v : Value} {w : World} (ht : isAgg P t = true) (h : Value.okWide P w r b0 t v) : ∃ cs, v = .agg cs := by
  unfold isAgg at ht
  unfold Value.okWide at h
  split at ht
  · rename_i hu; rw [hu] at h; obtain ⟨cs, h, _⟩ := h; exact ⟨cs, h⟩
  · rename_i hu; rw [hu] at h; obtain ⟨cs, h, _⟩ := h; exact ⟨cs, h⟩
  · cases ht
end
end Go.Am
