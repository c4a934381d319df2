/-
  The abstract machine, second part: what the program's table of types says, cells of values, and what one operation does to a state.
-/
import Derived.Test.YtbdliooaiincdaaAm1
namespace Go.Am
open Go.RowKit

/-! ### what the table of types says -/
/-- the cells of a type's zero value -/
def zcells (z : Value) : List PV := z.cells.toList.map ofVal1
def aggDesc : Option TypeDesc → Bool
  | some (.struct _) | some (.array _ _) => true
  | _ => false
/-- a type: is it of cells; its zero value's cells -/
def tVar (P : Program) (t : TypeId) : Option (Bool × List PV) :=
  match P.underlying t, P.info? t with
  | some d, some i => match i.zero with
    | some z => if z.cells.size = i.size ∧ (∀ c ∈ z.cells.toList, c.oneCell' = true) then some (aggDesc (some d), zcells z) else none
    | none => none
  | _, _ => none
/-- a slice type: its element's type -/
def tEl (P : Program) (t : TypeId) : Option TypeId := match P.underlying t with | some (.slice e) => some e | _ => none
def tBytes (P : Program) (t : TypeId) : Option Nat := (P.info? t).map (·.bytes)
/-- a field's place and size, and whether it is of cells -/
def tFld (P : Program) (t f : Nat) : Option (Nat × Nat × Bool) :=
  match P.underlying t with
  | some (.struct fs) => match fs[f]? with
    | some fd => match P.info? fd.type, P.underlying fd.type with
      | some i, some d => if i.size = 0 then none else some (fd.offset, i.size, aggDesc (some d))
      | _, _ => none
    | none => none
  | _ => none
/-- an array type: its length, its element's size, and whether that is of cells -/
def tArr (P : Program) (t : TypeId) : Option (Nat × Nat × Bool) :=
  match P.underlying t with
  | some (.array n e) => match P.info? e, P.underlying e with
    | some i, some d => some (n, i.size, aggDesc (some d))
    | _, _ => none
  | _ => none
def tInt (P : Program) (t : TypeId) : Option IntKind := match P.underlying t with | some (.int k) => some k | _ => none
/-- where a part of a struct or an array lies -/
def tPlace (P : Program) (t : TypeId) (i : Nat) : Option (Nat × Nat) :=
  match P.underlying t with
  | some (.struct fs) => match fs[i]? with
    | some fd => (P.info? fd.type).map fun x => (fd.offset, x.size)
    | none => none
  | some (.array _ e) => (P.info? e).map fun x => (i * x.size, x.size)
  | _ => none

/-! ### cells -/
def splice {α : Type} (cs : List α) (off : Nat) (vs : List α) : List α := cs.take off ++ vs ++ cs.drop (off + vs.length)

def PV.pure? : AV → Option PV
  | .p x => some x
  | _ => none
def pures : List AV → Option (List PV)
  | [] => some []
  | .p x :: r => (pures r).map (x :: ·)
  | _ :: _ => none
/-- cells put together -/
def aggOf (cs : List AV) : AV := match pures cs with
  | some xs => .p (.agg xs)
  | none => .agg cs
/-- a value's cells -/
def AV.cells : AV → Option (List AV)
  | .p (.agg cs) => some (cs.map .p)
  | .p (.lit v) => if v.oneCell' = true then some [.p (.lit v)] else none
  | .p (.seq c es) => some [.p (.seq c es)]
  | .agg cs => some cs
  | .own id => some [.own id]
  | .ptr i s k o => some [.ptr i s k o]
  | .mp i => some [.mp i]
  | .fn f cs => some [.fn f cs]
  | _ => none

theorem splice_length {α : Type} (cs vs : List α) (off : Nat) (h : off + vs.length ≤ cs.length) : (splice cs off vs).length = cs.length := by
  simp [splice]; omega
theorem splice_get {α : Type} (cs vs : List α) (off j : Nat) (h : off + vs.length ≤ cs.length) :
    (splice cs off vs)[j]? = if off ≤ j ∧ j < off + vs.length then vs[j - off]? else cs[j]? := by
  simp only [splice]
  by_cases h1 : j < off
  · rw [List.getElem?_append_left (by simp; omega), List.getElem?_append_left (by simp; omega), List.getElem?_take, if_pos h1, if_neg (by omega)]
  · by_cases h2 : j < off + vs.length
    · rw [List.getElem?_append_left (by simp; omega), List.getElem?_append_right (by simp; omega), if_pos ⟨by omega, h2⟩]
      congr 1; simp; omega
    · rw [List.getElem?_append_right (by simp; omega), List.getElem?_drop, if_neg (by omega)]
      congr 1; simp; omega

theorem pures_spec : ∀ (cs : List AV) (xs : List PV), pures cs = some xs → cs = xs.map .p
  | [], xs, h => by simp [pures] at h; subst h; rfl
  | .p x :: r, xs, h => by
    simp only [pures, Option.map_eq_some_iff] at h
    obtain ⟨ys, hy, rfl⟩ := h
    rw [pures_spec r ys hy]; rfl
  | .own _ :: _, _, h => by simp [pures] at h
  | .sub _ _ _ _ :: _, _, h => by simp [pures] at h
  | .ptr _ _ _ _ :: _, _, h => by simp [pures] at h
  | .pp _ _ :: _, _, h => by simp [pures] at h
  | .agg _ :: _, _, h => by simp [pures] at h
  | .tup _ :: _, _, h => by simp [pures] at h
  | .fn _ _ :: _, _, h => by simp [pures] at h
  | .mp _ :: _, _, h => by simp [pures] at h

theorem pures_map (xs : List PV) : pures (xs.map .p) = some xs := by
  induction xs with
  | nil => rfl
  | cons x r ih => simp [pures, ih]

section
variable {O : Nat → Prop} {ρ : Nat → Option Value} {w : World}

theorem RepA.unP {x : PV} {v : Value} (h : RepA O ρ w (.p x) v) : RepP O w x v := by cases h; assumption

theorem repA_aggOf {cs : List AV} {vs : Array Value} (hs : vs.size = cs.length) (h : ∀ i x, cs[i]? = some x → RepA O ρ w x (vs.getD i undef))
    (h1 : ∀ i, i < cs.length → (vs.getD i undef).oneCell' = true) : RepA O ρ w (aggOf cs) (.agg vs) := by
  unfold aggOf
  split
  · rename_i xs hx
    have e := pures_spec _ _ hx
    subst e
    refine .p _ _ (.agg _ _ (by simpa using hs) (fun i x hi => ?_) (fun i hi => h1 i (by simpa using hi)))
    exact (h i (.p x) (by simp [hi])).unP
  · exact .agg _ _ hs h h1

/-- a value's cells, concretely -/
theorem AV.cells_rep {x : AV} {cs : List AV} (hx : x.cells = some cs) {v : Value} (h : RepA O ρ w x v) :
    v.cells.size = cs.length ∧ (∀ i y, cs[i]? = some y → RepA O ρ w y (v.cells.getD i undef)) ∧ ∀ i, i < cs.length → (v.cells.getD i undef).oneCell' = true := by
  have one : ∀ (y : AV), RepA O ρ w y v → v.oneCell' = true → v.cells.size = [y].length ∧ (∀ i z, [y][i]? = some z → RepA O ρ w z (v.cells.getD i undef)) ∧ ∀ i, i < [y].length → (v.cells.getD i undef).oneCell' = true := by
    intro y hy h1
    have hc : v.cells = #[v] := by cases v <;> first | rfl | simp [Value.oneCell'] at h1
    rw [hc]
    refine ⟨rfl, fun i z hz => ?_, fun i hi => ?_⟩
    · cases i with
      | zero => simp at hz; subst hz; simpa using hy
      | succ i => simp at hz
    · have : i = 0 := by simpa using hi
      subst this; simpa using h1
  cases h with
  | p y v hy =>
    cases hy with
    | lit v =>
      simp only [AV.cells] at hx
      split at hx
      · rename_i h1; simp only [Option.some.injEq] at hx; subst hx; exact one _ (.p _ _ (.lit v)) h1
      · cases hx
    | agg cs' vs hs h2 h1 =>
      simp only [AV.cells, Option.some.injEq] at hx; subst hx
      refine ⟨by simpa [Value.cells] using hs, fun i y hy => ?_, fun i hi => h1 i (by simpa using hi)⟩
      simp only [List.getElem?_map, Option.map_eq_some_iff] at hy
      obtain ⟨z, hz, rfl⟩ := hy
      exact .p _ _ (h2 i z hz)
    | tup => simp [AV.cells] at hx
    | nilseq c a cap hc => simp only [AV.cells, Option.some.injEq] at hx; subst hx; exact one _ (.p _ _ (.nilseq c a cap hc)) rfl
    | seq c es sz b off cap f h1 h2 h3 h4 h5 => simp only [AV.cells, Option.some.injEq] at hx; subst hx; exact one _ (.p _ _ (.seq c es sz b off cap f h1 h2 h3 h4 h5)) rfl
  | own id a n c hi => simp only [AV.cells, Option.some.injEq] at hx; subst hx; exact one _ (.own id a n c hi) rfl
  | sub => simp [AV.cells] at hx
  | sub0 => simp [AV.cells] at hx
  | ptr id sz k off b v hi hv => simp only [AV.cells, Option.some.injEq] at hx; subst hx; exact one _ (.ptr id sz k off b v hi hv) rfl
  | pp => simp [AV.cells] at hx
  | agg cs' vs hs h2 h1 =>
    simp only [AV.cells, Option.some.injEq] at hx; subst hx
    exact ⟨by simpa [Value.cells] using hs, h2, h1⟩
  | tup => simp [AV.cells] at hx
  | fn f cs' vs hs h2 => simp only [AV.cells, Option.some.injEq] at hx; subst hx; exact one _ (.fn f cs' vs hs h2) rfl
  | mp id r hi => simp only [AV.cells, Option.some.injEq] at hx; subst hx; exact one _ (.mp id r hi) rfl

theorem zcells_rep (z : Value) : ∀ i x, (zcells z)[i]? = some x → RepP O w x (z.cells.getD i undef) := by
  intro i x h
  simp only [zcells, List.getElem?_map, Option.map_eq_some_iff] at h
  obtain ⟨u, hu, rfl⟩ := h
  have e : z.cells.getD i undef = u := by
    rw [Array.getD_eq_getD_getElem?]; simp at hu; simp [hu]
  rw [e]
  exact repP_ofVal1 O w u
end

/-! ### filling -/
def afill (place : Nat → Option (Nat × Nat)) (cells : List AV) : List (Nat × List AV) → Option (List AV)
  | [] => some cells
  | (i, v) :: rest => match place i with
    | none => none
    | some (off, size) => if v.length = size ∧ off + size ≤ cells.length then afill place (splice cells off v) rest else none

theorem fold_set (l : List Value) : ∀ (k off : Nat) (cs : Array Value), off + k + l.length ≤ cs.size →
    let r := (l.zipIdx k).foldl (fun cs (c, j) => cs.setIfInBounds (off + j) c) cs
    r.size = cs.size ∧ ∀ j, r.getD j undef = if off + k ≤ j ∧ j < off + k + l.length then l.getD (j - (off + k)) undef else cs.getD j undef := by
  induction l with
  | nil => intro k off cs h; simp; omega
  | cons c l ih =>
    intro k off cs h
    simp only [List.zipIdx_cons, List.foldl_cons]
    have := ih (k + 1) off (cs.setIfInBounds (off + k) c) (by simp at h ⊢; omega)
    refine ⟨this.1.trans (by simp), fun j => ?_⟩
    rw [this.2 j]
    simp only [List.length_cons] at h ⊢
    by_cases h1 : off + (k + 1) ≤ j ∧ j < off + (k + 1) + l.length
    · rw [if_pos h1, if_pos ⟨by omega, by omega⟩]
      have : j - (off + k) = (j - (off + (k + 1))) + 1 := by omega
      rw [this]; simp
    · rw [if_neg h1]
      by_cases h2 : j = off + k
      · subst h2
        rw [if_pos ⟨by omega, by omega⟩, Array.getD_eq_getD_getElem?, Array.getElem?_setIfInBounds_self_of_lt (by omega)]
        simp
      · rw [if_neg (by omega), Array.getD_eq_getD_getElem?, Array.getElem?_setIfInBounds_ne (by omega), ← Array.getD_eq_getD_getElem?]

section
variable {O : Nat → Prop} {ρ : Nat → Option Value} {w : World}
def RepCells (O : Nat → Prop) (ρ : Nat → Option Value) (w : World) (cs : List AV) (vs : Array Value) : Prop :=
  vs.size = cs.length ∧ (∀ i x, cs[i]? = some x → RepA O ρ w x (vs.getD i undef)) ∧ ∀ i, i < cs.length → (vs.getD i undef).oneCell' = true

theorem repCells_splice {cs vs : List AV} {xs ys : Array Value} (h : RepCells O ρ w cs xs) (hv : RepCells O ρ w vs ys) {off : Nat} (ho : off + vs.length ≤ cs.length) :
    RepCells O ρ w (splice cs off vs) (ys.zipIdx.foldl (fun cs (c, j) => cs.setIfInBounds (off + j) c) xs) := by
  have hf := fold_set ys.toList 0 off xs (by have := h.1; have := hv.1; simp; omega)
  have e : ys.zipIdx.foldl (fun cs (c, j) => cs.setIfInBounds (off + j) c) xs = (ys.toList.zipIdx 0).foldl (fun cs (c, j) => cs.setIfInBounds (off + j) c) xs := by
    rw [← Array.foldl_toList]; simp
  rw [e]
  simp only [Nat.add_zero, Array.length_toList] at hf
  refine ⟨by rw [hf.1, splice_length _ _ _ ho, h.1], fun i x hx => ?_, fun i hi => ?_⟩
  · rw [splice_get _ _ _ _ ho] at hx
    rw [hf.2 i, hv.1]
    split
    · rename_i hc; rw [if_pos hc] at hx
      have := hv.2.1 _ _ hx
      rw [Array.getD_eq_getD_getElem?] at this
      rw [List.getD_eq_getElem?_getD]; simpa using this
    · rename_i hc; rw [if_neg hc] at hx; exact h.2.1 _ _ hx
  · rw [splice_length _ _ _ ho] at hi
    rw [hf.2 i, hv.1]
    split
    · rename_i hc
      have := hv.2.2 (i - off) (by omega)
      rw [Array.getD_eq_getD_getElem?] at this
      rw [List.getD_eq_getElem?_getD]; simpa using this
    · exact h.2.2 i hi

theorem repCells_fill {place place' : Nat → Option (Nat × Nat)} (hpp : ∀ i q, place i = some q → place' i = some q) : ∀ (ps : List (Nat × List AV)) (vs : List (Nat × Value)) (cs out : List AV) (xs : Array Value),
    RepCells O ρ w cs xs → ps.length = vs.length → (∀ (j i : Nat) (x : List AV), ps[j]? = some (i, x) → ∃ v : Value, vs[j]? = some (i, v) ∧ RepCells O ρ w x v.cells) → afill place cs ps = some out →
    ∃ ys, Instr.fill place' xs vs = some ys ∧ RepCells O ρ w out ys
  | [], vs, cs, out, xs, h, hl, _, hf => by
    simp only [afill, Option.some.injEq] at hf; subst hf
    have : vs = [] := List.eq_nil_of_length_eq_zero hl.symm
    subst this
    exact ⟨xs, rfl, h⟩
  | (i, x) :: ps, [], cs, out, xs, h, hl, _, hf => by simp at hl
  | (i, x) :: ps, (i', v) :: vs, cs, out, xs, h, hl, hp, hf => by
    obtain ⟨v', hv, hr⟩ := hp 0 i x rfl
    simp only [List.getElem?_cons_zero, Option.some.injEq, Prod.mk.injEq] at hv
    obtain ⟨rfl, rfl⟩ := hv
    simp only [afill] at hf
    cases hpl : place i' with
    | none => simp [hpl] at hf
    | some q =>
      obtain ⟨off, size⟩ := q
      simp only [hpl] at hf
      split at hf
      · rename_i hc
        have := repCells_splice h hr (off := off) (by omega)
        obtain ⟨ys, hy, hz⟩ := repCells_fill hpp ps vs _ out _ this (by simpa using hl) (fun j i x hx => hp (j + 1) i x (by simpa using hx)) hf
        refine ⟨ys, ?_, hz⟩
        simp only [Instr.fill, hpp _ _ hpl]
        rw [if_neg]
        · exact hy
        · simp only [hr.1, h.1]; simp; omega
      · cases hf
end
end Go.Am
