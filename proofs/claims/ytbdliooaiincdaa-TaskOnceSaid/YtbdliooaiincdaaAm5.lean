/-
  The abstract machine, fifth part: each kind of operation: under what, and to what.
-/
import Derived.Test.YtbdliooaiincdaaAm4
namespace Go.Am
open Go.RowKit

/-- a type: is it of cells; how many -/
def tSz (P : Program) (t : TypeId) : Option (Bool × Nat) :=
  match P.underlying t, P.info? t with
  | some d, some i => some (aggDesc (some d), i.size)
  | _, _ => none
def tBool (P : Program) (t : TypeId) : Bool := match P.underlying t with | some .bool => true | _ => false
def tBuilt (P : Program) (t : TypeId) : Bool := (P.built t []).isSome

section
variable {P : Program} {O : Nat → Prop} {ρ : Nat → Option Value} {w : World}

theorem run_isAgg {t : TypeId} {g : Bool} {n : Nat} (h : tSz P t = some (g, n)) (w : World) : (isAgg t).run P w = .ok g w := by
  unfold tSz at h
  split at h
  · rename_i d i hd hi
    simp only [Option.some.injEq, Prod.mk.injEq] at h
    obtain ⟨rfl, rfl⟩ := h
    simp only [isAgg, Sem.run_bind, run_underlying hd, Result.andThen_ok]
    cases d <;> rfl
  · cases h
theorem run_sizeOf {t : TypeId} {g : Bool} {n : Nat} (h : tSz P t = some (g, n)) (w : World) : (sizeOf t).run P w = .ok n w := by
  unfold tSz at h
  split at h
  · rename_i d i hd hi
    simp only [Option.some.injEq, Prod.mk.injEq] at h
    obtain ⟨rfl, rfl⟩ := h
    simp [sizeOf, typeInfo, hi]
  · cases h
theorem run_zero {t : TypeId} {g : Bool} {zs : List PV} (h : tVar P t = some (g, zs)) (w : World) :
    ∃ z, (zeroValue t).run P w = .ok z w ∧ zs = zcells z ∧ ∀ i, i < zs.length → (z.cells.getD i undef).oneCell' = true := by
  unfold tVar at h
  split at h
  · rename_i d i hd hi
    split at h
    · rename_i z hz
      split at h
      · rename_i hc
        simp only [Option.some.injEq, Prod.mk.injEq] at h
        obtain ⟨rfl, rfl⟩ := h
        refine ⟨z, by simp [zeroValue, typeInfo, hi, hz], rfl, fun j hj => ?_⟩
        have hj' : j < z.cells.size := by simpa [zcells] using hj
        have e : z.cells.getD j undef = z.cells[j] := by rw [Array.getD_eq_getD_getElem?]; simp [hj']
        rw [e]; exact hc.2 _ (by simp)
      · cases h
    · cases h
  · cases h
theorem tVar_sz {t : TypeId} {g : Bool} {zs : List PV} (h : tVar P t = some (g, zs)) : tSz P t = some (g, zs.length) := by
  unfold tVar at h
  unfold tSz
  split at h
  · rename_i d i hd hi
    simp only [hd, hi]
    split at h
    · rename_i z hz
      split at h
      · rename_i hc
        simp only [Option.some.injEq, Prod.mk.injEq] at h
        obtain ⟨rfl, rfl⟩ := h
        simp [zcells, hc.1]
      · cases h
    · cases h
  · cases h
theorem repCells_zero {t : TypeId} {g : Bool} {zs : List PV} (h : tVar P t = some (g, zs)) (w w' : World) :
    ∃ z, (zeroValue t).run P w = .ok z w ∧ RepCells O ρ w' (zs.map .p) z.cells := by
  obtain ⟨z, hz, rfl, h1⟩ := run_zero h w
  refine ⟨z, hz, by simp [zcells], fun i x hx => ?_, fun i hi => h1 i (by simpa using hi)⟩
  simp only [List.getElem?_map, Option.map_eq_some_iff] at hx
  obtain ⟨y, hy, rfl⟩ := hx
  exact .p _ _ (zcells_rep z i y hy)
end

/-! ### lookups -/
def evalInt (V : PS) (x : Operand) : Option Int := match V.eval x with | some (.p (.lit (.int _ n))) => some n | _ => none
theorem evalInt_some {V : PS} {x : Operand} {n : Int} (h : evalInt V x = some n) : ∃ k, V.eval x = some (.p (.lit (.int k n))) := by
  unfold evalInt at h
  split at h
  · rename_i k m hx; simp only [Option.some.injEq] at h; subst h; exact ⟨k, hx⟩
  · cases h
theorem RepA.lit {O : Nat → Prop} {ρ : Nat → Option Value} {w : World} {v u : Value} (h : RepA O ρ w (.p (.lit v)) u) : u = v := by cases h with | p _ _ h => cases h; rfl

def isPtr : AV → Bool
  | .ptr _ _ _ _ | .pp _ _ | .fn _ _ => true
  | _ => false
def offs : AV → Nat → Option AV
  | .ptr i s k o, d => some (.ptr i s k (o + d))
  | .pp cs o, d => some (.pp cs (o + d))
  | _, _ => none

def loadR (V : PS) (v : AV) (g : Bool) (n : Nat) (r : AV) : Prop :=
  match v with
  | .ptr id sz k off => ∃ es cs, V.hp id = some (.row sz es) ∧ es[k]? = some cs ∧ (if g = true then off + n ≤ cs.length ∧ r = aggOf ((cs.drop off).take n) else cs[off]? = some r)
  | .pp cs off => if g = true then off + n ≤ cs.length ∧ r = .p (.agg ((cs.drop off).take n)) else ∃ x, cs[off]? = some x ∧ r = .p x
  | _ => False

def idxR (V : PS) (sz n : Nat) (v r : AV) : Prop :=
  match v with
  | .p (.seq _ es) => ∃ cs, es[n]? = some cs ∧ cs.length = sz ∧ r = .pp cs 0
  | .own id => ∃ es, V.hp id = some (.row sz es) ∧ n < es.length ∧ r = .ptr id sz n 0
  | _ => False

def lenR (V : PS) (v : AV) (n : Nat) : Prop :=
  match v with
  | .p (.seq _ es) => n = es.length
  | .own id => ∃ sz es, V.hp id = some (.row sz es) ∧ n = es.length
  | .sub _ _ _ m => n = m
  | _ => False

/-! ### pointers into rows -/
theorem flat_get {α : Type} (sz : Nat) : ∀ (es : List (List α)) (k o : Nat) (cs : List α), (∀ e, e ∈ es → e.length = sz) → es[k]? = some cs → o < sz → es.flatten[k * sz + o]? = cs[o]?
  | [], k, o, cs, _, h, _ => by simp at h
  | e :: es, 0, o, cs, hl, h, ho => by
    simp only [List.getElem?_cons_zero, Option.some.injEq] at h; subst h
    have := hl e (by simp)
    simp only [List.flatten_cons, Nat.zero_mul, Nat.zero_add]
    rw [List.getElem?_append_left (by omega)]
  | e :: es, k + 1, o, cs, hl, h, ho => by
    have he := hl e (by simp)
    have := flat_get sz es k o cs (fun x hx => hl x (by simp [hx])) (by simpa using h) ho
    simp only [List.flatten_cons]
    rw [List.getElem?_append_right (by rw [Nat.add_mul]; omega), ← this]
    congr 1
    rw [Nat.add_mul]; omega

theorem flat_len {α : Type} (sz : Nat) : ∀ (es : List (List α)), (∀ e, e ∈ es → e.length = sz) → es.flatten.length = es.length * sz
  | [], _ => by simp
  | e :: es, h => by
    have := flat_len sz es (fun x hx => h x (by simp [hx]))
    have := h e (by simp)
    simp only [List.flatten_cons, List.length_append, List.length_cons, Nat.add_mul]; omega

/-- what a pointer of the call's own leads to -/
theorem ptr_cells {O : Nat → Prop} {ρ : Nat → Option Value} {w : World} {id sz k off : Nat} {es : List (List AV)} {cs : List AV} {v u : Value}
    (hr : RepA O ρ w (.ptr id sz k off) v) (hu : ρ id = some u) (hb : BlkRep O ρ w u (.row sz es)) (hk : es[k]? = some cs) :
    ∃ b cap cur e, v = .pointer (some ⟨b, k * sz + off, none⟩) ∧ (u = .slice (some ⟨b, 0, none⟩) es.length cap ∨ (u = .pointer (some ⟨b, 0, none⟩) ∧ es.length = 1 ∧ cap = 1)) ∧ 0 < cap ∧
      w.heap[b]? = some (.cells cur e (0, 0)) ∧ BlkOk O ρ w sz es cap cur ∧ cs.length = sz ∧
      ∀ o x, cs[o]? = some x → k * sz + o < cur.size ∧ RepA O ρ w x (cur.getD (k * sz + o) undef) ∧ (cur.getD (k * sz + o) undef).oneCell' = true := by
  rcases hb with ⟨rfl, _⟩ | ⟨b, cap, cur, e, h1, h0, h2, h3, h4, h5, h6, h7⟩
  · simp at hk
  · have hl : cs.length = sz := h6 cs (List.mem_of_getElem? hk)
    have hob : oblk u = some b := by rcases h1 with rfl | ⟨rfl, _⟩ <;> simp [oblk]; omega
    cases hr with
    | ptr _ _ _ _ b' u' hi hv =>
      rw [hu] at hi; injection hi with hi; subst hi
      rw [hob] at hv; injection hv with hv; subst hv
      refine ⟨b, cap, cur, e, rfl, h1, h0, h2, ⟨h3, h4, h5, h6, h7⟩, hl, fun o x hx => ?_⟩
      have ho : o < sz := by rw [← hl]; exact (List.getElem?_eq_some_iff.1 hx).1
      have hx' : es.flatten[k * sz + o]? = some x := by rw [flat_get sz es k o cs h6 hk ho]; exact hx
      refine ⟨?_, h7 _ _ hx'⟩
      have := (List.getElem?_eq_some_iff.1 hx').1
      rw [flat_len sz es h6] at this
      have : es.length * sz ≤ cap * sz := Nat.mul_le_mul_right _ h3
      omega

theorem cell_row {w : World} {b o : Nat} {cur : Array Value} {e : TypeId} (hb : w.heap[b]? = some (.cells cur e (0, 0))) (h : o < cur.size) : w.cell? ⟨b, o, none⟩ = some (cur.getD o undef) := by
  rw [cell_of_row w b o cur e (0, 0) hb, Array.getD_eq_getD_getElem?]; simp [h]

theorem run_loadVar_cells {P : Program} {w : World} {t : TypeId} {g : Bool} {n : Nat} (ht : tSz P t = some (g, n)) (b o : Nat) (f : Nat → Value)
    (h : ∀ j, j < (if g = true then n else 1) → w.cell? ⟨b, o + j, none⟩ = some (f j)) :
    (loadVar t ⟨b, o, none⟩).run P w = .ok (if g = true then .agg ((List.range n).map f).toArray else f 0) w := by
  simp only [loadVar, Sem.run_bind, run_isAgg ht, Result.andThen_ok]
  cases g with
  | true =>
    simp only [if_true] at h ⊢
    simp only [Sem.run_bind, run_sizeOf ht, Result.andThen_ok]
    rw [run_loadCells w ⟨b, o, none⟩ n f (fun j hj => by rw [Addr.add_lit]; exact h j hj)]
    rfl
  | false =>
    have := h 0 (by simp)
    simp only [Nat.add_zero] at this
    simp [this]

/-- a load -/
theorem load_rep {P : Program} {O : Nat → Prop} {ρ : Nat → Option Value} {w : World} {V : PS} {t : TypeId} {g : Bool} {n : Nat} (ht : tSz P t = some (g, n)) {v r : AV} (hl : loadR V v g n r)
    (hV : ∀ id k, V.hp id = some k → ∃ v, ρ id = some v ∧ BlkRep O ρ w v k) {u : Value} (hu : RepA O ρ w v u) :
    ∃ x, (Instr.loadAt t u).run P w = .ok x w ∧ RepA O ρ w r x := by
  have key : ∀ (b o : Nat) (f : Nat → Value) (cs : List AV), u = .pointer (some ⟨b, o, none⟩) → (∀ j x, cs[j]? = some x → w.cell? ⟨b, o + j, none⟩ = some (f j) ∧ RepA O ρ w x (f j) ∧ (f j).oneCell' = true) →
      (g = true → n ≤ cs.length ∧ r = aggOf (cs.take n)) → (g = false → cs[0]? = some r) → ∃ x, (Instr.loadAt t u).run P w = .ok x w ∧ RepA O ρ w r x := by
    intro b o f cs hu hc hg1 hg2
    subst hu
    have hget : ∀ j, j < cs.length → ∃ x, cs[j]? = some x := fun j hj => ⟨cs[j], by simp [hj]⟩
    cases g with
    | true =>
      obtain ⟨hn, rfl⟩ := hg1 rfl
      have hrun := run_loadVar_cells (w := w) ht b o f (fun j hj => by
        simp only [if_true] at hj
        obtain ⟨x, hx⟩ := hget j (by omega)
        exact (hc j x hx).1)
      refine ⟨_, by simpa [Instr.loadAt, Instr.sureAddr] using hrun, ?_⟩
      have hlen : (cs.take n).length = n := by simp; omega
      refine repA_aggOf (by simp [hn]) (fun i x hx => ?_) (fun i hi => ?_)
      · rw [List.getElem?_take] at hx
        split at hx
        · rename_i hi
          have := (hc i x hx).2.1
          simpa [hi] using this
        · cases hx
      · rw [hlen] at hi
        obtain ⟨x, hx⟩ := hget i (by omega)
        have := (hc i x hx).2.2
        simpa [hi] using this
    | false =>
      have h0 := hg2 rfl
      have hrun := run_loadVar_cells (w := w) ht b o f (fun j hj => by
        have : j = 0 := by simpa using hj
        subst this
        exact (hc 0 r h0).1)
      exact ⟨_, by simpa [Instr.loadAt, Instr.sureAddr] using hrun, (hc 0 r h0).2.1⟩
  unfold loadR at hl
  split at hl
  · rename_i id sz k off
    obtain ⟨es, cs, hid, hk, hr⟩ := hl
    obtain ⟨z, hz, hb⟩ := hV id _ hid
    obtain ⟨b, cap, cur, e, rfl, _, _, h2, _, hcl, h3⟩ := ptr_cells hu hz hb hk
    refine key b (k * sz + off) (fun j => cur.getD (k * sz + off + j) undef) (cs.drop off) rfl (fun j x hx => ?_) (fun hg => ?_) (fun hg => ?_)
    · rw [List.getElem?_drop] at hx
      have := h3 _ _ hx
      rw [← Nat.add_assoc] at this
      exact ⟨cell_row h2 this.1, this.2⟩
    · subst hg
      simp only [if_true] at hr
      exact ⟨by simp; omega, hr.2⟩
    · subst hg
      simp only [Bool.false_eq_true, if_false] at hr
      simpa using hr
  · rename_i cs off
    cases hu with
    | pp _ _ b o f h4 h5 =>
      have hc : ∀ (j : Nat) (x : AV), (cs.map AV.p)[j]? = some x → ∃ y : PV, cs[j]? = some y ∧ x = AV.p y := by
        intro j x hx
        simp only [List.getElem?_map, Option.map_eq_some_iff] at hx
        obtain ⟨y, hy, rfl⟩ := hx
        exact ⟨y, hy, rfl⟩
      refine key b (o + off) (fun j => f (off + j)) ((cs.map AV.p).drop off) rfl (fun j x hx => ?_) (fun hg => ?_) (fun hg => ?_)
      · rw [List.getElem?_drop] at hx
        obtain ⟨y, hy, rfl⟩ := hc _ _ hx
        have hlt := (List.getElem?_eq_some_iff.1 hy).1
        have := h4 _ hlt
        rw [← Nat.add_assoc] at this
        exact ⟨this.2.1, .p _ _ (h5 _ _ hy), this.2.2⟩
      · subst hg
        simp only [if_true] at hl
        refine ⟨by simp; omega, ?_⟩
        rw [hl.2, ← List.map_drop, ← List.map_take, aggOf, pures_map]
      · subst hg
        simp only [Bool.false_eq_true, if_false] at hl
        obtain ⟨x, hx, rfl⟩ := hl
        simp [hx]
  · exact hl.elim

end Go.Am
