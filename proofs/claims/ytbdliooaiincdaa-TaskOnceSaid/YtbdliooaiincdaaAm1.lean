/-
  An abstract machine over the model: values without addresses (PV), values with named blocks of the call's own (AV), states, and what it is that a world and a frame fit such a state. No program in sight.
-/
import Derived.WalkKit
import Derived.Great.BuildSlice
namespace Go.Am
open Go.RowKit

/-- A value as data: no address in it. 'seq c es': a slice whose elements are es, each a list of cells; c: its capacity is its length. -/
inductive PV where
  | lit (v : Value)
  | agg (cs : List PV)
  | tup (vs : List PV)
  | seq (c : Bool) (es : List (List PV))

/-- A value in a frame: data, or what leads to a block of the call's own, by the block's name. -/
inductive AV where
  | p (x : PV)
  | own (id : Nat)
  | sub (id sz lo n : Nat)
  | ptr (id sz k off : Nat)
  | pp (cs : List PV) (off : Nat)
  | agg (cs : List AV)
  | tup (vs : List AV)
  | fn (f : FuncId) (cs : List AV)
  | mp (id : Nat)

/-- What a block of the call's own holds. -/
inductive Blk where
  | row (sz : Nat) (es : List (List AV))
  | map (len : Nat) (m : List Int → Option PV)
  | mapS (len : Nat) (S : List Int → PV → Prop)

inductive RepP (O : Nat → Prop) (w : World) : PV → Value → Prop
  | lit (v : Value) : RepP O w (.lit v) v
  | agg (cs : List PV) (vs : Array Value) : vs.size = cs.length → (∀ i x, cs[i]? = some x → RepP O w x (vs.getD i undef)) →
      (∀ i, i < cs.length → (vs.getD i undef).oneCell' = true) → RepP O w (.agg cs) (.agg vs)
  | tup (cs : List PV) (vs : Array Value) : vs.size = cs.length → (∀ i x, cs[i]? = some x → RepP O w x (vs.getD i undef)) → RepP O w (.tup cs) (.tuple vs)
  | nilseq (c : Bool) (a : Option Addr) (cap : Nat) : (c = true → cap = 0) → RepP O w (.seq c []) (.slice a 0 cap)
  | seq (c : Bool) (es : List (List PV)) (sz b off cap : Nat) (f : Nat → Value) : (∀ e, e ∈ es → e.length = sz) → es.length ≤ cap → (c = true → cap = es.length) →
      (∀ j, j < es.flatten.length → ¬ O b ∧ w.cell? ⟨b, off + j, none⟩ = some (f j) ∧ (f j).oneCell' = true) →
      (∀ j x, es.flatten[j]? = some x → RepP O w x (f j)) → RepP O w (.seq c es) (.slice (some ⟨b, off, none⟩) es.length cap)

/-- The block that a handle stands for. -/
def oblk : Value → Option Nat
  | .slice (some a) _ cap => if cap = 0 then none else some a.block
  | .pointer (some a) => some a.block
  | .map (some b) => some b
  | _ => none

inductive RepA (O : Nat → Prop) (ρ : Nat → Option Value) (w : World) : AV → Value → Prop
  | p (x : PV) (v : Value) : RepP O w x v → RepA O ρ w (.p x) v
  | own (id : Nat) (a : Option Addr) (n c : Nat) : ρ id = some (.slice a n c) → RepA O ρ w (.own id) (.slice a n c)
  | sub (id lo n len cap c sz b : Nat) : ρ id = some (.slice (some ⟨b, 0, none⟩) len cap) → 0 < cap → RepA O ρ w (.sub id sz lo n) (.slice (some ⟨b, lo * sz, none⟩) n c)
  | sub0 (id sz lo : Nat) (a : Option Addr) (c : Nat) : RepA O ρ w (.sub id sz lo 0) (.slice a 0 c)
  | ptr (id sz k off b : Nat) (v : Value) : ρ id = some v → oblk v = some b → RepA O ρ w (.ptr id sz k off) (.pointer (some ⟨b, k * sz + off, none⟩))
  | pp (cs : List PV) (off b o : Nat) (f : Nat → Value) : (∀ j, j < cs.length → ¬ O b ∧ w.cell? ⟨b, o + j, none⟩ = some (f j) ∧ (f j).oneCell' = true) →
      (∀ j x, cs[j]? = some x → RepP O w x (f j)) → RepA O ρ w (.pp cs off) (.pointer (some ⟨b, o + off, none⟩))
  | agg (cs : List AV) (vs : Array Value) : vs.size = cs.length → (∀ i x, cs[i]? = some x → RepA O ρ w x (vs.getD i undef)) →
      (∀ i, i < cs.length → (vs.getD i undef).oneCell' = true) → RepA O ρ w (.agg cs) (.agg vs)
  | tup (cs : List AV) (vs : Array Value) : vs.size = cs.length → (∀ i x, cs[i]? = some x → RepA O ρ w x (vs.getD i undef)) → RepA O ρ w (.tup cs) (.tuple vs)
  | fn (f : FuncId) (cs : List AV) (vs : Array Value) : vs.size = cs.length → (∀ i x, cs[i]? = some x → RepA O ρ w x (vs.getD i undef)) → RepA O ρ w (.fn f cs) (.func (.func f) #[] vs)
  | mp (id : Nat) (r : Option Nat) : ρ id = some (.map r) → RepA O ρ w (.mp id) (.map r)

/-- From w to w' nothing outside O has turned; O' has of the old blocks no more than O. -/
structure Moves (O : Nat → Prop) (w : World) (O' : Nat → Prop) (w' : World) : Prop where
  size : w.heap.size ≤ w'.heap.size
  keep : ∀ b, b < w.heap.size → ¬ O b → w'.heap[b]? = w.heap[b]?
  less : ∀ b, b < w.heap.size → O' b → O b

theorem Moves.cell {O O' : Nat → Prop} {w w' : World} (h : Moves O w O' w') {b o : Nat} {v : Value} (hb : ¬ O b) (hc : w.cell? ⟨b, o, none⟩ = some v) :
    ¬ O' b ∧ w'.cell? ⟨b, o, none⟩ = some v := by
  have hlt := World.block_lt_of_cell? w ⟨b, o, none⟩ hc
  exact ⟨fun ho => hb (h.less b hlt ho), (World.cell?_of_block (w := w) (a := ⟨b, o, none⟩) (h.keep b hlt hb)).trans hc⟩

theorem RepP.mono {O O' : Nat → Prop} {w w' : World} (h : Moves O w O' w') {x : PV} {v : Value} (hr : RepP O w x v) : RepP O' w' x v := by
  induction hr with
  | lit v => exact .lit v
  | agg cs vs hs _ h1 ih => exact .agg cs vs hs ih h1
  | tup cs vs hs _ ih => exact .tup cs vs hs ih
  | nilseq c a cap hc => exact .nilseq c a cap hc
  | seq c es sz b off cap f h1 h2 h3 h4 _ ih =>
    exact .seq c es sz b off cap f h1 h2 h3 (fun j hj => ⟨(h.cell (h4 j hj).1 (h4 j hj).2.1).1, (h.cell (h4 j hj).1 (h4 j hj).2.1).2, (h4 j hj).2.2⟩) ih

theorem RepA.mono {O O' : Nat → Prop} {ρ ρ' : Nat → Option Value} {w w' : World} (h : Moves O w O' w') (hρ : ∀ i v, ρ i = some v → ρ' i = some v) {x : AV} {v : Value}
    (hr : RepA O ρ w x v) : RepA O' ρ' w' x v := by
  induction hr with
  | p x v hx => exact .p x v (hx.mono h)
  | own id a n c hi => exact .own id a n c (hρ _ _ hi)
  | sub id lo n len cap c sz b hi hc => exact .sub id lo n len cap c sz b (hρ _ _ hi) hc
  | sub0 id sz lo a c => exact .sub0 id sz lo a c
  | ptr id sz k off b v hi hv => exact .ptr id sz k off b v (hρ _ _ hi) hv
  | pp cs off b o f h4 h5 =>
    exact .pp cs off b o f (fun j hj => ⟨(h.cell (h4 j hj).1 (h4 j hj).2.1).1, (h.cell (h4 j hj).1 (h4 j hj).2.1).2, (h4 j hj).2.2⟩) (fun j x hx => (h5 j x hx).mono h)
  | agg cs vs hs _ h1 ih => exact .agg cs vs hs ih h1
  | tup cs vs hs _ ih => exact .tup cs vs hs ih
  | fn f cs vs hs _ ih => exact .fn f cs vs hs ih
  | mp id v hi => exact .mp id v (hρ _ _ hi)

/-- What surrounds a call: the world when it began, the blocks of others, those of others that it may write, and how many slots its frame has. -/
structure Ctx where
  w0 : World
  Oc : Nat → Prop
  A : Nat → Prop
  n : Nat
  env : Nat → Option Value

structure PS where
  sl : Nat → Option AV
  hp : Nat → Option Blk

def Own (C : Ctx) (s : PS) (ρ : Nat → Option Value) (b : Nat) : Prop := C.Oc b ∨ ∃ id k v, s.hp id = some k ∧ ρ id = some v ∧ oblk v = some b

/-- a map's key, as numbers -/
def keyV : List Int → Value
  | [n] => .int .i64 n
  | q => .agg (q.map (Value.int .i64)).toArray
def KeyOk (len : Nat) (q : List Int) : Prop := q.length = len ∧ ∀ n, n ∈ q → -9223372036854775808 ≤ n ∧ n ≤ 9223372036854775807
def MapRep (O : Nat → Prop) (w : World) (len : Nat) (m : List Int → Option PV) (es : List MapEntry) : Prop :=
  (∀ e, e ∈ es → ∃ q x, KeyOk len q ∧ e.key = keyV q ∧ m q = some x ∧ RepP O w x e.val) ∧ es.Pairwise (fun e e' => e.key ≠ e'.key) ∧ ∀ q x, m q = some x → KeyOk len q ∧ ∃ e, e ∈ es ∧ e.key = keyV q
theorem MapRep.mono {O O' : Nat → Prop} {w w' : World} {len : Nat} {m : List Int → Option PV} {es : List MapEntry} (h : MapRep O w len m es) (hm : Moves O w O' w') : MapRep O' w' len m es :=
  ⟨fun e he => by
    obtain ⟨q, x, g1, g2, g3, g4⟩ := h.1 e he
    exact ⟨q, x, g1, g2, g3, g4.mono hm⟩, h.2⟩

def BlkRep (O : Nat → Prop) (ρ : Nat → Option Value) (w : World) (v : Value) : Blk → Prop
  | .row sz es => (es = [] ∧ ∃ a, v = .slice a 0 0) ∨
      ∃ b cap cur e, (v = .slice (some ⟨b, 0, none⟩) es.length cap ∨ (v = .pointer (some ⟨b, 0, none⟩) ∧ es.length = 1 ∧ cap = 1)) ∧ 0 < cap ∧
        w.heap[b]? = some (.cells cur e (0, 0)) ∧ es.length ≤ cap ∧ cap ≤ maxLen ∧ cur.size = cap * sz ∧ (∀ x, x ∈ es → x.length = sz) ∧
        ∀ j x, es.flatten[j]? = some x → RepA O ρ w x (cur.getD j undef) ∧ (cur.getD j undef).oneCell' = true
  | .map len m => ∃ b es clock, v = .map (some b) ∧ w.heap[b]? = some (.map es clock) ∧ MapRep O w len m es.toList
  | .mapS len S => ∃ m, (∃ b es clock, v = .map (some b) ∧ w.heap[b]? = some (.map es clock) ∧ MapRep O w len m es.toList) ∧ ∀ q x, m q = some x → S q x

theorem BlkRep.mono {O O' : Nat → Prop} {ρ ρ' : Nat → Option Value} {w w' : World} {v : Value} {k : Blk} (h : BlkRep O ρ w v k) (hm : Moves O w O' w') (hρ : ∀ i v, ρ i = some v → ρ' i = some v)
    (hb : ∀ b, oblk v = some b → w'.heap[b]? = w.heap[b]?) : BlkRep O' ρ' w' v k := by
  cases k with
  | row sz es =>
    rcases h with hr | ⟨b, cap, cur, e, h1, h0, h2, h3, h4, h5, h6, h7⟩
    · exact .inl hr
    · have hob : oblk v = some b := by rcases h1 with rfl | ⟨rfl, _⟩ <;> simp [oblk]; omega
      exact .inr ⟨b, cap, cur, e, h1, h0, (hb b hob).trans h2, h3, h4, h5, h6, fun j x hx => ⟨(h7 j x hx).1.mono hm hρ, (h7 j x hx).2⟩⟩
  | map len m =>
    obtain ⟨b, es, clock, rfl, h1, h2⟩ := h
    exact ⟨b, es, clock, rfl, (hb b rfl).trans h1, h2.mono hm⟩
  | mapS len S =>
    obtain ⟨m, ⟨b, es, clock, rfl, h1, h2⟩, h3⟩ := h
    exact ⟨m, ⟨b, es, clock, rfl, (hb b rfl).trans h1, h2.mono hm⟩, h3⟩

structure SatR (C : Ctx) (U : Nat → Prop) (s : PS) (ρ : Nat → Option Value) (a : Act) (w : World) : Prop where
  defers : a.defers = []
  size : a.tmps.size = C.n
  slots : ∀ d x, s.sl d = some x → RepA (Own C s ρ) ρ w x (a.tmps.getD d undef)
  heap : ∀ id k, s.hp id = some k → ∃ v, ρ id = some v ∧ BlkRep (Own C s ρ) ρ w v k
  inj : ∀ i j k l v u b, s.hp i = some k → s.hp j = some l → ρ i = some v → ρ j = some u → oblk v = some b → oblk u = some b → i = j
  used : ∀ id, ¬ U id → ρ id = none
  range : ∀ id k v b, s.hp id = some k → ρ id = some v → oblk v = some b → (C.w0.heap.size ≤ b ∨ C.A b) ∧ ¬ C.Oc b ∧ b < w.heap.size
  oc : ∀ b, C.Oc b → b < C.w0.heap.size
  os : w.os = C.w0.os
  tape : w.tape = C.w0.tape
  output : w.output = C.w0.output
  grows : C.w0.heap.size ≤ w.heap.size
  frame : ∀ b, b < C.w0.heap.size → ¬ C.A b → w.heap[b]? = C.w0.heap[b]?
  pins : ∀ j v, C.env j = some v → ρ (8 * j + 7) = some v

def Sat (C : Ctx) (U : Nat → Prop) (s : PS) (a : Act) (w : World) : Prop := ∃ ρ, SatR C U s ρ a w

/-- What an operation does to a state: a slot, and blocks. -/
structure Upd where
  val : AV
  hps : List (Nat × Option Blk) := []

def PS.setHp (hp : Nat → Option Blk) : List (Nat × Option Blk) → Nat → Option Blk
  | [], id => hp id
  | (i, k) :: r, id => if id = i then k else PS.setHp hp r id

def PS.upd (s : PS) (dst : Option Nat) (u : Upd) : PS where
  sl := fun d => if dst = some d then some u.val else s.sl d
  hp := PS.setHp s.hp u.hps

def ofVal1 : Value → PV
  | .slice none 0 0 => .seq true []
  | v => .lit v
def constAV : Value → AV
  | .slice none 0 0 => .p (.seq true [])
  | .agg vs => if ∀ c ∈ vs.toList, c.oneCell' = true then .p (.agg (vs.toList.map ofVal1)) else .p (.lit (.agg vs))
  | v => .p (.lit v)

def PS.eval (s : PS) : Operand → Option AV
  | .tmp t => s.sl t
  | .const v => some (constAV v)
  | .func f => some (.fn f [])
  | .global _ => none

theorem repP_ofVal1 (O : Nat → Prop) (w : World) (v : Value) : RepP O w (ofVal1 v) v := by
  unfold ofVal1
  split
  · exact .nilseq true none 0 (fun _ => rfl)
  · exact .lit _

theorem repA_const (O : Nat → Prop) (ρ : Nat → Option Value) (w : World) (v : Value) : RepA O ρ w (constAV v) v := by
  unfold constAV
  split
  · exact .p _ _ (.nilseq true none 0 (fun _ => rfl))
  · rename_i vs
    split
    · rename_i h1
      refine .p _ _ (.agg _ _ (by simp) (fun i x hx => ?_) (fun i hi => ?_))
      · simp only [List.getElem?_map, Option.map_eq_some_iff] at hx
        obtain ⟨u, hu, rfl⟩ := hx
        have e : vs.getD i undef = u := by rw [Array.getD_eq_getD_getElem?]; simp at hu; simp [hu]
        rw [e]; exact repP_ofVal1 O w u
      · have hi' : i < vs.size := by simpa using hi
        have e : vs.getD i undef = vs[i] := by rw [Array.getD_eq_getD_getElem?]; simp [hi']
        rw [e]; exact h1 _ (by simp)
    · exact .p _ _ (.lit _)
  · exact .p _ _ (.lit v)

theorem SatR.eval {C : Ctx} {U : Nat → Prop} {s : PS} {ρ : Nat → Option Value} {a : Act} {w : World} (h : SatR C U s ρ a w) {x : Operand} {v : AV}
    (hx : s.eval x = some v) : RepA (Own C s ρ) ρ w v (a.eval x) := by
  cases x with
  | tmp t => exact h.slots t v hx
  | const c => simp only [PS.eval, Option.some.injEq] at hx; subst hx; exact repA_const _ _ _ _
  | global g => cases hx
  | func f => simp only [PS.eval, Option.some.injEq] at hx; subst hx; exact .fn f [] #[] rfl (fun i x hx => by simp at hx)

/-- The world moves on, the heap's names stay: a slot is set. -/
theorem SatR.move {C : Ctx} {U : Nat → Prop} {s : PS} {ρ : Nat → Option Value} {a : Act} {w w' : World} (h : SatR C U s ρ a w)
    (hs : w.heap.size ≤ w'.heap.size) (hk : ∀ b, b < w.heap.size → w'.heap[b]? = w.heap[b]?) (ho : w'.os = w.os) (ht : w'.tape = w.tape) (hp : w'.output = w.output) :
    SatR C U s ρ a w' := by
  have hlt : ∀ id k v b, s.hp id = some k → ρ id = some v → oblk v = some b → b < w.heap.size := fun id k v b h1 h2 h3 => (h.range id k v b h1 h2 h3).2.2
  have hm : Moves (Own C s ρ) w (Own C s ρ) w' := ⟨hs, fun b hb _ => hk b hb, fun _ _ x => x⟩
  refine ⟨h.defers, h.size, fun d x hx => (h.slots d x hx).mono hm (fun _ _ x => x), fun id k hid => ?_, h.inj, h.used, fun id k v b h1 h2 h3 => ?_, h.oc, ho.trans h.os, ht.trans h.tape,
    hp.trans h.output, Nat.le_trans h.grows hs, fun b hb hA => (hk b (Nat.lt_of_lt_of_le hb h.grows)).trans (h.frame b hb hA), h.pins⟩
  · obtain ⟨v, hv, hr⟩ := h.heap id k hid
    exact ⟨v, hv, hr.mono hm (fun _ _ x => x) (fun b hb => hk b (hlt id k v b hid hv hb))⟩
  · obtain ⟨r1, r2, r3⟩ := h.range id k v b h1 h2 h3
    exact ⟨r1, r2, Nat.lt_of_lt_of_le r3 hs⟩

theorem own_upd_nil {C : Ctx} {s : PS} {ρ : Nat → Option Value} {dst : Option Nat} {x : AV} : Own C (s.upd dst ⟨x, []⟩) ρ = Own C s ρ := rfl

/-- A slot is set to what the value fits. -/
theorem SatR.put {C : Ctx} {U : Nat → Prop} {s : PS} {ρ : Nat → Option Value} {a : Act} {w : World} (h : SatR C U s ρ a w) {dst : Option Nat}
    (hd : ∀ d, dst = some d → d < C.n) {x : AV} {v : Value} (hv : RepA (Own C s ρ) ρ w x v) : SatR C U (s.upd dst ⟨x, []⟩) ρ (a.put dst v) w := by
  refine ⟨?_, ?_, fun d y hy => ?_, h.heap, h.inj, h.used, h.range, h.oc, h.os, h.tape, h.output, h.grows, h.frame, h.pins⟩
  · cases dst <;> exact h.defers
  · cases dst with
    | none => exact h.size
    | some d => simp only [Act.put, Array.size_setIfInBounds]; exact h.size
  · rw [own_upd_nil]
    cases dst with
    | none => simp only [PS.upd, reduceCtorEq, if_false] at hy; exact h.slots d y hy
    | some d' =>
      have hlt : d' < a.tmps.size := by rw [h.size]; exact hd d' rfl
      by_cases e : d' = d
      · subst e
        simp only [PS.upd, if_true, Option.some.injEq] at hy
        subst hy
        simp only [Act.put, Array.getD_eq_getD_getElem?, Array.getElem?_setIfInBounds_self_of_lt hlt, Option.getD_some]
        exact hv
      · simp only [PS.upd, Option.some.injEq, e, if_false] at hy
        simp only [Act.put, Array.getD_eq_getD_getElem?, Array.getElem?_setIfInBounds_ne e]
        have := h.slots d y hy
        rw [Array.getD_eq_getD_getElem?] at this
        exact this

end Go.Am
