/-
  WireStreams, part 1 of 5: what the proof that the law holds at whatever arguments stands on; the last part holds the theorem. No condition.
-/
import Derived.Test.YtjkkjiaeeobnkaaRows
import Derived.WalkKit
import Derived.Great.BuildSlice
import Derived.Maps.Own
import Derived.Lib.AppendZerosOnto
import Derived.Laws.MakeOwn
import Derived.Laws.BytesString
import Derived.Carry
import Derived.Orders
import Derived.KernelRfl
import Derived.ProofKit
import Derived.OpenShut
import Derived.Laws.Cover3
import Derived.Recover
section
namespace Go.Am
open Go.RowKit
inductive PV where
  | lit (v : Value)
  | agg (cs : List PV)
  | tup (vs : List PV)
  | seq (c : Bool) (es : List (List PV))
inductive AV where
  | p (x : PV)
  | own (id : Nat)
  | sub (id sz lo n : Nat)
  | ptr (id sz k off : Nat)
  | pp (cs : List PV) (off : Nat)
  | agg (cs : List AV)
  | tup (vs : List AV)
  | fn (f : FuncId) (cs : List AV)
  | mp (id : Nat)
inductive Blk where
  | row (sz : Nat) (es : List (List AV))
  | map (len : Nat) (m : List Int → Option PV)
  | mapS (len : Nat) (S : List Int → PV → Prop)
inductive RepP (O : Nat → Prop) (w : World) : PV → Value → Prop
  | lit (v : Value) : RepP O w (.lit v) v
  | agg (cs : List PV) (vs : Array Value) : vs.size = cs.length → (∀ i x, cs[i]? = some x → RepP O w x (vs.getD i undef)) →
      (∀ i, i < cs.length → (vs.getD i undef).oneCell' = true) → RepP O w (.agg cs) (.agg vs)
  | tup (cs : List PV) (vs : Array Value) : vs.size = cs.length → (∀ i x, cs[i]? = some x → RepP O w x (vs.getD i undef)) → RepP O w (.tup cs) (.tuple vs)
  | nilseq (c : Bool) (a : Option Addr) (cap : Nat) : (c = true → cap = 0) → RepP O w (.seq c []) (.slice a 0 cap)
  | seq (c : Bool) (es : List (List PV)) (sz b off cap : Nat) (f : Nat → Value) : (∀ e, e ∈ es → e.length = sz) → es.length ≤ cap → (c = true → cap = es.length) →
      (∀ j, j < es.flatten.length → ¬ O b ∧ w.cell? ⟨b, off + j, none⟩ = some (f j) ∧ (f j).oneCell' = true) →
      (∀ j x, es.flatten[j]? = some x → RepP O w x (f j)) → RepP O w (.seq c es) (.slice (some ⟨b, off, none⟩) es.length cap)
def oblk : Value → Option Nat
  | .slice (some a) _ cap => if cap = 0 then none else some a.block
  | .pointer (some a) => some a.block
  | .map (some b) => some b
  | _ => none
inductive RepA (O : Nat → Prop) (ρ : Nat → Option Value) (w : World) : AV → Value → Prop
  | p (x : PV) (v : Value) : RepP O w x v → RepA O ρ w (.p x) v
  | own (id : Nat) (a : Option Addr) (n c : Nat) : ρ id = some (.slice a n c) → RepA O ρ w (.own id) (.slice a n c)
  | sub (id lo n len cap c sz b : Nat) : ρ id = some (.slice (some ⟨b, 0, none⟩) len cap) → 0 < cap → RepA O ρ w (.sub id sz lo n) (.slice (some ⟨b, lo * sz, none⟩) n c)
  | sub0 (id sz lo : Nat) (a : Option Addr) (c : Nat) : RepA O ρ w (.sub id sz lo 0) (.slice a 0 c)
  | ptr (id sz k off b : Nat) (v : Value) : ρ id = some v → oblk v = some b → RepA O ρ w (.ptr id sz k off) (.pointer (some ⟨b, k * sz + off, none⟩))
  | pp (cs : List PV) (off b o : Nat) (f : Nat → Value) : (∀ j, j < cs.length → ¬ O b ∧ w.cell? ⟨b, o + j, none⟩ = some (f j) ∧ (f j).oneCell' = true) →
      (∀ j x, cs[j]? = some x → RepP O w x (f j)) → RepA O ρ w (.pp cs off) (.pointer (some ⟨b, o + off, none⟩))
  | agg (cs : List AV) (vs : Array Value) : vs.size = cs.length → (∀ i x, cs[i]? = some x → RepA O ρ w x (vs.getD i undef)) →
      (∀ i, i < cs.length → (vs.getD i undef).oneCell' = true) → RepA O ρ w (.agg cs) (.agg vs)
  | tup (cs : List AV) (vs : Array Value) : vs.size = cs.length → (∀ i x, cs[i]? = some x → RepA O ρ w x (vs.getD i undef)) → RepA O ρ w (.tup cs) (.tuple vs)
  | fn (f : FuncId) (cs : List AV) (vs : Array Value) : vs.size = cs.length → (∀ i x, cs[i]? = some x → RepA O ρ w x (vs.getD i undef)) → RepA O ρ w (.fn f cs) (.func (.func f) #[] vs)
  | mp (id : Nat) (r : Option Nat) : ρ id = some (.map r) → RepA O ρ w (.mp id) (.map r)
structure Moves (O : Nat → Prop) (w : World) (O' : Nat → Prop) (w' : World) : Prop where
  size : w.heap.size ≤ w'.heap.size
  keep : ∀ b, b < w.heap.size → ¬ O b → w'.heap[b]? = w.heap[b]?
  less : ∀ b, b < w.heap.size → O' b → O b
theorem Moves.cell {O O' : Nat → Prop} {w w' : World} (h : Moves O w O' w') {b o : Nat} {v : Value} (hb : ¬ O b) (hc : w.cell? ⟨b, o, none⟩ = some v) :
    ¬ O' b ∧ w'.cell? ⟨b, o, none⟩ = some v := by
  have hlt := World.block_lt_of_cell? w ⟨b, o, none⟩ hc
  exact ⟨fun ho => hb (h.less b hlt ho), (World.cell?_of_block (w := w) (a := ⟨b, o, none⟩) (h.keep b hlt hb)).trans hc⟩
theorem RepP.mono {O O' : Nat → Prop} {w w' : World} (h : Moves O w O' w') {x : PV} {v : Value} (hr : RepP O w x v) : RepP O' w' x v := by
  induction hr with
  | lit v => exact .lit v
  | agg cs vs hs _ h1 ih => exact .agg cs vs hs ih h1
  | tup cs vs hs _ ih => exact .tup cs vs hs ih
  | nilseq c a cap hc => exact .nilseq c a cap hc
  | seq c es sz b off cap f h1 h2 h3 h4 _ ih =>
    exact .seq c es sz b off cap f h1 h2 h3 (fun j hj => ⟨(h.cell (h4 j hj).1 (h4 j hj).2.1).1, (h.cell (h4 j hj).1 (h4 j hj).2.1).2, (h4 j hj).2.2⟩) ih
theorem RepA.mono {O O' : Nat → Prop} {ρ ρ' : Nat → Option Value} {w w' : World} (h : Moves O w O' w') (hρ : ∀ i v, ρ i = some v → ρ' i = some v) {x : AV} {v : Value}
    (hr : RepA O ρ w x v) : RepA O' ρ' w' x v := by
  induction hr with
  | p x v hx => exact .p x v (hx.mono h)
  | own id a n c hi => exact .own id a n c (hρ _ _ hi)
  | sub id lo n len cap c sz b hi hc => exact .sub id lo n len cap c sz b (hρ _ _ hi) hc
  | sub0 id sz lo a c => exact .sub0 id sz lo a c
  | ptr id sz k off b v hi hv => exact .ptr id sz k off b v (hρ _ _ hi) hv
  | pp cs off b o f h4 h5 =>
    exact .pp cs off b o f (fun j hj => ⟨(h.cell (h4 j hj).1 (h4 j hj).2.1).1, (h.cell (h4 j hj).1 (h4 j hj).2.1).2, (h4 j hj).2.2⟩) (fun j x hx => (h5 j x hx).mono h)
  | agg cs vs hs _ h1 ih => exact .agg cs vs hs ih h1
  | tup cs vs hs _ ih => exact .tup cs vs hs ih
  | fn f cs vs hs _ ih => exact .fn f cs vs hs ih
  | mp id v hi => exact .mp id v (hρ _ _ hi)
structure Ctx where
  w0 : World
  Oc : Nat → Prop
  A : Nat → Prop
  n : Nat
  env : Nat → Option Value
  ds : List Deferred
structure PS where
  sl : Nat → Option AV
  hp : Nat → Option Blk
def Own (C : Ctx) (s : PS) (ρ : Nat → Option Value) (b : Nat) : Prop := C.Oc b ∨ ∃ id k v, s.hp id = some k ∧ ρ id = some v ∧ oblk v = some b
def keyV : List Int → Value
  | [n] => .int .i64 n
  | q => .agg (q.map (Value.int .i64)).toArray
def KeyOk (len : Nat) (q : List Int) : Prop := q.length = len ∧ ∀ n, n ∈ q → -9223372036854775808 ≤ n ∧ n ≤ 9223372036854775807
def MapRep (O : Nat → Prop) (w : World) (len : Nat) (m : List Int → Option PV) (es : List MapEntry) : Prop :=
  (∀ e, e ∈ es → ∃ q x, KeyOk len q ∧ e.key = keyV q ∧ m q = some x ∧ RepP O w x e.val) ∧ es.Pairwise (fun e e' => e.key ≠ e'.key) ∧ ∀ q x, m q = some x → KeyOk len q ∧ ∃ e, e ∈ es ∧ e.key = keyV q
theorem MapRep.mono {O O' : Nat → Prop} {w w' : World} {len : Nat} {m : List Int → Option PV} {es : List MapEntry} (h : MapRep O w len m es) (hm : Moves O w O' w') : MapRep O' w' len m es :=
  ⟨fun e he => by
    obtain ⟨q, x, g1, g2, g3, g4⟩ := h.1 e he
    exact ⟨q, x, g1, g2, g3, g4.mono hm⟩, h.2⟩
def BlkRep (O : Nat → Prop) (ρ : Nat → Option Value) (w : World) (v : Value) : Blk → Prop
  | .row sz es => (es = [] ∧ ∃ a, v = .slice a 0 0) ∨
      ∃ b cap cur e, (v = .slice (some ⟨b, 0, none⟩) es.length cap ∨ (v = .pointer (some ⟨b, 0, none⟩) ∧ es.length = 1 ∧ cap = 1)) ∧ 0 < cap ∧
        w.heap[b]? = some (.cells cur e (0, 0)) ∧ es.length ≤ cap ∧ cap ≤ maxLen ∧ cur.size = cap * sz ∧ (∀ x, x ∈ es → x.length = sz) ∧
        ∀ j x, es.flatten[j]? = some x → RepA O ρ w x (cur.getD j undef) ∧ (cur.getD j undef).oneCell' = true
  | .map len m => ∃ b es clock, v = .map (some b) ∧ w.heap[b]? = some (.map es clock) ∧ MapRep O w len m es.toList
  | .mapS len S => ∃ m, (∃ b es clock, v = .map (some b) ∧ w.heap[b]? = some (.map es clock) ∧ MapRep O w len m es.toList) ∧ ∀ q x, m q = some x → S q x
theorem BlkRep.mono {O O' : Nat → Prop} {ρ ρ' : Nat → Option Value} {w w' : World} {v : Value} {k : Blk} (h : BlkRep O ρ w v k) (hm : Moves O w O' w') (hρ : ∀ i v, ρ i = some v → ρ' i = some v)
    (hb : ∀ b, oblk v = some b → w'.heap[b]? = w.heap[b]?) : BlkRep O' ρ' w' v k := by
  cases k with
  | row sz es =>
    rcases h with hr | ⟨b, cap, cur, e, h1, h0, h2, h3, h4, h5, h6, h7⟩
    · exact .inl hr
    · have hob : oblk v = some b := by rcases h1 with rfl | ⟨rfl, _⟩ <;> simp [oblk]; omega
      exact .inr ⟨b, cap, cur, e, h1, h0, (hb b hob).trans h2, h3, h4, h5, h6, fun j x hx => ⟨(h7 j x hx).1.mono hm hρ, (h7 j x hx).2⟩⟩
  | map len m =>
    obtain ⟨b, es, clock, rfl, h1, h2⟩ := h
    exact ⟨b, es, clock, rfl, (hb b rfl).trans h1, h2.mono hm⟩
  | mapS len S =>
    obtain ⟨m, ⟨b, es, clock, rfl, h1, h2⟩, h3⟩ := h
    exact ⟨m, ⟨b, es, clock, rfl, (hb b rfl).trans h1, h2.mono hm⟩, h3⟩
structure SatR (C : Ctx) (U : Nat → Prop) (s : PS) (ρ : Nat → Option Value) (a : Act) (w : World) : Prop where
  defers : a.defers = C.ds
  size : a.tmps.size = C.n
  slots : ∀ d x, s.sl d = some x → RepA (Own C s ρ) ρ w x (a.tmps.getD d undef)
  heap : ∀ id k, s.hp id = some k → ∃ v, ρ id = some v ∧ BlkRep (Own C s ρ) ρ w v k
  inj : ∀ i j k l v u b, s.hp i = some k → s.hp j = some l → ρ i = some v → ρ j = some u → oblk v = some b → oblk u = some b → i = j
  used : ∀ id, ¬ U id → ρ id = none
  range : ∀ id k v b, s.hp id = some k → ρ id = some v → oblk v = some b → (C.w0.heap.size ≤ b ∨ C.A b) ∧ ¬ C.Oc b ∧ b < w.heap.size
  oc : ∀ b, C.Oc b → b < C.w0.heap.size
  os : w.os = C.w0.os
  tape : w.tape = C.w0.tape
  output : w.output = C.w0.output
  grows : C.w0.heap.size ≤ w.heap.size
  frame : ∀ b, b < C.w0.heap.size → ¬ C.A b → w.heap[b]? = C.w0.heap[b]?
  pins : ∀ j v, C.env j = some v → ρ (8 * j + 7) = some v
def Sat (C : Ctx) (U : Nat → Prop) (s : PS) (a : Act) (w : World) : Prop := ∃ ρ, SatR C U s ρ a w
structure Upd where
  val : AV
  hps : List (Nat × Option Blk) := []
def PS.setHp (hp : Nat → Option Blk) : List (Nat × Option Blk) → Nat → Option Blk
  | [], id => hp id
  | (i, k) :: r, id => if id = i then k else PS.setHp hp r id
def PS.upd (s : PS) (dst : Option Nat) (u : Upd) : PS where
  sl := fun d => if dst = some d then some u.val else s.sl d
  hp := PS.setHp s.hp u.hps
def ofVal1 : Value → PV
  | .slice none 0 0 => .seq true []
  | v => .lit v
def constAV : Value → AV
  | .slice none 0 0 => .p (.seq true [])
  | .agg vs => if ∀ c ∈ vs.toList, c.oneCell' = true then .p (.agg (vs.toList.map ofVal1)) else .p (.lit (.agg vs))
  | v => .p (.lit v)
def PS.eval (s : PS) : Operand → Option AV
  | .tmp t => s.sl t
  | .const v => some (constAV v)
  | .func f => some (.fn f [])
  | .global _ => none
theorem repP_ofVal1 (O : Nat → Prop) (w : World) (v : Value) : RepP O w (ofVal1 v) v := by
  unfold ofVal1
  split
  · exact .nilseq true none 0 (fun _ => rfl)
  · exact .lit _
theorem repA_const (O : Nat → Prop) (ρ : Nat → Option Value) (w : World) (v : Value) : RepA O ρ w (constAV v) v := by
  unfold constAV
  split
  · exact .p _ _ (.nilseq true none 0 (fun _ => rfl))
  · rename_i vs
    split
    · rename_i h1
      refine .p _ _ (.agg _ _ (by simp) (fun i x hx => ?_) (fun i hi => ?_))
      · simp only [List.getElem?_map, Option.map_eq_some_iff] at hx
        obtain ⟨u, hu, rfl⟩ := hx
        have e : vs.getD i undef = u := by rw [Array.getD_eq_getD_getElem?]; simp at hu; simp [hu]
        rw [e]; exact repP_ofVal1 O w u
      · have hi' : i < vs.size := by simpa using hi
        have e : vs.getD i undef = vs[i] := by rw [Array.getD_eq_getD_getElem?]; simp [hi']
        rw [e]; exact h1 _ (by simp)
    · exact .p _ _ (.lit _)
  · exact .p _ _ (.lit v)
theorem SatR.eval {C : Ctx} {U : Nat → Prop} {s : PS} {ρ : Nat → Option Value} {a : Act} {w : World} (h : SatR C U s ρ a w) {x : Operand} {v : AV}
    (hx : s.eval x = some v) : RepA (Own C s ρ) ρ w v (a.eval x) := by
  cases x with
  | tmp t => exact h.slots t v hx
  | const c => simp only [PS.eval, Option.some.injEq] at hx; subst hx; exact repA_const _ _ _ _
  | global g => cases hx
  | func f => simp only [PS.eval, Option.some.injEq] at hx; subst hx; exact .fn f [] #[] rfl (fun i x hx => by simp at hx)
theorem SatR.move {C : Ctx} {U : Nat → Prop} {s : PS} {ρ : Nat → Option Value} {a : Act} {w w' : World} (h : SatR C U s ρ a w)
    (hs : w.heap.size ≤ w'.heap.size) (hk : ∀ b, b < w.heap.size → w'.heap[b]? = w.heap[b]?) (ho : w'.os = w.os) (ht : w'.tape = w.tape) (hp : w'.output = w.output) :
    SatR C U s ρ a w' := by
  have hlt : ∀ id k v b, s.hp id = some k → ρ id = some v → oblk v = some b → b < w.heap.size := fun id k v b h1 h2 h3 => (h.range id k v b h1 h2 h3).2.2
  have hm : Moves (Own C s ρ) w (Own C s ρ) w' := ⟨hs, fun b hb _ => hk b hb, fun _ _ x => x⟩
  refine ⟨h.defers, h.size, fun d x hx => (h.slots d x hx).mono hm (fun _ _ x => x), fun id k hid => ?_, h.inj, h.used, fun id k v b h1 h2 h3 => ?_, h.oc, ho.trans h.os, ht.trans h.tape,
    hp.trans h.output, Nat.le_trans h.grows hs, fun b hb hA => (hk b (Nat.lt_of_lt_of_le hb h.grows)).trans (h.frame b hb hA), h.pins⟩
  · obtain ⟨v, hv, hr⟩ := h.heap id k hid
    exact ⟨v, hv, hr.mono hm (fun _ _ x => x) (fun b hb => hk b (hlt id k v b hid hv hb))⟩
  · obtain ⟨r1, r2, r3⟩ := h.range id k v b h1 h2 h3
    exact ⟨r1, r2, Nat.lt_of_lt_of_le r3 hs⟩
theorem own_upd_nil {C : Ctx} {s : PS} {ρ : Nat → Option Value} {dst : Option Nat} {x : AV} : Own C (s.upd dst ⟨x, []⟩) ρ = Own C s ρ := rfl
theorem SatR.put {C : Ctx} {U : Nat → Prop} {s : PS} {ρ : Nat → Option Value} {a : Act} {w : World} (h : SatR C U s ρ a w) {dst : Option Nat}
    (hd : ∀ d, dst = some d → d < C.n) {x : AV} {v : Value} (hv : RepA (Own C s ρ) ρ w x v) : SatR C U (s.upd dst ⟨x, []⟩) ρ (a.put dst v) w := by
  refine ⟨?_, ?_, fun d y hy => ?_, h.heap, h.inj, h.used, h.range, h.oc, h.os, h.tape, h.output, h.grows, h.frame, h.pins⟩
  · cases dst <;> exact h.defers
  · cases dst with
    | none => exact h.size
    | some d => simp only [Act.put, Array.size_setIfInBounds]; exact h.size
  · rw [own_upd_nil]
    cases dst with
    | none => simp only [PS.upd, reduceCtorEq, if_false] at hy; exact h.slots d y hy
    | some d' =>
      have hlt : d' < a.tmps.size := by rw [h.size]; exact hd d' rfl
      by_cases e : d' = d
      · subst e
        simp only [PS.upd, if_true, Option.some.injEq] at hy
        subst hy
        simp only [Act.put, Array.getD_eq_getD_getElem?, Array.getElem?_setIfInBounds_self_of_lt hlt, Option.getD_some]
        exact hv
      · simp only [PS.upd, Option.some.injEq, e, if_false] at hy
        simp only [Act.put, Array.getD_eq_getD_getElem?, Array.getElem?_setIfInBounds_ne e]
        have := h.slots d y hy
        rw [Array.getD_eq_getD_getElem?] at this
        exact this
end Go.Am
namespace Go.Am
open Go.RowKit
def zcells (z : Value) : List PV := z.cells.toList.map ofVal1
def aggDesc : Option TypeDesc → Bool
  | some (.struct _) | some (.array _ _) => true
  | _ => false
def tVar (P : Program) (t : TypeId) : Option (Bool × List PV) :=
  match P.underlying t, P.info? t with
  | some d, some i => match i.zero with
    | some z => if z.cells.size = i.size ∧ (∀ c ∈ z.cells.toList, c.oneCell' = true) then some (aggDesc (some d), zcells z) else none
    | none => none
  | _, _ => none
def tEl (P : Program) (t : TypeId) : Option TypeId := match P.underlying t with | some (.slice e) => some e | _ => none
def tBytes (P : Program) (t : TypeId) : Option Nat := (P.info? t).map (·.bytes)
def tFld (P : Program) (t f : Nat) : Option (Nat × Nat × Bool) :=
  match P.underlying t with
  | some (.struct fs) => match fs[f]? with
    | some fd => match P.info? fd.type, P.underlying fd.type with
      | some i, some d => if i.size = 0 then none else some (fd.offset, i.size, aggDesc (some d))
      | _, _ => none
    | none => none
  | _ => none
def tArr (P : Program) (t : TypeId) : Option (Nat × Nat × Bool) :=
  match P.underlying t with
  | some (.array n e) => match P.info? e, P.underlying e with
    | some i, some d => some (n, i.size, aggDesc (some d))
    | _, _ => none
  | _ => none
def tInt (P : Program) (t : TypeId) : Option IntKind := match P.underlying t with | some (.int k) => some k | _ => none
def tPlace (P : Program) (t : TypeId) (i : Nat) : Option (Nat × Nat) :=
  match P.underlying t with
  | some (.struct fs) => match fs[i]? with
    | some fd => (P.info? fd.type).map fun x => (fd.offset, x.size)
    | none => none
  | some (.array _ e) => (P.info? e).map fun x => (i * x.size, x.size)
  | _ => none
def splice {α : Type} (cs : List α) (off : Nat) (vs : List α) : List α := cs.take off ++ vs ++ cs.drop (off + vs.length)
def pures : List AV → Option (List PV)
  | [] => some []
  | .p x :: r => (pures r).map (x :: ·)
  | _ :: _ => none
def aggOf (cs : List AV) : AV := match pures cs with
  | some xs => .p (.agg xs)
  | none => .agg cs
def AV.cells : AV → Option (List AV)
  | .p (.agg cs) => some (cs.map .p)
  | .p (.lit v) => if v.oneCell' = true then some [.p (.lit v)] else none
  | .p (.seq c es) => some [.p (.seq c es)]
  | .agg cs => some cs
  | .own id => some [.own id]
  | .ptr i s k o => some [.ptr i s k o]
  | .mp i => some [.mp i]
  | .fn f cs => some [.fn f cs]
  | _ => none
theorem splice_length {α : Type} (cs vs : List α) (off : Nat) (h : off + vs.length ≤ cs.length) : (splice cs off vs).length = cs.length := by
  simp [splice]; omega
theorem splice_get {α : Type} (cs vs : List α) (off j : Nat) (h : off + vs.length ≤ cs.length) :
    (splice cs off vs)[j]? = if off ≤ j ∧ j < off + vs.length then vs[j - off]? else cs[j]? := by
  simp only [splice]
  by_cases h1 : j < off
  · rw [List.getElem?_append_left (by simp; omega), List.getElem?_append_left (by simp; omega), List.getElem?_take, if_pos h1, if_neg (by omega)]
  · by_cases h2 : j < off + vs.length
    · rw [List.getElem?_append_left (by simp; omega), List.getElem?_append_right (by simp; omega), if_pos ⟨by omega, h2⟩]
      congr 1; simp; omega
    · rw [List.getElem?_append_right (by simp; omega), List.getElem?_drop, if_neg (by omega)]
      congr 1; simp; omega
theorem pures_spec : ∀ (cs : List AV) (xs : List PV), pures cs = some xs → cs = xs.map .p
  | [], xs, h => by simp [pures] at h; subst h; rfl
  | .p x :: r, xs, h => by
    simp only [pures, Option.map_eq_some_iff] at h
    obtain ⟨ys, hy, rfl⟩ := h
    rw [pures_spec r ys hy]; rfl
  | .own _ :: _, _, h => by simp [pures] at h
  | .sub _ _ _ _ :: _, _, h => by simp [pures] at h
  | .ptr _ _ _ _ :: _, _, h => by simp [pures] at h
  | .pp _ _ :: _, _, h => by simp [pures] at h
  | .agg _ :: _, _, h => by simp [pures] at h
  | .tup _ :: _, _, h => by simp [pures] at h
  | .fn _ _ :: _, _, h => by simp [pures] at h
  | .mp _ :: _, _, h => by simp [pures] at h
theorem pures_map (xs : List PV) : pures (xs.map .p) = some xs := by
  induction xs with
  | nil => rfl
  | cons x r ih => simp [pures, ih]
section
variable {O : Nat → Prop} {ρ : Nat → Option Value} {w : World}
theorem RepA.unP {x : PV} {v : Value} (h : RepA O ρ w (.p x) v) : RepP O w x v := by cases h; assumption
theorem repA_aggOf {cs : List AV} {vs : Array Value} (hs : vs.size = cs.length) (h : ∀ i x, cs[i]? = some x → RepA O ρ w x (vs.getD i undef))
    (h1 : ∀ i, i < cs.length → (vs.getD i undef).oneCell' = true) : RepA O ρ w (aggOf cs) (.agg vs) := by
  unfold aggOf
  split
  · rename_i xs hx
    have e := pures_spec _ _ hx
    subst e
    refine .p _ _ (.agg _ _ (by simpa using hs) (fun i x hi => ?_) (fun i hi => h1 i (by simpa using hi)))
    exact (h i (.p x) (by simp [hi])).unP
  · exact .agg _ _ hs h h1
theorem AV.cells_rep {x : AV} {cs : List AV} (hx : x.cells = some cs) {v : Value} (h : RepA O ρ w x v) :
    v.cells.size = cs.length ∧ (∀ i y, cs[i]? = some y → RepA O ρ w y (v.cells.getD i undef)) ∧ ∀ i, i < cs.length → (v.cells.getD i undef).oneCell' = true := by
  have one : ∀ (y : AV), RepA O ρ w y v → v.oneCell' = true → v.cells.size = [y].length ∧ (∀ i z, [y][i]? = some z → RepA O ρ w z (v.cells.getD i undef)) ∧ ∀ i, i < [y].length → (v.cells.getD i undef).oneCell' = true := by
    intro y hy h1
    have hc : v.cells = #[v] := by cases v <;> first | rfl | simp [Value.oneCell'] at h1
    rw [hc]
    refine ⟨rfl, fun i z hz => ?_, fun i hi => ?_⟩
    · cases i with
      | zero => simp at hz; subst hz; simpa using hy
      | succ i => simp at hz
    · have : i = 0 := by simpa using hi
      subst this; simpa using h1
  cases h with
  | p y v hy =>
    cases hy with
    | lit v =>
      simp only [AV.cells] at hx
      split at hx
      · rename_i h1; simp only [Option.some.injEq] at hx; subst hx; exact one _ (.p _ _ (.lit v)) h1
      · cases hx
    | agg cs' vs hs h2 h1 =>
      simp only [AV.cells, Option.some.injEq] at hx; subst hx
      refine ⟨by simpa [Value.cells] using hs, fun i y hy => ?_, fun i hi => h1 i (by simpa using hi)⟩
      simp only [List.getElem?_map, Option.map_eq_some_iff] at hy
      obtain ⟨z, hz, rfl⟩ := hy
      exact .p _ _ (h2 i z hz)
    | tup => simp [AV.cells] at hx
    | nilseq c a cap hc => simp only [AV.cells, Option.some.injEq] at hx; subst hx; exact one _ (.p _ _ (.nilseq c a cap hc)) rfl
    | seq c es sz b off cap f h1 h2 h3 h4 h5 => simp only [AV.cells, Option.some.injEq] at hx; subst hx; exact one _ (.p _ _ (.seq c es sz b off cap f h1 h2 h3 h4 h5)) rfl
  | own id a n c hi => simp only [AV.cells, Option.some.injEq] at hx; subst hx; exact one _ (.own id a n c hi) rfl
  | sub => simp [AV.cells] at hx
  | sub0 => simp [AV.cells] at hx
  | ptr id sz k off b v hi hv => simp only [AV.cells, Option.some.injEq] at hx; subst hx; exact one _ (.ptr id sz k off b v hi hv) rfl
  | pp => simp [AV.cells] at hx
  | agg cs' vs hs h2 h1 =>
    simp only [AV.cells, Option.some.injEq] at hx; subst hx
    exact ⟨by simpa [Value.cells] using hs, h2, h1⟩
  | tup => simp [AV.cells] at hx
  | fn f cs' vs hs h2 => simp only [AV.cells, Option.some.injEq] at hx; subst hx; exact one _ (.fn f cs' vs hs h2) rfl
  | mp id r hi => simp only [AV.cells, Option.some.injEq] at hx; subst hx; exact one _ (.mp id r hi) rfl
theorem zcells_rep (z : Value) : ∀ i x, (zcells z)[i]? = some x → RepP O w x (z.cells.getD i undef) := by
  intro i x h
  simp only [zcells, List.getElem?_map, Option.map_eq_some_iff] at h
  obtain ⟨u, hu, rfl⟩ := h
  have e : z.cells.getD i undef = u := by
    rw [Array.getD_eq_getD_getElem?]; simp at hu; simp [hu]
  rw [e]
  exact repP_ofVal1 O w u
end
def afill (place : Nat → Option (Nat × Nat)) (cells : List AV) : List (Nat × List AV) → Option (List AV)
  | [] => some cells
  | (i, v) :: rest => match place i with
    | none => none
    | some (off, size) => if v.length = size ∧ off + size ≤ cells.length then afill place (splice cells off v) rest else none
theorem fold_set (l : List Value) : ∀ (k off : Nat) (cs : Array Value), off + k + l.length ≤ cs.size →
    let r := (l.zipIdx k).foldl (fun cs (c, j) => cs.setIfInBounds (off + j) c) cs
    r.size = cs.size ∧ ∀ j, r.getD j undef = if off + k ≤ j ∧ j < off + k + l.length then l.getD (j - (off + k)) undef else cs.getD j undef := by
  induction l with
  | nil => intro k off cs h; simp; omega
  | cons c l ih =>
    intro k off cs h
    simp only [List.zipIdx_cons, List.foldl_cons]
    have := ih (k + 1) off (cs.setIfInBounds (off + k) c) (by simp at h ⊢; omega)
    refine ⟨this.1.trans (by simp), fun j => ?_⟩
    rw [this.2 j]
    simp only [List.length_cons] at h ⊢
    by_cases h1 : off + (k + 1) ≤ j ∧ j < off + (k + 1) + l.length
    · rw [if_pos h1, if_pos ⟨by omega, by omega⟩]
      have : j - (off + k) = (j - (off + (k + 1))) + 1 := by omega
      rw [this]; simp
    · rw [if_neg h1]
      by_cases h2 : j = off + k
      · subst h2
        rw [if_pos ⟨by omega, by omega⟩, Array.getD_eq_getD_getElem?, Array.getElem?_setIfInBounds_self_of_lt (by omega)]
        simp
      · rw [if_neg (by omega), Array.getD_eq_getD_getElem?, Array.getElem?_setIfInBounds_ne (by omega), ← Array.getD_eq_getD_getElem?]
section
variable {O : Nat → Prop} {ρ : Nat → Option Value} {w : World}
def RepCells (O : Nat → Prop) (ρ : Nat → Option Value) (w : World) (cs : List AV) (vs : Array Value) : Prop :=
  vs.size = cs.length ∧ (∀ i x, cs[i]? = some x → RepA O ρ w x (vs.getD i undef)) ∧ ∀ i, i < cs.length → (vs.getD i undef).oneCell' = true
theorem repCells_splice {cs vs : List AV} {xs ys : Array Value} (h : RepCells O ρ w cs xs) (hv : RepCells O ρ w vs ys) {off : Nat} (ho : off + vs.length ≤ cs.length) :
    RepCells O ρ w (splice cs off vs) (ys.zipIdx.foldl (fun cs (c, j) => cs.setIfInBounds (off + j) c) xs) := by
  have hf := fold_set ys.toList 0 off xs (by have := h.1; have := hv.1; simp; omega)
  have e : ys.zipIdx.foldl (fun cs (c, j) => cs.setIfInBounds (off + j) c) xs = (ys.toList.zipIdx 0).foldl (fun cs (c, j) => cs.setIfInBounds (off + j) c) xs := by
    rw [← Array.foldl_toList]; simp
  rw [e]
  simp only [Nat.add_zero, Array.length_toList] at hf
  refine ⟨by rw [hf.1, splice_length _ _ _ ho, h.1], fun i x hx => ?_, fun i hi => ?_⟩
  · rw [splice_get _ _ _ _ ho] at hx
    rw [hf.2 i, hv.1]
    split
    · rename_i hc; rw [if_pos hc] at hx
      have := hv.2.1 _ _ hx
      rw [Array.getD_eq_getD_getElem?] at this
      rw [List.getD_eq_getElem?_getD]; simpa using this
    · rename_i hc; rw [if_neg hc] at hx; exact h.2.1 _ _ hx
  · rw [splice_length _ _ _ ho] at hi
    rw [hf.2 i, hv.1]
    split
    · rename_i hc
      have := hv.2.2 (i - off) (by omega)
      rw [Array.getD_eq_getD_getElem?] at this
      rw [List.getD_eq_getElem?_getD]; simpa using this
    · exact h.2.2 i hi
theorem repCells_fill {place place' : Nat → Option (Nat × Nat)} (hpp : ∀ i q, place i = some q → place' i = some q) : ∀ (ps : List (Nat × List AV)) (vs : List (Nat × Value)) (cs out : List AV) (xs : Array Value),
    RepCells O ρ w cs xs → ps.length = vs.length → (∀ (j i : Nat) (x : List AV), ps[j]? = some (i, x) → ∃ v : Value, vs[j]? = some (i, v) ∧ RepCells O ρ w x v.cells) → afill place cs ps = some out →
    ∃ ys, Instr.fill place' xs vs = some ys ∧ RepCells O ρ w out ys
  | [], vs, cs, out, xs, h, hl, _, hf => by
    simp only [afill, Option.some.injEq] at hf; subst hf
    have : vs = [] := List.eq_nil_of_length_eq_zero hl.symm
    subst this
    exact ⟨xs, rfl, h⟩
  | (i, x) :: ps, [], cs, out, xs, h, hl, _, hf => by simp at hl
  | (i, x) :: ps, (i', v) :: vs, cs, out, xs, h, hl, hp, hf => by
    obtain ⟨v', hv, hr⟩ := hp 0 i x rfl
    simp only [List.getElem?_cons_zero, Option.some.injEq, Prod.mk.injEq] at hv
    obtain ⟨rfl, rfl⟩ := hv
    simp only [afill] at hf
    cases hpl : place i' with
    | none => simp [hpl] at hf
    | some q =>
      obtain ⟨off, size⟩ := q
      simp only [hpl] at hf
      split at hf
      · rename_i hc
        have := repCells_splice h hr (off := off) (by omega)
        obtain ⟨ys, hy, hz⟩ := repCells_fill hpp ps vs _ out _ this (by simpa using hl) (fun j i x hx => hp (j + 1) i x (by simpa using hx)) hf
        refine ⟨ys, ?_, hz⟩
        simp only [Instr.fill, hpp _ _ hpl]
        rw [if_neg]
        · exact hy
        · simp only [hr.1, h.1]; simp; omega
      · cases hf
end
end Go.Am
namespace Go.Am
open Go.RowKit
theorem SatR.notOwn {C : Ctx} {U : Nat → Prop} {s : PS} {ρ : Nat → Option Value} {a : Act} {w : World} (h : SatR C U s ρ a w) {b : Nat} (hb : w.heap.size ≤ b) : ¬ Own C s ρ b := by
  rintro (ho | ⟨id, k, v, h1, h2, h3⟩)
  · have := h.oc b ho; have := h.grows; omega
  · have := (h.range id k v b h1 h2 h3).2.2; omega
theorem SatR.widen {C : Ctx} {U U' : Nat → Prop} {s : PS} {ρ : Nat → Option Value} {a : Act} {w : World} (h : SatR C U s ρ a w) (hu : ∀ i, U i → U' i) : SatR C U' s ρ a w :=
  { h with used := fun id hid => h.used id (fun x => hid (hu id x)) }
theorem SatR.drew {C : Ctx} {U : Nat → Prop} {s : PS} {ρ : Nat → Option Value} {a : Act} {w : World} (h : SatR C U s ρ a w) : SatR C U s ρ a w.drew :=
  h.move (Nat.le_refl _) (fun _ _ => rfl) rfl rfl rfl
theorem SatR.alloc {C : Ctx} {U : Nat → Prop} {s : PS} {ρ : Nat → Option Value} {a : Act} {w : World} (h : SatR C U s ρ a w) (o : Obj) : SatR C U s ρ a (w.alloc o) :=
  h.move (by simp) (fun b hb => heap_alloc_old w o hb) rfl rfl rfl
def BlkOk (O : Nat → Prop) (ρ : Nat → Option Value) (w : World) (sz : Nat) (es : List (List AV)) (cap : Nat) (cur : Array Value) : Prop :=
  es.length ≤ cap ∧ cap ≤ maxLen ∧ cur.size = cap * sz ∧ (∀ x, x ∈ es → x.length = sz) ∧ ∀ j x, es.flatten[j]? = some x → RepA O ρ w x (cur.getD j undef) ∧ (cur.getD j undef).oneCell' = true
theorem SatR.newBlk {C : Ctx} {U : Nat → Prop} {s : PS} {ρ : Nat → Option Value} {a : Act} {w : World} (h : SatR C U s ρ a w) {f : Nat} (hf : ¬ U f)
    (e : TypeId) (cur : Array Value) (sz : Nat) (es : List (List AV)) (cap : Nat) (v : Value)
    (hv : v = .slice (some ⟨w.heap.size, 0, none⟩) es.length cap ∨ (v = .pointer (some ⟨w.heap.size, 0, none⟩) ∧ es.length = 1 ∧ cap = 1)) (h0 : 0 < cap)
    (hok : BlkOk (Own C s ρ) ρ w sz es cap cur) :
    SatR C (fun i => U i ∨ i = f) ⟨s.sl, PS.setHp s.hp [(f, some (.row sz es))]⟩ (fun i => if i = f then some v else ρ i) a (w.alloc (.cells cur e)) := by
  have hob : oblk v = some w.heap.size := by rcases hv with rfl | ⟨rfl, _⟩ <;> simp [oblk]; omega
  have hρ : ∀ i v', ρ i = some v' → (fun i => if i = f then some v else ρ i) i = some v' := by
    intro i v' hi
    by_cases e : i = f
    · subst e; rw [h.used i hf] at hi; cases hi
    · simp [e, hi]
  have hsf : s.hp f = none := by
    cases hh : s.hp f with
    | none => rfl
    | some k => obtain ⟨v', hv', _⟩ := h.heap f k hh; rw [h.used f hf] at hv'; cases hv'
  have hm : Moves (Own C s ρ) w (Own C ⟨s.sl, PS.setHp s.hp [(f, some (.row sz es))]⟩ (fun i => if i = f then some v else ρ i)) (w.alloc (.cells cur e)) := by
    refine ⟨by simp, fun b hb _ => heap_alloc_old w _ hb, fun b hb ho => ?_⟩
    rcases ho with ho | ⟨id, k, u, h1, h2, h3⟩
    · exact .inl ho
    · by_cases e : id = f
      · subst e; simp only [if_true, Option.some.injEq] at h2; subst h2; rw [hob] at h3; injection h3; omega
      · simp only [PS.setHp, e, if_false] at h1 h2; exact .inr ⟨id, k, u, h1, h2, h3⟩
  refine ⟨h.defers, h.size, fun d x hx => (h.slots d x hx).mono hm hρ, fun id k hid => ?_, ?_, fun id hid => ?_, ?_, h.oc, h.os, h.tape, h.output, Nat.le_trans h.grows (by simp), fun b hb hA => ?_, fun j v hj => hρ _ _ (h.pins j v hj)⟩
  · by_cases e : id = f
    · subst e
      simp only [PS.setHp, if_true, Option.some.injEq] at hid
      subst hid
      refine ⟨v, by simp, .inr ⟨w.heap.size, cap, cur, _, hv, h0, heap_alloc_new w _, hok.1, hok.2.1, hok.2.2.1, hok.2.2.2.1, fun j x hx => ⟨(hok.2.2.2.2 j x hx).1.mono hm hρ, (hok.2.2.2.2 j x hx).2⟩⟩⟩
    · simp only [PS.setHp, e, if_false] at hid
      obtain ⟨v', hv', hr⟩ := h.heap id k hid
      exact ⟨v', by simp [e, hv'], hr.mono hm hρ (fun b hb => heap_alloc_old w _ (h.range id k v' b hid hv' hb).2.2)⟩
  · intro i j k l v' u b h1 h2 h3 h4 h5 h6
    by_cases ei : i = f
    · by_cases ej : j = f
      · rw [ei, ej]
      · subst ei
        simp only [PS.setHp, ej, if_false] at h2 h4
        simp only [if_true, Option.some.injEq] at h3
        subst h3
        rw [hob] at h5; injection h5 with h5; subst h5
        have := (h.range j l u _ h2 h4 h6).2.2; omega
    · by_cases ej : j = f
      · subst ej
        simp only [PS.setHp, ei, if_false] at h1 h3
        simp only [if_true, Option.some.injEq] at h4
        subst h4
        rw [hob] at h6; injection h6 with h6; subst h6
        have := (h.range i k v' _ h1 h3 h5).2.2; omega
      · simp only [PS.setHp, ei, ej, if_false] at h1 h2 h3 h4
        exact h.inj i j k l v' u b h1 h2 h3 h4 h5 h6
  · have : ¬ id = f := fun e => hid (.inr e)
    simp only [this, if_false]
    exact h.used id (fun x => hid (.inl x))
  · intro id k v' b h1 h2 h3
    by_cases e : id = f
    · subst e
      simp only [if_true, Option.some.injEq] at h2
      subst h2
      rw [hob] at h3; injection h3 with h3; subst h3
      refine ⟨.inl h.grows, fun ho => ?_, by simp⟩
      have := h.oc _ ho; have := h.grows; omega
    · simp only [PS.setHp, e, if_false] at h1 h2
      obtain ⟨r1, r2, r3⟩ := h.range id k v' b h1 h2 h3
      exact ⟨r1, r2, Nat.lt_of_lt_of_le r3 (by simp)⟩
  · rw [heap_alloc_old w _ (Nat.lt_of_lt_of_le hb h.grows)]; exact h.frame b hb hA
theorem SatR.setBlk {C : Ctx} {U : Nat → Prop} {s : PS} {ρ : Nat → Option Value} {a : Act} {w : World} (h : SatR C U s ρ a w) {id sz : Nat} {es es' : List (List AV)}
    (hid : s.hp id = some (.row sz es)) {v : Value} (hv : ρ id = some v) {b cap : Nat} {cur cur' : Array Value} {e : TypeId}
    (hvb : v = .slice (some ⟨b, 0, none⟩) es.length cap ∨ (v = .pointer (some ⟨b, 0, none⟩) ∧ es.length = 1 ∧ cap = 1)) (h0 : 0 < cap)
    (hb : w.heap[b]? = some (.cells cur e (0, 0))) (hl : es'.length = es.length) (hok : BlkOk (Own C s ρ) ρ w sz es' cap cur') :
    SatR C U ⟨s.sl, PS.setHp s.hp [(id, some (.row sz es'))]⟩ ρ a (w.setRow b cur') := by
  have hob : oblk v = some b := by rcases hvb with rfl | ⟨rfl, _⟩ <;> simp [oblk]; omega
  have hO : ∀ x, Own C ⟨s.sl, PS.setHp s.hp [(id, some (.row sz es'))]⟩ ρ x → Own C s ρ x := by
    rintro x (ho | ⟨i, k, u, h1, h2, h3⟩)
    · exact .inl ho
    · by_cases e : i = id
      · subst e; exact .inr ⟨i, _, u, hid, h2, h3⟩
      · simp only [PS.setHp, e, if_false] at h1; exact .inr ⟨i, k, u, h1, h2, h3⟩
  have hin : Own C s ρ b := .inr ⟨id, _, v, hid, hv, hob⟩
  have hm : Moves (Own C s ρ) w (Own C ⟨s.sl, PS.setHp s.hp [(id, some (.row sz es'))]⟩ ρ) (w.setRow b cur') :=
    ⟨by simp, fun x _ hx => setRow_other w b x cur' (fun e => hx (e ▸ hin)), fun x _ => hO x⟩
  have hrange := h.range id _ v b hid hv hob
  refine ⟨h.defers, h.size, fun d x hx => (h.slots d x hx).mono hm (fun _ _ x => x), fun i k hi => ?_, ?_, h.used, ?_, h.oc, h.os, h.tape, h.output, by simpa using h.grows, fun x hx hA => ?_, h.pins⟩
  · by_cases e : i = id
    · subst e
      simp only [PS.setHp, if_true, Option.some.injEq] at hi
      subst hi
      exact ⟨v, hv, .inr ⟨b, cap, cur', _, by rw [hl]; exact hvb, h0, setRow_heap w b cur cur' _ _ hb, hok.1, hok.2.1, hok.2.2.1, hok.2.2.2.1,
        fun j x hx => ⟨(hok.2.2.2.2 j x hx).1.mono hm (fun _ _ x => x), (hok.2.2.2.2 j x hx).2⟩⟩⟩
    · simp only [PS.setHp, e, if_false] at hi
      obtain ⟨u, hu, hr⟩ := h.heap i k hi
      exact ⟨u, hu, hr.mono hm (fun _ _ x => x) (fun b2 hob2 => setRow_other w b b2 cur' (fun x => by subst x; exact e (h.inj i id _ _ u v b2 hi hid hu hv hob2 hob)))⟩
  · intro i j k l v' u b' h1 h2 h3 h4 h5 h6
    have hi : ∃ k, s.hp i = some k := by
      by_cases e : i = id
      · subst e; exact ⟨_, hid⟩
      · simp only [PS.setHp, e, if_false] at h1; exact ⟨k, h1⟩
    have hj : ∃ k, s.hp j = some k := by
      by_cases e : j = id
      · subst e; exact ⟨_, hid⟩
      · simp only [PS.setHp, e, if_false] at h2; exact ⟨l, h2⟩
    obtain ⟨k', hk'⟩ := hi
    obtain ⟨l', hl'⟩ := hj
    exact h.inj i j k' l' v' u b' hk' hl' h3 h4 h5 h6
  · intro i k v' b' h1 h2 h3
    have hi : ∃ k, s.hp i = some k := by
      by_cases e : i = id
      · subst e; exact ⟨_, hid⟩
      · simp only [PS.setHp, e, if_false] at h1; exact ⟨k, h1⟩
    obtain ⟨k', hk'⟩ := hi
    simpa using h.range i k' v' b' hk' h2 h3
  · rw [setRow_other w b x cur' ?_]
    · exact h.frame x hx hA
    · rintro rfl
      rcases hrange.1 with hr | hr
      · omega
      · exact hA hr
theorem SatR.dropBlk {C : Ctx} {U : Nat → Prop} {s : PS} {ρ : Nat → Option Value} {a : Act} {w : World} (h : SatR C U s ρ a w) (id : Nat) :
    SatR C U ⟨s.sl, PS.setHp s.hp [(id, none)]⟩ ρ a w := by
  have hsub : ∀ i k, PS.setHp s.hp [(id, none)] i = some k → s.hp i = some k := by
    intro i k hk
    by_cases e : i = id
    · simp [PS.setHp, e] at hk
    · simpa [PS.setHp, e] using hk
  have hO : ∀ x, Own C ⟨s.sl, PS.setHp s.hp [(id, none)]⟩ ρ x → Own C s ρ x := by
    rintro x (ho | ⟨i, k, u, h1, h2, h3⟩)
    · exact .inl ho
    · exact .inr ⟨i, k, u, hsub i k h1, h2, h3⟩
  have hm : Moves (Own C s ρ) w (Own C ⟨s.sl, PS.setHp s.hp [(id, none)]⟩ ρ) w := ⟨Nat.le_refl _, fun _ _ _ => rfl, fun x _ => hO x⟩
  refine ⟨h.defers, h.size, fun d x hx => (h.slots d x hx).mono hm (fun _ _ x => x), fun i k hi => ?_, fun i j k l v u b h1 h2 => h.inj i j k l v u b (hsub _ _ h1) (hsub _ _ h2), h.used,
    fun i k v b h1 => h.range i k v b (hsub _ _ h1), h.oc, h.os, h.tape, h.output, h.grows, h.frame, h.pins⟩
  obtain ⟨v, hv, hr⟩ := h.heap i k (hsub i k hi)
  exact ⟨v, hv, hr.mono hm (fun _ _ x => x) (fun _ _ => rfl)⟩
end Go.Am
namespace Go.Am
open Go.RowKit
def StepA (P : Program) (o : Oper) (f : Nat) (V : PS) (u : Upd) : Prop :=
  ∀ (C : Ctx) (U : Nat → Prop) (s : PS) (a : Act) (w : World), (∀ d, o.dst = some d → d < C.n) → ¬ U f →
    (∀ x, x ∈ o.op.operands → ∀ v, V.eval x = some v → s.eval x = some v) → (∀ id k, V.hp id = some k → s.hp id = some k) → Sat C U s a w →
    ∀ Q, o.wp P a w (fun a' w' => Sat C (fun i => U i ∨ i = f) (s.upd o.dst u) a' w') Q
def StepF (P : Program) (o : Oper) (f : Nat) (V : PS) (u : Upd) : Prop :=
  ∀ (C : Ctx) (U : Nat → Prop) (s : PS) (a : Act) (w : World), (∀ d, o.dst = some d → d < C.n) → (∀ j, j < 7 → ¬ U (f + j)) →
    (∀ x, x ∈ o.op.operands → ∀ v, V.eval x = some v → s.eval x = some v) → (∀ id k, V.hp id = some k → s.hp id = some k) → Sat C U s a w →
    ∀ Q, o.wp P a w (fun a' w' => Sat C (fun i => U i ∨ (f ≤ i ∧ i < f + 7)) (s.upd o.dst u) a' w') Q
section
variable {P : Program} {o : Oper} {f : Nat} {V : PS}
theorem stepF_of {u : Upd} (h : StepA P o f V u) : StepF P o f V u := by
  intro C U s a w hd hf hV hH hs Q
  refine Oper.wp_mono (fun a' w' ⟨ρ, h⟩ => ⟨ρ, h.widen (fun i hi => ?_)⟩) (h C U s a w hd (hf 0 (by omega)) hV hH hs Q)
  rcases hi with hi | rfl
  · exact .inl hi
  · exact .inr ⟨by omega, by omega⟩
theorem wp_value {a : Act} {w w' : World} {v : Value} {K : Act → World → Prop} {Q : Exit → Act → World → Prop} (h : (execOp a.eval o).run P w = .ok (.value v) w') (hk : K (a.put o.dst v) w') :
    o.wp P a w K Q := by unfold Oper.wp; rw [h]; exact hk
theorem stepA_pure {x : AV} (h : ∀ (O : Nat → Prop) (ρ : Nat → Option Value) (s : PS) (a : Act) (w : World), (∀ y, y ∈ o.op.operands → ∀ v, V.eval y = some v → s.eval y = some v) →
      (∀ y v, s.eval y = some v → RepA O ρ w v (a.eval y)) → (∀ id k, V.hp id = some k → ∃ v, ρ id = some v ∧ BlkRep O ρ w v k) → ∃ v, (execOp a.eval o).run P w = .ok (.value v) w ∧ RepA O ρ w x v) :
    StepA P o f V ⟨x, []⟩ := by
  intro C U s a w hd _ hV hH ⟨ρ, hs⟩ Q
  obtain ⟨v, hv, hr⟩ := h (Own C s ρ) ρ s a w hV (fun y v hy => hs.eval hy) (fun id k hk => hs.heap id k (hH id k hk))
  exact wp_value hv ⟨ρ, (hs.put hd hr).widen (fun _ => .inl)⟩
theorem stepA_new {x : AV} (h : ∀ (O : Nat → Prop) (ρ : Nat → Option Value) (s : PS) (a : Act) (w : World), (∀ y, y ∈ o.op.operands → ∀ v, V.eval y = some v → s.eval y = some v) →
      (∀ y v, s.eval y = some v → RepA O ρ w v (a.eval y)) → (∀ id k, V.hp id = some k → ∃ v, ρ id = some v ∧ BlkRep O ρ w v k) → (∀ b, w.heap.size ≤ b → ¬ O b) →
      ∃ v w', (execOp a.eval o).run P w = .ok (.value v) w' ∧ RepA O ρ w' x v ∧
        (w.heap.size ≤ w'.heap.size ∧ (∀ b, b < w.heap.size → w'.heap[b]? = w.heap[b]?) ∧ w'.os = w.os ∧ w'.tape = w.tape ∧ w'.output = w.output)) :
    StepA P o f V ⟨x, []⟩ := by
  intro C U s a w hd _ hV hH ⟨ρ, hs⟩ Q
  obtain ⟨v, w', hv, hr, h1, h2, h3, h4, h5⟩ := h (Own C s ρ) ρ s a w hV (fun y v hy => hs.eval hy) (fun id k hk => hs.heap id k (hH id k hk)) (fun b hb => hs.notOwn hb)
  exact wp_value hv ⟨ρ, ((hs.move h1 h2 h3 h4 h5).put hd hr).widen (fun _ => .inl)⟩
theorem stepA_own {x : AV} {sz : Nat} {es : List (List AV)} {drop : List (Nat × Option Blk)} (hdrop : drop = [] ∨ ∃ id, drop = [(id, none)] ∧ id ≠ f)
    (h : ∀ (O : Nat → Prop) (ρ : Nat → Option Value) (s : PS) (a : Act) (w : World), (∀ y, y ∈ o.op.operands → ∀ v, V.eval y = some v → s.eval y = some v) →
      (∀ y v, s.eval y = some v → RepA O ρ w v (a.eval y)) → (∀ id k, V.hp id = some k → ∃ v, ρ id = some v ∧ BlkRep O ρ w v k) → (∀ b, w.heap.size ≤ b → ¬ O b) →
      ∃ v w1 hv e cur cap, (execOp a.eval o).run P w = .ok (.value v) (w1.alloc (.cells cur e)) ∧ w1.heap = w.heap ∧ w1.os = w.os ∧ w1.tape = w.tape ∧ w1.output = w.output ∧
        (hv = .slice (some ⟨w1.heap.size, 0, none⟩) es.length cap ∨ (hv = .pointer (some ⟨w1.heap.size, 0, none⟩) ∧ es.length = 1 ∧ cap = 1)) ∧ 0 < cap ∧ BlkOk O ρ w1 sz es cap cur ∧
        ∀ (O' : Nat → Prop) (ρ' : Nat → Option Value) (w' : World), ρ' f = some hv → RepA O' ρ' w' x v) :
    StepA P o f V ⟨x, (f, some (.row sz es)) :: drop⟩ := by
  intro C U s a w hd hf hV hH ⟨ρ, hs⟩ Q
  obtain ⟨v, w1, hv, e, cur, cap, hrun, g1, g2, g3, g4, hh, h0, hok, hr⟩ := h (Own C s ρ) ρ s a w hV (fun y v hy => hs.eval hy) (fun id k hk => hs.heap id k (hH id k hk)) (fun b hb => hs.notOwn hb)
  refine wp_value hrun ⟨fun i => if i = f then some hv else ρ i, ?_⟩
  have hs1 : SatR C U s ρ a w1 := hs.move (by rw [g1]; exact Nat.le_refl _) (fun b _ => by rw [g1]) g2 g3 g4
  rcases hdrop with rfl | ⟨id, rfl, hne⟩
  · exact (hs1.newBlk hf e cur sz es cap hv hh h0 hok).put hd (hr _ _ _ (by simp))
  · have := ((hs1.newBlk hf e cur sz es cap hv hh h0 hok).dropBlk id).put hd (x := x) (hr _ _ _ (by simp))
    have e2 : (PS.upd ⟨s.sl, PS.setHp (PS.setHp s.hp [(f, some (.row sz es))]) [(id, none)]⟩ o.dst ⟨x, []⟩) = s.upd o.dst ⟨x, [(f, some (.row sz es)), (id, none)]⟩ := by
      simp only [PS.upd, PS.setHp, PS.mk.injEq, true_and]
      funext i
      by_cases e1 : i = id
      · by_cases e2 : i = f
        · exact absurd (e1.symm.trans e2) hne
        · simp [e1, hne]
      · simp [e1]
    simp only at this
    rw [e2] at this
    exact this
end
def binR (op : BinOp) (u v r : Value) : Prop :=
  match op, u, v with
  | .add, .int k a, .int k' b => k = k' ∧ r = .int k (k.wrap (a + b))
  | .sub, .int k a, .int k' b => k = k' ∧ r = .int k (k.wrap (a - b))
  | .mul, .int k a, .int k' b => k = k' ∧ r = .int k (k.wrap (a * b))
  | .quo, .int k a, .int k' b => k = k' ∧ b ≠ 0 ∧ r = .int k (k.wrap (a.tdiv b))
  | .rem, .int k a, .int k' b => k = k' ∧ b ≠ 0 ∧ r = .int k (a.tmod b)
  | .eql, .int k a, .int k' b => k = k' ∧ r = .bool (a == b)
  | .neq, .int k a, .int k' b => k = k' ∧ r = .bool (a != b)
  | .lss, .int k a, .int k' b => k = k' ∧ r = .bool (decide (a < b))
  | .leq, .int k a, .int k' b => k = k' ∧ r = .bool (decide (a ≤ b))
  | .gtr, .int k a, .int k' b => k = k' ∧ r = .bool (decide (b < a))
  | .geq, .int k a, .int k' b => k = k' ∧ r = .bool (decide (b ≤ a))
  | .and, .int k a, .int k' b => k = k' ∧ r = .int k (k.wrap (BitVec.ofInt k.bits a &&& BitVec.ofInt k.bits b).toNat)
  | .or, .int k a, .int k' b => k = k' ∧ r = .int k (k.wrap (BitVec.ofInt k.bits a ||| BitVec.ofInt k.bits b).toNat)
  | .xor, .int k a, .int k' b => k = k' ∧ r = .int k (k.wrap (BitVec.ofInt k.bits a ^^^ BitVec.ofInt k.bits b).toNat)
  | .shl, .int k a, .int _ b => 0 ≤ b ∧ r = .int k (k.wrap (a * 2 ^ min b.toNat k.bits))
  | .shr, .int k a, .int _ b => 0 ≤ b ∧ r = .int k (a / 2 ^ min b.toNat k.bits)
  | _, _, _ => False
theorem binR_run {P : Program} {op : BinOp} {u v r : Value} (h : binR op u v r) (t : TypeId) (x y : Operand) (w : World) :
    (do eqGuard op t x y u v; binOp op t u v : Sem Value).run P w = .ok r w := by
  cases op <;> cases u <;> cases v <;> simp only [binR] at h <;> try exact h.elim
  all_goals rcases h with ⟨h1, h2⟩
  all_goals (first | subst h1 | skip)
  all_goals (first | subst h2 | (rcases h2 with ⟨h0, h2⟩; subst h2))
  all_goals simp only [eqGuard_at_int, pure_bind]
  all_goals (first | simp [binOp_add, binOp_sub, binOp_mul, Op.intArith] | skip)
  all_goals (first | (simp [binOp_quo, binOp_rem, Op.intDiv, h0]; done) | skip)
  all_goals (first | (simp [binOp_eql, binOp_neq, binOp_lss, binOp_leq, binOp_gtr, binOp_geq]; done) | skip)
  all_goals (first | (simp [binOp_and, binOp_or, binOp_xor, Op.intBits]; done) | skip)
  all_goals (first | (simp only [binOp_shl, binOp_shr, shift_shl_any _ _ _ _ h1, shift_shr_any _ _ _ _ h1]; rfl) | skip)
end Go.Am
namespace Go.Am
open Go.RowKit
def tSz (P : Program) (t : TypeId) : Option (Bool × Nat) :=
  match P.underlying t, P.info? t with
  | some d, some i => some (aggDesc (some d), i.size)
  | _, _ => none
def tBuilt (P : Program) (t : TypeId) : Bool := (P.built t []).isSome
section
variable {P : Program} {O : Nat → Prop} {ρ : Nat → Option Value} {w : World}
theorem run_isAgg {t : TypeId} {g : Bool} {n : Nat} (h : tSz P t = some (g, n)) (w : World) : (isAgg t).run P w = .ok g w := by
  unfold tSz at h
  split at h
  · rename_i d i hd hi
    simp only [Option.some.injEq, Prod.mk.injEq] at h
    obtain ⟨rfl, rfl⟩ := h
    simp only [isAgg, Sem.run_bind, run_underlying hd, Result.andThen_ok]
    cases d <;> rfl
  · cases h
theorem run_sizeOf {t : TypeId} {g : Bool} {n : Nat} (h : tSz P t = some (g, n)) (w : World) : (sizeOf t).run P w = .ok n w := by
  unfold tSz at h
  split at h
  · rename_i d i hd hi
    simp only [Option.some.injEq, Prod.mk.injEq] at h
    obtain ⟨rfl, rfl⟩ := h
    simp [sizeOf, typeInfo, hi]
  · cases h
theorem run_zero {t : TypeId} {g : Bool} {zs : List PV} (h : tVar P t = some (g, zs)) (w : World) :
    ∃ z, (zeroValue t).run P w = .ok z w ∧ zs = zcells z ∧ ∀ i, i < zs.length → (z.cells.getD i undef).oneCell' = true := by
  unfold tVar at h
  split at h
  · rename_i d i hd hi
    split at h
    · rename_i z hz
      split at h
      · rename_i hc
        simp only [Option.some.injEq, Prod.mk.injEq] at h
        obtain ⟨rfl, rfl⟩ := h
        refine ⟨z, by simp [zeroValue, typeInfo, hi, hz], rfl, fun j hj => ?_⟩
        have hj' : j < z.cells.size := by simpa [zcells] using hj
        have e : z.cells.getD j undef = z.cells[j] := by rw [Array.getD_eq_getD_getElem?]; simp [hj']
        rw [e]; exact hc.2 _ (by simp)
      · cases h
    · cases h
  · cases h
theorem tVar_sz {t : TypeId} {g : Bool} {zs : List PV} (h : tVar P t = some (g, zs)) : tSz P t = some (g, zs.length) := by
  unfold tVar at h
  unfold tSz
  split at h
  · rename_i d i hd hi
    try simp only [hd, hi]
    split at h
    · rename_i z hz
      split at h
      · rename_i hc
        simp only [Option.some.injEq, Prod.mk.injEq] at h
        obtain ⟨rfl, rfl⟩ := h
        simp [zcells, hc.1]
      · cases h
    · cases h
  · cases h
theorem repCells_zero {t : TypeId} {g : Bool} {zs : List PV} (h : tVar P t = some (g, zs)) (w w' : World) :
    ∃ z, (zeroValue t).run P w = .ok z w ∧ RepCells O ρ w' (zs.map .p) z.cells := by
  obtain ⟨z, hz, rfl, h1⟩ := run_zero h w
  refine ⟨z, hz, by simp [zcells], fun i x hx => ?_, fun i hi => h1 i (by simpa using hi)⟩
  simp only [List.getElem?_map, Option.map_eq_some_iff] at hx
  obtain ⟨y, hy, rfl⟩ := hx
  exact .p _ _ (zcells_rep z i y hy)
end
def evalInt (V : PS) (x : Operand) : Option Int := match V.eval x with | some (.p (.lit (.int _ n))) => some n | _ => none
theorem evalInt_some {V : PS} {x : Operand} {n : Int} (h : evalInt V x = some n) : ∃ k, V.eval x = some (.p (.lit (.int k n))) := by
  unfold evalInt at h
  split at h
  · rename_i k m hx; simp only [Option.some.injEq] at h; subst h; exact ⟨k, hx⟩
  · cases h
theorem RepA.lit {O : Nat → Prop} {ρ : Nat → Option Value} {w : World} {v u : Value} (h : RepA O ρ w (.p (.lit v)) u) : u = v := by cases h with | p _ _ h => cases h; rfl
def isPtr : AV → Bool
  | .ptr _ _ _ _ | .pp _ _ | .fn _ _ => true
  | _ => false
def offs : AV → Nat → Option AV
  | .ptr i s k o, d => some (.ptr i s k (o + d))
  | .pp cs o, d => some (.pp cs (o + d))
  | _, _ => none
def loadR (V : PS) (v : AV) (g : Bool) (n : Nat) (r : AV) : Prop :=
  match v with
  | .ptr id sz k off => ∃ es cs, V.hp id = some (.row sz es) ∧ es[k]? = some cs ∧ (if g = true then off + n ≤ cs.length ∧ r = aggOf ((cs.drop off).take n) else cs[off]? = some r)
  | .pp cs off => if g = true then off + n ≤ cs.length ∧ r = .p (.agg ((cs.drop off).take n)) else ∃ x, cs[off]? = some x ∧ r = .p x
  | _ => False
def idxR (V : PS) (sz n : Nat) (v r : AV) : Prop :=
  match v with
  | .p (.seq _ es) => ∃ cs, es[n]? = some cs ∧ cs.length = sz ∧ r = .pp cs 0
  | .own id => ∃ es, V.hp id = some (.row sz es) ∧ n < es.length ∧ r = .ptr id sz n 0
  | _ => False
def lenR (V : PS) (v : AV) (n : Nat) : Prop :=
  match v with
  | .p (.seq _ es) => n = es.length
  | .own id => ∃ sz es, V.hp id = some (.row sz es) ∧ n = es.length
  | .sub _ _ _ m => n = m
  | _ => False
theorem flat_get {α : Type} (sz : Nat) : ∀ (es : List (List α)) (k o : Nat) (cs : List α), (∀ e, e ∈ es → e.length = sz) → es[k]? = some cs → o < sz → es.flatten[k * sz + o]? = cs[o]?
  | [], k, o, cs, _, h, _ => by simp at h
  | e :: es, 0, o, cs, hl, h, ho => by
    simp only [List.getElem?_cons_zero, Option.some.injEq] at h; subst h
    have := hl e (by simp)
    simp only [List.flatten_cons, Nat.zero_mul, Nat.zero_add]
    rw [List.getElem?_append_left (by omega)]
  | e :: es, k + 1, o, cs, hl, h, ho => by
    have he := hl e (by simp)
    have := flat_get sz es k o cs (fun x hx => hl x (by simp [hx])) (by simpa using h) ho
    simp only [List.flatten_cons]
    rw [List.getElem?_append_right (by rw [Nat.add_mul]; omega), ← this]
    congr 1
    rw [Nat.add_mul]; omega
theorem flat_len {α : Type} (sz : Nat) : ∀ (es : List (List α)), (∀ e, e ∈ es → e.length = sz) → es.flatten.length = es.length * sz
  | [], _ => by simp
  | e :: es, h => by
    have := flat_len sz es (fun x hx => h x (by simp [hx]))
    have := h e (by simp)
    simp only [List.flatten_cons, List.length_append, List.length_cons, Nat.add_mul]; omega
theorem ptr_cells {O : Nat → Prop} {ρ : Nat → Option Value} {w : World} {id sz k off : Nat} {es : List (List AV)} {cs : List AV} {v u : Value}
    (hr : RepA O ρ w (.ptr id sz k off) v) (hu : ρ id = some u) (hb : BlkRep O ρ w u (.row sz es)) (hk : es[k]? = some cs) :
    ∃ b cap cur e, v = .pointer (some ⟨b, k * sz + off, none⟩) ∧ (u = .slice (some ⟨b, 0, none⟩) es.length cap ∨ (u = .pointer (some ⟨b, 0, none⟩) ∧ es.length = 1 ∧ cap = 1)) ∧ 0 < cap ∧
      w.heap[b]? = some (.cells cur e (0, 0)) ∧ BlkOk O ρ w sz es cap cur ∧ cs.length = sz ∧
      ∀ o x, cs[o]? = some x → k * sz + o < cur.size ∧ RepA O ρ w x (cur.getD (k * sz + o) undef) ∧ (cur.getD (k * sz + o) undef).oneCell' = true := by
  rcases hb with ⟨rfl, _⟩ | ⟨b, cap, cur, e, h1, h0, h2, h3, h4, h5, h6, h7⟩
  · simp at hk
  · have hl : cs.length = sz := h6 cs (List.mem_of_getElem? hk)
    have hob : oblk u = some b := by rcases h1 with rfl | ⟨rfl, _⟩ <;> simp [oblk]; omega
    cases hr with
    | ptr _ _ _ _ b' u' hi hv =>
      rw [hu] at hi; injection hi with hi; subst hi
      rw [hob] at hv; injection hv with hv; subst hv
      refine ⟨b, cap, cur, e, rfl, h1, h0, h2, ⟨h3, h4, h5, h6, h7⟩, hl, fun o x hx => ?_⟩
      have ho : o < sz := by rw [← hl]; exact (List.getElem?_eq_some_iff.1 hx).1
      have hx' : es.flatten[k * sz + o]? = some x := by rw [flat_get sz es k o cs h6 hk ho]; exact hx
      refine ⟨?_, h7 _ _ hx'⟩
      have := (List.getElem?_eq_some_iff.1 hx').1
      rw [flat_len sz es h6] at this
      have : es.length * sz ≤ cap * sz := Nat.mul_le_mul_right _ h3
      omega
theorem cell_row {w : World} {b o : Nat} {cur : Array Value} {e : TypeId} (hb : w.heap[b]? = some (.cells cur e (0, 0))) (h : o < cur.size) : w.cell? ⟨b, o, none⟩ = some (cur.getD o undef) := by
  rw [cell_of_row w b o cur e (0, 0) hb, Array.getD_eq_getD_getElem?]; simp [h]
theorem run_loadVar_cells {P : Program} {w : World} {t : TypeId} {g : Bool} {n : Nat} (ht : tSz P t = some (g, n)) (b o : Nat) (f : Nat → Value)
    (h : ∀ j, j < (if g = true then n else 1) → w.cell? ⟨b, o + j, none⟩ = some (f j)) :
    (loadVar t ⟨b, o, none⟩).run P w = .ok (if g = true then .agg ((List.range n).map f).toArray else f 0) w := by
  simp only [loadVar, Sem.run_bind, run_isAgg ht, Result.andThen_ok]
  cases g with
  | true =>
    simp only [if_true] at h ⊢
    simp only [Sem.run_bind, run_sizeOf ht, Result.andThen_ok]
    rw [run_loadCells w ⟨b, o, none⟩ n f (fun j hj => by rw [Addr.add_lit]; exact h j hj)]
    rfl
  | false =>
    have := h 0 (by simp)
    simp only [Nat.add_zero] at this
    simp [this]
theorem load_rep {P : Program} {O : Nat → Prop} {ρ : Nat → Option Value} {w : World} {V : PS} {t : TypeId} {g : Bool} {n : Nat} (ht : tSz P t = some (g, n)) {v r : AV} (hl : loadR V v g n r)
    (hV : ∀ id k, V.hp id = some k → ∃ v, ρ id = some v ∧ BlkRep O ρ w v k) {u : Value} (hu : RepA O ρ w v u) :
    ∃ x, (Instr.loadAt t u).run P w = .ok x w ∧ RepA O ρ w r x := by
  have key : ∀ (b o : Nat) (f : Nat → Value) (cs : List AV), u = .pointer (some ⟨b, o, none⟩) → (∀ j x, cs[j]? = some x → w.cell? ⟨b, o + j, none⟩ = some (f j) ∧ RepA O ρ w x (f j) ∧ (f j).oneCell' = true) →
      (g = true → n ≤ cs.length ∧ r = aggOf (cs.take n)) → (g = false → cs[0]? = some r) → ∃ x, (Instr.loadAt t u).run P w = .ok x w ∧ RepA O ρ w r x := by
    intro b o f cs hu hc hg1 hg2
    subst hu
    have hget : ∀ j, j < cs.length → ∃ x, cs[j]? = some x := fun j hj => ⟨cs[j], by simp [hj]⟩
    cases g with
    | true =>
      obtain ⟨hn, rfl⟩ := hg1 rfl
      have hrun := run_loadVar_cells (w := w) ht b o f (fun j hj => by
        simp only [if_true] at hj
        obtain ⟨x, hx⟩ := hget j (by omega)
        exact (hc j x hx).1)
      refine ⟨_, by simpa [Instr.loadAt, Instr.sureAddr] using hrun, ?_⟩
      have hlen : (cs.take n).length = n := by simp; omega
      refine repA_aggOf (by simp [hn]) (fun i x hx => ?_) (fun i hi => ?_)
      · rw [List.getElem?_take] at hx
        split at hx
        · rename_i hi
          have := (hc i x hx).2.1
          simpa [hi] using this
        · cases hx
      · rw [hlen] at hi
        obtain ⟨x, hx⟩ := hget i (by omega)
        have := (hc i x hx).2.2
        simpa [hi] using this
    | false =>
      have h0 := hg2 rfl
      have hrun := run_loadVar_cells (w := w) ht b o f (fun j hj => by
        have : j = 0 := by simpa using hj
        subst this
        exact (hc 0 r h0).1)
      exact ⟨_, by simpa [Instr.loadAt, Instr.sureAddr] using hrun, (hc 0 r h0).2.1⟩
  unfold loadR at hl
  split at hl
  · rename_i id sz k off
    obtain ⟨es, cs, hid, hk, hr⟩ := hl
    obtain ⟨z, hz, hb⟩ := hV id _ hid
    obtain ⟨b, cap, cur, e, rfl, _, _, h2, _, hcl, h3⟩ := ptr_cells hu hz hb hk
    refine key b (k * sz + off) (fun j => cur.getD (k * sz + off + j) undef) (cs.drop off) rfl (fun j x hx => ?_) (fun hg => ?_) (fun hg => ?_)
    · rw [List.getElem?_drop] at hx
      have := h3 _ _ hx
      rw [← Nat.add_assoc] at this
      exact ⟨cell_row h2 this.1, this.2⟩
    · subst hg
      simp only [if_true] at hr
      exact ⟨by simp; omega, hr.2⟩
    · subst hg
      simp only [Bool.false_eq_true, if_false] at hr
      simpa using hr
  · rename_i cs off
    cases hu with
    | pp _ _ b o f h4 h5 =>
      have hc : ∀ (j : Nat) (x : AV), (cs.map AV.p)[j]? = some x → ∃ y : PV, cs[j]? = some y ∧ x = AV.p y := by
        intro j x hx
        simp only [List.getElem?_map, Option.map_eq_some_iff] at hx
        obtain ⟨y, hy, rfl⟩ := hx
        exact ⟨y, hy, rfl⟩
      refine key b (o + off) (fun j => f (off + j)) ((cs.map AV.p).drop off) rfl (fun j x hx => ?_) (fun hg => ?_) (fun hg => ?_)
      · rw [List.getElem?_drop] at hx
        obtain ⟨y, hy, rfl⟩ := hc _ _ hx
        have hlt := (List.getElem?_eq_some_iff.1 hy).1
        have := h4 _ hlt
        rw [← Nat.add_assoc] at this
        exact ⟨this.2.1, .p _ _ (h5 _ _ hy), this.2.2⟩
      · subst hg
        simp only [if_true] at hl
        refine ⟨by simp; omega, ?_⟩
        rw [hl.2, ← List.map_drop, ← List.map_take, aggOf, pures_map]
      · subst hg
        simp only [Bool.false_eq_true, if_false] at hl
        obtain ⟨x, hx, rfl⟩ := hl
        simp [hx]
  · exact hl.elim
end Go.Am
namespace Go.Am
open Go.RowKit
def lift (es : List (List PV)) : List (List AV) := es.map (·.map .p)
theorem lift_length (es : List (List PV)) : (lift es).length = es.length := by simp [lift]
theorem p_inj : Function.Injective AV.p := fun a b h => by injection h
theorem lift_inj {a b : List (List PV)} : lift a = lift b ↔ a = b := by
  constructor
  · intro h
    exact (List.map_inj_right (fun x y hxy => (List.map_inj_right (fun _ _ h => p_inj h)).1 hxy)).1 h
  · rintro rfl; rfl
theorem lift_flatten (es : List (List PV)) : (lift es).flatten = es.flatten.map .p := by simp [lift, List.map_flatten]
theorem lift_len {sz : Nat} {es : List (List PV)} : (∀ x, x ∈ lift es → x.length = sz) ↔ ∀ x, x ∈ es → x.length = sz := by simp [lift]
theorem lift_get (es : List (List PV)) (k : Nat) : (lift es)[k]? = (es[k]?).map (·.map .p) := by simp [lift]
theorem lift_set (es : List (List PV)) (k : Nat) (cs : List PV) : (lift es).set k (cs.map .p) = lift (es.set k cs) := by simp [lift, List.map_set]
theorem lift_nil : lift [] = [] := rfl
def srcR (V : PS) (v : AV) (es : List (List PV)) : Prop :=
  match v with
  | .p (.seq _ es') => es = es'
  | .own id => ∃ sz, V.hp id = some (.row sz (lift es))
  | .sub id sz lo n => ∃ es', V.hp id = some (.row sz (lift es')) ∧ lo + n ≤ es'.length ∧ es = (es'.drop lo).take n
  | _ => False
structure Lies (O : Nat → Prop) (w : World) (es : List (List PV)) (v : Value) (vs : List Value) : Prop where
  slice : ∃ a c, v = .slice a es.length c ∧ (0 < es.length → ∃ b, a = some b ∧ ∀ j u, vs[j]? = some u → w.cell? (b.add j) = some u)
  len : vs.length = es.flatten.length
  rep : ∀ j x, es.flatten[j]? = some x → RepP O w x (vs.getD j undef) ∧ (vs.getD j undef).oneCell' = true
theorem lies_mk {O : Nat → Prop} {w : World} {es : List (List PV)} {a : Option Addr} {c : Nat} (f : Nat → Value) (b o : Nat) (ha : a = some ⟨b, o, none⟩)
    (hc : ∀ j, j < es.flatten.length → w.cell? ⟨b, o + j, none⟩ = some (f j) ∧ (f j).oneCell' = true) (hr : ∀ j x, es.flatten[j]? = some x → RepP O w x (f j)) :
    Lies O w es (.slice a es.length c) ((List.range es.flatten.length).map f) := by
  subst ha
  refine ⟨⟨_, c, rfl, fun _ => ⟨_, rfl, fun j u hu => ?_⟩⟩, by simp, fun j x hx => ?_⟩
  · simp only [List.getElem?_map, Option.map_eq_some_iff, List.getElem?_eq_some_iff, List.length_range, List.getElem_range] at hu
    obtain ⟨i, ⟨hi, rfl⟩, rfl⟩ := hu
    rw [Addr.add_lit]; exact (hc _ hi).1
  · have hj := (List.getElem?_eq_some_iff.1 hx).1
    have e : ((List.range es.flatten.length).map f).getD j undef = f j := by rw [List.getD_eq_getElem?_getD, List.getElem?_map, List.getElem?_range hj]; rfl
    rw [e]; exact ⟨hr j x hx, (hc j hj).2⟩
theorem lies_seq {O : Nat → Prop} {w : World} {c : Bool} {es : List (List PV)} {v : Value} (h : RepP O w (.seq c es) v) : ∃ vs, Lies O w es v vs := by
  cases h with
  | nilseq c a cap hc => exact ⟨[], ⟨⟨a, cap, rfl, fun h => absurd h (by simp)⟩, rfl, fun j x hx => by simp at hx⟩⟩
  | seq c es sz b off cap f h1 h2 h3 h4 h5 => exact ⟨_, lies_mk f b off rfl (fun j hj => ⟨(h4 j hj).2.1, (h4 j hj).2.2⟩) h5⟩
theorem blk_get {O : Nat → Prop} {ρ : Nat → Option Value} {w : World} {es : List (List PV)} {sz cap : Nat} {cur : Array Value} (h : BlkOk O ρ w sz (lift es) cap cur) {j : Nat} {x : PV}
    (hx : es.flatten[j]? = some x) : j < cur.size ∧ RepP O w x (cur.getD j undef) ∧ (cur.getD j undef).oneCell' = true := by
  have := h.2.2.2.2 j (.p x) (by rw [lift_flatten, List.getElem?_map, hx]; rfl)
  refine ⟨?_, this.1.unP, this.2⟩
  have h1 := (List.getElem?_eq_some_iff.1 hx).1
  rw [flat_len sz es (lift_len.1 h.2.2.2.1)] at h1
  have h2 : es.length * sz ≤ cap * sz := Nat.mul_le_mul_right _ (by rw [← lift_length es]; exact h.1)
  rw [h.2.2.1]; omega
theorem lies_src {O : Nat → Prop} {ρ : Nat → Option Value} {w : World} {V : PS} {x : AV} {es : List (List PV)} {v : Value} (hs : srcR V x es)
    (hV : ∀ id k, V.hp id = some k → ∃ v, ρ id = some v ∧ BlkRep O ρ w v k) (hx : RepA O ρ w x v) : ∃ vs, Lies O w es v vs := by
  unfold srcR at hs
  split at hs
  · subst hs; exact lies_seq hx.unP
  · rename_i id
    obtain ⟨sz, hid⟩ := hs
    obtain ⟨u, hu, hb⟩ := hV id _ hid
    cases hx with
    | own _ a n c hi =>
      rw [hu] at hi; injection hi with hi; subst hi
      rcases hb with ⟨he, a', ha⟩ | ⟨b, cap, cur, e, h1, h0, h2, hok⟩
      · have : es = [] := by simpa [lift] using he
        subst this
        injection ha with h1 h2 h3; subst h1 h2 h3
        exact ⟨[], ⟨⟨_, _, rfl, fun h => absurd h (by simp)⟩, rfl, fun j x hx => by simp at hx⟩⟩
      · rcases h1 with h1 | ⟨h1, _⟩
        · injection h1 with g1 g2 g3; subst g1 g3
          rw [lift_length] at g2; subst g2
          refine ⟨_, lies_mk (fun j => cur.getD j undef) b 0 rfl (fun j hj => ?_) (fun j x hx => (blk_get hok hx).2.1)⟩
          have := blk_get hok (List.getElem?_eq_getElem hj)
          rw [Nat.zero_add]; exact ⟨cell_row h2 this.1, this.2.2⟩
        · cases h1
  · rename_i id sz lo n
    obtain ⟨es', hid, hlo, rfl⟩ := hs
    obtain ⟨u, hu, hb⟩ := hV id _ hid
    have hlen : ((es'.drop lo).take n).length = n := by simp; omega
    cases hx with
    | sub0 _ _ _ ad c => exact ⟨[], ⟨⟨ad, c, by simp, fun h => absurd h (by simp)⟩, by simp, fun j x hx => by simp at hx⟩⟩
    | sub _ _ _ len cap c _ b hi hc =>
      rw [hu] at hi; injection hi with hi; subst hi
      rcases hb with ⟨he, a', ha⟩ | ⟨b', cap', cur, e, h1, h0, h2, hok⟩
      · injection ha with h1 h2 h3; omega
      · rcases h1 with h1 | ⟨h1, _⟩
        · injection h1 with g1 g2 g3; injection g1 with g1; injection g1 with g1; subst g1 g3
          have hl := lift_len.1 hok.2.2.2.1
          have hfl := flat_len sz es' hl
          have hfl2 := flat_len sz ((es'.drop lo).take n) (fun x hx => hl x (List.mem_of_mem_drop (List.mem_of_mem_take hx)))
          have hget : ∀ j x, ((es'.drop lo).take n).flatten[j]? = some x → es'.flatten[lo * sz + j]? = some x := by
            intro j x hx
            have h3 : es' = es'.take lo ++ (((es'.drop lo).take n) ++ (es'.drop lo).drop n) := by rw [List.take_append_drop, List.take_append_drop]
            have h4 : (es'.take lo).flatten.length = lo * sz := by
              rw [flat_len sz _ (fun x hx => hl x (List.mem_of_mem_take hx))]; congr 1; simp; omega
            rw [h3, List.flatten_append, List.flatten_append, List.getElem?_append_right (by omega), h4, Nat.add_sub_cancel_left,
              List.getElem?_append_left (List.getElem?_eq_some_iff.1 hx).1]
            exact hx
          suffices hsuf : ∃ vs, Lies O w ((es'.drop lo).take n) (.slice (some ⟨b, lo * sz, none⟩) ((es'.drop lo).take n).length c) vs by
            rw [hlen] at hsuf; exact hsuf
          refine ⟨_, lies_mk (fun j => cur.getD (lo * sz + j) undef) b (lo * sz) rfl (fun j hj => ?_) (fun j x hx => (blk_get hok (hget j x hx)).2.1)⟩
          have := blk_get hok (hget j _ (List.getElem?_eq_getElem hj))
          exact ⟨cell_row h2 this.1, this.2.2⟩
        · cases h1
  · exact hs.elim
theorem run_append_none {P : Program} (t ty e : TypeId) (i : TypeInfo) (ht : P.underlying t = some (.slice e)) (hi : P.info? e = some i) (a a2 : Option Addr) (n c c2 : Nat) (hn : n ≤ c) (w : World) :
    (Builtin.append_ #[t, t] ty #[.slice a n c, .slice a2 0 c2]).run P w = .ok (.slice a n c) w := by
  have h0 : ∀ x : Value, (∃ b k, x = .slice b 0 k) → (Builtin.firstCells i.size 0 x).run P w = .ok #[] w := by
    rintro x ⟨b, k, rfl⟩
    cases b <;> simp [Builtin.firstCells, loadCells, loadCellsFrom]
  cases a with
  | none => simp [Builtin.append_, run_underlying ht, sizeOf, typeInfo, hi, Builtin.lenOf, hn, h0 _ ⟨a2, c2, rfl⟩]
  | some b => simp [Builtin.append_, run_underlying ht, sizeOf, typeInfo, hi, Builtin.lenOf, hn, h0 _ ⟨a2, c2, rfl⟩, storeCells]
theorem run_append_more {P : Program} {O : Nat → Prop} {w : World} (t ty e : TypeId) (i : TypeInfo) (z : Value) (ht : P.underlying t = some (.slice e)) (hi : P.info? e = some i) (hz : i.zero = some z)
    (hzs : z.cells.size = i.size) {es1 es2 : List (List PV)} {v1 v2 : Value} {vs1 vs2 : List Value} (l1 : Lies O w es1 v1 vs1) (l2 : Lies O w es2 v2 vs2) (c1 : Nat) (hv1 : ∃ a, v1 = .slice a es1.length c1)
    (hc1 : c1 < es1.length + es2.length) (hnil : v1 = .slice none es1.length c1 → c1 = 0)
    (hl1 : ∀ x, x ∈ es1 → x.length = i.size) (hl2 : ∀ x, x ∈ es2 → x.length = i.size) (hn2 : 0 < es2.length)
    (hmax : es1.length + es2.length ≤ maxLen) (hb : (es1.length + es2.length) * i.bytes ≤ 140737488355328) :
    ∃ cap cur, (Builtin.append_ #[t, t] ty #[v1, v2]).run P w = .ok (.slice (some ⟨w.heap.size, 0, none⟩) (es1 ++ es2).length cap) (w.drew.alloc (.cells cur e)) ∧ (es1 ++ es2).length ≤ cap ∧ cap ≤ maxLen ∧
      cur.size = cap * i.size ∧ ∀ j x, (es1 ++ es2).flatten[j]? = some x → RepP O w x (cur.getD j undef) ∧ (cur.getD j undef).oneCell' = true := by
  obtain ⟨a2, k2, rfl, h2⟩ := l2.slice
  obtain ⟨b2, rfl, hc2⟩ := h2 hn2
  obtain ⟨a1, k1, hv1', h1⟩ := l1.slice
  obtain ⟨a1', rfl⟩ := hv1
  injection hv1' with g1 g2 g3; subst g1 g3
  have hlen2 : vs2.length = es2.length * i.size := by rw [l2.len, flat_len i.size es2 hl2]
  have hlen1 : vs1.length = es1.length * i.size := by rw [l1.len, flat_len i.size es1 hl1]
  have h63 : ((es1.length + es2.length : Nat) : Int) ≤ 9223372036854775807 := by simp only [maxLen] at hmax; omega
  have hfin : ∀ N, (vs1.toArray ++ vs2.toArray ++ Builtin.zeroCells z.cells N).size = (es1.length + es2.length + N) * i.size := by
    intro N
    simp only [Array.size_append, List.size_toArray, size_zeroCells, hzs, hlen1, hlen2, Nat.add_mul]
  have hrep : ∀ N j x, (es1 ++ es2).flatten[j]? = some x → RepP O w x ((vs1.toArray ++ vs2.toArray ++ Builtin.zeroCells z.cells N).getD j undef) ∧ ((vs1.toArray ++ vs2.toArray ++ Builtin.zeroCells z.cells N).getD j undef).oneCell' = true := by
    intro N j x hx
    rw [List.flatten_append] at hx
    have hj := (List.getElem?_eq_some_iff.1 hx).1
    simp only [List.length_append] at hj
    rw [Array.getD_eq_getD_getElem?, Array.getElem?_append_left (by simp; rw [l1.len, l2.len]; simpa using hj)]
    by_cases hlt : j < es1.flatten.length
    · rw [List.getElem?_append_left hlt] at hx
      rw [Array.getElem?_append_left (by simp; rw [l1.len]; exact hlt)]
      have := l1.rep j x hx
      rw [List.getD_eq_getElem?_getD] at this
      simpa using this
    · rw [List.getElem?_append_right (by omega)] at hx
      rw [Array.getElem?_append_right (by simp; rw [l1.len]; omega)]
      have := l2.rep _ x hx
      rw [List.getD_eq_getElem?_getD] at this
      simpa [l1.len] using this
  cases a1' with
  | none =>
    have hc0 : c1 = 0 := hnil rfl
    have h0 : es1.length = 0 := by
      by_cases h : 0 < es1.length
      · obtain ⟨b, hb, _⟩ := h1 h; cases hb
      · omega
    have hes : es1 = [] := List.eq_nil_of_length_eq_zero h0
    subst hes hc0
    have hvs : vs1 = [] := List.eq_nil_of_length_eq_zero (by simpa using l1.len)
    subst hvs
    have hr := run_append_nil (P := P) w t ty e i z ht hi hz b2 es2.length k2 vs2 hlen2 hc2 hn2 (by simp at h63; omega) (by simp only [List.length_nil, Nat.zero_add] at hb; omega)
    refine ⟨_, _, hr, ?_, ?_, ?_, ?_⟩
    · simpa using grownCap_ge w es2.length 0 e
    · exact grownCap_le_maxLen w es2.length 0 e (by simpa using hmax)
    · have := hfin (grownCap w es2.length 0 e - es2.length)
      have hge := grownCap_ge w es2.length 0 e
      simp only [List.length_nil, Nat.zero_add] at this
      rw [show es2.length + (grownCap w es2.length 0 e - es2.length) = grownCap w es2.length 0 e by omega] at this
      simpa using this
    · intro j x hx
      have := hrep (grownCap w es2.length 0 e - es2.length) j x hx
      simpa using this
  | some b1 =>
    have holds : ∀ j u, vs1[j]? = some u → w.cell? (b1.add j) = some u := by
      intro j u hu
      have hp : 0 < es1.length := by
        have := (List.getElem?_eq_some_iff.1 hu).1
        rw [hlen1] at this
        exact Nat.pos_of_ne_zero (fun h => by rw [h] at this; simp at this)
      obtain ⟨b, hb, hc⟩ := h1 hp
      injection hb with hb; subst hb; exact hc j u hu
    have hr := run_append_grow (P := P) w t ty e i z ht hi hz b1 es1.length c1 vs1 hlen1 holds b2 es2.length k2 vs2 hlen2 hc2 hc1 h63 (growslice_fits hc1 hb)
    have hge := grownCap_ge w (es1.length + es2.length) c1 e
    refine ⟨_, _, by rw [hr, List.length_append], by rw [List.length_append]; exact hge, grownCap_le_maxLen w _ c1 e hmax, ?_, hrep _⟩
    rw [hfin]
    congr 1; omega
end Go.Am
namespace Go.Am
open Go.RowKit
theorem SatR.newNil {C : Ctx} {U : Nat → Prop} {s : PS} {ρ : Nat → Option Value} {a : Act} {w : World} (h : SatR C U s ρ a w) {f : Nat} (hf : ¬ U f) (sz : Nat) (ad : Option Addr) :
    SatR C (fun i => U i ∨ i = f) ⟨s.sl, PS.setHp s.hp [(f, some (.row sz []))]⟩ (fun i => if i = f then some (.slice ad 0 0) else ρ i) a w := by
  have hob : oblk (.slice ad 0 0) = none := by cases ad <;> simp [oblk]
  have hρ : ∀ i v', ρ i = some v' → (fun i => if i = f then some (Value.slice ad 0 0) else ρ i) i = some v' := by
    intro i v' hi
    by_cases e : i = f
    · subst e; rw [h.used i hf] at hi; cases hi
    · simp [e, hi]
  have hcase : ∀ i k v b, PS.setHp s.hp [(f, some (.row sz []))] i = some k → (if i = f then some (Value.slice ad 0 0) else ρ i) = some v → oblk v = some b → s.hp i = some k ∧ ρ i = some v := by
    intro i k v b h1 h2 h3
    by_cases e : i = f
    · simp only [e, if_true, Option.some.injEq] at h2; subst h2; rw [hob] at h3; cases h3
    · simp only [PS.setHp, e, if_false] at h1 h2; exact ⟨h1, h2⟩
  have hm : Moves (Own C s ρ) w (Own C ⟨s.sl, PS.setHp s.hp [(f, some (.row sz []))]⟩ (fun i => if i = f then some (.slice ad 0 0) else ρ i)) w := by
    refine ⟨Nat.le_refl _, fun b hb _ => rfl, fun b hb ho => ?_⟩
    rcases ho with ho | ⟨id, k, u, h1, h2, h3⟩
    · exact .inl ho
    · obtain ⟨g1, g2⟩ := hcase id k u b h1 h2 h3
      exact .inr ⟨id, k, u, g1, g2, h3⟩
  refine ⟨h.defers, h.size, fun d x hx => (h.slots d x hx).mono hm hρ, fun id k hid => ?_, fun i j k l v u b h1 h2 h3 h4 h5 h6 => ?_, fun id hid => ?_, fun id k v b h1 h2 h3 => ?_, h.oc, h.os, h.tape, h.output, h.grows, h.frame, fun j v hj => hρ _ _ (h.pins j v hj)⟩
  · by_cases e : id = f
    · subst e
      simp only [PS.setHp, if_true, Option.some.injEq] at hid
      subst hid
      exact ⟨_, by simp, .inl ⟨rfl, ad, rfl⟩⟩
    · simp only [PS.setHp, e, if_false] at hid
      obtain ⟨v', hv', hr⟩ := h.heap id k hid
      exact ⟨v', by simp [e, hv'], hr.mono hm hρ (fun _ _ => rfl)⟩
  · obtain ⟨a1, a2⟩ := hcase i k v b h1 h3 h5
    obtain ⟨b1, b2⟩ := hcase j l u b h2 h4 h6
    exact h.inj i j k l v u b a1 b1 a2 b2 h5 h6
  · have : ¬ id = f := fun e => hid (.inr e)
    simp only [this, if_false]
    exact h.used id (fun x => hid (.inl x))
  · obtain ⟨a1, a2⟩ := hcase id k v b h1 h2 h3
    exact h.range id k v b a1 a2 h3
theorem SatR.rename {C : Ctx} {U : Nat → Prop} {s : PS} {ρ : Nat → Option Value} {a : Act} {w : World} (h : SatR C U s ρ a w) {f : Nat} (hf : ¬ U f) {id sz : Nat} {es es' : List (List AV)}
    (hid : s.hp id = some (.row sz es)) {b cap : Nat} (hv : ρ id = some (.slice (some ⟨b, 0, none⟩) es.length cap)) (h0 : 0 < cap) {cur cur' : Array Value} {e : TypeId}
    (hb : w.heap[b]? = some (.cells cur e (0, 0))) (hok : BlkOk (Own C s ρ) ρ w sz es' cap cur') :
    SatR C (fun i => U i ∨ i = f) ⟨s.sl, PS.setHp s.hp [(f, some (.row sz es')), (id, none)]⟩ (fun i => if i = f then some (.slice (some ⟨b, 0, none⟩) es'.length cap) else ρ i) a (w.setRow b cur') := by
  have hob : ∀ n, oblk (.slice (some ⟨b, 0, none⟩) n cap) = some b := fun n => by simp [oblk]; omega
  have hfn : ρ f = none := h.used f hf
  have hne : id ≠ f := by rintro rfl; rw [hfn] at hv; cases hv
  have hρ : ∀ i v', ρ i = some v' → (fun i => if i = f then some (Value.slice (some ⟨b, 0, none⟩) es'.length cap) else ρ i) i = some v' := by
    intro i v' hi
    by_cases e : i = f
    · subst e; rw [hfn] at hi; cases hi
    · simp [e, hi]
  have hcase : ∀ i k v, PS.setHp s.hp [(f, some (.row sz es')), (id, none)] i = some k → (if i = f then some (Value.slice (some ⟨b, 0, none⟩) es'.length cap) else ρ i) = some v →
      (i = f ∧ k = .row sz es' ∧ v = .slice (some ⟨b, 0, none⟩) es'.length cap) ∨ (i ≠ f ∧ i ≠ id ∧ s.hp i = some k ∧ ρ i = some v) := by
    intro i k v h1 h2
    by_cases e : i = f
    · subst e
      simp only [PS.setHp, if_true, Option.some.injEq] at h1 h2
      exact .inl ⟨rfl, h1.symm, h2.symm⟩
    · by_cases e2 : i = id
      · simp [PS.setHp, e2, hne] at h1
      · simp only [PS.setHp, e, e2, if_false] at h1 h2; exact .inr ⟨e, e2, h1, h2⟩
  have hO : ∀ x, Own C ⟨s.sl, PS.setHp s.hp [(f, some (.row sz es')), (id, none)]⟩ (fun i => if i = f then some (.slice (some ⟨b, 0, none⟩) es'.length cap) else ρ i) x → Own C s ρ x := by
    rintro x (ho | ⟨i, k, u, h1, h2, h3⟩)
    · exact .inl ho
    · rcases hcase i k u h1 h2 with ⟨_, _, rfl⟩ | ⟨_, _, g1, g2⟩
      · rw [hob] at h3; injection h3 with h3; subst h3; exact .inr ⟨id, _, _, hid, hv, hob _⟩
      · exact .inr ⟨i, k, u, g1, g2, h3⟩
  have hin : Own C s ρ b := .inr ⟨id, _, _, hid, hv, hob _⟩
  have hm : Moves (Own C s ρ) w (Own C ⟨s.sl, PS.setHp s.hp [(f, some (.row sz es')), (id, none)]⟩ (fun i => if i = f then some (.slice (some ⟨b, 0, none⟩) es'.length cap) else ρ i)) (w.setRow b cur') :=
    ⟨by simp, fun x _ hx => setRow_other w b x cur' (fun e => hx (e ▸ hin)), fun x _ => hO x⟩
  have hrange := h.range id _ _ b hid hv (hob _)
  refine ⟨h.defers, h.size, fun d x hx => (h.slots d x hx).mono hm hρ, fun i k hi => ?_, fun i j k l v' u b' h1 h2 h3 h4 h5 h6 => ?_, fun i hi => ?_, fun i k v' b' h1 h2 h3 => ?_, h.oc, h.os, h.tape, h.output, by simpa using h.grows, fun x hx hA => ?_, fun j v' hj => hρ _ _ (h.pins j v' hj)⟩
  · by_cases e : i = f
    · subst e
      simp only [PS.setHp, if_true, Option.some.injEq] at hi
      subst hi
      exact ⟨_, by simp, .inr ⟨b, cap, cur', _, .inl rfl, h0, setRow_heap w b cur cur' _ _ hb, hok.1, hok.2.1, hok.2.2.1, hok.2.2.2.1, fun j x hx => ⟨(hok.2.2.2.2 j x hx).1.mono hm hρ, (hok.2.2.2.2 j x hx).2⟩⟩⟩
    · have e2 : i ≠ id := by rintro rfl; simp [PS.setHp, e] at hi
      simp only [PS.setHp, e, e2, if_false] at hi
      obtain ⟨u, hu, hr⟩ := h.heap i k hi
      exact ⟨u, by simp [e, hu], hr.mono hm hρ (fun b2 hob2 => setRow_other w b b2 cur' (fun x => by subst x; exact e2 (h.inj i id _ _ u _ b2 hi hid hu hv hob2 (hob _))))⟩
  · rcases hcase i k v' h1 h3 with ⟨rfl, _, rfl⟩ | ⟨e1, e2, g1, g2⟩
    · rcases hcase j l u h2 h4 with ⟨rfl, _, rfl⟩ | ⟨e1, e2, g1, g2⟩
      · rfl
      · rw [hob] at h5; injection h5 with h5; subst h5
        exact absurd (h.inj j id l _ u _ b g1 hid g2 hv h6 (hob _)) e2
    · rcases hcase j l u h2 h4 with ⟨rfl, _, rfl⟩ | ⟨e3, e4, g3, g4⟩
      · rw [hob] at h6; injection h6 with h6; subst h6
        exact absurd (h.inj i id k _ v' _ b g1 hid g2 hv h5 (hob _)) e2
      · exact h.inj i j k l v' u b' g1 g3 g2 g4 h5 h6
  · have : ¬ i = f := fun e => hi (.inr e)
    simp only [this, if_false]
    exact h.used i (fun x => hi (.inl x))
  · rcases hcase i k v' h1 h2 with ⟨rfl, _, rfl⟩ | ⟨_, _, g1, g2⟩
    · rw [hob] at h3; injection h3 with h3; subst h3; simpa using hrange
    · simpa using h.range i k v' b' g1 g2 h3
  · rw [setRow_other w b x cur' ?_]
    · exact h.frame x hx hA
    · rintro rfl
      rcases hrange.1 with hr | hr
      · omega
      · exact hA hr
theorem blk_room {O : Nat → Prop} {ρ : Nat → Option Value} {w : World} {es1 es2 : List (List PV)} {sz cap : Nat} {cur : Array Value} (h : BlkOk O ρ w sz (lift es1) cap cur) {v2 : Value} {vs2 : List Value}
    (l2 : Lies O w es2 v2 vs2) (hl2 : ∀ x, x ∈ es2 → x.length = sz) (hroom : es1.length + es2.length ≤ cap) :
    BlkOk O ρ w sz (lift (es1 ++ es2)) cap (cur.toList.take (es1.length * sz) ++ vs2 ++ cur.toList.drop (es1.length * sz + vs2.length)).toArray := by
  have hl1 := lift_len.1 h.2.2.2.1
  have hlen2 : vs2.length = es2.length * sz := by rw [l2.len, flat_len sz es2 hl2]
  have hsz : es1.length * sz + es2.length * sz ≤ cap * sz := by rw [← Nat.add_mul]; exact Nat.mul_le_mul_right _ hroom
  have hcs := h.2.2.1
  refine ⟨by rw [lift_length, List.length_append]; exact hroom, h.2.1, ?_, lift_len.2 (fun x hx => ?_), fun j x hx => ?_⟩
  · simp only [List.size_toArray, List.length_append, List.length_take, List.length_drop, Array.length_toList, hlen2]; omega
  · rcases List.mem_append.1 hx with hx | hx
    · exact hl1 x hx
    · exact hl2 x hx
  · rw [lift_flatten, List.getElem?_map] at hx
    obtain ⟨y, hy, rfl⟩ := Option.map_eq_some_iff.1 hx
    rw [List.flatten_append] at hy
    have hf1 := flat_len sz es1 hl1
    have htk : (cur.toList.take (es1.length * sz)).length = es1.length * sz := by have := Array.length_toList (xs := cur); rw [List.length_take]; omega
    by_cases hlt : j < es1.length * sz
    · rw [List.getElem?_append_left (by omega)] at hy
      have := blk_get h hy
      have e : ((cur.toList.take (es1.length * sz) ++ vs2 ++ cur.toList.drop (es1.length * sz + vs2.length)).toArray).getD j undef = cur.getD j undef := by
        rw [Array.getD_eq_getD_getElem?, Array.getD_eq_getD_getElem?, List.getElem?_toArray, List.append_assoc, List.getElem?_append_left (by omega), List.getElem?_take, if_pos hlt]; simp
      rw [e]; exact ⟨.p _ _ this.2.1, this.2.2⟩
    · rw [List.getElem?_append_right (by omega), hf1] at hy
      have hj := (List.getElem?_eq_some_iff.1 hy).1
      have := l2.rep _ y hy
      have e : ((cur.toList.take (es1.length * sz) ++ vs2 ++ cur.toList.drop (es1.length * sz + vs2.length)).toArray).getD j undef = vs2.getD (j - es1.length * sz) undef := by
        rw [Array.getD_eq_getD_getElem?, List.getElem?_toArray, List.append_assoc, List.getElem?_append_right (by omega), htk, List.getElem?_append_left (by rw [l2.len]; exact hj), ← List.getD_eq_getElem?_getD]
      rw [e]; exact ⟨.p _ _ this.1, this.2⟩
theorem SatR.freeze {C : Ctx} {U : Nat → Prop} {s : PS} {ρ : Nat → Option Value} {a : Act} {w : World} (h : SatR C U s ρ a w) {id sz : Nat} {es : List (List PV)} (hid : s.hp id = some (.row sz (lift es))) {d : Nat} (hd : s.sl d = some (.own id)) :
    SatR C U ⟨fun e => if some d = some e then some (.p (.seq false es)) else s.sl e, PS.setHp s.hp [(id, none)]⟩ ρ a w := by
  have hdp := h.dropBlk id
  have hv := h.slots d _ hd
  obtain ⟨u, hu, hb⟩ := h.heap id _ hid
  have hO : ∀ x, Own C ⟨s.sl, PS.setHp s.hp [(id, none)]⟩ ρ x → Own C s ρ x := by
    rintro x (ho | ⟨j, k, v, h1, h2, h3⟩)
    · exact .inl ho
    · by_cases e : j = id
      · simp [PS.setHp, e] at h1
      · simp only [PS.setHp, e, if_false] at h1; exact .inr ⟨j, k, v, h1, h2, h3⟩
  have hm : Moves (Own C s ρ) w (Own C ⟨s.sl, PS.setHp s.hp [(id, none)]⟩ ρ) w := ⟨Nat.le_refl _, fun _ _ _ => rfl, fun x _ => hO x⟩
  have key : RepP (Own C ⟨s.sl, PS.setHp s.hp [(id, none)]⟩ ρ) w (.seq false es) (a.tmps.getD d undef) := by
    generalize a.tmps.getD d undef = z at hv
    cases hv with
    | own _ ad n c hi =>
      rw [hu] at hi; injection hi with hi; subst hi
      rcases hb with ⟨hnil, a', ha'⟩ | ⟨b, cap, cur, e, h1, h0, h2, h3, h4, h5, h6, h7⟩
      · have : es = [] := by simpa [lift] using hnil
        subst this
        injection ha' with q1 q2 q3; subst q1 q2 q3
        exact .nilseq _ _ _ (fun h => by cases h)
      · rcases h1 with h1 | ⟨h1, _⟩
        · injection h1 with q1 q2 q3; subst q1 q3
          rw [lift_length] at q2; subst q2
          have hok : BlkOk (Own C s ρ) ρ w sz (lift es) c cur := ⟨h3, h4, h5, h6, h7⟩
          have hob : oblk (.slice (some ⟨b, 0, none⟩) es.length c) = some b := by simp [oblk]; omega
          have hno : ¬ Own C ⟨s.sl, PS.setHp s.hp [(id, none)]⟩ ρ b := by
            rintro (ho | ⟨j, k, v, e1, e2, e3⟩)
            · exact (h.range id _ _ b hid hu hob).2.1 ho
            · by_cases e : j = id
              · simp [PS.setHp, e] at e1
              · simp only [PS.setHp, e, if_false] at e1
                exact e (h.inj j id k _ v _ b e1 hid e2 hu e3 hob)
          refine .seq false es sz b 0 c (fun j => cur.getD j undef) (lift_len.1 h6) (by rw [lift_length] at h3; exact h3) (fun h => by cases h) (fun j hj => ?_) (fun j y hy => (blk_get hok hy).2.1.mono hm)
          have := blk_get hok (List.getElem?_eq_getElem hj)
          refine ⟨hno, ?_, this.2.2⟩
          rw [Nat.zero_add]; exact cell_row h2 this.1
        · cases h1
  have hsl : ∀ (e : Nat) (x : AV), (if some d = some e then some (.p (.seq false es)) else s.sl e) = some x → RepA (Own C ⟨s.sl, PS.setHp s.hp [(id, none)]⟩ ρ) ρ w x (a.tmps.getD e undef) := by
    intro e x hx
    split at hx
    · rename_i e1; injection e1 with e1; subst e1; simp only [Option.some.injEq] at hx; subst hx; exact .p _ _ key
    · exact hdp.slots e x hx
  exact { hdp with slots := hsl }
theorem stepA_freeze {P : Program} {f : Nat} {V : PS} {o : Oper} {id d sz : Nat} {es : List (List PV)} (hdst : o.dst = some d) (h : StepA P o f V ⟨.own f, [(f, some (.row sz (lift es))), (id, none)]⟩) : StepA P o f V ⟨.p (.seq false es), [(f, none), (id, none)]⟩ := by
  intro C U s a w hd hf hV hH hsat Q
  refine Oper.wp_mono (fun a' w' hs => ?_) (h C U s a w hd hf hV hH hsat Q)
  obtain ⟨ρ, hs⟩ := hs
  have := hs.freeze (id := f) (sz := sz) (es := es) (d := d) (by simp [PS.upd, PS.setHp]) (by simp [PS.upd, hdst])
  refine ⟨ρ, ?_⟩
  have e : (⟨fun e => if some d = some e then some (AV.p (.seq false es)) else (s.upd o.dst ⟨.own f, [(f, some (.row sz (lift es))), (id, none)]⟩).sl e, PS.setHp (s.upd o.dst ⟨.own f, [(f, some (.row sz (lift es))), (id, none)]⟩).hp [(f, none)]⟩ : PS) = s.upd o.dst ⟨.p (.seq false es), [(f, none), (id, none)]⟩ := by
    simp only [PS.upd, PS.setHp, hdst, PS.mk.injEq]
    constructor
    · funext e; by_cases e1 : d = e <;> simp [e1]
    · funext j; by_cases e1 : j = f <;> simp [e1]
  rw [e] at this
  exact this
end Go.Am
namespace Go.Am
open Go.RowKit
def CallsA (P : Program) (g : FuncId) (xs : List AV) (f : Nat) (V : PS) (dst : Option Nat) (u : Upd) : Prop :=
  ∀ (C : Ctx) (U : Nat → Prop) (s : PS) (ρ : Nat → Option Value) (a : Act) (w : World) (vs : Array Value), (∀ d, dst = some d → d < C.n) → (∀ j, j < 7 → ¬ U (f + j)) → (∀ id k, V.hp id = some k → s.hp id = some k) → SatR C U s ρ a w →
    vs.size = xs.length → (∀ i x, xs[i]? = some x → RepA (Own C s ρ) ρ w x (vs.getD i undef)) →
    Calls P g vs w fun e w' => ∃ v, e = .returned v ∧ Sat C (fun i => U i ∨ (f ≤ i ∧ i < f + 7)) (s.upd dst u) (a.put dst v) w'
def mark {α : Sort _} (a : α) : α := a
theorem mark_eq {α : Sort _} (a : α) : mark a = a := Eq.trans (Eq.symm (Eq.refl a)) (Eq.refl a)
def callK (P : Program) (g : FuncId) (xs : List AV) (f : Nat) (V : PS) (dst : Option Nat) (K : Upd → Prop) : Prop := ∃ u, CallsA P g xs f V dst u ∧ K u
@[congr] theorem callK_congr {P : Program} {g : FuncId} {xs xs' : List AV} {f : Nat} {V : PS} {dst : Option Nat} {K : Upd → Prop} (h : mark xs = xs') : callK P g xs f V dst K = callK P g xs' f V dst K := by rw [← h, mark_eq]
def enters (P : Program) (f : FuncId) : Bool := match P.funcs[f]? with
  | some fn => fn.body.isSome && !(fn.name == "runtime.NumGoroutine")
  | none => false
def evals (V : PS) : List Operand → Option (List AV)
  | [] => some []
  | x :: r => match V.eval x, evals V r with
    | some v, some vs => some (v :: vs)
    | _, _ => none
def evalOpt (V : PS) : Option Operand → Option (Option Int)
  | none => some none
  | some x => match V.eval x with | some (.p (.lit (.int _ n))) => some (some n) | _ => none
def evalParts (V : PS) : List (Nat × Operand) → Option (List (Nat × List AV))
  | [] => some []
  | (i, x) :: r => match V.eval x, evalParts V r with
    | some v, some vs => match v.cells with
      | some cs => some ((i, cs) :: vs)
      | none => none
    | _, _ => none
def evalRow (V : PS) (sz : Nat) : Nat → List (Nat × Operand) → Option (List (List PV))
  | _, [] => some []
  | k, (i, x) :: r => if i = k then match V.eval x, evalRow V sz (k + 1) r with
      | some v, some es => match v.cells with
        | some cs => match pures cs with
          | some ps => if ps.length = sz then some (ps :: es) else none
          | none => none
        | none => none
      | _, _ => none
    else none
def clipOf (c : Bool) (n : Nat) (h m : Option Int) : Bool :=
  match m with
  | some m => decide (h = some m)
  | none => match h with
    | none => c
    | some h => c && decide (h = n)
def aAppend (P : Program) (H : List Nat) (f : Nat) (V : PS) (dst : Option Nat) (t : TypeId) (s x : Operand) (K : Upd → Prop) : Prop :=
  ∃ e, tEl P t = some e ∧ ∃ by', tBytes P e = some by' ∧ ∃ g zs, tVar P e = some (g, zs) ∧ 0 < zs.length ∧ ∃ v, V.eval s = some v ∧ ∃ v2, V.eval x = some v2 ∧ ∃ es2, srcR V v2 es2 ∧ (∀ y, y ∈ es2 → y.length = zs.length) ∧
    match v with
    | .p (.seq true es1) => (∀ y, y ∈ es1 → y.length = zs.length) ∧ (es1.length + es2.length) * by' ≤ 140737488355328 ∧ es1.length + es2.length ≤ maxLen ∧
        if dst.any (H.contains ·) = true then (es1 = [] ∨ es2 ≠ []) ∧ K ⟨.own f, [(f, some (.row zs.length (lift (es1 ++ es2))))]⟩ else K ⟨.p (.seq es2.isEmpty (es1 ++ es2)), []⟩
    | .own id => ∃ es1, V.hp id = some (.row zs.length (lift es1)) ∧ (es1.length + es2.length) * by' ≤ 140737488355328 ∧ es1.length + es2.length ≤ maxLen ∧ id ≠ f ∧
        if dst.any (H.contains ·) = true then K ⟨.own f, [(f, some (.row zs.length (lift (es1 ++ es2)))), (id, none)]⟩ else dst.isSome = true ∧ K ⟨.p (.seq false (es1 ++ es2)), [(f, none), (id, none)]⟩
    | _ => False
def tAny (P : Program) (t : TypeId) : Bool := match P.underlying t with
  | some (.interface ms) => ms.isEmpty
  | _ => false
def tConc (P : Program) (t : TypeId) : Bool := match P.underlying t with
  | some (.interface _) => false
  | some _ => true
  | none => false
def tB2S (P : Program) (src d : TypeId) : Bool := match P.underlying src, P.underlying d with
  | some (.slice e), some .string => match P.underlying e with | some (.int .u8) => true | _ => false
  | _, _ => false
def byteOf : List PV → Option Int
  | [.lit (.int .u8 n)] => some n
  | _ => none
def strI (ns : List Int) : ByteArray := ns.foldl (fun r n => r.push (UInt8.ofNat n.toNat)) ByteArray.empty
def strOf (es : List (List PV)) : Option ByteArray := (es.mapM byteOf).map strI
def litV : PV → Option Value
  | .lit v => some v
  | _ => none
def litOf : PV → Option Value
  | .lit v => some v
  | .agg cs => (cs.mapM litV).map fun vs => .agg vs.toArray
  | _ => none
def cvK (P : Program) (src d : TypeId) (K : Upd → Prop) : Option AV → Prop
  | some (.p (.lit (.int _ n))) => (P.underlying src).isSome = true ∧ ∃ k', tInt P d = some k' ∧ K ⟨.p (.lit (.int k' (k'.wrap n))), []⟩
  | some (.p (.seq _ es)) => tB2S P src d = true ∧ ∃ s, strOf es = some s ∧ K ⟨.p (.lit (.string s)), []⟩
  | _ => False
def binT (P : Program) (op : BinOp) (T : TypeId) (u v r : Value) : Prop :=
  match op, u, v with
  | .eql, .bool a, .bool b => P.underlying T = some .bool ∧ r = .bool (a == b)
  | .neq, .bool a, .bool b => P.underlying T = some .bool ∧ r = .bool (a != b)
  | .eql, .string a, .string b => r = .bool (a.toList == b.toList)
  | .eql, .nilIface, .nilIface => tAny P T = true ∧ r = .bool true
  | .neq, .nilIface, .nilIface => tAny P T = true ∧ r = .bool false
  | .eql, .iface _ _, .nilIface => tAny P T = true ∧ r = .bool false
  | .neq, .iface _ _, .nilIface => tAny P T = true ∧ r = .bool true
  | _, _, _ => False
def flatKinds (P : Program) : Nat → List Field → Option (List (Option IntKind))
  | _, [] => some []
  | i, f :: fs => if f.offset = i ∧ (f.name != "_") = true then match P.underlying f.type, P.info? f.type, flatKinds P (i + 1) fs with
      | some (.int k), some d, some r => if d.size = 1 then some (some k :: r) else none
      | some .bool, some d, some r => if d.size = 1 then some (none :: r) else none
      | _, _, _ => none
    else none
def tFlat (P : Program) (t : TypeId) : Option (List (Option IntKind)) :=
  match P.underlying t with
  | some (.struct fs) => if P.stoodInHeld t = false ∧ P.eqGuardType P.depth t = false then flatKinds P 0 fs.toList else none
  | _ => none
def flatEq : List (Option IntKind) → List PV → List PV → Option Bool
  | [], [], [] => some true
  | some k :: ks, .lit (.int k1 a) :: xs, .lit (.int k2 b) :: ys => if k1 = k ∧ k2 = k then (flatEq ks xs ys).map fun r => (a == b) && r else none
  | none :: ks, .lit (.bool a) :: xs, .lit (.bool b) :: ys => (flatEq ks xs ys).map fun r => (a == b) && r
  | _, _, _ => none
def eqR (op : BinOp) (b : Bool) : Option Value := match op with
  | .eql => some (.bool b)
  | .neq => some (.bool (!b))
  | _ => none
def binA (P : Program) (op : BinOp) (T : TypeId) (x y : AV) (r : Value) : Prop :=
  match x, y with
  | .p (.lit u), .p (.lit v) => binR op u v r ∨ binT P op T u v r
  | .p (.agg xs), .p (.agg ys) => ∃ ks, tFlat P T = some ks ∧ ∃ b, flatEq ks xs ys = some b ∧ eqR op b = some r
  | _, _ => False
def tMap (P : Program) (T : TypeId) : Option (Nat × TypeId) :=
  match P.underlying T with
  | some (.map k e) => match P.underlying k with
    | some (.int .i64) => some (1, e)
    | _ => none
  | _ => none
def litInt : PV → Option Int
  | .lit (.int .i64 n) => some n
  | _ => none
def keyQ : AV → Option (List Int)
  | .p (.lit (.int .i64 n)) => some [n]
  | .p (.agg (x :: y :: r)) => (x :: y :: r).mapM litInt
  | _ => none
def tZero (P : Program) (t : TypeId) : Option PV := match (P.info? t).bind (·.zero) with
  | some z => match constAV z with
    | .p x => some x
    | _ => none
  | none => none
def setM (m : List Int → Option PV) (q : List Int) (x : PV) : List Int → Option PV := fun p => if p = q then some x else m p
def lookR (ok : Bool) (o : Option PV) (z : PV) : PV := if ok = true then .tup [o.getD z, .lit (.bool o.isSome)] else o.getD z
def clr (es : List (List AV)) (lo n : Nat) (zs : List PV) : List (List AV) := es.take lo ++ (List.replicate n (zs.map .p) ++ es.drop (lo + n))
def aAppZ (P : Program) (H : List Nat) (f : Nat) (V : PS) (dst : Option Nat) (t tn : TypeId) (s x : Operand) (K : Upd → Prop) : Prop :=
  ∃ e, tEl P t = some e ∧ ∃ kn, tInt P tn = some kn ∧ ∃ by', tBytes P e = some by' ∧ ∃ g zs, tVar P e = some (g, zs) ∧ 0 < zs.length ∧ V.eval s = some (.p (.seq true [])) ∧ ∃ kq n, V.eval x = some (.p (.lit (.int kq n))) ∧
    0 < n ∧ n * by' ≤ 140737488355328 ∧ n ≤ maxLen ∧ dst.any (H.contains ·) = true ∧ K ⟨.own f, [(f, some (.row zs.length (lift (List.replicate n.toNat zs))))]⟩
def aop (P : Program) (H : List Nat) (f : Nat) (V : PS) (dst : Option Nat) (o : Op) (K : Upd → Prop) : Prop :=
  match o with
  | .move x | .assign x => ∃ v, V.eval x = some v ∧ K ⟨v, []⟩
  | .pick c a b => ∃ t, V.eval c = some (.p (.lit (.bool t))) ∧ ∃ v, V.eval (if t = true then a else b) = some v ∧ K ⟨v, []⟩
  | .alloc T => ∃ g zs, tVar P T = some (g, zs) ∧ K ⟨.ptr f zs.length 0 0, [(f, some (.row zs.length [zs.map .p]))]⟩
  | .box _ x => ∃ v, V.eval x = some v ∧ ∃ cs, v.cells = some cs ∧ K ⟨.ptr f cs.length 0 0, [(f, some (.row cs.length [cs]))]⟩
  | .build T parts => ∃ zs, tVar P T = some (true, zs) ∧ tBuilt P T = true ∧ ∃ vs, evalParts V parts.toList = some vs ∧ ∃ cs, afill (tPlace P T) (zs.map .p) vs = some cs ∧ K ⟨aggOf cs, []⟩
  | .buildSlice T n parts => ∃ e, tEl P T = some e ∧ ∃ g zs, tVar P e = some (g, zs) ∧ 0 < zs.length ∧ n * zs.length ≤ 2 ^ 24 ∧ parts.toList.length = n ∧
      ∃ es, evalRow V zs.length 0 parts.toList = some es ∧ K ⟨.p (.seq true es), []⟩
  | .load T x => ∃ v, V.eval x = some v ∧ ∃ g n, tSz P T = some (g, n) ∧ ∃ r, loadR V v g n r ∧ K ⟨r, []⟩
  | .store T x y => ∃ id sz k off, V.eval x = some (.ptr id sz k off) ∧ ∃ v, V.eval y = some v ∧ ∃ vs, v.cells = some vs ∧ ∃ g, tSz P T = some (g, vs.length) ∧
      ∃ es, V.hp id = some (.row sz es) ∧ ∃ cs, es[k]? = some cs ∧ off + vs.length ≤ cs.length ∧ K ⟨.p (.lit undef), [(id, some (.row sz (es.set k (splice cs off vs))))]⟩
  | .nilCheck x => ∃ v, V.eval x = some v ∧ isPtr v = true ∧ K ⟨v, []⟩
  | .binOp op T x y _ => ∃ u, V.eval x = some u ∧ ∃ v, V.eval y = some v ∧ ∃ r, binA P op T u v r ∧ K ⟨.p (.lit r), []⟩
  | .unOp op _ x => match op with
    | .not => ∃ b, V.eval x = some (.p (.lit (.bool b))) ∧ K ⟨.p (.lit (.bool (!b))), []⟩
    | .neg => ∃ k n, V.eval x = some (.p (.lit (.int k n))) ∧ K ⟨.p (.lit (.int k (k.wrap (0 - n)))), []⟩
    | _ => False
  | .convert src d x => cvK P src d K (V.eval x)
  | .makeInterface T x => tConc P T = true ∧ ∃ p, V.eval x = some (.p p) ∧ ∃ u, litOf p = some u ∧ K ⟨.p (.lit (.iface T u)), []⟩
  | .typeAssert x xT T ok => ok = true ∧ tConc P T = true ∧ ∃ t u, V.eval x = some (.p (.lit (.iface t u))) ∧ t = T ∧ K ⟨.tup [constAV u, .p (.lit (.bool true))], []⟩
  | .slice T x lo hi mx => ∃ e, tEl P T = some e ∧ ∃ g sz, tSz P e = some (g, sz) ∧ ∃ v, V.eval x = some v ∧ ∃ a, evalOpt V lo = some a ∧ ∃ b, evalOpt V hi = some b ∧ ∃ d, evalOpt V mx = some d ∧ (d.isSome = true → b.isSome = true) ∧
      0 ≤ a.getD 0 ∧ (match v with
        | .p (.seq c es) => (∀ y, y ∈ es → y.length = sz) ∧ a.getD 0 ≤ b.getD es.length ∧ b.getD es.length ≤ d.getD es.length ∧ d.getD es.length ≤ es.length ∧
            K ⟨.p (.seq (clipOf c es.length b d) ((es.take (b.getD es.length).toNat).drop (a.getD 0).toNat)), []⟩
        | .own id => ∃ es, V.hp id = some (.row sz es) ∧ d = none ∧ a.getD 0 ≤ b.getD es.length ∧ b.getD es.length ≤ es.length ∧
            if dst.any (H.contains ·) = true then a.getD 0 = 0 ∧ id ≠ f ∧ K ⟨.own f, [(f, some (.row sz (es.take (b.getD es.length).toNat))), (id, none)]⟩
            else K ⟨.sub id sz (a.getD 0).toNat ((b.getD es.length).toNat - (a.getD 0).toNat), []⟩
        | _ => False)
  | .fieldAddr T x fd => ∃ off sz g, tFld P T fd = some (off, sz, g) ∧ ∃ v, V.eval x = some v ∧ ∃ r, offs v off = some r ∧ K ⟨r, []⟩
  | .indexAddr T x i => ∃ n, evalInt V i = some n ∧ 0 ≤ n ∧ ∃ v, V.eval x = some v ∧ (match tEl P T with
      | some e => ∃ g sz, tSz P e = some (g, sz) ∧ ∃ r, idxR V sz n.toNat v r ∧ K ⟨r, []⟩
      | none => ∃ len sz g, tArr P T = some (len, sz, g) ∧ n < len ∧ ∃ r, offs v (n.toNat * sz) = some r ∧ K ⟨r, []⟩)
  | .field T x fd => ∃ off sz g, tFld P T fd = some (off, sz, g) ∧ ∃ v, V.eval x = some v ∧ ∃ cs, aggCells v = some cs ∧ ∃ r, (if g = true then off + sz ≤ cs.length ∧ r = aggOf ((cs.drop off).take sz) else cs[off]? = some r) ∧ K ⟨r, []⟩
  | .index T x i => ∃ n, evalInt V i = some n ∧ 0 ≤ n ∧ ∃ len sz g, tArr P T = some (len, sz, g) ∧ n < len ∧ ∃ v, V.eval x = some v ∧ ∃ cs, aggCells v = some cs ∧
      ∃ r, (if g = true then n.toNat * sz + sz ≤ cs.length ∧ r = aggOf ((cs.drop (n.toNat * sz)).take sz) else cs[n.toNat * sz]? = some r) ∧ K ⟨r, []⟩
  | .extract x i => ∃ v, V.eval x = some v ∧ ∃ vs, tupCells v = some vs ∧ ∃ r, vs[i]? = some r ∧ K ⟨r, []⟩
  | .makeFunc (.func g) first caps => first.size = 0 ∧ ∃ cs, evals V caps.toList = some cs ∧ K ⟨.fn g cs, []⟩
  | .makeSlice T n c => ∃ e, tEl P T = some e ∧ ∃ by', tBytes P e = some by' ∧ ∃ g zs, tVar P e = some (g, zs) ∧ 0 < zs.length ∧ ∃ a, evalInt V n = some a ∧ ∃ b, evalInt V c = some b ∧
      0 ≤ a ∧ a ≤ b ∧ b * by' ≤ 140737488355328 ∧ b ≤ maxLen ∧ K ⟨.own f, [(f, some (.row zs.length (lift (List.replicate a.toNat zs))))]⟩
  | .makeMap T none => ∃ len e, tMap P T = some (len, e) ∧ K ⟨.mp f, [(f, some (.map len fun _ => none))]⟩
  | .lookup T x y ok => ∃ len e, tMap P T = some (len, e) ∧ ∃ id, V.eval x = some (.mp id) ∧ ∃ m, V.hp id = some (.map len m) ∧ ∃ v, V.eval y = some v ∧ ∃ q, keyQ v = some q ∧ KeyOk len q ∧ ∃ z, tZero P e = some z ∧ K ⟨.p (lookR ok (m q) z), []⟩
  | .mapUpdate T x y z => dst = none ∧ ∃ len e, tMap P T = some (len, e) ∧ ∃ id, V.eval x = some (.mp id) ∧ ∃ m, V.hp id = some (.map len m) ∧ ∃ v, V.eval y = some v ∧ ∃ q, keyQ v = some q ∧ KeyOk len q ∧ ∃ x, V.eval z = some (.p x) ∧ K ⟨.p (.lit undef), [(id, some (.map len (setM m q x)))]⟩
  | .call ⟨.builtin .len, args, ts⟩ => ∃ x, args.toList = [x] ∧ ∃ t, ts.toList = [t] ∧ ∃ e, tEl P t = some e ∧ ∃ v, V.eval x = some v ∧ ∃ n, lenR V v n ∧ K ⟨.p (.lit (.int .i64 n)), []⟩
  | .call ⟨.builtin .min, args, _⟩ => ∃ vs, evalInts V args.toList = some vs ∧ ∃ k r, minR vs = some (k, r) ∧ K ⟨.p (.lit (.int k r)), []⟩
  | .call ⟨.builtin .max, args, _⟩ => ∃ vs, evalInts V args.toList = some vs ∧ ∃ k r, maxR vs = some (k, r) ∧ K ⟨.p (.lit (.int k r)), []⟩
  | .call ⟨.builtin .append, args, ts⟩ => ∃ s x, args.toList = [s, x] ∧ ∃ t u, ts.toList = [t, u] ∧ (if t = u then aAppend P H f V dst t s x K else aAppZ P H f V dst t u s x K)
  | .call ⟨.builtin .clear, args, ts⟩ => ∃ x, args.toList = [x] ∧ ∃ t, ts.toList = [t] ∧ ∃ e, tEl P t = some e ∧ ∃ g zs, tVar P e = some (g, zs) ∧ ∃ id lo n, V.eval x = some (.sub id zs.length lo n) ∧ ∃ es, V.hp id = some (.row zs.length es) ∧ lo + n ≤ es.length ∧
      K ⟨.p (.tup []), [(id, some (.row zs.length (clr es lo n zs)))]⟩
  | .call ⟨.builtin .cap, args, ts⟩ => ∃ x, args.toList = [x] ∧ ∃ t, ts.toList = [t] ∧ ∃ e, tEl P t = some e ∧ ∃ es, V.eval x = some (.p (.seq true es)) ∧ K ⟨.p (.lit (.int .i64 es.length)), []⟩
  | .call ⟨.value g, args, _⟩ => ∃ v, V.eval g = some v ∧ ∃ h caps, v = .fn h caps ∧ enters P h = true ∧ ∃ xs, evals V args.toList = some xs ∧ callK P h (xs ++ caps) f V dst K
  | _ => False
where
  aggCells : AV → Option (List AV)
    | .p (.agg cs) => some (cs.map .p)
    | .agg cs => some cs
    | _ => none
  tupCells : AV → Option (List AV)
    | .p (.tup cs) => some (cs.map .p)
    | .tup cs => some cs
    | _ => none
  evalInts (V : PS) : List Operand → Option (List (IntKind × Int))
    | [] => some []
    | x :: r => match V.eval x, evalInts V r with
      | some (.p (.lit (.int k n))), some vs => some ((k, n) :: vs)
      | _, _ => none
  minR : List (IntKind × Int) → Option (IntKind × Int)
    | [] => none
    | (k, n) :: r => some (k, r.foldl (fun x y => if y.2 < x then y.2 else x) n)
  maxR : List (IntKind × Int) → Option (IntKind × Int)
    | [] => none
    | (k, n) :: r => some (k, r.foldl (fun x y => if y.2 > x then y.2 else x) n)
end Go.Am
namespace Go.Am
open Go.RowKit
section
variable {P : Program} {H : List Nat} {f : Nat} {V : PS} {K : Upd → Prop}
theorem mk_pure {o : Oper} {x : AV} (hK : K ⟨x, []⟩) (h : ∀ (O : Nat → Prop) (ρ : Nat → Option Value) (_ : PS) (a : Act) (w : World), (∀ y, y ∈ o.op.operands → ∀ v, V.eval y = some v → RepA O ρ w v (a.eval y)) →
      (∀ id k, V.hp id = some k → ∃ v, ρ id = some v ∧ BlkRep O ρ w v k) → ∃ v, (execOp a.eval o).run P w = .ok (.value v) w ∧ RepA O ρ w x v) : ∃ u, K u ∧ StepA P o f V u :=
  ⟨_, hK, stepA_pure fun O ρ s a w hV hE hH => h O ρ s a w (fun y hy v hv => hE y v (hV y hy v hv)) hH⟩
theorem evalInt_rep {O : Nat → Prop} {ρ : Nat → Option Value} {w : World} {a : Act} {xs : Array Operand} (hE : ∀ y, y ∈ xs → ∀ v, V.eval y = some v → RepA O ρ w v (a.eval y)) {x : Operand} (hx : x ∈ xs) {n : Int}
    (h : evalInt V x = some n) : ∃ k, a.eval x = .int k n := by
  obtain ⟨k, hk⟩ := evalInt_some h
  exact ⟨k, (hE x hx _ hk).lit⟩
theorem offs_rep {O : Nat → Prop} {ρ : Nat → Option Value} {w : World} {v r : AV} {d : Nat} (h : offs v d = some r) {u : Value} (hu : RepA O ρ w v u) :
    ∃ b o, u = .pointer (some ⟨b, o, none⟩) ∧ RepA O ρ w r (.pointer (some ⟨b, o + d, none⟩)) := by
  unfold offs at h
  split at h
  · simp only [Option.some.injEq] at h; subst h
    cases hu with
    | ptr id sz k off b v hi hv => exact ⟨b, _, rfl, by rw [Nat.add_assoc]; exact .ptr _ _ _ _ b v hi hv⟩
  · simp only [Option.some.injEq] at h; subst h
    cases hu with
    | pp cs off b o f h4 h5 => exact ⟨b, _, rfl, by rw [Nat.add_assoc]; exact .pp _ _ b o f h4 h5⟩
  · cases h
theorem repA_cells {O : Nat → Prop} {ρ : Nat → Option Value} {w : World} {v : AV} {cs : List AV} (h : aop.aggCells v = some cs) {u : Value} (hu : RepA O ρ w v u) :
    ∃ vs, u = .agg vs ∧ RepCells O ρ w cs vs := by
  unfold aop.aggCells at h
  split at h
  · simp only [Option.some.injEq] at h; subst h
    have := AV.cells_rep (x := .p (.agg _)) rfl hu
    cases hu with
    | p _ _ hx => cases hx with | agg _ vs h1 h2 h3 => exact ⟨vs, rfl, this⟩
  · simp only [Option.some.injEq] at h; subst h
    have := AV.cells_rep (x := .agg _) rfl hu
    cases hu with
    | agg _ vs h1 h2 h3 => exact ⟨vs, rfl, this⟩
  · cases h
theorem part_rep {O : Nat → Prop} {ρ : Nat → Option Value} {w : World} {t : TypeId} {g : Bool} {sz off : Nat} {cs : List AV} {vs : Array Value} {r : AV} (hc : RepCells O ρ w cs vs)
    (hu : ∃ i d, P.info? t = some i ∧ P.underlying t = some d ∧ i.size = sz ∧ aggDesc (some d) = g)
    (h : if g = true then off + sz ≤ cs.length ∧ r = aggOf ((cs.drop off).take sz) else cs[off]? = some r) : ∃ x, (part t vs off).run P w = .ok x w ∧ RepA O ρ w r x := by
  obtain ⟨i, d, hi, hd, rfl, rfl⟩ := hu
  have ht : tSz P t = some (aggDesc (some d), i.size) := by simp [tSz, hi, hd]
  simp only [part, Sem.run_bind, run_isAgg ht, Result.andThen_ok]
  cases hg : aggDesc (some d) with
  | true =>
    rw [hg] at h ht
    simp only [if_true] at h ⊢
    obtain ⟨hle, rfl⟩ := h
    simp only [Sem.run_bind, run_sizeOf ht, Result.andThen_ok, Sem.run_pure]
    refine ⟨_, rfl, repA_aggOf ?_ (fun j x hx => ?_) (fun j hj => ?_)⟩
    · have := hc.1; simp; omega
    · rw [List.getElem?_take] at hx
      split at hx
      · rename_i hj
        rw [List.getElem?_drop] at hx
        have := hc.2.1 _ _ hx
        have hlt := (List.getElem?_eq_some_iff.1 hx).1
        have e : (vs.extract off (off + i.size)).getD j undef = vs.getD (off + j) undef := by
          rw [Array.getD_eq_getD_getElem?, Array.getD_eq_getD_getElem?, Array.getElem?_extract, if_pos (by have := hc.1; omega)]
        rw [e]; exact this
      · cases hx
    · have hj' : j < i.size := by simp at hj; omega
      have e : (vs.extract off (off + i.size)).getD j undef = vs.getD (off + j) undef := by
        rw [Array.getD_eq_getD_getElem?, Array.getD_eq_getD_getElem?, Array.getElem?_extract, if_pos (by have := hc.1; omega)]
      rw [e]; exact hc.2.2 _ (by omega)
  | false =>
    rw [hg] at h
    simp only [Bool.false_eq_true, if_false] at h ⊢
    have hlt := (List.getElem?_eq_some_iff.1 h).1
    have hs := hc.1
    have := hc.2.1 _ _ h
    have e : vs[off]? = some (vs.getD off undef) := by rw [Array.getD_eq_getD_getElem?]; simp [show off < vs.size by omega]
    rw [e]
    exact ⟨_, rfl, this⟩
theorem fld_run {t fd off sz : Nat} {g : Bool} (h : tFld P t fd = some (off, sz, g)) : ∃ fs fdd i d, P.underlying t = some (.struct fs) ∧ fs[fd]? = some fdd ∧ fdd.offset = off ∧ P.info? fdd.type = some i ∧ P.underlying fdd.type = some d ∧
    i.size = sz ∧ aggDesc (some d) = g ∧ i.size ≠ 0 := by
  unfold tFld at h
  split at h
  · rename_i fs hu
    split at h
    · rename_i fdd hf
      split at h
      · rename_i i d hi hd
        split at h
        · cases h
        · rename_i h0
          simp only [Option.some.injEq, Prod.mk.injEq] at h
          exact ⟨fs, fdd, i, d, hu, hf, h.1, hi, hd, h.2.1, h.2.2, h0⟩
      · cases h
    · cases h
  · cases h
theorem el_run {t e : Nat} (h : tEl P t = some e) : P.underlying t = some (.slice e) := by
  unfold tEl at h
  split at h
  · rename_i e' hu; simp only [Option.some.injEq] at h; subst h; exact hu
  · cases h
theorem arr_run {t n sz : Nat} {g : Bool} (h : tArr P t = some (n, sz, g)) : ∃ e i d, P.underlying t = some (.array n e) ∧ P.info? e = some i ∧ P.underlying e = some d ∧ i.size = sz ∧ aggDesc (some d) = g := by
  unfold tArr at h
  split at h
  · rename_i n' e hu
    split at h
    · rename_i i d hi hd
      simp only [Option.some.injEq, Prod.mk.injEq] at h
      obtain ⟨rfl, rfl, rfl⟩ := h
      exact ⟨e, i, d, hu, hi, hd, rfl, rfl⟩
    · cases h
  · cases h
theorem int_run {t : Nat} {k : IntKind} (h : tInt P t = some k) : P.underlying t = some (.int k) := by
  unfold tInt at h
  split at h
  · rename_i e' hu; simp only [Option.some.injEq] at h; subst h; exact hu
  · cases h
theorem snd_move {o : Oper} {x : Operand} (ho : o.op = .move x ∨ o.op = .assign x) {v : AV} (hv : V.eval x = some v) (hK : K ⟨v, []⟩) : ∃ u, K u ∧ StepA P o f V u :=
  mk_pure hK fun O ρ s a w hE _ => by
    rcases ho with ho | ho <;> exact ⟨a.eval x, by simp [execOp, ho], hE x (by simp [ho, Op.operands]) v hv⟩
theorem snd_pick {o : Oper} {c x y : Operand} (ho : o.op = .pick c x y) {t : Bool} {v : AV} (hc : V.eval c = some (.p (.lit (.bool t)))) (hv : V.eval (if t = true then x else y) = some v) (hK : K ⟨v, []⟩) :
    ∃ u, K u ∧ StepA P o f V u :=
  mk_pure hK fun O ρ s a w hE _ => by
    have h1 := (hE c (by simp [ho, Op.operands]) _ hc).lit
    refine ⟨a.eval (if t = true then x else y), ?_, hE _ (by cases t <;> simp [ho, Op.operands]) v hv⟩
    cases t <;> simp [execOp, ho, h1, asBool]
theorem snd_extract {o : Oper} {x : Operand} {i : Nat} (ho : o.op = .extract x i) {v r : AV} {vs : List AV} (hv : V.eval x = some v) (ht : aop.tupCells v = some vs) (hr : vs[i]? = some r) (hK : K ⟨r, []⟩) :
    ∃ u, K u ∧ StepA P o f V u :=
  mk_pure hK fun O ρ s a w hE _ => by
    have hu := hE x (by simp [ho, Op.operands]) v hv
    have key : ∃ us, a.eval x = .tuple us ∧ us.size = vs.length ∧ ∀ i y, vs[i]? = some y → RepA O ρ w y (us.getD i undef) := by
      unfold aop.tupCells at ht
      split at ht
      · simp only [Option.some.injEq] at ht; subst ht
        generalize a.eval x = z at hu
        cases hu with
        | p _ _ hx => cases hx with
          | tup cs us h1 h2 =>
            refine ⟨us, rfl, by simpa using h1, fun i y hy => ?_⟩
            rw [List.getElem?_map] at hy
            obtain ⟨q, hq, rfl⟩ := Option.map_eq_some_iff.1 hy
            exact .p _ _ (h2 i q hq)
      · simp only [Option.some.injEq] at ht; subst ht
        generalize a.eval x = z at hu
        cases hu with | tup cs us h1 h2 => exact ⟨us, rfl, h1, h2⟩
      · cases ht
    obtain ⟨us, he, hs, hall⟩ := key
    have hlt := (List.getElem?_eq_some_iff.1 hr).1
    obtain ⟨q, hq⟩ : ∃ q, us[i]? = some q := ⟨us[i], by simp [show i < us.size by omega]⟩
    have hq2 := hall i r hr
    rw [Array.getD_eq_getD_getElem?, hq] at hq2
    exact ⟨q, by simp [execOp, ho, Instr.extract, he, hq], hq2⟩
theorem snd_nilCheck {o : Oper} {x : Operand} (ho : o.op = .nilCheck x) {v : AV} (hv : V.eval x = some v) (hp : isPtr v = true) (hK : K ⟨v, []⟩) : ∃ u, K u ∧ StepA P o f V u :=
  mk_pure hK fun O ρ s a w hE _ => by
    have hu := hE x (by simp [ho, Op.operands]) v hv
    refine ⟨a.eval x, ?_, hu⟩
    have key : (∃ ad, a.eval x = .pointer (some ad)) ∨ ∃ g c, a.eval x = .func (.func g) #[] c := by
      generalize a.eval x = z at hu
      cases hu with
      | ptr _ _ _ _ b v hi hv => exact .inl ⟨_, rfl⟩
      | pp _ _ b o f h4 h5 => exact .inl ⟨_, rfl⟩
      | fn g cs vs h1 h2 => exact .inr ⟨_, _, rfl⟩
      | p => cases hp
      | own => cases hp
      | sub => cases hp
      | sub0 => cases hp
      | agg => cases hp
      | tup => cases hp
      | mp => cases hp
    rcases key with ⟨ad, h⟩ | ⟨g, c, h⟩ <;> simp [execOp, ho, h]
theorem tAny_iff {t : TypeId} (h : tAny P t = true) : ∃ ms, P.underlying t = some (.interface ms) ∧ ms.isEmpty = true := by
  unfold tAny at h
  split at h
  · rename_i ms hm; exact ⟨ms, hm, h⟩
  · cases h
theorem nil_guard {op : BinOp} {T : TypeId} (h : tAny P T = true) (x y : Operand) (w : World) : (eqGuard op T x y .nilIface .nilIface).run P w = .ok () w := by
  obtain ⟨ms, hm, he⟩ := tAny_iff h
  have hg : (Op.eqGuardIn Op.maxDepth T .nilIface .nilIface).run P w = .ok false w := by
    have h : ∀ d : Nat, (Op.eqGuardIn (d + 1) T .nilIface .nilIface).run P w = .ok false w := fun d => by simp [Op.eqGuardIn, run_underlying hm]; simpa using he
    exact h 9999
  unfold eqGuard
  cases op <;> try rfl
  all_goals
    cases x <;> cases y <;> first | rfl | simp [hg]
theorem nil_eq {T : TypeId} (h : tAny P T = true) (w : World) : (Op.equal T .nilIface .nilIface).run P w = .ok true w ∧ ∀ t v, (Op.equal T (.iface t v) .nilIface).run P w = .ok false w := by
  obtain ⟨ms, hm, he⟩ := tAny_iff h
  have e1 : ∀ d : Nat, (Op.equalIn (d + 1) T .nilIface .nilIface).run P w = .ok true w := fun d => by simp [Op.equalIn, run_underlying hm]
  have e2 : ∀ (d : Nat) t v, (Op.equalIn (d + 1) T (.iface t v) .nilIface).run P w = .ok false w := fun d t v => by simp [Op.equalIn, run_underlying hm]
  exact ⟨e1 9999, e2 9999⟩
theorem binT_run {op : BinOp} {T : TypeId} {u v r : Value} (h : binT P op T u v r) (x y : Operand) (w : World) :
    (do eqGuard op T x y u v; binOp op T u v : Sem Value).run P w = .ok r w := by
  unfold binT at h
  split at h
  · obtain ⟨h, rfl⟩ := h
    rename_i a b
    have := run_equalIn_bool' w 9999 T a b h
    simp only [eqGuard_at_bool, pure_bind, binOp, Op.equal, Op.maxDepth, Sem.run_bind, this, Result.andThen_ok, Sem.run_pure]
  · obtain ⟨h, rfl⟩ := h
    rename_i a b
    have := run_equalIn_bool' w 9999 T a b h
    simp only [eqGuard_at_bool, pure_bind, binOp, Op.equal, Op.maxDepth, Sem.run_bind, this, Result.andThen_ok, Sem.run_pure]
    rfl
  · subst h
    simp only [eqGuard_at_string, pure_bind, binOp, Op.stringOp, Sem.run_pure]
  · obtain ⟨h, rfl⟩ := h
    have e := (nil_eq h w).1
    rw [Sem.run_bind, nil_guard h, Result.andThen_ok]
    simp only [binOp, Sem.run_bind, e, Result.andThen_ok, Sem.run_pure]
  · obtain ⟨h, rfl⟩ := h
    have e := (nil_eq h w).1
    rw [Sem.run_bind, nil_guard h, Result.andThen_ok]
    simp only [binOp, Sem.run_bind, e, Result.andThen_ok, Sem.run_pure]
    rfl
  · obtain ⟨h, rfl⟩ := h
    rename_i t v
    have e := (nil_eq h w).2 t v
    simp only [eqGuard_at_iface, pure_bind, binOp, Sem.run_bind, e, Result.andThen_ok, Sem.run_pure]
  · obtain ⟨h, rfl⟩ := h
    rename_i t v
    have e := (nil_eq h w).2 t v
    simp only [eqGuard_at_iface, pure_bind, binOp, Sem.run_bind, e, Result.andThen_ok, Sem.run_pure]
    rfl
  · exact h.elim
theorem flatKinds_run {P : Program} : ∀ (fs : List Field) (i : Nat) (ks : List (Option IntKind)), flatKinds P i fs = some ks → ∀ (d : Nat) (xs ys : List PV) (us vs : Array Value) (b : Bool) (w : World), flatEq ks xs ys = some b →
    us.size = vs.size → us.size = i + xs.length → (∀ j v, xs[j]? = some (.lit v) → us.getD (i + j) undef = v) → (∀ j v, ys[j]? = some (.lit v) → vs.getD (i + j) undef = v) → (Op.eqFields (d + 1) us vs fs).run P w = .ok b w
  | [], i, ks, hk, d, xs, ys, us, vs, b, w, hb, _, _, _, _ => by
    simp only [flatKinds, Option.some.injEq] at hk; subst hk
    cases xs <;> cases ys <;> simp [flatEq] at hb
    subst hb; simp [Op.eqFields]
  | f :: fs, i, ks, hk, d, xs, ys, us, vs, b, w, hb, hsz, hlen, hx, hy => by
    simp only [flatKinds] at hk
    split at hk
    · rename_i hcond
      obtain ⟨hoff, hnm⟩ := hcond
      have step : ∀ (td : TypeDesc) (di : TypeInfo) (kd : Option IntKind) (r : List (Option IntKind)) (x y : Value) (xs' ys' : List PV) (e bb : Bool), P.underlying f.type = some td → (aggDesc (some td) = false) → P.info? f.type = some di → di.size = 1 → flatKinds P (i + 1) fs = some r →
          xs = .lit x :: xs' → ys = .lit y :: ys' → (∀ w, (Op.equalIn (d + 1) f.type x y).run P w = .ok e w) → flatEq r xs' ys' = some bb → b = (e && bb) → (Op.eqFields (d + 1) us vs (f :: fs)).run P w = .ok b w := by
        intro td di kd r x y xs' ys' e bb htd hag hdi hd1 hr hxs hys heq hbb hbe
        subst hxs hys hbe
        have h0 : i < us.size := by simp at hlen; omega
        have hi1 : us.getD i undef = x := by simpa using hx 0 x rfl
        have hi2 : vs.getD i undef = y := by simpa using hy 0 y rfl
        have ih := flatKinds_run fs (i + 1) r hr d xs' ys' us vs bb w hbb hsz (by simp at hlen; omega) (fun j v hj => by rw [show i + 1 + j = i + (j + 1) by omega]; exact hx (j + 1) v (by simpa using hj)) (fun j v hj => by rw [show i + 1 + j = i + (j + 1) by omega]; exact hy (j + 1) v (by simpa using hj))
        have hp : ∀ (cs : Array Value) (v : Value), i < cs.size → cs.getD i undef = v → (part f.type cs f.offset).run P w = .ok v w := by
          intro cs v hi hv
          have hg : cs[i]? = some v := by
            rw [Array.getD_eq_getD_getElem?] at hv
            rw [Array.getElem?_eq_getElem hi] at hv ⊢
            simpa using hv
          rw [hoff]
          unfold part
          cases td <;> simp [aggDesc] at hag <;> simp [Go.isAgg, run_underlying htd, hg, Sem.run_bind]
        simp only [Op.eqFields]
        rw [if_pos (by simpa using hnm)]
        simp only [Sem.run_bind, hp us x h0 hi1, hp vs y (by omega) hi2, Result.andThen_ok, heq]
        cases e
        · simp
        · simpa using ih
      split at hk
      · rename_i k di r htd hdi hr
        split at hk
        · rename_i hd1
          simp only [Option.some.injEq] at hk; subst hk
          cases xs with
          | nil => simp [flatEq] at hb
          | cons x xs =>
            cases ys with
            | nil => cases x <;> simp [flatEq] at hb
            | cons y ys =>
              unfold flatEq at hb
              split at hb
              · rename_i h; cases h
              · rename_i h1 h2 h3
                injection h1 with h1 h1'; injection h2 with h2 h2'; injection h3 with h3 h3'
                injection h1 with h1; subst h1 h1' h2 h2' h3 h3'
                split at hb
                · rename_i hkk
                  obtain ⟨rfl, rfl⟩ := hkk
                  obtain ⟨bb, hbb, hbe⟩ := Option.map_eq_some_iff.1 hb
                  exact step _ di none r _ _ _ _ _ bb htd rfl hdi hd1 hr rfl rfl (fun w => run_equalIn_int w d f.type _ _ _ _ htd) hbb hbe.symm
                · cases hb
              · rename_i h1 h2 h3; injection h1 with h1; cases h1
              · cases hb
        · cases hk
      · rename_i di r htd hdi hr
        split at hk
        · rename_i hd1
          simp only [Option.some.injEq] at hk; subst hk
          cases xs with
          | nil => simp [flatEq] at hb
          | cons x xs =>
            cases ys with
            | nil => cases x <;> simp [flatEq] at hb
            | cons y ys =>
              unfold flatEq at hb
              split at hb
              · rename_i h; cases h
              · rename_i h1 h2 h3; injection h1 with h1; cases h1
              · rename_i h1 h2 h3
                injection h1 with h1 h1'; injection h2 with h2 h2'; injection h3 with h3 h3'
                subst h1' h2 h2' h3 h3'
                obtain ⟨bb, hbb, hbe⟩ := Option.map_eq_some_iff.1 hb
                exact step _ di none r _ _ _ _ _ bb htd rfl hdi hd1 hr rfl rfl (fun w => run_equalIn_bool' w d f.type _ _ htd) hbb hbe.symm
              · cases hb
        · cases hk
      · cases hk
    · cases hk
theorem flatEq_len : ∀ (ks : List (Option IntKind)) (xs ys : List PV) (b : Bool), flatEq ks xs ys = some b → xs.length = ys.length ∧ (∀ x, x ∈ xs → ∃ v, x = .lit v) ∧ ∀ y, y ∈ ys → ∃ v, y = .lit v := by
  intro ks xs ys
  induction ks, xs, ys using flatEq.induct with
  | case1 => intro b _; simp
  | case2 k ks k1 a xs k2 b ys hk ih =>
    intro r h
    simp only [flatEq, hk, and_self, if_true] at h
    obtain ⟨r', hr, _⟩ := Option.map_eq_some_iff.1 h
    obtain ⟨i1, i2, i3⟩ := ih r' hr
    refine ⟨by simp [i1], fun x hx => ?_, fun y hy => ?_⟩
    · rcases List.mem_cons.1 hx with rfl | hx
      · exact ⟨_, rfl⟩
      · exact i2 x hx
    · rcases List.mem_cons.1 hy with rfl | hy
      · exact ⟨_, rfl⟩
      · exact i3 y hy
  | case3 k ks k1 a xs k2 b ys hk => intro r h; simp only [flatEq, hk, if_false] at h; cases h
  | case4 ks a xs b ys ih =>
    intro r h
    simp only [flatEq] at h
    obtain ⟨r', hr, _⟩ := Option.map_eq_some_iff.1 h
    obtain ⟨i1, i2, i3⟩ := ih r' hr
    refine ⟨by simp [i1], fun x hx => ?_, fun y hy => ?_⟩
    · rcases List.mem_cons.1 hx with rfl | hx
      · exact ⟨_, rfl⟩
      · exact i2 x hx
    · rcases List.mem_cons.1 hy with rfl | hy
      · exact ⟨_, rfl⟩
      · exact i3 y hy
  | case5 => intro r h; simp [flatEq] at h
theorem agg_lits {O : Nat → Prop} {w : World} {xs : List PV} {v : Value} (h : RepP O w (.agg xs) v) : ∃ us : Array Value, v = .agg us ∧ us.size = xs.length ∧ ∀ j u, xs[j]? = some (.lit u) → us.getD j undef = u := by
  cases h with
  | agg _ us h1 h2 _ =>
    refine ⟨us, rfl, h1, fun j u hj => ?_⟩
    have h3 := h2 j _ hj
    generalize us.getD j undef = q at h3
    cases h3; rfl
theorem binA_run {P : Program} {op : BinOp} {T : TypeId} {x y : AV} {r : Value} (h : binA P op T x y r) {O : Nat → Prop} {ρ : Nat → Option Value} {w : World} {u v : Value} (hu : RepA O ρ w x u) (hv : RepA O ρ w y v) (x0 y0 : Operand) :
    (do eqGuard op T x0 y0 u v; binOp op T u v : Sem Value).run P w = .ok r w := by
  unfold binA at h
  split at h
  · have h1 := hu.lit; have h2 := hv.lit; subst h1 h2
    exact h.elim (fun hr => binR_run (P := P) hr T x0 y0 w) (fun hr => binT_run hr x0 y0 w)
  · obtain ⟨ks, hks, b, hb, he⟩ := h
    obtain ⟨us, rfl, s1, g1⟩ := agg_lits hu.unP
    obtain ⟨vs, rfl, s2, g2⟩ := agg_lits hv.unP
    unfold tFlat at hks
    split at hks
    · rename_i fs hfs
      split at hks
      · rename_i hc
        obtain ⟨hst, hgt⟩ := hc
        have hfo : P.fieldsOf T = fs := by simp [Program.fieldsOf, hfs]
        have hl := (flatEq_len _ _ _ _ hb).1
        have hrun := flatKinds_run fs.toList 0 ks hks 9998 _ _ us vs b w hb (by omega) (by omega) (fun j v hj => by rw [Nat.zero_add]; exact g1 j v hj) (fun j v hj => by rw [Nat.zero_add]; exact g2 j v hj)
        have heq : (Op.equalIn 10000 T (.agg us) (.agg vs)).run P w = .ok b w := by
          rw [run_equalIn_struct w 9999 T us vs (by rw [hfo]; exact hfs) hst, hfo]; exact hrun
        have hgd := run_eqGuard_agg (P := P) w op T x0 y0 us vs hgt
        rw [Sem.run_bind, hgd, Result.andThen_ok]
        cases op <;> simp [eqR] at he <;> subst he
        · rw [run_eql_struct, heq]; rfl
        · simp [binOp, Op.equal, Op.maxDepth, heq]
      · cases hks
    · cases hks
  · exact h.elim
theorem snd_binOp {o : Oper} {op : BinOp} {T T' : TypeId} {x y : Operand} (ho : o.op = .binOp op T x y T') {u v : AV} {r : Value} (hx : V.eval x = some u) (hy : V.eval y = some v) (hr : binA P op T u v r)
    (hK : K ⟨.p (.lit r), []⟩) : ∃ u, K u ∧ StepA P o f V u :=
  mk_pure hK fun O ρ s a w hE _ => by
    have h1 := hE x (by simp [ho, Op.operands]) _ hx
    have h2 := hE y (by simp [ho, Op.operands]) _ hy
    refine ⟨r, ?_, .p _ _ (.lit r)⟩
    have := binA_run (P := P) hr h1 h2 x y
    simp only [execOp, ho, Sem.run_bind] at this ⊢
    simp only [this, Result.andThen_ok, Sem.run_pure]
theorem snd_convert {o : Oper} {src d : TypeId} {x : Operand} (ho : o.op = .convert src d x) {k k' : IntKind} {n : Int} (hx : V.eval x = some (.p (.lit (.int k n)))) (hs : (P.underlying src).isSome = true) (hd : tInt P d = some k')
    (hK : K ⟨.p (.lit (.int k' (k'.wrap n))), []⟩) : ∃ u, K u ∧ StepA P o f V u :=
  mk_pure hK fun O ρ s a w hE _ => by
    have h1 := (hE x (by simp [ho, Op.operands]) _ hx).lit
    refine ⟨_, ?_, .p _ _ (.lit _)⟩
    obtain ⟨dd, hdd⟩ := Option.isSome_iff_exists.1 hs
    simp [execOp, ho, h1, convert, run_underlying hdd, run_underlying (int_run hd), Conv.intToInt]
theorem snd_load {o : Oper} {T : TypeId} {x : Operand} (ho : o.op = .load T x) {v r : AV} {g : Bool} {n : Nat} (hv : V.eval x = some v) (ht : tSz P T = some (g, n)) (hl : loadR V v g n r) (hK : K ⟨r, []⟩) : ∃ u, K u ∧ StepA P o f V u :=
  mk_pure hK fun O ρ s a w hE hH => by
    obtain ⟨z, hz, hr⟩ := load_rep ht hl hH (hE x (by simp [ho, Op.operands]) v hv)
    exact ⟨z, by simp [execOp, ho, hz], hr⟩
theorem snd_fieldAddr {o : Oper} {T : TypeId} {x : Operand} {fd off sz : Nat} {g : Bool} (ho : o.op = .fieldAddr T x fd) (ht : tFld P T fd = some (off, sz, g)) {v r : AV} (hv : V.eval x = some v) (hr : offs v off = some r) (hK : K ⟨r, []⟩) :
    ∃ u, K u ∧ StepA P o f V u :=
  mk_pure hK fun O ρ s a w hE hH => by
    obtain ⟨b, p, he, hrep⟩ := offs_rep hr (hE x (by simp [ho, Op.operands]) v hv)
    obtain ⟨fs, fdd, i, d, h1, h2, rfl, h4, h5, h6, h7, h8⟩ := fld_run ht
    refine ⟨_, ?_, hrep⟩
    have hsz : ¬ i.size = 0 := h8
    simp [execOp, ho, he, Instr.fieldAt, run_underlying h1, h2, Instr.sureAddr, fieldPlace, sizeOf, typeInfo, h4, hsz, Addr.add_lit]
theorem snd_field {o : Oper} {T : TypeId} {x : Operand} {fd off sz : Nat} {g : Bool} (ho : o.op = .field T x fd) (ht : tFld P T fd = some (off, sz, g)) {v r : AV} {cs : List AV} (hv : V.eval x = some v) (hc : aop.aggCells v = some cs)
    (hr : if g = true then off + sz ≤ cs.length ∧ r = aggOf ((cs.drop off).take sz) else cs[off]? = some r) (hK : K ⟨r, []⟩) : ∃ u, K u ∧ StepA P o f V u :=
  mk_pure hK fun O ρ s a w hE hH => by
    obtain ⟨vs, he, hrep⟩ := repA_cells hc (hE x (by simp [ho, Op.operands]) v hv)
    obtain ⟨fs, fdd, i, d, h1, h2, rfl, h4, h5, h6, h7, h8⟩ := fld_run ht
    obtain ⟨z, hz, hzr⟩ := part_rep (P := P) (t := fdd.type) hrep ⟨i, d, h4, h5, h6, h7⟩ hr
    exact ⟨z, by simp [execOp, ho, he, Instr.field, run_underlying h1, h2, asAgg, hz], hzr⟩
theorem snd_index {o : Oper} {T : TypeId} {x i : Operand} (ho : o.op = .index T x i) {n : Int} (hi : evalInt V i = some n) (h0 : 0 ≤ n) {len sz : Nat} {g : Bool} (ht : tArr P T = some (len, sz, g)) (hn : n < len) {v r : AV} {cs : List AV}
    (hv : V.eval x = some v) (hc : aop.aggCells v = some cs) (hr : if g = true then n.toNat * sz + sz ≤ cs.length ∧ r = aggOf ((cs.drop (n.toNat * sz)).take sz) else cs[n.toNat * sz]? = some r) (hK : K ⟨r, []⟩) :
    ∃ u, K u ∧ StepA P o f V u :=
  mk_pure hK fun O ρ s a w hE hH => by
    obtain ⟨vs, he, hrep⟩ := repA_cells hc (hE x (by simp [ho, Op.operands]) v hv)
    obtain ⟨k, hk⟩ := evalInt_rep hE (by simp [ho, Op.operands]) hi
    obtain ⟨e, ie, d, h1, h4, h5, h6, h7⟩ := arr_run ht
    obtain ⟨z, hz, hzr⟩ := part_rep (P := P) (t := e) hrep ⟨ie, d, h4, h5, h6, h7⟩ hr
    refine ⟨z, ?_, hzr⟩
    simp [execOp, ho, he, hk, Instr.index, run_underlying h1, asIntOf, h0, hn, sizeOf, typeInfo, h4, h6, hz]
theorem snd_indexAddr_sl {o : Oper} {T e : TypeId} {x i : Operand} (ho : o.op = .indexAddr T x i) {n : Int} (hi : evalInt V i = some n) (h0 : 0 ≤ n) {sz : Nat} {g : Bool} (ht : tEl P T = some e) (hs : tSz P e = some (g, sz)) {v r : AV}
    (hv : V.eval x = some v) (hr : idxR V sz n.toNat v r) (hK : K ⟨r, []⟩) : ∃ u, K u ∧ StepA P o f V u :=
  mk_pure hK fun O ρ s a w hE hH => by
    obtain ⟨k, hk⟩ := evalInt_rep hE (by simp [ho, Op.operands]) hi
    have hu := hE x (by simp [ho, Op.operands]) v hv
    have key : ∃ b p len cap, a.eval x = .slice (some ⟨b, p, none⟩) len cap ∧ n.toNat < len ∧ RepA O ρ w r (.pointer (some ⟨b, p + n.toNat * sz, none⟩)) := by
      unfold idxR at hr
      split at hr
      · rename_i c es
        obtain ⟨cs, hcs, hl, rfl⟩ := hr
        generalize a.eval x = z at hu
        cases hu with
        | p _ _ hx => cases hx with
          | nilseq => simp at hcs
          | seq _ _ sz' b off cap q h1 h2 h3 h4 h5 =>
            have hlt := (List.getElem?_eq_some_iff.1 hcs).1
            have hsz : sz' = sz := by rw [← h1 cs (List.mem_of_getElem? hcs), hl]
            subst hsz
            have hget : ∀ j x, cs[j]? = some x → es.flatten[n.toNat * sz' + j]? = some x := fun j x hx => by
              rw [flat_get sz' es n.toNat j cs h1 hcs (by rw [← hl]; exact (List.getElem?_eq_some_iff.1 hx).1)]; exact hx
            refine ⟨b, off, _, _, rfl, hlt, ?_⟩
            have := RepA.pp (O := O) (ρ := ρ) (w := w) cs 0 b (off + n.toNat * sz') (fun j => q (n.toNat * sz' + j)) (fun j hj => ?_) (fun j x hx => h5 _ _ (hget j x hx))
            · exact this
            · have := h4 _ (List.getElem?_eq_some_iff.1 (hget j cs[j] (by simp [hj]))).1
              rw [← Nat.add_assoc] at this
              exact this
      · rename_i id
        obtain ⟨es, hid, hlt, rfl⟩ := hr
        obtain ⟨u, hu2, hb⟩ := hH id _ hid
        generalize a.eval x = z at hu
        cases hu with
        | own _ ad len cap hi2 =>
          rw [hu2] at hi2; injection hi2 with hi2; subst hi2
          rcases hb with ⟨rfl, _⟩ | ⟨b, cap', cur, e', g1, g0, g2, g3⟩
          · simp at hlt
          · rcases g1 with g1 | ⟨g1, _⟩
            · injection g1 with q1 q2 q3; subst q1 q2 q3
              refine ⟨b, 0, _, _, rfl, hlt, ?_⟩
              have := RepA.ptr (O := O) (ρ := ρ) (w := w) id sz n.toNat 0 b _ hu2 (by simp [oblk]; omega)
              simpa using this
            · cases g1
      · exact hr.elim
    obtain ⟨b, p, len, cap, he, hlt, hrep⟩ := key
    refine ⟨_, ?_, hrep⟩
    have h1 : n < len := by omega
    simp [execOp, ho, he, hk, Instr.indexAt, run_underlying (el_run ht), asIntOf, h0, h1, run_sizeOf hs, Addr.add_lit]
theorem snd_indexAddr_arr {o : Oper} {T : TypeId} {x i : Operand} (ho : o.op = .indexAddr T x i) {n : Int} (hi : evalInt V i = some n) (h0 : 0 ≤ n) {len sz : Nat} {g : Bool} (ht : tArr P T = some (len, sz, g)) (hn : n < len) {v r : AV}
    (hv : V.eval x = some v) (hr : offs v (n.toNat * sz) = some r) (hK : K ⟨r, []⟩) : ∃ u, K u ∧ StepA P o f V u :=
  mk_pure hK fun O ρ s a w hE hH => by
    obtain ⟨k, hk⟩ := evalInt_rep hE (by simp [ho, Op.operands]) hi
    obtain ⟨b, p, he, hrep⟩ := offs_rep hr (hE x (by simp [ho, Op.operands]) v hv)
    obtain ⟨e, ie, d, h1, h4, h5, h6, h7⟩ := arr_run ht
    refine ⟨_, ?_, hrep⟩
    simp [execOp, ho, he, hk, Instr.indexAt, run_underlying h1, asIntOf, h0, hn, sizeOf, typeInfo, h4, h6, Addr.add_lit, Instr.sureAddr]
end
end Go.Am
namespace Go.Am
open Go.RowKit
section
variable {P : Program} {H : List Nat} {f : Nat} {V : PS} {K : Upd → Prop}
theorem snd_alloc {o : Oper} {T : TypeId} {g : Bool} {zs : List PV} (ho : o.op = .alloc T) (ht : tVar P T = some (g, zs)) (hK : K ⟨.ptr f zs.length 0 0, [(f, some (.row zs.length [zs.map .p]))]⟩) : ∃ u, K u ∧ StepA P o f V u := by
  refine ⟨_, hK, stepA_own (.inl rfl) fun O ρ s a w hV hE hH hN => ?_⟩
  obtain ⟨z, hz, hr⟩ := repCells_zero (O := O) (ρ := ρ) ht w w
  refine ⟨.pointer (some ⟨w.heap.size, 0, none⟩), w, .pointer (some ⟨w.heap.size, 0, none⟩), T, z.cells, 1, ?_, rfl, rfl, rfl, rfl, .inr ⟨rfl, rfl, rfl⟩, by omega, ⟨by simp, by simp [maxLen], ?_, by simp, fun j x hx => ?_⟩, fun O' ρ' w' h => ?_⟩
  · simp [execOp, ho, Instr.alloc, hz, newVar, newRow]
  · have := hr.1; simpa using this
  · simp only [List.flatten_cons, List.flatten_nil, List.append_nil] at hx
    exact ⟨hr.2.1 j x hx, hr.2.2 j (List.getElem?_eq_some_iff.1 hx).1⟩
  · have := RepA.ptr (O := O') (ρ := ρ') (w := w') f zs.length 0 0 _ _ h rfl
    simpa using this
theorem snd_box {o : Oper} {T : TypeId} {x : Operand} {v : AV} {cs : List AV} (ho : o.op = .box T x) (hv : V.eval x = some v) (hc : v.cells = some cs) (hK : K ⟨.ptr f cs.length 0 0, [(f, some (.row cs.length [cs]))]⟩) : ∃ u, K u ∧ StepA P o f V u := by
  refine ⟨_, hK, stepA_own (.inl rfl) fun O ρ s a w hV hE hH hN => ?_⟩
  have hr := AV.cells_rep hc (hE x v (hV x (by simp [ho, Op.operands]) v hv))
  refine ⟨.pointer (some ⟨w.heap.size, 0, none⟩), w, .pointer (some ⟨w.heap.size, 0, none⟩), T, (a.eval x).cells, 1, ?_, rfl, rfl, rfl, rfl, .inr ⟨rfl, rfl, rfl⟩, by omega, ⟨by simp, by simp [maxLen], ?_, by simp, fun j y hx => ?_⟩, fun O' ρ' w' h => ?_⟩
  · simp [execOp, ho, Instr.box, newVar, newRow]
  · simpa using hr.1
  · simp only [List.flatten_cons, List.flatten_nil, List.append_nil] at hx
    exact ⟨hr.2.1 j y hx, hr.2.2 j (List.getElem?_eq_some_iff.1 hx).1⟩
  · have := RepA.ptr (O := O') (ρ := ρ') (w := w') f cs.length 0 0 _ _ h rfl
    simpa using this
theorem evalParts_spec {O : Nat → Prop} {ρ : Nat → Option Value} {w : World} {a : Act} : ∀ (ps : List (Nat × Operand)) (vs : List (Nat × List AV)),
    (∀ y, y ∈ ps.map (·.2) → ∀ v, V.eval y = some v → RepA O ρ w v (a.eval y)) → evalParts V ps = some vs →
    vs.length = (ps.map fun (i, x) => (i, a.eval x)).length ∧ ∀ (j i : Nat) (x : List AV), vs[j]? = some (i, x) → ∃ v : Value, (ps.map fun (i, x) => (i, a.eval x))[j]? = some (i, v) ∧ RepCells O ρ w x v.cells
  | [], vs, _, h => by simp [evalParts] at h; subst h; simp
  | (i, y) :: ps, vs, hE, h => by
    simp only [evalParts] at h
    split at h
    · rename_i v us hv hus
      split at h
      · rename_i cs hcs
        simp only [Option.some.injEq] at h; subst h
        have ih := evalParts_spec ps us (fun y hy => hE y (by simp at hy ⊢; exact .inr hy)) hus
        refine ⟨by simp [ih.1], fun j i' x hx => ?_⟩
        cases j with
        | zero =>
          simp only [List.getElem?_cons_zero, Option.some.injEq, Prod.mk.injEq] at hx
          obtain ⟨rfl, rfl⟩ := hx
          exact ⟨_, by simp, AV.cells_rep hcs (hE y (by simp) v hv)⟩
        | succ j => simpa using ih.2 j i' x (by simpa using hx)
      · cases h
    · cases h
theorem mapM_get {α β : Type} {g : α → Option β} : ∀ (l : List α) (r : List β), l.mapM g = some r → ∀ (i : Nat) (a : α), l[i]? = some a → ∃ b, g a = some b ∧ r[i]? = some b
  | [], r, _, i, a, h => by simp at h
  | x :: l, r, h, i, a, ha => by
    simp only [List.mapM_cons, Option.bind_eq_bind, Option.pure_def, Option.bind_eq_some_iff, Option.some.injEq] at h
    obtain ⟨b, hb, bs, hbs, rfl⟩ := h
    cases i with
    | zero => simp only [List.getElem?_cons_zero, Option.some.injEq] at ha; subst ha; exact ⟨b, hb, rfl⟩
    | succ i => exact mapM_get l bs hbs i a (by simpa using ha)
theorem built_fill {P : Program} {t : TypeId} (hb : tBuilt P t = true) (vs : List (Nat × Value)) :
    ∃ pl z, (P.info? t).bind (·.zero) = some z ∧ P.built t vs = Instr.fill pl z.cells vs ∧ ∀ i q, tPlace P t i = some q → pl i = some q := by
  unfold tBuilt Program.built at hb
  split at hb
  · rename_i it n e hi hu
    split at hb
    · rename_i z ie hz hie
      refine ⟨fun i => some (i * ie.size, ie.size), z, by simp [hi, hz], by simp [Program.built, hi, hu, hz, hie], fun i q hq => ?_⟩
      simpa [tPlace, hu, hie] using hq
    · cases hb
  · rename_i it fs hi hu
    split at hb
    · rename_i z pl hz hpl
      refine ⟨(pl.toArray[·]?), z, by simp [hi, hz], by simp [Program.built, hi, hu, hz, hpl], fun i q hq => ?_⟩
      simp only [tPlace, hu] at hq
      split at hq
      · rename_i fd hfd
        obtain ⟨b, hb1, hb2⟩ := mapM_get fs.toList pl hpl i fd (by simpa using hfd)
        rw [hb1] at hq; injection hq with hq; subst hq
        simpa using hb2
      · cases hq
    · cases hb
  · cases hb
theorem zero_info {P : Program} {t : TypeId} {g : Bool} {zs : List PV} (ht : tVar P t = some (g, zs)) {z : Value} (hz : (P.info? t).bind (·.zero) = some z) (O : Nat → Prop) (ρ : Nat → Option Value) (w : World) :
    RepCells O ρ w (zs.map .p) z.cells := by
  obtain ⟨z', h1, h2⟩ := repCells_zero (O := O) (ρ := ρ) ht w w
  have : z' = z := by
    cases hi : P.info? t with
    | none => simp [hi] at hz
    | some i =>
      simp only [hi, Option.bind_some] at hz
      simp [zeroValue, typeInfo, hi, hz] at h1
      exact h1.symm
  subst this; exact h2
theorem snd_build {o : Oper} {T : TypeId} {parts : Array (Nat × Operand)} {zs : List PV} {g : Bool} (ho : o.op = .build T parts) (ht : tVar P T = some (g, zs)) (hb : tBuilt P T = true) {vs : List (Nat × List AV)} (hv : evalParts V parts.toList = some vs)
    {cs : List AV} (hc : afill (tPlace P T) (zs.map .p) vs = some cs) (hK : K ⟨aggOf cs, []⟩) : ∃ u, K u ∧ StepA P o f V u :=
  mk_pure hK fun O ρ s a w hE hH => by
    have hp := evalParts_spec (O := O) (ρ := ρ) (w := w) (a := a) parts.toList vs (fun y hy => hE y (by rw [ho]; simp only [Op.operands]; simpa using hy)) hv
    obtain ⟨pl, z, hz, hbt, hpl⟩ := built_fill hb (parts.toList.map fun (i, x) => (i, a.eval x))
    obtain ⟨ys, hy, hr⟩ := repCells_fill hpl vs _ _ _ _ (zero_info ht hz O ρ w) hp.1 hp.2 hc
    refine ⟨.agg ys, ?_, repA_aggOf hr.1 hr.2.1 hr.2.2⟩
    have := run_build (P := P) w T (parts.map fun (i, x) => (i, a.eval x)) ys (by rw [Array.toList_map, hbt]; exact hy)
    simp only [execOp, ho, Sem.run_bind, this, Result.andThen_ok, Sem.run_pure]
theorem evalRow_spec {O : Nat → Prop} {ρ : Nat → Option Value} {w : World} {a : Act} {sz : Nat} : ∀ (ps : List (Nat × Operand)) (k : Nat) (es : List (List PV)), (∀ y, y ∈ ps.map (·.2) → ∀ v, V.eval y = some v → RepA O ρ w v (a.eval y)) → evalRow V sz k ps = some es →
    es.length = ps.length ∧ (∀ x, x ∈ es → x.length = sz) ∧ ∀ (xs : Array Value) (pre : List AV), RepCells O ρ w pre xs → pre.length = (k + ps.length) * sz →
      ∃ ys, Instr.fill (fun i => some (i * sz, sz)) xs (ps.map fun (i, x) => (i, a.eval x)) = some ys ∧ RepCells O ρ w (pre.take (k * sz) ++ es.flatten.map .p) ys
  | [], k, es, _, h => by
    simp only [evalRow, Option.some.injEq] at h; subst h
    refine ⟨rfl, (fun x hx => absurd hx (by simp)), fun xs pre hp hl => ⟨xs, rfl, ?_⟩⟩
    simp only [List.length_nil, Nat.add_zero] at hl
    rw [List.take_of_length_le (by omega)]; simpa using hp
  | (i, y) :: ps, k, es, hE, h => by
    simp only [evalRow] at h
    split at h
    · rename_i hik
      subst hik
      split at h
      · rename_i v us hv hus
        split at h
        · rename_i cs hcs
          split at h
          · rename_i qs hqs
            split at h
            · rename_i hl
              simp only [Option.some.injEq] at h; subst h
              have ih := evalRow_spec ps (i + 1) us (fun y hy => hE y (by simp at hy ⊢; exact .inr hy)) hus
              refine ⟨by simp [ih.1], fun x hx => ?_, fun xs pre hp hlen => ?_⟩
              · rcases List.mem_cons.1 hx with rfl | hx
                · exact hl
                · exact ih.2.1 x hx
              · have hc := AV.cells_rep hcs (hE y (by simp) v hv)
                have e := pures_spec _ _ hqs
                have hcl : cs.length = sz := by rw [e]; simpa using hl
                simp only [List.length_cons] at hlen
                have hle : i * sz + cs.length ≤ pre.length := by rw [hlen, hcl, ← Nat.add_one_mul]; exact Nat.mul_le_mul_right _ (by omega)
                have hs := repCells_splice (off := i * sz) hp hc hle
                obtain ⟨ys, hy, hr⟩ := ih.2.2 _ _ hs (by rw [splice_length _ _ _ hle, hlen]; congr 1; omega)
                refine ⟨ys, ?_, ?_⟩
                · simp only [List.map_cons, Instr.fill]
                  rw [if_neg]
                  · exact hy
                  · simp only [hc.1, hp.1]; simp; omega
                · have e2 : (splice pre (i * sz) cs).take ((i + 1) * sz) ++ us.flatten.map .p = pre.take (i * sz) ++ (qs :: us).flatten.map .p := by
                    rw [List.flatten_cons, List.map_append, ← e, ← List.append_assoc]
                    congr 1
                    simp only [splice]
                    have h1 : (pre.take (i * sz) ++ cs).length = (i + 1) * sz := by simp only [List.length_append, List.length_take, hcl, Nat.add_one_mul]; omega
                    rw [← h1, List.take_left]
                  rw [← e2]; exact hr
            · cases h
          · cases h
        · cases h
      · cases h
    · cases h
theorem snd_buildSlice {o : Oper} {T e n : Nat} {parts : Array (Nat × Operand)} {g : Bool} {zs : List PV} (ho : o.op = .buildSlice T n parts) (hT : tEl P T = some e) (ht : tVar P e = some (g, zs)) (h0 : 0 < zs.length)
    (hn : n * zs.length ≤ 2 ^ 24) (hl : parts.toList.length = n) {es : List (List PV)} (hr : evalRow V zs.length 0 parts.toList = some es) (hK : K ⟨.p (.seq true es), []⟩) : ∃ u, K u ∧ StepA P o f V u := by
  refine ⟨_, hK, stepA_new fun O ρ s a w hV hE hH hN => ?_⟩
  obtain ⟨h1, h2, h3⟩ := evalRow_spec (O := O) (ρ := ρ) (w := w) (a := a) parts.toList 0 es (fun y hy v hv => hE y v (hV y (by rw [ho]; simp only [Op.operands]; simpa using hy) v hv)) hr
  have hsz := tVar_sz ht
  obtain ⟨z, hz, hzr⟩ := repCells_zero (O := O) (ρ := ρ) ht w w
  have hzl : z.cells.size = zs.length := by have := hzr.1; simpa using this
  by_cases hn0 : n = 0
  · subst hn0
    have hp : parts.toList = [] := List.eq_nil_of_length_eq_zero hl
    rw [hp] at hr h1
    simp only [evalRow, Option.some.injEq] at hr; subst hr
    refine ⟨.slice (some ⟨w.heap.size, 0, none⟩) 0 0, w.alloc (.cells #[] e), ?_, .p _ _ (.nilseq true _ 0 (fun _ => rfl)), by simp, fun b hb => heap_alloc_old w _ hb, rfl, rfl, rfl⟩
    have hpa : parts = #[] := by simpa using hp
    simp [execOp, ho, Instr.buildSlice, run_underlying (el_run hT), run_sizeOf hsz, hpa, Instr.fill, newRow, Array.range_zero']
  · have hnz : ¬ n * zs.length = 0 := by
      intro h; rcases Nat.mul_eq_zero.1 h with h | h <;> omega
    have hpos : 0 < n * zs.length := Nat.pos_of_ne_zero hnz
    have hrow : RepCells O ρ w ((List.range (n * zs.length)).map fun j => AV.p (zs.getD (j % zs.length) (.lit undef))) ((Array.range (n * zs.length)).map (z.cells[· % z.cells.size]!)) := by
      have hmod : ∀ j, j % zs.length < zs.length := fun j => Nat.mod_lt _ h0
      have hz1 : ∀ j, j < n * zs.length → ((Array.range (n * zs.length)).map (z.cells[· % z.cells.size]!)).getD j undef = z.cells.getD (j % zs.length) undef := by
        intro j hj
        rw [Array.getD_eq_getD_getElem?, Array.getD_eq_getD_getElem?]
        have := hmod j
        simp [hj, hzl, this]
      refine ⟨by simp, fun j x hx => ?_, fun j hj => ?_⟩
      · have hj : j < n * zs.length := by have := (List.getElem?_eq_some_iff.1 hx).1; simpa using this
        rw [List.getElem?_map, List.getElem?_range hj] at hx
        simp only [Option.map_some, Option.some.injEq] at hx
        subst hx
        rw [hz1 j hj]
        refine hzr.2.1 _ _ ?_
        rw [List.getElem?_map, List.getD_eq_getElem?_getD, List.getElem?_eq_getElem (hmod j)]; rfl
      · have hj' : j < n * zs.length := by simpa using hj
        rw [hz1 j hj']
        exact hzr.2.2 _ (by simpa using hmod j)
    obtain ⟨ys, hy, hyr⟩ := h3 _ _ hrow (by simp [hl])
    simp only [Nat.zero_mul, List.take_zero, List.nil_append] at hyr
    have hlen : es.length = n := by rw [h1, hl]
    refine ⟨.slice (some ⟨w.heap.size, 0, none⟩) n n, w.alloc (.cells ys e), ?_, ?_, by simp, fun b hb => heap_alloc_old w _ hb, rfl, rfl, rfl⟩
    · obtain ⟨ie, hie⟩ : ∃ ie, P.info? e = some ie ∧ ie.size = zs.length := by
        unfold tSz at hsz
        split at hsz
        · rename_i d i hd hi; simp only [Option.some.injEq, Prod.mk.injEq] at hsz; exact ⟨i, hi, hsz.2⟩
        · cases hsz
      have hzi : ie.zero = some z := by
        have := hz
        cases hzz : ie.zero with
        | none => simp [zeroValue, typeInfo, hie.1, hzz] at this
        | some z' => simp [zeroValue, typeInfo, hie.1, hzz] at this; rw [this]
      have := run_buildSlice (P := P) w T e n (parts.map fun (i, x) => (i, a.eval x)) ys ie z (el_run hT) hie.1 hzi (by rw [hie.2]; omega) (by rw [hie.2]; exact hnz) (by rw [hie.2, Array.toList_map]; exact hy)
      simp only [execOp, ho, Sem.run_bind, this, Result.andThen_ok, Sem.run_pure]
    · rw [← hlen]
      refine .p _ _ (.seq true es zs.length w.heap.size 0 _ (fun j => ys.getD j undef) h2 (Nat.le_refl _) (fun _ => rfl) (fun j hj => ⟨hN _ (Nat.le_refl _), ?_, ?_⟩) (fun j x hx => ?_))
      · rw [Nat.zero_add]
        exact cell_row (e := e) (heap_alloc_new w _) (by rw [hyr.1, List.length_map]; exact hj)
      · exact hyr.2.2 j (by rw [List.length_map]; exact hj)
      · have hx' : (es.flatten.map AV.p)[j]? = some (.p x) := by rw [List.getElem?_map, hx]; rfl
        have := (hyr.2.1 j _ hx').unP
        exact this.mono ⟨by simp, fun b hb _ => heap_alloc_old w _ hb, fun _ _ x => x⟩
theorem snd_store {o : Oper} {T : TypeId} {x y : Operand} {id sz k off : Nat} {v : AV} {vs : List AV} {g : Bool} {es : List (List AV)} {cs : List AV} (ho : o.op = .store T x y) (hx : V.eval x = some (.ptr id sz k off)) (hv : V.eval y = some v)
    (hc : v.cells = some vs) (ht : tSz P T = some (g, vs.length)) (hid : V.hp id = some (.row sz es)) (hk : es[k]? = some cs) (hle : off + vs.length ≤ cs.length)
    (hK : K ⟨.p (.lit undef), [(id, some (.row sz (es.set k (splice cs off vs))))]⟩) : ∃ u, K u ∧ StepA P o f V u := by
  refine ⟨_, hK, ?_⟩
  intro C U s a w hd _ hV hH ⟨ρ, hs⟩ Q
  have hid' := hH id _ hid
  obtain ⟨u, hu, hb⟩ := hs.heap id _ hid'
  have hp := hs.eval (hV x (by simp [ho, Op.operands]) _ hx)
  have hr := AV.cells_rep hc (hs.eval (hV y (by simp [ho, Op.operands]) _ hv))
  obtain ⟨b, cap, cur, e, he, hub, h0, hw, hok, hcl, hcell⟩ := ptr_cells hp hu hb hk
  have hes : es.length ≤ cap := hok.1
  have hkl := (List.getElem?_eq_some_iff.1 hk).1
  have hroom : k * sz + off + (a.eval y).cells.toList.length ≤ cur.size := by
    have h1 : (k + 1) * sz ≤ cap * sz := Nat.mul_le_mul_right _ (by omega)
    rw [Nat.add_one_mul] at h1
    have h2 := hok.2.2.1
    have h3 : (a.eval y).cells.toList.length = vs.length := by simpa using hr.1
    omega
  have h1c : ∀ z, z ∈ (a.eval y).cells.toList → z.oneCell' = true := by
    intro z hz
    obtain ⟨i, hi, rfl⟩ := List.getElem_of_mem hz
    have := hr.2.2 i (by have := hr.1; simp at hi; omega)
    rw [Array.getD_eq_getD_getElem?] at this
    simp at hi
    simpa [hi] using this
  have hrun := run_storeCells_at (P := P) b (k * sz + off) e (a.eval y).cells.toList 0 cur w hw (by simpa using hroom) h1c
  simp only [Nat.add_zero] at hrun
  have hexec : (execOp a.eval o).run P w = .ok .skip (w.setRow b (cur.toList.take (k * sz + off) ++ (a.eval y).cells.toList ++ cur.toList.drop (k * sz + off + (a.eval y).cells.toList.length)).toArray) := by
    have hsz : (a.eval y).cells.size = vs.length := hr.1
    simp only [execOp, ho, Instr.storeAt, he, Instr.sureAddr, storeVar, Sem.run_bind, Sem.run_pure, Result.andThen_ok, run_sizeOf ht]
    simp only [ne_eq, hsz, not_true_eq_false, if_false, hrun, Result.andThen_ok]
  unfold Oper.wp
  rw [hexec]
  show Sat _ _ _ _ _
  refine ⟨ρ, ?_⟩
  have hn : (es.set k (splice cs off vs)).length = es.length := by simp
  have hspl := splice_length cs vs off hle
  have hlen3 : (a.eval y).cells.toList.length = vs.length := by simpa using hr.1
  have hok' : BlkOk (Own C s ρ) ρ w sz (es.set k (splice cs off vs)) cap (cur.toList.take (k * sz + off) ++ (a.eval y).cells.toList ++ cur.toList.drop (k * sz + off + (a.eval y).cells.toList.length)).toArray := by
    refine ⟨by rw [hn]; exact hes, hok.2.1, ?_, fun z hz => ?_, fun j z hz => ?_⟩
    · have := hok.2.2.1
      simp only [List.size_toArray, List.length_append, List.length_take, List.length_drop, Array.length_toList]
      simp only [Array.length_toList] at hroom
      omega
    · rcases List.mem_or_eq_of_mem_set hz with hz | rfl
      · exact hok.2.2.2.1 z hz
      · rw [hspl]; exact hcl
    · have hall : ∀ e, e ∈ es.set k (splice cs off vs) → e.length = sz := fun z hz => by
        rcases List.mem_or_eq_of_mem_set hz with hz | rfl
        · exact hok.2.2.2.1 z hz
        · rw [hspl]; exact hcl
      have hjl := (List.getElem?_eq_some_iff.1 hz).1
      rw [flat_len sz _ hall, hn] at hjl
      have hsz0 : 0 < sz := Nat.pos_of_ne_zero (fun h => by rw [h] at hjl; simp at hjl)
      have hdm := Nat.div_add_mod j sz
      have hmod := Nat.mod_lt j hsz0
      have hdiv : j / sz < es.length := Nat.div_lt_of_lt_mul (by rw [Nat.mul_comm]; exact hjl)
      have hj2 : j = j / sz * sz + j % sz := by rw [Nat.mul_comm]; exact hdm.symm
      have hget : (es.set k (splice cs off vs))[j / sz]? = some ((es.set k (splice cs off vs))[j / sz]'(by rw [hn]; exact hdiv)) := by simp [hdiv]
      have hz2 : ((es.set k (splice cs off vs))[j / sz]'(by rw [hn]; exact hdiv))[j % sz]? = some z := by
        rw [← flat_get sz _ (j / sz) (j % sz) _ hall hget hmod, ← hj2]; exact hz
      rw [Array.getD_eq_getD_getElem?, List.getElem?_toArray]
      have hold : (es[j / sz]'hdiv)[j % sz]? = some z → j < k * sz + off ∨ k * sz + off + vs.length ≤ j → RepA (Own C s ρ) ρ w z (((cur.toList.take (k * sz + off) ++ (a.eval y).cells.toList ++ cur.toList.drop (k * sz + off + (a.eval y).cells.toList.length))[j]?).getD undef) ∧
          (((cur.toList.take (k * sz + off) ++ (a.eval y).cells.toList ++ cur.toList.drop (k * sz + off + (a.eval y).cells.toList.length))[j]?).getD undef).oneCell' = true := by
        intro h1 h2
        have h3 : es.flatten[j]? = some z := by
          conv => lhs; rw [hj2]
          rw [flat_get sz es (j / sz) (j % sz) (es[j / sz]'hdiv) hok.2.2.2.1 (by simp [hdiv]) hmod]; exact h1
        have h4 := hok.2.2.2.2 j z h3
        have hcur : j < cur.size := by
          have := (List.getElem?_eq_some_iff.1 h3).1
          rw [flat_len sz es hok.2.2.2.1] at this
          have h5 : es.length * sz ≤ cap * sz := Nat.mul_le_mul_right _ hes
          have := hok.2.2.1
          omega
        have e1 : ((cur.toList.take (k * sz + off) ++ (a.eval y).cells.toList ++ cur.toList.drop (k * sz + off + (a.eval y).cells.toList.length))[j]?) = cur[j]? := by
          have hct : cur.toList.length = cur.size := Array.length_toList
          rcases h2 with h2 | h2
          · rw [List.append_assoc, List.getElem?_append_left (by rw [List.length_take]; omega), List.getElem?_take, if_pos h2]; simp
          · rw [List.getElem?_append_right (by rw [List.length_append, List.length_take]; omega), List.getElem?_drop]
            rw [Array.getElem?_toList]
            congr 1
            rw [List.length_append, List.length_take]; omega
        rw [e1, ← Array.getD_eq_getD_getElem?]; exact h4
      by_cases hjk : j / sz = k
      · rw [List.getElem_set, if_pos hjk.symm] at hz2
        rw [splice_get _ _ _ _ hle] at hz2
        have hkk : k * sz + j % sz = j := by rw [← hjk]; exact hj2.symm
        split at hz2
        · rename_i hin
          have e1 : ((cur.toList.take (k * sz + off) ++ (a.eval y).cells.toList ++ cur.toList.drop (k * sz + off + (a.eval y).cells.toList.length))[j]?) = (a.eval y).cells[j % sz - off]? := by
            have hct : cur.toList.length = cur.size := Array.length_toList
            rw [List.append_assoc, List.getElem?_append_right (by rw [List.length_take]; omega), List.getElem?_append_left (by rw [List.length_take]; omega), Array.getElem?_toList]
            congr 1
            rw [List.length_take]; omega
          rw [e1, ← Array.getD_eq_getD_getElem?]
          exact ⟨hr.2.1 _ _ hz2, hr.2.2 _ (by omega)⟩
        · rename_i hout
          refine hold ?_ (by omega)
          have : es[j / sz]'hdiv = cs := by
            have := (List.getElem?_eq_some_iff.1 hk).2
            subst hjk; exact this
          rw [this]; exact hz2
      · rw [List.getElem_set, if_neg (fun h => hjk h.symm)] at hz2
        refine hold hz2 ?_
        rcases Nat.lt_or_gt_of_ne hjk with h | h
        · left
          have : (j / sz + 1) * sz ≤ k * sz := Nat.mul_le_mul_right _ h
          rw [Nat.add_one_mul] at this; omega
        · right
          have : (k + 1) * sz ≤ j / sz * sz := Nat.mul_le_mul_right _ h
          rw [Nat.add_one_mul] at this; omega
  have hset := hs.setBlk hid' hu hub h0 hw hn hok'
  have hput := hset.put (dst := o.dst) hd (x := .p (.lit undef)) (v := undef) (.p _ _ (.lit _))
  exact hput.widen (fun _ => .inl)
end
end Go.Am
namespace Go.Am
open Go.RowKit
section
variable {P : Program} {H : List Nat} {f : Nat} {V : PS} {K : Upd → Prop}
theorem evalOpt_rep {O : Nat → Prop} {ρ : Nat → Option Value} {w : World} {a : Act} {xs : Array Operand} (hE : ∀ y, y ∈ xs → ∀ v, V.eval y = some v → RepA O ρ w v (a.eval y)) {lo : Option Operand} (hx : ∀ x, lo = some x → x ∈ xs) {n : Option Int}
    (h : evalOpt V lo = some n) : (lo = none ∧ n = none) ∨ ∃ x k m, lo = some x ∧ n = some m ∧ a.eval x = .int k m := by
  cases lo with
  | none => simp only [evalOpt, Option.some.injEq] at h; exact .inl ⟨rfl, h.symm⟩
  | some x =>
    simp only [evalOpt] at h
    split at h
    · rename_i k m hm
      simp only [Option.some.injEq] at h
      exact .inr ⟨x, k, m, rfl, h.symm, (hE x (hx x rfl) _ hm).lit⟩
    · cases h
theorem run_bounds {P : Program} {w : World} {len cap : Nat} {ea eb ed : Option Value} {a b d : Option Int} (ha : (ea = none ∧ a = none) ∨ ∃ k m, ea = some (.int k m) ∧ a = some m) (hb : (eb = none ∧ b = none) ∨ ∃ k m, eb = some (.int k m) ∧ b = some m)
    (hd : (ed = none ∧ d = none) ∨ ∃ k m, ed = some (.int k m) ∧ d = some m) (hdb : d.isSome = true → b.isSome = true) (h0 : 0 ≤ a.getD 0) (h1 : a.getD 0 ≤ b.getD len) (h2 : b.getD len ≤ d.getD cap) (h3 : d.getD cap ≤ cap) :
    (Instr.sliceBounds true len cap ea eb ed).run P w = .ok ((a.getD 0).toNat, (b.getD len).toNat, (d.getD cap).toNat) w := by
  have sb : ∀ (k : IntKind) (i : Int) (y : Nat) (code : BoundsCode), 0 ≤ i → i ≤ y → (Instr.sliceBound (.int k i) y code).run P w = .ok i.toNat w := by
    intro k i y code g1 g2
    simp [Instr.sliceBound, asIntOf, g1, g2]
  have hq : ∀ (y : Nat) (z : Int), z ≤ y → 0 ≤ z → (z.toNat : Int) = z := fun y z _ hz => Int.toNat_of_nonneg hz
  rcases hd with ⟨rfl, rfl⟩ | ⟨kd, md, rfl, rfl⟩
  · simp only [Option.getD_none] at h2 h3 ⊢
    rcases hb with ⟨rfl, rfl⟩ | ⟨kb, mb, rfl, rfl⟩
    · simp only [Option.getD_none] at h1 h2 ⊢
      rcases ha with ⟨rfl, rfl⟩ | ⟨ka, ma, rfl, rfl⟩
      · simp [Instr.sliceBounds]
      · simp only [Option.getD_some] at h0 h1 ⊢
        simp [Instr.sliceBounds, sb ka ma len _ h0 h1]
    · simp only [Option.getD_some] at h1 h2 ⊢
      have hb0 : 0 ≤ mb := Int.le_trans h0 h1
      rcases ha with ⟨rfl, rfl⟩ | ⟨ka, ma, rfl, rfl⟩
      · simp [Instr.sliceBounds, sb kb mb cap _ hb0 h2]
      · simp only [Option.getD_some] at h0 h1 ⊢
        simp [Instr.sliceBounds, sb kb mb cap _ hb0 h2, sb ka ma mb.toNat _ h0 (by omega)]
  · simp only [Option.getD_some] at h2 h3 ⊢
    rcases hb with ⟨rfl, rfl⟩ | ⟨kb, mb, rfl, rfl⟩
    · simp at hdb
    · simp only [Option.getD_some] at h1 h2 ⊢
      have hb0 : 0 ≤ mb := Int.le_trans h0 h1
      have hd0 : 0 ≤ md := Int.le_trans hb0 h2
      rcases ha with ⟨rfl, rfl⟩ | ⟨ka, ma, rfl, rfl⟩
      · simp [Instr.sliceBounds, sb kd md cap _ hd0 h3, sb kb mb md.toNat _ hb0 (by omega)]
      · simp only [Option.getD_some] at h0 h1 ⊢
        simp [Instr.sliceBounds, sb kd md cap _ hd0 h3, sb kb mb md.toNat _ hb0 (by omega), sb ka ma mb.toNat _ h0 (by omega)]
theorem run_sliceAt {P : Program} {w : World} {T e sz : Nat} {g : Bool} (hT : tEl P T = some e) (hs : tSz P e = some (g, sz)) (ad : Option Addr) (len cap : Nat) (ea eb ed : Option Value) {l h m : Nat}
    (hb : (Instr.sliceBounds true len cap ea eb ed).run P w = .ok (l, h, m) w) :
    (Instr.sliceAt T (.slice ad len cap) ea eb ed).run P w = .ok (.slice (if m = l then ad else ad.map (·.add (l * sz))) (h - l) (m - l)) w := by
  simp [Instr.sliceAt, Instr.slice, run_underlying (el_run hT), hb, run_sizeOf hs]
theorem take_drop_flat {es : List (List PV)} {sz l h : Nat} (hl : ∀ x, x ∈ es → x.length = sz) (hlh : l ≤ h) (hh : h ≤ es.length) {j : Nat} {x : PV} (hx : ((es.take h).drop l).flatten[j]? = some x) :
    es.flatten[l * sz + j]? = some x := by
  have h3 : es = es.take l ++ ((es.take h).drop l ++ es.drop h) := by
    have h1 : (es.take h) = es.take l ++ (es.take h).drop l := by
      conv => lhs; rw [← List.take_append_drop l (es.take h)]
      rw [List.take_take, Nat.min_eq_left hlh]
    rw [← List.append_assoc, ← h1, List.take_append_drop]
  have h4 : (es.take l).flatten.length = l * sz := by
    rw [flat_len sz _ (fun x hx => hl x (List.mem_of_mem_take hx)), List.length_take, Nat.min_eq_left (by omega)]
  rw [h3, List.flatten_append, List.flatten_append, List.getElem?_append_right (by omega), h4, Nat.add_sub_cancel_left, List.getElem?_append_left (List.getElem?_eq_some_iff.1 hx).1]
  exact hx
theorem snd_slice_seq {o : Oper} {T e sz : Nat} {g : Bool} {x : Operand} {lo hi mx : Option Operand} (ho : o.op = .slice T x lo hi mx) (hT : tEl P T = some e) (hs : tSz P e = some (g, sz)) {c : Bool} {es : List (List PV)}
    (hv : V.eval x = some (.p (.seq c es))) {a b d : Option Int} (ha : evalOpt V lo = some a) (hb : evalOpt V hi = some b) (hd : evalOpt V mx = some d) (hdb : d.isSome = true → b.isSome = true) (h0 : 0 ≤ a.getD 0)
    (hl : ∀ y, y ∈ es → y.length = sz) (h1 : a.getD 0 ≤ b.getD es.length) (h2 : b.getD es.length ≤ d.getD es.length) (h3 : d.getD es.length ≤ es.length)
    (hK : K ⟨.p (.seq (clipOf c es.length b d) ((es.take (b.getD es.length).toNat).drop (a.getD 0).toNat)), []⟩) : ∃ u, K u ∧ StepA P o f V u :=
  mk_pure hK fun O ρ s act w hE hH => by
    have hu := (hE x (by simp [ho, Op.operands]) _ hv).unP
    have ra := evalOpt_rep hE (fun y hy => by simp [ho, Op.operands, hy]) ha
    have rb := evalOpt_rep hE (fun y hy => by simp [ho, Op.operands, hy]) hb
    have rd := evalOpt_rep hE (fun y hy => by simp [ho, Op.operands, hy]) hd
    have conv1 : ∀ {q : Option Operand} {n : Option Int}, ((q = none ∧ n = none) ∨ ∃ x k m, q = some x ∧ n = some m ∧ act.eval x = .int k m) → (q.map act.eval = none ∧ n = none) ∨ ∃ k m, q.map act.eval = some (.int k m) ∧ n = some m := by
      rintro q n (⟨rfl, rfl⟩ | ⟨x, k, m, rfl, rfl, hx⟩)
      · exact .inl ⟨rfl, rfl⟩
      · exact .inr ⟨k, m, by simp [hx], rfl⟩
    -- the slice's own shape
    have key : ∃ ad cap, act.eval x = .slice ad es.length cap ∧ es.length ≤ cap ∧ (c = true → cap = es.length) := by
      generalize act.eval x = z at hu
      cases hu with
      | nilseq _ ad cap hc => exact ⟨ad, cap, rfl, Nat.zero_le _, fun h => by simpa using hc h⟩
      | seq _ _ sz' b' off cap q g1 g2 g3 g4 g5 => exact ⟨_, cap, rfl, g2, g3⟩
    obtain ⟨ad, cap, he, hcap, hclip⟩ := key
    have hrun := run_sliceAt (P := P) (w := w) hT hs ad es.length cap _ _ _ (run_bounds (P := P) (w := w) (len := es.length) (cap := cap) (conv1 ra) (conv1 rb) (conv1 rd) hdb h0 h1
      (by cases d with | none => simp only [Option.getD_none] at h2 h3 ⊢; omega | some m => exact h2) (by cases d with | none => simp | some m => simp only [Option.getD_some] at h3 ⊢; omega))
    refine ⟨_, (by simp only [execOp, ho, he, Sem.run_bind, hrun, Result.andThen_ok, Sem.run_pure]; exact rfl), .p _ _ ?_⟩
    -- the new slice
    have hlen : ((es.take (b.getD es.length).toNat).drop (a.getD 0).toNat).length = (b.getD es.length).toNat - (a.getD 0).toNat := by
      rw [List.length_drop, List.length_take, Nat.min_eq_left (by omega)]
    have hlh : (a.getD 0).toNat ≤ (b.getD es.length).toNat := by omega
    have hhn : (b.getD es.length).toNat ≤ es.length := by omega
    have hcl : clipOf c es.length b d = true → (d.getD cap).toNat - (a.getD 0).toNat = (b.getD es.length).toNat - (a.getD 0).toNat := by
      intro h
      unfold clipOf at h
      cases d with
      | some m =>
        simp only [decide_eq_true_eq] at h
        subst h; simp
      | none =>
        cases b with
        | none => simp only at h; rw [hclip h]
        | some hh =>
          simp only [Bool.and_eq_true, decide_eq_true_eq] at h
          rw [hclip h.1]; simp [h.2]
    by_cases hzero : (b.getD es.length).toNat - (a.getD 0).toNat = 0
    · have hnil : (es.take (b.getD es.length).toNat).drop (a.getD 0).toNat = [] := List.eq_nil_of_length_eq_zero (by rw [hlen, hzero])
      rw [hnil, hzero]
      exact .nilseq _ _ _ (fun h => by have := hcl h; omega)
    · have hpos : 0 < es.length := by omega
      generalize act.eval x = z at hu he
      subst he
      cases hu with
      | nilseq _ ad cap hc => simp at hpos
      | seq _ _ sz' b' off _ q g1 g2 g3 g4 g5 =>
        have hszz : sz' = sz := by
          obtain ⟨e0, he0⟩ : ∃ e0, e0 ∈ es := ⟨es[0], by simp⟩
          rw [← g1 e0 he0, hl e0 he0]
        subst hszz
        have e1 : (if (d.getD cap).toNat = (a.getD 0).toNat then some (⟨b', off, none⟩ : Addr) else (some (⟨b', off, none⟩ : Addr)).map (·.add ((a.getD 0).toNat * sz'))) = some ⟨b', off + (a.getD 0).toNat * sz', none⟩ := by
          rw [if_neg]
          · simp [Addr.add_lit]
          · cases d with
            | none => simp only [Option.getD_none]; omega
            | some m => simp only [Option.getD_some] at h2 h3 ⊢; omega
        rw [e1, ← hlen]
        refine .seq _ _ sz' b' _ _ (fun j => q ((a.getD 0).toNat * sz' + j)) (fun y hy => g1 y (List.mem_of_mem_take (List.mem_of_mem_drop hy))) ?_ (fun h => by rw [hcl h, hlen]) (fun j hj => ?_) (fun j y hy => g5 _ _ (take_drop_flat g1 hlh hhn hy))
        · rw [hlen]
          cases d with
          | none => simp only [Option.getD_none]; omega
          | some m => simp only [Option.getD_some] at h2 ⊢; omega
        · have := g4 _ (List.getElem?_eq_some_iff.1 (take_drop_flat g1 hlh hhn (List.getElem?_eq_getElem hj))).1
          rw [← Nat.add_assoc] at this
          exact this
theorem snd_slice_own {o : Oper} {T e sz : Nat} {g : Bool} {x : Operand} {lo hi : Option Operand} {mx : Option Operand} (ho : o.op = .slice T x lo hi mx) (hT : tEl P T = some e) (hs : tSz P e = some (g, sz)) {id : Nat} {es : List (List AV)}
    (hv : V.eval x = some (.own id)) {a b d : Option Int} (ha : evalOpt V lo = some a) (hb : evalOpt V hi = some b) (hd : evalOpt V mx = some d) (hd0 : d = none) (h0 : 0 ≤ a.getD 0) (hid : V.hp id = some (.row sz es))
    (h1 : a.getD 0 ≤ b.getD es.length) (h2 : b.getD es.length ≤ es.length)
    (hK : K ⟨.sub id sz (a.getD 0).toNat ((b.getD es.length).toNat - (a.getD 0).toNat), []⟩) : ∃ u, K u ∧ StepA P o f V u :=
  mk_pure hK fun O ρ s act w hE hH => by
    subst hd0
    have hu := hE x (by simp [ho, Op.operands]) _ hv
    have ra := evalOpt_rep hE (fun y hy => by simp [ho, Op.operands, hy]) ha
    have rb := evalOpt_rep hE (fun y hy => by simp [ho, Op.operands, hy]) hb
    have rd := evalOpt_rep hE (fun y hy => by simp [ho, Op.operands, hy]) hd
    have conv1 : ∀ {q : Option Operand} {n : Option Int}, ((q = none ∧ n = none) ∨ ∃ x k m, q = some x ∧ n = some m ∧ act.eval x = .int k m) → (q.map act.eval = none ∧ n = none) ∨ ∃ k m, q.map act.eval = some (.int k m) ∧ n = some m := by
      rintro q n (⟨rfl, rfl⟩ | ⟨x, k, m, rfl, rfl, hx⟩)
      · exact .inl ⟨rfl, rfl⟩
      · exact .inr ⟨k, m, by simp [hx], rfl⟩
    obtain ⟨u, hu2, hbk⟩ := hH id _ hid
    generalize hz : act.eval x = z at hu
    cases hu with
    | own _ ad len cap hi2 =>
      rw [hu2] at hi2; injection hi2 with hi2; subst hi2
      have hle : len = es.length ∧ es.length ≤ cap ∧ (es.length = 0 ∨ ∃ b', ad = some ⟨b', 0, none⟩ ∧ 0 < cap) := by
        rcases hbk with ⟨rfl, a', ha'⟩ | ⟨b', cap', cur, e', g1, g0, g2, g3⟩
        · injection ha' with q1 q2 q3; subst q2 q3; exact ⟨rfl, by simp, .inl rfl⟩
        · rcases g1 with g1 | ⟨g1, _⟩
          · injection g1 with q1 q2 q3; subst q1 q2 q3; exact ⟨rfl, g3.1, .inr ⟨b', rfl, g0⟩⟩
          · cases g1
      obtain ⟨rfl, hcap, hcase⟩ := hle
      have hrun := run_sliceAt (P := P) (w := w) hT hs ad es.length cap _ _ _ (run_bounds (P := P) (w := w) (len := es.length) (cap := cap) (conv1 ra) (conv1 rb) (conv1 rd) (by simp) h0 h1 (by simp only [Option.getD_none]; omega) (by simp))
      refine ⟨_, (by simp only [execOp, ho, hz, Sem.run_bind, hrun, Result.andThen_ok, Sem.run_pure]; exact rfl), ?_⟩
      simp only [Option.getD_none, Int.toNat_natCast]
      by_cases hzero : (b.getD es.length).toNat - (a.getD 0).toNat = 0
      · rw [hzero]; exact .sub0 _ _ _ _ _
      · rcases hcase with hcase | ⟨b', rfl, g0⟩
        · omega
        · rw [if_neg (by omega)]
          simp only [Option.map_some, Addr.add_lit, Nat.zero_add]
          exact .sub id _ _ _ _ _ sz b' hu2 g0
theorem tb_run {P : Program} {e by' : Nat} {g : Bool} {zs : List PV} (hb : tBytes P e = some by') (ht : tVar P e = some (g, zs)) : ∃ i z, P.info? e = some i ∧ i.zero = some z ∧ i.size = zs.length ∧ i.bytes = by' ∧ z.cells.size = i.size := by
  unfold tVar at ht
  unfold tBytes at hb
  split at ht
  · rename_i d i hd hi
    split at ht
    · rename_i z hz
      split at ht
      · rename_i hc
        simp only [Option.some.injEq, Prod.mk.injEq] at ht
        obtain ⟨_, rfl⟩ := ht
        rw [hi] at hb
        simp only [Option.map_some, Option.some.injEq] at hb
        exact ⟨i, z, hi, hz, by simp [zcells, hc.1], hb, hc.1⟩
      · cases ht
    · cases ht
  · cases ht
theorem exec_append {o : Oper} {s x : Operand} {t : TypeId} {args : Array Operand} {ts : Array TypeId} (ho : o.op = .call ⟨.builtin .append, args, ts⟩) (ha : args.toList = [s, x]) (ht : ts.toList = [t, t]) (a : Act) {v : Value} {w w' : World}
    (h : (Builtin.append_ #[t, t] o.type #[a.eval s, a.eval x]).run P w = .ok v w') : (execOp a.eval o).run P w = .ok (.value v) w' := by
  have ha' : args = #[s, x] := by rw [← Array.toArray_toList (xs := args), ha]
  have ht' : ts = #[t, t] := by rw [← Array.toArray_toList (xs := ts), ht]
  subst ha' ht'
  simp [execOp, ho, resolve, invoke, builtin, h]
theorem seq_shape {O : Nat → Prop} {w : World} {c : Bool} {es : List (List PV)} {v : Value} (h : RepP O w (.seq c es) v) : ∃ ad cap, v = .slice ad es.length cap ∧ es.length ≤ cap ∧ (c = true → cap = es.length) := by
  cases h with
  | nilseq _ ad cap hc => exact ⟨ad, cap, rfl, Nat.zero_le _, fun h => by simpa using hc h⟩
  | seq _ _ sz' b' off cap q g1 g2 g3 g4 g5 => exact ⟨_, cap, rfl, g2, g3⟩
theorem len_lit {O : Nat → Prop} {w : World} {c : Bool} {es : List (List PV)} {sz : Nat} (hl : ∀ y, y ∈ es → y.length = sz) {cap : Nat} {cur : Array Value} {ρ : Nat → Option Value} {w' : World} (h1 : es.length ≤ cap) (h2 : cap ≤ maxLen) (h3 : cur.size = cap * sz)
    (h4 : ∀ j x, es.flatten[j]? = some x → RepP O w x (cur.getD j undef) ∧ (cur.getD j undef).oneCell' = true) (hm : Moves O w O w') (_ : c = c) : BlkOk O ρ w' sz (lift es) cap cur :=
  ⟨by rw [lift_length]; exact h1, h2, h3, lift_len.2 hl, fun j x hx => by
    rw [lift_flatten, List.getElem?_map] at hx
    obtain ⟨y, hy, rfl⟩ := Option.map_eq_some_iff.1 hx
    exact ⟨.p _ _ ((h4 j y hy).1.mono hm), (h4 j y hy).2⟩⟩
theorem run_append_room' {P : Program} {w : World} (t ty e e' : TypeId) (i : TypeInfo) (ht : P.underlying t = some (.slice e)) (hi : P.info? e = some i)
    (g sLen sCap : Nat) (cur : Array Value) (hg : w.heap[g]? = some (.cells cur e' (0, 0)))
    (a : Addr) (m c : Nat) (news : List Value) (hl : news.length = m * i.size) (hnews : ∀ j u, news[j]? = some u → w.cell? (a.add j) = some u) (h1 : ∀ u ∈ news, u.oneCell' = true)
    (hroom : sLen + m ≤ sCap) (hfit : sLen * i.size + news.length ≤ cur.size) :
    (Builtin.append_ #[t, t] ty #[.slice (some ⟨g, 0, none⟩) sLen sCap, .slice (some a) m c]).run P w =
      .ok (.slice (some ⟨g, 0, none⟩) (sLen + m) sCap) (w.setRow g (cur.toList.take (sLen * i.size) ++ news ++ cur.toList.drop (sLen * i.size + news.length)).toArray) := by
  have hf := run_firstCells_some (P := P) w i.size m a m c news hl hnews
  have hst := run_storeCells_at (P := P) g (sLen * i.size) e' news 0 cur w hg (by simpa using hfit) h1
  simp only [Nat.add_zero] at hst
  simp [Builtin.append_, run_underlying ht, sizeOf, typeInfo, hi, Builtin.lenOf, hroom, hf, Addr.add_lit, hst]
theorem snd_append {o : Oper} {s x : Operand} {t : TypeId} {args : Array Operand} {ts : Array TypeId} (ho : o.op = .call ⟨.builtin .append, args, ts⟩) (ha : args.toList = [s, x]) (ht : ts.toList = [t, t]) (h : aAppend P H f V o.dst t s x K) :
    ∃ u, K u ∧ StepA P o f V u := by
  obtain ⟨e, hT, by', hby, g, zs, hvar, hpos, v, hv, v2, hv2, es2, hsrc, hl2, h⟩ := h
  obtain ⟨i, z, hi, hz, hsz, hbt, hzc⟩ := tb_run hby hvar
  have hu := el_run hT
  have hs' : s ∈ o.op.operands := by simp [ho, Op.operands, Call.operands]; rw [← Array.mem_toList_iff, ha]; simp
  have hx' : x ∈ o.op.operands := by simp [ho, Op.operands, Call.operands]; rw [← Array.mem_toList_iff, ha]; simp
  split at h
  · rename_i es1
    obtain ⟨hl1, hbytes, hmax, h⟩ := h
    by_cases hn2 : es2 = []
    · subst hn2
      split at h
      · rename_i hH
        obtain ⟨hor, hK⟩ := h
        have hes1 : es1 = [] := by rcases hor with h | h; exact h; exact absurd rfl h
        subst hes1
        refine ⟨_, hK, ?_⟩
        intro C U s0 a w hd hf hV hHp ⟨ρ, hs⟩ Q
        have r1 := (hs.eval (hV s hs' _ hv)).unP
        obtain ⟨vs2, l2⟩ := lies_src hsrc (fun id k hk => hs.heap id k (hHp id k hk)) (hs.eval (hV x hx' _ hv2))
        obtain ⟨ad, cap, he, hcap, hclip⟩ := seq_shape r1
        obtain ⟨ad2, c2, he2, _⟩ := l2.slice
        have hc0 : cap = 0 := by simpa using hclip rfl
        subst hc0
        have hrun := run_append_none (P := P) t o.type e i hu hi ad ad2 0 0 c2 (Nat.le_refl _) w
        simp only [List.length_nil] at he he2
        have hex := exec_append ho ha ht a (by rw [he, he2]; exact hrun)
        have := (hs.newNil hf zs.length ad).put hd (x := .own f) (v := .slice ad 0 0) (.own f ad 0 0 (by simp))
        exact wp_value hex ⟨_, this⟩
      · rename_i hH
        rw [List.append_nil, List.isEmpty_nil] at h
        refine ⟨_, h, stepA_pure fun O ρ s0 a w hV hE hHp => ?_⟩
        have r1 := (hE s _ (hV s hs' _ hv)).unP
        obtain ⟨vs2, l2⟩ := lies_src hsrc hHp (hE x _ (hV x hx' _ hv2))
        obtain ⟨ad, cap, he, hcap, hclip⟩ := seq_shape r1
        obtain ⟨ad2, c2, he2, _⟩ := l2.slice
        have hrun := run_append_none (P := P) t o.type e i hu hi ad ad2 es1.length cap c2 hcap w
        simp only [List.length_nil] at he2
        refine ⟨_, exec_append ho ha ht a (by rw [he, he2]; exact hrun), .p _ _ ?_⟩
        rw [he] at r1
        exact r1
    · have hemp : es2.isEmpty = false := by cases es2 with | nil => exact absurd rfl hn2 | cons => rfl
      rw [hemp] at h
      have hpos2 : 0 < es2.length := by cases es2 with | nil => exact absurd rfl hn2 | cons => simp
      -- the run
      have hrun : ∀ (O : Nat → Prop) (ρ : Nat → Option Value) (a : Act) (w : World), RepA O ρ w (.p (.seq true es1)) (a.eval s) → RepA O ρ w v2 (a.eval x) → (∀ id k, V.hp id = some k → ∃ v, ρ id = some v ∧ BlkRep O ρ w v k) →
          ∃ cap cur, (execOp a.eval o).run P w = .ok (.value (.slice (some ⟨w.heap.size, 0, none⟩) (es1 ++ es2).length cap)) (w.drew.alloc (.cells cur e)) ∧ (es1 ++ es2).length ≤ cap ∧ cap ≤ maxLen ∧
            cur.size = cap * zs.length ∧ ∀ j x, (es1 ++ es2).flatten[j]? = some x → RepP O w x (cur.getD j undef) ∧ (cur.getD j undef).oneCell' = true := by
        intro O ρ a w r1 r2 hHp
        obtain ⟨vs1, l1⟩ := lies_seq r1.unP
        obtain ⟨vs2, l2⟩ := lies_src hsrc hHp r2
        obtain ⟨ad, cap, he, hcap, hclip⟩ := seq_shape r1.unP
        have hc := hclip rfl
        subst hc
        obtain ⟨cap', cur, h1, h2, h3, h4, h5⟩ := run_append_more (P := P) t o.type e i z hu hi hz hzc l1 l2 es1.length ⟨ad, he⟩ (by omega)
          (fun hnil => by
            rw [he] at hnil
            injection hnil with q1 q2 q3
            subst q1
            have := r1.unP
            rw [he] at this
            cases this with
            | nilseq => rfl) (fun y hy => by rw [hsz]; exact hl1 y hy) (fun y hy => by rw [hsz]; exact hl2 y hy) hpos2 hmax (by rw [hbt]; exact hbytes)
        exact ⟨cap', cur, exec_append ho ha ht a h1, h2, h3, by rw [← hsz]; exact h4, h5⟩
      have hle : ∀ y, y ∈ es1 ++ es2 → y.length = zs.length := fun y hy => by
        rcases List.mem_append.1 hy with hy | hy
        · exact hl1 y hy
        · exact hl2 y hy
      split at h
      · rename_i hH
        obtain ⟨_, hK⟩ := h
        refine ⟨_, hK, stepA_own (.inl rfl) fun O ρ s0 a w hV hE hHp hN => ?_⟩
        obtain ⟨cap, cur, h1, h2, h3, h4, h5⟩ := hrun O ρ a w (hE s _ (hV s hs' _ hv)) (hE x _ (hV x hx' _ hv2)) hHp
        refine ⟨_, w.drew, .slice (some ⟨w.heap.size, 0, none⟩) (es1 ++ es2).length cap, e, cur, cap, h1, rfl, rfl, rfl, rfl, .inl (by rw [lift_length]; rfl), ?_, ?_, fun O' ρ' w' hρ' => .own f _ _ _ hρ'⟩
        · have : 0 < (es1 ++ es2).length := by rw [List.length_append]; omega
          omega
        · exact len_lit (c := true) hle h2 h3 h4 h5 ⟨Nat.le_refl _, fun _ _ _ => rfl, fun _ _ x => x⟩ rfl
      · refine ⟨_, h, stepA_new fun O ρ s0 a w hV hE hHp hN => ?_⟩
        obtain ⟨cap, cur, h1, h2, h3, h4, h5⟩ := hrun O ρ a w (hE s _ (hV s hs' _ hv)) (hE x _ (hV x hx' _ hv2)) hHp
        refine ⟨_, _, h1, .p _ _ ?_, by simp, fun b hb => heap_alloc_old w.drew _ hb, rfl, rfl, rfl⟩
        have hm : Moves O w O (w.drew.alloc (.cells cur e)) := ⟨by simp, fun b hb _ => heap_alloc_old w.drew _ hb, fun _ _ x => x⟩
        refine .seq false (es1 ++ es2) zs.length w.heap.size 0 cap (fun j => cur.getD j undef) hle h2 (fun h => by cases h) (fun j hj => ⟨hN _ (Nat.le_refl _), ?_, ?_⟩) (fun j y hy => (h5 j y hy).1.mono hm)
        · rw [Nat.zero_add]
          refine cell_row (e := e) (heap_alloc_new w.drew _) ?_
          rw [flat_len zs.length _ hle] at hj
          have : (es1 ++ es2).length * zs.length ≤ cap * zs.length := Nat.mul_le_mul_right _ h2
          omega
        · exact (h5 j _ (List.getElem?_eq_getElem hj)).2
  · rename_i id
    obtain ⟨es1, hid, hbytes, hmax, hne, hK⟩ := h
    have hstep : StepA P o f V ⟨.own f, [(f, some (.row zs.length (lift (es1 ++ es2)))), (id, none)]⟩ := by
      intro C U s0 a w hd hf hV hHp ⟨ρ, hs⟩ Q
      have r1 := hs.eval (hV s hs' _ hv)
      have hid' := hHp id _ hid
      obtain ⟨vs2, l2⟩ := lies_src hsrc (fun id k hk => hs.heap id k (hHp id k hk)) (hs.eval (hV x hx' _ hv2))
      obtain ⟨vs1, l1⟩ := lies_src (V := V) (x := .own id) (es := es1) ⟨_, hid⟩ (fun id k hk => hs.heap id k (hHp id k hk)) r1
      obtain ⟨u, hu2, hb⟩ := hs.heap id _ hid'
      have hown : ∃ ad cap, a.eval s = .slice ad es1.length cap ∧ u = .slice ad es1.length cap ∧ ((es1 = [] ∧ cap = 0) ∨ ∃ b cur e', ad = some ⟨b, 0, none⟩ ∧ 0 < cap ∧ w.heap[b]? = some (.cells cur e' (0, 0)) ∧ BlkOk (Own C s0 ρ) ρ w zs.length (lift es1) cap cur) := by
        generalize a.eval s = q at r1
        cases r1 with
        | own _ ad n c hi2 =>
          rw [hu2] at hi2; injection hi2 with hi2; subst hi2
          rcases hb with ⟨hnil, a', ha'⟩ | ⟨b, cap, cur, e', h1, h0, h2, hok⟩
          · have : es1 = [] := by simpa [lift] using hnil
            subst this
            injection ha' with q1 q2 q3; subst q1 q2 q3
            exact ⟨_, _, rfl, rfl, .inl ⟨rfl, rfl⟩⟩
          · rcases h1 with h1 | ⟨h1, _⟩
            · injection h1 with q1 q2 q3; subst q1 q3
              rw [lift_length] at q2; subst q2
              exact ⟨_, _, rfl, rfl, .inr ⟨b, cur, e', rfl, h0, h2, hok⟩⟩
            · cases h1
      obtain ⟨ad, cap, he, rfl, hcase⟩ := hown
      have hl1 : ∀ y, y ∈ es1 → y.length = zs.length := by
        rcases hcase with ⟨rfl, _⟩ | ⟨b, cur, e', _, _, _, hok⟩
        · intro y hy; cases hy
        · exact lift_len.1 hok.2.2.2.1
      have hlen2 : vs2.length = es2.length * zs.length := by rw [l2.len, flat_len zs.length es2 hl2]
      have hle : ∀ y, y ∈ es1 ++ es2 → y.length = zs.length := fun y hy => by
        rcases List.mem_append.1 hy with hy | hy
        · exact hl1 y hy
        · exact hl2 y hy
      obtain ⟨ad2, c2, he2, hsome2⟩ := l2.slice
      have hcape : es1.length ≤ cap := by
        rcases hcase with ⟨rfl, rfl⟩ | ⟨b, cur, e', _, _, _, hok⟩
        · simp
        · have := hok.1; rwa [lift_length] at this
      by_cases hroom : es1.length + es2.length ≤ cap
      · rcases hcase with ⟨rfl, rfl⟩ | ⟨b, cur, e', rfl, h0, hw, hok⟩
        · -- nothing to nothing
          have hes2 : es2 = [] := List.eq_nil_of_length_eq_zero (by simpa using hroom)
          subst hes2
          have hrun := run_append_none (P := P) t o.type e i hu hi ad ad2 0 0 c2 (Nat.le_refl _) w
          simp only [List.length_nil] at he he2
          have hex := exec_append ho ha ht a (by rw [he, he2]; exact hrun)
          have := ((hs.newNil hf zs.length ad).dropBlk id).put hd (x := .own f) (v := .slice ad 0 0) (.own f ad 0 0 (by simp))
          have e2 : (PS.upd ⟨s0.sl, PS.setHp (PS.setHp s0.hp [(f, some (.row zs.length []))]) [(id, none)]⟩ o.dst ⟨.own f, []⟩) = s0.upd o.dst ⟨.own f, [(f, some (.row zs.length (lift ([] ++ [])))), (id, none)]⟩ := by
            simp only [PS.upd, PS.setHp, PS.mk.injEq, true_and, List.append_nil, lift_nil]
            funext j
            by_cases e1 : j = id
            · by_cases e2 : j = f
              · exact absurd (e1.symm.trans e2) hne
              · simp [e1, hne]
            · simp [e1]
          simp only at this
          rw [e2] at this
          exact wp_value hex ⟨_, this⟩
        · -- in place
          have hfit : es1.length * i.size + vs2.length ≤ cur.size := by
            rw [hlen2, hok.2.2.1, hsz, ← Nat.add_mul]; exact Nat.mul_le_mul_right _ hroom
          have h1c : ∀ q ∈ vs2, q.oneCell' = true := by
            intro q hq
            obtain ⟨j, hj, rfl⟩ := List.getElem_of_mem hq
            have := (l2.rep j _ (List.getElem?_eq_getElem (by rw [← l2.len]; exact hj))).2
            rw [List.getD_eq_getElem?_getD, List.getElem?_eq_getElem hj] at this
            exact this
          have hrun : (Builtin.append_ #[t, t] o.type #[.slice (some ⟨b, 0, none⟩) es1.length cap, .slice ad2 es2.length c2]).run P w =
              .ok (.slice (some ⟨b, 0, none⟩) (es1 ++ es2).length cap) (w.setRow b (cur.toList.take (es1.length * zs.length) ++ vs2 ++ cur.toList.drop (es1.length * zs.length + vs2.length)).toArray) := by
            by_cases hz2 : es2.length = 0
            · have hv2n : vs2 = [] := List.eq_nil_of_length_eq_zero (by rw [hlen2, hz2]; simp)
              have := run_append_none (P := P) t o.type e i hu hi (some ⟨b, 0, none⟩) ad2 es1.length cap c2 hcape w
              rw [hz2, this, hv2n, List.length_append, hz2]
              simp only [List.append_nil, List.length_nil, Nat.add_zero, List.take_append_drop, Array.toArray_toList]
              rw [setRow_self w b cur _ _ hw]
            · obtain ⟨b2, rfl, hc2⟩ := hsome2 (by omega)
              have := run_append_room' (P := P) (w := w) t o.type e e' i hu hi b es1.length cap cur hw b2 es2.length c2 vs2 (by rw [hlen2, hsz]) hc2 h1c hroom hfit
              rw [this, List.length_append, hsz]
          have hex := exec_append ho ha ht a (by rw [he, he2]; exact hrun)
          have hok2 := blk_room hok l2 hl2 hroom
          have := (hs.rename hf hid' (by rw [lift_length]; exact hu2) h0 hw hok2).put hd (x := .own f) (v := .slice (some ⟨b, 0, none⟩) (es1 ++ es2).length cap) (.own f _ _ _ (by simp [lift_length]))
          exact wp_value hex ⟨_, this⟩
      · -- it grows
        have hpos2 : 0 < es2.length := by omega
        obtain ⟨cap', cur, h1, h2, h3, h4, h5⟩ := run_append_more (P := P) t o.type e i z hu hi hz hzc l1 l2 cap ⟨ad, he⟩ (by omega)
          (fun hnil => by
            rw [he] at hnil
            injection hnil with q1 q2 q3
            rcases hcase with ⟨_, hc⟩ | ⟨b, cur, e', hb', _⟩
            · exact hc
            · rw [q1] at hb'; cases hb') (fun y hy => by rw [hsz]; exact hl1 y hy) (fun y hy => by rw [hsz]; exact hl2 y hy) hpos2 hmax (by rw [hbt]; exact hbytes)
        have hex := exec_append ho ha ht a h1
        rw [hsz] at h4
        have hmv : Moves (Own C s0 ρ) w (Own C s0 ρ) w.drew := ⟨Nat.le_refl _, fun _ _ _ => rfl, fun _ _ x => x⟩
        have hnew := hs.drew.newBlk hf e cur zs.length (lift (es1 ++ es2)) cap' (.slice (some ⟨w.heap.size, 0, none⟩) (es1 ++ es2).length cap') (.inl (by rw [lift_length]; rfl))
          (by have : 0 < (es1 ++ es2).length := by rw [List.length_append]; omega
              omega) (len_lit (c := true) hle h2 h3 h4 h5 hmv rfl)
        have := (hnew.dropBlk id).put hd (x := .own f) (v := .slice (some ⟨w.heap.size, 0, none⟩) (es1 ++ es2).length cap') (.own f _ _ _ (by simp))
        have e2 : (PS.upd ⟨s0.sl, PS.setHp (PS.setHp s0.hp [(f, some (.row zs.length (lift (es1 ++ es2))))]) [(id, none)]⟩ o.dst ⟨.own f, []⟩) = s0.upd o.dst ⟨.own f, [(f, some (.row zs.length (lift (es1 ++ es2)))), (id, none)]⟩ := by
          simp only [PS.upd, PS.setHp, PS.mk.injEq, true_and]
          funext j
          by_cases e1 : j = id
          · by_cases e2 : j = f
            · exact absurd (e1.symm.trans e2) hne
            · simp [e1, hne]
          · simp [e1]
        simp only at this
        rw [e2] at this
        exact wp_value hex ⟨_, this⟩
    split at hK
    · exact ⟨_, hK, hstep⟩
    · obtain ⟨hds, hK⟩ := hK
      obtain ⟨d, hdd⟩ := Option.isSome_iff_exists.1 hds
      exact ⟨_, hK, stepA_freeze hdd hstep⟩
  · exact h.elim
end
end Go.Am
namespace Go.Am
open Go.RowKit
section
variable {P : Program} {H : List Nat} {f : Nat} {V : PS} {K : Upd → Prop}
theorem rep_flat {α : Type} (zs : List α) : ∀ (m j : Nat) (x : α), (List.replicate m zs).flatten[j]? = some x → zs[j % zs.length]? = some x ∧ j < m * zs.length
  | 0, j, x, h => by simp at h
  | m + 1, j, x, h => by
    rw [List.replicate_succ, List.flatten_cons] at h
    by_cases hj : j < zs.length
    · rw [List.getElem?_append_left hj] at h
      rw [Nat.mod_eq_of_lt hj]
      exact ⟨h, by rw [Nat.add_mul]; omega⟩
    · rw [List.getElem?_append_right (by omega)] at h
      obtain ⟨h1, h2⟩ := rep_flat zs m (j - zs.length) x h
      rw [← Nat.mod_eq_sub_mod (by omega)] at h1
      exact ⟨h1, by rw [Nat.add_mul]; omega⟩
theorem zeroCells_get (z : Array Value) (n j : Nat) (h : j < n * z.size) : (Builtin.zeroCells z n).getD j undef = z.getD (j % z.size) undef := by
  have hp : 0 < z.size := by
    rcases Nat.eq_zero_or_pos z.size with h0 | h0
    · rw [h0] at h; simp at h
    · exact h0
  have hm : j % z.size < z.size := Nat.mod_lt _ hp
  simp [Builtin.zeroCells, Array.getD_eq_getD_getElem?, h, hm]
theorem exec_append2 {o : Oper} {s x : Operand} {t tn : TypeId} {args : Array Operand} {ts : Array TypeId} (ho : o.op = .call ⟨.builtin .append, args, ts⟩) (ha : args.toList = [s, x]) (ht : ts.toList = [t, tn]) (a : Act) {v : Value} {w w' : World}
    (h : (Builtin.append_ #[t, tn] o.type #[a.eval s, a.eval x]).run P w = .ok v w') : (execOp a.eval o).run P w = .ok (.value v) w' := by
  have ha' : args = #[s, x] := by rw [← Array.toArray_toList (xs := args), ha]
  have ht' : ts = #[t, tn] := by rw [← Array.toArray_toList (xs := ts), ht]
  subst ha' ht'
  simp [execOp, ho, resolve, invoke, builtin, h]
theorem snd_appZ {o : Oper} {s x : Operand} {t tn : TypeId} {args : Array Operand} {ts : Array TypeId} (ho : o.op = .call ⟨.builtin .append, args, ts⟩) (ha : args.toList = [s, x]) (ht : ts.toList = [t, tn]) (h : aAppZ P H f V o.dst t tn s x K) :
    ∃ u, K u ∧ StepA P o f V u := by
  obtain ⟨e, hT, kn, hN, by', hby, g, zs, hvar, hpos, hv, kq, n, hx, hn0, hbytes, hmax, _, hK⟩ := h
  obtain ⟨i, z, hi, hz, hsz, hbt, hzc⟩ := tb_run hby hvar
  have hs' : s ∈ o.op.operands := by simp [ho, Op.operands, Call.operands]; rw [← Array.mem_toList_iff, ha]; simp
  have hx' : x ∈ o.op.operands := by simp [ho, Op.operands, Call.operands]; rw [← Array.mem_toList_iff, ha]; simp
  obtain ⟨m, rfl⟩ : ∃ m : Nat, n = m := ⟨n.toNat, by omega⟩
  rw [Int.toNat_natCast] at hK
  have hmb : m * by' ≤ 140737488355328 := by
    have : ((m * by' : Nat) : Int) ≤ 140737488355328 := by rw [Int.natCast_mul]; exact hbytes
    omega
  have hm' : m ≤ maxLen := by omega
  have hm63 : (m : Int) ≤ 9223372036854775807 := by unfold maxLen at hm'; omega
  refine ⟨_, hK, stepA_own (.inl rfl) fun O ρ s0 a w hV hE hHp hNo => ?_⟩
  have r1 := (hE s _ (hV s hs' _ hv)).unP
  have r2 := (hE x _ (hV x hx' _ hx)).lit
  obtain ⟨ad, cap, he, hcap, hclip⟩ := seq_shape r1
  have hc0 : cap = 0 := by simpa using hclip rfl
  subst hc0
  simp only [List.length_nil] at he
  have hold : (Builtin.firstCells i.size 0 (.slice ad 0 0)).run P w.drew = .ok ([] : List Value).toArray w.drew := by
    cases ad with
    | none => exact run_firstCells_none w.drew i.size 0 0 0
    | some b => exact run_firstCells_some w.drew i.size 0 b 0 0 [] (by simp) (fun j v h => by simp at h)
  have hrun := Lib.run_append_grow_zeros w t tn o.type e i z kq kn (el_run hT) (int_run hN) hi hz ad 0 0 [] hold m (by omega) (by omega) (by omega) (by simpa using hm63) (by rw [hbt]; omega)
    (by rw [hbt]; exact growslice_fits (by omega) (by simpa using hmb))
  have hex := exec_append2 ho ha ht a (by rw [he, r2]; exact hrun)
  have hG := grownCap_ge w (0 + m) 0 e
  have hGl := grownCap_le_maxLen w (0 + m) 0 e (by simpa using hm')
  generalize hGd : grownCap w (0 + m) 0 e = G at hex hG hGl
  have hzr : RepCells O ρ w.drew (zs.map .p) z.cells := zero_info hvar (by simp [hi, hz]) O ρ w.drew
  have hlen : (lift (List.replicate m zs)).length = m := by simp [lift]
  refine ⟨_, w.drew, .slice (some ⟨w.heap.size, 0, none⟩) m G, e, _, G, hex, rfl, rfl, rfl, rfl, .inl (by rw [hlen]; rfl), by omega, ⟨by rw [hlen]; omega, hGl, ?_, ?_, ?_⟩, fun O' ρ' w' hρ' => by rw [Nat.zero_add]; exact .own f _ _ _ hρ'⟩
  · simp only [Array.size_append, size_zeroCells, hzc, hsz, List.size_toArray, List.length_nil]
    rw [Nat.zero_add, Nat.zero_add, ← Nat.add_mul]
    congr 1
    omega
  · intro y hy
    simp only [lift, List.map_replicate] at hy
    rw [List.eq_of_mem_replicate hy]; simp
  · intro j y hy
    rw [lift_flatten, List.getElem?_map] at hy
    obtain ⟨y', hy', rfl⟩ := Option.map_eq_some_iff.1 hy
    obtain ⟨h1, h2⟩ := rep_flat zs m j y' hy'
    have hzl : z.cells.size = zs.length := by rw [hzc, hsz]
    have e1 : ((([] : List Value).toArray ++ Builtin.zeroCells z.cells m ++ Builtin.zeroCells z.cells (G - (0 + m)))).getD j undef = z.cells.getD (j % zs.length) undef := by
      have hs1 : j < (Builtin.zeroCells z.cells m).size := by rw [size_zeroCells, hzl]; exact h2
      rw [Array.getD_eq_getD_getElem?, Array.getElem?_append_left (by simpa using hs1)]
      have e0 : (([] : List Value).toArray ++ Builtin.zeroCells z.cells m) = Builtin.zeroCells z.cells m := by simp
      rw [e0, ← Array.getD_eq_getD_getElem?, zeroCells_get _ _ _ (by rw [hzl]; exact h2), hzl]
    have hj := (List.getElem?_eq_some_iff.1 h1).1
    rw [e1]
    exact ⟨hzr.2.1 _ _ (by rw [List.getElem?_map, h1]; rfl), hzr.2.2 _ (by rw [List.length_map]; exact hj)⟩
theorem snd_shrink {o : Oper} {T e sz : Nat} {g : Bool} {x : Operand} {lo hi : Option Operand} {mx : Option Operand} (ho : o.op = .slice T x lo hi mx) (hT : tEl P T = some e) (hs : tSz P e = some (g, sz)) {id : Nat} {es : List (List AV)}
    (hv : V.eval x = some (.own id)) {a b d : Option Int} (ha : evalOpt V lo = some a) (hb : evalOpt V hi = some b) (hd : evalOpt V mx = some d) (hd0 : d = none) (h0 : 0 ≤ a.getD 0) (hid : V.hp id = some (.row sz es))
    (h1 : a.getD 0 ≤ b.getD es.length) (h2 : b.getD es.length ≤ es.length) (hz0 : a.getD 0 = 0) (hne : id ≠ f)
    (hK : K ⟨.own f, [(f, some (.row sz (es.take (b.getD es.length).toNat))), (id, none)]⟩) : ∃ u, K u ∧ StepA P o f V u := by
  refine ⟨_, hK, ?_⟩
  intro C U s0 act w hdst hf hV hHp ⟨ρ, hsat⟩ Q
  subst hd0
  have hE : ∀ y, y ∈ o.op.operands → ∀ v, V.eval y = some v → RepA (Own C s0 ρ) ρ w v (act.eval y) := fun y hy v hv => hsat.eval (hV y hy v hv)
  have hu := hE x (by simp [ho, Op.operands]) _ hv
  have ra := evalOpt_rep hE (fun y hy => by simp [ho, Op.operands, hy]) ha
  have rb := evalOpt_rep hE (fun y hy => by simp [ho, Op.operands, hy]) hb
  have rd := evalOpt_rep hE (fun y hy => by simp [ho, Op.operands, hy]) hd
  have conv1 : ∀ {q : Option Operand} {n : Option Int}, ((q = none ∧ n = none) ∨ ∃ x k m, q = some x ∧ n = some m ∧ act.eval x = .int k m) → (q.map act.eval = none ∧ n = none) ∨ ∃ k m, q.map act.eval = some (.int k m) ∧ n = some m := by
    rintro q n (⟨rfl, rfl⟩ | ⟨x, k, m, rfl, rfl, hx⟩)
    · exact .inl ⟨rfl, rfl⟩
    · exact .inr ⟨k, m, by simp [hx], rfl⟩
  have hid' := hHp id _ hid
  obtain ⟨u, hu2, hbk⟩ := hsat.heap id _ hid'
  have hown : ∃ ad cap, act.eval x = .slice ad es.length cap ∧ u = .slice ad es.length cap ∧ es.length ≤ cap ∧ ((es = [] ∧ cap = 0) ∨ ∃ b cur e', ad = some ⟨b, 0, none⟩ ∧ 0 < cap ∧ w.heap[b]? = some (.cells cur e' (0, 0)) ∧ BlkOk (Own C s0 ρ) ρ w sz es cap cur) := by
    generalize act.eval x = q at hu
    cases hu with
    | own _ ad n c hi2 =>
      rw [hu2] at hi2; injection hi2 with hi2; subst hi2
      rcases hbk with ⟨rfl, a', ha'⟩ | ⟨b, cap, cur, e', h1, h0, h2, hok⟩
      · injection ha' with q1 q2 q3; subst q1 q2 q3
        exact ⟨_, _, rfl, rfl, Nat.le_refl _, .inl ⟨rfl, rfl⟩⟩
      · rcases h1 with h1 | ⟨h1, _⟩
        · injection h1 with q1 q2 q3; subst q1 q2 q3
          exact ⟨_, _, rfl, rfl, hok.1, .inr ⟨b, cur, e', rfl, h0, h2, hok⟩⟩
        · cases h1
  obtain ⟨ad, cap, he, rfl, hcap, hcase⟩ := hown
  have hrun := run_sliceAt (P := P) (w := w) hT hs ad es.length cap _ _ _ (run_bounds (P := P) (w := w) (len := es.length) (cap := cap) (conv1 ra) (conv1 rb) (conv1 rd) (by simp) h0 h1 (by simp only [Option.getD_none]; omega) (by simp))
  simp only [Option.getD_none, Int.toNat_natCast, hz0, Int.toNat_zero, Nat.sub_zero, Nat.zero_mul] at hrun
  have had : (if cap = 0 then ad else ad.map (·.add 0)) = ad := by
    split
    · rfl
    · cases ad with
      | none => rfl
      | some q => simp [Addr.add]
  rw [had] at hrun
  generalize hnd : (b.getD es.length).toNat = n at hrun hK ⊢
  have hn : n ≤ es.length := by omega
  have hex : (execOp act.eval o).run P w = .ok (.value (.slice ad n cap)) w := by
    simp only [execOp, ho, he, Sem.run_bind, hrun, Result.andThen_ok, Sem.run_pure]
  rcases hcase with ⟨rfl, rfl⟩ | ⟨bk, cur, e', rfl, hc0, hw, hok⟩
  · have hn0 : n = 0 := by simpa using hn
    subst hn0
    have := ((hsat.newNil hf sz ad).dropBlk id).put hdst (x := .own f) (v := .slice ad 0 0) (.own f ad 0 0 (by simp))
    have e2 : (PS.upd ⟨s0.sl, PS.setHp (PS.setHp s0.hp [(f, some (.row sz []))]) [(id, none)]⟩ o.dst ⟨.own f, []⟩) = s0.upd o.dst ⟨.own f, [(f, some (.row sz (List.take 0 ([] : List (List AV))))), (id, none)]⟩ := by
      simp only [PS.upd, PS.setHp, PS.mk.injEq, true_and, List.take_nil]
      funext j
      by_cases e1 : j = id
      · by_cases e2 : j = f
        · exact absurd (e1.symm.trans e2) hne
        · simp [e1, hne]
      · simp [e1]
    simp only at this
    rw [e2] at this
    exact wp_value hex ⟨_, this⟩
  · have hlen : (es.take n).length = n := by rw [List.length_take]; omega
    have hok2 : BlkOk (Own C s0 ρ) ρ w sz (es.take n) cap cur := by
      refine ⟨by omega, hok.2.1, hok.2.2.1, fun y hy => hok.2.2.2.1 y (List.mem_of_mem_take hy), fun j y hy => hok.2.2.2.2 j y ?_⟩
      have e1 : es.flatten = (es.take n).flatten ++ (es.drop n).flatten := by rw [← List.flatten_append, List.take_append_drop]
      rw [e1, List.getElem?_append_left (List.getElem?_eq_some_iff.1 hy).1]
      exact hy
    have := (hsat.rename hf hid' hu2 hc0 hw hok2).put hdst (x := .own f) (v := .slice (some ⟨bk, 0, none⟩) n cap) (.own f _ _ _ (by simp [hlen]))
    rw [setRow_self w bk cur _ _ hw] at this
    exact wp_value hex ⟨_, this⟩
end
end Go.Am
namespace Go.Am
open Go.RowKit
theorem SatR.newAny {C : Ctx} {U : Nat → Prop} {s : PS} {ρ : Nat → Option Value} {a : Act} {w : World} (h : SatR C U s ρ a w) {f : Nat} (hf : ¬ U f) (o : Obj) (v : Value) (k : Blk) (hob : oblk v = some w.heap.size)
    (hrep : ∀ (O : Nat → Prop) (ρ : Nat → Option Value) (w' : World), w'.heap[w.heap.size]? = some o → BlkRep O ρ w' v k) :
    SatR C (fun i => U i ∨ i = f) ⟨s.sl, PS.setHp s.hp [(f, some k)]⟩ (fun i => if i = f then some v else ρ i) a (w.alloc o) := by
  have hρ : ∀ i v', ρ i = some v' → (fun i => if i = f then some v else ρ i) i = some v' := by
    intro i v' hi
    by_cases e : i = f
    · subst e; rw [h.used i hf] at hi; cases hi
    · simp [e, hi]
  have hm : Moves (Own C s ρ) w (Own C ⟨s.sl, PS.setHp s.hp [(f, some k)]⟩ (fun i => if i = f then some v else ρ i)) (w.alloc o) := by
    refine ⟨by simp, fun b hb _ => heap_alloc_old w _ hb, fun b hb ho => ?_⟩
    rcases ho with ho | ⟨id, k', u, h1, h2, h3⟩
    · exact .inl ho
    · by_cases e : id = f
      · subst e; simp only [if_true, Option.some.injEq] at h2; subst h2; rw [hob] at h3; injection h3; omega
      · simp only [PS.setHp, e, if_false] at h1 h2; exact .inr ⟨id, k', u, h1, h2, h3⟩
  refine ⟨h.defers, h.size, fun d x hx => (h.slots d x hx).mono hm hρ, fun id k' hid => ?_, ?_, fun id hid => ?_, ?_, h.oc, h.os, h.tape, h.output, Nat.le_trans h.grows (by simp), fun b hb hA => ?_, fun j v hj => hρ _ _ (h.pins j v hj)⟩
  · by_cases e : id = f
    · subst e
      simp only [PS.setHp, if_true, Option.some.injEq] at hid
      subst hid
      exact ⟨v, by simp, hrep _ _ _ (heap_alloc_new w _)⟩
    · simp only [PS.setHp, e, if_false] at hid
      obtain ⟨v', hv', hr⟩ := h.heap id k' hid
      exact ⟨v', by simp [e, hv'], hr.mono hm hρ (fun b hb => heap_alloc_old w _ (h.range id k' v' b hid hv' hb).2.2)⟩
  · intro i j k' l v' u b h1 h2 h3 h4 h5 h6
    by_cases ei : i = f
    · by_cases ej : j = f
      · rw [ei, ej]
      · subst ei
        simp only [PS.setHp, ej, if_false] at h2 h4
        simp only [if_true, Option.some.injEq] at h3
        subst h3
        rw [hob] at h5; injection h5 with h5; subst h5
        have := (h.range j l u _ h2 h4 h6).2.2; omega
    · by_cases ej : j = f
      · subst ej
        simp only [PS.setHp, ei, if_false] at h1 h3
        simp only [if_true, Option.some.injEq] at h4
        subst h4
        rw [hob] at h6; injection h6 with h6; subst h6
        have := (h.range i k' v' _ h1 h3 h5).2.2; omega
      · simp only [PS.setHp, ei, ej, if_false] at h1 h2 h3 h4
        exact h.inj i j k' l v' u b h1 h2 h3 h4 h5 h6
  · have : ¬ id = f := fun e => hid (.inr e)
    simp only [this, if_false]
    exact h.used id (fun x => hid (.inl x))
  · intro id k' v' b h1 h2 h3
    by_cases e : id = f
    · subst e
      simp only [if_true, Option.some.injEq] at h2
      subst h2
      rw [hob] at h3; injection h3 with h3; subst h3
      refine ⟨.inl h.grows, fun ho => ?_, by simp⟩
      have := h.oc _ ho; have := h.grows; omega
    · simp only [PS.setHp, e, if_false] at h1 h2
      obtain ⟨r1, r2, r3⟩ := h.range id k' v' b h1 h2 h3
      exact ⟨r1, r2, Nat.lt_of_lt_of_le r3 (by simp)⟩
  · rw [heap_alloc_old w _ (Nat.lt_of_lt_of_le hb h.grows)]; exact h.frame b hb hA
theorem setBlock_self (w : World) (b : Nat) (o : Obj) (h : b < w.heap.size) : (ChangeMaps.setBlock w b o).heap[b]? = some o := by
  simp only [ChangeMaps.setBlock]; rw [Array.getElem?_setIfInBounds_self_of_lt h]
theorem setBlock_other (w : World) (b x : Nat) (o : Obj) (h : x ≠ b) : (ChangeMaps.setBlock w b o).heap[x]? = w.heap[x]? := by
  simp only [ChangeMaps.setBlock]; rw [Array.getElem?_setIfInBounds_ne (fun e => h e.symm)]
theorem SatR.setMap {C : Ctx} {U : Nat → Prop} {s : PS} {ρ : Nat → Option Value} {a : Act} {w : World} (h : SatR C U s ρ a w) {id len : Nat} {m m' : List Int → Option PV}
    (hid : s.hp id = some (.map len m)) {b : Nat} (hv : ρ id = some (.map (some b))) {es' : Array MapEntry} {clock' : Nat} (hok : MapRep (Own C s ρ) w len m' es'.toList) :
    SatR C U ⟨s.sl, PS.setHp s.hp [(id, some (.map len m'))]⟩ ρ a (ChangeMaps.setBlock w b (.map es' clock')) := by
  have hob : oblk (.map (some b)) = some b := rfl
  have hO : ∀ x, Own C ⟨s.sl, PS.setHp s.hp [(id, some (.map len m'))]⟩ ρ x → Own C s ρ x := by
    rintro x (ho | ⟨i, k, u, h1, h2, h3⟩)
    · exact .inl ho
    · by_cases e : i = id
      · subst e; exact .inr ⟨i, _, u, hid, h2, h3⟩
      · simp only [PS.setHp, e, if_false] at h1; exact .inr ⟨i, k, u, h1, h2, h3⟩
  have hin : Own C s ρ b := .inr ⟨id, _, _, hid, hv, hob⟩
  have hrange := h.range id _ _ b hid hv hob
  have hm : Moves (Own C s ρ) w (Own C ⟨s.sl, PS.setHp s.hp [(id, some (.map len m'))]⟩ ρ) (ChangeMaps.setBlock w b (.map es' clock')) :=
    ⟨by simp [ChangeMaps.setBlock], fun x _ hx => setBlock_other w b x _ (fun e => hx (e ▸ hin)), fun x _ => hO x⟩
  have hi : ∀ i k, PS.setHp s.hp [(id, some (.map len m'))] i = some k → ∃ k, s.hp i = some k := by
    intro i k h1
    by_cases e : i = id
    · subst e; exact ⟨_, hid⟩
    · simp only [PS.setHp, e, if_false] at h1; exact ⟨k, h1⟩
  refine ⟨h.defers, h.size, fun d x hx => (h.slots d x hx).mono hm (fun _ _ x => x), fun i k hik => ?_, fun i j k l v' u b' h1 h2 h3 h4 h5 h6 => ?_, h.used, fun i k v' b' h1 h2 h3 => ?_, h.oc, h.os, h.tape, h.output, by simpa [ChangeMaps.setBlock] using h.grows, fun x hx hA => ?_, h.pins⟩
  · by_cases e : i = id
    · subst e
      simp only [PS.setHp, if_true, Option.some.injEq] at hik
      subst hik
      exact ⟨_, hv, b, es', clock', rfl, setBlock_self w b _ hrange.2.2, hok.mono hm⟩
    · simp only [PS.setHp, e, if_false] at hik
      obtain ⟨u, hu, hr⟩ := h.heap i k hik
      exact ⟨u, hu, hr.mono hm (fun _ _ x => x) (fun b2 hob2 => setBlock_other w b b2 _ (fun x => by subst x; exact e (h.inj i id _ _ u _ b2 hik hid hu hv hob2 hob)))⟩
  · obtain ⟨k', hk'⟩ := hi i k h1
    obtain ⟨l', hl'⟩ := hi j l h2
    exact h.inj i j k' l' v' u b' hk' hl' h3 h4 h5 h6
  · obtain ⟨k', hk'⟩ := hi i k h1
    simpa [ChangeMaps.setBlock] using h.range i k' v' b' hk' h2 h3
  · rw [setBlock_other w b x _ ?_]
    · exact h.frame x hx hA
    · rintro rfl
      rcases hrange.1 with hr | hr
      · omega
      · exact hA hr
section
variable {P : Program} {H : List Nat} {f : Nat} {V : PS} {K : Upd → Prop}
theorem snd_makeSlice {o : Oper} {T : TypeId} {x y : Operand} (ho : o.op = .makeSlice T x y) {e by' : Nat} {g : Bool} {zs : List PV} (hT : tEl P T = some e) (hby : tBytes P e = some by') (hvar : tVar P e = some (g, zs)) (_ : 0 < zs.length)
    {n c : Int} (hx : evalInt V x = some n) (hy : evalInt V y = some c) (h0 : 0 ≤ n) (hnc : n ≤ c) (hbytes : c * by' ≤ 140737488355328) (hmax : c ≤ maxLen) (hK : K ⟨.own f, [(f, some (.row zs.length (lift (List.replicate n.toNat zs))))]⟩) : ∃ u, K u ∧ StepA P o f V u := by
  obtain ⟨i, z, hi, hz, hsz, hbt, hzc⟩ := tb_run hby hvar
  refine ⟨_, hK, ?_⟩
  obtain ⟨m, rfl⟩ : ∃ m : Nat, n = m := ⟨n.toNat, by omega⟩
  obtain ⟨q, rfl⟩ : ∃ q : Nat, c = q := ⟨c.toNat, by omega⟩
  rw [Int.toNat_natCast]
  have hx' : x ∈ o.op.operands := by simp [ho, Op.operands]
  have hy' : y ∈ o.op.operands := by simp [ho, Op.operands]
  obtain ⟨kx, hkx⟩ := evalInt_some hx
  obtain ⟨ky, hky⟩ := evalInt_some hy
  have hrun : ∀ (w : World), (Instr.makeSlice T (.int kx m) (.int ky q)).run P w = .ok (.slice (some ⟨w.heap.size, 0, none⟩) m q) (w.alloc (.cells (madeCells z.cells (q * i.size)) e)) := by
    intro w
    have := run_make (P := P) w T e i z (el_run hT) hi hz kx ky m q h0 hnc (by rw [hbt, Int.mul_comm]; omega) (by unfold maxLen at hmax; omega)
    simpa using this
  by_cases hq : q = 0
  · subst hq
    have hm : m = 0 := by omega
    subst hm
    -- no cell: a row that takes none
    intro C U s a w hd hf hV hH ⟨ρ, hs⟩ Q
    have e1 := (hs.eval (hV x hx' _ hkx)).lit
    have e2 := (hs.eval (hV y hy' _ hky)).lit
    have hs1 := (hs.alloc (.cells (madeCells z.cells (0 * i.size)) e)).newNil hf zs.length (some ⟨w.heap.size, 0, none⟩)
    have := hs1.put hd (x := .own f) (v := .slice (some ⟨w.heap.size, 0, none⟩) 0 0) (.own f _ _ _ (by simp))
    have hex : (execOp a.eval o).run P w = .ok (.value (.slice (some ⟨w.heap.size, 0, none⟩) 0 0)) (w.alloc (.cells (madeCells z.cells (0 * i.size)) e)) := by
      have hw := hrun w
      simp only [execOp, ho, e1, e2, Sem.run_bind, hw, Result.andThen_ok, Sem.run_pure]
    exact wp_value hex ⟨_, this⟩
  · refine stepA_own (.inl rfl) fun O ρ s a w hV hE hH hN => ?_
    have e1 := (hE x _ (hV x hx' _ hkx)).lit
    have e2 := (hE y _ (hV y hy' _ hky)).lit
    have hlen : (lift (List.replicate m zs)).length = m := by simp [lift]
    have hzr : RepCells O ρ w (zs.map .p) z.cells := zero_info hvar (by simp [hi, hz]) O ρ w
    have hzl : z.cells.size = zs.length := by rw [hzc, hsz]
    refine ⟨.slice (some ⟨w.heap.size, 0, none⟩) m q, w, 
      .slice (some ⟨w.heap.size, 0, none⟩) m q, e, madeCells z.cells (q * i.size), q, (by
      have hw := hrun w
      simp only [execOp, ho, e1, e2, Sem.run_bind, hw, Result.andThen_ok, Sem.run_pure]), rfl, rfl, rfl, rfl, .inl (by rw [hlen]), by omega,
      ⟨by rw [hlen]; omega, by omega, by rw [size_madeCells, hsz], ?_, fun j y hy => ?_⟩, fun O' ρ' w' hρ' => .own f _ _ _ hρ'⟩
    · intro y hy
      simp only [lift, List.map_replicate] at hy
      rw [List.eq_of_mem_replicate hy]; simp
    · rw [lift_flatten, List.getElem?_map] at hy
      obtain ⟨y', hy', rfl⟩ := Option.map_eq_some_iff.1 hy
      obtain ⟨h1, h2⟩ := rep_flat zs m j y' hy'
      have hj := (List.getElem?_eq_some_iff.1 h1).1
      have hjq : j < q * i.size := by
        rw [hsz]; exact Nat.lt_of_lt_of_le h2 (Nat.mul_le_mul_right _ (by omega))
      have e3 : (madeCells z.cells (q * i.size)).getD j undef = z.cells.getD (j % zs.length) undef := by
        simp only [madeCells, Array.getD_eq_getD_getElem?, Array.getElem?_map, Array.getElem?_range, hjq, if_true, Option.map_some, Option.getD_some, hzl]
        have : j % zs.length < z.cells.size := by omega
        simp [this]
      rw [e3]
      exact ⟨hzr.2.1 _ _ (by rw [List.getElem?_map, h1]; rfl), hzr.2.2 _ (by rw [List.length_map]; exact hj)⟩
theorem tMap_run {T len e : Nat} (h : tMap P T = some (len, e)) : ∃ k, P.underlying T = some (.map k e) ∧ Maps.Keyed P k ∧ ∀ q, KeyOk len q → ∃ l, keyOf P k (keyV q) = some l := by
  unfold tMap at h
  split at h
  · rename_i k e' hT
    split at h
    · rename_i hk
      simp only [Option.some.injEq, Prod.mk.injEq] at h
      obtain ⟨rfl, rfl⟩ := h
      refine ⟨k, hT, Maps.int_keyed hk, fun q hq => ?_⟩
      match q, hq with
      | [n], hq => exact ⟨_, Maps.keyOf_int_mk hk (by
        simp only [Lit.wf, Bool.and_eq_true, decide_eq_true_eq, show IntKind.i64.min = -9223372036854775808 from rfl, show IntKind.i64.max = 9223372036854775807 from rfl]
        exact hq.2 n (by simp))⟩
      | [], hq => exact absurd hq.1 (by simp)
      | _ :: _ :: _, hq => exact absurd hq.1 (by simp)
    · cases h
  · cases h
theorem mapInt_inj : ∀ (p q : List Int), p.map (Value.int .i64) = q.map (Value.int .i64) → p = q
  | [], [], _ => rfl
  | [], _ :: _, h => by simp at h
  | _ :: _, [], h => by simp at h
  | a :: p, b :: q, h => by
    simp only [List.map_cons, List.cons.injEq, Value.int.injEq, true_and] at h
    rw [h.1, mapInt_inj p q h.2]
theorem keyV_inj {len : Nat} {p q : List Int} (hp : KeyOk len p) (hq : KeyOk len q) (h : keyV p = keyV q) : p = q := by
  have hl := hp.1.trans hq.1.symm
  match p, q, hl with
  | [], [], _ => rfl
  | [a], [b], _ => simp only [keyV, Value.int.injEq, true_and] at h; rw [h]
  | a :: a' :: r, b :: b' :: r', _ =>
    simp only [keyV, Value.agg.injEq, Array.mk.injEq] at h
    have : (a :: a' :: r).map (Value.int .i64) = (b :: b' :: r').map (Value.int .i64) := by simpa using h
    exact mapInt_inj _ _ this
theorem litInt_all {O : Nat → Prop} {w : World} : ∀ (xs : List PV) (q : List Int) (us : List Value), xs.mapM litInt = some q → us.length = xs.length → (∀ i x, xs[i]? = some x → RepP O w x (us.getD i undef)) → us = q.map (Value.int .i64)
  | [], q, us, h, hl, _ => by
    simp at h; subst h
    exact List.eq_nil_of_length_eq_zero hl
  | x :: xs, q, [], h, hl, _ => by simp at hl
  | x :: xs, q, u :: us, h, hl, hr => by
    rw [List.mapM_cons] at h
    obtain ⟨n, hn, h⟩ := Option.bind_eq_some_iff.1 h
    obtain ⟨ns, hns, h⟩ := Option.bind_eq_some_iff.1 h
    simp only [Option.pure_def, Option.some.injEq] at h; subst h
    have ih := litInt_all xs ns us hns (by simpa using hl) (fun i y hy => by simpa using hr (i + 1) y (by simpa using hy))
    have h0 := hr 0 x rfl
    simp only [List.getD_cons_zero] at h0
    unfold litInt at hn
    split at hn
    · simp only [Option.some.injEq] at hn; subst hn
      cases h0
      rw [ih]; rfl
    · cases hn
theorem keyQ_rep {O : Nat → Prop} {ρ : Nat → Option Value} {w : World} {v : AV} {q : List Int} (h : keyQ v = some q) {u : Value} (hu : RepA O ρ w v u) : u = keyV q := by
  unfold keyQ at h
  split at h
  · simp only [Option.some.injEq] at h; subst h; exact hu.lit
  · rename_i x y r
    have hu' := hu.unP
    cases hu' with
    | agg _ us h1 h2 h3 =>
      have := litInt_all _ _ us.toList h (by simpa using h1) (fun i z hz => by
        have := h2 i z hz
        rw [List.getD_eq_getElem?_getD]; rw [Array.getD_eq_getD_getElem?] at this; simpa using this)
      have hlen : q.length = us.size := by have := congrArg List.length this; simpa using this.symm
      simp only [List.length_cons] at h1
      match q, hlen with
      | [], hlen => simp at hlen; omega
      | [_], hlen => simp at hlen; omega
      | a :: b :: c, _ => simp only [keyV]; rw [← this]
  · cases h
theorem zero_run {e : Nat} {z : PV} (hz : tZero P e = some z) (O : Nat → Prop) (w : World) : ∃ v, (zeroValue e).run P w = .ok v w ∧ RepP O w z v := by
  unfold tZero at hz
  split at hz
  · rename_i v hv
    obtain ⟨i, hi, hiz⟩ := Option.bind_eq_some_iff.1 hv
    split at hz
    · rename_i x hx
      simp only [Option.some.injEq] at hz; subst hz
      have := repA_const O (fun _ => none) w v
      rw [hx] at this
      exact ⟨v, by simp [zeroValue, typeInfo, hi, hiz], this.unP⟩
    · cases hz
  · cases hz
theorem map_shape {O : Nat → Prop} {ρ : Nat → Option Value} {w : World} {id len : Nat} {m : List Int → Option PV} {u v : Value} (hu : RepA O ρ w (.mp id) u) (hv : ρ id = some v) (hr : BlkRep O ρ w v (.map len m)) :
    ∃ b es clock, u = .map (some b) ∧ v = .map (some b) ∧ w.heap[b]? = some (.map es clock) ∧ MapRep O w len m es.toList := by
  cases hu with
  | mp _ _ hi =>
    rw [hv] at hi; injection hi with hi; subst hi
    obtain ⟨b, es, clock, e, h1, h2⟩ := hr
    injection e with e; subst e
    exact ⟨b, es, clock, rfl, rfl, h1, h2⟩
theorem map_find {k len : Nat} (hK : Maps.Keyed P k) (hfit : ∀ q, KeyOk len q → ∃ l, keyOf P k (keyV q) = some l) {O : Nat → Prop} {w : World} {m : List Int → Option PV} {es : List MapEntry} (h : MapRep O w len m es) {q : List Int} (hq : KeyOk len q) :
    ((Instr.findKey k (keyV q) es).run P w = .ok none w ∧ m q = none ∧ ∀ e ∈ es, e.key ≠ keyV q) ∨ ∃ j e x, (Instr.findKey k (keyV q) es).run P w = .ok (some (j, e.val)) w ∧ es[j]? = some e ∧ e.key = keyV q ∧ m q = some x ∧ RepP O w x e.val := by
  obtain ⟨l, hl⟩ := hfit q hq
  rcases hK.find w hl es (fun e he => by
    obtain ⟨p, x, g1, g2, _⟩ := h.1 e he
    rw [g2]; exact hfit p g1) with ⟨h1, h2⟩ | ⟨j, e, h1, h2, h3⟩
  · refine .inl ⟨h1, ?_, h2⟩
    cases hm : m q with
    | none => rfl
    | some x =>
      obtain ⟨_, e, he, hk⟩ := h.2.2 q x hm
      exact absurd hk (h2 e he)
  · obtain ⟨p, x, g1, g2, g3, g4⟩ := h.1 e (List.mem_of_getElem? h2)
    have : p = q := keyV_inj g1 hq (g2.symm.trans h3)
    subst this
    exact .inr ⟨j, e, x, h1, h2, h3, g3, g4⟩
theorem snd_makeMap {o : Oper} {T len e : Nat} (ho : o.op = .makeMap T none) (_ : tMap P T = some (len, e)) (hK : K ⟨.mp f, [(f, some (.map len fun _ => none))]⟩) : ∃ u, K u ∧ StepA P o f V u := by
  refine ⟨_, hK, ?_⟩
  intro C U s a w hd hf hV hH ⟨ρ, hs⟩ Q
  have hex : (execOp a.eval o).run P w = .ok (.value (.map (some w.heap.size))) (w.alloc (.map #[] 0)) := by
    have := run_makeMap (P := P) T w
    simp only [execOp, ho, Option.map_none, Sem.run_bind, this, Result.andThen_ok, Sem.run_pure]
  have h1 := (hs.newAny hf (.map #[] 0) (.map (some w.heap.size)) (.map len fun _ => none) rfl (fun O ρ w' hw => ⟨_, #[], 0, rfl, hw, fun e he => by simp at he, by simp, fun q x hq => by cases hq⟩)).put hd (x := .mp f) (v := .map (some w.heap.size)) (.mp f _ (by simp))
  exact wp_value hex ⟨fun i => if i = f then some (.map (some w.heap.size)) else ρ i, h1⟩
theorem snd_lookup {o : Oper} {T : TypeId} {x y : Operand} {ok : Bool} (ho : o.op = .lookup T x y ok) {len e id : Nat} (hT : tMap P T = some (len, e)) (hx : V.eval x = some (.mp id)) {m : List Int → Option PV} (hid : V.hp id = some (.map len m)) {v : AV}
    (hy : V.eval y = some v) {q : List Int} (hq : keyQ v = some q) (hok : KeyOk len q) {z : PV} (hz : tZero P e = some z) (hK : K ⟨.p (lookR ok (m q) z), []⟩) : ∃ u, K u ∧ StepA P o f V u :=
  mk_pure hK fun O ρ s a w hE hH => by
    obtain ⟨k, hT', hKd, hfit⟩ := tMap_run hT
    obtain ⟨v', hv', hr⟩ := hH id _ hid
    obtain ⟨b, es, clock, hu, rfl, hb, hm⟩ := map_shape (hE x (by simp [ho, Op.operands]) _ hx) hv' hr
    have hkey := keyQ_rep hq (hE y (by simp [ho, Op.operands]) _ hy)
    obtain ⟨zv, hzr, hzp⟩ := zero_run hz O w
    obtain ⟨l, hl⟩ := hfit q hok
    have hchk := hKd.check w es.isEmpty hl
    rcases map_find hKd hfit hm hok with ⟨h1, h2, _⟩ | ⟨j, en, xv, h1, _, _, h2, h3⟩
    · have hrun : ∀ c : Bool, (Instr.lookup T (.map (some b)) (keyV q) c).run P w = .ok (if c then .tuple #[zv, .bool false] else zv) w := by
        intro c
        simp only [Instr.lookup, Sem.run_bind, run_underlying hT', Result.andThen_ok, MapKept.run_getObj_map hb, Sem.run_pure, hchk, h1, hzr]
      refine ⟨if ok then .tuple #[zv, .bool false] else zv, by simp only [execOp, ho, hu, hkey, Sem.run_bind, hrun, Result.andThen_ok, Sem.run_pure], ?_⟩
      rw [h2]
      cases ok with
      | false => exact .p _ _ hzp
      | true =>
        refine .p _ _ (.tup _ _ rfl (fun i x hx => ?_))
        match i, hx with
        | 0, hx => simp only [List.getElem?_cons_zero, Option.some.injEq] at hx; subst hx; exact hzp
        | 1, hx => simp only [List.getElem?_cons_succ, List.getElem?_cons_zero, Option.some.injEq] at hx; subst hx; exact .lit _
        | i + 2, hx => simp at hx
    · have hrun : ∀ c : Bool, (Instr.lookup T (.map (some b)) (keyV q) c).run P w = .ok (if c then .tuple #[en.val, .bool true] else en.val) w := by
        intro c
        simp only [Instr.lookup, Sem.run_bind, run_underlying hT', Result.andThen_ok, MapKept.run_getObj_map hb, Sem.run_pure, hchk, h1]
      refine ⟨if ok then .tuple #[en.val, .bool true] else en.val, by simp only [execOp, ho, hu, hkey, Sem.run_bind, hrun, Result.andThen_ok, Sem.run_pure], ?_⟩
      rw [h2]
      cases ok with
      | false => exact .p _ _ h3
      | true =>
        refine .p _ _ (.tup _ _ rfl (fun i x hx => ?_))
        match i, hx with
        | 0, hx => simp only [List.getElem?_cons_zero, Option.some.injEq] at hx; subst hx; exact h3
        | 1, hx => simp only [List.getElem?_cons_succ, List.getElem?_cons_zero, Option.some.injEq] at hx; subst hx; exact .lit _
        | i + 2, hx => simp at hx
theorem mapRep_put {O : Nat → Prop} {w : World} {len : Nat} {m : List Int → Option PV} {es es' : List MapEntry} (h : MapRep O w len m es) {q : List Int} (hq : KeyOk len q) {x : PV} {xv : Value} (hx : RepP O w x xv)
    (hcase : ((∃ bn, es' = es ++ [⟨keyV q, xv, bn⟩]) ∧ ∀ e ∈ es, e.key ≠ keyV q) ∨ ∃ (j : Nat) (e : MapEntry), es[j]? = some e ∧ e.key = keyV q ∧ es' = es.set j { e with key := keyV q, val := xv }) : MapRep O w len (setM m q x) es' := by
  rcases hcase with ⟨⟨bn, rfl⟩, hno⟩ | ⟨j, e0, hj, hk, rfl⟩
  · refine ⟨fun e hm => ?_, ?_, fun p y hp => ?_⟩
    · rcases List.mem_append.1 hm with hm | hm
      · obtain ⟨p, y, g1, g2, g3, g4⟩ := h.1 e hm
        have hne : p ≠ q := fun e1 => hno e hm (by rw [g2, e1])
        exact ⟨p, y, g1, g2, by simp [setM, hne, g3], g4⟩
      · simp only [List.mem_singleton] at hm; subst hm
        exact ⟨q, x, hq, rfl, by simp [setM], hx⟩
    · refine List.pairwise_append.2 ⟨h.2.1, by simp, fun a ha b hb => ?_⟩
      simp only [List.mem_singleton] at hb; subst hb
      exact hno a ha
    · unfold setM at hp
      split at hp
      · rename_i e1; subst e1
        exact ⟨hq, ⟨keyV p, xv, bn⟩, by simp, rfl⟩
      · obtain ⟨hpk, e, hm, hk⟩ := h.2.2 p y hp
        exact ⟨hpk, e, by simp [hm], hk⟩
  · have hjl := (List.getElem?_eq_some_iff.1 hj).1
    have hje := (List.getElem?_eq_some_iff.1 hj).2
    have hget : ∀ (i : Nat) (e : MapEntry), (es.set j { e0 with key := keyV q, val := xv })[i]? = some e → (i = j ∧ e = { e0 with key := keyV q, val := xv }) ∨ (i ≠ j ∧ es[i]? = some e) := by
      intro i e hi
      rw [List.getElem?_set] at hi
      by_cases e1 : j = i
      · subst e1
        simp only [hjl, if_true, Option.some.injEq] at hi
        exact .inl ⟨rfl, hi.symm⟩
      · simp only [e1, if_false] at hi; exact .inr ⟨fun h => e1 h.symm, hi⟩
    have hap : ∀ (i : Nat) (e : MapEntry), i ≠ j → es[i]? = some e → e.key ≠ keyV q := by
      intro i e hne hi
      have hil := (List.getElem?_eq_some_iff.1 hi).1
      have hie := (List.getElem?_eq_some_iff.1 hi).2
      have hp := List.pairwise_iff_getElem.1 h.2.1
      rw [← hk, ← hie, ← hje]
      rcases Nat.lt_or_gt_of_ne hne with h1 | h1
      · exact hp i j hil hjl h1
      · exact (hp j i hjl hil h1).symm
    refine ⟨fun e hm => ?_, ?_, fun p y hp => ?_⟩
    · obtain ⟨i, hi⟩ := List.getElem?_of_mem hm
      rcases hget i e hi with ⟨_, rfl⟩ | ⟨hne, hi⟩
      · exact ⟨q, x, hq, rfl, by simp [setM], hx⟩
      · obtain ⟨p, y, g1, g2, g3, g4⟩ := h.1 e (List.mem_of_getElem? hi)
        have hpq : p ≠ q := fun e1 => hap i e hne hi (by rw [g2, e1])
        exact ⟨p, y, g1, g2, by simp [setM, hpq, g3], g4⟩
    · rw [List.pairwise_iff_getElem]
      intro i k hi hk' hlt
      have h1 := hget i _ (List.getElem?_eq_getElem hi)
      have h2 := hget k _ (List.getElem?_eq_getElem hk')
      have hp := List.pairwise_iff_getElem.1 h.2.1
      rcases h1 with ⟨rfl, e1⟩ | ⟨n1, e1⟩
      · rcases h2 with ⟨rfl, _⟩ | ⟨n2, e2⟩
        · omega
        · rw [e1]; exact (hap k _ n2 e2).symm
      · rcases h2 with ⟨rfl, e2⟩ | ⟨n2, e2⟩
        · rw [e2]; exact hap i _ n1 e1
        · have a1 := List.getElem?_eq_some_iff.1 e1
          have a2 := List.getElem?_eq_some_iff.1 e2
          rw [← a1.2, ← a2.2]
          exact hp i k a1.1 a2.1 hlt
    · have hlen : j < (es.set j { e0 with key := keyV q, val := xv }).length := by simp [hjl]
      unfold setM at hp
      split at hp
      · rename_i e1; subst e1
        exact ⟨hq, { e0 with key := keyV p, val := xv }, List.mem_of_getElem? (i := j) (by rw [List.getElem?_set]; simp [hjl]), rfl⟩
      · rename_i hpq
        obtain ⟨hpk, e, hm, hk2⟩ := h.2.2 p y hp
        obtain ⟨i, hi⟩ := List.getElem?_of_mem hm
        have hne : i ≠ j := by
          rintro rfl
          rw [hj] at hi; injection hi with hi; subst hi
          exact hpq (keyV_inj hpk hq (hk2.symm.trans hk))
        exact ⟨hpk, e, List.mem_of_getElem? (i := i) (by rw [List.getElem?_set]; simp [hne.symm, hi]), hk2⟩
theorem snd_mapUpdate {o : Oper} {T : TypeId} {x y z : Operand} (ho : o.op = .mapUpdate T x y z) (hdn : o.dst = none) {len e id : Nat} (hT : tMap P T = some (len, e)) (hx : V.eval x = some (.mp id)) {m : List Int → Option PV} (hid : V.hp id = some (.map len m)) {v : AV}
    (hy : V.eval y = some v) {q : List Int} (hq : keyQ v = some q) (hok : KeyOk len q) {u : PV} (hz : V.eval z = some (.p u)) (hK : K ⟨.p (.lit undef), [(id, some (.map len (setM m q u)))]⟩) : ∃ u, K u ∧ StepA P o f V u := by
  refine ⟨_, hK, ?_⟩
  intro C U s a w hd hf hV hH ⟨ρ, hs⟩ Q
  obtain ⟨k, hT', hKd, hfit⟩ := tMap_run hT
  have hid' := hH id _ hid
  obtain ⟨v', hv', hr⟩ := hs.heap id _ hid'
  obtain ⟨b, es, clock, hu, rfl, hb, hm⟩ := map_shape (hs.eval (hV x (by simp [ho, Op.operands]) _ hx)) hv' hr
  have hkey := keyQ_rep hq (hs.eval (hV y (by simp [ho, Op.operands]) _ hy))
  have hval := (hs.eval (hV z (by simp [ho, Op.operands]) _ hz)).unP
  obtain ⟨l, hl⟩ := hfit q hok
  have hchk := hKd.check w false hl
  have key : ∃ es' clock', (Instr.mapUpdate T (.map (some b)) (keyV q) (a.eval z)).run P w = .ok () (ChangeMaps.setBlock w b (.map es' clock')) ∧ MapRep (Own C s ρ) w len (setM m q u) es'.toList := by
    rcases map_find hKd hfit hm hok with ⟨h1, h2, h3⟩ | ⟨j, en, xv, h1, h2, h3, _, _⟩
    · refine ⟨es.push ⟨keyV q, a.eval z, clock⟩, clock + 1, ?_, mapRep_put hm hok hval (.inl ⟨⟨clock, by simp⟩, h3⟩)⟩
      simp only [Instr.mapUpdate, Sem.run_bind, run_underlying hT', Result.andThen_ok, MapKept.run_getObj_map hb, hchk, h1, MapKept.run_setObj_map _ hb]; rfl
    · have hj : es[j]? = some en := by simpa using h2
      have hjl := (Array.getElem?_eq_some_iff.1 hj).1
      have hje := (Array.getElem?_eq_some_iff.1 hj).2
      have hst := hKd.stays w hl
      refine ⟨es.modify j fun e => { e with key := keyV q, val := a.eval z }, clock, ?_, mapRep_put hm hok hval (.inr ⟨j, en, h2, h3, ?_⟩)⟩
      · simp only [Instr.mapUpdate, Sem.run_bind, run_underlying hT', Result.andThen_ok, MapKept.run_getObj_map hb, hchk, h1, hj, Option.map_some, Option.getD_some, h3, hst, MapKept.run_setObj_map _ hb]; rfl
      · rw [Array.toList_modify]
        apply List.ext_getElem?
        intro i
        rw [List.getElem?_modify, List.getElem?_set]
        by_cases e1 : j = i
        · subst e1; simp [hjl, hje]
        · simp [e1]
  obtain ⟨es', clock', hrun, hmr⟩ := key
  have hex : (execOp a.eval o).run P w = .ok .skip (ChangeMaps.setBlock w b (.map es' clock')) := by
    simp only [execOp, ho, hu, hkey, Sem.run_bind, hrun, Result.andThen_ok, Sem.run_pure]
  have h1 := hs.setMap hid' hv' (es' := es') (clock' := clock') hmr
  unfold Oper.wp
  rw [hex, hdn]
  simp only [Oper.upon, hdn]
  exact ⟨ρ, h1.widen (fun _ => .inl)⟩
end
end Go.Am
namespace Go.Am
open Go.RowKit
section
variable {P : Program} {H : List Nat} {f : Nat} {V : PS} {K : Upd → Prop}
theorem clr_length (es : List (List AV)) (lo n : Nat) (zs : List PV) (h : lo + n ≤ es.length) : (clr es lo n zs).length = es.length := by
  simp only [clr, List.length_append, List.length_take, List.length_replicate, List.length_drop]; omega
theorem clr_lift (es : List (List PV)) (lo n : Nat) (zs : List PV) : clr (lift es) lo n zs = lift (es.take lo ++ (List.replicate n zs ++ es.drop (lo + n))) := by
  simp [clr, lift, List.map_take, List.map_drop]
theorem litV_rep {O : Nat → Prop} {w : World} : ∀ (cs : List PV) (vs : List Value) (us : Array Value), cs.mapM litV = some vs → us.size = cs.length → (∀ i x, cs[i]? = some x → RepP O w x (us.getD i undef)) → us = vs.toArray := by
  intro cs vs us hm hs hr
  have hl : vs.length = cs.length := by
    have : ∀ (cs : List PV) (vs : List Value), cs.mapM litV = some vs → vs.length = cs.length := by
      intro cs
      induction cs with
      | nil => intro vs h; simp at h; subst h; rfl
      | cons x cs ih =>
        intro vs h
        simp only [List.mapM_cons, Option.bind_eq_bind, Option.bind_eq_some_iff] at h
        obtain ⟨v, _, vs', h2, h3⟩ := h
        simp only [Option.pure_def, Option.some.injEq] at h3
        subst h3
        simp [ih vs' h2]
    exact this cs vs hm
  refine Array.ext (by simp [hs, hl]) fun i h1 h2 => ?_
  have hc : i < cs.length := by omega
  obtain ⟨b, hb, hb2⟩ := mapM_get cs vs hm i cs[i] (by simp [hc])
  have h3 := hr i cs[i] (by simp [hc])
  have e1 : us.getD i undef = us[i] := by rw [Array.getD_eq_getD_getElem?]; simp [h1]
  have e2 : vs[i] = b := by
    have : vs[i]? = some vs[i] := by simp
    rw [this] at hb2; injection hb2
  rw [e1] at h3
  simp only [List.getElem_toArray, e2]
  generalize us[i] = q at h3
  generalize hz : cs[i] = z at hb h3
  cases z with
  | lit v => simp only [litV, Option.some.injEq] at hb; subst hb; cases h3; rfl
  | agg => simp [litV] at hb
  | tup => simp [litV] at hb
  | seq => simp [litV] at hb
theorem litOf_rep {O : Nat → Prop} {w : World} {p : PV} {u v : Value} (h : litOf p = some u) (hr : RepP O w p v) : v = u := by
  cases hr with
  | lit v => simpa [litOf] using h
  | agg cs vs h1 h2 _ =>
    simp only [litOf, Option.map_eq_some_iff] at h
    obtain ⟨us, hm, rfl⟩ := h
    rw [litV_rep cs us vs hm h1 h2]
  | tup => simp [litOf] at h
  | nilseq => simp [litOf] at h
  | seq => simp [litOf] at h
theorem tConc_run {t : TypeId} (h : tConc P t = true) : ∃ d, P.underlying t = some d ∧ ∀ ms, d ≠ .interface ms := by
  unfold tConc at h
  split at h
  · cases h
  · rename_i d hd hn; exact ⟨_, hn, fun ms e => hd ms e⟩
  · cases h
theorem snd_makeInterface {o : Oper} {T : TypeId} {x : Operand} (ho : o.op = .makeInterface T x) (hT : tConc P T = true) {p : PV} (hx : V.eval x = some (.p p)) {u : Value} (hu : litOf p = some u) (hK : K ⟨.p (.lit (.iface T u)), []⟩) : ∃ u, K u ∧ StepA P o f V u :=
  mk_pure hK fun O ρ s a w hE _ => by
    have h1 := litOf_rep hu (hE x (by simp [ho, Op.operands]) _ hx).unP
    obtain ⟨d, hd, hn⟩ := tConc_run hT
    refine ⟨_, ?_, .p _ _ (.lit _)⟩
    simp only [execOp, ho, h1, Instr.makeInterface, Sem.run_bind, run_underlying hd, Result.andThen_ok]
    cases d <;> first | rfl | exact absurd rfl (hn _)
theorem snd_typeAssert {o : Oper} {xT T : TypeId} {x : Operand} (ho : o.op = .typeAssert x xT T true) (hT : tConc P T = true) {u : Value} (hx : V.eval x = some (.p (.lit (.iface T u)))) (hK : K ⟨.tup [constAV u, .p (.lit (.bool true))], []⟩) : ∃ u, K u ∧ StepA P o f V u :=
  mk_pure hK fun O ρ s a w hE _ => by
    have h1 := (hE x (by simp [ho, Op.operands]) _ hx).lit
    obtain ⟨d, hd, hn⟩ := tConc_run hT
    refine ⟨.tuple #[u, .bool true], ?_, .tup _ _ rfl (fun i y hy => ?_)⟩
    · simp only [execOp, ho, h1, Instr.typeAssert, Sem.run_bind, run_underlying hd, Result.andThen_ok]
      cases d <;> first | simp | exact absurd rfl (hn _)
    · match i, hy with
      | 0, hy => simp only [List.getElem?_cons_zero, Option.some.injEq] at hy; subst hy; exact repA_const _ _ _ _
      | 1, hy => simp only [List.getElem?_cons_succ, List.getElem?_cons_zero, Option.some.injEq] at hy; subst hy; exact .p _ _ (.lit _)
theorem b2s_run {src d : TypeId} (h : tB2S P src d = true) : ∃ e k, P.underlying src = some (.slice e) ∧ P.underlying d = some .string ∧ P.underlying e = some (.int k) ∧ k = .u8 := by
  unfold tB2S at h
  split at h
  · rename_i e h1 h2
    split at h
    · rename_i h3; exact ⟨e, _, h1, h2, h3, rfl⟩
    · cases h
  · cases h
theorem byteOf_some {cs : List PV} {n : Int} (h : byteOf cs = some n) : cs = [.lit (.int .u8 n)] := by
  unfold byteOf at h
  split at h
  · simp only [Option.some.injEq] at h; subst h; rfl
  · cases h
theorem snd_b2s {o : Oper} {src d : TypeId} {x : Operand} (ho : o.op = .convert src d x) (hB : tB2S P src d = true) {c : Bool} {es : List (List PV)} (hx : V.eval x = some (.p (.seq c es))) {s : ByteArray} (hs : strOf es = some s) (hK : K ⟨.p (.lit (.string s)), []⟩) : ∃ u, K u ∧ StepA P o f V u :=
  mk_pure hK fun O ρ s0 a w hE _ => by
    obtain ⟨e, k, h1, h2, h3, rfl⟩ := b2s_run hB
    have hr := (hE x (by simp [ho, Op.operands]) _ hx).unP
    obtain ⟨vs, ⟨ad, cp, hv, hcell⟩, hlen, hrep⟩ := lies_seq hr
    simp only [strOf, Option.map_eq_some_iff] at hs
    obtain ⟨ns, hm, rfl⟩ := hs
    have hget : ∀ (i : Nat) (cs : List PV), es[i]? = some cs → ∃ n, cs = [.lit (.int .u8 n)] ∧ ns[i]? = some n := fun i cs hi => by
      obtain ⟨n, hn, hn2⟩ := mapM_get es ns hm i cs hi
      exact ⟨n, byteOf_some hn, hn2⟩
    have hl1 : ∀ y, y ∈ es → y.length = 1 := fun y hy => by
      obtain ⟨i, hi, rfl⟩ := List.getElem_of_mem hy
      obtain ⟨n, hn, _⟩ := hget i es[i] (by simp [hi]); rw [hn]; rfl
    have hfl := flat_len 1 es hl1
    have hnl : ns.length = es.length := by
      have : ∀ (es : List (List PV)) (ns : List Int), es.mapM byteOf = some ns → ns.length = es.length := by
        intro es
        induction es with
        | nil => intro ns h; simp at h; subst h; rfl
        | cons x es ih =>
          intro ns h
          simp only [List.mapM_cons, Option.bind_eq_bind, Option.bind_eq_some_iff] at h
          obtain ⟨v, _, ns', h2, h3⟩ := h
          simp only [Option.pure_def, Option.some.injEq] at h3
          subst h3; simp [ih ns' h2]
      exact this es ns hm
    have hvs : vs = ns.map (Value.int .u8) := by
      refine List.ext_getElem (by rw [hlen, hfl, List.length_map, hnl]; omega) fun j j1 j2 => ?_
      have hj : j < es.length := by rw [hlen, hfl] at j1; omega
      obtain ⟨n, hn, hn2⟩ := hget j es[j] (by simp [hj])
      have hf : es.flatten[j]? = some (.lit (.int .u8 n)) := by
        have := flat_get 1 es j 0 es[j] hl1 (by simp [hj]) (by omega)
        rw [Nat.mul_one, Nat.add_zero] at this
        rw [this, hn]; rfl
      have h4 := (hrep j _ hf).1
      rw [List.getD_eq_getElem?_getD, List.getElem?_eq_getElem j1, Option.getD_some] at h4
      have h5 : ns[j]'(by omega) = n := by
        have : ns[j]? = some (ns[j]'(by omega)) := by simp [show j < ns.length by omega]
        rw [this] at hn2; injection hn2
      rw [List.getElem_map, h5]
      generalize vs[j] = q at h4
      cases h4; rfl
    refine ⟨.string (strI ns), ?_, .p _ _ (.lit _)⟩
    have hrun : (Conv.bytesToString (a.eval x)).run P w = .ok (.string (strI ns)) w := by
      rw [hv]
      cases ad with
      | none =>
        have h0 : es.length = 0 := by
          rcases Nat.eq_zero_or_pos es.length with h | h
          · exact h
          · obtain ⟨b, hb, _⟩ := hcell h; cases hb
        have : ns = [] := List.eq_nil_of_length_eq_zero (by omega)
        subst this
        simp [Conv.bytesToString, strI]
      | some ad =>
        have hlc : (loadCells ad es.length).run P w = .ok (ns.map (Value.int .u8)).toArray w := by
          have hcc : ∀ j v, (ns.map (Value.int .u8))[j]? = some v → w.cell? (ad.add j) = some v := fun j v hj => by
            have hjl := (List.getElem?_eq_some_iff.1 hj).1
            rw [List.length_map] at hjl
            obtain ⟨b, hb, hbc⟩ := hcell (by omega)
            injection hb with hb; subst hb
            exact hbc j v (by rw [hvs]; exact hj)
          have := run_loadCells_list (P := P) w ad (ns.map (Value.int .u8)) hcc
          rwa [List.length_map, hnl] at this
        exact run_bytesToString w ad es.length cp ns hlc
    simp only [execOp, ho, convert, Sem.run_bind, run_underlying h1, run_underlying h2, Result.andThen_ok]
    rw [hv] at hrun ⊢
    simp only [Sem.run_bind, run_underlying h3, Result.andThen_ok, hrun, Sem.run_pure]
theorem snd_clear {o : Oper} {args : Array Operand} {ts : Array TypeId} {x : Operand} {t e : Nat} (ho : o.op = .call ⟨.builtin .clear, args, ts⟩) (ha : args.toList = [x]) (ht : ts.toList = [t]) (hT : tEl P t = some e)
    {g : Bool} {zs : List PV} (hvar : tVar P e = some (g, zs)) {id lo n : Nat} (hv : V.eval x = some (.sub id zs.length lo n)) {es : List (List AV)} (hid : V.hp id = some (.row zs.length es)) (hle : lo + n ≤ es.length)
    (hK : K ⟨.p (.tup []), [(id, some (.row zs.length (clr es lo n zs)))]⟩) : ∃ u, K u ∧ StepA P o f V u := by
  refine ⟨_, hK, ?_⟩
  intro C U s a w hd _ hV hH ⟨ρ, hs⟩ Q
  have ha' : args = #[x] := by rw [← Array.toArray_toList (xs := args), ha]
  have ht' : ts = #[t] := by rw [← Array.toArray_toList (xs := ts), ht]
  subst ha' ht'
  have hid' := hH id _ hid
  obtain ⟨u, hu, hb⟩ := hs.heap id _ hid'
  have hx := hs.eval (hV x (by simp [ho, Op.operands, Call.operands]) _ hv)
  have htup : RepA (Own C (s.upd none ⟨.p (.tup []), [(id, some (.row zs.length (clr es lo n zs)))]⟩) ρ) ρ w (.p (.tup [])) (.tuple #[]) := .p _ _ (.tup [] #[] rfl (fun i x h => by simp at h))
  have zero : n = 0 → (∃ ad c, a.eval x = .slice ad 0 c) → o.wp P a w (fun a' w' => Sat C (fun i => U i ∨ i = f) (s.upd o.dst ⟨.p (.tup []), [(id, some (.row zs.length (clr es lo n zs)))]⟩) a' w') Q := by
    rintro rfl ⟨ad, c, he⟩
    have hex : (execOp a.eval o).run P w = .ok (.value (.tuple #[])) w := by
      cases ad <;> simp [execOp, ho, resolve, invoke, builtin, he, Builtin.clear_, run_underlying (el_run hT)]
    have hes : clr es lo 0 zs = es := by simp [clr]
    rw [hes]
    refine wp_value hex ?_
    have e1 : s.upd o.dst ⟨.p (.tup []), [(id, some (.row zs.length es))]⟩ = s.upd o.dst ⟨.p (.tup []), []⟩ := by
      simp only [PS.upd, PS.setHp, PS.mk.injEq, true_and]
      funext j
      by_cases e : j = id
      · subst e; simp [hid']
      · simp [e]
    rw [e1]
    exact ⟨ρ, (hs.put hd (.p _ _ (.tup [] #[] rfl (fun i x h => by simp at h)))).widen (fun _ => .inl)⟩
  generalize hax : a.eval x = vx at hx
  cases hx with
  | sub0 _ _ _ ad c => exact zero rfl ⟨ad, c, hax⟩
  | sub _ _ _ len cap c _ b hi hc0 =>
    rw [hu] at hi; injection hi with hi; subst hi
    rcases Nat.eq_zero_or_pos n with h0 | hpos
    · subst h0; exact zero rfl ⟨_, _, hax⟩
    rcases hb with ⟨rfl, a', ha'⟩ | ⟨b', cap', cur, e', h1, h0, hw, hok⟩
    · simp at hle; omega
    have hbb : b' = b ∧ len = es.length ∧ cap' = cap := by
      rcases h1 with h1 | ⟨h1, _⟩
      · injection h1 with q1 q2 q3; injection q1 with q1; injection q1 with q1; exact ⟨q1.symm, q2, q3.symm⟩
      · cases h1
    obtain ⟨rfl, rfl, rfl⟩ := hbb
    obtain ⟨z, hz, hzr⟩ := repCells_zero (O := Own C s ρ) (ρ := ρ) hvar w w
    have hzl : z.cells.size = zs.length := by simpa using hzr.1
    have hlist : (Builtin.zeroCells z.cells n).toList.length = n * zs.length := by simp [size_zeroCells, hzl]
    have hsz := hok.2.2.1
    have hroom : lo * zs.length + (Builtin.zeroCells z.cells n).toList.length ≤ cur.size := by
      rw [hlist, ← Nat.add_mul, hsz]
      exact Nat.mul_le_mul_right _ (Nat.le_trans hle hok.1)
    have hzget : ∀ j, j < n * zs.length → (Builtin.zeroCells z.cells n).getD j undef = z.cells.getD (j % zs.length) undef := fun j hj => by
      rw [zeroCells_get _ _ _ (by rw [hzl]; exact hj), hzl]
    have h1c : ∀ y, y ∈ (Builtin.zeroCells z.cells n).toList → y.oneCell' = true := by
      intro y hy
      obtain ⟨i, hi, rfl⟩ := List.getElem_of_mem hy
      rw [hlist] at hi
      have h2 := hzget i hi
      have hp : 0 < zs.length := Nat.pos_of_ne_zero (fun h => by rw [h] at hi; simp at hi)
      have h3 := hzr.2.2 (i % zs.length) (by simpa using Nat.mod_lt _ hp)
      rw [← h2, Array.getD_eq_getD_getElem?] at h3
      have h4 : i < (Builtin.zeroCells z.cells n).size := by rw [size_zeroCells, hzl]; exact hi
      simpa [h4] using h3
    have hrun := run_storeCells_at (P := P) b' (lo * zs.length) e' (Builtin.zeroCells z.cells n).toList 0 cur w hw (by simpa using hroom) h1c
    simp only [Nat.add_zero] at hrun
    have hex : (execOp a.eval o).run P w = .ok (.value (.tuple #[])) (w.setRow b' (cur.toList.take (lo * zs.length) ++ (Builtin.zeroCells z.cells n).toList ++ cur.toList.drop (lo * zs.length + (Builtin.zeroCells z.cells n).toList.length)).toArray) := by
      obtain ⟨m, rfl⟩ : ∃ m, n = m + 1 := ⟨n - 1, by omega⟩
      simp [execOp, ho, resolve, invoke, builtin, hax, Builtin.clear_, run_underlying (el_run hT), hz, hrun]
    refine wp_value hex ?_
    refine ⟨ρ, ?_⟩
    have hlen := clr_length es lo n zs hle
    have hall : ∀ y, y ∈ clr es lo n zs → y.length = zs.length := by
      intro y hy
      simp only [clr, List.mem_append] at hy
      rcases hy with hy | hy | hy
      · exact hok.2.2.2.1 y (List.mem_of_mem_take hy)
      · rw [List.eq_of_mem_replicate hy]; simp
      · exact hok.2.2.2.1 y (List.mem_of_mem_drop hy)
    have hct : cur.toList.length = cur.size := Array.length_toList
    have hok' : BlkOk (Own C s ρ) ρ w zs.length (clr es lo n zs) cap' (cur.toList.take (lo * zs.length) ++ (Builtin.zeroCells z.cells n).toList ++ cur.toList.drop (lo * zs.length + (Builtin.zeroCells z.cells n).toList.length)).toArray := by
      refine ⟨by rw [hlen]; exact hok.1, hok.2.1, ?_, hall, fun j y hy => ?_⟩
      · simp only [List.size_toArray, List.length_append, List.length_take, List.length_drop]
        omega
      · have l1 : (es.take lo).flatten.length = lo * zs.length := by
          rw [flat_len zs.length _ (fun x hx => hok.2.2.2.1 x (List.mem_of_mem_take hx)), List.length_take, Nat.min_eq_left (by omega)]
        have l2 : (List.replicate n (zs.map AV.p)).flatten.length = n * zs.length := by
          rw [flat_len zs.length _ (fun x hx => by rw [List.eq_of_mem_replicate hx]; simp), List.length_replicate]
        have l3 : (es.take (lo + n)).flatten.length = (lo + n) * zs.length := by
          rw [flat_len zs.length _ (fun x hx => hok.2.2.2.1 x (List.mem_of_mem_take hx)), List.length_take, Nat.min_eq_left (by omega)]
        have f1 : es.flatten = (es.take lo).flatten ++ (es.drop lo).flatten := by rw [← List.flatten_append, List.take_append_drop]
        have f2 : es.flatten = (es.take (lo + n)).flatten ++ (es.drop (lo + n)).flatten := by rw [← List.flatten_append, List.take_append_drop]
        have keep : ∀ k, es.flatten[k]? = some y → (j < lo * zs.length ∨ (lo + n) * zs.length ≤ j) → k = j → RepA (Own C s ρ) ρ w y ((cur.toList.take (lo * zs.length) ++ (Builtin.zeroCells z.cells n).toList ++ cur.toList.drop (lo * zs.length + (Builtin.zeroCells z.cells n).toList.length)).toArray.getD j undef) ∧
            ((cur.toList.take (lo * zs.length) ++ (Builtin.zeroCells z.cells n).toList ++ cur.toList.drop (lo * zs.length + (Builtin.zeroCells z.cells n).toList.length)).toArray.getD j undef).oneCell' = true := by
          rintro k hk hj rfl
          have h4 := hok.2.2.2.2 k y hk
          have e1 : (cur.toList.take (lo * zs.length) ++ (Builtin.zeroCells z.cells n).toList ++ cur.toList.drop (lo * zs.length + (Builtin.zeroCells z.cells n).toList.length))[k]? = cur[k]? := by
            rcases hj with hj | hj
            · rw [List.append_assoc, List.getElem?_append_left (by rw [List.length_take]; omega), List.getElem?_take, if_pos hj]; simp
            · rw [Nat.add_mul] at hj
              rw [List.getElem?_append_right (by rw [List.length_append, List.length_take]; omega), List.getElem?_drop, Array.getElem?_toList]
              congr 1
              rw [List.length_append, List.length_take]; omega
          rw [Array.getD_eq_getD_getElem?, List.getElem?_toArray, e1, ← Array.getD_eq_getD_getElem?]; exact h4
        simp only [clr, List.flatten_append] at hy
        by_cases c1 : j < lo * zs.length
        · rw [List.getElem?_append_left (by omega)] at hy
          exact keep j (by rw [f1, List.getElem?_append_left (by omega)]; exact hy) (.inl c1) rfl
        · rw [List.getElem?_append_right (by omega), l1] at hy
          by_cases c2 : j - lo * zs.length < n * zs.length
          · rw [List.getElem?_append_left (by omega)] at hy
            obtain ⟨g1, g2⟩ := rep_flat (zs.map AV.p) n (j - lo * zs.length) y hy
            rw [List.length_map] at g1
            have hp : 0 < zs.length := Nat.pos_of_ne_zero (fun h => by rw [h] at c2; simp at c2)
            have e1 : (cur.toList.take (lo * zs.length) ++ (Builtin.zeroCells z.cells n).toList ++ cur.toList.drop (lo * zs.length + (Builtin.zeroCells z.cells n).toList.length)).toArray.getD j undef = z.cells.getD ((j - lo * zs.length) % zs.length) undef := by
              rw [← hzget _ c2, Array.getD_eq_getD_getElem?, List.getElem?_toArray, List.append_assoc, List.getElem?_append_right (by rw [List.length_take]; omega), List.getElem?_append_left (by rw [List.length_take]; omega),
                Array.getD_eq_getD_getElem?, Array.getElem?_toList]
              congr 2
              rw [List.length_take]; omega
            rw [e1]
            exact ⟨hzr.2.1 _ _ g1, hzr.2.2 _ (by rw [List.length_map]; exact Nat.mod_lt _ hp)⟩
          · rw [List.getElem?_append_right (by omega), l2] at hy
            refine keep ((lo + n) * zs.length + (j - lo * zs.length - n * zs.length)) ?_ (.inr (by rw [Nat.add_mul]; omega)) (by rw [Nat.add_mul]; omega)
            rw [f2, List.getElem?_append_right (by omega), l3, Nat.add_sub_cancel_left]; exact hy
    have hset := hs.setBlk hid' hu h1 h0 hw hlen hok'
    have hput := hset.put (dst := o.dst) hd (x := .p (.tup [])) (v := .tuple #[]) (.p _ _ (.tup [] #[] rfl (fun i x h => by simp at h)))
    exact hput.widen (fun _ => .inl)
end
end Go.Am
end
