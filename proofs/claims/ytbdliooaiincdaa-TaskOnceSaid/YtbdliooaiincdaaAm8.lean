/-
  The abstract machine, eighth part: all operations under one name.
-/
import Derived.Test.YtbdliooaiincdaaAm7
import Derived.Maps.Own
namespace Go.Am
open Go.RowKit

/-- what a call of a function of the program does, from whatever world that fits -/
def CallsA (P : Program) (g : FuncId) (xs : List AV) (f : Nat) (V : PS) (dst : Option Nat) (u : Upd) : Prop :=
  ∀ (C : Ctx) (U : Nat → Prop) (s : PS) (ρ : Nat → Option Value) (a : Act) (w : World) (vs : Array Value), (∀ d, dst = some d → d < C.n) → (∀ j, j < 7 → ¬ U (f + j)) → (∀ id k, V.hp id = some k → s.hp id = some k) → SatR C U s ρ a w →
    vs.size = xs.length → (∀ i x, xs[i]? = some x → RepA (Own C s ρ) ρ w x (vs.getD i undef)) →
    Calls P g vs w fun e w' => ∃ v, e = .returned v ∧ Sat C (fun i => U i ∨ (f ≤ i ∧ i < f + 7)) (s.upd dst u) (a.put dst v) w'

/-- a mark, so that a rule of congruence is never found to have changed nothing -/
def mark {α : Sort _} (a : α) : α := a
theorem mark_eq {α : Sort _} (a : α) : mark a = a := Eq.trans (Eq.symm (Eq.refl a)) (Eq.refl a)

/-- a call, shut away: nothing behind it is looked at before its contract is given -/
def callK (P : Program) (g : FuncId) (xs : List AV) (f : Nat) (V : PS) (dst : Option Nat) (K : Upd → Prop) : Prop := ∃ u, CallsA P g xs f V dst u ∧ K u
@[congr] theorem callK_congr {P : Program} {g : FuncId} {xs xs' : List AV} {f : Nat} {V : PS} {dst : Option Nat} {K : Upd → Prop} (h : mark xs = xs') : callK P g xs f V dst K = callK P g xs' f V dst K := by rw [← h, mark_eq]

def enters (P : Program) (f : FuncId) : Bool := match P.funcs[f]? with
  | some fn => fn.body.isSome && !(fn.name == "runtime.NumGoroutine")
  | none => false

def evals (V : PS) : List Operand → Option (List AV)
  | [] => some []
  | x :: r => match V.eval x, evals V r with
    | some v, some vs => some (v :: vs)
    | _, _ => none

def evalOpt (V : PS) : Option Operand → Option (Option Int)
  | none => some none
  | some x => match V.eval x with | some (.p (.lit (.int _ n))) => some (some n) | _ => none

def evalParts (V : PS) : List (Nat × Operand) → Option (List (Nat × List AV))
  | [] => some []
  | (i, x) :: r => match V.eval x, evalParts V r with
    | some v, some vs => match v.cells with
      | some cs => some ((i, cs) :: vs)
      | none => none
    | _, _ => none

/-- a slice literal's elements: each place once, in order -/
def evalRow (V : PS) (sz : Nat) : Nat → List (Nat × Operand) → Option (List (List PV))
  | _, [] => some []
  | k, (i, x) :: r => if i = k then match V.eval x, evalRow V sz (k + 1) r with
      | some v, some es => match v.cells with
        | some cs => match pures cs with
          | some ps => if ps.length = sz then some (ps :: es) else none
          | none => none
        | none => none
      | _, _ => none
    else none

def clipOf (c : Bool) (n : Nat) (h m : Option Int) : Bool :=
  match m with
  | some m => decide (h = some m)
  | none => match h with
    | none => c
    | some h => c && decide (h = n)

def aAppend (P : Program) (H : List Nat) (f : Nat) (V : PS) (dst : Option Nat) (t : TypeId) (s x : Operand) (K : Upd → Prop) : Prop :=
  ∃ e, tEl P t = some e ∧ ∃ by', tBytes P e = some by' ∧ ∃ g zs, tVar P e = some (g, zs) ∧ 0 < zs.length ∧ ∃ v, V.eval s = some v ∧ ∃ v2, V.eval x = some v2 ∧ ∃ es2, srcR V v2 es2 ∧ (∀ y, y ∈ es2 → y.length = zs.length) ∧
    match v with
    | .p (.seq true es1) => (∀ y, y ∈ es1 → y.length = zs.length) ∧ (es1.length + es2.length) * by' ≤ 140737488355328 ∧ es1.length + es2.length ≤ maxLen ∧
        if dst.any (H.contains ·) = true then (es1 = [] ∨ es2 ≠ []) ∧ K ⟨.own f, [(f, some (.row zs.length (lift (es1 ++ es2))))]⟩ else K ⟨.p (.seq false (es1 ++ es2)), []⟩
    | .own id => ∃ es1, V.hp id = some (.row zs.length (lift es1)) ∧ (es1.length + es2.length) * by' ≤ 140737488355328 ∧ es1.length + es2.length ≤ maxLen ∧ id ≠ f ∧
        if dst.any (H.contains ·) = true then K ⟨.own f, [(f, some (.row zs.length (lift (es1 ++ es2)))), (id, none)]⟩ else dst.isSome = true ∧ K ⟨.p (.seq false (es1 ++ es2)), [(f, none), (id, none)]⟩
    | _ => False

/-- a comparison that asks the type -/
def binT (P : Program) (op : BinOp) (T : TypeId) (u v r : Value) : Prop :=
  match op, u, v with
  | .eql, .bool a, .bool b => P.underlying T = some .bool ∧ r = .bool (a == b)
  | .neq, .bool a, .bool b => P.underlying T = some .bool ∧ r = .bool (a != b)
  | _, _, _ => False

/-- a struct of plain cells, side by side: of each cell its kind of numbers, or none for a bool -/
def flatKinds (P : Program) : Nat → List Field → Option (List (Option IntKind))
  | _, [] => some []
  | i, f :: fs => if f.offset = i ∧ (f.name != "_") = true then match P.underlying f.type, P.info? f.type, flatKinds P (i + 1) fs with
      | some (.int k), some d, some r => if d.size = 1 then some (some k :: r) else none
      | some .bool, some d, some r => if d.size = 1 then some (none :: r) else none
      | _, _, _ => none
    else none
def tFlat (P : Program) (t : TypeId) : Option (List (Option IntKind)) :=
  match P.underlying t with
  | some (.struct fs) => if P.stoodInHeld t = false ∧ P.eqGuardType P.depth t = false then flatKinds P 0 fs.toList else none
  | _ => none
def flatEq : List (Option IntKind) → List PV → List PV → Option Bool
  | [], [], [] => some true
  | some k :: ks, .lit (.int k1 a) :: xs, .lit (.int k2 b) :: ys => if k1 = k ∧ k2 = k then (flatEq ks xs ys).map fun r => (a == b) && r else none
  | none :: ks, .lit (.bool a) :: xs, .lit (.bool b) :: ys => (flatEq ks xs ys).map fun r => (a == b) && r
  | _, _, _ => none
def eqR (op : BinOp) (b : Bool) : Option Value := match op with
  | .eql => some (.bool b)
  | .neq => some (.bool (!b))
  | _ => none
def binA (P : Program) (op : BinOp) (T : TypeId) (x y : AV) (r : Value) : Prop :=
  match x, y with
  | .p (.lit u), .p (.lit v) => binR op u v r ∨ binT P op T u v r
  | .p (.agg xs), .p (.agg ys) => ∃ ks, tFlat P T = some ks ∧ ∃ b, flatEq ks xs ys = some b ∧ eqR op b = some r
  | _, _ => False

/-- maps -/
def tMap (P : Program) (T : TypeId) : Option (Nat × TypeId) :=
  match P.underlying T with
  | some (.map k e) => match P.underlying k with
    | some (.int .i64) => some (1, e)
    | _ => none
  | _ => none
def litInt : PV → Option Int
  | .lit (.int .i64 n) => some n
  | _ => none
def keyQ : AV → Option (List Int)
  | .p (.lit (.int .i64 n)) => some [n]
  | .p (.agg (x :: y :: r)) => (x :: y :: r).mapM litInt
  | _ => none
def tZero (P : Program) (t : TypeId) : Option PV := match (P.info? t).bind (·.zero) with
  | some z => match constAV z with
    | .p x => some x
    | _ => none
  | none => none
def setM (m : List Int → Option PV) (q : List Int) (x : PV) : List Int → Option PV := fun p => if p = q then some x else m p
def lookR (ok : Bool) (o : Option PV) (z : PV) : PV := if ok = true then .tup [o.getD z, .lit (.bool o.isSome)] else o.getD z

/-- zeros behind the nil slice: a new row -/
def aAppZ (P : Program) (H : List Nat) (f : Nat) (V : PS) (dst : Option Nat) (t tn : TypeId) (s x : Operand) (K : Upd → Prop) : Prop :=
  ∃ e, tEl P t = some e ∧ ∃ kn, tInt P tn = some kn ∧ ∃ by', tBytes P e = some by' ∧ ∃ g zs, tVar P e = some (g, zs) ∧ 0 < zs.length ∧ V.eval s = some (.p (.seq true [])) ∧ ∃ kq n, V.eval x = some (.p (.lit (.int kq n))) ∧
    0 < n ∧ n * by' ≤ 140737488355328 ∧ n ≤ maxLen ∧ dst.any (H.contains ·) = true ∧ K ⟨.own f, [(f, some (.row zs.length (lift (List.replicate n.toNat zs))))]⟩

def aop (P : Program) (H : List Nat) (f : Nat) (V : PS) (dst : Option Nat) (o : Op) (K : Upd → Prop) : Prop :=
  match o with
  | .move x | .assign x => ∃ v, V.eval x = some v ∧ K ⟨v, []⟩
  | .pick c a b => ∃ t, V.eval c = some (.p (.lit (.bool t))) ∧ ∃ v, V.eval (if t = true then a else b) = some v ∧ K ⟨v, []⟩
  | .alloc T => ∃ g zs, tVar P T = some (g, zs) ∧ K ⟨.ptr f zs.length 0 0, [(f, some (.row zs.length [zs.map .p]))]⟩
  | .box _ x => ∃ v, V.eval x = some v ∧ ∃ cs, v.cells = some cs ∧ K ⟨.ptr f cs.length 0 0, [(f, some (.row cs.length [cs]))]⟩
  | .build T parts => ∃ zs, tVar P T = some (true, zs) ∧ tBuilt P T = true ∧ ∃ vs, evalParts V parts.toList = some vs ∧ ∃ cs, afill (tPlace P T) (zs.map .p) vs = some cs ∧ K ⟨aggOf cs, []⟩
  | .buildSlice T n parts => ∃ e, tEl P T = some e ∧ ∃ g zs, tVar P e = some (g, zs) ∧ 0 < zs.length ∧ n * zs.length ≤ 2 ^ 24 ∧ parts.toList.length = n ∧
      ∃ es, evalRow V zs.length 0 parts.toList = some es ∧ K ⟨.p (.seq true es), []⟩
  | .load T x => ∃ v, V.eval x = some v ∧ ∃ g n, tSz P T = some (g, n) ∧ ∃ r, loadR V v g n r ∧ K ⟨r, []⟩
  | .store T x y => ∃ id sz k off, V.eval x = some (.ptr id sz k off) ∧ ∃ v, V.eval y = some v ∧ ∃ vs, v.cells = some vs ∧ ∃ g, tSz P T = some (g, vs.length) ∧
      ∃ es, V.hp id = some (.row sz es) ∧ ∃ cs, es[k]? = some cs ∧ off + vs.length ≤ cs.length ∧ K ⟨.p (.lit undef), [(id, some (.row sz (es.set k (splice cs off vs))))]⟩
  | .nilCheck x => ∃ v, V.eval x = some v ∧ isPtr v = true ∧ K ⟨v, []⟩
  | .binOp op T x y _ => ∃ u, V.eval x = some u ∧ ∃ v, V.eval y = some v ∧ ∃ r, binA P op T u v r ∧ K ⟨.p (.lit r), []⟩
  | .unOp op _ x => match op with
    | .not => ∃ b, V.eval x = some (.p (.lit (.bool b))) ∧ K ⟨.p (.lit (.bool (!b))), []⟩
    | .neg => ∃ k n, V.eval x = some (.p (.lit (.int k n))) ∧ K ⟨.p (.lit (.int k (k.wrap (0 - n)))), []⟩
    | _ => False
  | .convert src d x => ∃ k n, V.eval x = some (.p (.lit (.int k n))) ∧ (P.underlying src).isSome = true ∧ ∃ k', tInt P d = some k' ∧ K ⟨.p (.lit (.int k' (k'.wrap n))), []⟩
  | .slice T x lo hi mx => ∃ e, tEl P T = some e ∧ ∃ g sz, tSz P e = some (g, sz) ∧ ∃ v, V.eval x = some v ∧ ∃ a, evalOpt V lo = some a ∧ ∃ b, evalOpt V hi = some b ∧ ∃ d, evalOpt V mx = some d ∧ (d.isSome = true → b.isSome = true) ∧
      0 ≤ a.getD 0 ∧ (match v with
        | .p (.seq c es) => (∀ y, y ∈ es → y.length = sz) ∧ a.getD 0 ≤ b.getD es.length ∧ b.getD es.length ≤ d.getD es.length ∧ d.getD es.length ≤ es.length ∧
            K ⟨.p (.seq (clipOf c es.length b d) ((es.take (b.getD es.length).toNat).drop (a.getD 0).toNat)), []⟩
        | .own id => ∃ es, V.hp id = some (.row sz es) ∧ d = none ∧ a.getD 0 ≤ b.getD es.length ∧ b.getD es.length ≤ es.length ∧
            if dst.any (H.contains ·) = true then a.getD 0 = 0 ∧ id ≠ f ∧ K ⟨.own f, [(f, some (.row sz (es.take (b.getD es.length).toNat))), (id, none)]⟩
            else K ⟨.sub id sz (a.getD 0).toNat ((b.getD es.length).toNat - (a.getD 0).toNat), []⟩
        | _ => False)
  | .fieldAddr T x fd => ∃ off sz g, tFld P T fd = some (off, sz, g) ∧ ∃ v, V.eval x = some v ∧ ∃ r, offs v off = some r ∧ K ⟨r, []⟩
  | .indexAddr T x i => ∃ n, evalInt V i = some n ∧ 0 ≤ n ∧ ∃ v, V.eval x = some v ∧ (match tEl P T with
      | some e => ∃ g sz, tSz P e = some (g, sz) ∧ ∃ r, idxR V sz n.toNat v r ∧ K ⟨r, []⟩
      | none => ∃ len sz g, tArr P T = some (len, sz, g) ∧ n < len ∧ ∃ r, offs v (n.toNat * sz) = some r ∧ K ⟨r, []⟩)
  | .field T x fd => ∃ off sz g, tFld P T fd = some (off, sz, g) ∧ ∃ v, V.eval x = some v ∧ ∃ cs, aggCells v = some cs ∧ ∃ r, (if g = true then off + sz ≤ cs.length ∧ r = aggOf ((cs.drop off).take sz) else cs[off]? = some r) ∧ K ⟨r, []⟩
  | .index T x i => ∃ n, evalInt V i = some n ∧ 0 ≤ n ∧ ∃ len sz g, tArr P T = some (len, sz, g) ∧ n < len ∧ ∃ v, V.eval x = some v ∧ ∃ cs, aggCells v = some cs ∧
      ∃ r, (if g = true then n.toNat * sz + sz ≤ cs.length ∧ r = aggOf ((cs.drop (n.toNat * sz)).take sz) else cs[n.toNat * sz]? = some r) ∧ K ⟨r, []⟩
  | .extract x i => ∃ v, V.eval x = some v ∧ ∃ vs, tupCells v = some vs ∧ ∃ r, vs[i]? = some r ∧ K ⟨r, []⟩
  | .makeFunc (.func g) first caps => first.size = 0 ∧ ∃ cs, evals V caps.toList = some cs ∧ K ⟨.fn g cs, []⟩
  | .makeSlice T n c => ∃ e, tEl P T = some e ∧ ∃ by', tBytes P e = some by' ∧ ∃ g zs, tVar P e = some (g, zs) ∧ 0 < zs.length ∧ ∃ a, evalInt V n = some a ∧ ∃ b, evalInt V c = some b ∧
      0 ≤ a ∧ a ≤ b ∧ b * by' ≤ 140737488355328 ∧ b ≤ maxLen ∧ K ⟨.own f, [(f, some (.row zs.length (lift (List.replicate a.toNat zs))))]⟩
  | .makeMap T none => ∃ len e, tMap P T = some (len, e) ∧ K ⟨.mp f, [(f, some (.map len fun _ => none))]⟩
  | .lookup T x y ok => ∃ len e, tMap P T = some (len, e) ∧ ∃ id, V.eval x = some (.mp id) ∧ ∃ m, V.hp id = some (.map len m) ∧ ∃ v, V.eval y = some v ∧ ∃ q, keyQ v = some q ∧ KeyOk len q ∧ ∃ z, tZero P e = some z ∧ K ⟨.p (lookR ok (m q) z), []⟩
  | .mapUpdate T x y z => dst = none ∧ ∃ len e, tMap P T = some (len, e) ∧ ∃ id, V.eval x = some (.mp id) ∧ ∃ m, V.hp id = some (.map len m) ∧ ∃ v, V.eval y = some v ∧ ∃ q, keyQ v = some q ∧ KeyOk len q ∧ ∃ x, V.eval z = some (.p x) ∧ K ⟨.p (.lit undef), [(id, some (.map len (setM m q x)))]⟩
  | .call ⟨.builtin .len, args, ts⟩ => ∃ x, args.toList = [x] ∧ ∃ t, ts.toList = [t] ∧ ∃ e, tEl P t = some e ∧ ∃ v, V.eval x = some v ∧ ∃ n, lenR V v n ∧ K ⟨.p (.lit (.int .i64 n)), []⟩
  | .call ⟨.builtin .min, args, _⟩ => ∃ vs, evalInts V args.toList = some vs ∧ ∃ k r, minR vs = some (k, r) ∧ K ⟨.p (.lit (.int k r)), []⟩
  | .call ⟨.builtin .max, args, _⟩ => ∃ vs, evalInts V args.toList = some vs ∧ ∃ k r, maxR vs = some (k, r) ∧ K ⟨.p (.lit (.int k r)), []⟩
  | .call ⟨.builtin .append, args, ts⟩ => ∃ s x, args.toList = [s, x] ∧ ∃ t u, ts.toList = [t, u] ∧ (if t = u then aAppend P H f V dst t s x K else aAppZ P H f V dst t u s x K)
  | .call ⟨.builtin .cap, args, ts⟩ => ∃ x, args.toList = [x] ∧ ∃ t, ts.toList = [t] ∧ ∃ e, tEl P t = some e ∧ ∃ es, V.eval x = some (.p (.seq true es)) ∧ K ⟨.p (.lit (.int .i64 es.length)), []⟩
  | .call ⟨.value g, args, _⟩ => ∃ v, V.eval g = some v ∧ ∃ h caps, v = .fn h caps ∧ enters P h = true ∧ ∃ xs, evals V args.toList = some xs ∧ callK P h (xs ++ caps) f V dst K
  | _ => False
where
  aggCells : AV → Option (List AV)
    | .p (.agg cs) => some (cs.map .p)
    | .agg cs => some cs
    | _ => none
  tupCells : AV → Option (List AV)
    | .p (.tup cs) => some (cs.map .p)
    | .tup cs => some cs
    | _ => none
  evalInts (V : PS) : List Operand → Option (List (IntKind × Int))
    | [] => some []
    | x :: r => match V.eval x, evalInts V r with
      | some (.p (.lit (.int k n))), some vs => some ((k, n) :: vs)
      | _, _ => none
  minR : List (IntKind × Int) → Option (IntKind × Int)
    | [] => none
    | (k, n) :: r => some (k, r.foldl (fun x y => if y.2 < x then y.2 else x) n)
  maxR : List (IntKind × Int) → Option (IntKind × Int)
    | [] => none
    | (k, n) :: r => some (k, r.foldl (fun x y => if y.2 > x then y.2 else x) n)

end Go.Am
