/-
  The abstract machine, twenty-second part: how it is reckoned with.
-/
import Derived.Test.YtbdliooaiincdaaAm21
namespace Go.Am
open Go.RowKit
/-! ## What waits for a value, shut away until the value is there -/
section
variable {α β γ : Type}
def onE (o : Option α) (K : α → Prop) : Prop := ∃ v, o = some v ∧ K v
def onP (o : Option (α × β)) (K : α → β → Prop) : Prop := ∃ v u, o = some (v, u) ∧ K v u
def onT (o : Option (α × β × γ)) (K : α → β → γ → Prop) : Prop := ∃ v u t, o = some (v, u, t) ∧ K v u t
def onLit (o : Option AV) (K : Value → Prop) : Prop := ∃ v, o = some (.p (.lit v)) ∧ K v
def onBool (o : Option AV) (K : Bool → Prop) : Prop := ∃ v, o = some (.p (.lit (.bool v))) ∧ K v
def onInt (o : Option AV) (K : IntKind → Int → Prop) : Prop := ∃ k n, o = some (.p (.lit (.int k n))) ∧ K k n
def onPtr (o : Option AV) (K : Nat → Nat → Nat → Nat → Prop) : Prop := ∃ a b c d, o = some (.ptr a b c d) ∧ K a b c d
def onFn (o : Option AV) (K : FuncId → List AV → Prop) : Prop := ∃ v, o = some v ∧ ∃ a b, v = .fn a b ∧ K a b
def onSeq (o : Option AV) (K : List (List PV) → Prop) : Prop := ∃ es, o = some (.p (.seq true es)) ∧ K es
@[congr] theorem onSeq_congr {o o' : Option AV} {K : List (List PV) → Prop} (h : mark o = o') : onSeq o K = onSeq o' K := by rw [← h, mark_eq]
theorem e18 (es : List (List PV)) (K : List (List PV) → Prop) : onSeq (some (.p (.seq true es))) K = K es := by simp [onSeq]
def onRow (o : Option Blk) (sz : Nat) (K : List (List AV) → Prop) : Prop := ∃ es, o = some (.row sz es) ∧ K es
def onZ (o : Option (Bool × List PV)) (K : List PV → Prop) : Prop := ∃ zs, o = some (true, zs) ∧ K zs
def onS (o : Option (Bool × Nat)) (n : Nat) (K : Prop) : Prop := ∃ g, o = some (g, n) ∧ K
@[congr] theorem onE_congr {o o' : Option α} {K : α → Prop} (h : mark o = o') : onE o K = onE o' K := by rw [← h, mark_eq]
@[congr] theorem onP_congr {o o' : Option (α × β)} {K : α → β → Prop} (h : mark o = o') : onP o K = onP o' K := by rw [← h, mark_eq]
@[congr] theorem onT_congr {o o' : Option (α × β × γ)} {K : α → β → γ → Prop} (h : mark o = o') : onT o K = onT o' K := by rw [← h, mark_eq]
@[congr] theorem onLit_congr {o o' : Option AV} {K : Value → Prop} (h : mark o = o') : onLit o K = onLit o' K := by rw [← h, mark_eq]
@[congr] theorem onBool_congr {o o' : Option AV} {K : Bool → Prop} (h : mark o = o') : onBool o K = onBool o' K := by rw [← h, mark_eq]
@[congr] theorem onInt_congr {o o' : Option AV} {K : IntKind → Int → Prop} (h : mark o = o') : onInt o K = onInt o' K := by rw [← h, mark_eq]
@[congr] theorem onPtr_congr {o o' : Option AV} {K : Nat → Nat → Nat → Nat → Prop} (h : mark o = o') : onPtr o K = onPtr o' K := by rw [← h, mark_eq]
@[congr] theorem onFn_congr {o o' : Option AV} {K : FuncId → List AV → Prop} (h : mark o = o') : onFn o K = onFn o' K := by rw [← h, mark_eq]
@[congr] theorem onRow_congr {o o' : Option Blk} {sz sz' : Nat} {K : List (List AV) → Prop} (h : mark o = o') (hn : sz = sz') : onRow o sz K = onRow o' sz' K := by rw [← h, mark_eq, hn]
@[congr] theorem onZ_congr {o o' : Option (Bool × List PV)} {K : List PV → Prop} (h : mark o = o') : onZ o K = onZ o' K := by rw [← h, mark_eq]
theorem g19 (run skip : Bool → Prop) (idle : Prop) : gcase (.p (.lit (.bool true))) true run skip idle = run true := by simp [gcase]
theorem g20 (run skip : Bool → Prop) (idle : Prop) : gcase (.p (.lit (.bool false))) false run skip idle = run false := by simp [gcase]
theorem g21 (run skip : Bool → Prop) (idle : Prop) : gcase (.p (.lit (.bool true))) false run skip idle = skip true := by simp [gcase]
theorem g22 (run skip : Bool → Prop) (idle : Prop) : gcase (.p (.lit (.bool false))) true run skip idle = skip false := by simp [gcase]
theorem cast_add1 (n : Nat) : ((n + 1 : Nat) : Int) = (n : Int) + 1 := rfl
@[congr] theorem onS_congr {o o' : Option (Bool × Nat)} {n n' : Nat} {K : Prop} (h : mark o = o') (hn : n = n') : onS o n K = onS o' n' K := by rw [← h, mark_eq, hn]
theorem e01 (v : α) (K : α → Prop) : onE (some v) K = K v := by simp [onE]
theorem e02 (v : α) (u : β) (K : α → β → Prop) : onP (some (v, u)) K = K v u := by simp [onP, and_assoc]
theorem e03 (v : α) (u : β) (t : γ) (K : α → β → γ → Prop) : onT (some (v, u, t)) K = K v u t := by simp [onT, and_assoc]
theorem e04 (v : Value) (K : Value → Prop) : onLit (some (.p (.lit v))) K = K v := by simp [onLit]
theorem e05 (v : Bool) (K : Bool → Prop) : onBool (some (.p (.lit (.bool v)))) K = K v := by simp [onBool]
theorem e06 (k : IntKind) (n : Int) (K : IntKind → Int → Prop) : onInt (some (.p (.lit (.int k n)))) K = K k n := by simp [onInt, and_assoc]
theorem e07 (a b c d : Nat) (K : Nat → Nat → Nat → Nat → Prop) : onPtr (some (.ptr a b c d)) K = K a b c d := by simp [onPtr, and_assoc]
theorem e08 (f : FuncId) (l : List AV) (K : FuncId → List AV → Prop) : onFn (some (.fn f l)) K = K f l := by simp [onFn, and_assoc]
theorem e09 (sz : Nat) (es : List (List AV)) (K : List (List AV) → Prop) : onRow (some (.row sz es)) sz K = K es := by simp [onRow]
theorem e10 (zs : List PV) (K : List PV → Prop) : onZ (some (true, zs)) K = K zs := by simp [onZ]
theorem e11 (g : Bool) (n m : Nat) (K : Prop) : onS (some (g, n)) m K = (n = m ∧ K) := by
  simp [onS]
theorem e12 (f : α → β) (o : Option α) (K : β → Prop) : onE (o.map f) K = onE o fun x => K (f x) := by cases o <;> simp [onE]
theorem e13 [Inhabited α] (l : List α) (i : Nat) (K : α → Prop) (h : i < l.length) : onE l[i]? K = K (l.getD i default) := by
  simp [onE, h, List.getD]
theorem onE_of {o : Option α} {v : α} {K : α → Prop} (h : o = some v) (hK : K v) : onE o K := ⟨v, h, hK⟩
end
theorem if_min (a b : Int) : (if b < a then b else a) = min a b := by omega
theorem if_max (a b : Int) : (if b > a then b else a) = max a b := by omega
theorem int_default : (default : Int) = 0 := rfl
theorem tmod_of {a b : Int} (h : 0 ≤ a) : a.tmod b = a % b := Int.tmod_eq_emod_of_nonneg h
theorem tdiv_of {a b : Int} (h : 0 ≤ a) : a.tdiv b = a / b := Int.tdiv_eq_ediv_of_nonneg h
instance : Inhabited PV := ⟨.lit undef⟩
instance : Inhabited AV := ⟨.p default⟩
section
variable (P : Program) (H : List Nat) (gd : Nat → Option Nat) (D : Ord) (Kl : LS → Prop) (i f : Nat) (V : PS) (dst : Option Nat) (K : Upd → Prop) (s : LS) (ty : TypeId) (pos : String) (af : Array Edge) (os : List Oper) (op : Op)
-- one behind the other
theorem a01 : aops P H gd Kl i [] s = Kl s := rfl
theorem a02 : aops P H gd Kl i (⟨dst, op, ty, pos, af, none⟩ :: os) s = aop P H (8 * (s.nx + i)) s.ps dst op fun u => aops P H gd Kl (i + 1) os (s.upd dst u) := rfl
theorem a03 (g : Nat) (b : Bool) : aops P H gd Kl i (⟨dst, op, ty, pos, af, some (g, b)⟩ :: os) s = onE (gd g) fun d => onE (lkp s.sl d) fun x =>
        gcase x b (fun t => aop P H (8 * (s.nx + i)) (s.upd (some d) ⟨.p (.lit (.bool t)), []⟩).ps dst op fun u => aops P H gd Kl (i + 1) os ((s.upd (some d) ⟨.p (.lit (.bool t)), []⟩).upd dst u))
          (fun t => aops P H gd Kl (i + 1) os ((s.upd (some d) ⟨.p (.lit (.bool t)), []⟩).upd dst ⟨undefA, []⟩))
          (aops P H gd Kl (i + 1) os (s.upd dst ⟨undefA, []⟩)) := rfl
theorem a34 (x : Oper) (xs ys : List Oper) : aops P H gd Kl i (List.append (x :: xs) ys) s = aops P H gd Kl i (x :: List.append xs ys) s := rfl
theorem a35 (ys : List Oper) : aops P H gd Kl i (List.append [] ys) s = aops P H gd Kl i ys s := rfl
theorem a36 (x : Oper) (xs ys : List Oper) : aopsD P H D gd Kl i (List.append (x :: xs) ys) s = aopsD P H D gd Kl i (x :: List.append xs ys) s := rfl
theorem a37 (ys : List Oper) : aopsD P H D gd Kl i (List.append [] ys) s = aopsD P H D gd Kl i ys s := rfl
theorem a04 : aopsD P H D gd Kl i [] s = Kl s := rfl
theorem a05 : aopsD P H D gd Kl i (⟨dst, op, ty, pos, af, none⟩ :: os) s = aop P H (8 * (s.nx + i)) (viewD D s.nx i s) dst op fun u => okU D s.nx i u ∧ aopsD P H D gd Kl (i + 1) os (s.upd dst u) := rfl
theorem a06 (g : Nat) (b : Bool) : aopsD P H D gd Kl i (⟨dst, op, ty, pos, af, some (g, b)⟩ :: os) s = onE (gd g) fun d => onE (lkp s.sl d) fun x =>
        gcase x b (fun t => aop P H (8 * (s.nx + i)) (viewD D s.nx i (s.upd (some d) ⟨.p (.lit (.bool t)), []⟩)) dst op fun u => okU D s.nx i u ∧ aopsD P H D gd Kl (i + 1) os ((s.upd (some d) ⟨.p (.lit (.bool t)), []⟩).upd dst u))
          (fun t => aopsD P H D gd Kl (i + 1) os ((s.upd (some d) ⟨.p (.lit (.bool t)), []⟩).upd dst ⟨undefA, []⟩))
          (aopsD P H D gd Kl (i + 1) os (s.upd dst ⟨undefA, []⟩)) := rfl
@[congr] theorem aops_congr {P : Program} {H : List Nat} {gd : Nat → Option Nat} {Kl : LS → Prop} {i : Nat} {os : List Oper} {s s' : LS} (h : mark s = s') : aops P H gd Kl i os s = aops P H gd Kl i os s' := by rw [← h, mark_eq]
@[congr] theorem aopsD_congr {P : Program} {H : List Nat} {D : Ord} {gd : Nat → Option Nat} {Kl : LS → Prop} {i : Nat} {os : List Oper} {s s' : LS} (h : mark s = s') : aopsD P H D gd Kl i os s = aopsD P H D gd Kl i os s' := by rw [← h, mark_eq]
@[congr] theorem gcase_congr {x x' : AV} {b : Bool} {run skip : Bool → Prop} {idle : Prop} (h : mark x = x') : gcase x b run skip idle = gcase x' b run skip idle := by rw [← h, mark_eq]
theorem a07 (t b : Bool) (run skip : Bool → Prop) (idle : Prop) : gcase (.p (.lit (.bool t))) b run skip idle = ((t = b → run b) ∧ (t = (!b) → skip (!b))) := rfl
theorem a08 (vs : Array Value) (b : Bool) (run skip : Bool → Prop) (idle : Prop) : gcase (.p (.lit (.tuple vs))) b run skip idle = idle := rfl
theorem a09 (sl : List (Nat × AV)) (hp : List (Nat × Blk)) (nx d : Nat) (v : AV) (l : List (Nat × Option Blk)) : (⟨sl, hp, nx⟩ : LS).upd (some d) ⟨v, l⟩ = ⟨(d, v) :: sl, hpUpd hp l, nx⟩ := rfl
theorem a10 (sl : List (Nat × AV)) (hp : List (Nat × Blk)) (nx : Nat) (v : AV) (l : List (Nat × Option Blk)) : (⟨sl, hp, nx⟩ : LS).upd none ⟨v, l⟩ = ⟨sl, hpUpd hp l, nx⟩ := rfl
theorem a11 (hp : List (Nat × Blk)) : hpUpd hp [] = hp := rfl
theorem a12 (hp : List (Nat × Blk)) (i : Nat) (k : Option Blk) (r : List (Nat × Option Blk)) : hpUpd hp ((i, k) :: r) = put1 (hpUpd hp r) i k := rfl
theorem a13 (hp : List (Nat × Blk)) (i : Nat) (k : Blk) : put1 hp i (some k) = (i, k) :: del hp i := rfl
theorem a14 (hp : List (Nat × Blk)) (i : Nat) : put1 hp i none = del hp i := rfl
theorem a15 (i : Nat) : del ([] : List (Nat × Blk)) i = [] := rfl
theorem a16 (k : Nat) (x : Blk) (r : List (Nat × Blk)) (d : Nat) : del ((k, x) :: r) d = if d = k then del r d else (k, x) :: del r d := rfl
theorem a17 (v : AV) : okU D i f ⟨v, []⟩ = True := rfl
theorem a18 (v : AV) (p : Nat × Option Blk) (r : List (Nat × Option Blk)) : okU D i f ⟨v, p :: r⟩ = ((nmPos p.1 = i + f + 1 ∨ (D.isW f = true ∧ ((nmPos p.1 ≤ i ∧ D.isHot p.1 = true) ∨ (¬ nmPos p.1 ≤ i ∧ D.sees (nmPos p.1 - 1 - i) f = true)))) ∧ okL D i f r) := rfl
theorem a19 : okL D i f [] = True := rfl
theorem a20 (p : Nat × Option Blk) (r : List (Nat × Option Blk)) : okL D i f (p :: r) = ((nmPos p.1 = i + f + 1 ∨ (D.isW f = true ∧ ((nmPos p.1 ≤ i ∧ D.isHot p.1 = true) ∨ (¬ nmPos p.1 ≤ i ∧ D.sees (nmPos p.1 - 1 - i) f = true)))) ∧ okL D i f r) := rfl
theorem a21 (s : LS) (t : Nat) : PS.eval s.ps (.tmp t) = lkp s.sl t := rfl
theorem a22 (v : Value) : PS.eval V (.const v) = some (constAV v) := rfl
theorem a23 (f : FuncId) : PS.eval V (.func f) = some (.fn f []) := rfl
theorem a24 (s : LS) (id : Nat) : s.ps.hp id = lkp s.hp id := rfl
theorem a25 (nx : Nat) (s : LS) (t : Nat) : PS.eval (viewD D nx i s) (.tmp t) = lkp s.sl t := rfl
theorem a26 (nx : Nat) (s : LS) (id : Nat) : (viewD D nx i s).hp id = if nmPos id ≤ nx ∧ D.isHot id = false then lkp s.hp id else if D.isRW i = true then (if nmPos id ≤ nx then lkp s.hp id else if D.sees (nmPos id - 1 - nx) i = true then lkp s.hp id else none) else none := rfl
theorem a27 (b : Bool) : constAV (.bool b) = .p (.lit (.bool b)) := rfl
theorem a28 (k : IntKind) (n : Int) : constAV (.int k n) = .p (.lit (.int k n)) := rfl
theorem a29 : constAV (.slice none 0 0) = .p (.seq true []) := rfl
theorem a30 (d : Nat) : lkp ([] : List (Nat × AV)) d = none := rfl
theorem a31 (k : Nat) (x : AV) (r : List (Nat × AV)) (d : Nat) : lkp ((k, x) :: r) d = if d = k then some x else lkp r d := rfl
theorem a32 (d : Nat) : lkp ([] : List (Nat × Blk)) d = none := rfl
theorem a33 (k : Nat) (x : Blk) (r : List (Nat × Blk)) (d : Nat) : lkp ((k, x) :: r) d = if d = k then some x else lkp r d := rfl
-- operations
theorem h01 (B : List Nat) (R W : List Nat) (vis : List (Nat × Nat)) (id : Nat) : Ord.isHot ⟨B, R, W, vis, none⟩ id = true := rfl
theorem h02 (B : List Nat) (R W : List Nat) (vis : List (Nat × Nat)) (l : List Nat) (id : Nat) : Ord.isHot ⟨B, R, W, vis, some l⟩ id = l.contains id := rfl
theorem b01 (x : Operand) : aop P H f V dst (.move x) K = onE (V.eval x) fun v => K ⟨v, []⟩ := rfl
theorem b02 (x : Operand) : aop P H f V dst (.assign x) K = onE (V.eval x) fun v => K ⟨v, []⟩ := rfl
theorem b03 (c a b : Operand) : aop P H f V dst (.pick c a b) K = onBool (V.eval c) fun t => onE (V.eval (if t = true then a else b)) fun v => K ⟨v, []⟩ := rfl
theorem b04 (T : TypeId) : aop P H f V dst (.alloc T) K = onP (tVar P T) fun _ zs => K ⟨.ptr f zs.length 0 0, [(f, some (.row zs.length [zs.map .p]))]⟩ := rfl
theorem b05 (T : TypeId) (x : Operand) : aop P H f V dst (.box T x) K = onE (V.eval x) fun v => onE v.cells fun cs => K ⟨.ptr f cs.length 0 0, [(f, some (.row cs.length [cs]))]⟩ := rfl
theorem b06 (T : TypeId) (l : List (Nat × Operand)) : aop P H f V dst (.build T l.toArray) K = onZ (tVar P T) fun zs => tBuilt P T = true ∧ onE (evalParts V l) fun vs => onE (afill (tPlace P T) (zs.map .p) vs) fun cs => K ⟨aggOf cs, []⟩ := rfl
theorem b07 (T n : Nat) (l : List (Nat × Operand)) : aop P H f V dst (.buildSlice T n l.toArray) K = onE (tEl P T) fun e => onP (tVar P e) fun _ zs => 0 < zs.length ∧ n * zs.length ≤ 2 ^ 24 ∧ l.length = n ∧
      onE (evalRow V zs.length 0 l) fun es => K ⟨.p (.seq true es), []⟩ := rfl
def loadB (o : Option Blk) (sz k off : Nat) (g : Bool) (n : Nat) (K : AV → Prop) : Prop := ∃ es, o = some (.row sz es) ∧ ∃ cs, es[k]? = some cs ∧ if g = true then off + n ≤ cs.length ∧ K (aggOf ((cs.drop off).take n)) else ∃ r, cs[off]? = some r ∧ K r
@[congr] theorem loadB_congr {o o' : Option Blk} {sz k k' off off' : Nat} {g : Bool} {n : Nat} {K : AV → Prop} (h : mark o = o') (hk : k = k') (ho : off = off') : loadB o sz k off g n K = loadB o' sz k' off' g n K := by rw [← h, mark_eq, hk, ho]
def storeB (o : Option Blk) (id sz k off : Nat) (vs : List AV) (K : Upd → Prop) : Prop := ∃ es, o = some (.row sz es) ∧ ∃ cs, es[k]? = some cs ∧ off + vs.length ≤ cs.length ∧ K ⟨.p (.lit undef), [(id, some (.row sz (es.set k (splice cs off vs))))]⟩
@[congr] theorem storeB_congr {o o' : Option Blk} {id sz k k' off off' : Nat} {vs vs' : List AV} {K : Upd → Prop} (h : mark o = o') (hk : k = k') (ho : off = off') (hv : vs = vs') : storeB o id sz k off vs K = storeB o' id sz k' off' vs' K := by rw [← h, mark_eq, hk, ho, hv]
def storeL (o : Option (List PV)) (es : List (List PV)) (id sz k off : Nat) (vs : List AV) (K : Upd → Prop) : Prop := match o with
  | some xs => K ⟨.p (.lit undef), [(id, some (.row sz (lift (es.set k (splice (es.getD k []) off xs)))))]⟩
  | none => K ⟨.p (.lit undef), [(id, some (.row sz ((lift es).set k (splice ((es.getD k []).map .p) off vs))))]⟩
@[congr] theorem storeL_congr {o o' : Option (List PV)} {es es' : List (List PV)} {id sz k k' off : Nat} {vs : List AV} {K : Upd → Prop} (h : mark o = o') (he : es = es') (hk : k = k') : storeL o es id sz k off vs K = storeL o' es' id sz k' off vs K := by rw [← h, mark_eq, he, hk]
theorem c27 (id sz off : Nat) (cs vs : List AV) (K : Upd → Prop) : storeB (some (.row sz [cs])) id sz 0 off vs K = (off + vs.length ≤ cs.length ∧ K ⟨.p (.lit undef), [(id, some (.row sz [splice cs off vs]))]⟩) := by
  simp [storeB]
theorem c28 (id sz k off : Nat) (es : List (List PV)) (vs : List AV) (K : Upd → Prop) : storeB (some (.row sz (lift es))) id sz k off vs K = (k < es.length ∧ off + vs.length ≤ (es.getD k []).length ∧ storeL (pures vs) es id sz k off vs K) := by
  simp only [storeB, storeL, Option.some.injEq, Blk.row.injEq, true_and]
  refine propext ⟨?_, ?_⟩
  · rintro ⟨_, rfl, cs, h1, h2, h⟩
    rw [lift_get] at h1
    obtain ⟨ys, hys, rfl⟩ := Option.map_eq_some_iff.1 h1
    have e : es.getD k [] = ys := by rw [List.getD_eq_getElem?_getD, hys]; rfl
    refine ⟨(List.getElem?_eq_some_iff.1 hys).1, by rw [e]; simpa using h2, ?_⟩
    cases hp : pures vs with
    | none => simp only []; rw [e]; exact h
    | some xs =>
      simp only []
      have hv := pures_spec _ _ hp
      subst hv
      rw [e, ← lift_set]
      simpa [splice] using h
  · rintro ⟨hk, h2, h⟩
    have hys : es[k]? = some es[k] := List.getElem?_eq_getElem hk
    have e : es.getD k [] = es[k] := by rw [List.getD_eq_getElem?_getD, hys]; rfl
    rw [e] at h2 h
    refine ⟨_, rfl, es[k].map .p, by rw [lift_get, hys]; rfl, by simpa using h2, ?_⟩
    cases hp : pures vs with
    | none => rw [hp] at h; exact h
    | some xs =>
      rw [hp] at h
      simp only [] at h
      have hv := pures_spec _ _ hp
      subst hv
      rw [← lift_set] at h
      simpa [splice] using h
theorem c29 (xs : List PV) (es : List (List PV)) (id sz k off : Nat) (vs : List AV) (K : Upd → Prop) : storeL (some xs) es id sz k off vs K = K ⟨.p (.lit undef), [(id, some (.row sz (lift (es.set k (splice (es.getD k []) off xs)))))]⟩ := rfl
theorem getD_set {α : Type} (l : List α) (k : Nat) (x d : α) (h : k < l.length) : (l.set k x).getD k d = x := by
  rw [List.getD_eq_getElem?_getD, List.getElem?_set_self h]; rfl
theorem getD_app {α : Type} (l r : List α) (k : Nat) (d : α) (h : k < l.length) : (l ++ r).getD k d = l.getD k d := by
  rw [List.getD_eq_getElem?_getD, List.getD_eq_getElem?_getD, List.getElem?_append_left h]
theorem getD_map {α : Type} [Inhabited α] (f : α → List PV) (l : List α) (k : Nat) (h : k < l.length) : (l.map f).getD k [] = f (l.getD k default) := by
  rw [List.getD_eq_getElem?_getD, List.getD_eq_getElem?_getD, List.getElem?_map, List.getElem?_eq_getElem h]; rfl
def loadK (V : PS) (v : AV) (g : Bool) (n : Nat) (K : AV → Prop) : Prop := ∃ r, loadR V v g n r ∧ K r
@[congr] theorem loadK_congr {V : PS} {v v' : AV} {g : Bool} {n : Nat} {K : AV → Prop} (h : mark v = v') : loadK V v g n K = loadK V v' g n K := by rw [← h, mark_eq]
theorem b08 (T : TypeId) (x : Operand) : aop P H f V dst (.load T x) K = onE (V.eval x) fun v => onP (tSz P T) fun g n => loadK V v g n fun r => K ⟨r, []⟩ := rfl
theorem b09 (T : TypeId) (x y : Operand) : aop P H f V dst (.store T x y) K = onPtr (V.eval x) fun id sz k off => onE (V.eval y) fun v => onE v.cells fun vs => onS (tSz P T) vs.length (storeB (V.hp id) id sz k off vs K) := by
  simp only [aop, onPtr, onE, onS, storeB]
theorem b10 (x : Operand) : aop P H f V dst (.nilCheck x) K = onE (V.eval x) fun v => isPtr v = true ∧ K ⟨v, []⟩ := rfl
def binK (P : Program) (T : TypeId) (o : BinOp) (u v : Value) (K : Value → Prop) : Prop := ∃ r, (binR o u v r ∨ binT P o T u v r) ∧ K r
@[congr] theorem binK_congr {P : Program} {T : TypeId} {o : BinOp} {u u' v v' : Value} {K : Value → Prop} (h : mark u = u') (hv : v = v') : binK P T o u v K = binK P T o u' v' K := by rw [← h, mark_eq, hv]
def binB (P : Program) (T : TypeId) (o : BinOp) (u v : AV) (K : Value → Prop) : Prop := ∃ r, binA P o T u v r ∧ K r
@[congr] theorem binB_congr {P : Program} {T : TypeId} {o : BinOp} {u u' v v' : AV} {K : Value → Prop} (h : mark u = u') (hv : v = v') : binB P T o u v K = binB P T o u' v' K := by rw [← h, mark_eq, hv]
theorem b11 (o : BinOp) (T T' : TypeId) (x y : Operand) : aop P H f V dst (.binOp o T x y T') K = onE (V.eval x) fun u => onE (V.eval y) fun v => binB P T o u v fun r => K ⟨.p (.lit r), []⟩ := rfl
theorem g23 (T : TypeId) (o : BinOp) (u v : Value) (K : Value → Prop) : binB P T o (.p (.lit u)) (.p (.lit v)) K = binK P T o u v K := rfl
theorem g24 (T : TypeId) (o : BinOp) (xs ys : List PV) (K : Value → Prop) : binB P T o (.p (.agg xs)) (.p (.agg ys)) K = onE (tFlat P T) fun ks => onE (flatEq ks xs ys) fun b => onE (eqR o b) K := by
  simp only [binB, binA, onE]
  exact propext ⟨by rintro ⟨r, ⟨ks, h1, b, h2, h3⟩, h⟩; exact ⟨ks, h1, b, h2, r, h3, h⟩, by rintro ⟨ks, h1, b, h2, r, h3, h⟩; exact ⟨r, ⟨ks, h1, b, h2, h3⟩, h⟩⟩
theorem g25 : flatEq [] [] [] = some true := rfl
theorem g26 (k : IntKind) (ks : List (Option IntKind)) (a b : Int) (xs ys : List PV) : flatEq (some k :: ks) (.lit (.int k a) :: xs) (.lit (.int k b) :: ys) = (flatEq ks xs ys).map fun r => (a == b) && r := by simp [flatEq]
theorem g27 (ks : List (Option IntKind)) (a b : Bool) (xs ys : List PV) : flatEq (none :: ks) (.lit (.bool a) :: xs) (.lit (.bool b) :: ys) = (flatEq ks xs ys).map fun r => (a == b) && r := rfl
theorem g28 (b : Bool) : eqR .eql b = some (.bool b) := rfl
theorem g29 (b : Bool) : eqR .neq b = some (.bool (!b)) := rfl
def onMp (o : Option AV) (K : Nat → Prop) : Prop := ∃ id, o = some (.mp id) ∧ K id
@[congr] theorem onMp_congr {o o' : Option AV} {K : Nat → Prop} (h : mark o = o') : onMp o K = onMp o' K := by rw [← h, mark_eq]
theorem e19 (id : Nat) (K : Nat → Prop) : onMp (some (.mp id)) K = K id := by simp [onMp]
def onMap (o : Option Blk) (len : Nat) (K : (List Int → Option PV) → Prop) : Prop := ∃ m, o = some (.map len m) ∧ K m
@[congr] theorem onMap_congr {o o' : Option Blk} {len len' : Nat} {K : (List Int → Option PV) → Prop} (h : mark o = o') (hl : len = len') : onMap o len K = onMap o' len' K := by rw [← h, mark_eq, hl]
theorem e20 (len : Nat) (m : List Int → Option PV) (K : (List Int → Option PV) → Prop) : onMap (some (.map len m)) len K = K m := by simp [onMap]
def onPV (o : Option AV) (K : PV → Prop) : Prop := ∃ x, o = some (.p x) ∧ K x
@[congr] theorem onPV_congr {o o' : Option AV} {K : PV → Prop} (h : mark o = o') : onPV o K = onPV o' K := by rw [← h, mark_eq]
theorem e21 (x : PV) (K : PV → Prop) : onPV (some (.p x)) K = K x := by simp [onPV]
theorem b34 (T : TypeId) (x y : Operand) : aop P H f V dst (.makeSlice T x y) K = onE (tEl P T) fun e => onE (tBytes P e) fun by' => onP (tVar P e) fun _ zs => 0 < zs.length ∧ onE (evalInt V x) fun a => onE (evalInt V y) fun b =>
      0 ≤ a ∧ a ≤ b ∧ b * by' ≤ 140737488355328 ∧ b ≤ maxLen ∧ K ⟨.own f, [(f, some (.row zs.length (lift (List.replicate a.toNat zs))))]⟩ := rfl
theorem b35 (T : TypeId) : aop P H f V dst (.makeMap T none) K = onP (tMap P T) fun len _ => K ⟨.mp f, [(f, some (.map len fun _ => none))]⟩ := rfl
theorem b36 (T : TypeId) (x y : Operand) (ok : Bool) : aop P H f V dst (.lookup T x y ok) K = onP (tMap P T) fun len e => onMp (V.eval x) fun id => onMap (V.hp id) len fun m => onE (V.eval y) fun v => onE (keyQ v) fun q => KeyOk len q ∧ onE (tZero P e) fun z => K ⟨.p (lookR ok (m q) z), []⟩ := rfl
theorem b37 (T : TypeId) (x y z : Operand) : aop P H f V none (.mapUpdate T x y z) K = onP (tMap P T) fun len _ => onMp (V.eval x) fun id => onMap (V.hp id) len fun m => onE (V.eval y) fun v => onE (keyQ v) fun q => KeyOk len q ∧ onPV (V.eval z) fun x => K ⟨.p (.lit undef), [(id, some (.map len (setM m q x)))]⟩ := by
  simp only [aop, onP, onMp, onMap, onE, onPV, true_and]
theorem g30 (n : Int) : keyQ (.p (.lit (.int .i64 n))) = some [n] := rfl
theorem g31 (n : Int) : KeyOk 1 [n] = (-9223372036854775808 ≤ n ∧ n ≤ 9223372036854775807) := by simp [KeyOk]
theorem g32 (o : Option PV) (z : PV) : lookR false o z = o.getD z := rfl
theorem g33 (o : Option PV) (z : PV) : lookR true o z = .tup [o.getD z, .lit (.bool o.isSome)] := rfl
theorem b12 (T : TypeId) (x : Operand) : aop P H f V dst (.unOp .not T x) K = onBool (V.eval x) fun b => K ⟨.p (.lit (.bool (!b))), []⟩ := rfl
theorem b13 (T : TypeId) (x : Operand) : aop P H f V dst (.unOp .neg T x) K = onInt (V.eval x) fun k n => K ⟨.p (.lit (.int k (k.wrap (0 - n)))), []⟩ := rfl
theorem b14 (src d : TypeId) (x : Operand) : aop P H f V dst (.convert src d x) K = onInt (V.eval x) fun _ n => (P.underlying src).isSome = true ∧ onE (tInt P d) fun k' => K ⟨.p (.lit (.int k' (k'.wrap n))), []⟩ := rfl
def sliceK (H : List Nat) (f : Nat) (dst : Option Nat) (V : PS) (sz : Nat) (a b d : Option Int) (v : AV) (K : Upd → Prop) : Prop :=
  match v with
        | .p (.seq c es) => (∀ y, y ∈ es → y.length = sz) ∧ a.getD 0 ≤ b.getD es.length ∧ b.getD es.length ≤ d.getD es.length ∧ d.getD es.length ≤ es.length ∧
            K ⟨.p (.seq (clipOf c es.length b d) ((es.take (b.getD es.length).toNat).drop (a.getD 0).toNat)), []⟩
        | .own id => ∃ es, V.hp id = some (.row sz es) ∧ d = none ∧ a.getD 0 ≤ b.getD es.length ∧ b.getD es.length ≤ es.length ∧
            if dst.any (H.contains ·) = true then a.getD 0 = 0 ∧ id ≠ f ∧ K ⟨.own f, [(f, some (.row sz (es.take (b.getD es.length).toNat))), (id, none)]⟩
            else K ⟨.sub id sz (a.getD 0).toNat ((b.getD es.length).toNat - (a.getD 0).toNat), []⟩
        | _ => False
@[congr] theorem sliceK_congr {H : List Nat} {f : Nat} {dst : Option Nat} {f' : Nat} {V : PS} {sz : Nat} {a b d : Option Int} {v v' : AV} {K : Upd → Prop} (h : mark v = v') (hf : f = f') : sliceK H f dst V sz a b d v K = sliceK H f' dst V sz a b d v' K := by rw [← h, mark_eq, hf]
theorem b15 (T : TypeId) (x : Operand) (lo hi mx : Option Operand) : aop P H f V dst (.slice T x lo hi mx) K = onE (tEl P T) fun e => onP (tSz P e) fun _ sz => onE (V.eval x) fun v => onE (evalOpt V lo) fun a => onE (evalOpt V hi) fun b => onE (evalOpt V mx) fun d =>
      (d.isSome = true → b.isSome = true) ∧ 0 ≤ a.getD 0 ∧ sliceK H f dst V sz a b d v K := by
  simp only [aop, onE, onP]
  refine propext (exists_congr fun e => and_congr_right fun _ => exists_congr fun g => exists_congr fun sz => and_congr_right fun _ => exists_congr fun v => and_congr_right fun _ => exists_congr fun a => and_congr_right fun _ => exists_congr fun b => and_congr_right fun _ => exists_congr fun d => and_congr_right fun _ => and_congr_right fun _ => and_congr_right fun _ => ?_)
  cases v <;> first | exact Iff.rfl | (rename_i q; cases q <;> exact Iff.rfl)
theorem b16 (sz : Nat) (a b d : Option Int) (c : Bool) (es : List (List PV)) : sliceK H f dst V sz a b d (.p (.seq c es)) K = ((∀ y, y ∈ es → y.length = sz) ∧ a.getD 0 ≤ b.getD es.length ∧ b.getD es.length ≤ d.getD es.length ∧ d.getD es.length ≤ es.length ∧
            K ⟨.p (.seq (clipOf c es.length b d) ((es.take (b.getD es.length).toNat).drop (a.getD 0).toNat)), []⟩) := rfl
theorem b17 (sz : Nat) (a b d : Option Int) (id : Nat) : sliceK H f dst V sz a b d (.own id) K = onRow (V.hp id) sz fun es => d = none ∧ a.getD 0 ≤ b.getD es.length ∧ b.getD es.length ≤ es.length ∧
            if dst.any (H.contains ·) = true then a.getD 0 = 0 ∧ id ≠ f ∧ K ⟨.own f, [(f, some (.row sz (es.take (b.getD es.length).toNat))), (id, none)]⟩
            else K ⟨.sub id sz (a.getD 0).toNat ((b.getD es.length).toNat - (a.getD 0).toNat), []⟩ := rfl
theorem b18 (T : TypeId) (x : Operand) (fd : Nat) : aop P H f V dst (.fieldAddr T x fd) K = onT (tFld P T fd) fun off _ _ => onE (V.eval x) fun v => onE (offs v off) fun r => K ⟨r, []⟩ := rfl
def idxG (V : PS) (sz n : Nat) (v : AV) (K : AV → Prop) : Prop := ∃ r, idxR V sz n v r ∧ K r
@[congr] theorem idxG_congr {V : PS} {sz n n' : Nat} {v v' : AV} {K : AV → Prop} (h : mark v = v') (hn : n = n') : idxG V sz n v K = idxG V sz n' v' K := by rw [← h, mark_eq, hn]
def idxK (P : Program) (V : PS) (T : TypeId) (n : Int) (v : AV) (K : AV → Prop) : Option TypeId → Prop
  | some e => onP (tSz P e) fun _ sz => idxG V sz n.toNat v K
  | none => onT (tArr P T) fun len sz _ => n < len ∧ onE (offs v (n.toNat * sz)) K
@[congr] theorem idxK_congr {P : Program} {V : PS} {T : TypeId} {n : Int} {v : AV} {K : AV → Prop} {o o' : Option TypeId} (h : mark o = o') : idxK P V T n v K o = idxK P V T n v K o' := by rw [← h, mark_eq]
theorem b19 (T : TypeId) (x i : Operand) : aop P H f V dst (.indexAddr T x i) K = onE (evalInt V i) fun n => 0 ≤ n ∧ onE (V.eval x) fun v => idxK P V T n v (fun r => K ⟨r, []⟩) (tEl P T) := by
  simp only [aop, idxK, onE]
  cases tEl P T <;> rfl
theorem b20 (T : TypeId) (n : Int) (v : AV) (e : TypeId) (K : AV → Prop) : idxK P V T n v K (some e) = onP (tSz P e) fun _ sz => idxG V sz n.toNat v K := rfl
theorem b21 (T : TypeId) (n : Int) (v : AV) (K : AV → Prop) : idxK P V T n v K none = onT (tArr P T) fun len sz _ => n < len ∧ onE (offs v (n.toNat * sz)) K := rfl
def cellK (g : Bool) (off sz : Nat) (cs : List AV) (K : AV → Prop) : Prop := ∃ r, (if g = true then off + sz ≤ cs.length ∧ r = aggOf ((cs.drop off).take sz) else cs[off]? = some r) ∧ K r
@[congr] theorem cellK_congr {g : Bool} {off off' sz : Nat} {cs cs' : List AV} {K : AV → Prop} (h : mark cs = cs') (hn : off = off') : cellK g off sz cs K = cellK g off' sz cs' K := by rw [← h, mark_eq, hn]
theorem b22 (T : TypeId) (x : Operand) (fd : Nat) : aop P H f V dst (.field T x fd) K = onT (tFld P T fd) fun off sz g => onE (V.eval x) fun v => onE (aop.aggCells v) fun cs => cellK g off sz cs fun r => K ⟨r, []⟩ := rfl
theorem b23 (T : TypeId) (x i : Operand) : aop P H f V dst (.index T x i) K = onE (evalInt V i) fun n => 0 ≤ n ∧ onT (tArr P T) fun len sz g => n < len ∧ onE (V.eval x) fun v => onE (aop.aggCells v) fun cs =>
      cellK g (n.toNat * sz) sz cs fun r => K ⟨r, []⟩ := rfl
theorem b24 (x : Operand) (i : Nat) : aop P H f V dst (.extract x i) K = onE (V.eval x) fun v => onE (aop.tupCells v) fun vs => onE vs[i]? fun r => K ⟨r, []⟩ := rfl
theorem b25 (g : FuncId) (first : Array Operand) (l : List Operand) : aop P H f V dst (.makeFunc (.func g) first l.toArray) K = (first.size = 0 ∧ onE (evals V l) fun cs => K ⟨.fn g cs, []⟩) := rfl
def lenK (V : PS) (v : AV) (K : Nat → Prop) : Prop := ∃ n, lenR V v n ∧ K n
@[congr] theorem lenK_congr {V : PS} {v v' : AV} {K : Nat → Prop} (h : mark v = v') : lenK V v K = lenK V v' K := by rw [← h, mark_eq]
theorem b26 (x : Operand) (t : Nat) : aop P H f V dst (.call ⟨.builtin .len, #[x], #[t]⟩) K = onE (tEl P t) fun _ => onE (V.eval x) fun v => lenK V v fun n => K ⟨.p (.lit (.int .i64 n)), []⟩ := by
  simp [aop, onE, lenK]
theorem b27 (l : List Operand) (ts : Array TypeId) : aop P H f V dst (.call ⟨.builtin .min, l.toArray, ts⟩) K = onE (aop.evalInts V l) fun vs => onP (aop.minR vs) fun k r => K ⟨.p (.lit (.int k r)), []⟩ := rfl
theorem b28 (l : List Operand) (ts : Array TypeId) : aop P H f V dst (.call ⟨.builtin .max, l.toArray, ts⟩) K = onE (aop.evalInts V l) fun vs => onP (aop.maxR vs) fun k r => K ⟨.p (.lit (.int k r)), []⟩ := rfl
def srcK (V : PS) (v : AV) (K : List (List PV) → Prop) : Prop := ∃ es, srcR V v es ∧ K es
def appK (H : List Nat) (f : Nat) (V : PS) (dst : Option Nat) (by' n : Nat) (v : AV) (es2 : List (List PV)) (K : Upd → Prop) : Prop := match v with
    | .p (.seq true es1) => (∀ y, y ∈ es1 → y.length = n) ∧ (es1.length + es2.length) * by' ≤ 140737488355328 ∧ es1.length + es2.length ≤ maxLen ∧
        if dst.any (H.contains ·) = true then (es1 = [] ∨ es2 ≠ []) ∧ K ⟨.own f, [(f, some (.row n (lift (es1 ++ es2))))]⟩ else K ⟨.p (.seq false (es1 ++ es2)), []⟩
    | .own id => ∃ es1, V.hp id = some (.row n (lift es1)) ∧ (es1.length + es2.length) * by' ≤ 140737488355328 ∧ es1.length + es2.length ≤ maxLen ∧ id ≠ f ∧
        if dst.any (H.contains ·) = true then K ⟨.own f, [(f, some (.row n (lift (es1 ++ es2)))), (id, none)]⟩ else dst.isSome = true ∧ K ⟨.p (.seq false (es1 ++ es2)), [(f, none), (id, none)]⟩
    | _ => False
@[congr] theorem srcK_congr {V : PS} {v v' : AV} {K : List (List PV) → Prop} (h : mark v = v') : srcK V v K = srcK V v' K := by rw [← h, mark_eq]
@[congr] theorem appK_congr {H : List Nat} {f : Nat} {V : PS} {dst : Option Nat} {by' n n' f' : Nat} {v v' : AV} {es es' : List (List PV)} {K : Upd → Prop} (h : mark v = v') (he : es = es') (hn : n = n') (hf : f = f') : appK H f V dst by' n v es K = appK H f' V dst by' n' v' es' K := by rw [← h, mark_eq, he, hn, hf]
theorem b29 (x y : Operand) (t : Nat) : aop P H f V dst (.call ⟨.builtin .append, #[x, y], #[t, t]⟩) K = onE (tEl P t) fun e => onE (tBytes P e) fun by' => onP (tVar P e) fun _ zs => 0 < zs.length ∧ onE (V.eval x) fun v => onE (V.eval y) fun v2 => srcK V v2 fun es2 =>
      (∀ y, y ∈ es2 → y.length = zs.length) ∧ appK H f V dst by' zs.length v es2 K := by
  have e : aop P H f V dst (.call ⟨.builtin .append, #[x, y], #[t, t]⟩) K = aAppend P H f V dst t x y K := by
    simp only [aop]
    exact propext ⟨by rintro ⟨_, _, e, _, _, e', h⟩; cases e; cases e'; rwa [if_pos rfl] at h, fun h => ⟨_, _, rfl, _, _, rfl, by rwa [if_pos rfl]⟩⟩
  rw [e]
  simp only [aAppend, onE, onP, srcK]
  refine propext (exists_congr fun e => and_congr_right fun _ => exists_congr fun b => and_congr_right fun _ => exists_congr fun g => exists_congr fun zs => and_congr_right fun _ => and_congr_right fun _ => exists_congr fun v => and_congr_right fun _ => exists_congr fun v2 => and_congr_right fun _ =>
    exists_congr fun es2 => and_congr_right fun _ => and_congr_right fun _ => ?_)
  cases v <;> first | exact Iff.rfl | (rename_i q; cases q <;> first | exact Iff.rfl | (rename_i c es; cases c <;> exact Iff.rfl))
def onNat (o : Option AV) (K : Int → Prop) : Prop := ∃ k n, o = some (.p (.lit (.int k n))) ∧ K n
@[congr] theorem onNat_congr {o o' : Option AV} {K : Int → Prop} (h : mark o = o') : onNat o K = onNat o' K := by rw [← h, mark_eq]
theorem e17 (k : IntKind) (n : Int) (K : Int → Prop) : onNat (some (.p (.lit (.int k n)))) K = K n := by simp [onNat, and_assoc]
theorem b32 (x y : Operand) (t u : Nat) (hne : t ≠ u) : aop P H f V dst (.call ⟨.builtin .append, #[x, y], #[t, u]⟩) K = onE (tEl P t) fun e => onE (tInt P u) fun _ => onE (tBytes P e) fun by' => onP (tVar P e) fun _ zs => 0 < zs.length ∧ V.eval x = some (.p (.seq true [])) ∧ onNat (V.eval y) fun n =>
      0 < n ∧ n * by' ≤ 140737488355328 ∧ n ≤ maxLen ∧ dst.any (H.contains ·) = true ∧ K ⟨.own f, [(f, some (.row zs.length (lift (List.replicate n.toNat zs))))]⟩ := by
  have e : aop P H f V dst (.call ⟨.builtin .append, #[x, y], #[t, u]⟩) K = aAppZ P H f V dst t u x y K := by
    simp only [aop]
    exact propext ⟨by rintro ⟨_, _, e, _, _, e', h⟩; cases e; cases e'; rwa [if_neg hne] at h, fun h => ⟨_, _, rfl, _, _, rfl, by rwa [if_neg hne]⟩⟩
  rw [e]
  rfl
theorem b33 (x : Operand) (t : Nat) : aop P H f V dst (.call ⟨.builtin .cap, #[x], #[t]⟩) K = onE (tEl P t) fun _ => onSeq (V.eval x) fun es => K ⟨.p (.lit (.int .i64 es.length)), []⟩ := by
  simp [aop, onE, onSeq]
theorem b30 (g : FuncId) (l : List Operand) (ts : Array TypeId) : aop P H f V dst (.call ⟨.value (.func g), l.toArray, ts⟩) K = (enters P g = true ∧ onE (evals V l) fun xs => callK P g (xs ++ []) f V dst K) := by
  simp only [aop, PS.eval, onE]
  exact propext ⟨by rintro ⟨_, e, _, _, e', h⟩; cases e; cases e'; exact h, fun h => ⟨_, rfl, _, _, rfl, h⟩⟩
theorem b31 (t : Nat) (l : List Operand) (ts : Array TypeId) : aop P H f V dst (.call ⟨.value (.tmp t), l.toArray, ts⟩) K = onFn (V.eval (.tmp t)) fun h caps => enters P h = true ∧ onE (evals V l) fun xs => callK P h (xs ++ caps) f V dst K := rfl
-- values
section
variable (K : AV → Prop)
theorem c01 (g : Bool) (n id sz k off : Nat) : loadK V (.ptr id sz k off) g n K = loadB (V.hp id) sz k off g n K := by
  cases g <;> simp only [loadK, loadR, loadB]
  · exact propext ⟨by rintro ⟨_, ⟨es, cs, h1, h2, h3⟩, h⟩; exact ⟨es, h1, cs, h2, _, h3, h⟩, by rintro ⟨es, h1, cs, h2, _, h3, h⟩; exact ⟨_, ⟨es, cs, h1, h2, h3⟩, h⟩⟩
  · exact propext ⟨by rintro ⟨_, ⟨es, cs, h1, h2, h3, rfl⟩, h⟩; exact ⟨es, h1, cs, h2, h3, h⟩, by rintro ⟨es, h1, cs, h2, h3, h⟩; exact ⟨_, ⟨es, cs, h1, h2, h3, rfl⟩, h⟩⟩
theorem c02 (sz off n : Nat) (cs : List AV) : loadB (some (.row sz [cs])) sz 0 off false n K = onE cs[off]? K := by
  simp [loadB, onE]
theorem c24 (sz off n : Nat) (cs : List AV) : loadB (some (.row sz [cs])) sz 0 off true n K = (off + n ≤ cs.length ∧ K (aggOf ((cs.drop off).take n))) := by
  simp [loadB]
theorem c25 (sz k off n : Nat) (es : List (List PV)) : loadB (some (.row sz (lift es))) sz k off false n K = (k < es.length ∧ onE (es.getD k [])[off]? fun x => K (.p x)) := by
  simp only [loadB, onE, Option.some.injEq, Blk.row.injEq, true_and]
  refine propext ⟨?_, ?_⟩
  · rintro ⟨_, rfl, cs, h1, y, h2, h⟩
    rw [lift_get] at h1
    obtain ⟨xs, hxs, rfl⟩ := Option.map_eq_some_iff.1 h1
    rw [List.getElem?_map] at h2
    obtain ⟨x, hx, rfl⟩ := Option.map_eq_some_iff.1 h2
    exact ⟨(List.getElem?_eq_some_iff.1 hxs).1, x, by rw [List.getD_eq_getElem?_getD, hxs]; exact hx, h⟩
  · rintro ⟨hk, x, hx, h⟩
    have hxs : es[k]? = some es[k] := List.getElem?_eq_getElem hk
    rw [List.getD_eq_getElem?_getD, hxs] at hx
    exact ⟨_, rfl, es[k].map .p, by rw [lift_get, hxs]; rfl, .p x, by rw [List.getElem?_map, show es[k][off]? = some x from hx]; rfl, h⟩
theorem c26 (sz k off n : Nat) (es : List (List PV)) : loadB (some (.row sz (lift es))) sz k off true n K = (k < es.length ∧ off + n ≤ (es.getD k []).length ∧ K (.p (.agg (((es.getD k []).drop off).take n)))) := by
  simp only [loadB, Option.some.injEq, Blk.row.injEq, true_and]
  have key : ∀ xs : List PV, aggOf (((xs.map AV.p).drop off).take n) = .p (.agg ((xs.drop off).take n)) := fun xs => by
    rw [← List.map_drop, ← List.map_take, aggOf, pures_map]
  refine propext ⟨?_, ?_⟩
  · rintro ⟨_, rfl, cs, h1, h2, h⟩
    rw [lift_get] at h1
    obtain ⟨xs, hxs, rfl⟩ := Option.map_eq_some_iff.1 h1
    rw [key] at h
    have e : es.getD k [] = xs := by rw [List.getD_eq_getElem?_getD, hxs]; rfl
    exact ⟨(List.getElem?_eq_some_iff.1 hxs).1, by rw [e]; simpa using h2, by rw [e]; exact h⟩
  · rintro ⟨hk, h2, h⟩
    have hxs : es[k]? = some es[k] := List.getElem?_eq_getElem hk
    have e : es.getD k [] = es[k] := by rw [List.getD_eq_getElem?_getD, hxs]; rfl
    rw [e] at h2 h
    exact ⟨_, rfl, es[k].map .p, by rw [lift_get, hxs]; rfl, by simpa using h2, by rw [key]; exact h⟩
theorem c03 (n off : Nat) (cs : List PV) : loadK V (.pp cs off) true n K = (off + n ≤ cs.length ∧ K (.p (.agg ((cs.drop off).take n)))) := by
  simp only [loadK, loadR]
  exact propext ⟨by rintro ⟨_, ⟨h3, rfl⟩, h⟩; exact ⟨h3, h⟩, by rintro ⟨h3, h⟩; exact ⟨_, ⟨h3, rfl⟩, h⟩⟩
theorem c04 (n off : Nat) (cs : List PV) : loadK V (.pp cs off) false n K = onE cs[off]? fun x => K (.p x) := by
  simp only [loadK, loadR, onE]
  exact propext ⟨by rintro ⟨_, ⟨x, h3, rfl⟩, h⟩; exact ⟨x, h3, h⟩, by rintro ⟨x, h3, h⟩; exact ⟨_, ⟨x, h3, rfl⟩, h⟩⟩
theorem c05 (sz n : Nat) (c : Bool) (es : List (List PV)) : idxG V sz n (.p (.seq c es)) K = onE es[n]? fun cs => cs.length = sz ∧ K (.pp cs 0) := by
  simp only [idxG, idxR, onE]
  exact propext ⟨by rintro ⟨_, ⟨x, h3, h4, rfl⟩, h⟩; exact ⟨x, h3, h4, h⟩, by rintro ⟨x, h3, h4, h⟩; exact ⟨_, ⟨x, h3, h4, rfl⟩, h⟩⟩
theorem c06 (sz n id : Nat) : idxG V sz n (.own id) K = onRow (V.hp id) sz fun es => n < es.length ∧ K (.ptr id sz n 0) := by
  simp only [idxG, idxR, onRow]
  exact propext ⟨by rintro ⟨_, ⟨x, h3, h4, rfl⟩, h⟩; exact ⟨x, h3, h4, h⟩, by rintro ⟨x, h3, h4, h⟩; exact ⟨_, ⟨x, h3, h4, rfl⟩, h⟩⟩
theorem c07 (off sz : Nat) (cs : List AV) : cellK true off sz cs K = (off + sz ≤ cs.length ∧ K (aggOf ((cs.drop off).take sz))) := by
  simp only [cellK]
  exact propext ⟨by rintro ⟨_, ⟨h3, rfl⟩, h⟩; exact ⟨h3, h⟩, by rintro ⟨h3, h⟩; exact ⟨_, ⟨h3, rfl⟩, h⟩⟩
theorem c08 (off sz : Nat) (cs : List AV) : cellK false off sz cs K = onE cs[off]? K := rfl
end
section
variable (K : Nat → Prop)
theorem c09 (c : Bool) (es : List (List PV)) : lenK V (.p (.seq c es)) K = K es.length := by simp [lenK, lenR]
theorem c10 (id lo sz m : Nat) : lenK V (.sub id sz lo m) K = K m := by simp [lenK, lenR]
def onLen (o : Option Blk) (K : Nat → Prop) : Prop := ∃ sz es, o = some (.row sz es) ∧ K es.length
@[congr] theorem onLen_congr {o o' : Option Blk} {K : Nat → Prop} (h : mark o = o') : onLen o K = onLen o' K := by rw [← h, mark_eq]
theorem e14 (sz : Nat) (es : List (List AV)) : onLen (some (.row sz es)) K = K es.length := by simp [onLen, and_assoc]
theorem c11 (id : Nat) : lenK V (.own id) K = onLen (V.hp id) K := by
  simp only [lenK, lenR, onLen]
  exact propext ⟨by rintro ⟨_, ⟨a, b, h3, rfl⟩, h⟩; exact ⟨a, b, h3, h⟩, by rintro ⟨a, b, h3, h⟩; exact ⟨_, ⟨a, b, h3, rfl⟩, h⟩⟩
end
theorem c12 (i s k o d : Nat) : offs (.ptr i s k o) d = some (.ptr i s k (o + d)) := rfl
theorem c13 (cs : List PV) (o d : Nat) : offs (.pp cs o) d = some (.pp cs (o + d)) := rfl
def onLift (o : Option Blk) (K : List (List PV) → Prop) : Prop := ∃ sz es, o = some (.row sz (lift es)) ∧ K es
@[congr] theorem onLift_congr {o o' : Option Blk} {K : List (List PV) → Prop} (h : mark o = o') : onLift o K = onLift o' K := by rw [← h, mark_eq]
theorem e15 (sz : Nat) (es : List (List PV)) (K : List (List PV) → Prop) : onLift (some (.row sz (lift es))) K = K es := by
  simp only [onLift, Option.some.injEq, Blk.row.injEq]
  exact propext ⟨by rintro ⟨_, _, ⟨_, h⟩, h'⟩; rwa [lift_inj.mp h], fun h => ⟨_, _, ⟨rfl, rfl⟩, h⟩⟩
def onLiftN (o : Option Blk) (n : Nat) (K : List (List PV) → Prop) : Prop := ∃ es, o = some (.row n (lift es)) ∧ K es
@[congr] theorem onLiftN_congr {o o' : Option Blk} {n n' : Nat} {K : List (List PV) → Prop} (h : mark o = o') (hn : n = n') : onLiftN o n K = onLiftN o' n' K := by rw [← h, mark_eq, hn]
theorem e16 (sz : Nat) (es : List (List PV)) (K : List (List PV) → Prop) : onLiftN (some (.row sz (lift es))) sz K = K es := by
  simp only [onLiftN, Option.some.injEq, Blk.row.injEq, true_and]
  exact propext ⟨by rintro ⟨_, h, h'⟩; rwa [lift_inj.mp h], fun h => ⟨_, rfl, h⟩⟩
section
variable (K : List (List PV) → Prop)
theorem c14 (c : Bool) (es : List (List PV)) : srcK V (.p (.seq c es)) K = K es := by simp [srcK, srcR]
theorem c15 (id : Nat) : srcK V (.own id) K = onLift (V.hp id) K := by
  simp only [srcK, srcR, onLift]
  exact propext ⟨by rintro ⟨es, ⟨a, h⟩, h'⟩; exact ⟨a, es, h, h'⟩, by rintro ⟨a, es, h, h'⟩; exact ⟨es, ⟨a, h⟩, h'⟩⟩
theorem c16 (id sz lo n : Nat) : srcK V (.sub id sz lo n) K = onLiftN (V.hp id) sz fun es => lo + n ≤ es.length ∧ K ((es.drop lo).take n) := by
  simp only [srcK, srcR, onLiftN]
  exact propext ⟨by rintro ⟨_, ⟨a, h, h2, rfl⟩, h'⟩; exact ⟨a, h, h2, h'⟩, by rintro ⟨a, h, h2, h'⟩; exact ⟨_, ⟨a, h, h2, rfl⟩, h'⟩⟩
end
theorem c17 (by' n : Nat) (es1 es2 : List (List PV)) : appK H f V dst by' n (.p (.seq true es1)) es2 K = ((∀ y, y ∈ es1 → y.length = n) ∧ (es1.length + es2.length) * by' ≤ 140737488355328 ∧ es1.length + es2.length ≤ maxLen ∧
        if dst.any (H.contains ·) = true then (es1 = [] ∨ es2 ≠ []) ∧ K ⟨.own f, [(f, some (.row n (lift (es1 ++ es2))))]⟩ else K ⟨.p (.seq false (es1 ++ es2)), []⟩) := rfl
theorem c18 (by' n id : Nat) (es2 : List (List PV)) : appK H f V dst by' n (.own id) es2 K = onLiftN (V.hp id) n fun es1 => (es1.length + es2.length) * by' ≤ 140737488355328 ∧ es1.length + es2.length ≤ maxLen ∧ id ≠ f ∧
        if dst.any (H.contains ·) = true then K ⟨.own f, [(f, some (.row n (lift (es1 ++ es2)))), (id, none)]⟩ else dst.isSome = true ∧ K ⟨.p (.seq false (es1 ++ es2)), [(f, none), (id, none)]⟩ := rfl
theorem c19 : evalOpt V none = some none := rfl
theorem c20 (x : Operand) : evalOpt V (some x) = match V.eval x with | some (.p (.lit (.int _ n))) => some (some n) | _ => none := rfl
theorem c21 (c : Bool) (n : Nat) (h : Option Int) (m : Int) : clipOf c n h (some m) = decide (h = some m) := rfl
theorem c22 (c : Bool) (n : Nat) : clipOf c n none none = c := rfl
theorem c23 (c : Bool) (n : Nat) (h : Int) : clipOf c n (some h) none = (c && decide (h = n)) := rfl
section
variable (T : TypeId) (k : IntKind) (a b : Int) (K : Value → Prop)
theorem g01 : binK P T .add (.int k a) (.int k b) K = K (.int k (k.wrap (a + b))) := by simp [binK, binR, binT]
theorem g02 : binK P T .sub (.int k a) (.int k b) K = K (.int k (k.wrap (a - b))) := by simp [binK, binR, binT]
theorem g03 : binK P T .mul (.int k a) (.int k b) K = K (.int k (k.wrap (a * b))) := by simp [binK, binR, binT]
theorem g04 : binK P T .quo (.int k a) (.int k b) K = (b ≠ 0 ∧ K (.int k (k.wrap (a.tdiv b)))) := by simp [binK, binR, binT, and_assoc]
theorem g05 : binK P T .rem (.int k a) (.int k b) K = (b ≠ 0 ∧ K (.int k (a.tmod b))) := by simp [binK, binR, binT, and_assoc]
theorem g06 : binK P T .eql (.int k a) (.int k b) K = K (.bool (a == b)) := by simp [binK, binR, binT]
theorem g07 : binK P T .neq (.int k a) (.int k b) K = K (.bool (a != b)) := by simp [binK, binR, binT]
theorem g08 : binK P T .lss (.int k a) (.int k b) K = K (.bool (decide (a < b))) := by simp [binK, binR, binT]
theorem g09 : binK P T .leq (.int k a) (.int k b) K = K (.bool (decide (a ≤ b))) := by simp [binK, binR, binT]
theorem g10 : binK P T .gtr (.int k a) (.int k b) K = K (.bool (decide (b < a))) := by simp [binK, binR, binT]
theorem g11 : binK P T .geq (.int k a) (.int k b) K = K (.bool (decide (b ≤ a))) := by simp [binK, binR, binT]
theorem g12 (k' : IntKind) : binK P T .shl (.int k a) (.int k' b) K = (0 ≤ b ∧ K (.int k (k.wrap (a * 2 ^ min b.toNat k.bits)))) := by simp [binK, binR, binT, and_assoc]
theorem g13 (k' : IntKind) : binK P T .shr (.int k a) (.int k' b) K = (0 ≤ b ∧ K (.int k (a / 2 ^ min b.toNat k.bits))) := by simp [binK, binR, binT, and_assoc]
theorem g14 : binK P T .and (.int k a) (.int k b) K = K (.int k (k.wrap (BitVec.ofInt k.bits a &&& BitVec.ofInt k.bits b).toNat)) := by simp [binK, binR, binT]
theorem g15 : binK P T .or (.int k a) (.int k b) K = K (.int k (k.wrap (BitVec.ofInt k.bits a ||| BitVec.ofInt k.bits b).toNat)) := by simp [binK, binR, binT]
theorem g17 (a b : Bool) : binK P T .eql (.bool a) (.bool b) K = (P.underlying T = some .bool ∧ K (.bool (a == b))) := by simp [binK, binR, binT, and_assoc]
theorem g18 (a b : Bool) : binK P T .neq (.bool a) (.bool b) K = (P.underlying T = some .bool ∧ K (.bool (a != b))) := by simp [binK, binR, binT, and_assoc]
theorem g16 : binK P T .xor (.int k a) (.int k b) K = K (.int k (k.wrap (BitVec.ofInt k.bits a ^^^ BitVec.ofInt k.bits b).toNat)) := by simp [binK, binR, binT]
end
theorem d01 (cs : List PV) : AV.cells (.p (.agg cs)) = some (cs.map .p) := rfl
theorem d02 (k : IntKind) (n : Int) : AV.cells (.p (.lit (.int k n))) = some [.p (.lit (.int k n))] := rfl
theorem d03 (b : Bool) : AV.cells (.p (.lit (.bool b))) = some [.p (.lit (.bool b))] := rfl
theorem d04 (c : Bool) (es : List (List PV)) : AV.cells (.p (.seq c es)) = some [.p (.seq c es)] := rfl
theorem d05 (cs : List AV) : AV.cells (.agg cs) = some cs := rfl
theorem d06 (id : Nat) : AV.cells (.own id) = some [.own id] := rfl
theorem d07 (a b c d : Nat) : AV.cells (.ptr a b c d) = some [.ptr a b c d] := rfl
theorem d33 (i : Nat) : AV.cells (.mp i) = some [.mp i] := rfl
theorem d34 (f : FuncId) (cs : List AV) : AV.cells (.fn f cs) = some [.fn f cs] := rfl
theorem d35 (i : Nat) (r : List AV) : pures (.mp i :: r) = none := rfl
theorem d36 (f : FuncId) (cs r : List AV) : pures (.fn f cs :: r) = none := rfl
theorem d08 : pures [] = some [] := rfl
theorem d09 (x : PV) (r : List AV) : pures (.p x :: r) = (pures r).map (x :: ·) := rfl
theorem d10 (x : Nat) (r : List AV) : pures (.own x :: r) = none := rfl
theorem d11 (a b c d : Nat) (r : List AV) : pures (.ptr a b c d :: r) = none := rfl
theorem d12 (cs : List PV) : aop.aggCells (.p (.agg cs)) = some (cs.map .p) := rfl
theorem d13 (cs : List AV) : aop.aggCells (.agg cs) = some cs := rfl
theorem d14 (cs : List PV) : aop.tupCells (.p (.tup cs)) = some (cs.map .p) := rfl
theorem d15 (cs : List AV) : aop.tupCells (.tup cs) = some cs := rfl
theorem d16 (a b c d : Nat) : isPtr (.ptr a b c d) = true := rfl
theorem d17 (cs : List PV) (o : Nat) : isPtr (.pp cs o) = true := rfl
theorem d18 : evals V [] = some [] := rfl
theorem d19 (x : Operand) (r : List Operand) : evals V (x :: r) = match V.eval x, evals V r with | some v, some vs => some (v :: vs) | _, _ => none := rfl
theorem d20 : aop.evalInts V [] = some [] := rfl
theorem d21 (x : Operand) (r : List Operand) : aop.evalInts V (x :: r) = match V.eval x, aop.evalInts V r with | some (.p (.lit (.int k n))), some vs => some ((k, n) :: vs) | _, _ => none := rfl
theorem d22 (k : IntKind) (n : Int) (r : List (IntKind × Int)) : aop.minR ((k, n) :: r) = some (k, r.foldl (fun x y => if y.2 < x then y.2 else x) n) := rfl
theorem d23 (k : IntKind) (n : Int) (r : List (IntKind × Int)) : aop.maxR ((k, n) :: r) = some (k, r.foldl (fun x y => if y.2 > x then y.2 else x) n) := rfl
theorem d24 (x : Operand) : evalInt V x = match V.eval x with | some (.p (.lit (.int _ n))) => some n | _ => none := rfl
theorem d25 : evalParts V [] = some [] := rfl
theorem d26 (i : Nat) (x : Operand) (r : List (Nat × Operand)) : evalParts V ((i, x) :: r) = match V.eval x, evalParts V r with
    | some v, some vs => match v.cells with | some cs => some ((i, cs) :: vs) | none => none
    | _, _ => none := rfl
theorem d27 (sz k : Nat) : evalRow V sz k [] = some [] := rfl
theorem d28 (sz k i : Nat) (x : Operand) (r : List (Nat × Operand)) : evalRow V sz k ((i, x) :: r) = if i = k then match V.eval x, evalRow V sz (k + 1) r with
      | some v, some es => match v.cells with
        | some cs => match pures cs with
          | some ps => if ps.length = sz then some (ps :: es) else none
          | none => none
        | none => none
      | _, _ => none
    else none := rfl
theorem d29 (place : Nat → Option (Nat × Nat)) (cells : List AV) : afill place cells [] = some cells := rfl
theorem d30 (place : Nat → Option (Nat × Nat)) (cells : List AV) (i : Nat) (v : List AV) (r : List (Nat × List AV)) : afill place cells ((i, v) :: r) = match place i with
    | none => none
    | some (off, size) => if v.length = size ∧ off + size ≤ cells.length then afill place (splice cells off v) r else none := rfl
theorem d31 (cs : List AV) : aggOf cs = match pures cs with | some xs => .p (.agg xs) | none => .agg cs := rfl
theorem d32 (α : Type) (cs : List α) (off : Nat) (vs : List α) : splice cs off vs = cs.take off ++ vs ++ cs.drop (off + vs.length) := rfl
end
theorem LeP.sq {c : Bool} {es es' : List (List PV)} (h : es = es') : LeP (.seq c es) (.seq false es') := h ▸ LeP.seq c es
theorem ResA.ownE {hp : List (Nat × Blk)} {id sz : Nat} {es : List (List PV)} {r : PV} (h : lkp hp id = some (.row sz (lift es))) (e : PV.seq false es = r) : ResA hp (.own id) r := e ▸ .own h
theorem LeP.sqc {c : Bool} {es es' : List (List PV)} (h : es = es') : LeP (.seq c es) (.seq c es') := h ▸ LeP.refl _
theorem amb : type_of% (And.intro (And.intro (And.intro (And.intro (And.intro (And.intro (And.intro (And.intro @b01 (And.intro @b02 @b03)) (And.intro (And.intro @b04 @b05) (And.intro @b06 @b07))) (And.intro (And.intro @b08 (And.intro @b09 @b10)) (And.intro (And.intro @b11 @b12) (And.intro @b13 @b14)))) (And.intro (And.intro (And.intro @b15 (And.intro @b18 @b19)) (And.intro (And.intro @b22 @b23) (And.intro @b24 @b25))) (And.intro (And.intro (And.intro @b26 @b27) (And.intro @b28 @b29)) (And.intro (And.intro @b30 @b31) (And.intro @b32 @b33))))) @b34) @b35) @b36) @b37) := (And.intro (And.intro (And.intro (And.intro (And.intro (And.intro (And.intro (And.intro @b01 (And.intro @b02 @b03)) (And.intro (And.intro @b04 @b05) (And.intro @b06 @b07))) (And.intro (And.intro @b08 (And.intro @b09 @b10)) (And.intro (And.intro @b11 @b12) (And.intro @b13 @b14)))) (And.intro (And.intro (And.intro @b15 (And.intro @b18 @b19)) (And.intro (And.intro @b22 @b23) (And.intro @b24 @b25))) (And.intro (And.intro (And.intro @b26 @b27) (And.intro @b28 @b29)) (And.intro (And.intro @b30 @b31) (And.intro @b32 @b33))))) @b34) @b35) @b36) @b37)
theorem am : type_of% (And.intro (And.intro (And.intro (And.intro (And.intro (And.intro (And.intro (And.intro (And.intro (And.intro (And.intro (And.intro (And.intro (And.intro (And.intro (And.intro (And.intro (And.intro (And.intro (And.intro (And.intro (And.intro (And.intro (And.intro (And.intro (And.intro (And.intro (And.intro (And.intro (And.intro (And.intro (And.intro (And.intro (And.intro (And.intro (And.intro (And.intro @a01 @a02) (And.intro @a03 @a04)) (And.intro (And.intro @a05 @a06) (And.intro @a08 @a09))) (And.intro (And.intro (And.intro @a10 @a11) (And.intro @a12 @a13)) (And.intro (And.intro @a14 @a15) (And.intro @a16 @a17)))) (And.intro (And.intro (And.intro (And.intro @a18 @a19) (And.intro @a20 @a21)) (And.intro (And.intro @a22 @a23) (And.intro @a24 @a25))) (And.intro (And.intro (And.intro @a26 @a27) (And.intro @a28 @a29)) (And.intro (And.intro @a30 @a31) (And.intro @a32 @a33))))) (And.intro (And.intro (And.intro (And.intro (And.intro @b16 @b17) (And.intro @b20 @b21)) (And.intro (And.intro @c01 @c02) (And.intro @c03 @c04))) (And.intro (And.intro (And.intro @c05 @c06) (And.intro @c07 @c08)) (And.intro (And.intro @c09 @c10) (And.intro @c11 @c12)))) (And.intro (And.intro (And.intro (And.intro @c13 @c14) (And.intro @c15 @c16)) (And.intro (And.intro @c17 @c18) (And.intro @c19 @c20))) (And.intro (And.intro (And.intro @c21 @c22) (And.intro @c23 @d01)) (And.intro (And.intro @d02 @d03) (And.intro @d04 (And.intro @d05 @d06))))))) (And.intro (And.intro (And.intro (And.intro (And.intro (And.intro @d07 @d08) (And.intro @d09 @d10)) (And.intro (And.intro @d11 @d12) (And.intro @d13 @d14))) (And.intro (And.intro (And.intro @d15 @d16) (And.intro @d17 @d18)) (And.intro (And.intro @d19 @d20) (And.intro @d21 @d22)))) (And.intro (And.intro (And.intro (And.intro @d23 @d24) (And.intro @d25 @d26)) (And.intro (And.intro @d27 @d28) (And.intro @d29 @d30))) (And.intro (And.intro (And.intro @d31 @d32) (And.intro @e01 @e02)) (And.intro (And.intro @e03 @e04) (And.intro @e05 (And.intro @e06 @e07)))))) (And.intro (And.intro (And.intro (And.intro (And.intro @e08 @e09) (And.intro @e10 @e11)) (And.intro (And.intro @e12 @e13) (And.intro @e14 @e15))) (And.intro (And.intro (And.intro @e16 @e17) (And.intro @e18 @g01)) (And.intro (And.intro @g02 @g03) (And.intro @g04 @g05)))) (And.intro (And.intro (And.intro (And.intro @g06 @g07) (And.intro @g08 @g09)) (And.intro (And.intro @g10 @g11) (And.intro @g12 @g13))) (And.intro (And.intro (And.intro @g14 @g15) (And.intro @g16 @g17)) (And.intro (And.intro @g18 @g19) (And.intro @g20 (And.intro @g21 @g22)))))))) @g23) @g24) @g25) @g26) @g27) @g28) @g29) @g30) @g31) @g32) @g33) @e19) @e20) @e21) @c24) @c25) @c26) @c27) @c28) @c29) @h01) @h02) @d33) @d34) @d35) @d36) @a34) @a35) @a36) @a37) := (And.intro (And.intro (And.intro (And.intro (And.intro (And.intro (And.intro (And.intro (And.intro (And.intro (And.intro (And.intro (And.intro (And.intro (And.intro (And.intro (And.intro (And.intro (And.intro (And.intro (And.intro (And.intro (And.intro (And.intro (And.intro (And.intro (And.intro (And.intro (And.intro (And.intro (And.intro (And.intro (And.intro (And.intro (And.intro (And.intro (And.intro @a01 @a02) (And.intro @a03 @a04)) (And.intro (And.intro @a05 @a06) (And.intro @a08 @a09))) (And.intro (And.intro (And.intro @a10 @a11) (And.intro @a12 @a13)) (And.intro (And.intro @a14 @a15) (And.intro @a16 @a17)))) (And.intro (And.intro (And.intro (And.intro @a18 @a19) (And.intro @a20 @a21)) (And.intro (And.intro @a22 @a23) (And.intro @a24 @a25))) (And.intro (And.intro (And.intro @a26 @a27) (And.intro @a28 @a29)) (And.intro (And.intro @a30 @a31) (And.intro @a32 @a33))))) (And.intro (And.intro (And.intro (And.intro (And.intro @b16 @b17) (And.intro @b20 @b21)) (And.intro (And.intro @c01 @c02) (And.intro @c03 @c04))) (And.intro (And.intro (And.intro @c05 @c06) (And.intro @c07 @c08)) (And.intro (And.intro @c09 @c10) (And.intro @c11 @c12)))) (And.intro (And.intro (And.intro (And.intro @c13 @c14) (And.intro @c15 @c16)) (And.intro (And.intro @c17 @c18) (And.intro @c19 @c20))) (And.intro (And.intro (And.intro @c21 @c22) (And.intro @c23 @d01)) (And.intro (And.intro @d02 @d03) (And.intro @d04 (And.intro @d05 @d06))))))) (And.intro (And.intro (And.intro (And.intro (And.intro (And.intro @d07 @d08) (And.intro @d09 @d10)) (And.intro (And.intro @d11 @d12) (And.intro @d13 @d14))) (And.intro (And.intro (And.intro @d15 @d16) (And.intro @d17 @d18)) (And.intro (And.intro @d19 @d20) (And.intro @d21 @d22)))) (And.intro (And.intro (And.intro (And.intro @d23 @d24) (And.intro @d25 @d26)) (And.intro (And.intro @d27 @d28) (And.intro @d29 @d30))) (And.intro (And.intro (And.intro @d31 @d32) (And.intro @e01 @e02)) (And.intro (And.intro @e03 @e04) (And.intro @e05 (And.intro @e06 @e07)))))) (And.intro (And.intro (And.intro (And.intro (And.intro @e08 @e09) (And.intro @e10 @e11)) (And.intro (And.intro @e12 @e13) (And.intro @e14 @e15))) (And.intro (And.intro (And.intro @e16 @e17) (And.intro @e18 @g01)) (And.intro (And.intro @g02 @g03) (And.intro @g04 @g05)))) (And.intro (And.intro (And.intro (And.intro @g06 @g07) (And.intro @g08 @g09)) (And.intro (And.intro @g10 @g11) (And.intro @g12 @g13))) (And.intro (And.intro (And.intro @g14 @g15) (And.intro @g16 @g17)) (And.intro (And.intro @g18 @g19) (And.intro @g20 (And.intro @g21 @g22)))))))) @g23) @g24) @g25) @g26) @g27) @g28) @g29) @g30) @g31) @g32) @g33) @e19) @e20) @e21) @c24) @c25) @c26) @c27) @c28) @c29) @h01) @h02) @d33) @d34) @d35) @d36) @a34) @a35) @a36) @a37)
theorem aml : type_of% (And.intro (And.intro (And.intro (And.intro (And.intro (And.intro (And.intro (And.intro @int_default @toNat_sub_n) (And.intro @toNat_sub_1 @toNat_add_1)) (And.intro (And.intro @wrap64_of @if_min) (And.intro @if_max @cast_add1))) @getD_map) @tmod_of) @tdiv_of) @getD_app) @getD_set) := (And.intro (And.intro (And.intro (And.intro (And.intro (And.intro (And.intro (And.intro @int_default @toNat_sub_n) (And.intro @toNat_sub_1 @toNat_add_1)) (And.intro (And.intro @wrap64_of @if_min) (And.intro @if_max @cast_add1))) @getD_map) @tmod_of) @tdiv_of) @getD_app) @getD_set)
end Go.Am
