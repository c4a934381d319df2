/-
  The abstract machine, fourteenth part: a region that draws its order: it is enough to go through it in the text's order, if what is in conflict is ordered by its edges.
-/
import Derived.Test.YtbdliooaiincdaaAm13
import Derived.Orders
namespace Go.Am
open Go.RowKit

/-- what is known of a region's order: of each operation (as bits) those that come ahead of it in each order; which read blocks, which write them; which see the block that another one makes -/
structure Ord where
  B : List Nat
  R : List Nat
  W : List Nat
  vis : List (Nat × Nat)
  hot : Option (List Nat) := none

def Ord.bit (D : Ord) (i j : Nat) : Bool := (D.B.getD j 0).testBit i
/-- may an old block be written in the region? -/
def Ord.isHot (D : Ord) (id : Nat) : Bool := match D.hot with
  | none => true
  | some l => l.contains id
def Ord.isW (D : Ord) (i : Nat) : Bool := D.W.contains i
def Ord.isRW (D : Ord) (i : Nat) : Bool := D.R.contains i || D.W.contains i
def Ord.sees (D : Ord) (i j : Nat) : Bool := D.vis.contains (i, j)

def looksAt (gd : Nat → Option Nat) (o : Oper) : List Nat :=
  (o.op.operands.toList.filterMap fun | .tmp t => some t | _ => none) ++ (match o.guard with | some (g, _) => (gd g).toList | none => [])

def slotConflict (gd : Nat → Option Nat) (x y : Oper) : Bool :=
  (match x.dst with | some d => (looksAt gd y).contains d || y.dst == some d | none => false) || (match y.dst with | some d => (looksAt gd x).contains d | none => false)

def okPair (D : Ord) (gd : Nat → Option Nat) (i j : Nat) (x y : Oper) : Bool :=
  (!D.bit i j || y.after.toList.any fun e => Region.binds .any e && (e.on == i || D.bit i e.on)) &&
  (!decide (i < j) || D.bit i j || !(slotConflict gd x y || (D.isW i && D.isRW j) || (D.isRW i && D.isW j)))

def okRow (D : Ord) (gd : Nat → Option Nat) (j : Nat) (y : Oper) : Nat → List Oper → Bool
  | _, [] => true
  | i, x :: r => okPair D gd i j x y && okRow D gd j y (i + 1) r

def okRows (D : Ord) (ops : Array Oper) (gd : Nat → Option Nat) : Nat → List Oper → Bool
  | _, [] => true
  | j, y :: r => y.after.toList.all (fun e => !Region.binds .any e || decide (e.on < j)) && okRow D gd j y 0 ops.toList && okRows D ops gd (j + 1) r

def okD (D : Ord) (ops : Array Oper) : Bool :=
  okRows D ops (gdOf ops) 0 ops.toList && D.vis.all (fun p => decide (p.1 < p.2) && D.bit p.1 p.2) && (D.B.zipIdx.all fun p => decide (p.1 < 2 ^ ops.size)) && decide (D.B.length ≤ ops.size)

def viewD (D : Ord) (nx0 i : Nat) (s : LS) : PS :=
  ⟨lkp s.sl, fun id => if nmPos id ≤ nx0 ∧ D.isHot id = false then lkp s.hp id else if D.isRW i = true then (if nmPos id ≤ nx0 then lkp s.hp id else if D.sees (nmPos id - 1 - nx0) i = true then lkp s.hp id else none) else none⟩
def viewP (D : Ord) (nx0 i : Nat) (s : PS) : PS :=
  ⟨s.sl, fun id => if nmPos id ≤ nx0 ∧ D.isHot id = false then s.hp id else if D.isRW i = true then (if nmPos id ≤ nx0 then s.hp id else if D.sees (nmPos id - 1 - nx0) i = true then s.hp id else none) else none⟩

def okL (D : Ord) (nx0 i : Nat) : List (Nat × Option Blk) → Prop
  | [] => True
  | p :: r => (nmPos p.1 = nx0 + i + 1 ∨ (D.isW i = true ∧ ((nmPos p.1 ≤ nx0 ∧ D.isHot p.1 = true) ∨ (¬ nmPos p.1 ≤ nx0 ∧ D.sees (nmPos p.1 - 1 - nx0) i = true)))) ∧ okL D nx0 i r
def okU (D : Ord) (nx0 i : Nat) (u : Upd) : Prop := okL D nx0 i u.hps
theorem okU.get {D : Ord} {nx0 i : Nat} {u : Upd} (h : okU D nx0 i u) : ∀ p, p ∈ u.hps → nmPos p.1 = nx0 + i + 1 ∨ (D.isW i = true ∧ ((nmPos p.1 ≤ nx0 ∧ D.isHot p.1 = true) ∨ (¬ nmPos p.1 ≤ nx0 ∧ D.sees (nmPos p.1 - 1 - nx0) i = true))) := by
  have key : ∀ l, okL D nx0 i l → ∀ p, p ∈ l → nmPos p.1 = nx0 + i + 1 ∨ (D.isW i = true ∧ ((nmPos p.1 ≤ nx0 ∧ D.isHot p.1 = true) ∨ (¬ nmPos p.1 ≤ nx0 ∧ D.sees (nmPos p.1 - 1 - nx0) i = true))) := by
    intro l
    induction l with
    | nil => intro _ p hp; cases hp
    | cons q l ih =>
      intro h p hp
      rcases List.mem_cons.1 hp with rfl | hp
      · exact h.1
      · exact ih h.2 p hp
  exact key _ h

/-- operations of a region that draws, in the text's order -/
def aopsD (P : Program) (H : List Nat) (D : Ord) (gd : Nat → Option Nat) (K : LS → Prop) : Nat → List Oper → LS → Prop
  | _, [], s => K s
  | i, o :: os, s =>
    match o.guard with
    | none => aop P H (8 * (s.nx + i)) (viewD D s.nx i s) o.dst o.op fun u => okU D s.nx i u ∧ aopsD P H D gd K (i + 1) os (s.upd o.dst u)
    | some (g, b) => ∃ d, gd g = some d ∧ ∃ x, lkp s.sl d = some x ∧
        gcase x b (fun t => aop P H (8 * (s.nx + i)) (viewD D s.nx i (s.upd (some d) ⟨.p (.lit (.bool t)), []⟩)) o.dst o.op fun u => okU D s.nx i u ∧ aopsD P H D gd K (i + 1) os ((s.upd (some d) ⟨.p (.lit (.bool t)), []⟩).upd o.dst u))
          (fun t => aopsD P H D gd K (i + 1) os ((s.upd (some d) ⟨.p (.lit (.bool t)), []⟩).upd o.dst ⟨undefA, []⟩))
          (aopsD P H D gd K (i + 1) os (s.upd o.dst ⟨undefA, []⟩))

/-! ### the trace -/
def stFrom (ops : List Oper) (us : Nat → Upd) : PS → Nat → PS
  | s, 0 => s
  | s, m + 1 => (stFrom ops us s m).upd ((ops[m]?).bind (·.dst)) (us m)

def yv : Value → Option Bool
  | .bool b => some b
  | _ => none

structure Good (P : Program) (D : Ord) (gd : Nat → Option Nat) (nx0 k : Nat) (o : Oper) (s : PS) (u : Upd) (rn : Bool) : Prop where
  step : rn = true → StepF P o (8 * (nx0 + k)) (viewP D nx0 k s) u ∧ okU D nx0 k u
  idle : rn = false → u = ⟨undefA, []⟩
  guard : (o.guard = none ∧ rn = true) ∨ ∃ g b d v, o.guard = some (g, b) ∧ gd g = some d ∧ s.sl d = some (.p (.lit v)) ∧ rn = decide (yv v = some b)

theorem stFrom_head (o : Oper) (os : List Oper) (us : Nat → Upd) (s : PS) : ∀ m, stFrom (o :: os) us s (m + 1) = stFrom os (fun i => us (i + 1)) (s.upd o.dst (us 0)) m
  | 0 => rfl
  | m + 1 => by
    have ih := stFrom_head o os us s m
    simp only [stFrom] at ih ⊢
    rw [ih]; rfl

theorem upd_known {s : PS} {d : Nat} {x : AV} (hx : s.sl d = some x) : s.upd (some d) ⟨x, []⟩ = s := by
  cases s
  simp only [PS.upd, PS.setHp, PS.mk.injEq, and_true]
  funext e
  simp only [Option.some.injEq]
  by_cases h : d = e
  · subst h; simp only [if_true]; exact hx.symm
  · simp [h]

theorem viewD_ps (D : Ord) (nx0 i : Nat) (s : LS) : viewD D nx0 i s = viewP D nx0 i s.ps := rfl

theorem traceD {P : Program} {H : List Nat} {D : Ord} {gd : Nat → Option Nat} {K : LS → Prop} : ∀ (os : List Oper) (i : Nat) (s : LS), aopsD P H D gd K i os s →
    ∃ (us : Nat → Upd) (rn : Nat → Bool) (s' : LS), K s' ∧ s'.nx = s.nx ∧ s'.ps = stFrom os us s.ps os.length ∧ ∀ k o, os[k]? = some o → Good P D gd s.nx (i + k) o (stFrom os us s.ps k) (us k) (rn k)
  | [], i, s, h => ⟨fun _ => ⟨undefA, []⟩, fun _ => true, s, h, rfl, rfl, fun k o hk => by simp at hk⟩
  | o :: os, i, s, h => by
    have fin : ∀ (s1 : LS) (u : Upd) (r : Bool), s1.nx = s.nx → s1.ps = s.ps.upd o.dst u → Good P D gd s.nx i o s.ps u r → aopsD P H D gd K (i + 1) os s1 →
        ∃ (us : Nat → Upd) (rn : Nat → Bool) (s' : LS), K s' ∧ s'.nx = s.nx ∧ s'.ps = stFrom (o :: os) us s.ps (os.length + 1) ∧ ∀ k o', (o :: os)[k]? = some o' → Good P D gd s.nx (i + k) o' (stFrom (o :: os) us s.ps k) (us k) (rn k) := by
      intro s1 u r hnx hps hg h1
      obtain ⟨us, rn, s', hK, hn, hs', hall⟩ := traceD os (i + 1) s1 h1
      refine ⟨fun k => match k with | 0 => u | k + 1 => us k, fun k => match k with | 0 => r | k + 1 => rn k, s', hK, hn.trans hnx, ?_, fun k o' hk => ?_⟩
      · rw [stFrom_head]; simp only; rw [hs', hps]
      · cases k with
        | zero => simp only [List.getElem?_cons_zero, Option.some.injEq] at hk; subst hk; exact hg
        | succ k =>
          rw [stFrom_head]
          have := hall k o' (by simpa using hk)
          rw [hnx, hps, show i + 1 + k = i + (k + 1) by omega] at this
          exact this
    simp only [aopsD] at h
    split at h
    · rename_i hg
      obtain ⟨u, ⟨hok, hK⟩, hstep⟩ := aop_sound h
      exact fin (s.upd o.dst u) u true rfl (ps_upd _ _ _) ⟨fun _ => ⟨hstep, hok⟩, fun h => (by cases h), .inl ⟨hg, rfl⟩⟩ hK
    · rename_i g b hg
      obtain ⟨d, hgd, x, hx, h⟩ := h
      unfold gcase at h
      split at h
      · rename_i t
        have hps : (s.upd (some d) ⟨.p (.lit (.bool t)), []⟩).ps = s.ps := by rw [ps_upd]; exact upd_known hx
        by_cases e : t = b
        · subst e
          obtain ⟨u, ⟨hok, hK⟩, hstep⟩ := aop_sound (h.1 rfl)
          rw [viewD_ps, hps] at hstep
          exact fin ((s.upd (some d) ⟨.p (.lit (.bool t)), []⟩).upd o.dst u) u true rfl (by rw [ps_upd, hps]) ⟨fun _ => ⟨hstep, hok⟩, fun h => (by cases h), .inr ⟨g, t, d, _, hg, hgd, hx, by simp [yv]⟩⟩ hK
        · have e' : t = !b := by cases t <;> cases b <;> simp_all
          subst e'
          exact fin ((s.upd (some d) ⟨.p (.lit (.bool (!b))), []⟩).upd o.dst ⟨undefA, []⟩) ⟨undefA, []⟩ false rfl (by rw [ps_upd, hps]) ⟨fun h => (by cases h), fun _ => rfl, .inr ⟨g, b, d, _, hg, hgd, hx, by simp [yv]⟩⟩ (h.2 rfl)
      · exact fin (s.upd o.dst ⟨undefA, []⟩) ⟨undefA, []⟩ false rfl (ps_upd _ _ _) ⟨fun h => (by cases h), fun _ => rfl, .inr ⟨g, b, d, _, hg, hgd, hx, by simp [yv]⟩⟩ h
      · exact h.elim

/-! ### the last one that ..-/
def last (p : Nat → Bool) : Nat → Option Nat
  | 0 => none
  | n + 1 => if p n = true then some n else last p n

theorem last_some {p : Nat → Bool} : ∀ {n m : Nat}, last p n = some m ↔ m < n ∧ p m = true ∧ ∀ j, m < j → j < n → p j = false
  | 0, m => by simp [last]
  | n + 1, m => by
    simp only [last]
    by_cases h : p n = true
    · rw [if_pos h]
      constructor
      · intro e; injection e with e; subst e; exact ⟨by omega, h, fun j h1 h2 => by omega⟩
      · rintro ⟨h1, h2, h3⟩
        by_cases e : m = n
        · rw [e]
        · have := h3 n (by omega) (by omega); rw [h] at this; cases this
    · rw [if_neg h, last_some]
      have hf : p n = false := by simpa using h
      constructor
      · rintro ⟨h1, h2, h3⟩
        refine ⟨by omega, h2, fun j g1 g2 => ?_⟩
        by_cases e : j = n
        · rw [e]; exact hf
        · exact h3 j g1 (by omega)
      · rintro ⟨h1, h2, h3⟩
        refine ⟨?_, h2, fun j g1 g2 => h3 j g1 (by omega)⟩
        by_cases e : m = n
        · rw [e, hf] at h2; cases h2
        · omega
theorem last_none {p : Nat → Bool} : ∀ {n : Nat}, last p n = none ↔ ∀ j, j < n → p j = false
  | 0 => by simp [last]
  | n + 1 => by
    simp only [last]
    by_cases h : p n = true
    · rw [if_pos h]
      constructor
      · intro e; cases e
      · intro e; have := e n (by omega); rw [h] at this; cases this
    · rw [if_neg h, last_none]
      have hf : p n = false := by simpa using h
      constructor
      · intro e j hj
        by_cases e2 : j = n
        · rw [e2]; exact hf
        · exact e j (by omega)
      · intro e j hj; exact e j (by omega)

/-- two ways to the same last one -/
theorem last_eq {p q : Nat → Bool} {i n : Nat} (h1 : ∀ j, j < i → p j = true → j < n ∧ q j = true) (h2 : ∀ j, j < n → q j = true → j < i ∧ p j = true) : last q n = last p i := by
  cases h : last p i with
  | none =>
    rw [last_none] at h
    rw [last_none]
    intro j hj
    by_cases e : q j = true
    · obtain ⟨g1, g2⟩ := h2 j hj e; rw [h j g1] at g2; cases g2
    · simpa using e
  | some m =>
    rw [last_some] at h
    obtain ⟨a1, a2, a3⟩ := h
    rw [last_some]
    obtain ⟨b1, b2⟩ := h1 m a1 a2
    refine ⟨b1, b2, fun j g1 g2 => ?_⟩
    by_cases e : q j = true
    · obtain ⟨c1, c2⟩ := h2 j g2 e; rw [a3 j g1 c1] at c2; cases c2
    · simpa using e

end Go.Am
