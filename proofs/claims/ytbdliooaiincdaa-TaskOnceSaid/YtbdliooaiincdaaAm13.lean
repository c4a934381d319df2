/-
  The abstract machine, thirteenth part: regions in the text's order.
-/
import Derived.Test.YtbdliooaiincdaaAm12
namespace Go.Am
open Go.RowKit

def lkp {α : Type} : List (Nat × α) → Nat → Option α
  | [], _ => none
  | (k, x) :: r, d => if d = k then some x else lkp r d
def del {α : Type} : List (Nat × α) → Nat → List (Nat × α)
  | [], _ => []
  | (k, x) :: r, d => if d = k then del r d else (k, x) :: del r d
theorem lkp_nil {α : Type} (d : Nat) : lkp ([] : List (Nat × α)) d = none := rfl
theorem lkp_cons {α : Type} (k : Nat) (x : α) (r : List (Nat × α)) (d : Nat) : lkp ((k, x) :: r) d = if d = k then some x else lkp r d := rfl
theorem lkp_del {α : Type} (l : List (Nat × α)) (d i : Nat) : lkp (del l d) i = if i = d then none else lkp l i := by
  induction l with
  | nil => simp [del, lkp]
  | cons q l ih =>
    obtain ⟨k, x⟩ := q
    simp only [del]
    by_cases h : d = k
    · subst h; simp only [if_true, ih, lkp]; by_cases e : i = d <;> simp [e]
    · simp only [h, if_false, lkp, ih]
      by_cases e : i = d
      · subst e; simp [h]
      · simp [e]

/-- a state, written out -/
structure LS where
  sl : List (Nat × AV)
  hp : List (Nat × Blk)
  nx : Nat

def LS.ps (s : LS) : PS := ⟨lkp s.sl, lkp s.hp⟩
def put1 (hp : List (Nat × Blk)) (i : Nat) : Option Blk → List (Nat × Blk)
  | some k => (i, k) :: del hp i
  | none => del hp i
def hpUpd (hp : List (Nat × Blk)) : List (Nat × Option Blk) → List (Nat × Blk)
  | [] => hp
  | (i, k) :: r => put1 (hpUpd hp r) i k
def slUpd (sl : List (Nat × AV)) (v : AV) : Option Nat → List (Nat × AV)
  | some d => (d, v) :: sl
  | none => sl
def LS.upd (s : LS) (dst : Option Nat) (u : Upd) : LS := ⟨slUpd s.sl u.val dst, hpUpd s.hp u.hps, s.nx⟩

theorem lkp_put1 (hp : List (Nat × Blk)) (i : Nat) (k : Option Blk) (id : Nat) : lkp (put1 hp i k) id = if id = i then k else lkp hp id := by
  cases k with
  | none => exact lkp_del hp i id
  | some k =>
    simp only [put1, lkp, lkp_del]
    by_cases h : id = i <;> simp [h]
theorem lkp_hpUpd (hp : List (Nat × Blk)) : ∀ l, lkp (hpUpd hp l) = PS.setHp (lkp hp) l
  | [] => rfl
  | (i, k) :: r => by
    funext id
    simp only [hpUpd, lkp_put1, PS.setHp, lkp_hpUpd hp r]
theorem ps_upd (s : LS) (dst : Option Nat) (u : Upd) : (s.upd dst u).ps = s.ps.upd dst u := by
  simp only [LS.ps, LS.upd, PS.upd, lkp_hpUpd, PS.mk.injEq, and_true]
  funext d
  cases dst with
  | none => simp [slUpd]
  | some d' => simp [slUpd, lkp, eq_comm]

def undefA : AV := .p (.lit undef)

/-- what a guard comes to -/
def gcase (x : AV) (b : Bool) (run skip : Bool → Prop) (idle : Prop) : Prop :=
  match x with
  | .p (.lit (.bool t)) => (t = b → run b) ∧ (t = (!b) → skip (!b))
  | .p (.lit (.tuple _)) => idle
  | _ => False

/-- where a name comes from: 0: from those that called; else one more than the operation's place -/
def nmPos (i : Nat) : Nat := if i % 8 = 7 then 0 else i / 8 + 1

/-- operations, one behind the other -/
def aops (P : Program) (H : List Nat) (gd : Nat → Option Nat) (K : LS → Prop) : Nat → List Oper → LS → Prop
  | _, [], s => K s
  | i, o :: os, s =>
    match o.guard with
    | none => aop P H (8 * (s.nx + i)) s.ps o.dst o.op fun u => aops P H gd K (i + 1) os (s.upd o.dst u)
    | some (g, b) => ∃ d, gd g = some d ∧ ∃ x, lkp s.sl d = some x ∧
        gcase x b (fun t => aop P H (8 * (s.nx + i)) (s.upd (some d) ⟨.p (.lit (.bool t)), []⟩).ps o.dst o.op fun u => aops P H gd K (i + 1) os ((s.upd (some d) ⟨.p (.lit (.bool t)), []⟩).upd o.dst u))
          (fun t => aops P H gd K (i + 1) os ((s.upd (some d) ⟨.p (.lit (.bool t)), []⟩).upd o.dst ⟨undefA, []⟩))
          (aops P H gd K (i + 1) os (s.upd o.dst ⟨undefA, []⟩))

def gdOf (ops : Array Oper) (g : Nat) : Option Nat := (ops[g]?).bind (·.dst)

theorem sat_ext {C : Ctx} {U : Nat → Prop} {s s' : PS} {a : Act} {w : World} (h1 : ∀ d, s.sl d = s'.sl d) (h2 : ∀ i, s.hp i = s'.hp i) (h : Sat C U s a w) : Sat C U s' a w := by
  have : s = s' := by cases s; cases s'; simp only [PS.mk.injEq]; exact ⟨funext h1, funext h2⟩
  rw [← this]; exact h

theorem Sat.widen {C : Ctx} {U U' : Nat → Prop} {s : PS} {a : Act} {w : World} (h : Sat C U s a w) (hu : ∀ i, U i → U' i) : Sat C U' s a w := let ⟨ρ, h⟩ := h; ⟨ρ, h.widen hu⟩

theorem Sat.skip {C : Ctx} {U : Nat → Prop} {s : PS} {a : Act} {w : World} (h : Sat C U s a w) {dst : Option Nat} (hd : ∀ d, dst = some d → d < C.n) : Sat C U (s.upd dst ⟨undefA, []⟩) (a.put dst undef) w := by
  obtain ⟨ρ, h⟩ := h
  exact ⟨ρ, h.put hd (.p _ _ (.lit _))⟩

theorem Sat.known {C : Ctx} {U : Nat → Prop} {s : PS} {a : Act} {w : World} (_ : Sat C U s a w) {d : Nat} {x : AV} (hx : s.sl d = some x) : s.upd (some d) ⟨x, []⟩ = s := by
  cases s
  simp only [PS.upd, PS.setHp, PS.mk.injEq, and_true]
  funext e
  simp only [Option.some.injEq]
  by_cases h : d = e
  · subst h; simp only [if_true]; exact hx.symm
  · simp [h]

theorem Sat.getBool {C : Ctx} {U : Nat → Prop} {s : PS} {a : Act} {w : World} (h : Sat C U s a w) {d : Nat} {v : Value} (hx : s.sl d = some (.p (.lit v))) : a.tmps.getD d undef = v := by
  obtain ⟨ρ, h⟩ := h
  exact (h.slots d _ hx).lit

theorem yielded_of {ops : Array Oper} {a : Act} {g d : Nat} (hg : gdOf ops g = some d) (hd : d < a.tmps.size) : yielded ops a.tmps g = match a.tmps.getD d undef with | .bool b => some b | _ => none := by
  unfold yielded
  unfold gdOf at hg
  rw [hg]
  simp only [Option.bind_some]
  rw [Array.getD_eq_getD_getElem?]
  have : a.tmps[d]? = some a.tmps[d] := by simp [hd]
  rw [this]
  cases a.tmps[d] <;> rfl

theorem stepA_use {P : Program} {o : Oper} {f : Nat} {V s : PS} {u : Upd} (h : StepF P o f V u) {C : Ctx} {U U' : Nat → Prop} {a : Act} {w : World} (hd : ∀ d, o.dst = some d → d < C.n) (hf : ∀ j, j < 7 → ¬ U (f + j)) (hV : V = s) (hs : Sat C U s a w)
    (hU : ∀ i, U i ∨ (f ≤ i ∧ i < f + 7) → U' i) (Q : Exit → Act → World → Prop) : o.wp P a w (fun a' w' => Sat C U' (s.upd o.dst u) a' w') Q := by
  subst hV
  exact Oper.wp_mono (fun a w h => h.widen hU) (h C U V a w hd hf (fun _ _ _ h => h) (fun _ _ h => h) hs Q)

theorem aops_seq {P : Program} {H : List Nat} {ops : Array Oper} {K : LS → Prop} {C : Ctx} {Q : Exit → Act → World → Prop} : ∀ (os : List Oper) (i : Nat) (s : LS) (a : Act) (w : World),
    aops P H (gdOf ops) K i os s → (∀ o, o ∈ os → ∀ d, o.dst = some d → d < C.n) → (∀ g d, gdOf ops g = some d → d < C.n) → Sat C (fun j => nmPos j ≤ s.nx + i) s.ps a w →
    (∀ s' a' w', K s' → s'.nx = s.nx → Sat C (fun j => nmPos j ≤ s'.nx + (i + os.length)) s'.ps a' w' → Q .normal a' w') → wpList P ops Q os a w
  | [], i, s, a, w, h, _, _, hs, hQ => hQ s a w h rfl hs
  | o :: os, i, s, a, w, h, hd, hgd, hs, hQ => by
    have hd0 := hd o (by simp)
    have hd1 : ∀ o', o' ∈ os → ∀ d, o'.dst = some d → d < C.n := fun o' ho' => hd o' (by simp [ho'])
    have hsize : a.tmps.size = C.n := by obtain ⟨ρ, h⟩ := hs; exact h.size
    have next : ∀ (s2 : LS) (a2 : Act) (w2 : World), s2.nx = s.nx → aops P H (gdOf ops) K (i + 1) os s2 → Sat C (fun j => nmPos j ≤ s.nx + (i + 1)) s2.ps a2 w2 → wpList P ops Q os a2 w2 := by
      intro s2 a2 w2 hnx h2 hs2
      refine aops_seq os (i + 1) s2 a2 w2 h2 hd1 hgd (by rw [hnx]; exact hs2) (fun s' a' w' hK hn hs' => hQ s' a' w' hK (hn.trans hnx) ?_)
      simp only [List.length_cons]
      rw [show i + (os.length + 1) = i + 1 + os.length by omega]; exact hs'
    have run : ∀ (s1 : LS), s1.nx = s.nx → s1.ps = s.ps → (aop P H (8 * (s1.nx + i)) s1.ps o.dst o.op fun u => aops P H (gdOf ops) K (i + 1) os (s1.upd o.dst u)) → Region.wanted o (yielded ops a.tmps) = true → wpList P ops Q (o :: os) a w := by
      intro s1 hnx hps h1 hw
      obtain ⟨u, hK, hstep⟩ := aop_sound h1
      unfold wpList
      rw [if_pos hw]
      refine .inl (Oper.wp_mono (fun a' w' hs' => ?_) (stepA_use hstep hd0 (U := fun j => nmPos j ≤ s.nx + i) (U' := fun j => nmPos j ≤ s.nx + (i + 1)) (by rw [hnx]; intro j hj; simp only [nmPos]; split <;> omega) hps hs (fun j hj => by rw [hnx] at hj; rcases hj with hj | hj; omega; simp only [nmPos]; split <;> omega) Q))
      refine next (s1.upd o.dst u) a' w' hnx hK ?_
      rw [ps_upd, hps]; exact hs'
    simp only [aops] at h
    split at h
    · rename_i hg
      exact run s rfl rfl h (by simp [Region.wanted, hg])
    · rename_i g b hg
      obtain ⟨d, hgd', x, hx, h⟩ := h
      have hdn : d < a.tmps.size := by rw [hsize]; exact hgd g d hgd'
      have hy := yielded_of hgd' hdn
      have idle : ∀ (s1 : LS), s1.nx = s.nx → s1.ps = s.ps → aops P H (gdOf ops) K (i + 1) os (s1.upd o.dst ⟨undefA, []⟩) → Region.wanted o (yielded ops a.tmps) = false → wpList P ops Q (o :: os) a w := by
        intro s1 hnx hps h1 hw
        unfold wpList
        rw [if_neg (by rw [hw]; simp)]
        refine next (s1.upd o.dst ⟨undefA, []⟩) _ w hnx h1 ?_
        rw [ps_upd, hps]
        exact (hs.skip hd0).widen (fun j hj => by omega)
      unfold gcase at h
      split at h
      · rename_i t
        have hv := hs.getBool (d := d) hx
        rw [hv] at hy
        have hps : (s.upd (some d) ⟨.p (.lit (.bool t)), []⟩).ps = s.ps := by rw [ps_upd]; exact hs.known hx
        by_cases e : t = b
        · subst e
          exact run (s.upd (some d) ⟨.p (.lit (.bool t)), []⟩) rfl hps (h.1 rfl) (by simp [Region.wanted, hg, hy])
        · have e' : t = !b := by cases t <;> cases b <;> simp_all
          subst e'
          exact idle (s.upd (some d) ⟨.p (.lit (.bool (!b))), []⟩) rfl hps (h.2 rfl) (by simp [Region.wanted, hg, hy])
      · have hv := hs.getBool (d := d) hx
        rw [hv] at hy
        exact idle s rfl rfl h (by simp [Region.wanted, hg, hy])
      · exact h.elim

end Go.Am
