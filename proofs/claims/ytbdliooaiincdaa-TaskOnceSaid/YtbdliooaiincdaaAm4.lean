/-
  The abstract machine, fourth part: what one operation does to a state, and that it does so to the world.
-/
import Derived.Test.YtbdliooaiincdaaAm3
namespace Go.Am
open Go.RowKit

def StepA (P : Program) (o : Oper) (f : Nat) (V : PS) (u : Upd) : Prop :=
  ∀ (C : Ctx) (U : Nat → Prop) (s : PS) (a : Act) (w : World), (∀ d, o.dst = some d → d < C.n) → ¬ U f →
    (∀ x, x ∈ o.op.operands → ∀ v, V.eval x = some v → s.eval x = some v) → (∀ id k, V.hp id = some k → s.hp id = some k) → Sat C U s a w →
    ∀ Q, o.wp P a w (fun a' w' => Sat C (fun i => U i ∨ i = f) (s.upd o.dst u) a' w') Q

/-- the same, with up to seven names for new blocks -/
def StepF (P : Program) (o : Oper) (f : Nat) (V : PS) (u : Upd) : Prop :=
  ∀ (C : Ctx) (U : Nat → Prop) (s : PS) (a : Act) (w : World), (∀ d, o.dst = some d → d < C.n) → (∀ j, j < 7 → ¬ U (f + j)) →
    (∀ x, x ∈ o.op.operands → ∀ v, V.eval x = some v → s.eval x = some v) → (∀ id k, V.hp id = some k → s.hp id = some k) → Sat C U s a w →
    ∀ Q, o.wp P a w (fun a' w' => Sat C (fun i => U i ∨ (f ≤ i ∧ i < f + 7)) (s.upd o.dst u) a' w') Q

section
variable {P : Program} {o : Oper} {f : Nat} {V : PS}

theorem stepF_of {u : Upd} (h : StepA P o f V u) : StepF P o f V u := by
  intro C U s a w hd hf hV hH hs Q
  refine Oper.wp_mono (fun a' w' ⟨ρ, h⟩ => ⟨ρ, h.widen (fun i hi => ?_)⟩) (h C U s a w hd (hf 0 (by omega)) hV hH hs Q)
  rcases hi with hi | rfl
  · exact .inl hi
  · exact .inr ⟨by omega, by omega⟩

theorem wp_value {a : Act} {w w' : World} {v : Value} {K : Act → World → Prop} {Q : Exit → Act → World → Prop} (h : (execOp a.eval o).run P w = .ok (.value v) w') (hk : K (a.put o.dst v) w') :
    o.wp P a w K Q := by unfold Oper.wp; rw [h]; exact hk

/-- An operation that only computes. -/
theorem stepA_pure {x : AV} (h : ∀ (O : Nat → Prop) (ρ : Nat → Option Value) (s : PS) (a : Act) (w : World), (∀ y, y ∈ o.op.operands → ∀ v, V.eval y = some v → s.eval y = some v) →
      (∀ y v, s.eval y = some v → RepA O ρ w v (a.eval y)) → (∀ id k, V.hp id = some k → ∃ v, ρ id = some v ∧ BlkRep O ρ w v k) → ∃ v, (execOp a.eval o).run P w = .ok (.value v) w ∧ RepA O ρ w x v) :
    StepA P o f V ⟨x, []⟩ := by
  intro C U s a w hd _ hV hH ⟨ρ, hs⟩ Q
  obtain ⟨v, hv, hr⟩ := h (Own C s ρ) ρ s a w hV (fun y v hy => hs.eval hy) (fun id k hk => hs.heap id k (hH id k hk))
  exact wp_value hv ⟨ρ, (hs.put hd hr).widen (fun _ => .inl)⟩

/-- An operation that makes a block that is nobody's: data. -/
theorem stepA_new {x : AV} (h : ∀ (O : Nat → Prop) (ρ : Nat → Option Value) (s : PS) (a : Act) (w : World), (∀ y, y ∈ o.op.operands → ∀ v, V.eval y = some v → s.eval y = some v) →
      (∀ y v, s.eval y = some v → RepA O ρ w v (a.eval y)) → (∀ id k, V.hp id = some k → ∃ v, ρ id = some v ∧ BlkRep O ρ w v k) → (∀ b, w.heap.size ≤ b → ¬ O b) →
      ∃ v w', (execOp a.eval o).run P w = .ok (.value v) w' ∧ RepA O ρ w' x v ∧
        (w.heap.size ≤ w'.heap.size ∧ (∀ b, b < w.heap.size → w'.heap[b]? = w.heap[b]?) ∧ w'.os = w.os ∧ w'.tape = w.tape ∧ w'.output = w.output)) :
    StepA P o f V ⟨x, []⟩ := by
  intro C U s a w hd _ hV hH ⟨ρ, hs⟩ Q
  obtain ⟨v, w', hv, hr, h1, h2, h3, h4, h5⟩ := h (Own C s ρ) ρ s a w hV (fun y v hy => hs.eval hy) (fun id k hk => hs.heap id k (hH id k hk)) (fun b hb => hs.notOwn hb)
  exact wp_value hv ⟨ρ, ((hs.move h1 h2 h3 h4 h5).put hd hr).widen (fun _ => .inl)⟩

/-- An operation that makes a block of the call's own. -/
theorem stepA_own {x : AV} {sz : Nat} {es : List (List AV)} {drop : List (Nat × Option Blk)} (hdrop : drop = [] ∨ ∃ id, drop = [(id, none)] ∧ id ≠ f)
    (h : ∀ (O : Nat → Prop) (ρ : Nat → Option Value) (s : PS) (a : Act) (w : World), (∀ y, y ∈ o.op.operands → ∀ v, V.eval y = some v → s.eval y = some v) →
      (∀ y v, s.eval y = some v → RepA O ρ w v (a.eval y)) → (∀ id k, V.hp id = some k → ∃ v, ρ id = some v ∧ BlkRep O ρ w v k) → (∀ b, w.heap.size ≤ b → ¬ O b) →
      ∃ v w1 hv e cur cap, (execOp a.eval o).run P w = .ok (.value v) (w1.alloc (.cells cur e)) ∧ w1.heap = w.heap ∧ w1.os = w.os ∧ w1.tape = w.tape ∧ w1.output = w.output ∧
        (hv = .slice (some ⟨w1.heap.size, 0, none⟩) es.length cap ∨ (hv = .pointer (some ⟨w1.heap.size, 0, none⟩) ∧ es.length = 1 ∧ cap = 1)) ∧ 0 < cap ∧ BlkOk O ρ w1 sz es cap cur ∧
        ∀ (O' : Nat → Prop) (ρ' : Nat → Option Value) (w' : World), ρ' f = some hv → RepA O' ρ' w' x v) :
    StepA P o f V ⟨x, (f, some (.row sz es)) :: drop⟩ := by
  intro C U s a w hd hf hV hH ⟨ρ, hs⟩ Q
  obtain ⟨v, w1, hv, e, cur, cap, hrun, g1, g2, g3, g4, hh, h0, hok, hr⟩ := h (Own C s ρ) ρ s a w hV (fun y v hy => hs.eval hy) (fun id k hk => hs.heap id k (hH id k hk)) (fun b hb => hs.notOwn hb)
  refine wp_value hrun ⟨fun i => if i = f then some hv else ρ i, ?_⟩
  have hs1 : SatR C U s ρ a w1 := hs.move (by rw [g1]; exact Nat.le_refl _) (fun b _ => by rw [g1]) g2 g3 g4
  rcases hdrop with rfl | ⟨id, rfl, hne⟩
  · exact (hs1.newBlk hf e cur sz es cap hv hh h0 hok).put hd (hr _ _ _ (by simp))
  · have := ((hs1.newBlk hf e cur sz es cap hv hh h0 hok).dropBlk id).put hd (x := x) (hr _ _ _ (by simp))
    have e2 : (PS.upd ⟨s.sl, PS.setHp (PS.setHp s.hp [(f, some (.row sz es))]) [(id, none)]⟩ o.dst ⟨x, []⟩) = s.upd o.dst ⟨x, [(f, some (.row sz es)), (id, none)]⟩ := by
      simp only [PS.upd, PS.setHp, PS.mk.injEq, true_and]
      funext i
      by_cases e1 : i = id
      · by_cases e2 : i = f
        · exact absurd (e1.symm.trans e2) hne
        · simp [e1, hne]
      · simp [e1]
    simp only at this
    rw [e2] at this
    exact this
end

/-! ### the operations -/
/-- what two numbers, or two bools, come to -/
def binR (op : BinOp) (u v r : Value) : Prop :=
  match op, u, v with
  | .add, .int k a, .int k' b => k = k' ∧ r = .int k (k.wrap (a + b))
  | .sub, .int k a, .int k' b => k = k' ∧ r = .int k (k.wrap (a - b))
  | .mul, .int k a, .int k' b => k = k' ∧ r = .int k (k.wrap (a * b))
  | .quo, .int k a, .int k' b => k = k' ∧ b ≠ 0 ∧ r = .int k (k.wrap (a.tdiv b))
  | .rem, .int k a, .int k' b => k = k' ∧ b ≠ 0 ∧ r = .int k (a.tmod b)
  | .eql, .int k a, .int k' b => k = k' ∧ r = .bool (a == b)
  | .neq, .int k a, .int k' b => k = k' ∧ r = .bool (a != b)
  | .lss, .int k a, .int k' b => k = k' ∧ r = .bool (decide (a < b))
  | .leq, .int k a, .int k' b => k = k' ∧ r = .bool (decide (a ≤ b))
  | .gtr, .int k a, .int k' b => k = k' ∧ r = .bool (decide (b < a))
  | .geq, .int k a, .int k' b => k = k' ∧ r = .bool (decide (b ≤ a))
  | .and, .int k a, .int k' b => k = k' ∧ r = .int k (k.wrap (BitVec.ofInt k.bits a &&& BitVec.ofInt k.bits b).toNat)
  | .or, .int k a, .int k' b => k = k' ∧ r = .int k (k.wrap (BitVec.ofInt k.bits a ||| BitVec.ofInt k.bits b).toNat)
  | .xor, .int k a, .int k' b => k = k' ∧ r = .int k (k.wrap (BitVec.ofInt k.bits a ^^^ BitVec.ofInt k.bits b).toNat)
  | .shl, .int k a, .int _ b => 0 ≤ b ∧ r = .int k (k.wrap (a * 2 ^ min b.toNat k.bits))
  | .shr, .int k a, .int _ b => 0 ≤ b ∧ r = .int k (a / 2 ^ min b.toNat k.bits)
  | _, _, _ => False

theorem binR_run {P : Program} {op : BinOp} {u v r : Value} (h : binR op u v r) (t : TypeId) (x y : Operand) (w : World) :
    (do eqGuard op t x y u v; binOp op t u v : Sem Value).run P w = .ok r w := by
  cases op <;> cases u <;> cases v <;> simp only [binR] at h <;> try exact h.elim
  all_goals rcases h with ⟨h1, h2⟩
  all_goals (first | subst h1 | skip)
  all_goals (first | subst h2 | (rcases h2 with ⟨h0, h2⟩; subst h2))
  all_goals simp only [eqGuard_at_int, pure_bind]
  all_goals (first | simp [binOp_add, binOp_sub, binOp_mul, Op.intArith] | skip)
  all_goals (first | (simp [binOp_quo, binOp_rem, Op.intDiv, h0]; done) | skip)
  all_goals (first | (simp [binOp_eql, binOp_neq, binOp_lss, binOp_leq, binOp_gtr, binOp_geq]; done) | skip)
  all_goals (first | (simp [binOp_and, binOp_or, binOp_xor, Op.intBits]; done) | skip)
  all_goals (first | (simp only [binOp_shl, binOp_shr, shift_shl_any _ _ _ _ h1, shift_shr_any _ _ _ _ h1]; rfl) | skip)

end Go.Am
