/-
  The abstract machine, eighteenth part: code, loops, calls.
-/
import Derived.Test.YtbdliooaiincdaaAm17
namespace Go.Am
open Go.RowKit

def Awp (P : Program) (C : Ctx) (c : Code) (K : Exit → LS → Prop) (s : LS) : Prop :=
  ∀ a w, Sat C (fun i => nmPos i ≤ s.nx) s.ps a w → c.wp P (fun e a' w' => ∃ s', K e s' ∧ Sat C (fun i => nmPos i ≤ s'.nx) s'.ps a' w') a w

section
variable {P : Program} {C : Ctx} {K : Exit → LS → Prop} {s : LS}

theorem awp_skip (h : K .normal s) : Awp P C .skip K s := fun _ _ hs => wp_skip ⟨s, h, hs⟩
theorem awp_ret (h : K .ret s) : Awp P C .ret K s := fun _ _ hs => wp_ret ⟨s, h, hs⟩
theorem awp_exit {id : Nat} (h : K (.exit id) s) : Awp P C (.exit id) K s := fun _ _ hs => wp_exit ⟨s, h, hs⟩

/-- one behind the other: what comes behind is shut away -/
theorem awp_seq {x y : Code} (h : ∀ k : LS → Prop, (∀ s', Awp P C y K s' → k s') → Awp P C x (fun e s' => match e with | .normal => k s' | e => K e s') s) : Awp P C (.seq x y) K s := by
  intro a w hs
  have h1 := h (fun s' => Awp P C y K s') (fun _ h => h) a w hs
  refine wp_seq (wp_mono h1 fun e a' w' ⟨s', hk, hs'⟩ => ?_)
  cases e with
  | normal => exact hk a' w' hs'
  | exit id => exact ⟨s', hk, hs'⟩
  | goto l => exact ⟨s', hk, hs'⟩
  | ret => exact ⟨s', hk, hs'⟩
  | panic ch => exact ⟨s', hk, hs'⟩
  | outgrown => exact ⟨s', hk, hs'⟩

theorem awp_block {id : Nat} {c : Code} (h : Awp P C c (fun e s' => match e with | .exit j => if j = id then K .normal s' else K (.exit j) s' | e => K e s') s) : Awp P C (.block id c) K s := by
  intro a w hs
  refine wp_block (wp_mono (h a w hs) fun e a' w' ⟨s', hk, hs'⟩ => ?_)
  cases e with
  | exit j =>
    simp only [Exit.inBlock]
    simp only at hk
    by_cases e : j = id
    · rw [if_pos e] at hk ⊢; exact ⟨s', hk, hs'⟩
    · rw [if_neg e] at hk ⊢; exact ⟨s', hk, hs'⟩
  | normal => exact ⟨s', hk, hs'⟩
  | goto l => exact ⟨s', hk, hs'⟩
  | ret => exact ⟨s', hk, hs'⟩
  | panic ch => exact ⟨s', hk, hs'⟩
  | outgrown => exact ⟨s', hk, hs'⟩

theorem awp_cond {d : Nat} {x y : Code} {b : Bool} (hb : lkp s.sl d = some (.p (.lit (.bool b)))) (h1 : b = true → Awp P C x K s) (h2 : b = false → Awp P C y K s) : Awp P C (.cond (.tmp d) x y) K s := by
  intro a w hs
  have hv := hs.getBool (d := d) hb
  refine wp_cond (t := b) hv ?_
  cases b with
  | true => exact h1 rfl a w hs
  | false => exact h2 rfl a w hs
theorem awp_cond_const {x y : Code} {b : Bool} (h : Awp P C (if b = true then x else y) K s) : Awp P C (.cond (.const (.bool b)) x y) K s := fun a w hs => wp_cond (t := b) rfl (h a w hs)

theorem awp_mono {c : Code} {K' : Exit → LS → Prop} (hk : ∀ e s', K e s' → K' e s') (h : Awp P C c K s) : Awp P C c K' s := fun a w hs => wp_mono (h a w hs) fun _ _ _ ⟨s', h1, h2⟩ => ⟨s', hk _ _ h1, h2⟩

/-- every destination is in the frame -/
def inFrame (n : Nat) (ops : Array Oper) : Bool := ops.toList.all fun o => o.dst.all fun d => decide (d < n)
theorem inFrame_spec {n : Nat} {ops : Array Oper} (h : inFrame n ops = true) : ∀ o, o ∈ ops.toList → ∀ d, o.dst = some d → d < n := by
  intro o ho d hd
  have := List.all_eq_true.1 h o ho
  rw [hd] at this
  simpa using this
theorem gdOf_lt {n : Nat} {ops : Array Oper} (h : inFrame n ops = true) : ∀ g d, gdOf ops g = some d → d < n := by
  intro g d hg
  unfold gdOf at hg
  obtain ⟨x, hx, hd⟩ := Option.bind_eq_some_iff.1 hg
  exact inFrame_spec h x (by rw [Array.mem_toList_iff]; exact Array.mem_of_getElem? hx) d hd

theorem awp_region {id : Nat} {l : List Oper} (H : List Nat) (hf : inFrame C.n l.toArray = true)
    (h : ∀ k : LS → Prop, (∀ s', K .normal s' → k s') → aops P H (gdOf l.toArray) (fun s' => k ⟨s'.sl, s'.hp, s'.nx + l.length⟩) 0 l s) : Awp P C (.region id l.toArray false) K s := by
  intro a w hs
  refine wp_region_lit ?_
  have hd := inFrame_spec hf
  refine aops_seq (C := C) l 0 s a w (h _ fun _ h => h) (fun o ho => hd o (by simpa using ho)) (gdOf_lt hf) (by simpa using hs) (fun s' a' w' hk hnx hs' => ⟨⟨s'.sl, s'.hp, s'.nx + l.length⟩, hk, ?_⟩)
  simp only [Nat.zero_add] at hs'
  exact hs'

theorem awp_draw {id : Nat} {l : List Oper} (H : List Nat) (D : Ord) (hf : inFrame C.n l.toArray = true) (hm : P.follows .mixedOrders = true) (hD : okD D l.toArray = true)
    (h : ∀ k : LS → Prop, (∀ s', K .normal s' → k s') → aopsD P H D (gdOf l.toArray) (fun s' => k ⟨s'.sl, s'.hp, s'.nx + l.length⟩) 0 l s) : Awp P C (.region id l.toArray true) K s := by
  intro a w hs
  refine wp_region_any hm ?_
  have hO := ordOk_of hD
  obtain ⟨us, rn, s', hk, hnx, hps, hgood⟩ := traceD l 0 s (h _ fun _ h => h)
  have hl : l.toArray.toList = l := by simp
  refine draw_any (C := C) (us := us) (rn := rn) (s0 := s.ps) (nx0 := s.nx) hO (fun k o hk => ?_) (inFrame_spec hf) (fun a' w' hs' => ?_) l.toArray.size _ a _ (by simp) (fun j hj => ?_) ?_ ?_
  · rw [hl]
    have := hgood k o (by simpa using hk)
    rwa [Nat.zero_add] at this
  · refine ⟨⟨s'.sl, s'.hp, s'.nx + l.length⟩, hk, ?_⟩
    have e : l.toArray.size = l.length := by simp
    rw [hl, e, ← hps, ← hnx] at hs'
    exact hs'
  · rw [Array.getD_eq_getD_getElem?, Array.getElem?_replicate] at hj
    split at hj <;> cases hj
  · refine Nat.le_trans (List.length_filter_le _ _) (by simp)
  · have e1 : PSof l.toArray.toList us s.ps (fun j => (Array.replicate l.toArray.size false).getD j false) l.toArray.size = s.ps := by
      have hz : ∀ j, (Array.replicate l.toArray.size false).getD j false = false := by
        intro j
        rw [Array.getD_eq_getD_getElem?, Array.getElem?_replicate]
        split <;> rfl
      have h0 : ∀ p : Nat → Bool, last (fun j => (Array.replicate l.toArray.size false).getD j false && p j) l.toArray.size = none := fun p => last_none.2 (fun j _ => by rw [hz]; rfl)
      simp only [PSof, h0]
    rw [e1]
    obtain ⟨ρ, hr⟩ := hs
    exact ⟨ρ, (hr.drew).widen (fun i hi => .inl hi)⟩

/-! ### from one state to a weaker one -/
def LE (s s' : LS) : Prop := ∀ C a w, Sat C (fun i => nmPos i ≤ s.nx) s.ps a w → Sat C (fun i => nmPos i ≤ s'.nx) s'.ps a w

theorem awp_le {c : Code} {s' : LS} (hle : LE s s') (h : Awp P C c K s') : Awp P C c K s := fun a w hs => h a w (hle C a w hs)

theorem awp_loop {σ : Type} {c : Code} (ok : σ → Prop) (st : σ → LS) (μ : σ → Nat) (x0 : σ) (h0 : ok x0) (hle : LE s (st x0))
    (h : ∀ x, ok x → Awp P C c (fun e s' => match e with | .normal => ∃ x', ok x' ∧ LE s' (st x') ∧ μ x' < μ x | e => K e s') (st x)) : Awp P C (.loop c) K s := by
  intro a w hs
  -- the state is chosen anew at each round
  have key : ∀ (b : Frame) (k : List Item) (cs : List Frame) (n : Nat) (x : σ) (a : Act) (w : World), μ x = n → ok x → Sat C (fun i => nmPos i ≤ (st x).nx) (st x).ps a w →
      ∃ e a' w', (∃ s', K e s' ∧ Sat C (fun i => nmPos i ≤ s'.nx) s'.ps a' w') ∧ Arrives P (lone (b.at a (.code c :: .inLoop c :: k)) cs w) b k cs e a' w' := by
    intro b k cs n
    induction n using Nat.strongRecOn with
    | _ n ih =>
      intro x a w hn hok hsat
      obtain ⟨e, a₁, w₁, ⟨s', hk, hs'⟩, harr⟩ := h x hok a w hsat b (.inLoop c :: k) cs
      cases e with
      | normal =>
        obtain ⟨x', hok', hle', hlt⟩ := hk
        obtain ⟨e₂, a₂, w₂, hq₂, harr₂⟩ := ih (μ x') (hn ▸ hlt) x' a₁ w₁ rfl hok' (hle' C a₁ w₁ hs')
        exact ⟨e₂, a₂, w₂, hq₂, .of_steps (Steps.trans harr (.one step_inLoop)) harr₂⟩
      | exit id => exact ⟨_, a₁, w₁, ⟨s', hk, hs'⟩, .pass (x := .inLoop c) rfl (fun _ _ => .inl (by simp)) harr⟩
      | goto l => exact ⟨_, a₁, w₁, ⟨s', hk, hs'⟩, .pass (x := .inLoop c) rfl (fun _ _ => .inl (by simp)) harr⟩
      | ret => exact ⟨_, a₁, w₁, ⟨s', hk, hs'⟩, .pass (x := .inLoop c) rfl (fun _ _ => .inl (by simp)) harr⟩
      | panic ch => exact ⟨_, a₁, w₁, ⟨s', hk, hs'⟩, .pass (x := .inLoop c) rfl (fun _ _ => .inl (by simp)) harr⟩
      | outgrown => exact ⟨_, a₁, w₁, ⟨s', hk, hs'⟩, .pass (x := .inLoop c) rfl (fun _ _ => .inl (by simp)) harr⟩
  intro b k cs
  obtain ⟨e, a', w', hq, harr⟩ := key b k cs (μ x0) x0 a w rfl h0 (hle C a w hs)
  exact ⟨e, a', w', hq, .of_steps (.one step_loop) harr⟩
end

/-! ### weaker values -/
def LeP (x y : PV) : Prop := ∀ O w v, RepP O w x v → RepP O w y v
theorem LeP.refl (x : PV) : LeP x x := fun _ _ _ h => h
theorem LeP.seq (c : Bool) (es : List (List PV)) : LeP (.seq c es) (.seq false es) := by
  intro O w v h
  cases h with
  | nilseq _ a cap hc => exact .nilseq _ _ _ (fun h => by cases h)
  | seq _ _ sz' b' off _ q g1 g2 g3 g4 g5 => exact .seq _ _ sz' b' off _ q g1 g2 (fun h => by cases h) g4 g5
theorem LeP.of_eq {x y : PV} (h : x = y) : LeP x y := h ▸ LeP.refl x
def LePs (xs ys : List PV) : Prop := xs.length = ys.length ∧ ∀ (i : Nat) (x y : PV), xs[i]? = some x → ys[i]? = some y → LeP x y
theorem LePs.nil : LePs [] [] := ⟨rfl, fun i x y h => by simp at h⟩
theorem LePs.cons {x y : PV} {xs ys : List PV} (h : LeP x y) (hs : LePs xs ys) : LePs (x :: xs) (y :: ys) :=
  ⟨by simp [hs.1], fun i a b ha hb => by
    cases i with
    | zero => simp only [List.getElem?_cons_zero, Option.some.injEq] at ha hb; subst ha hb; exact h
    | succ i => exact hs.2 i a b (by simpa using ha) (by simpa using hb)⟩
theorem LeP.agg {xs ys : List PV} (h : LePs xs ys) : LeP (.agg xs) (.agg ys) := by
  intro O w v hr
  cases hr with
  | agg _ vs h1 h2 h3 =>
    refine .agg _ _ (h1.trans h.1) (fun i y hy => ?_) (fun i hi => h3 i (by rw [h.1]; exact hi))
    have hlt := (List.getElem?_eq_some_iff.1 hy).1
    have hx : xs[i]? = some (xs[i]'(by rw [h.1]; exact hlt)) := by simp [h.1, hlt]
    exact h.2 i _ y hx hy O w _ (h2 i _ hx)
theorem LeP.tup {xs ys : List PV} (h : LePs xs ys) : LeP (.tup xs) (.tup ys) := by
  intro O w v hr
  cases hr with
  | tup _ vs h1 h2 =>
    refine .tup _ _ (h1.trans h.1) (fun i y hy => ?_)
    have hlt := (List.getElem?_eq_some_iff.1 hy).1
    have hx : xs[i]? = some (xs[i]'(by rw [h.1]; exact hlt)) := by simp [h.1, hlt]
    exact h.2 i _ y hx hy O w _ (h2 i _ hx)

end Go.Am
