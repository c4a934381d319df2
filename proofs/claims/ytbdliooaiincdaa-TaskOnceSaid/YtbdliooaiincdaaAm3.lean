/-
  The abstract machine, third part: new blocks, stores into blocks of the call's own.
-/
import Derived.Test.YtbdliooaiincdaaAm2
namespace Go.Am
open Go.RowKit

theorem SatR.notOwn {C : Ctx} {U : Nat → Prop} {s : PS} {ρ : Nat → Option Value} {a : Act} {w : World} (h : SatR C U s ρ a w) {b : Nat} (hb : w.heap.size ≤ b) : ¬ Own C s ρ b := by
  rintro (ho | ⟨id, k, v, h1, h2, h3⟩)
  · have := h.oc b ho; have := h.grows; omega
  · have := (h.range id k v b h1 h2 h3).2.2; omega

theorem SatR.widen {C : Ctx} {U U' : Nat → Prop} {s : PS} {ρ : Nat → Option Value} {a : Act} {w : World} (h : SatR C U s ρ a w) (hu : ∀ i, U i → U' i) : SatR C U' s ρ a w :=
  { h with used := fun id hid => h.used id (fun x => hid (hu id x)) }

theorem SatR.drew {C : Ctx} {U : Nat → Prop} {s : PS} {ρ : Nat → Option Value} {a : Act} {w : World} (h : SatR C U s ρ a w) : SatR C U s ρ a w.drew :=
  h.move (Nat.le_refl _) (fun _ _ => rfl) rfl rfl rfl

theorem SatR.alloc {C : Ctx} {U : Nat → Prop} {s : PS} {ρ : Nat → Option Value} {a : Act} {w : World} (h : SatR C U s ρ a w) (o : Obj) : SatR C U s ρ a (w.alloc o) :=
  h.move (by simp) (fun b hb => heap_alloc_old w o hb) rfl rfl rfl

def BlkOk (O : Nat → Prop) (ρ : Nat → Option Value) (w : World) (sz : Nat) (es : List (List AV)) (cap : Nat) (cur : Array Value) : Prop :=
  es.length ≤ cap ∧ cap ≤ maxLen ∧ cur.size = cap * sz ∧ (∀ x, x ∈ es → x.length = sz) ∧ ∀ j x, es.flatten[j]? = some x → RepA O ρ w x (cur.getD j undef) ∧ (cur.getD j undef).oneCell' = true

/-- A new block of the call's own, under a name that nobody has. -/
theorem SatR.newBlk {C : Ctx} {U : Nat → Prop} {s : PS} {ρ : Nat → Option Value} {a : Act} {w : World} (h : SatR C U s ρ a w) {f : Nat} (hf : ¬ U f)
    (e : TypeId) (cur : Array Value) (sz : Nat) (es : List (List AV)) (cap : Nat) (v : Value)
    (hv : v = .slice (some ⟨w.heap.size, 0, none⟩) es.length cap ∨ (v = .pointer (some ⟨w.heap.size, 0, none⟩) ∧ es.length = 1 ∧ cap = 1)) (h0 : 0 < cap)
    (hok : BlkOk (Own C s ρ) ρ w sz es cap cur) :
    SatR C (fun i => U i ∨ i = f) ⟨s.sl, PS.setHp s.hp [(f, some (.row sz es))]⟩ (fun i => if i = f then some v else ρ i) a (w.alloc (.cells cur e)) := by
  have hob : oblk v = some w.heap.size := by rcases hv with rfl | ⟨rfl, _⟩ <;> simp [oblk]; omega
  have hρ : ∀ i v', ρ i = some v' → (fun i => if i = f then some v else ρ i) i = some v' := by
    intro i v' hi
    by_cases e : i = f
    · subst e; rw [h.used i hf] at hi; cases hi
    · simp [e, hi]
  have hsf : s.hp f = none := by
    cases hh : s.hp f with
    | none => rfl
    | some k => obtain ⟨v', hv', _⟩ := h.heap f k hh; rw [h.used f hf] at hv'; cases hv'
  have hm : Moves (Own C s ρ) w (Own C ⟨s.sl, PS.setHp s.hp [(f, some (.row sz es))]⟩ (fun i => if i = f then some v else ρ i)) (w.alloc (.cells cur e)) := by
    refine ⟨by simp, fun b hb _ => heap_alloc_old w _ hb, fun b hb ho => ?_⟩
    rcases ho with ho | ⟨id, k, u, h1, h2, h3⟩
    · exact .inl ho
    · by_cases e : id = f
      · subst e; simp only [if_true, Option.some.injEq] at h2; subst h2; rw [hob] at h3; injection h3; omega
      · simp only [PS.setHp, e, if_false] at h1 h2; exact .inr ⟨id, k, u, h1, h2, h3⟩
  refine ⟨h.defers, h.size, fun d x hx => (h.slots d x hx).mono hm hρ, fun id k hid => ?_, ?_, fun id hid => ?_, ?_, h.oc, h.os, h.tape, h.output, Nat.le_trans h.grows (by simp), fun b hb hA => ?_, fun j v hj => hρ _ _ (h.pins j v hj)⟩
  · by_cases e : id = f
    · subst e
      simp only [PS.setHp, if_true, Option.some.injEq] at hid
      subst hid
      refine ⟨v, by simp, .inr ⟨w.heap.size, cap, cur, _, hv, h0, heap_alloc_new w _, hok.1, hok.2.1, hok.2.2.1, hok.2.2.2.1, fun j x hx => ⟨(hok.2.2.2.2 j x hx).1.mono hm hρ, (hok.2.2.2.2 j x hx).2⟩⟩⟩
    · simp only [PS.setHp, e, if_false] at hid
      obtain ⟨v', hv', hr⟩ := h.heap id k hid
      exact ⟨v', by simp [e, hv'], hr.mono hm hρ (fun b hb => heap_alloc_old w _ (h.range id k v' b hid hv' hb).2.2)⟩
  · intro i j k l v' u b h1 h2 h3 h4 h5 h6
    by_cases ei : i = f
    · by_cases ej : j = f
      · rw [ei, ej]
      · subst ei
        simp only [PS.setHp, ej, if_false] at h2 h4
        simp only [if_true, Option.some.injEq] at h3
        subst h3
        rw [hob] at h5; injection h5 with h5; subst h5
        have := (h.range j l u _ h2 h4 h6).2.2; omega
    · by_cases ej : j = f
      · subst ej
        simp only [PS.setHp, ei, if_false] at h1 h3
        simp only [if_true, Option.some.injEq] at h4
        subst h4
        rw [hob] at h6; injection h6 with h6; subst h6
        have := (h.range i k v' _ h1 h3 h5).2.2; omega
      · simp only [PS.setHp, ei, ej, if_false] at h1 h2 h3 h4
        exact h.inj i j k l v' u b h1 h2 h3 h4 h5 h6
  · have : ¬ id = f := fun e => hid (.inr e)
    simp only [this, if_false]
    exact h.used id (fun x => hid (.inl x))
  · intro id k v' b h1 h2 h3
    by_cases e : id = f
    · subst e
      simp only [if_true, Option.some.injEq] at h2
      subst h2
      rw [hob] at h3; injection h3 with h3; subst h3
      refine ⟨.inl h.grows, fun ho => ?_, by simp⟩
      have := h.oc _ ho; have := h.grows; omega
    · simp only [PS.setHp, e, if_false] at h1 h2
      obtain ⟨r1, r2, r3⟩ := h.range id k v' b h1 h2 h3
      exact ⟨r1, r2, Nat.lt_of_lt_of_le r3 (by simp)⟩
  · rw [heap_alloc_old w _ (Nat.lt_of_lt_of_le hb h.grows)]; exact h.frame b hb hA

/-- A block of the call's own is written. -/
theorem SatR.setBlk {C : Ctx} {U : Nat → Prop} {s : PS} {ρ : Nat → Option Value} {a : Act} {w : World} (h : SatR C U s ρ a w) {id sz : Nat} {es es' : List (List AV)}
    (hid : s.hp id = some (.row sz es)) {v : Value} (hv : ρ id = some v) {b cap : Nat} {cur cur' : Array Value} {e : TypeId}
    (hvb : v = .slice (some ⟨b, 0, none⟩) es.length cap ∨ (v = .pointer (some ⟨b, 0, none⟩) ∧ es.length = 1 ∧ cap = 1)) (h0 : 0 < cap)
    (hb : w.heap[b]? = some (.cells cur e (0, 0))) (hl : es'.length = es.length) (hok : BlkOk (Own C s ρ) ρ w sz es' cap cur') :
    SatR C U ⟨s.sl, PS.setHp s.hp [(id, some (.row sz es'))]⟩ ρ a (w.setRow b cur') := by
  have hob : oblk v = some b := by rcases hvb with rfl | ⟨rfl, _⟩ <;> simp [oblk]; omega
  have hO : ∀ x, Own C ⟨s.sl, PS.setHp s.hp [(id, some (.row sz es'))]⟩ ρ x → Own C s ρ x := by
    rintro x (ho | ⟨i, k, u, h1, h2, h3⟩)
    · exact .inl ho
    · by_cases e : i = id
      · subst e; exact .inr ⟨i, _, u, hid, h2, h3⟩
      · simp only [PS.setHp, e, if_false] at h1; exact .inr ⟨i, k, u, h1, h2, h3⟩
  have hin : Own C s ρ b := .inr ⟨id, _, v, hid, hv, hob⟩
  have hm : Moves (Own C s ρ) w (Own C ⟨s.sl, PS.setHp s.hp [(id, some (.row sz es'))]⟩ ρ) (w.setRow b cur') :=
    ⟨by simp, fun x _ hx => setRow_other w b x cur' (fun e => hx (e ▸ hin)), fun x _ => hO x⟩
  have hrange := h.range id _ v b hid hv hob
  refine ⟨h.defers, h.size, fun d x hx => (h.slots d x hx).mono hm (fun _ _ x => x), fun i k hi => ?_, ?_, h.used, ?_, h.oc, h.os, h.tape, h.output, by simpa using h.grows, fun x hx hA => ?_, h.pins⟩
  · by_cases e : i = id
    · subst e
      simp only [PS.setHp, if_true, Option.some.injEq] at hi
      subst hi
      exact ⟨v, hv, .inr ⟨b, cap, cur', _, by rw [hl]; exact hvb, h0, setRow_heap w b cur cur' _ _ hb, hok.1, hok.2.1, hok.2.2.1, hok.2.2.2.1,
        fun j x hx => ⟨(hok.2.2.2.2 j x hx).1.mono hm (fun _ _ x => x), (hok.2.2.2.2 j x hx).2⟩⟩⟩
    · simp only [PS.setHp, e, if_false] at hi
      obtain ⟨u, hu, hr⟩ := h.heap i k hi
      exact ⟨u, hu, hr.mono hm (fun _ _ x => x) (fun b2 hob2 => setRow_other w b b2 cur' (fun x => by subst x; exact e (h.inj i id _ _ u v b2 hi hid hu hv hob2 hob)))⟩
  · intro i j k l v' u b' h1 h2 h3 h4 h5 h6
    have hi : ∃ k, s.hp i = some k := by
      by_cases e : i = id
      · subst e; exact ⟨_, hid⟩
      · simp only [PS.setHp, e, if_false] at h1; exact ⟨k, h1⟩
    have hj : ∃ k, s.hp j = some k := by
      by_cases e : j = id
      · subst e; exact ⟨_, hid⟩
      · simp only [PS.setHp, e, if_false] at h2; exact ⟨l, h2⟩
    obtain ⟨k', hk'⟩ := hi
    obtain ⟨l', hl'⟩ := hj
    exact h.inj i j k' l' v' u b' hk' hl' h3 h4 h5 h6
  · intro i k v' b' h1 h2 h3
    have hi : ∃ k, s.hp i = some k := by
      by_cases e : i = id
      · subst e; exact ⟨_, hid⟩
      · simp only [PS.setHp, e, if_false] at h1; exact ⟨k, h1⟩
    obtain ⟨k', hk'⟩ := hi
    simpa using h.range i k' v' b' hk' h2 h3
  · rw [setRow_other w b x cur' ?_]
    · exact h.frame x hx hA
    · rintro rfl
      rcases hrange.1 with hr | hr
      · omega
      · exact hA hr

/-- A block is not the call's own any more: nobody writes it from here on. -/
theorem SatR.dropBlk {C : Ctx} {U : Nat → Prop} {s : PS} {ρ : Nat → Option Value} {a : Act} {w : World} (h : SatR C U s ρ a w) (id : Nat) :
    SatR C U ⟨s.sl, PS.setHp s.hp [(id, none)]⟩ ρ a w := by
  have hsub : ∀ i k, PS.setHp s.hp [(id, none)] i = some k → s.hp i = some k := by
    intro i k hk
    by_cases e : i = id
    · simp [PS.setHp, e] at hk
    · simpa [PS.setHp, e] using hk
  have hO : ∀ x, Own C ⟨s.sl, PS.setHp s.hp [(id, none)]⟩ ρ x → Own C s ρ x := by
    rintro x (ho | ⟨i, k, u, h1, h2, h3⟩)
    · exact .inl ho
    · exact .inr ⟨i, k, u, hsub i k h1, h2, h3⟩
  have hm : Moves (Own C s ρ) w (Own C ⟨s.sl, PS.setHp s.hp [(id, none)]⟩ ρ) w := ⟨Nat.le_refl _, fun _ _ _ => rfl, fun x _ => hO x⟩
  refine ⟨h.defers, h.size, fun d x hx => (h.slots d x hx).mono hm (fun _ _ x => x), fun i k hi => ?_, fun i j k l v u b h1 h2 => h.inj i j k l v u b (hsub _ _ h1) (hsub _ _ h2), h.used,
    fun i k v b h1 => h.range i k v b (hsub _ _ h1), h.oc, h.os, h.tape, h.output, h.grows, h.frame, h.pins⟩
  obtain ⟨v, hv, hr⟩ := h.heap i k (hsub i k hi)
  exact ⟨v, hv, hr.mono hm (fun _ _ x => x) (fun _ _ => rfl)⟩

end Go.Am
