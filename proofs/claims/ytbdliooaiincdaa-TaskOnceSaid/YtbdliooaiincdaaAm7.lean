/-
  The abstract machine, seventh part: a row of the call's own, under a new name.
-/
import Derived.Test.YtbdliooaiincdaaAm6
namespace Go.Am
open Go.RowKit

/-- An empty row that takes no block. -/
theorem SatR.newNil {C : Ctx} {U : Nat → Prop} {s : PS} {ρ : Nat → Option Value} {a : Act} {w : World} (h : SatR C U s ρ a w) {f : Nat} (hf : ¬ U f) (sz : Nat) (ad : Option Addr) :
    SatR C (fun i => U i ∨ i = f) ⟨s.sl, PS.setHp s.hp [(f, some (.row sz []))]⟩ (fun i => if i = f then some (.slice ad 0 0) else ρ i) a w := by
  have hob : oblk (.slice ad 0 0) = none := by cases ad <;> simp [oblk]
  have hρ : ∀ i v', ρ i = some v' → (fun i => if i = f then some (Value.slice ad 0 0) else ρ i) i = some v' := by
    intro i v' hi
    by_cases e : i = f
    · subst e; rw [h.used i hf] at hi; cases hi
    · simp [e, hi]
  have hcase : ∀ i k v b, PS.setHp s.hp [(f, some (.row sz []))] i = some k → (if i = f then some (Value.slice ad 0 0) else ρ i) = some v → oblk v = some b → s.hp i = some k ∧ ρ i = some v := by
    intro i k v b h1 h2 h3
    by_cases e : i = f
    · simp only [e, if_true, Option.some.injEq] at h2; subst h2; rw [hob] at h3; cases h3
    · simp only [PS.setHp, e, if_false] at h1 h2; exact ⟨h1, h2⟩
  have hm : Moves (Own C s ρ) w (Own C ⟨s.sl, PS.setHp s.hp [(f, some (.row sz []))]⟩ (fun i => if i = f then some (.slice ad 0 0) else ρ i)) w := by
    refine ⟨Nat.le_refl _, fun b hb _ => rfl, fun b hb ho => ?_⟩
    rcases ho with ho | ⟨id, k, u, h1, h2, h3⟩
    · exact .inl ho
    · obtain ⟨g1, g2⟩ := hcase id k u b h1 h2 h3
      exact .inr ⟨id, k, u, g1, g2, h3⟩
  refine ⟨h.defers, h.size, fun d x hx => (h.slots d x hx).mono hm hρ, fun id k hid => ?_, fun i j k l v u b h1 h2 h3 h4 h5 h6 => ?_, fun id hid => ?_, fun id k v b h1 h2 h3 => ?_, h.oc, h.os, h.tape, h.output, h.grows, h.frame, fun j v hj => hρ _ _ (h.pins j v hj)⟩
  · by_cases e : id = f
    · subst e
      simp only [PS.setHp, if_true, Option.some.injEq] at hid
      subst hid
      exact ⟨_, by simp, .inl ⟨rfl, ad, rfl⟩⟩
    · simp only [PS.setHp, e, if_false] at hid
      obtain ⟨v', hv', hr⟩ := h.heap id k hid
      exact ⟨v', by simp [e, hv'], hr.mono hm hρ (fun _ _ => rfl)⟩
  · obtain ⟨a1, a2⟩ := hcase i k v b h1 h3 h5
    obtain ⟨b1, b2⟩ := hcase j l u b h2 h4 h6
    exact h.inj i j k l v u b a1 b1 a2 b2 h5 h6
  · have : ¬ id = f := fun e => hid (.inr e)
    simp only [this, if_false]
    exact h.used id (fun x => hid (.inl x))
  · obtain ⟨a1, a2⟩ := hcase id k v b h1 h2 h3
    exact h.range id k v b a1 a2 h3

/-- A row is written behind its end, or shortened, and has a new name from then on. -/
theorem SatR.rename {C : Ctx} {U : Nat → Prop} {s : PS} {ρ : Nat → Option Value} {a : Act} {w : World} (h : SatR C U s ρ a w) {f : Nat} (hf : ¬ U f) {id sz : Nat} {es es' : List (List AV)}
    (hid : s.hp id = some (.row sz es)) {b cap : Nat} (hv : ρ id = some (.slice (some ⟨b, 0, none⟩) es.length cap)) (h0 : 0 < cap) {cur cur' : Array Value} {e : TypeId}
    (hb : w.heap[b]? = some (.cells cur e (0, 0))) (hok : BlkOk (Own C s ρ) ρ w sz es' cap cur') :
    SatR C (fun i => U i ∨ i = f) ⟨s.sl, PS.setHp s.hp [(f, some (.row sz es')), (id, none)]⟩ (fun i => if i = f then some (.slice (some ⟨b, 0, none⟩) es'.length cap) else ρ i) a (w.setRow b cur') := by
  have hob : ∀ n, oblk (.slice (some ⟨b, 0, none⟩) n cap) = some b := fun n => by simp [oblk]; omega
  have hfn : ρ f = none := h.used f hf
  have hne : id ≠ f := by rintro rfl; rw [hfn] at hv; cases hv
  have hρ : ∀ i v', ρ i = some v' → (fun i => if i = f then some (Value.slice (some ⟨b, 0, none⟩) es'.length cap) else ρ i) i = some v' := by
    intro i v' hi
    by_cases e : i = f
    · subst e; rw [hfn] at hi; cases hi
    · simp [e, hi]
  have hcase : ∀ i k v, PS.setHp s.hp [(f, some (.row sz es')), (id, none)] i = some k → (if i = f then some (Value.slice (some ⟨b, 0, none⟩) es'.length cap) else ρ i) = some v →
      (i = f ∧ k = .row sz es' ∧ v = .slice (some ⟨b, 0, none⟩) es'.length cap) ∨ (i ≠ f ∧ i ≠ id ∧ s.hp i = some k ∧ ρ i = some v) := by
    intro i k v h1 h2
    by_cases e : i = f
    · subst e
      simp only [PS.setHp, if_true, Option.some.injEq] at h1 h2
      exact .inl ⟨rfl, h1.symm, h2.symm⟩
    · by_cases e2 : i = id
      · simp [PS.setHp, e2, hne] at h1
      · simp only [PS.setHp, e, e2, if_false] at h1 h2; exact .inr ⟨e, e2, h1, h2⟩
  have hO : ∀ x, Own C ⟨s.sl, PS.setHp s.hp [(f, some (.row sz es')), (id, none)]⟩ (fun i => if i = f then some (.slice (some ⟨b, 0, none⟩) es'.length cap) else ρ i) x → Own C s ρ x := by
    rintro x (ho | ⟨i, k, u, h1, h2, h3⟩)
    · exact .inl ho
    · rcases hcase i k u h1 h2 with ⟨_, _, rfl⟩ | ⟨_, _, g1, g2⟩
      · rw [hob] at h3; injection h3 with h3; subst h3; exact .inr ⟨id, _, _, hid, hv, hob _⟩
      · exact .inr ⟨i, k, u, g1, g2, h3⟩
  have hin : Own C s ρ b := .inr ⟨id, _, _, hid, hv, hob _⟩
  have hm : Moves (Own C s ρ) w (Own C ⟨s.sl, PS.setHp s.hp [(f, some (.row sz es')), (id, none)]⟩ (fun i => if i = f then some (.slice (some ⟨b, 0, none⟩) es'.length cap) else ρ i)) (w.setRow b cur') :=
    ⟨by simp, fun x _ hx => setRow_other w b x cur' (fun e => hx (e ▸ hin)), fun x _ => hO x⟩
  have hrange := h.range id _ _ b hid hv (hob _)
  refine ⟨h.defers, h.size, fun d x hx => (h.slots d x hx).mono hm hρ, fun i k hi => ?_, fun i j k l v' u b' h1 h2 h3 h4 h5 h6 => ?_, fun i hi => ?_, fun i k v' b' h1 h2 h3 => ?_, h.oc, h.os, h.tape, h.output, by simpa using h.grows, fun x hx hA => ?_, fun j v' hj => hρ _ _ (h.pins j v' hj)⟩
  · by_cases e : i = f
    · subst e
      simp only [PS.setHp, if_true, Option.some.injEq] at hi
      subst hi
      exact ⟨_, by simp, .inr ⟨b, cap, cur', _, .inl rfl, h0, setRow_heap w b cur cur' _ _ hb, hok.1, hok.2.1, hok.2.2.1, hok.2.2.2.1, fun j x hx => ⟨(hok.2.2.2.2 j x hx).1.mono hm hρ, (hok.2.2.2.2 j x hx).2⟩⟩⟩
    · have e2 : i ≠ id := by rintro rfl; simp [PS.setHp, e] at hi
      simp only [PS.setHp, e, e2, if_false] at hi
      obtain ⟨u, hu, hr⟩ := h.heap i k hi
      exact ⟨u, by simp [e, hu], hr.mono hm hρ (fun b2 hob2 => setRow_other w b b2 cur' (fun x => by subst x; exact e2 (h.inj i id _ _ u _ b2 hi hid hu hv hob2 (hob _))))⟩
  · rcases hcase i k v' h1 h3 with ⟨rfl, _, rfl⟩ | ⟨e1, e2, g1, g2⟩
    · rcases hcase j l u h2 h4 with ⟨rfl, _, rfl⟩ | ⟨e1, e2, g1, g2⟩
      · rfl
      · rw [hob] at h5; injection h5 with h5; subst h5
        exact absurd (h.inj j id l _ u _ b g1 hid g2 hv h6 (hob _)) e2
    · rcases hcase j l u h2 h4 with ⟨rfl, _, rfl⟩ | ⟨e3, e4, g3, g4⟩
      · rw [hob] at h6; injection h6 with h6; subst h6
        exact absurd (h.inj i id k _ v' _ b g1 hid g2 hv h5 (hob _)) e2
      · exact h.inj i j k l v' u b' g1 g3 g2 g4 h5 h6
  · have : ¬ i = f := fun e => hi (.inr e)
    simp only [this, if_false]
    exact h.used i (fun x => hi (.inl x))
  · rcases hcase i k v' h1 h2 with ⟨rfl, _, rfl⟩ | ⟨_, _, g1, g2⟩
    · rw [hob] at h3; injection h3 with h3; subst h3; simpa using hrange
    · simpa using h.range i k v' b' g1 g2 h3
  · rw [setRow_other w b x cur' ?_]
    · exact h.frame x hx hA
    · rintro rfl
      rcases hrange.1 with hr | hr
      · omega
      · exact hA hr

/-- a row's cells, put behind the row -/
theorem blk_room {O : Nat → Prop} {ρ : Nat → Option Value} {w : World} {es1 es2 : List (List PV)} {sz cap : Nat} {cur : Array Value} (h : BlkOk O ρ w sz (lift es1) cap cur) {v2 : Value} {vs2 : List Value}
    (l2 : Lies O w es2 v2 vs2) (hl2 : ∀ x, x ∈ es2 → x.length = sz) (hroom : es1.length + es2.length ≤ cap) :
    BlkOk O ρ w sz (lift (es1 ++ es2)) cap (cur.toList.take (es1.length * sz) ++ vs2 ++ cur.toList.drop (es1.length * sz + vs2.length)).toArray := by
  have hl1 := lift_len.1 h.2.2.2.1
  have hlen2 : vs2.length = es2.length * sz := by rw [l2.len, flat_len sz es2 hl2]
  have hsz : es1.length * sz + es2.length * sz ≤ cap * sz := by rw [← Nat.add_mul]; exact Nat.mul_le_mul_right _ hroom
  have hcs := h.2.2.1
  refine ⟨by rw [lift_length, List.length_append]; exact hroom, h.2.1, ?_, lift_len.2 (fun x hx => ?_), fun j x hx => ?_⟩
  · simp only [List.size_toArray, List.length_append, List.length_take, List.length_drop, Array.length_toList, hlen2]; omega
  · rcases List.mem_append.1 hx with hx | hx
    · exact hl1 x hx
    · exact hl2 x hx
  · rw [lift_flatten, List.getElem?_map] at hx
    obtain ⟨y, hy, rfl⟩ := Option.map_eq_some_iff.1 hx
    rw [List.flatten_append] at hy
    have hf1 := flat_len sz es1 hl1
    have htk : (cur.toList.take (es1.length * sz)).length = es1.length * sz := by have := Array.length_toList (xs := cur); rw [List.length_take]; omega
    by_cases hlt : j < es1.length * sz
    · rw [List.getElem?_append_left (by omega)] at hy
      have := blk_get h hy
      have e : ((cur.toList.take (es1.length * sz) ++ vs2 ++ cur.toList.drop (es1.length * sz + vs2.length)).toArray).getD j undef = cur.getD j undef := by
        rw [Array.getD_eq_getD_getElem?, Array.getD_eq_getD_getElem?, List.getElem?_toArray, List.append_assoc, List.getElem?_append_left (by omega), List.getElem?_take, if_pos hlt]; simp
      rw [e]; exact ⟨.p _ _ this.2.1, this.2.2⟩
    · rw [List.getElem?_append_right (by omega), hf1] at hy
      have hj := (List.getElem?_eq_some_iff.1 hy).1
      have := l2.rep _ y hy
      have e : ((cur.toList.take (es1.length * sz) ++ vs2 ++ cur.toList.drop (es1.length * sz + vs2.length)).toArray).getD j undef = vs2.getD (j - es1.length * sz) undef := by
        rw [Array.getD_eq_getD_getElem?, List.getElem?_toArray, List.append_assoc, List.getElem?_append_right (by omega), htk, List.getElem?_append_left (by rw [l2.len]; exact hj), ← List.getD_eq_getElem?_getD]
      rw [e]; exact ⟨.p _ _ this.1, this.2⟩

/-- a row of one's own becomes data: nobody writes it any more -/
theorem SatR.freeze {C : Ctx} {U : Nat → Prop} {s : PS} {ρ : Nat → Option Value} {a : Act} {w : World} (h : SatR C U s ρ a w) {id sz : Nat} {es : List (List PV)} (hid : s.hp id = some (.row sz (lift es))) {d : Nat} (hd : s.sl d = some (.own id)) :
    SatR C U ⟨fun e => if some d = some e then some (.p (.seq false es)) else s.sl e, PS.setHp s.hp [(id, none)]⟩ ρ a w := by
  have hdp := h.dropBlk id
  have hv := h.slots d _ hd
  obtain ⟨u, hu, hb⟩ := h.heap id _ hid
  have hO : ∀ x, Own C ⟨s.sl, PS.setHp s.hp [(id, none)]⟩ ρ x → Own C s ρ x := by
    rintro x (ho | ⟨j, k, v, h1, h2, h3⟩)
    · exact .inl ho
    · by_cases e : j = id
      · simp [PS.setHp, e] at h1
      · simp only [PS.setHp, e, if_false] at h1; exact .inr ⟨j, k, v, h1, h2, h3⟩
  have hm : Moves (Own C s ρ) w (Own C ⟨s.sl, PS.setHp s.hp [(id, none)]⟩ ρ) w := ⟨Nat.le_refl _, fun _ _ _ => rfl, fun x _ => hO x⟩
  have key : RepP (Own C ⟨s.sl, PS.setHp s.hp [(id, none)]⟩ ρ) w (.seq false es) (a.tmps.getD d undef) := by
    generalize a.tmps.getD d undef = z at hv
    cases hv with
    | own _ ad n c hi =>
      rw [hu] at hi; injection hi with hi; subst hi
      rcases hb with ⟨hnil, a', ha'⟩ | ⟨b, cap, cur, e, h1, h0, h2, h3, h4, h5, h6, h7⟩
      · have : es = [] := by simpa [lift] using hnil
        subst this
        injection ha' with q1 q2 q3; subst q1 q2 q3
        exact .nilseq _ _ _ (fun h => by cases h)
      · rcases h1 with h1 | ⟨h1, _⟩
        · injection h1 with q1 q2 q3; subst q1 q3
          rw [lift_length] at q2; subst q2
          have hok : BlkOk (Own C s ρ) ρ w sz (lift es) c cur := ⟨h3, h4, h5, h6, h7⟩
          have hob : oblk (.slice (some ⟨b, 0, none⟩) es.length c) = some b := by simp [oblk]; omega
          have hno : ¬ Own C ⟨s.sl, PS.setHp s.hp [(id, none)]⟩ ρ b := by
            rintro (ho | ⟨j, k, v, e1, e2, e3⟩)
            · exact (h.range id _ _ b hid hu hob).2.1 ho
            · by_cases e : j = id
              · simp [PS.setHp, e] at e1
              · simp only [PS.setHp, e, if_false] at e1
                exact e (h.inj j id k _ v _ b e1 hid e2 hu e3 hob)
          refine .seq false es sz b 0 c (fun j => cur.getD j undef) (lift_len.1 h6) (by rw [lift_length] at h3; exact h3) (fun h => by cases h) (fun j hj => ?_) (fun j y hy => (blk_get hok hy).2.1.mono hm)
          have := blk_get hok (List.getElem?_eq_getElem hj)
          refine ⟨hno, ?_, this.2.2⟩
          rw [Nat.zero_add]; exact cell_row h2 this.1
        · cases h1
  have hsl : ∀ (e : Nat) (x : AV), (if some d = some e then some (.p (.seq false es)) else s.sl e) = some x → RepA (Own C ⟨s.sl, PS.setHp s.hp [(id, none)]⟩ ρ) ρ w x (a.tmps.getD e undef) := by
    intro e x hx
    split at hx
    · rename_i e1; injection e1 with e1; subst e1; simp only [Option.some.injEq] at hx; subst hx; exact .p _ _ key
    · exact hdp.slots e x hx
  exact { hdp with slots := hsl }

/-- what made a row of one's own made data, if nobody is to write it -/
theorem stepA_freeze {P : Program} {f : Nat} {V : PS} {o : Oper} {id d sz : Nat} {es : List (List PV)} (hdst : o.dst = some d) (h : StepA P o f V ⟨.own f, [(f, some (.row sz (lift es))), (id, none)]⟩) : StepA P o f V ⟨.p (.seq false es), [(f, none), (id, none)]⟩ := by
  intro C U s a w hd hf hV hH hsat Q
  refine Oper.wp_mono (fun a' w' hs => ?_) (h C U s a w hd hf hV hH hsat Q)
  obtain ⟨ρ, hs⟩ := hs
  have := hs.freeze (id := f) (sz := sz) (es := es) (d := d) (by simp [PS.upd, PS.setHp]) (by simp [PS.upd, hdst])
  refine ⟨ρ, ?_⟩
  have e : (⟨fun e => if some d = some e then some (AV.p (.seq false es)) else (s.upd o.dst ⟨.own f, [(f, some (.row sz (lift es))), (id, none)]⟩).sl e, PS.setHp (s.upd o.dst ⟨.own f, [(f, some (.row sz (lift es))), (id, none)]⟩).hp [(f, none)]⟩ : PS) = s.upd o.dst ⟨.p (.seq false es), [(f, none), (id, none)]⟩ := by
    simp only [PS.upd, PS.setHp, hdst, PS.mk.injEq]
    constructor
    · funext e; by_cases e1 : d = e <;> simp [e1]
    · funext j; by_cases e1 : j = f <;> simp [e1]
  rw [e] at this
  exact this

end Go.Am
