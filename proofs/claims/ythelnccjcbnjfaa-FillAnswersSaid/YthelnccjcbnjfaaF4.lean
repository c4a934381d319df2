/-
  The abstract machine, further part: a nil slice in a cell of a box becomes an owned row.
-/
import Derived.Test.YthelnccjcbnjfaaF3
set_option linter.unusedSimpArgs false
set_option linter.unusedVariables false
namespace Go.Am
open Go.RowKit
theorem awp_ownC {P : Program} {C : Ctx} {c : Code} {K : Exit → LS → Prop} {s : LS} (id z sz off : Nat) {cs : List AV} (hid : lkp s.hp id = some (.row z [cs])) (ho : cs[off]? = some (.p (.seq true [])))
    (h : Awp P C c K ⟨s.sl, (id, .row z [cs.set off (.own (8 * s.nx))]) :: del ((8 * s.nx, .row sz []) :: del s.hp (8 * s.nx)) id, s.nx + 1⟩) : Awp P C c K s := by
  intro a w ⟨ρ, hs⟩
  have hU : ¬ nmPos (8 * s.nx) ≤ s.nx := by simp only [nmPos]; split <;> omega
  have hid' : s.ps.hp id = some (.row z [cs]) := hid
  obtain ⟨u, hu, hb⟩ := hs.heap id _ hid'
  have hne : id ≠ 8 * s.nx := fun e => by
    have := hs.used (8 * s.nx) hU
    rw [← e, hu] at this; cases this
  have hcell : ∃ j : Value, RepP (Own C s.ps ρ) w (.seq true []) j ∧ (∀ b cap cur e, u = .slice (some ⟨b, 0, none⟩) 1 cap ∨ u = .pointer (some ⟨b, 0, none⟩) → w.heap[b]? = some (.cells cur e (0, 0)) → cur.getD off undef = j) := by
    rcases hb with ⟨hnil, _⟩ | ⟨b, cap, cur, e, h1, h0, h2, h3, h4, h5, h6, h7⟩
    · cases hnil
    · have h8 := h7 off (.p (.seq true [])) (by simpa using ho)
      refine ⟨cur.getD off undef, h8.1.unP, fun b' cap' cur' e' q1 q2 => ?_⟩
      have : b' = b := by
        rcases h1 with rfl | ⟨rfl, _⟩ <;> rcases q1 with q | q
        · injection q with q; injection q with q; injection q with q; exact q.symm
        · cases q
        · cases q
        · injection q with q; injection q with q; injection q with q; exact q.symm
      subst this
      rw [h2] at q2; injection q2 with q2; injection q2 with q2; rw [q2]
  obtain ⟨jv, hj, hjc⟩ := hcell
  obtain ⟨ad, cap, he, hcap, hcl⟩ := seq_shape hj
  have hc : cap = 0 := by simpa using hcl rfl
  subst hc
  have hnil := hs.newNil (f := 8 * s.nx) hU sz ad
  generalize hρ' : (fun i => if i = 8 * s.nx then some (Value.slice ad 0 0) else ρ i) = ρ' at hnil
  have hρn : ρ' (8 * s.nx) = some (.slice ad 0 0) := by rw [← hρ']; simp
  have hS1 : PS.setHp s.ps.hp [(8 * s.nx, some (.row sz []))] id = some (.row z [cs]) := by
    simp only [PS.setHp, hne, if_false]; exact hid'
  let hp2 : Nat → Option Blk := fun i => if i = id then some (.row z [cs.set off (.own (8 * s.nx))]) else PS.setHp s.ps.hp [(8 * s.nx, some (.row sz []))] i
  have up : ∀ i k, hp2 i = some k → ∃ k', PS.setHp s.ps.hp [(8 * s.nx, some (.row sz []))] i = some k' := fun i k hk => by
    by_cases e : i = id
    · subst e; exact ⟨_, hS1⟩
    · simp only [hp2, e, if_false] at hk; exact ⟨k, hk⟩
  have hm : Moves (Own C ⟨s.ps.sl, PS.setHp s.ps.hp [(8 * s.nx, some (.row sz []))]⟩ ρ') w (Own C ⟨s.ps.sl, hp2⟩ ρ') w := ⟨Nat.le_refl _, fun _ _ _ => rfl, fun b _ hb => by
    rcases hb with hb | ⟨i, k, v, q1, q2, q3⟩
    · exact .inl hb
    · obtain ⟨k', hk'⟩ := up i k q1
      exact .inr ⟨i, k', v, hk', q2, q3⟩⟩
  have key : SatR C (fun i => nmPos i ≤ s.nx ∨ i = 8 * s.nx) ⟨s.ps.sl, hp2⟩ ρ' a w := by
    refine { hnil with slots := fun e x hx => (hnil.slots e x hx).mono hm (fun _ _ h => h), heap := fun i k hk => ?_, inj := fun i j k l v u' b q1 q2 q3 q4 q5 q6 => ?_, range := fun i k v b q1 q2 q3 => ?_ }
    · by_cases e : i = id
      · subst e
        simp only [hp2, if_true, Option.some.injEq] at hk
        subst hk
        obtain ⟨u2, hu2, hb2⟩ := hnil.heap i _ hS1
        refine ⟨u2, hu2, ?_⟩
        have hu3 : u2 = u := by
          rw [← hρ'] at hu2; simp only [hne, if_false] at hu2; rw [hu] at hu2; injection hu2 with hu2; exact hu2.symm
        subst hu3
        rcases hb2 with ⟨q, _⟩ | ⟨b, cap, cur, e, h1, h0, h2, h3, h4, h5, h6, h7⟩
        · cases q
        · refine .inr ⟨b, cap, cur, e, by simpa using h1, h0, h2, by simpa using h3, h4, h5, fun x hx => ?_, fun j x hx => ?_⟩
          · simp only [List.mem_singleton] at hx; subst hx
            rw [List.length_set]; exact h6 cs (by simp)
          · have hfl : ([cs.set off (.own (8 * s.nx))] : List (List AV)).flatten = cs.set off (.own (8 * s.nx)) := by simp
            rw [hfl, List.getElem?_set] at hx
            by_cases eo : off = j
            · subst eo
              rw [if_pos rfl] at hx
              split at hx
              · simp only [Option.some.injEq] at hx; subst hx
                have hg : cur.getD off undef = .slice ad 0 0 := by
                  rw [hjc b cap cur e (by rcases h1 with h1 | ⟨h1, _⟩; exact .inl (by simpa using h1); exact .inr h1) h2, he]; rfl
                rw [hg]
                exact ⟨.own _ _ _ _ hρn, rfl⟩
              · cases hx
            · rw [if_neg eo] at hx
              have := h7 j x (by simpa using hx)
              exact ⟨this.1.mono hm (fun _ _ h => h), this.2⟩
      · simp only [hp2, e, if_false] at hk
        obtain ⟨v, hv, hb⟩ := hnil.heap i k hk
        exact ⟨v, hv, hb.mono hm (fun _ _ h => h) (fun _ _ => rfl)⟩
    · obtain ⟨k', hk'⟩ := up i k q1
      obtain ⟨l', hl'⟩ := up j l q2
      exact hnil.inj i j k' l' v u' b hk' hl' q3 q4 q5 q6
    · obtain ⟨k', hk'⟩ := up i k q1
      exact hnil.range i k' v b hk' q2 q3
  have e2 : (⟨s.sl, (id, .row z [cs.set off (.own (8 * s.nx))]) :: del ((8 * s.nx, .row sz []) :: del s.hp (8 * s.nx)) id, s.nx + 1⟩ : LS).ps = ⟨s.ps.sl, hp2⟩ := by
    simp only [LS.ps, PS.mk.injEq, true_and, hp2]
    funext i
    by_cases e : i = id
    · subst e; simp [lkp]
    · simp only [lkp, lkp_del, PS.setHp, e, if_false]
      by_cases e3 : i = 8 * s.nx
      · subst e3; simp [lkp]
      · simp [lkp, lkp_del, e3]
  have fin := key.widen (U' := fun i => nmPos i ≤ s.nx + 1) (fun i hi => by
    rcases hi with hi | rfl
    · omega
    · simp only [nmPos]; split <;> omega)
  rw [← e2] at fin
  exact h a w ⟨_, fin⟩
end Go.Am
namespace Go.Am
theorem awp_ownCs {P : Program} {C : Ctx} {c : Code} {K : Exit → LS → Prop} {s : LS} (d sz off : Nat) {id z : Nat} {cs : List AV} (hd : lkp s.sl d = some (.ptr id z 0 0)) (hid : lkp s.hp id = some (.row z [cs])) (ho : cs[off]? = some (.p (.seq true [])))
    (h : Awp P C c K ⟨s.sl, (id, .row z [cs.set off (.own (8 * s.nx))]) :: del ((8 * s.nx, .row sz (lift [])) :: del s.hp (8 * s.nx)) id, s.nx + 1⟩) : Awp P C c K s := awp_ownC id z sz off hid ho h
end Go.Am
/-! a state's weakening that also gives names of the caller's new ones -/
namespace Go.Am
open Go.RowKit
theorem le_of2 {s s' : LS} (π : List (Nat × Nat)) (h1 : π.all (fun q => decide (nmPos q.1 ≤ s'.nx) && (q.2 % 8 != 7 || (lkp s'.hp q.2).isNone)) = true) (h2 : π.all (fun p => π.all fun q => p.2 != q.2 || p.1 == q.1) = true) (hsl : SlLE s.hp π s.sl s'.sl) (hhp : HpLE s.hp π s'.hp) : LE s s' := by
  intro C a w ⟨ρ, h⟩
  let ρ' : Nat → Option Value := fun j => (lkq π j).bind ρ
  have hinj : ∀ j1 j2 i, (lkp s'.hp j1).isSome = true → (lkp s'.hp j2).isSome = true → lkq π j1 = some i → lkq π j2 = some i → j1 = j2 := by
    intro j1 j2 i d1 d2 e1 e2
    unfold lkq at e1 e2
    have hne : ∀ j i, lkp π j = some i → i % 8 = 7 → lkp s'.hp i = none := by
      intro j i e h7
      have := List.all_eq_true.1 h1 _ (lkp_mem π j i e)
      simp [h7] at this; exact this.2
    split at e1
    · injection e1 with e1; subst e1
      split at e2
      · injection e2 with e2; exact e2.symm
      · have := hne _ _ e2 ‹_›
        rw [this] at d1; cases d1
    split at e2
    · injection e2 with e2; subst e2
      have := hne _ _ e1 ‹_›
      rw [this] at d2; cases d2
    have := List.all_eq_true.1 (List.all_eq_true.1 h2 _ (lkp_mem π j1 i e1)) _ (lkp_mem π j2 i e2)
    simpa using this
  have hdom : ∀ j b', lkp s'.hp j = some b' → ∃ i, lkq π j = some i ∧ ∃ b, lkp s.hp i = some b ∧ LeB s.hp π b b' := fun j b' hj => hhp.get (lkp_mem _ _ _ hj)
  have hO : ∀ x, Own C s'.ps ρ' x → Own C s.ps ρ x := by
    rintro x (ho | ⟨j, k, v, g1, g2, g3⟩)
    · exact .inl ho
    · obtain ⟨i, hi, b, hb, _⟩ := hdom j k g1
      simp only [ρ', hi, Option.bind_some] at g2
      exact .inr ⟨i, b, v, hb, g2, g3⟩
  have hm : Moves (Own C s.ps ρ) w (Own C s'.ps ρ') w := ⟨Nat.le_refl _, fun _ _ _ => rfl, fun x _ => hO x⟩
  have hA : ∀ {x y : AV}, LeA s.hp π x y → ∀ {v}, RepA (Own C s.ps ρ) ρ w x v → RepA (Own C s'.ps ρ') ρ' w y v := by
    intro x y hle
    induction hle with
    | p hp => intro v hv; exact .p _ _ (hp _ _ _ (hv.unP.mono hm))
    | own hπ =>
      intro v hv
      cases hv with
      | own _ ad n c hi => exact .own _ ad n c (by simp [ρ', hπ, hi])
    | ptr hπ =>
      intro v hv
      cases hv with
      | ptr _ _ _ _ b u hi hu => exact .ptr _ _ _ _ b u (by simp [ρ', hπ, hi]) hu
    | mp hπ =>
      intro v hv
      cases hv with
      | mp _ r hi => exact .mp _ r (by simp [ρ', hπ, hi])
    | @frz i sz es hi hno =>
      intro v hv
      obtain ⟨u, hu, hb⟩ := h.heap i _ hi
      cases hv with
      | own _ ad n c hi2 =>
        rw [hu] at hi2; injection hi2 with hi2; subst hi2
        rcases hb with ⟨hnil, a', ha'⟩ | ⟨b, cap, cur, e, g1, g0, g2, g3, g4, g5, g6, g7⟩
        · have : es = [] := by simpa [lift] using hnil
          subst this
          injection ha' with q1 q2 q3; subst q1 q2 q3
          exact .p _ _ (.nilseq _ _ _ (fun h => by cases h))
        · rcases g1 with g1 | ⟨g1, _⟩
          · injection g1 with q1 q2 q3; subst q1 q3
            rw [lift_length] at q2; subst q2
            have hok : BlkOk (Own C s.ps ρ) ρ w sz (lift es) c cur := ⟨g3, g4, g5, g6, g7⟩
            have hob : oblk (.slice (some ⟨b, 0, none⟩) es.length c) = some b := by simp [oblk]; omega
            have hno' : ¬ Own C s'.ps ρ' b := by
              rintro (ho | ⟨j, k, v, e1, e2, e3⟩)
              · exact (h.range i _ _ b hi hu hob).2.1 ho
              · obtain ⟨i', hi', b', hb', _⟩ := hdom j k e1
                simp only [ρ', hi', Option.bind_some] at e2
                have := h.inj i' i b' _ v _ b hb' hi e2 hu e3 hob
                subst this
                simp only [Bool.and_eq_true] at hno
                unfold lkq at hi'
                split at hi'
                · injection hi' with hi'; subst hi'
                  have := hno.2
                  simp at this; omega
                · have := List.all_eq_true.1 hno.1 _ (lkp_mem π j i' hi')
                  simp at this
            refine .p _ _ (.seq false es sz b 0 c (fun j => cur.getD j undef) (lift_len.1 g6) (by rw [lift_length] at g3; exact g3) (fun h => by cases h) (fun j hj => ?_) (fun j y hy => (blk_get hok hy).2.1.mono hm))
            have := blk_get hok (List.getElem?_eq_getElem hj)
            refine ⟨hno', ?_, this.2.2⟩
            rw [Nat.zero_add]; exact cell_row g2 this.1
          · cases g1
    | @agg cs ds hl _ ih =>
      intro v hv
      cases hv with
      | agg _ vs g1 g2 g3 =>
        refine .agg _ _ (g1.trans hl) (fun i y hy => ?_) (fun i hi => g3 i (by rw [hl]; exact hi))
        have hlt := (List.getElem?_eq_some_iff.1 hy).1
        have hx : cs[i]? = some (cs[i]'(by rw [hl]; exact hlt)) := by simp
        exact ih i _ y hx hy (g2 i _ hx)
    | @tup cs ds hl _ ih =>
      intro v hv
      cases hv with
      | tup _ vs g1 g2 =>
        refine .tup _ _ (g1.trans hl) (fun i y hy => ?_)
        have hlt := (List.getElem?_eq_some_iff.1 hy).1
        have hx : cs[i]? = some (cs[i]'(by rw [hl]; exact hlt)) := by simp
        exact ih i _ y hx hy (g2 i _ hx)
    | @fn f cs ds hl _ ih =>
      intro v hv
      cases hv with
      | fn _ _ vs g1 g2 =>
        refine .fn _ _ _ (g1.trans hl) (fun i y hy => ?_)
        have hlt := (List.getElem?_eq_some_iff.1 hy).1
        have hx : cs[i]? = some (cs[i]'(by rw [hl]; exact hlt)) := by simp
        exact ih i _ y hx hy (g2 i _ hx)
  refine ⟨ρ', h.defers, h.size, fun d y hy => ?_, fun j b' hj => ?_, fun i j k l v u b e1 e2 e3 e4 e5 e6 => ?_, fun j hj => ?_, fun j k v b e1 e2 e3 => ?_, h.oc, h.os, h.tape, h.output, h.grows, h.frame, fun j v hj => by simp only [ρ', lkq]; rw [if_pos (by omega)]; exact h.pins j v hj⟩
  · obtain ⟨x, hx, hle⟩ := hsl.get (lkp_mem _ _ _ hy)
    exact hA hle (h.slots d x hx)
  · obtain ⟨i, hi, b, hb, hle⟩ := hdom j b' hj
    obtain ⟨v, hv, hr⟩ := h.heap i b hb
    refine ⟨v, by simp [ρ', hi, hv], ?_⟩
    cases b with
    | map len m =>
      obtain ⟨b, es, clock, rfl, g1, g4⟩ := hr
      cases b' with
      | row => exact hle.elim
      | map len' m' =>
        obtain ⟨rfl, rfl⟩ := hle
        exact ⟨b, es, clock, rfl, g1, g4.mono hm⟩
      | mapS len' S' =>
        obtain ⟨rfl, hS⟩ := hle
        exact ⟨m, ⟨b, es, clock, rfl, g1, g4.mono hm⟩, hS⟩
    | mapS len S =>
      obtain ⟨m, ⟨b, es, clock, rfl, g1, g4⟩, g5⟩ := hr
      cases b' with
      | row => exact hle.elim
      | map => exact hle.elim
      | mapS len' S' =>
        obtain ⟨rfl, hS⟩ := hle
        exact ⟨m, ⟨b, es, clock, rfl, g1, g4.mono hm⟩, fun q x hq => hS q x (g5 q x hq)⟩
    | row sz es =>
      cases b' with
      | map => exact hle.elim
      | mapS => exact hle.elim
      | row sz' es' =>
        obtain ⟨rfl, hlen, hrow⟩ := hle
        have hrl : ∀ i (cs ds : List AV), es[i]? = some cs → es'[i]? = some ds → cs.length = ds.length := fun i cs ds g1 g2 => (hrow i cs ds g1 g2).1
        rcases hr with ⟨rfl, ad, rfl⟩ | ⟨b, cap, cur, e, g1, g0, g2, g3, g4, g5, g6, g7⟩
        · have : es' = [] := List.eq_nil_of_length_eq_zero (by simpa using hlen.symm)
          exact .inl ⟨this, ad, rfl⟩
        · have hall : ∀ x, x ∈ es' → x.length = sz := by
            intro x hx
            obtain ⟨i, hi, rfl⟩ := List.getElem_of_mem hx
            have h3 : es[i]? = some (es[i]'(by rw [hlen]; exact hi)) := by simp
            rw [← hrl i _ _ h3 (List.getElem?_eq_getElem hi)]
            exact g6 _ (List.mem_of_getElem? h3)
          refine .inr ⟨b, cap, cur, e, by rw [← hlen]; exact g1, g0, g2, by rw [← hlen]; exact g3, g4, g5, hall, fun q y hy => ?_⟩
          have hql := (List.getElem?_eq_some_iff.1 hy).1
          rw [flat_len sz _ hall] at hql
          have hsz0 : 0 < sz := Nat.pos_of_ne_zero (fun h => by rw [h] at hql; simp at hql)
          have hmod := Nat.mod_lt q hsz0
          have hdiv : q / sz < es'.length := Nat.div_lt_of_lt_mul (by rw [Nat.mul_comm]; exact hql)
          have hq2 : q = q / sz * sz + q % sz := by rw [Nat.mul_comm]; exact (Nat.div_add_mod q sz).symm
          have hd' : es'[q / sz]? = some es'[q / sz] := List.getElem?_eq_getElem hdiv
          have hc' : es[q / sz]? = some (es[q / sz]'(by rw [hlen]; exact hdiv)) := by simp
          have hy2 : es'[q / sz][q % sz]? = some y := by rw [← flat_get sz _ (q / sz) (q % sz) _ hall hd' hmod, ← hq2]; exact hy
          have hlc := hrl _ _ _ hc' hd'
          have hx2 : (es[q / sz]'(by rw [hlen]; exact hdiv))[q % sz]? = some ((es[q / sz]'(by rw [hlen]; exact hdiv))[q % sz]'(by rw [hlc]; exact (List.getElem?_eq_some_iff.1 hy2).1)) := by simp
          have hxf : es.flatten[q]? = some ((es[q / sz]'(by rw [hlen]; exact hdiv))[q % sz]'(by rw [hlc]; exact (List.getElem?_eq_some_iff.1 hy2).1)) := by
            conv => lhs; rw [hq2]
            rw [flat_get sz es (q / sz) (q % sz) _ g6 hc' hmod]; exact hx2
          exact ⟨hA ((hrow _ _ _ hc' hd').2 _ _ _ hx2 hy2) (g7 q _ hxf).1, (g7 q _ hxf).2⟩
  · obtain ⟨i1, q1, b1, r1, _⟩ := hdom i k e1
    obtain ⟨i2, q2, b2, r2, _⟩ := hdom j l e2
    simp only [ρ', q1, q2, Option.bind_some] at e3 e4
    have := h.inj i1 i2 b1 b2 v u b r1 r2 e3 e4 e5 e6
    subst this
    exact hinj i j i1 (by rw [show lkp s'.hp i = some k from e1]; rfl) (by rw [show lkp s'.hp j = some l from e2]; rfl) q1 q2
  · have h7 : ¬ j % 8 = 7 := fun e => hj (by simp [nmPos, e])
    have e : lkq π j = lkp π j := by unfold lkq; rw [if_neg h7]
    cases hl : lkp π j with
    | none => simp [ρ', e, hl]
    | some i =>
      have := List.all_eq_true.1 h1 _ (lkp_mem π j i hl)
      simp at this
      exact absurd this.1 hj
  · obtain ⟨i1, q1, b1, r1, _⟩ := hdom j k e1
    simp only [ρ', q1, Option.bind_some] at e2
    exact h.range i1 b1 v b r1 e2 e3
end Go.Am
/-! bundles of what is reckoned with -/
namespace Go.Am
theorem mtk {α β : Type} (f : α → β) (l : List α) (n : Nat) : (l.map f).take n = (l.take n).map f := (List.map_take ..).symm
theorem mdr {α β : Type} (f : α → β) (l : List α) (n : Nat) : (l.map f).drop n = (l.drop n).map f := (List.map_drop ..).symm
theorem map' {α β : Type} (f : α → β) (l m : List α) : l.map f ++ m.map f = (l ++ m).map f := (List.map_append ..).symm
theorem sm : type_of% (And.intro (And.intro (And.intro @argA_nil @argA_cons) (And.intro @mtk @mdr)) (And.intro @map' (And.intro @am (And.intro @aml (And.intro @lo (And.intro (@List.isEmpty_cons.{0}) (@List.isEmpty_nil.{0}))))))) := And.intro (And.intro (And.intro @argA_nil @argA_cons) (And.intro @mtk @mdr)) (And.intro @map' (And.intro @am (And.intro @aml (And.intro @lo (And.intro (@List.isEmpty_cons.{0}) (@List.isEmpty_nil.{0}))))))
theorem hbx : type_of% (And.intro (And.intro (And.intro (And.intro @decide_eq_true_eq @decide_eq_false_iff_not) (And.intro @Int.not_lt @Int.not_le)) (And.intro (And.intro @beq_iff_eq.{0} @bne_iff_ne.{0}) (And.intro @ne_eq.{1} @beq_eq_false_iff_ne.{0}))) (And.intro (And.intro (And.intro @bne_eq_false_iff_eq.{0} @Bool.not_eq_true) (And.intro @Bool.not_eq_false @Bool.not_true)) (And.intro (And.intro @Bool.not_false @Bool.not_eq_false') (And.intro @Bool.not_eq_true' @Decidable.not_not)))) :=
  And.intro (And.intro (And.intro (And.intro @decide_eq_true_eq @decide_eq_false_iff_not) (And.intro @Int.not_lt @Int.not_le)) (And.intro (And.intro @beq_iff_eq.{0} @bne_iff_ne.{0}) (And.intro @ne_eq.{1} @beq_eq_false_iff_ne.{0}))) (And.intro (And.intro (And.intro @bne_eq_false_iff_eq.{0} @Bool.not_eq_true) (And.intro @Bool.not_eq_false @Bool.not_true)) (And.intro (And.intro @Bool.not_false @Bool.not_eq_false') (And.intro @Bool.not_eq_true' @Decidable.not_not)))
theorem kp : type_of% (And.intro (And.intro (And.intro @keepL_nil @keepL_cons) (And.intro @keepM_some @keepM_none)) (And.intro (And.intro @lkp_cons @lkp_nil) (And.intro @Nat.zero_add (And.intro @argA_nil @argA_cons)))) := And.intro (And.intro (And.intro @keepL_nil @keepL_cons) (And.intro @keepM_some @keepM_none)) (And.intro (And.intro @lkp_cons @lkp_nil) (And.intro @Nat.zero_add (And.intro @argA_nil @argA_cons)))
theorem hmx : type_of% (And.intro (And.intro (And.intro @a24 @a26) (And.intro @lkp_cons @lkp_nil)) (And.intro (And.intro (@List.filter_nil.{0}) (@List.map_nil.{0, 0})) (And.intro (And.intro (@List.map_cons.{0, 0}) (@Option.map_some.{0, 0})) (And.intro (@Option.map_none.{0, 0}) @hm)))) := And.intro (And.intro (And.intro @a24 @a26) (And.intro @lkp_cons @lkp_nil)) (And.intro (And.intro (@List.filter_nil.{0}) (@List.map_nil.{0, 0})) (And.intro (And.intro (@List.map_cons.{0, 0}) (@Option.map_some.{0, 0})) (And.intro (@Option.map_none.{0, 0}) @hm)))
end Go.Am
namespace Go.Am
theorem reth3 {P : Program} {s : LS} {fn : Func} {hp' : List (Nat × Blk)} {t u x : Nat} {r0 q0 z0 r : AV} (hf : fn.results = #[.tmp t, .tmp u, .tmp x]) (h : lkp s.sl t = some r0) (h2 : lkp s.sl u = some q0) (h3 : lkp s.sl x = some z0) (hle : LE ⟨[(0, .tup [r0, q0, z0])], s.hp, s.nx⟩ ⟨[(0, r)], hp', 1⟩) : retH P fn r hp' .ret s := by
  refine ⟨_, ?_, hle⟩
  rw [hf]; exact ⟨_, rfl, h, h2, h3, trivial⟩
theorem leTup {hp : List (Nat × Blk)} {π : List (Nat × Nat)} {cs ds : List AV} (h : LeRow hp π cs ds) : LeA hp π (.tup cs) (.tup ds) := .tup h.1 h.2
end Go.Am
