/-
  DedupOnce, part 4 of 6: what the proof that the law holds at whatever arguments stands on; the last part holds the theorem. No condition.
-/
import Derived.Test.YtbehekmnccoifaaDedupOnceZ3
import Derived.Test.YtbehekmnccoifaaRows
section
set_option linter.unusedSimpArgs false
set_option linter.unusedVariables false
namespace Go.Am
open Go.RowKit
theorem awp_ownC {P : Program} {C : Ctx} {c : Code} {K : Exit → LS → Prop} {s : LS} (id z sz off : Nat) {cs : List AV} (hid : lkp s.hp id = some (.row z [cs])) (ho : cs[off]? = some (.p (.seq true [])))
    (h : Awp P C c K ⟨s.sl, (id, .row z [cs.set off (.own (8 * s.nx))]) :: del ((8 * s.nx, .row sz []) :: del s.hp (8 * s.nx)) id, s.nx + 1⟩) : Awp P C c K s := by
  intro a w ⟨ρ, hs⟩
  have hU : ¬ nmPos (8 * s.nx) ≤ s.nx := by simp only [nmPos]; split <;> omega
  have hid' : s.ps.hp id = some (.row z [cs]) := hid
  obtain ⟨u, hu, hb⟩ := hs.heap id _ hid'
  have hne : id ≠ 8 * s.nx := fun e => by
    have := hs.used (8 * s.nx) hU
    rw [← e, hu] at this; cases this
  have hcell : ∃ j : Value, RepP (Own C s.ps ρ) w (.seq true []) j ∧ (∀ b cap cur e, u = .slice (some ⟨b, 0, none⟩) 1 cap ∨ u = .pointer (some ⟨b, 0, none⟩) → w.heap[b]? = some (.cells cur e (0, 0)) → cur.getD off undef = j) := by
    rcases hb with ⟨hnil, _⟩ | ⟨b, cap, cur, e, h1, h0, h2, h3, h4, h5, h6, h7⟩
    · cases hnil
    · have h8 := h7 off (.p (.seq true [])) (by simpa using ho)
      refine ⟨cur.getD off undef, h8.1.unP, fun b' cap' cur' e' q1 q2 => ?_⟩
      have : b' = b := by
        rcases h1 with rfl | ⟨rfl, _⟩ <;> rcases q1 with q | q
        · injection q with q; injection q with q; injection q with q; exact q.symm
        · cases q
        · cases q
        · injection q with q; injection q with q; injection q with q; exact q.symm
      subst this
      rw [h2] at q2; injection q2 with q2; injection q2 with q2; rw [q2]
  obtain ⟨jv, hj, hjc⟩ := hcell
  obtain ⟨ad, cap, he, hcap, hcl⟩ := seq_shape hj
  have hc : cap = 0 := by simpa using hcl rfl
  subst hc
  have hnil := hs.newNil (f := 8 * s.nx) hU sz ad
  generalize hρ' : (fun i => if i = 8 * s.nx then some (Value.slice ad 0 0) else ρ i) = ρ' at hnil
  have hρn : ρ' (8 * s.nx) = some (.slice ad 0 0) := by rw [← hρ']; simp
  have hS1 : PS.setHp s.ps.hp [(8 * s.nx, some (.row sz []))] id = some (.row z [cs]) := by
    simp only [PS.setHp, hne, if_false]; exact hid'
  let hp2 : Nat → Option Blk := fun i => if i = id then some (.row z [cs.set off (.own (8 * s.nx))]) else PS.setHp s.ps.hp [(8 * s.nx, some (.row sz []))] i
  have up : ∀ i k, hp2 i = some k → ∃ k', PS.setHp s.ps.hp [(8 * s.nx, some (.row sz []))] i = some k' := fun i k hk => by
    by_cases e : i = id
    · subst e; exact ⟨_, hS1⟩
    · simp only [hp2, e, if_false] at hk; exact ⟨k, hk⟩
  have hm : Moves (Own C ⟨s.ps.sl, PS.setHp s.ps.hp [(8 * s.nx, some (.row sz []))]⟩ ρ') w (Own C ⟨s.ps.sl, hp2⟩ ρ') w := ⟨Nat.le_refl _, fun _ _ _ => rfl, fun b _ hb => by
    rcases hb with hb | ⟨i, k, v, q1, q2, q3⟩
    · exact .inl hb
    · obtain ⟨k', hk'⟩ := up i k q1
      exact .inr ⟨i, k', v, hk', q2, q3⟩⟩
  have key : SatR C (fun i => nmPos i ≤ s.nx ∨ i = 8 * s.nx) ⟨s.ps.sl, hp2⟩ ρ' a w := by
    refine { hnil with slots := fun e x hx => (hnil.slots e x hx).mono hm (fun _ _ h => h), heap := fun i k hk => ?_, inj := fun i j k l v u' b q1 q2 q3 q4 q5 q6 => ?_, range := fun i k v b q1 q2 q3 => ?_ }
    · by_cases e : i = id
      · subst e
        simp only [hp2, if_true, Option.some.injEq] at hk
        subst hk
        obtain ⟨u2, hu2, hb2⟩ := hnil.heap i _ hS1
        refine ⟨u2, hu2, ?_⟩
        have hu3 : u2 = u := by
          rw [← hρ'] at hu2; simp only [hne, if_false] at hu2; rw [hu] at hu2; injection hu2 with hu2; exact hu2.symm
        subst hu3
        rcases hb2 with ⟨q, _⟩ | ⟨b, cap, cur, e, h1, h0, h2, h3, h4, h5, h6, h7⟩
        · cases q
        · refine .inr ⟨b, cap, cur, e, by simpa using h1, h0, h2, by simpa using h3, h4, h5, fun x hx => ?_, fun j x hx => ?_⟩
          · simp only [List.mem_singleton] at hx; subst hx
            rw [List.length_set]; exact h6 cs (by simp)
          · have hfl : ([cs.set off (.own (8 * s.nx))] : List (List AV)).flatten = cs.set off (.own (8 * s.nx)) := by simp
            rw [hfl, List.getElem?_set] at hx
            by_cases eo : off = j
            · subst eo
              rw [if_pos rfl] at hx
              split at hx
              · simp only [Option.some.injEq] at hx; subst hx
                have hg : cur.getD off undef = .slice ad 0 0 := by
                  rw [hjc b cap cur e (by rcases h1 with h1 | ⟨h1, _⟩; exact .inl (by simpa using h1); exact .inr h1) h2, he]; rfl
                rw [hg]
                exact ⟨.own _ _ _ _ hρn, rfl⟩
              · cases hx
            · rw [if_neg eo] at hx
              have := h7 j x (by simpa using hx)
              exact ⟨this.1.mono hm (fun _ _ h => h), this.2⟩
      · simp only [hp2, e, if_false] at hk
        obtain ⟨v, hv, hb⟩ := hnil.heap i k hk
        exact ⟨v, hv, hb.mono hm (fun _ _ h => h) (fun _ _ => rfl)⟩
    · obtain ⟨k', hk'⟩ := up i k q1
      obtain ⟨l', hl'⟩ := up j l q2
      exact hnil.inj i j k' l' v u' b hk' hl' q3 q4 q5 q6
    · obtain ⟨k', hk'⟩ := up i k q1
      exact hnil.range i k' v b hk' q2 q3
  have e2 : (⟨s.sl, (id, .row z [cs.set off (.own (8 * s.nx))]) :: del ((8 * s.nx, .row sz []) :: del s.hp (8 * s.nx)) id, s.nx + 1⟩ : LS).ps = ⟨s.ps.sl, hp2⟩ := by
    simp only [LS.ps, PS.mk.injEq, true_and, hp2]
    funext i
    by_cases e : i = id
    · subst e; simp [lkp]
    · simp only [lkp, lkp_del, PS.setHp, e, if_false]
      by_cases e3 : i = 8 * s.nx
      · subst e3; simp [lkp]
      · simp [lkp, lkp_del, e3]
  have fin := key.widen (U' := fun i => nmPos i ≤ s.nx + 1) (fun i hi => by
    rcases hi with hi | rfl
    · omega
    · simp only [nmPos]; split <;> omega)
  rw [← e2] at fin
  exact h a w ⟨_, fin⟩
end Go.Am
namespace Go.Am
theorem awp_ownCs {P : Program} {C : Ctx} {c : Code} {K : Exit → LS → Prop} {s : LS} (d sz off : Nat) {id z : Nat} {cs : List AV} (hd : lkp s.sl d = some (.ptr id z 0 0)) (hid : lkp s.hp id = some (.row z [cs])) (ho : cs[off]? = some (.p (.seq true [])))
    (h : Awp P C c K ⟨s.sl, (id, .row z [cs.set off (.own (8 * s.nx))]) :: del ((8 * s.nx, .row sz (lift [])) :: del s.hp (8 * s.nx)) id, s.nx + 1⟩) : Awp P C c K s := awp_ownC id z sz off hid ho h
end Go.Am
namespace Go.Am
open Go.RowKit
theorem le_of2 {s s' : LS} (π : List (Nat × Nat)) (h1 : π.all (fun q => decide (nmPos q.1 ≤ s'.nx) && (q.2 % 8 != 7 || (lkp s'.hp q.2).isNone)) = true) (h2 : π.all (fun p => π.all fun q => p.2 != q.2 || p.1 == q.1) = true) (hsl : SlLE s.hp π s.sl s'.sl) (hhp : HpLE s.hp π s'.hp) : LE s s' := by
  intro C a w ⟨ρ, h⟩
  let ρ' : Nat → Option Value := fun j => (lkq π j).bind ρ
  have hinj : ∀ j1 j2 i, (lkp s'.hp j1).isSome = true → (lkp s'.hp j2).isSome = true → lkq π j1 = some i → lkq π j2 = some i → j1 = j2 := by
    intro j1 j2 i d1 d2 e1 e2
    unfold lkq at e1 e2
    have hne : ∀ j i, lkp π j = some i → i % 8 = 7 → lkp s'.hp i = none := by
      intro j i e h7
      have := List.all_eq_true.1 h1 _ (lkp_mem π j i e)
      simp [h7] at this; exact this.2
    split at e1
    · injection e1 with e1; subst e1
      split at e2
      · injection e2 with e2; exact e2.symm
      · have := hne _ _ e2 ‹_›
        rw [this] at d1; cases d1
    split at e2
    · injection e2 with e2; subst e2
      have := hne _ _ e1 ‹_›
      rw [this] at d2; cases d2
    have := List.all_eq_true.1 (List.all_eq_true.1 h2 _ (lkp_mem π j1 i e1)) _ (lkp_mem π j2 i e2)
    simpa using this
  have hdom : ∀ j b', lkp s'.hp j = some b' → ∃ i, lkq π j = some i ∧ ∃ b, lkp s.hp i = some b ∧ LeB s.hp π b b' := fun j b' hj => hhp.get (lkp_mem _ _ _ hj)
  have hO : ∀ x, Own C s'.ps ρ' x → Own C s.ps ρ x := by
    rintro x (ho | ⟨j, k, v, g1, g2, g3⟩)
    · exact .inl ho
    · obtain ⟨i, hi, b, hb, _⟩ := hdom j k g1
      simp only [ρ', hi, Option.bind_some] at g2
      exact .inr ⟨i, b, v, hb, g2, g3⟩
  have hm : Moves (Own C s.ps ρ) w (Own C s'.ps ρ') w := ⟨Nat.le_refl _, fun _ _ _ => rfl, fun x _ => hO x⟩
  have hA : ∀ {x y : AV}, LeA s.hp π x y → ∀ {v}, RepA (Own C s.ps ρ) ρ w x v → RepA (Own C s'.ps ρ') ρ' w y v := by
    intro x y hle
    induction hle with
    | p hp => intro v hv; exact .p _ _ (hp _ _ _ (hv.unP.mono hm))
    | own hπ =>
      intro v hv
      cases hv with
      | own _ ad n c hi => exact .own _ ad n c (by simp [ρ', hπ, hi])
    | ptr hπ =>
      intro v hv
      cases hv with
      | ptr _ _ _ _ b u hi hu => exact .ptr _ _ _ _ b u (by simp [ρ', hπ, hi]) hu
    | mp hπ =>
      intro v hv
      cases hv with
      | mp _ r hi => exact .mp _ r (by simp [ρ', hπ, hi])
    | @frz i sz es hi hno =>
      intro v hv
      obtain ⟨u, hu, hb⟩ := h.heap i _ hi
      cases hv with
      | own _ ad n c hi2 =>
        rw [hu] at hi2; injection hi2 with hi2; subst hi2
        rcases hb with ⟨hnil, a', ha'⟩ | ⟨b, cap, cur, e, g1, g0, g2, g3, g4, g5, g6, g7⟩
        · have : es = [] := by simpa [lift] using hnil
          subst this
          injection ha' with q1 q2 q3; subst q1 q2 q3
          exact .p _ _ (.nilseq _ _ _ (fun h => by cases h))
        · rcases g1 with g1 | ⟨g1, _⟩
          · injection g1 with q1 q2 q3; subst q1 q3
            rw [lift_length] at q2; subst q2
            have hok : BlkOk (Own C s.ps ρ) ρ w sz (lift es) c cur := ⟨g3, g4, g5, g6, g7⟩
            have hob : oblk (.slice (some ⟨b, 0, none⟩) es.length c) = some b := by simp [oblk]; omega
            have hno' : ¬ Own C s'.ps ρ' b := by
              rintro (ho | ⟨j, k, v, e1, e2, e3⟩)
              · exact (h.range i _ _ b hi hu hob).2.1 ho
              · obtain ⟨i', hi', b', hb', _⟩ := hdom j k e1
                simp only [ρ', hi', Option.bind_some] at e2
                have := h.inj i' i b' _ v _ b hb' hi e2 hu e3 hob
                subst this
                simp only [Bool.and_eq_true] at hno
                unfold lkq at hi'
                split at hi'
                · injection hi' with hi'; subst hi'
                  have := hno.2
                  simp at this; omega
                · have := List.all_eq_true.1 hno.1 _ (lkp_mem π j i' hi')
                  simp at this
            refine .p _ _ (.seq false es sz b 0 c (fun j => cur.getD j undef) (lift_len.1 g6) (by rw [lift_length] at g3; exact g3) (fun h => by cases h) (fun j hj => ?_) (fun j y hy => (blk_get hok hy).2.1.mono hm))
            have := blk_get hok (List.getElem?_eq_getElem hj)
            refine ⟨hno', ?_, this.2.2⟩
            rw [Nat.zero_add]; exact cell_row g2 this.1
          · cases g1
    | @agg cs ds hl _ ih =>
      intro v hv
      cases hv with
      | agg _ vs g1 g2 g3 =>
        refine .agg _ _ (g1.trans hl) (fun i y hy => ?_) (fun i hi => g3 i (by rw [hl]; exact hi))
        have hlt := (List.getElem?_eq_some_iff.1 hy).1
        have hx : cs[i]? = some (cs[i]'(by rw [hl]; exact hlt)) := by simp
        exact ih i _ y hx hy (g2 i _ hx)
    | @tup cs ds hl _ ih =>
      intro v hv
      cases hv with
      | tup _ vs g1 g2 =>
        refine .tup _ _ (g1.trans hl) (fun i y hy => ?_)
        have hlt := (List.getElem?_eq_some_iff.1 hy).1
        have hx : cs[i]? = some (cs[i]'(by rw [hl]; exact hlt)) := by simp
        exact ih i _ y hx hy (g2 i _ hx)
    | @fn f cs ds hl _ ih =>
      intro v hv
      cases hv with
      | fn _ _ vs g1 g2 =>
        refine .fn _ _ _ (g1.trans hl) (fun i y hy => ?_)
        have hlt := (List.getElem?_eq_some_iff.1 hy).1
        have hx : cs[i]? = some (cs[i]'(by rw [hl]; exact hlt)) := by simp
        exact ih i _ y hx hy (g2 i _ hx)
  refine ⟨ρ', h.defers, h.size, fun d y hy => ?_, fun j b' hj => ?_, fun i j k l v u b e1 e2 e3 e4 e5 e6 => ?_, fun j hj => ?_, fun j k v b e1 e2 e3 => ?_, h.oc, h.os, h.tape, h.output, h.grows, h.frame, fun j v hj => by simp only [ρ', lkq]; rw [if_pos (by omega)]; exact h.pins j v hj⟩
  · obtain ⟨x, hx, hle⟩ := hsl.get (lkp_mem _ _ _ hy)
    exact hA hle (h.slots d x hx)
  · obtain ⟨i, hi, b, hb, hle⟩ := hdom j b' hj
    obtain ⟨v, hv, hr⟩ := h.heap i b hb
    refine ⟨v, by simp [ρ', hi, hv], ?_⟩
    cases b with
    | map len m =>
      obtain ⟨b, es, clock, rfl, g1, g4⟩ := hr
      cases b' with
      | row => exact hle.elim
      | map len' m' =>
        obtain ⟨rfl, rfl⟩ := hle
        exact ⟨b, es, clock, rfl, g1, g4.mono hm⟩
      | mapS len' S' =>
        obtain ⟨rfl, hS⟩ := hle
        exact ⟨m, ⟨b, es, clock, rfl, g1, g4.mono hm⟩, hS⟩
    | mapS len S =>
      obtain ⟨m, ⟨b, es, clock, rfl, g1, g4⟩, g5⟩ := hr
      cases b' with
      | row => exact hle.elim
      | map => exact hle.elim
      | mapS len' S' =>
        obtain ⟨rfl, hS⟩ := hle
        exact ⟨m, ⟨b, es, clock, rfl, g1, g4.mono hm⟩, fun q x hq => hS q x (g5 q x hq)⟩
    | row sz es =>
      cases b' with
      | map => exact hle.elim
      | mapS => exact hle.elim
      | row sz' es' =>
        obtain ⟨rfl, hlen, hrow⟩ := hle
        have hrl : ∀ i (cs ds : List AV), es[i]? = some cs → es'[i]? = some ds → cs.length = ds.length := fun i cs ds g1 g2 => (hrow i cs ds g1 g2).1
        rcases hr with ⟨rfl, ad, rfl⟩ | ⟨b, cap, cur, e, g1, g0, g2, g3, g4, g5, g6, g7⟩
        · have : es' = [] := List.eq_nil_of_length_eq_zero (by simpa using hlen.symm)
          exact .inl ⟨this, ad, rfl⟩
        · have hall : ∀ x, x ∈ es' → x.length = sz := by
            intro x hx
            obtain ⟨i, hi, rfl⟩ := List.getElem_of_mem hx
            have h3 : es[i]? = some (es[i]'(by rw [hlen]; exact hi)) := by simp
            rw [← hrl i _ _ h3 (List.getElem?_eq_getElem hi)]
            exact g6 _ (List.mem_of_getElem? h3)
          refine .inr ⟨b, cap, cur, e, by rw [← hlen]; exact g1, g0, g2, by rw [← hlen]; exact g3, g4, g5, hall, fun q y hy => ?_⟩
          have hql := (List.getElem?_eq_some_iff.1 hy).1
          rw [flat_len sz _ hall] at hql
          have hsz0 : 0 < sz := Nat.pos_of_ne_zero (fun h => by rw [h] at hql; simp at hql)
          have hmod := Nat.mod_lt q hsz0
          have hdiv : q / sz < es'.length := Nat.div_lt_of_lt_mul (by rw [Nat.mul_comm]; exact hql)
          have hq2 : q = q / sz * sz + q % sz := by rw [Nat.mul_comm]; exact (Nat.div_add_mod q sz).symm
          have hd' : es'[q / sz]? = some es'[q / sz] := List.getElem?_eq_getElem hdiv
          have hc' : es[q / sz]? = some (es[q / sz]'(by rw [hlen]; exact hdiv)) := by simp
          have hy2 : es'[q / sz][q % sz]? = some y := by rw [← flat_get sz _ (q / sz) (q % sz) _ hall hd' hmod, ← hq2]; exact hy
          have hlc := hrl _ _ _ hc' hd'
          have hx2 : (es[q / sz]'(by rw [hlen]; exact hdiv))[q % sz]? = some ((es[q / sz]'(by rw [hlen]; exact hdiv))[q % sz]'(by rw [hlc]; exact (List.getElem?_eq_some_iff.1 hy2).1)) := by simp
          have hxf : es.flatten[q]? = some ((es[q / sz]'(by rw [hlen]; exact hdiv))[q % sz]'(by rw [hlc]; exact (List.getElem?_eq_some_iff.1 hy2).1)) := by
            conv => lhs; rw [hq2]
            rw [flat_get sz es (q / sz) (q % sz) _ g6 hc' hmod]; exact hx2
          exact ⟨hA ((hrow _ _ _ hc' hd').2 _ _ _ hx2 hy2) (g7 q _ hxf).1, (g7 q _ hxf).2⟩
  · obtain ⟨i1, q1, b1, r1, _⟩ := hdom i k e1
    obtain ⟨i2, q2, b2, r2, _⟩ := hdom j l e2
    simp only [ρ', q1, q2, Option.bind_some] at e3 e4
    have := h.inj i1 i2 b1 b2 v u b r1 r2 e3 e4 e5 e6
    subst this
    exact hinj i j i1 (by rw [show lkp s'.hp i = some k from e1]; rfl) (by rw [show lkp s'.hp j = some l from e2]; rfl) q1 q2
  · have h7 : ¬ j % 8 = 7 := fun e => hj (by simp [nmPos, e])
    have e : lkq π j = lkp π j := by unfold lkq; rw [if_neg h7]
    cases hl : lkp π j with
    | none => simp [ρ', e, hl]
    | some i =>
      have := List.all_eq_true.1 h1 _ (lkp_mem π j i hl)
      simp at this
      exact absurd this.1 hj
  · obtain ⟨i1, q1, b1, r1, _⟩ := hdom j k e1
    simp only [ρ', q1, Option.bind_some] at e2
    exact h.range i1 b1 v b r1 e2 e3
end Go.Am
namespace Go.Am
theorem mtk {α β : Type} (f : α → β) (l : List α) (n : Nat) : (l.map f).take n = (l.take n).map f := (List.map_take ..).symm
theorem mdr {α β : Type} (f : α → β) (l : List α) (n : Nat) : (l.map f).drop n = (l.drop n).map f := (List.map_drop ..).symm
theorem map' {α β : Type} (f : α → β) (l m : List α) : l.map f ++ m.map f = (l ++ m).map f := (List.map_append ..).symm
theorem sm : type_of% (And.intro (And.intro (And.intro @argA_nil @argA_cons) (And.intro @mtk @mdr)) (And.intro @map' (And.intro @am (And.intro @aml (And.intro @lo (And.intro (@List.isEmpty_cons.{0}) (@List.isEmpty_nil.{0}))))))) := And.intro (And.intro (And.intro @argA_nil @argA_cons) (And.intro @mtk @mdr)) (And.intro @map' (And.intro @am (And.intro @aml (And.intro @lo (And.intro (@List.isEmpty_cons.{0}) (@List.isEmpty_nil.{0}))))))
theorem hbx : type_of% (And.intro (And.intro (And.intro (And.intro @decide_eq_true_eq @decide_eq_false_iff_not) (And.intro @Int.not_lt @Int.not_le)) (And.intro (And.intro @beq_iff_eq.{0} @bne_iff_ne.{0}) (And.intro @ne_eq.{1} @beq_eq_false_iff_ne.{0}))) (And.intro (And.intro (And.intro @bne_eq_false_iff_eq.{0} @Bool.not_eq_true) (And.intro @Bool.not_eq_false @Bool.not_true)) (And.intro (And.intro @Bool.not_false @Bool.not_eq_false') (And.intro @Bool.not_eq_true' @Decidable.not_not)))) :=
  And.intro (And.intro (And.intro (And.intro @decide_eq_true_eq @decide_eq_false_iff_not) (And.intro @Int.not_lt @Int.not_le)) (And.intro (And.intro @beq_iff_eq.{0} @bne_iff_ne.{0}) (And.intro @ne_eq.{1} @beq_eq_false_iff_ne.{0}))) (And.intro (And.intro (And.intro @bne_eq_false_iff_eq.{0} @Bool.not_eq_true) (And.intro @Bool.not_eq_false @Bool.not_true)) (And.intro (And.intro @Bool.not_false @Bool.not_eq_false') (And.intro @Bool.not_eq_true' @Decidable.not_not)))
theorem kp : type_of% (And.intro (And.intro (And.intro @keepL_nil @keepL_cons) (And.intro @keepM_some @keepM_none)) (And.intro (And.intro @lkp_cons @lkp_nil) (And.intro @Nat.zero_add (And.intro @argA_nil @argA_cons)))) := And.intro (And.intro (And.intro @keepL_nil @keepL_cons) (And.intro @keepM_some @keepM_none)) (And.intro (And.intro @lkp_cons @lkp_nil) (And.intro @Nat.zero_add (And.intro @argA_nil @argA_cons)))
theorem hmx : type_of% (And.intro (And.intro (And.intro @a24 @a26) (And.intro @lkp_cons @lkp_nil)) (And.intro (And.intro (@List.filter_nil.{0}) (@List.map_nil.{0, 0})) (And.intro (And.intro (@List.map_cons.{0, 0}) (@Option.map_some.{0, 0})) (And.intro (@Option.map_none.{0, 0}) @hm)))) := And.intro (And.intro (And.intro @a24 @a26) (And.intro @lkp_cons @lkp_nil)) (And.intro (And.intro (@List.filter_nil.{0}) (@List.map_nil.{0, 0})) (And.intro (And.intro (@List.map_cons.{0, 0}) (@Option.map_some.{0, 0})) (And.intro (@Option.map_none.{0, 0}) @hm)))
end Go.Am
namespace Go.Am
theorem leTup {hp : List (Nat × Blk)} {π : List (Nat × Nat)} {cs ds : List AV} (h : LeRow hp π cs ds) : LeA hp π (.tup cs) (.tup ds) := .tup h.1 h.2
end Go.Am
namespace Go.Am
theorem an {a b : Prop} (h : b) (ha : a := by first | omega | (simp; done) | (unfold maxLen; omega) | (simp [maxLen]; omega) | assumption) : a ∧ b := ⟨ha, h⟩
theorem LeA.oe {hp : List (Nat × Blk)} {π : List (Nat × Nat)} {x y : PV} (h : x = y := by first | rfl | (simp only [PV.lit.injEq, Value.int.injEq, true_and]; omega) | (simp; done) | (simp; omega)) : LeA hp π (.p x) (.p y) := .p (.of_eq h)
end Go.Am
end
section
set_option linter.unusedVariables false
namespace Go.Proofs.Ytbehekmnccoifaa
open Go.Am Go.Proofs
@[reducible] def u32V (n : Int) : PV := .lit (.int .u32 n)
@[reducible] def words (c : Bool) (l : List Int) : PV := .seq c (l.map fun x => [u32V x])
@[reducible] def picksV (c : Bool) (l : List (Int × Int)) : PV := .seq c (l.map fun q => [iV q.1, iV q.2])
@[reducible] def planC (c : Bool) (p : Pl.Plan) : List PV := [iV p.grain, iV p.workers, picksV c p.picks]
@[reducible] def wayC (c : Bool) (w : Pl.Way) : List PV := [iV w.bits, iV w.block, iV w.plan.grain, iV w.plan.workers, picksV c w.plan.picks]
@[reducible] def edgeC (e : Pl.Edge) : List PV := [iV e.u, iV e.v]
@[reducible] def askC (a : Pl.Ask) : List PV := [iV a.kind, iV a.u, iV a.v]
@[reducible] def batchC (c d : Bool) (x : Pl.Batch) : List PV := [iV x.kind, .seq c (x.edges.map edgeC), .seq d (x.asks.map askC)]
theorem wr_u16 (n : Int) : IntKind.u16.wrap n = n % 65536 := by simp [IntKind.wrap, IntKind.bits, IntKind.signed]
theorem wr_u32 (n : Int) : IntKind.u32.wrap n = n % 4294967296 := by simp [IntKind.wrap, IntKind.bits, IntKind.signed]
theorem wr_u64 (n : Int) : IntKind.u64.wrap n = n % 18446744073709551616 := by simp [IntKind.wrap, IntKind.bits, IntKind.signed]
theorem dx1 (t : Pl.Task) : taskC t = [iV t.low, iV t.high, iV t.up, iV t.wait] := rfl
theorem dx2 (l : List Int) : lV l = [.seq false (l.map fun n => [iV n])] := rfl
theorem dx3 (e : Pl.Event) : evC e = [iV e.worker, iV e.src, iV e.task, bV e.parted] := rfl
theorem dx4 (c : Bool) (p : Pl.Plan) : planC c p = [iV p.grain, iV p.workers, picksV c p.picks] := rfl
theorem dx5 (c : Bool) (l : List (Int × Int)) : picksV c l = .seq c (l.map fun q => [iV q.1, iV q.2]) := rfl
theorem dx6 (c : Bool) (w : Pl.Way) : wayC c w = [iV w.bits, iV w.block, iV w.plan.grain, iV w.plan.workers, picksV c w.plan.picks] := rfl
theorem dx7 (e : Pl.Edge) : edgeC e = [iV e.u, iV e.v] := rfl
theorem dx8 (a : Pl.Ask) : askC a = [iV a.kind, iV a.u, iV a.v] := rfl
theorem dx9 (c d : Bool) (x : Pl.Batch) : batchC c d x = [iV x.kind, .seq c (x.edges.map edgeC), .seq d (x.asks.map askC)] := rfl
theorem dx : type_of% (And.intro (And.intro (And.intro @dx1 @dx2) (And.intro @dx3 @dx4)) (And.intro (And.intro @dx5 @dx6) (And.intro @dx7 (And.intro @dx8 @dx9)))) := And.intro (And.intro (And.intro @dx1 @dx2) (And.intro @dx3 @dx4)) (And.intro (And.intro @dx5 @dx6) (And.intro @dx7 (And.intro @dx8 @dx9)))
end Go.Proofs.Ytbehekmnccoifaa
end
section
set_option linter.unusedSimpArgs false
set_option linter.unusedVariables false
set_option maxRecDepth 100000
namespace Go.Proofs.Ytbehekmnccoifaa
open Go.Am Go.Proofs
theorem bt118 : tBuilt Try.prog 118 = true := by kernel_rfl
theorem bt88 : tBuilt Try.prog 88 = true := by kernel_rfl
theorem bt91 : tBuilt Try.prog 91 = true := by kernel_rfl
theorem by3 : tBytes Try.prog 3 = some 8 := by kernel_rfl
theorem by33 : tBytes Try.prog 33 = some 24 := by kernel_rfl
theorem by4 : tBytes Try.prog 4 = some 1 := by kernel_rfl
theorem el23 : tEl Try.prog 23 = some 4 := by kernel_rfl
theorem el33 : tEl Try.prog 33 = some 3 := by kernel_rfl
theorem el86 : tEl Try.prog 86 = some 118 := by kernel_rfl
theorem el89 : tEl Try.prog 89 = some 33 := by kernel_rfl
theorem en93 : enters Try.prog 93 = true := by kernel_rfl
theorem en99 : enters Try.prog 99 = true := by kernel_rfl
theorem fl91_1 : tFld Try.prog 91 1 = some (3, 1, false) := by kernel_rfl
theorem pl118_1 : tPlace Try.prog 118 1 = some (1, 1) := by kernel_rfl
theorem pl118_2 : tPlace Try.prog 118 2 = some (2, 1) := by kernel_rfl
theorem pl88_0 : tPlace Try.prog 88 0 = some (0, 1) := by kernel_rfl
theorem pl88_1 : tPlace Try.prog 88 1 = some (1, 1) := by kernel_rfl
theorem pl88_2 : tPlace Try.prog 88 2 = some (2, 1) := by kernel_rfl
theorem pl91_0 : tPlace Try.prog 91 0 = some (0, 3) := by kernel_rfl
theorem pl91_1 : tPlace Try.prog 91 1 = some (3, 1) := by kernel_rfl
theorem sz33 : tSz Try.prog 33 = some (false, 1) := by kernel_rfl
theorem sz88 : tSz Try.prog 88 = some (true, 3) := by kernel_rfl
theorem sz89 : tSz Try.prog 89 = some (false, 1) := by kernel_rfl
theorem sz91 : tSz Try.prog 91 = some (true, 7) := by kernel_rfl
theorem vr118 : tVar Try.prog 118 = some (true, [.lit (.int .i64 0), .lit (.int .i64 0), .lit (.int .i64 0), .lit (.int .i64 0)]) := by kernel_rfl
theorem vr3 : tVar Try.prog 3 = some (false, [.lit (.int .i64 0)]) := by kernel_rfl
theorem vr33 : tVar Try.prog 33 = some (false, [.seq true []]) := by kernel_rfl
theorem vr4 : tVar Try.prog 4 = some (false, [.lit (.bool false)]) := by kernel_rfl
theorem vr88 : tVar Try.prog 88 = some (true, [.seq true [], .lit (.int .i64 0), .seq true []]) := by kernel_rfl
theorem vr91 : tVar Try.prog 91 = some (true, [.seq true [], .lit (.int .i64 0), .seq true [], .seq true [], .lit (.bool false), .lit (.int .i64 0), .lit (.int .i64 0)]) := by kernel_rfl
set_option maxHeartbeats 4000000 in
theorem c55 (n g : Int) : PCall Try.prog 99 [iV n, iV g] (bV (decide (Pl.cnt n g))) := by
 refine pcall_of_awp Try.func99 rfl (by simp [Try.ntmps99]) fun C hC => ?_
 refine awp_sr [] (by rw [hC]; rfl) fun k hk => ?_
 simp (maxSteps := 9^9) (disch := (try simp only [lens]); omega) only [argSl, sm, ↓amb, mark_eq, simprocAttr, dx]
 repeat refine an ?_
 refine hk _ ?_; clear hk k
 refine awp_test [] 4 (decide (Pl.cnt n g)) [] (by rw [hC]; rfl) (fun gd hgd k hk => ?_) ?_
 ·have g2 : gd 2 = some 7 := by rw [hgd]; rfl
  have g6 : gd 6 = some 11 := by rw [hgd]; rfl
  have g10 : gd 10 = some 15 := by rw [hgd]; rfl
  clear hgd
  simp (maxSteps := 9^9) (disch := (try simp only [lens]); omega) only [argSl, sm, ↓amb, mark_eq, simprocAttr, gcase_undef, g2, g6, g10, dx]
  repeat' first | refine hk _ _ rfl rfl rfl rfl ?_ | (refine gsplit (fun hg => ?_) (fun hg => ?_) <;> (try simp only [hbx] at hg) <;> simp (maxSteps := 9^9) (disch := (try simp only [lens]); omega) only [argSl, sm, ↓amb, mark_eq, simprocAttr, gcase_undef, g2, g6, g10, dx]) | apply And.intro | fail
  all_goals first | rfl | omega | exact (decide_eq_true (by (try simp only [Pl.cnt] at *); omega)).symm | exact (decide_eq_false (by (try simp only [Pl.cnt] at *); omega)).symm | exact decide_eq_decide.mpr (by (try simp only [Pl.cnt] at *); omega) | (refine Bool.eq_iff_iff.mpr ?_; (try simp only [Pl.cnt] at *); simp only [beq_iff_eq, bne_iff_ne, ne_eq, decide_eq_true_eq]; omega) | (refine Bool.eq_iff_iff.mpr ?_; simp only [Bool.not_eq_true', Bool.not_eq_false', decide_eq_false_iff_not, decide_eq_true_eq, beq_iff_eq, bne_iff_ne, ne_eq]; (try simp only [Pl.cnt] at *); omega) | assumption | (simp; done) | (simp [maxLen]; omega) | skip
 simp only [kp, argSl, simprocAttr, List.length_cons, List.length_nil]
 refine awp_ret ?_
 refine ret1 rfl rfl ?_
 exact .p (LeP.refl _)
set_option maxHeartbeats 4000000 in
theorem c32 (n g : Int) (hn : n ≤ 4000000000) : PCall Try.prog 93 [iV n, iV g] (.tup [workV false false (Pl.beginW n g), iV (Pl.beginE n g)]) := by
 refine pcall_of_awp Try.func93 rfl (by simp [Try.ntmps93]) fun C hC => ?_
 refine awp_sr [16] (by rw [hC]; rfl) fun k hk => ?_
 simp (maxSteps := 9^9) (disch := (try simp only [lens]); omega) only [argSl, sm, ↓amb, mark_eq, simprocAttr, vr88, dx]
 repeat refine an ?_
 refine hk _ ?_; clear hk k
 refine awp_seq fun k1 h1 => ?_
 refine awp_sr [16] (by rw [hC]; rfl) fun k hk => ?_
 simp (maxSteps := 9^9) (disch := (try simp only [lens]); omega) only [argSl, sm, ↓amb, mark_eq, simprocAttr, en99, dx]
 repeat refine an ?_
 refine callK_p (c55 _ _) rfl ?_
 simp (maxSteps := 9^9) (disch := (try simp only [lens]); omega) only [argSl, sm, ↓amb, mark_eq, simprocAttr, en99, dx]
 repeat refine an ?_
 refine hk _ ?_; clear hk k
 refine awp_cond rfl (fun hb => ?_) (fun hb => ?_)
 ·try simp only [hbx] at hb
  refine awp_sr [16] (by rw [hC]; rfl) fun k hk => ?_
  simp (maxSteps := 9^9) (disch := (try simp only [lens]); omega) only [argSl, sm, ↓amb, mark_eq, simprocAttr, vr88, bt88, sz88, dx]
  repeat refine an ?_
  refine hk _ ?_; clear hk k
  refine awp_ret ?_
  have e1 : Pl.beginW n g = ⟨[], 0, []⟩ := by rw [Pl.beginW, if_neg hb]
  have e2 : Pl.beginE n g = 1 := by rw [Pl.beginE, if_neg hb]
  rw [e1, e2]
  refine retl rfl rfl ⟨retc rfl sz88 ?_, rett rfl ?_, trivial⟩
  simp (maxSteps := 9^9) (disch := (try simp only [lens]); omega) only [argSl, sm, ↓amb, mark_eq, simprocAttr, sz88, dx]
  ·exact .p (LeP.agg (.cons (LeP.seq _ _) (.cons (LeP.refl _) (.cons (LeP.seq _ _) .nil))))
  ·exact .p (LeP.refl _)
 ·try simp only [hbx] at hb
  refine awp_skip ?_
  refine h1 _ ?_; clear h1 k1
  have hb1 := hb
  simp only [Pl.cnt] at hb1
  refine awp_sr [16] (by rw [hC]; rfl) fun k hk => ?_
  simp (maxSteps := 9^9) (disch := (try simp only [lens]); omega) only [argSl, sm, ↓amb, mark_eq, simprocAttr, vr118, bt118, pl118_1, pl118_2, el86, el23, by4, vr4, vr88, bt88, pl88_0, pl88_1, pl88_2, sz88, dx]
  repeat refine an ?_
  refine hk _ ?_; clear hk k
  refine awp_ret ?_
  have e1 : Pl.beginW n g = ⟨[⟨0, n, -1, 0⟩], g, List.replicate n.toNat false⟩ := by rw [Pl.beginW, if_pos hb]
  have e2 : Pl.beginE n g = 0 := by rw [Pl.beginE, if_pos hb]
  rw [e1, e2]
  refine retl rfl rfl ⟨retc rfl sz88 ?_, rett rfl ?_, trivial⟩
  simp (maxSteps := 9^9) (disch := (try simp only [lens]); omega) only [argSl, sm, ↓amb, mark_eq, simprocAttr, sz88, dx]
  ·exact .agg_cons (.p (LeP.sq rfl)) (.agg_cons (.p (LeP.refl _)) (.agg_cons (.ownE rfl (by simp)) (.agg_nil)))
  ·exact .p (LeP.refl _)
set_option maxHeartbeats 4000000 in
theorem c42 (n g p : Int) (hn : n ≤ 4000000000) : PCall Try.prog 79 [iV n, iV g, iV p] (.tup [.agg (crewC (Pl.crewBegin n g p).1), iV (Pl.crewBegin n g p).2]) := by
 refine pcall_of_awp Try.func79 rfl (by simp [Try.ntmps79]) fun C hC => ?_
 refine awp_le (le_keep [0, 1, 2]) ?_
 simp only [kp, argSl, simprocAttr]
 refine awp_sr [29] (by rw [hC]; rfl) fun k hk => ?_
 simp (maxSteps := 9^9) (disch := (try simp only [lens]); omega) only [argSl, sm, ↓amb, mark_eq, simprocAttr, vr91, taskC, Pl.rep_get0, dx]
 repeat refine an ?_
 refine hk _ ?_; clear hk k
 refine awp_seq fun k1 h1 => ?_
 refine awp_test [29] 16 (decide (p < 1 ∨ 8 < p)) [0, 1, 2, 6, 7] (by rw [hC]; rfl) (fun gd hgd k hk => ?_) ?_
 ·have g2 : gd 2 = some 13 := by rw [hgd]; rfl
  clear hgd
  simp (maxSteps := 9^9) (disch := (try simp only [lens]); omega) only [argSl, sm, ↓amb, mark_eq, simprocAttr, gcase_undef, g2, taskC, Pl.rep_get0, dx]
  repeat' first | refine hk _ _ rfl rfl rfl rfl ?_ | (refine gsplit (fun hg => ?_) (fun hg => ?_) <;> (try simp only [hbx] at hg) <;> simp (maxSteps := 9^9) (disch := (try simp only [lens]); omega) only [argSl, sm, ↓amb, mark_eq, simprocAttr, gcase_undef, g2, taskC, Pl.rep_get0, dx]) | apply And.intro | fail
  all_goals first | rfl | omega | exact (decide_eq_true (by omega)).symm | exact (decide_eq_false (by omega)).symm | exact decide_eq_decide.mpr (by omega) | (refine Bool.eq_iff_iff.mpr ?_; simp only [beq_iff_eq, bne_iff_ne, ne_eq, decide_eq_true_eq]; omega) | (refine Bool.eq_iff_iff.mpr ?_; simp only [Bool.not_eq_true', Bool.not_eq_false', decide_eq_false_iff_not, decide_eq_true_eq, beq_iff_eq, bne_iff_ne, ne_eq]; omega) | assumption | (simp; done) | (simp [maxLen]; omega) | skip
 simp only [kp, argSl, simprocAttr, List.length_cons, List.length_nil]
 refine awp_cond rfl (fun hb => ?_) (fun hb => ?_)
 ·try simp only [hbx] at hb
  refine awp_le (le_keep [6]) ?_
  simp only [kp, argSl, simprocAttr]
  refine awp_sr [29] (by rw [hC]; rfl) fun k hk => ?_
  simp (maxSteps := 9^9) (disch := (try simp only [lens]); omega) only [argSl, sm, ↓amb, mark_eq, simprocAttr, vr91, bt91, sz91, taskC, Pl.rep_get0, dx]
  repeat refine an ?_
  refine hk _ ?_; clear hk k
  refine awp_ret ?_
  rw [Pl.begin_1 hb]
  refine retl rfl rfl ⟨retc rfl sz91 ?_, rett rfl ?_, trivial⟩
  simp (maxSteps := 9^9) (disch := (try simp only [lens]); omega) only [argSl, sm, ↓amb, mark_eq, simprocAttr, sz91, taskC, Pl.rep_get0, dx]
  ·exact .p (LeP.agg (.cons (LeP.seq _ _) (.cons (LeP.refl _) (.cons (LeP.seq _ _) (.cons (LeP.seq _ _) (.cons (LeP.refl _) (.cons (LeP.refl _) (.cons (LeP.refl _) .nil))))))))
  ·exact .p (LeP.refl _)
 ·try simp only [hbx] at hb
  refine awp_skip ?_
  refine h1 _ ?_; clear h1 k1
  refine awp_le (le_keep [0, 1, 2, 6]) ?_
  simp only [kp, argSl, simprocAttr]
  have hp := hb
  refine awp_sr [29] (by rw [hC]; rfl) fun k hk => ?_
  simp (maxSteps := 9^9) (disch := (try simp only [lens]); omega) only [argSl, sm, ↓amb, mark_eq, simprocAttr, en93, vr88, sz88, taskC, Pl.rep_get0, dx]
  repeat refine an ?_
  refine callK_p (c32 _ _ (by omega)) rfl ?_
  simp (maxSteps := 9^9) (disch := (try simp only [lens]); omega) only [argSl, sm, ↓amb, mark_eq, simprocAttr, en93, vr88, sz88, taskC, Pl.rep_get0, dx]
  repeat refine an ?_
  refine hk _ ?_; clear hk k
  refine awp_seq fun k2 h2 => ?_
  refine awp_le (le_keep [2, 6, 7, 8, 9]) ?_
  simp only [kp, argSl, simprocAttr]
  refine awp_sr [29] (by rw [hC]; rfl) fun k hk => ?_
  simp (maxSteps := 9^9) (disch := (try simp only [lens]); omega) only [argSl, sm, ↓amb, mark_eq, simprocAttr, taskC, Pl.rep_get0, dx]
  repeat refine an ?_
  refine hk _ ?_; clear hk k
  refine awp_cond rfl (fun hb => ?_) (fun hb => ?_)
  ·try simp only [hbx] at hb
   refine awp_le (le_keep [6, 9]) ?_
   simp only [kp, argSl, simprocAttr]
   refine awp_sr [29] (by rw [hC]; rfl) fun k hk => ?_
   simp (maxSteps := 9^9) (disch := (try simp only [lens]); omega) only [argSl, sm, ↓amb, mark_eq, simprocAttr, vr91, bt91, sz91, taskC, Pl.rep_get0, dx]
   repeat refine an ?_
   refine hk _ ?_; clear hk k
   refine awp_ret ?_
   obtain ⟨e1, e2⟩ := Pl.begin_2 hp hb
   rw [e1]
   refine retl rfl rfl ⟨retc rfl sz91 ?_, rett rfl ?_, trivial⟩
   simp (maxSteps := 9^9) (disch := (try simp only [lens]); omega) only [argSl, sm, ↓amb, mark_eq, simprocAttr, sz91, taskC, Pl.rep_get0, dx]
   ·exact .p (LeP.agg (.cons (LeP.seq _ _) (.cons (LeP.refl _) (.cons (LeP.seq _ _) (.cons (LeP.seq _ _) (.cons (LeP.refl _) (.cons (LeP.refl _) (.cons (LeP.refl _) .nil))))))))
   ·exact .p (LeP.of_eq (by rw [e2]))
  ·try simp only [hbx] at hb
   refine awp_skip ?_
   refine h2 _ ?_; clear h2 k2
   refine awp_le (le_keep [2, 6, 8]) ?_
   simp only [kp, argSl, simprocAttr]
   have hbe := hb
   refine awp_sr [29] (by rw [hC]; rfl) fun k hk => ?_
   simp (maxSteps := 9^9) (disch := (try simp only [lens]); omega) only [argSl, sm, ↓amb, mark_eq, simprocAttr, el89, by33, vr33, taskC, Pl.rep_get0, dx]
   repeat refine an ?_
   refine hk _ ?_; clear hk k
   refine awp_le (le_keep [6, 8, 10]) ?_
   simp only [kp, argSl, simprocAttr]
   refine awp_sr [29] (by rw [hC]; rfl) fun k hk => ?_
   simp (maxSteps := 9^9) (disch := (try simp only [lens]); omega) only [argSl, sm, ↓amb, mark_eq, simprocAttr, el89, sz33, el33, vr3, by3, taskC, Pl.rep_get0, dx]
   repeat refine an ?_
   refine hk _ ?_; clear hk k
   refine awp_le (le_keep [6, 8, 10]) ?_
   simp only [kp, argSl, simprocAttr]
   refine awp_le (show LE _ (⟨[(6, (.ptr 0 7 0 0)), (8, (.ptr 1 3 0 0)), (10, (.own 2))], [(0, (.row 7 [[.p (.seq true []), .p (iV 0), .p (.seq true []), .p (.seq true []), .p (bV false), .p (iV 0), .p (iV 0)]])), (1, (.row 3 [[.p (.seq false ((Pl.beginW n g).ts.map taskC)), .p (iV (Pl.beginW n g).grain), .p (.seq false ((Pl.beginW n g).done.map fun b => [bV b]))]])), (2, (.row 1 (lift ((Pl.dq0 p).map lV))))], 1⟩ : LS) from le_of [(0, _), (1, _), (2, _)] (by rfl) (by rfl) ⟨⟨_, rfl, .ptr rfl⟩, ⟨_, rfl, .ptr rfl⟩, ⟨_, rfl, .own rfl⟩, trivial⟩ ⟨⟨_, rfl, _, rfl, .one (.cons (.p (.refl _)) (.cons (.p (.refl _)) (.cons (.p (.refl _)) (.cons (.p (.refl _)) (.cons (.p (.refl _)) (.cons (.p (.refl _)) (.cons (.p (.refl _)) (.nil))))))))⟩, ⟨_, rfl, _, rfl, .one (.cons (.p (.refl _)) (.cons (.p (.refl _)) (.cons (.p (.refl _)) .nil)))⟩, ⟨_, rfl, _, rfl, Pl.leB_dq0 (by omega)⟩, trivial⟩) ?_
   refine awp_sr [29] (by rw [hC]; rfl) fun k hk => ?_
   simp (maxSteps := 9^9) (disch := (try simp only [lens]); omega) only [argSl, sm, ↓amb, mark_eq, simprocAttr, sz88, vr91, bt91, pl91_0, pl91_1, sz91, taskC, Pl.rep_get0, dx]
   repeat refine an ?_
   refine hk _ ?_; clear hk k
   refine awp_ret ?_
   rw [Pl.begin_3 hp hbe]
   refine retl rfl rfl ⟨retc rfl sz91 ?_, rett rfl ?_, trivial⟩
   simp (maxSteps := 9^9) (disch := (try simp only [lens]); omega) only [argSl, sm, ↓amb, mark_eq, simprocAttr, sz91, taskC, Pl.rep_get0, dx]
   ·exact .agg_cons (.p (LeP.refl _)) (.agg_cons (.p (LeP.refl _)) (.agg_cons (.p (LeP.refl _)) (.agg_cons (.ownE rfl rfl) (.agg_cons (.p (LeP.refl _)) (.agg_cons (.p (LeP.refl _)) (.agg_cons (.p (LeP.refl _)) (.agg_nil)))))))
   ·exact .p (LeP.refl _)
end Go.Proofs.Ytbehekmnccoifaa
end
section
set_option linter.unusedSimpArgs false
set_option linter.unusedVariables false
set_option maxRecDepth 100000
namespace Go.Proofs.Ytbehekmnccoifaa
open Go.Am Go.Proofs
theorem by118 : tBytes Try.prog 118 = some 32 := by kernel_rfl
theorem en105 : enters Try.prog 105 = true := by kernel_rfl
theorem en112 : enters Try.prog 112 = true := by kernel_rfl
theorem en113 : enters Try.prog 113 = true := by kernel_rfl
theorem en114 : enters Try.prog 114 = true := by kernel_rfl
theorem en115 : enters Try.prog 115 = true := by kernel_rfl
theorem en116 : enters Try.prog 116 = true := by kernel_rfl
theorem fl118_0 : tFld Try.prog 118 0 = some (0, 1, false) := by kernel_rfl
theorem fl118_1 : tFld Try.prog 118 1 = some (1, 1, false) := by kernel_rfl
theorem fl118_2 : tFld Try.prog 118 2 = some (2, 1, false) := by kernel_rfl
theorem fl118_3 : tFld Try.prog 118 3 = some (3, 1, false) := by kernel_rfl
theorem fl88_0 : tFld Try.prog 88 0 = some (0, 1, false) := by kernel_rfl
theorem fl88_1 : tFld Try.prog 88 1 = some (1, 1, false) := by kernel_rfl
theorem fl88_2 : tFld Try.prog 88 2 = some (2, 1, false) := by kernel_rfl
theorem pl118_0 : tPlace Try.prog 118 0 = some (0, 1) := by kernel_rfl
theorem sz118 : tSz Try.prog 118 = some (true, 4) := by kernel_rfl
theorem sz23 : tSz Try.prog 23 = some (false, 1) := by kernel_rfl
theorem sz3 : tSz Try.prog 3 = some (false, 1) := by kernel_rfl
theorem sz4 : tSz Try.prog 4 = some (false, 1) := by kernel_rfl
theorem sz86 : tSz Try.prog 86 = some (false, 1) := by kernel_rfl
set_option maxHeartbeats 4000000 in
theorem c37 (c d : Bool) (w : Pl.Work) : PCall Try.prog 105 [workV c d w] (bV (decide (Pl.right w))) := by
 refine pcall_of_awp Try.func105 rfl (by simp [Try.ntmps105]) fun C hC => ?_
 refine awp_le (le_keep [0]) ?_
 simp only [kp, argSl, simprocAttr]
 refine awp_sr [] (by rw [hC]; rfl) fun k hk => ?_
 simp (maxSteps := 9^9) (disch := (try simp only [lens]); omega) only [argSl, sm, ↓amb, mark_eq, simprocAttr, dx]
 repeat refine an ?_
 refine hk _ ?_; clear hk k
 refine awp_seq fun k1 h1 => ?_
 refine awp_test [] 23 (decide (¬ (Pl.cnt w.done.length w.grain ∧ 1 ≤ w.ts.length ∧ w.ts.length ≤ 2000))) [1, 2] (by rw [hC]; rfl) (fun gd hgd k hk => ?_) ?_
 ·have g7 : gd 7 = some 12 := by rw [hgd]; rfl
  have g13 : gd 13 = some 18 := by rw [hgd]; rfl
  clear hgd
  simp (maxSteps := 9^9) (disch := (try simp only [lens]); omega) only [argSl, sm, ↓amb, mark_eq, simprocAttr, fl88_2, sz23, el23, fl88_1, sz3, en99, fl88_0, sz86, el86, gcase_undef, g7, g13, dx]
  repeat' first | refine hk _ _ rfl rfl rfl rfl ?_ | (refine gsplit (fun hg => ?_) (fun hg => ?_) <;> (try simp only [hbx] at hg) <;> simp (maxSteps := 9^9) (disch := (try simp only [lens]); omega) only [argSl, sm, ↓amb, mark_eq, simprocAttr, fl88_2, sz23, el23, fl88_1, sz3, en99, fl88_0, sz86, el86, gcase_undef, g7, g13, dx]) | apply And.intro | (refine callK_p (c55 _ _) rfl ?_; (try simp (maxSteps := 9^9) (disch := (try simp only [lens]); omega) only [argSl, sm, ↓amb, mark_eq, simprocAttr, fl88_2, sz23, el23, fl88_1, sz3, en99, fl88_0, sz86, el86, gcase_undef, g7, g13, dx])) | fail
  all_goals first | rfl | omega | exact (decide_eq_true (by (try simp only [Pl.right, Pl.cnt, Pl.okT] at *); omega)).symm | exact (decide_eq_false (by (try simp only [Pl.right, Pl.cnt, Pl.okT] at *); omega)).symm | exact decide_eq_decide.mpr (by (try simp only [Pl.right, Pl.cnt, Pl.okT] at *); omega) | (refine Bool.eq_iff_iff.mpr ?_; (try simp only [Pl.right, Pl.cnt, Pl.okT] at *); simp only [beq_iff_eq, bne_iff_ne, ne_eq, decide_eq_true_eq]; omega) | (refine Bool.eq_iff_iff.mpr ?_; simp only [Bool.not_eq_true', Bool.not_eq_false', decide_eq_false_iff_not, decide_eq_true_eq, beq_iff_eq, bne_iff_ne, ne_eq]; (try simp only [Pl.right, Pl.cnt, Pl.okT] at *); omega) | assumption | (simp; done) | (simp [maxLen]; omega) | skip
 simp only [kp, argSl, simprocAttr, List.length_cons, List.length_nil]
 refine awp_cond rfl (fun hb => ?_) (fun hb => ?_)
 ·try simp only [hbx] at hb
  refine awp_le (le_keep []) ?_
  simp only [kp, argSl, simprocAttr]
  refine awp_sr [] (by rw [hC]; rfl) fun k hk => ?_
  simp (maxSteps := 9^9) (disch := (try simp only [lens]); omega) only [argSl, sm, ↓amb, mark_eq, simprocAttr, dx]
  repeat refine an ?_
  refine hk _ ?_; clear hk k
  refine awp_ret ?_
  refine ret1 rfl rfl ?_
  exact .p (LeP.of_eq (by rw [decide_eq_false (by intro h; simp only [Pl.right, Pl.cnt] at h hb; omega)]))
 ·try simp only [hbx] at hb
  refine awp_skip ?_
  refine h1 _ ?_; clear h1 k1
  refine awp_seq fun k2 h2 => ?_
  refine awp_le (le_keep [1, 2]) ?_
  simp only [kp, argSl, simprocAttr]
  have hb0 := hb
  refine awp_sr [] (by rw [hC]; rfl) fun k hk => ?_
  simp (maxSteps := 9^9) (disch := (try simp only [lens]); omega) only [argSl, sm, ↓amb, mark_eq, simprocAttr, fl88_0, sz86, el86, dx]
  repeat refine an ?_
  refine hk _ ?_; clear hk k
  refine awp_block ?_
  refine awp_loop (σ := Nat) (fun (i : Nat) => i ≤ w.ts.length ∧ ∀ j, j < i → Pl.okT w.done.length j (w.ts.getD j default)) (fun (i : Nat) => ⟨[(1, (.ptr 0 3 0 0)), (25, (.p (.seq c (w.ts.map taskC)))), (26, (.p (iV w.ts.length))), (27, (.p (iV i)))], [(0, (.row 3 [[.p (.seq c (w.ts.map taskC)), .p (iV w.grain), .p (.seq d (w.done.map fun b => [bV b]))]]))], 1⟩) (fun i => w.ts.length - i) 0 ?_ ?_ fun x hx => ?_
  ·exact ⟨Nat.zero_le _, fun j hj => by omega⟩
  ·exact le_of [(0, _)] (by rfl) (by rfl) ⟨⟨_, rfl, .ptr rfl⟩, ⟨_, rfl, .oe⟩, ⟨_, rfl, .oe⟩, ⟨_, rfl, .oe⟩, trivial⟩ ⟨⟨_, rfl, _, rfl, .one (.cons (.p (.refl _)) (.cons (.p (.refl _)) (.cons (.p (.refl _)) .nil)))⟩, trivial⟩
  obtain ⟨hx1, hx2⟩ := hx
  refine awp_le (le_keep [0, 1, 2, 25, 26, 27]) ?_
  simp only [kp, argSl, simprocAttr]
  refine awp_sr [] (by rw [hC]; rfl) fun k hk => ?_
  simp (maxSteps := 9^9) (disch := (try simp only [lens]); omega) only [argSl, sm, ↓amb, mark_eq, simprocAttr, dx]
  repeat refine an ?_
  refine hk _ ?_; clear hk k
  refine awp_seq fun k4 h4 => ?_
  refine awp_cond rfl (fun hb => ?_) (fun hb => ?_)
  ·try simp only [hbx] at hb
   refine awp_skip ?_
   refine h4 _ ?_; clear h4 k4
   refine awp_seq fun k5 h5 => ?_
   refine awp_block ?_
   refine awp_le (le_keep [0, 1, 2, 25, 26, 27]) ?_
   simp only [kp, argSl, simprocAttr]
   refine awp_sr [] (by rw [hC]; rfl) fun k hk => ?_
   simp (maxSteps := 9^9) (disch := (try simp only [lens]); omega) only [argSl, sm, ↓amb, mark_eq, simprocAttr, el86, sz118, vr118, dx]
   repeat refine an ?_
   refine hk _ ?_; clear hk k
   refine awp_test [] 70 (decide (¬ Pl.okT w.done.length x (w.ts.getD x default))) [0, 1, 2, 25, 26, 27] (by rw [hC]; rfl) (fun gd hgd k hk => ?_) ?_
   ·have g3 : gd 3 = some 35 := by rw [hgd]; rfl
    have g10 : gd 10 = some 42 := by rw [hgd]; rfl
    have g18 : gd 18 = some 50 := by rw [hgd]; rfl
    have g23 : gd 23 = some 55 := by rw [hgd]; rfl
    have g29 : gd 29 = some 61 := by rw [hgd]; rfl
    have g34 : gd 34 = some 66 := by rw [hgd]; rfl
    clear hgd
    simp (maxSteps := 9^9) (disch := (try simp only [lens]); omega) only [argSl, sm, ↓amb, mark_eq, simprocAttr, fl118_0, sz3, fl118_1, fl88_2, sz23, el23, fl118_2, fl118_3, gcase_undef, g3, g10, g18, g23, g29, g34, dx]
    repeat' first | refine hk _ _ rfl rfl rfl rfl ?_ | (refine gsplit (fun hg => ?_) (fun hg => ?_) <;> (try simp only [hbx] at hg) <;> simp (maxSteps := 9^9) (disch := (try simp only [lens]); omega) only [argSl, sm, ↓amb, mark_eq, simprocAttr, fl118_0, sz3, fl118_1, fl88_2, sz23, el23, fl118_2, fl118_3, gcase_undef, g3, g10, g18, g23, g29, g34, dx]) | apply And.intro | fail
    all_goals first | rfl | omega | exact (decide_eq_true (by (try simp only [Pl.right, Pl.cnt, Pl.okT] at *); omega)).symm | exact (decide_eq_false (by (try simp only [Pl.right, Pl.cnt, Pl.okT] at *); omega)).symm | exact decide_eq_decide.mpr (by (try simp only [Pl.right, Pl.cnt, Pl.okT] at *); omega) | (refine Bool.eq_iff_iff.mpr ?_; (try simp only [Pl.right, Pl.cnt, Pl.okT] at *); simp only [beq_iff_eq, bne_iff_ne, ne_eq, decide_eq_true_eq]; omega) | (refine Bool.eq_iff_iff.mpr ?_; simp only [Bool.not_eq_true', Bool.not_eq_false', decide_eq_false_iff_not, decide_eq_true_eq, beq_iff_eq, bne_iff_ne, ne_eq]; (try simp only [Pl.right, Pl.cnt, Pl.okT] at *); omega) | assumption | (simp; done) | (simp [maxLen]; omega) | skip
   simp only [kp, argSl, simprocAttr, List.length_cons, List.length_nil]
   refine awp_cond rfl (fun hb => ?_) (fun hb => ?_)
   ·try simp only [hbx] at hb
    refine awp_le (le_keep []) ?_
    simp only [kp, argSl, simprocAttr]
    refine awp_sr [] (by rw [hC]; rfl) fun k hk => ?_
    simp (maxSteps := 9^9) (disch := (try simp only [lens]); omega) only [argSl, sm, ↓amb, mark_eq, simprocAttr, dx]
    repeat refine an ?_
    refine hk _ ?_; clear hk k
    refine awp_ret ?_
    refine ret1 rfl rfl ?_
    exact .p (LeP.of_eq (by rw [decide_eq_false (fun h => by have h2 := h.2.2.2 x (by omega); have h3 := h.1; simp only [Pl.okT] at h2 hb; omega)]))
   ·try simp only [hbx] at hb
    refine awp_skip ?_
    refine h5 _ ?_; clear h5 k5
    refine awp_region [] (by rw [hC]; rfl) fun k hk => ?_
    simp (maxSteps := 9^9) (disch := (try simp only [lens]); omega) only [argSl, sm, ↓amb, mark_eq, simprocAttr, dx]
    repeat refine an ?_
    refine hk _ ?_; clear hk k
    refine ⟨x + 1, ⟨by omega, fun j hj => by by_cases e : j = x; subst e; exact hb; exact hx2 j (by omega)⟩, le_of [(0, _)] (by rfl) (by rfl) ⟨⟨_, rfl, .ptr rfl⟩, ⟨_, rfl, .oe⟩, ⟨_, rfl, .oe⟩, ⟨_, rfl, .oe⟩, trivial⟩ ⟨⟨_, rfl, _, rfl, .one (.cons (.p (.refl _)) (.cons (.p (.refl _)) (.cons (.p (.refl _)) .nil)))⟩, trivial⟩, by omega⟩
  ·try simp only [hbx] at hb
   refine awp_exit ((if_pos rfl).mpr ?_)
   refine h2 _ ?_; clear h4 k4; clear h2 k2
   refine awp_le (le_keep []) ?_
   simp only [kp, argSl, simprocAttr]
   refine awp_sr [] (by rw [hC]; rfl) fun k hk => ?_
   simp (maxSteps := 9^9) (disch := (try simp only [lens]); omega) only [argSl, sm, ↓amb, mark_eq, simprocAttr, dx]
   repeat refine an ?_
   refine hk _ ?_; clear hk k
   refine awp_ret ?_
   refine ret1 rfl rfl ?_
   exact .p (LeP.of_eq (by rw [decide_eq_true (Pl.right_of (by omega) hb0 hx2)]))
set_option maxHeartbeats 4000000 in
theorem c50 (t : Pl.Task) (h0 : -4000000000 ≤ t.low) (h1 : t.low ≤ 4000000000) (h2 : -4000000000 ≤ t.high) (h3 : t.high ≤ 4000000000) : PCall Try.prog 113 [.agg (taskC t)] (iV (t.high - t.low)) := by
 refine pcall_of_awp Try.func113 rfl (by simp [Try.ntmps113]) fun C hC => ?_
 refine awp_sr [] (by rw [hC]; rfl) fun k hk => ?_
 simp (maxSteps := 9^9) (disch := (try simp only [lens]); omega) only [argSl, sm, ↓amb, mark_eq, simprocAttr, dx]
 repeat refine an ?_
 refine hk _ ?_; clear hk k
 refine awp_sr [] (by rw [hC]; rfl) fun k hk => ?_
 simp (maxSteps := 9^9) (disch := (try simp only [lens]); omega) only [argSl, sm, ↓amb, mark_eq, simprocAttr, fl118_1, sz3, fl118_0, dx]
 repeat refine an ?_
 refine hk _ ?_; clear hk k
 refine awp_ret ?_
 refine ret1 rfl rfl ?_
 exact .p (LeP.refl _)
set_option maxHeartbeats 4000000 in
theorem c49 (c d : Bool) (w : Pl.Work) (i : Int) : PCall Try.prog 112 [workV c d w, iV i] (iV (Pl.there w i)) := by
 refine pcall_of_awp Try.func112 rfl (by simp [Try.ntmps112]) fun C hC => ?_
 refine awp_sr [] (by rw [hC]; rfl) fun k hk => ?_
 simp (maxSteps := 9^9) (disch := (try simp only [lens]); omega) only [argSl, sm, ↓amb, mark_eq, simprocAttr, dx]
 repeat refine an ?_
 refine hk _ ?_; clear hk k
 refine awp_seq fun k1 h1 => ?_
 refine awp_block ?_
 refine awp_sr [] (by rw [hC]; rfl) fun k hk => ?_
 simp (maxSteps := 9^9) (disch := (try simp only [lens]); omega) only [argSl, sm, ↓amb, mark_eq, simprocAttr, sz88, en105, dx]
 repeat refine an ?_
 refine callK_p (c37 _ _ _) rfl ?_
 simp (maxSteps := 9^9) (disch := (try simp only [lens]); omega) only [argSl, sm, ↓amb, mark_eq, simprocAttr, sz88, en105, dx]
 repeat refine an ?_
 refine hk _ ?_; clear hk k
 refine awp_cond rfl (fun hb => ?_) (fun hb => ?_)
 ·try simp only [hbx] at hb
  refine awp_sr [] (by rw [hC]; rfl) fun k hk => ?_
  simp (maxSteps := 9^9) (disch := (try simp only [lens]); omega) only [argSl, sm, ↓amb, mark_eq, simprocAttr, dx]
  repeat refine an ?_
  refine hk _ ?_; clear hk k
  refine awp_ret ?_
  refine ret1 rfl rfl ?_
  exact .p (LeP.of_eq (by rw [Pl.there, if_pos hb]))
 ·try simp only [hbx] at hb
  have hR := hb
  refine awp_test [] 9 (decide (i < 0 ∨ (w.ts.length : Int) ≤ i)) [4] (by rw [hC]; rfl) (fun gd hgd k hk => ?_) ?_
  ·have g2 : gd 2 = some 12 := by rw [hgd]; rfl
   clear hgd
   simp (maxSteps := 9^9) (disch := (try simp only [lens]); omega) only [argSl, sm, ↓amb, mark_eq, simprocAttr, fl88_0, sz86, el86, gcase_undef, g2, dx]
   repeat' first | refine hk _ _ rfl rfl rfl rfl ?_ | (refine gsplit (fun hg => ?_) (fun hg => ?_) <;> (try simp only [hbx] at hg) <;> simp (maxSteps := 9^9) (disch := (try simp only [lens]); omega) only [argSl, sm, ↓amb, mark_eq, simprocAttr, fl88_0, sz86, el86, gcase_undef, g2, dx]) | apply And.intro | fail
   all_goals first | rfl | omega | exact (decide_eq_true (by omega)).symm | exact (decide_eq_false (by omega)).symm | exact decide_eq_decide.mpr (by omega) | (refine Bool.eq_iff_iff.mpr ?_; simp only [beq_iff_eq, bne_iff_ne, ne_eq, decide_eq_true_eq]; omega) | (refine Bool.eq_iff_iff.mpr ?_; simp only [Bool.not_eq_true', Bool.not_eq_false', decide_eq_false_iff_not, decide_eq_true_eq, beq_iff_eq, bne_iff_ne, ne_eq]; omega) | assumption | (simp; done) | (simp [maxLen]; omega) | skip
  simp only [kp, argSl, simprocAttr, List.length_cons, List.length_nil]
  refine awp_cond rfl (fun hb => ?_) (fun hb => ?_)
  ·try simp only [hbx] at hb
   refine awp_sr [] (by rw [hC]; rfl) fun k hk => ?_
   simp (maxSteps := 9^9) (disch := (try simp only [lens]); omega) only [argSl, sm, ↓amb, mark_eq, simprocAttr, dx]
   repeat refine an ?_
   refine hk _ ?_; clear hk k
   refine awp_ret ?_
   refine ret1 rfl rfl ?_
   exact .p (LeP.of_eq (by rw [Pl.there, if_neg (by simpa using hR), if_pos hb]))
  ·try simp only [hbx] at hb
   refine awp_skip ?_
   refine h1 _ ?_; clear h1 k1
   refine awp_sr [] (by rw [hC]; rfl) fun k hk => ?_
   simp (maxSteps := 9^9) (disch := (try simp only [lens]); omega) only [argSl, sm, ↓amb, mark_eq, simprocAttr, dx]
   repeat refine an ?_
   refine hk _ ?_; clear hk k
   refine awp_ret ?_
   refine ret1 rfl rfl ?_
   exact .p (LeP.of_eq (by rw [Pl.there, if_neg (by simpa using hR), if_neg hb]))
set_option maxHeartbeats 4000000 in
theorem c51 (c : Bool) (l : List Pl.Task) (hl : l.length ≤ 1000000) : OCall Try.prog 114 [.seq c (l.map taskC)] 4 (l.map taskC) := by
 refine ocall_of_awp Try.func114 rfl (by simp [Try.ntmps114]) fun C hC => ?_
 refine awp_sr [7] (by rw [hC]; rfl) fun k hk => ?_
 simp (maxSteps := 9^9) (disch := (try simp only [lens]); omega) only [argSl, sm, ↓amb, mark_eq, simprocAttr, dx]
 repeat refine an ?_
 refine hk _ ?_; clear hk k
 refine awp_seq fun k1 h1 => ?_
 refine awp_nil 118 (of_decide_eq_true (by rw [hC]; rfl)) (of_decide_eq_true (by rw [hC]; rfl)) el86 rfl fun bq1 hq1 => ?_
 refine awp_cond rfl (fun hb => ?_) (fun hb => ?_)
 ·try simp only [hbx] at hb
  have he := hq1 hb
  refine awp_sr [7] (by rw [hC]; rfl) fun k hk => ?_
  simp (maxSteps := 9^9) (disch := (try simp only [lens]); omega) only [argSl, sm, ↓amb, mark_eq, simprocAttr, dx]
  repeat refine an ?_
  refine hk _ ?_; clear hk k
  refine awp_ret ?_
  exact reton (by rw [he]) rfl rfl
 ·try simp only [hbx] at hb
  refine awp_skip ?_
  refine h1 _ ?_; clear h1 k1
  refine awp_sr [7] (by rw [hC]; rfl) fun k hk => ?_
  simp (maxSteps := 9^9) (disch := (try simp only [lens]); omega) only [argSl, sm, ↓amb, mark_eq, simprocAttr, el86, vr118, by118, dx]
  repeat refine an ?_
  refine hk _ ?_; clear hk k
  refine awp_ret ?_
  refine reto1 rfl rfl ?_
  rfl
set_option maxHeartbeats 4000000 in
theorem c53 (c : Bool) (l : List Bool) (hl : l.length ≤ 1000000) : OCall Try.prog 115 [.seq c (l.map (fun b => [bV b]))] 1 (l.map (fun b => [bV b])) := by
 refine ocall_of_awp Try.func115 rfl (by simp [Try.ntmps115]) fun C hC => ?_
 refine awp_sr [7] (by rw [hC]; rfl) fun k hk => ?_
 simp (maxSteps := 9^9) (disch := (try simp only [lens]); omega) only [argSl, sm, ↓amb, mark_eq, simprocAttr, dx]
 repeat refine an ?_
 refine hk _ ?_; clear hk k
 refine awp_seq fun k1 h1 => ?_
 refine awp_nil 4 (of_decide_eq_true (by rw [hC]; rfl)) (of_decide_eq_true (by rw [hC]; rfl)) el23 rfl fun bq1 hq1 => ?_
 refine awp_cond rfl (fun hb => ?_) (fun hb => ?_)
 ·try simp only [hbx] at hb
  have he := hq1 hb
  refine awp_sr [7] (by rw [hC]; rfl) fun k hk => ?_
  simp (maxSteps := 9^9) (disch := (try simp only [lens]); omega) only [argSl, sm, ↓amb, mark_eq, simprocAttr, dx]
  repeat refine an ?_
  refine hk _ ?_; clear hk k
  refine awp_ret ?_
  exact reton (by rw [he]) rfl rfl
 ·try simp only [hbx] at hb
  refine awp_skip ?_
  refine h1 _ ?_; clear h1 k1
  refine awp_sr [7] (by rw [hC]; rfl) fun k hk => ?_
  simp (maxSteps := 9^9) (disch := (try simp only [lens]); omega) only [argSl, sm, ↓amb, mark_eq, simprocAttr, el23, vr4, by4, dx]
  repeat refine an ?_
  refine hk _ ?_; clear hk k
  refine awp_ret ?_
  refine reto1 rfl rfl ?_
  rfl
set_option maxHeartbeats 4000000 in
theorem c39 (c d : Bool) (w : Pl.Work) (i : Int) : PCall Try.prog 108 [workV c d w, iV i] (bV (decide (Pl.great w i))) := by
 refine pcall_of_awp Try.func108 rfl (by simp [Try.ntmps108]) fun C hC => ?_
 refine awp_sr [] (by rw [hC]; rfl) fun k hk => ?_
 simp (maxSteps := 9^9) (disch := (try simp only [lens]); omega) only [argSl, sm, ↓amb, mark_eq, simprocAttr, dx]
 repeat refine an ?_
 refine hk _ ?_; clear hk k
 refine awp_testD [] ⟨[0, 0, 3, 7, 15, 31, 63, 31, 255, 511, 1023, 31, 2079, 8191, 16383, 32767], [0, 6, 9, 12], [], [(2, 6), (2, 9), (2, 12)], some []⟩ 4 (decide (Pl.great w i)) [] (by rw [hC]; rfl) (by kernel_rfl) (by kernel_rfl) (fun gd hgd k hk => ?_) ?_
 ·have g4 : gd 4 = some 9 := by rw [hgd]; rfl
  clear hgd
  simp (maxSteps := 9^9) (disch := (try simp only [lens]); omega) only [argSl, sm, ↓amb, mark_eq, simprocAttr, sz88, en112, fl88_0, sz86, el86, sz118, en113, fl88_1, sz3, gcase_undef, g4, dx]
  repeat' first | refine hk _ _ rfl rfl rfl rfl ?_ | (refine gsplit (fun hg => ?_) (fun hg => ?_) <;> (try simp only [hbx] at hg) <;> (try (have q := Pl.ok_of hg; obtain ⟨_, hi0, hi1, hok, _, _, _, _⟩ := q; simp only [Pl.okT, Pl.task] at hok)) <;> simp (maxSteps := 9^9) (disch := (try simp only [lens]); omega) only [argSl, sm, ↓amb, mark_eq, simprocAttr, sz88, en112, fl88_0, sz86, el86, sz118, en113, fl88_1, sz3, gcase_undef, g4, dx]) | apply And.intro | (refine callK_p (c49 _ _ _ _) rfl ?_; (try simp (maxSteps := 9^9) (disch := (try simp only [lens]); omega) only [argSl, sm, ↓amb, mark_eq, simprocAttr, sz88, en112, fl88_0, sz86, el86, sz118, en113, fl88_1, sz3, gcase_undef, g4, dx])) | (refine callK_p (c50 (Pl.task w i) (by have := (Pl.ok_of hg).2.2.2.1; simp only [Pl.okT] at this; omega) (by have := (Pl.ok_of hg).2.2.2; simp only [Pl.okT] at this; omega) (by have := (Pl.ok_of hg).2.2.2; simp only [Pl.okT] at this; omega) (by have := (Pl.ok_of hg).2.2.2; simp only [Pl.okT] at this; omega)) rfl ?_; (try simp (maxSteps := 9^9) (disch := (try simp only [lens]); omega) only [argSl, sm, ↓amb, mark_eq, simprocAttr, sz88, en112, fl88_0, sz86, el86, sz118, en113, fl88_1, sz3, gcase_undef, g4, dx])) | fail
  all_goals first | rfl | omega | exact (decide_eq_true (by (try simp only [Pl.great] at *); omega)).symm | exact (decide_eq_false (by (try simp only [Pl.great] at *); omega)).symm | exact decide_eq_decide.mpr (by (try simp only [Pl.great] at *); omega) | (refine Bool.eq_iff_iff.mpr ?_; (try simp only [Pl.great] at *); simp only [beq_iff_eq, bne_iff_ne, ne_eq, decide_eq_true_eq]; omega) | (refine Bool.eq_iff_iff.mpr ?_; simp only [Bool.not_eq_true', Bool.not_eq_false', decide_eq_false_iff_not, decide_eq_true_eq, beq_iff_eq, bne_iff_ne, ne_eq]; (try simp only [Pl.great] at *); omega) | assumption | (simp; done) | (simp [maxLen]; omega) | skip
 simp only [kp, argSl, simprocAttr, List.length_cons, List.length_nil]
 refine awp_ret ?_
 refine ret1 rfl rfl ?_
 exact .p (LeP.refl _)
set_option maxHeartbeats 4000000 in
theorem c28 (c d : Bool) (w : Pl.Work) (i : Int) : PCall Try.prog 109 [workV c d w, iV i] (.tup [workV false false (Pl.partW w i), iV (Pl.partA w i), iV (Pl.partB w i), iV (Pl.partE w i)]) := by
 refine pcall_of_awp Try.func109 rfl (by simp [Try.ntmps109]) fun C hC => ?_
 refine awp_sr [64] (by rw [hC]; rfl) fun k hk => ?_
 simp (maxSteps := 9^9) (disch := (try simp only [lens]); omega) only [argSl, sm, ↓amb, mark_eq, simprocAttr, vr88, dx]
 repeat refine an ?_
 refine hk _ ?_; clear hk k
 refine awp_seq fun k1 h1 => ?_
 refine awp_sr [64] (by rw [hC]; rfl) fun k hk => ?_
 simp (maxSteps := 9^9) (disch := (try simp only [lens]); omega) only [argSl, sm, ↓amb, mark_eq, simprocAttr, sz88, en112, dx]
 repeat refine an ?_
 refine callK_p (c49 _ _ _ _) rfl ?_
 simp (maxSteps := 9^9) (disch := (try simp only [lens]); omega) only [argSl, sm, ↓amb, mark_eq, simprocAttr, sz88, en112, dx]
 repeat refine an ?_
 refine hk _ ?_; clear hk k
 refine awp_sr [64] (by rw [hC]; rfl) fun k hk => ?_
 simp (maxSteps := 9^9) (disch := (try simp only [lens]); omega) only [argSl, sm, ↓amb, mark_eq, simprocAttr, dx]
 repeat refine an ?_
 refine hk _ ?_; clear hk k
 refine awp_cond rfl (fun hb => ?_) (fun hb => ?_)
 ·try simp only [hbx] at hb
  refine awp_sr [64] (by rw [hC]; rfl) fun k hk => ?_
  simp (maxSteps := 9^9) (disch := (try simp only [lens]); omega) only [argSl, sm, ↓amb, mark_eq, simprocAttr, sz88, dx]
  repeat refine an ?_
  refine hk _ ?_; clear hk k
  refine awp_ret ?_
  obtain ⟨e1, e2, e3, e4⟩ := Pl.part_err (w := w) (i := i) (Pl.partE1 hb) (hb)
  rw [e1, e2, e3, e4]
  refine retl rfl rfl ⟨retc rfl sz88 ?_, rett rfl ?_, rett rfl ?_, rett rfl ?_, trivial⟩
  simp (maxSteps := 9^9) (disch := (try simp only [lens]); omega) only [argSl, sm, ↓amb, mark_eq, simprocAttr, sz88, dx]
  ·exact .p (LeP.agg (.cons (LeP.seq _ _) (.cons (LeP.refl _) (.cons (LeP.seq _ _) .nil))))
  ·exact .p (LeP.refl _)
  ·exact .p (LeP.refl _)
  ·exact .p (LeP.refl _)
 ·try simp only [hbx] at hb
  refine awp_skip ?_
  refine h1 _ ?_; clear h1 k1
  have hth := hb
  obtain ⟨hR, hi0, hi1, hok, hd1, hg1, hg2, ht1⟩ := Pl.ok_of hth
  simp only [Pl.okT, Pl.task] at hok
  have hin : i.toNat < w.ts.length := by omega
  refine awp_sr [64] (by rw [hC]; rfl) fun k hk => ?_
  simp (maxSteps := 9^9) (disch := (try simp only [lens]); omega) only [argSl, sm, ↓amb, mark_eq, simprocAttr, fl88_0, sz86, el86, sz118, vr118, dx]
  repeat refine an ?_
  refine hk _ ?_; clear hk k
  refine awp_sr [64] (by rw [hC]; rfl) fun k hk => ?_
  simp (maxSteps := 9^9) (disch := (try simp only [lens]); omega) only [argSl, sm, ↓amb, mark_eq, simprocAttr, fl88_0, sz86, el86, dx]
  repeat refine an ?_
  refine hk _ ?_; clear hk k
  refine awp_seq fun k2 h2 => ?_
  refine awp_block ?_
  refine awp_testD [64] ⟨[0, 1, 0, 4, 15, 31, 63, 127, 255, 511, 1023], [0, 3, 7], [], [(1, 7)], some []⟩ 27 (decide ((w.ts.getD i.toNat default).high - (w.ts.getD i.toNat default).low ≤ w.grain ∨ 0 < (w.ts.getD i.toNat default).wait)) [1, 2, 4, 5, 6, 7, 9, 10] (by rw [hC]; rfl) (by kernel_rfl) (by kernel_rfl) (fun gd hgd k hk => ?_) ?_
  ·have g5 : gd 5 = some 33 := by rw [hgd]; rfl
   clear hgd
   simp (maxSteps := 9^9) (disch := (try simp only [lens]); omega) only [argSl, sm, ↓amb, mark_eq, simprocAttr, sz118, en113, fl88_1, sz3, fl118_3, gcase_undef, g5, dx]
   repeat' first | refine hk _ _ rfl rfl rfl rfl ?_ | (refine gsplit (fun hg => ?_) (fun hg => ?_) <;> (try simp only [hbx] at hg) <;> simp (maxSteps := 9^9) (disch := (try simp only [lens]); omega) only [argSl, sm, ↓amb, mark_eq, simprocAttr, sz118, en113, fl88_1, sz3, fl118_3, gcase_undef, g5, dx]) | apply And.intro | (refine callK_p (c50 (w.ts.getD i.toNat default) (by omega) (by omega) (by omega) (by omega)) rfl ?_; (try simp (maxSteps := 9^9) (disch := (try simp only [lens]); omega) only [argSl, sm, ↓amb, mark_eq, simprocAttr, sz118, en113, fl88_1, sz3, fl118_3, gcase_undef, g5, dx])) | fail
   all_goals first | rfl | omega | exact (decide_eq_true (by omega)).symm | exact (decide_eq_false (by omega)).symm | exact decide_eq_decide.mpr (by omega) | (refine Bool.eq_iff_iff.mpr ?_; simp only [beq_iff_eq, bne_iff_ne, ne_eq, decide_eq_true_eq]; omega) | (refine Bool.eq_iff_iff.mpr ?_; simp only [Bool.not_eq_true', Bool.not_eq_false', decide_eq_false_iff_not, decide_eq_true_eq, beq_iff_eq, bne_iff_ne, ne_eq]; omega) | assumption | (simp; done) | (simp [maxLen]; omega) | skip
  simp only [kp, argSl, simprocAttr, List.length_cons, List.length_nil]
  refine awp_cond rfl (fun hb => ?_) (fun hb => ?_)
  ·try simp only [hbx] at hb
   refine awp_sr [64] (by rw [hC]; rfl) fun k hk => ?_
   simp (maxSteps := 9^9) (disch := (try simp only [lens]); omega) only [argSl, sm, ↓amb, mark_eq, simprocAttr, sz88, dx]
   repeat refine an ?_
   refine hk _ ?_; clear hk k
   refine awp_ret ?_
   obtain ⟨e1, e2, e3, e4⟩ := Pl.part_err (w := w) (i := i) (Pl.partE2 hth hb) (by decide)
   rw [e1, e2, e3, e4]
   refine retl rfl rfl ⟨retc rfl sz88 ?_, rett rfl ?_, rett rfl ?_, rett rfl ?_, trivial⟩
   simp (maxSteps := 9^9) (disch := (try simp only [lens]); omega) only [argSl, sm, ↓amb, mark_eq, simprocAttr, sz88, dx]
   ·exact .p (LeP.agg (.cons (LeP.seq _ _) (.cons (LeP.refl _) (.cons (LeP.seq _ _) .nil))))
   ·exact .p (LeP.refl _)
   ·exact .p (LeP.refl _)
   ·exact .p (LeP.refl _)
  ·try simp only [hbx] at hb
   have hgr := hb
   refine awp_sr [64] (by rw [hC]; rfl) fun k hk => ?_
   simp (maxSteps := 9^9) (disch := (try simp only [lens]); omega) only [argSl, sm, ↓amb, mark_eq, simprocAttr, dx]
   repeat refine an ?_
   refine hk _ ?_; clear hk k
   refine awp_cond rfl (fun hb => ?_) (fun hb => ?_)
   ·try simp only [hbx] at hb
    refine awp_sr [64] (by rw [hC]; rfl) fun k hk => ?_
    simp (maxSteps := 9^9) (disch := (try simp only [lens]); omega) only [argSl, sm, ↓amb, mark_eq, simprocAttr, sz88, dx]
    repeat refine an ?_
    refine hk _ ?_; clear hk k
    refine awp_ret ?_
    obtain ⟨e1, e2, e3, e4⟩ := Pl.part_err (w := w) (i := i) (Pl.partE3 hth hgr (by omega)) (by decide)
    rw [e1, e2, e3, e4]
    refine retl rfl rfl ⟨retc rfl sz88 ?_, rett rfl ?_, rett rfl ?_, rett rfl ?_, trivial⟩
    simp (maxSteps := 9^9) (disch := (try simp only [lens]); omega) only [argSl, sm, ↓amb, mark_eq, simprocAttr, sz88, dx]
    ·exact .p (LeP.agg (.cons (LeP.seq _ _) (.cons (LeP.refl _) (.cons (LeP.seq _ _) .nil))))
    ·exact .p (LeP.refl _)
    ·exact .p (LeP.refl _)
    ·exact .p (LeP.refl _)
   ·try simp only [hbx] at hb
    refine awp_skip ?_
    refine h2 _ ?_; clear h2 k2
    have h0 := Pl.partE0 hth hgr (by omega)
    refine awp_sd [64] ⟨[0, 1, 0, 4, 12, 31, 63], [1, 2], [], [], some []⟩ (by rw [hC]; rfl) (by kernel_rfl) (by kernel_rfl) fun k hk => ?_
    simp (maxSteps := 9^9) (disch := (try simp only [lens]); omega) only [argSl, sm, ↓amb, mark_eq, simprocAttr, fl118_0, sz3, sz118, en113, dx]
    repeat refine an ?_
    refine callK_p (c50 (w.ts.getD i.toNat default) (by omega) (by omega) (by omega) (by omega)) rfl ?_
    simp (maxSteps := 9^9) (disch := (try simp only [lens]); omega) only [argSl, sm, ↓amb, mark_eq, simprocAttr, fl118_0, sz3, sz118, en113, dx]
    repeat refine an ?_
    refine hk _ ?_; clear hk k
    refine awp_sd [64] ⟨[0, 1, 3, 0, 8, 0, 0, 120, 0, 0, 512, 0, 3840, 8184, 16383, 32767, 65535], [1, 4, 10], [14, 16], [(2, 14), (2, 16), (14, 16)], none⟩ (by rw [hC]; rfl) (by kernel_rfl) (by kernel_rfl) fun k hk => ?_
    simp (maxSteps := 9^9) (disch := (try simp only [lens]); omega) only [argSl, sm, ↓amb, mark_eq, simprocAttr, fl88_0, sz86, en114, fl118_0, sz3, vr118, bt118, pl118_0, pl118_1, pl118_2, fl118_1, el86, by118, dx]
    repeat refine an ?_
    refine callK_o (c51 _ _ (by omega)) rfl ?_
    simp (maxSteps := 9^9) (disch := (try simp only [lens]); omega) only [argSl, sm, ↓amb, mark_eq, simprocAttr, fl88_0, sz86, en114, fl118_0, sz3, vr118, bt118, pl118_0, pl118_1, pl118_2, fl118_1, el86, by118, dx]
    repeat refine an ?_
    refine hk _ ?_; clear hk k
    refine awp_sr [64] (by rw [hC]; rfl) fun k hk => ?_
    simp (maxSteps := 9^9) (disch := (try simp only [lens]); omega) only [argSl, sm, ↓amb, mark_eq, simprocAttr, fl88_0, sz86, el86, sz118, fl118_3, sz3, dx]
    repeat refine an ?_
    refine hk _ ?_; clear hk k
    refine awp_sr [64] (by rw [hC]; rfl) fun k hk => ?_
    simp (maxSteps := 9^9) (disch := (try simp only [lens]); omega) only [argSl, sm, ↓amb, mark_eq, simprocAttr, sz88, dx]
    repeat refine an ?_
    refine hk _ ?_; clear hk k
    refine awp_ret ?_
    obtain ⟨e1, e2, e3, e4⟩ := Pl.part_ok h0
    rw [e1, e2, e3, e4]
    refine retl rfl rfl ⟨retc rfl sz88 ?_, rett rfl ?_, rett rfl ?_, rett rfl ?_, trivial⟩
    simp (maxSteps := 9^9) (disch := (try simp only [lens]); omega) only [argSl, sm, ↓amb, mark_eq, simprocAttr, sz88, dx]
    ·exact .agg_cons (.ownE rfl (by simp [Pl.parted, Pl.mid, List.map_set, List.set_append_left _ _ (show i.toNat < (w.ts.map taskC).length by simpa using hin)])) (.agg_cons (.p (LeP.refl _)) (.agg_cons (.p (LeP.seq _ _)) (.agg_nil)))
    ·exact .p (LeP.refl _)
    ·exact .p (LeP.refl _)
    ·exact .p (LeP.refl _)
set_option maxHeartbeats 4000000 in
theorem c54 (k : Nat) (ts : List Pl.Task) (up : Int) (ho : Pl.upOk ts) (hup0 : -1 ≤ up) (hup1 : up < ts.length) (hup2 : up + 1 < k) (hl : ts.length ≤ 1000000) : HCall Try.prog 116 [.own 7, .p (iV up)] [(7, .row 4 (lift (ts.map taskC)))] (.p (bV (Pl.fin k ts up).2)) [(7, .row 4 (lift ((Pl.fin k ts up).1.map taskC)))] := by
 refine hcall_of_awp Try.func116 rfl (by simp [Try.ntmps116]) fun C hC => ?_
 refine awp_sr [] (by rw [hC]; rfl) fun k hk => ?_
 simp (maxSteps := 9^9) (disch := (try simp only [lens]); omega) only [argSl, sm, ↓amb, mark_eq, simprocAttr, dx]
 repeat refine an ?_
 refine hk _ ?_; clear hk k
 refine awp_seq fun k1 h1 => ?_
 refine awp_block ?_
 refine awp_loop (σ := Nat × List Pl.Task × Int) (fun x => Pl.fin x.1 x.2.1 x.2.2 = Pl.fin k ts up ∧ Pl.upOk x.2.1 ∧ x.2.1.length = ts.length ∧ -1 ≤ x.2.2 ∧ x.2.2 < ts.length ∧ x.2.2 + 1 < x.1) (fun x => ⟨[(0, (.own 7)), (1, (.p (iV x.2.2)))], [(7, (.row 4 (lift (x.2.1.map taskC))))], 1⟩) (fun x => x.1) (k, ts, up) ?_ ?_ fun x hx => ?_
 ·exact ⟨rfl, ho, rfl, hup0, hup1, hup2⟩
 ·exact le_of [] (by rfl) (by rfl) ⟨⟨_, rfl, .own rfl⟩, ⟨_, rfl, .oe⟩, trivial⟩ ⟨⟨_, rfl, _, rfl, .liftE (by first | rfl | rw [List.map_set])⟩, trivial⟩
 obtain ⟨q, us, p⟩ := x
 obtain ⟨hf, hu, hlen, hp0, hp1, hq⟩ := hx
 dsimp only at hf hu hlen hp0 hp1 hq
 obtain ⟨q, rfl⟩ : ∃ q', q = q' + 1 := ⟨q - 1, by omega⟩
 refine awp_seq fun k3 h3 => ?_
 refine awp_sr [] (by rw [hC]; rfl) fun k hk => ?_
 simp (maxSteps := 9^9) (disch := (try simp only [lens]); omega) only [argSl, sm, ↓amb, mark_eq, simprocAttr, dx]
 repeat refine an ?_
 refine hk _ ?_; clear hk k
 refine awp_cond rfl (fun hb => ?_) (fun hb => ?_)
 ·try simp only [hbx] at hb
  refine awp_skip ?_
  refine h3 _ ?_; clear h3 k3
  refine awp_block ?_
  have hpn := hb
  refine awp_sr [] (by rw [hC]; rfl) fun k hk => ?_
  simp (maxSteps := 9^9) (disch := (try simp only [lens]); omega) only [argSl, sm, ↓amb, mark_eq, simprocAttr, el86, sz118, dx]
  repeat refine an ?_
  refine hk _ ?_; clear hk k
  refine awp_seq fun k4 h4 => ?_
  have hup := hu p.toNat (by omega)
  refine awp_sr [] (by rw [hC]; rfl) fun k hk => ?_
  simp (maxSteps := 9^9) (disch := (try simp only [lens]); omega) only [argSl, sm, ↓amb, mark_eq, simprocAttr, fl118_3, sz3, dx]
  repeat refine an ?_
  refine hk _ ?_; clear hk k
  refine awp_cond rfl (fun hb => ?_) (fun hb => ?_)
  ·try simp only [hbx] at hb
   refine awp_sr [] (by rw [hC]; rfl) fun k hk => ?_
   simp (maxSteps := 9^9) (disch := (try simp only [lens]); omega) only [argSl, sm, ↓amb, mark_eq, simprocAttr, dx]
   repeat refine an ?_
   refine hk _ ?_; clear hk k
   refine awp_ret ?_
   refine reth1 rfl rfl ?_
   exact le_of [] (by rfl) (by rfl) ⟨⟨_, rfl, .p (.of_eq (by rw [← hf, Pl.fin_zero hpn hb]))⟩, trivial⟩ ⟨⟨_, rfl, _, rfl, .liftE (by rw [← hf, Pl.fin_zero hpn hb])⟩, trivial⟩
  ·try simp only [hbx] at hb
   refine awp_skip ?_
   refine h4 _ ?_; clear h4 k4
   refine awp_seq fun k5 h5 => ?_
   refine awp_sr [] (by rw [hC]; rfl) fun k hk => ?_
   simp (maxSteps := 9^9) (disch := (try simp only [lens]); omega) only [argSl, sm, ↓amb, mark_eq, simprocAttr, fl118_3, sz3, dx]
   repeat refine an ?_
   refine hk _ ?_; clear hk k
   refine awp_sr [] (by rw [hC]; rfl) fun k hk => ?_
   simp (maxSteps := 9^9) (disch := (try simp only [lens]); omega) only [argSl, sm, ↓amb, mark_eq, simprocAttr, fl118_3, sz3, dx]
   repeat refine an ?_
   refine hk _ ?_; clear hk k
   refine awp_cond rfl (fun hb => ?_) (fun hb => ?_)
   ·try simp only [hbx] at hb
    refine awp_sr [] (by rw [hC]; rfl) fun k hk => ?_
    simp (maxSteps := 9^9) (disch := (try simp only [lens]); omega) only [argSl, sm, ↓amb, mark_eq, simprocAttr, dx]
    repeat refine an ?_
    refine hk _ ?_; clear hk k
    refine awp_ret ?_
    refine reth1 rfl rfl ?_
    exact le_of [] (by rfl) (by rfl) ⟨⟨_, rfl, .p (.of_eq (by rw [← hf, Pl.fin_stop hpn (by omega) (by omega)]))⟩, trivial⟩ ⟨⟨_, rfl, _, rfl, .liftE (by rw [← hf, Pl.fin_stop hpn (by omega) (by omega)]; try rw [List.map_set])⟩, trivial⟩
   ·try simp only [hbx] at hb
    refine awp_skip ?_
    refine h5 _ ?_; clear h5 k5
    refine awp_region [] (by rw [hC]; rfl) fun k hk => ?_
    simp (maxSteps := 9^9) (disch := (try simp only [lens]); omega) only [argSl, sm, ↓amb, mark_eq, simprocAttr, fl118_2, sz3, dx]
    repeat refine an ?_
    refine hk _ ?_; clear hk k
    refine ⟨(q, us.set p.toNat { us.getD p.toNat default with wait := (us.getD p.toNat default).wait - 1 }, (us.getD p.toNat default).up), ⟨by rw [← hf, Pl.fin_on hpn (by omega) (by omega)], Pl.upOk_set hu (by omega) (by omega), by simpa using hlen, by show -1 ≤ (us.getD p.toNat default).up; omega, by show (us.getD p.toNat default).up < _; omega, by show (us.getD p.toNat default).up + 1 < (q : Int); omega⟩, le_of [] (by rfl) (by rfl) ⟨⟨_, rfl, .own rfl⟩, ⟨_, rfl, .oe⟩, trivial⟩ ⟨⟨_, rfl, _, rfl, .liftE (by first | rfl | rw [List.map_set])⟩, trivial⟩, Nat.lt_succ_self q⟩
 ·try simp only [hbx] at hb
  refine awp_exit ((if_pos rfl).mpr ?_)
  refine h1 _ ?_; clear h3 k3; clear h1 k1
  refine awp_sr [] (by rw [hC]; rfl) fun k hk => ?_
  simp (maxSteps := 9^9) (disch := (try simp only [lens]); omega) only [argSl, sm, ↓amb, mark_eq, simprocAttr, dx]
  repeat refine an ?_
  refine hk _ ?_; clear hk k
  refine awp_ret ?_
  have hpe : p = -1 := by omega
  subst hpe
  refine reth1 rfl rfl ?_
  exact le_of [] (by rfl) (by rfl) ⟨⟨_, rfl, .p (.of_eq (by rw [← hf, Pl.fin_end]))⟩, trivial⟩ ⟨⟨_, rfl, _, rfl, .liftE (by rw [← hf, Pl.fin_end])⟩, trivial⟩
set_option maxHeartbeats 4000000 in
theorem c30 (c d : Bool) (w : Pl.Work) (i : Int) : PCall Try.prog 111 [workV c d w, iV i] (.tup [workV false false (Pl.doW w i), bV (Pl.doO w i), iV (Pl.doE w i)]) := by
 refine pcall_of_awp Try.func111 rfl (by simp [Try.ntmps111]) fun C hC => ?_
 refine awp_le (le_keep [0, 1]) ?_
 simp only [kp, argSl, simprocAttr]
 refine awp_sr [] (by rw [hC]; rfl) fun k hk => ?_
 simp (maxSteps := 9^9) (disch := (try simp only [lens]); omega) only [argSl, sm, ↓amb, mark_eq, simprocAttr, vr88, dx]
 repeat refine an ?_
 refine hk _ ?_; clear hk k
 refine awp_seq fun k1 h1 => ?_
 refine awp_le (le_keep [1, 2, 4, 5, 6]) ?_
 simp only [kp, argSl, simprocAttr]
 refine awp_sr [] (by rw [hC]; rfl) fun k hk => ?_
 simp (maxSteps := 9^9) (disch := (try simp only [lens]); omega) only [argSl, sm, ↓amb, mark_eq, simprocAttr, sz88, en112, dx]
 repeat refine an ?_
 refine callK_p (c49 _ _ _ _) rfl ?_
 simp (maxSteps := 9^9) (disch := (try simp only [lens]); omega) only [argSl, sm, ↓amb, mark_eq, simprocAttr, sz88, en112, dx]
 repeat refine an ?_
 refine hk _ ?_; clear hk k
 refine awp_le (le_keep [1, 2, 4, 5, 6, 7]) ?_
 simp only [kp, argSl, simprocAttr]
 refine awp_sr [] (by rw [hC]; rfl) fun k hk => ?_
 simp (maxSteps := 9^9) (disch := (try simp only [lens]); omega) only [argSl, sm, ↓amb, mark_eq, simprocAttr, dx]
 repeat refine an ?_
 refine hk _ ?_; clear hk k
 refine awp_cond rfl (fun hb => ?_) (fun hb => ?_)
 ·try simp only [hbx] at hb
  refine awp_le (le_keep [2, 4, 7]) ?_
  simp only [kp, argSl, simprocAttr]
  refine awp_sr [] (by rw [hC]; rfl) fun k hk => ?_
  simp (maxSteps := 9^9) (disch := (try simp only [lens]); omega) only [argSl, sm, ↓amb, mark_eq, simprocAttr, sz88, dx]
  repeat refine an ?_
  refine hk _ ?_; clear hk k
  refine awp_ret ?_
  obtain ⟨e1, e2, e4⟩ := Pl.do_err (w := w) (i := i) (Pl.doE1 hb) (hb)
  rw [e1, e2, e4]
  refine retl rfl rfl ⟨retc rfl sz88 ?_, rett rfl ?_, rett rfl ?_, trivial⟩
  simp (maxSteps := 9^9) (disch := (try simp only [lens]); omega) only [argSl, sm, ↓amb, mark_eq, simprocAttr, sz88, dx]
  ·exact .p (LeP.agg (.cons (LeP.seq _ _) (.cons (LeP.refl _) (.cons (LeP.seq _ _) .nil))))
  ·exact .p (LeP.refl _)
  ·exact .p (LeP.refl _)
 ·try simp only [hbx] at hb
  refine awp_skip ?_
  refine h1 _ ?_; clear h1 k1
  refine awp_le (le_keep [1, 2, 4]) ?_
  simp only [kp, argSl, simprocAttr]
  have hth := hb
  obtain ⟨hR, hi0, hi1, hok, hd1, hg1, hg2, ht1⟩ := Pl.ok_of hth
  simp only [Pl.okT, Pl.task] at hok
  have hin : i.toNat < w.ts.length := by omega
  refine awp_sr [] (by rw [hC]; rfl) fun k hk => ?_
  simp (maxSteps := 9^9) (disch := (try simp only [lens]); omega) only [argSl, sm, ↓amb, mark_eq, simprocAttr, fl88_0, sz86, el86, sz118, vr118, dx]
  repeat refine an ?_
  refine hk _ ?_; clear hk k
  refine awp_seq fun k2 h2 => ?_
  refine awp_testD [] ⟨[0, 1, 0, 4, 15, 31, 63, 127, 255, 511, 1023, 2047, 4095, 2047, 10239, 32767, 65535, 131071], [0, 3, 7, 12, 14, 16], [], [(1, 7), (1, 12), (1, 14), (1, 16)], some []⟩ 39 (decide (w.grain < (w.ts.getD i.toNat default).high - (w.ts.getD i.toNat default).low ∨ 0 < (w.ts.getD i.toNat default).wait ∨ w.done.getD (w.ts.getD i.toNat default).low.toNat false = true)) [2, 4, 5, 6, 8] (by rw [hC]; rfl) (by kernel_rfl) (by kernel_rfl) (fun gd hgd k hk => ?_) ?_
  ·have g5 : gd 5 = some 27 := by rw [hgd]; rfl
   have g10 : gd 10 = some 32 := by rw [hgd]; rfl
   clear hgd
   simp (maxSteps := 9^9) (disch := (try simp only [lens]); omega) only [argSl, sm, ↓amb, mark_eq, simprocAttr, sz118, en113, fl88_1, sz3, fl118_3, fl88_2, sz23, fl118_0, el23, sz4, gcase_undef, g5, g10, dx]
   repeat' first | refine hk _ _ rfl rfl rfl rfl ?_ | (refine gsplit (fun hg => ?_) (fun hg => ?_) <;> (try simp only [hbx] at hg) <;> simp (maxSteps := 9^9) (disch := (try simp only [lens]); omega) only [argSl, sm, ↓amb, mark_eq, simprocAttr, sz118, en113, fl88_1, sz3, fl118_3, fl88_2, sz23, fl118_0, el23, sz4, gcase_undef, g5, g10, dx]) | apply And.intro | (refine callK_p (c50 (w.ts.getD i.toNat default) (by omega) (by omega) (by omega) (by omega)) rfl ?_; (try simp (maxSteps := 9^9) (disch := (try simp only [lens]); omega) only [argSl, sm, ↓amb, mark_eq, simprocAttr, sz118, en113, fl88_1, sz3, fl118_3, fl88_2, sz23, fl118_0, el23, sz4, gcase_undef, g5, g10, dx])) | fail
   all_goals first | rfl | omega | exact (decide_eq_true (by (try simp only [Pl.task] at *); omega)).symm | exact (decide_eq_false (by (try simp only [Pl.task] at *); omega)).symm | exact decide_eq_decide.mpr (by (try simp only [Pl.task] at *); omega) | (refine Bool.eq_iff_iff.mpr ?_; (try simp only [Pl.task] at *); simp only [beq_iff_eq, bne_iff_ne, ne_eq, decide_eq_true_eq]; omega) | (refine Bool.eq_iff_iff.mpr ?_; simp only [Bool.not_eq_true', Bool.not_eq_false', decide_eq_false_iff_not, decide_eq_true_eq, beq_iff_eq, bne_iff_ne, ne_eq]; (try simp only [Pl.task] at *); omega) | assumption | (simp; done) | (simp [maxLen]; omega) | skip
   all_goals (refine Bool.eq_iff_iff.mpr ?_; simp only [decide_eq_true_eq]; exact ⟨fun h => .inr (.inr h), fun h => by (rcases h with h | h | h; omega; omega; exact h)⟩)
  simp only [kp, argSl, simprocAttr, List.length_cons, List.length_nil]
  refine awp_cond rfl (fun hb => ?_) (fun hb => ?_)
  ·try simp only [hbx] at hb
   refine awp_le (le_keep [2, 4]) ?_
   simp only [kp, argSl, simprocAttr]
   refine awp_sr [] (by rw [hC]; rfl) fun k hk => ?_
   simp (maxSteps := 9^9) (disch := (try simp only [lens]); omega) only [argSl, sm, ↓amb, mark_eq, simprocAttr, sz88, dx]
   repeat refine an ?_
   refine hk _ ?_; clear hk k
   refine awp_ret ?_
   obtain ⟨e1, e2, e4⟩ := Pl.do_err (w := w) (i := i) (Pl.doE2 hth hb) (by decide)
   rw [e1, e2, e4]
   refine retl rfl rfl ⟨retc rfl sz88 ?_, rett rfl ?_, rett rfl ?_, trivial⟩
   simp (maxSteps := 9^9) (disch := (try simp only [lens]); omega) only [argSl, sm, ↓amb, mark_eq, simprocAttr, sz88, dx]
   ·exact .p (LeP.agg (.cons (LeP.seq _ _) (.cons (LeP.refl _) (.cons (LeP.seq _ _) .nil))))
   ·exact .p (LeP.refl _)
   ·exact .p (LeP.refl _)
  ·try simp only [hbx] at hb
   refine awp_skip ?_
   refine h2 _ ?_; clear h2 k2
   refine awp_le (le_keep [2, 4, 8]) ?_
   simp only [kp, argSl, simprocAttr]
   refine awp_sd [] ⟨[0, 1, 3, 0, 8, 31, 31, 127, 255, 511], [1, 4], [7, 9], [(2, 7), (5, 7), (2, 9), (5, 9)], none⟩ (by rw [hC]; rfl) (by kernel_rfl) (by kernel_rfl) fun k hk => ?_
   simp (maxSteps := 9^9) (disch := (try simp only [lens]); omega) only [argSl, sm, ↓amb, mark_eq, simprocAttr, fl88_0, sz86, en114, fl88_2, sz23, en115, dx]
   repeat refine an ?_
   refine callK_o (c51 _ _ (by omega)) rfl ?_
   simp (maxSteps := 9^9) (disch := (try simp only [lens]); omega) only [argSl, sm, ↓amb, mark_eq, simprocAttr, fl88_0, sz86, en114, fl88_2, sz23, en115, dx]
   repeat refine an ?_
   refine callK_o (c53 _ _ (by omega)) rfl ?_
   simp (maxSteps := 9^9) (disch := (try simp only [lens]); omega) only [argSl, sm, ↓amb, mark_eq, simprocAttr, fl88_0, sz86, en114, fl88_2, sz23, en115, dx]
   repeat refine an ?_
   refine hk _ ?_; clear hk k
   refine awp_seq fun k3 h3 => ?_
   refine awp_le (le_keep [2, 4, 5, 6, 8]) ?_
   simp only [kp, argSl, simprocAttr]
   have h0 := Pl.doE0 hth hb
   refine awp_sr [] (by rw [hC]; rfl) fun k hk => ?_
   simp (maxSteps := 9^9) (disch := (try simp only [lens]); omega) only [argSl, sm, ↓amb, mark_eq, simprocAttr, fl118_0, sz3, dx]
   repeat refine an ?_
   refine hk _ ?_; clear hk k
   refine awp_block ?_
   refine awp_loop (σ := Nat) (fun x => (w.ts.getD i.toNat default).low.toNat ≤ x ∧ x ≤ (w.ts.getD i.toNat default).high.toNat) (fun (x : Nat) => ⟨[(2, (.ptr 0 3 0 0)), (4, (.ptr 1 3 0 0)), (8, (.ptr 2 4 0 0)), (9, (.p (iV (x : Int))))], [(0, (.row 3 [[.own 3, .p (iV w.grain), .own 4]])), (1, (.row 3 [[.p (.seq true []), .p (iV 0), .p (.seq true [])]])), (2, (.row 4 [[.p (iV (w.ts.getD i.toNat default).low), .p (iV (w.ts.getD i.toNat default).high), .p (iV (w.ts.getD i.toNat default).up), .p (iV (w.ts.getD i.toNat default).wait)]])), (3, (.row 4 (lift (w.ts.map taskC)))), (4, (.row 1 (lift ((Pl.marked w.done (w.ts.getD i.toNat default).low.toNat x).map fun b => [bV b]))))], 1⟩) (fun x => (w.ts.getD i.toNat default).high.toNat - x) (w.ts.getD i.toNat default).low.toNat ?_ ?_ fun x hx => ?_
   ·exact ⟨Nat.le_refl _, by omega⟩
   ·exact le_of [(0, _), (1, _), (2, _), (3, _), (4, _)] (by rfl) (by rfl) ⟨⟨_, rfl, .ptr rfl⟩, ⟨_, rfl, .ptr rfl⟩, ⟨_, rfl, .ptr rfl⟩, ⟨_, rfl, .oe⟩, trivial⟩ ⟨⟨_, rfl, _, rfl, .one (.cons (.own rfl) (.cons (.p (.refl _)) (.cons (.own rfl) .nil)))⟩, ⟨_, rfl, _, rfl, .one (.cons (.p (.refl _)) (.cons (.p (.refl _)) (.cons (.p (.refl _)) .nil)))⟩, ⟨_, rfl, _, rfl, .one (.cons (.p (.refl _)) (.cons (.p (.refl _)) (.cons (.p (.refl _)) (.cons (.p (.refl _)) .nil))))⟩, ⟨_, rfl, _, rfl, .lift _⟩, ⟨_, rfl, _, rfl, .liftE (by first | (rw [Pl.marked_start]; done) | (rw [← Pl.marked_set (by omega) (by omega), List.map_set]; try simp; done))⟩, trivial⟩
   obtain ⟨hx1, hx2⟩ := hx
   have hml := Pl.marked_len (d := w.done) hx1 (by omega)
   refine awp_seq fun k5 h5 => ?_
   refine awp_le (le_keep [0, 1, 2, 3, 4, 5, 6, 8, 9]) ?_
   simp only [kp, argSl, simprocAttr]
   refine awp_sr [] (by rw [hC]; rfl) fun k hk => ?_
   simp (maxSteps := 9^9) (disch := (try simp only [lens]); omega) only [argSl, sm, ↓amb, mark_eq, simprocAttr, fl118_1, sz3, dx]
   repeat refine an ?_
   refine hk _ ?_; clear hk k
   refine awp_cond rfl (fun hb => ?_) (fun hb => ?_)
   ·try simp only [hbx] at hb
    refine awp_skip ?_
    refine h5 _ ?_; clear h5 k5
    refine awp_seq fun k6 h6 => ?_
    refine awp_block ?_
    refine awp_region [] (by rw [hC]; rfl) fun k hk => ?_
    simp (maxSteps := 9^9) (disch := (try simp only [lens]); omega) only [argSl, sm, ↓amb, mark_eq, simprocAttr, fl88_2, sz23, el23, sz4, dx]
    repeat refine an ?_
    refine hk _ ?_; clear hk k
    refine h6 _ ?_; clear h6 k6
    refine awp_region [] (by rw [hC]; rfl) fun k hk => ?_
    simp (maxSteps := 9^9) (disch := (try simp only [lens]); omega) only [argSl, sm, ↓amb, mark_eq, simprocAttr, dx]
    repeat refine an ?_
    refine hk _ ?_; clear hk k
    refine ⟨x + 1, ⟨by omega, by omega⟩, le_of [(0, _), (1, _), (2, _), (3, _), (4, _)] (by rfl) (by rfl) ⟨⟨_, rfl, .ptr rfl⟩, ⟨_, rfl, .ptr rfl⟩, ⟨_, rfl, .ptr rfl⟩, ⟨_, rfl, .oe⟩, trivial⟩ ⟨⟨_, rfl, _, rfl, .one (.cons (.own rfl) (.cons (.p (.refl _)) (.cons (.own rfl) .nil)))⟩, ⟨_, rfl, _, rfl, .one (.cons (.p (.refl _)) (.cons (.p (.refl _)) (.cons (.p (.refl _)) .nil)))⟩, ⟨_, rfl, _, rfl, .one (.cons (.p (.refl _)) (.cons (.p (.refl _)) (.cons (.p (.refl _)) (.cons (.p (.refl _)) .nil))))⟩, ⟨_, rfl, _, rfl, .lift _⟩, ⟨_, rfl, _, rfl, .liftE (by first | (rw [Pl.marked_start]; done) | (rw [← Pl.marked_set (by omega) (by omega), List.map_set]; try simp; done))⟩, trivial⟩, by omega⟩
   ·try simp only [hbx] at hb
    refine awp_exit ((if_pos rfl).mpr ?_)
    refine h3 _ ?_; clear h5 k5; clear h3 k3
    refine awp_le (le_keep [2, 4, 8]) ?_
    simp only [kp, argSl, simprocAttr]
    refine awp_sd [] ⟨[0, 0, 2, 0, 8, 30, 63, 127, 255], [], [5, 6], [(5, 6)], some [1, 3]⟩ (by rw [hC]; rfl) (by kernel_rfl) (by kernel_rfl) fun k hk => ?_
    simp (maxSteps := 9^9) (disch := (try simp only [lens]); omega) only [argSl, sm, ↓amb, mark_eq, simprocAttr, sz88, fl88_0, sz86, fl118_2, sz3, en116, dx]
    repeat refine an ?_
    refine callK_h (c54 (w.ts.length + 1) w.ts (w.ts.getD i.toNat default).up (Pl.upOk_of hR) (by omega) (by omega) (by omega) (by omega)) [3] [] (by first | rfl | (simp only [hm]; done)) (by first | rfl | (simp [namesOk, lkp]; done)) ?_ ?_ ?_ ?_ ?_ ?_ ?_
    (iterate 6 (focus (first | trivial | (intro n hn; cases hn; done) | (simp (maxSteps := 9^9) (disch := (try simp only [lens]); omega) only [argSl, sm, ↓amb, mark_eq, simprocAttr, sz88, fl88_0, sz86, fl118_2, sz3, en116, dx, hmx, List.filter_cons, Nat.reduceBNe, imp_self, implies_true]; done))))
    simp (maxSteps := 9^9) (disch := (try simp only [lens]); omega) only [argSl, sm, ↓amb, mark_eq, simprocAttr, sz88, fl88_0, sz86, fl118_2, sz3, en116, dx, hm, List.filter_cons, List.filter_nil, Nat.reduceBNe, Option.map_none]
    repeat refine an ?_
    refine hk _ ?_; clear hk k
    refine awp_ret ?_
    obtain ⟨e1, e2, e4⟩ := Pl.do_ok h0
    rw [e1, e2, e4]
    refine retl rfl rfl ⟨retc rfl sz88 ?_, rett rfl ?_, rett rfl ?_, trivial⟩
    simp (maxSteps := 9^9) (disch := (try simp only [lens]); omega) only [argSl, sm, ↓amb, mark_eq, simprocAttr, sz88, dx]
    ·exact .agg_cons (.ownE rfl (by rfl)) (.agg_cons (.p (LeP.refl _)) (.agg_cons (.ownE rfl (by simp only [Pl.did, Pl.task]; rw [show x = (w.ts.getD i.toNat default).high.toNat by omega])) (.agg_nil)))
    ·exact .p (LeP.refl _)
    ·exact .p (LeP.refl _)
set_option maxHeartbeats 4000000 in
theorem c47 (c : Bool) (l : List Int) (hl : l.length ≤ 1000000) : PCall Try.prog 110 [ints c l] (ints true l) := by
 refine pcall_of_awp Try.func110 rfl (by simp [Try.ntmps110]) fun C hC => ?_
 refine awp_sr [] (by rw [hC]; rfl) fun k hk => ?_
 simp (maxSteps := 9^9) (disch := (try simp only [lens]); omega) only [argSl, sm, ↓amb, mark_eq, simprocAttr, dx]
 repeat refine an ?_
 refine hk _ ?_; clear hk k
 refine awp_sr [] (by rw [hC]; rfl) fun k hk => ?_
 simp (maxSteps := 9^9) (disch := (try simp only [lens]); omega) only [argSl, sm, ↓amb, mark_eq, simprocAttr, el33, sz3, dx]
 repeat refine an ?_
 refine hk _ ?_; clear hk k
 refine awp_ret ?_
 refine ret1 rfl rfl ?_
 exact .p (LeP.of_eq (by simp))
end Go.Proofs.Ytbehekmnccoifaa
end
section
set_option linter.unusedSimpArgs false
set_option linter.unusedVariables false
set_option maxRecDepth 100000
namespace Go.Proofs.Ytbehekmnccoifaa
open Go.Am Go.Proofs
theorem bt112 : tBuilt Try.prog 112 = true := by kernel_rfl
theorem bt145 : tBuilt Try.prog 145 = true := by kernel_rfl
theorem en100 : enters Try.prog 100 = true := by kernel_rfl
theorem en101 : enters Try.prog 101 = true := by kernel_rfl
theorem en102 : enters Try.prog 102 = true := by kernel_rfl
theorem en103 : enters Try.prog 103 = true := by kernel_rfl
theorem en104 : enters Try.prog 104 = true := by kernel_rfl
theorem en106 : enters Try.prog 106 = true := by kernel_rfl
theorem en107 : enters Try.prog 107 = true := by kernel_rfl
theorem en108 : enters Try.prog 108 = true := by kernel_rfl
theorem en109 : enters Try.prog 109 = true := by kernel_rfl
theorem en110 : enters Try.prog 110 = true := by kernel_rfl
theorem en111 : enters Try.prog 111 = true := by kernel_rfl
theorem fl112_0 : tFld Try.prog 112 0 = some (0, 1, false) := by kernel_rfl
theorem fl112_1 : tFld Try.prog 112 1 = some (1, 1, false) := by kernel_rfl
theorem fl112_2 : tFld Try.prog 112 2 = some (2, 1, false) := by kernel_rfl
theorem fl112_3 : tFld Try.prog 112 3 = some (3, 1, false) := by kernel_rfl
theorem fl145_0 : tFld Try.prog 145 0 = some (0, 7, true) := by kernel_rfl
theorem fl145_1 : tFld Try.prog 145 1 = some (7, 4, true) := by kernel_rfl
theorem fl91_0 : tFld Try.prog 91 0 = some (0, 3, true) := by kernel_rfl
theorem fl91_2 : tFld Try.prog 91 2 = some (4, 1, false) := by kernel_rfl
theorem fl91_3 : tFld Try.prog 91 3 = some (5, 1, false) := by kernel_rfl
theorem fl91_4 : tFld Try.prog 91 4 = some (6, 1, false) := by kernel_rfl
theorem mt120 : tMap Try.prog 120 = some (1, 3) := by kernel_rfl
theorem pl112_1 : tPlace Try.prog 112 1 = some (1, 1) := by kernel_rfl
theorem pl112_2 : tPlace Try.prog 112 2 = some (2, 1) := by kernel_rfl
theorem pl145_0 : tPlace Try.prog 145 0 = some (0, 7) := by kernel_rfl
theorem pl145_1 : tPlace Try.prog 145 1 = some (7, 4) := by kernel_rfl
theorem sz112 : tSz Try.prog 112 = some (true, 4) := by kernel_rfl
theorem tz3 : tZero Try.prog 3 = some (.lit (.int .i64 0)) := by kernel_rfl
theorem vr112 : tVar Try.prog 112 = some (true, [.lit (.int .i64 0), .lit (.int .i64 0), .lit (.int .i64 0), .lit (.bool false)]) := by kernel_rfl
theorem vr145 : tVar Try.prog 145 = some (true, [.seq true [], .lit (.int .i64 0), .seq true [], .seq true [], .lit (.bool false), .lit (.int .i64 0), .lit (.int .i64 0), .lit (.int .i64 0), .lit (.int .i64 0), .lit (.int .i64 0), .lit (.bool false)]) := by kernel_rfl
set_option maxHeartbeats 4000000 in
theorem c62 (n : Int) : PCall Try.prog 106 [iV n] (bV (decide (0 ≤ n ∧ n ≤ 100000))) := by
 refine pcall_of_awp Try.func106 rfl (by simp [Try.ntmps106]) fun C hC => ?_
 refine awp_sr [] (by rw [hC]; rfl) fun k hk => ?_
 simp (maxSteps := 9^9) (disch := (try simp only [lens]); omega) only [argSl, sm, ↓amb, mark_eq, simprocAttr, dx]
 repeat refine an ?_
 refine hk _ ?_; clear hk k
 refine awp_test [] 2 (decide (0 ≤ n ∧ n ≤ 100000)) [] (by rw [hC]; rfl) (fun gd hgd k hk => ?_) ?_
 ·have g2 : gd 2 = some 5 := by rw [hgd]; rfl
  clear hgd
  simp (maxSteps := 9^9) (disch := (try simp only [lens]); omega) only [argSl, sm, ↓amb, mark_eq, simprocAttr, gcase_undef, g2, dx]
  repeat' first | refine hk _ _ rfl rfl rfl rfl ?_ | (refine gsplit (fun hg => ?_) (fun hg => ?_) <;> (try simp only [hbx] at hg) <;> simp (maxSteps := 9^9) (disch := (try simp only [lens]); omega) only [argSl, sm, ↓amb, mark_eq, simprocAttr, gcase_undef, g2, dx]) | apply And.intro | fail
  all_goals first | rfl | omega | exact (decide_eq_true (by omega)).symm | exact (decide_eq_false (by omega)).symm | exact decide_eq_decide.mpr (by omega) | (refine Bool.eq_iff_iff.mpr ?_; simp only [beq_iff_eq, bne_iff_ne, ne_eq, decide_eq_true_eq]; omega) | (refine Bool.eq_iff_iff.mpr ?_; simp only [Bool.not_eq_true', Bool.not_eq_false', decide_eq_false_iff_not, decide_eq_true_eq, beq_iff_eq, bne_iff_ne, ne_eq]; omega) | assumption | (simp; done) | (simp [maxLen]; omega) | skip
 simp only [kp, argSl, simprocAttr, List.length_cons, List.length_nil]
 refine awp_ret ?_
 refine ret1 rfl rfl ?_
 exact .p (LeP.refl _)
set_option maxHeartbeats 4000000 in
theorem c63 (c d : Bool) (w : Pl.Work) (t : Int) (hR : Pl.right w) : PCall Try.prog 107 [workV c d w, iV t] (bV (decide (Pl.holds w t))) := by
 refine pcall_of_awp Try.func107 rfl (by simp [Try.ntmps107]) fun C hC => ?_
 refine awp_sr [] (by rw [hC]; rfl) fun k hk => ?_
 simp (maxSteps := 9^9) (disch := (try simp only [lens]); omega) only [argSl, sm, ↓amb, mark_eq, simprocAttr, dx]
 repeat refine an ?_
 refine hk _ ?_; clear hk k
 refine awp_testD [] ⟨[0, 1, 3, 7, 7, 23, 55, 127, 255, 511, 1023, 2047, 1023, 8191, 16383, 32767, 65535, 131071, 262143, 524287, 524287, 2097151, 4194303, 8388607, 16777215, 8388607, 41943039, 8388607, 243269631, 511705087, 1048575999, 2147483647, 4294967295, 8589934591, 17179869183, 34359738367, 68719476735], [5, 6, 11, 15, 19, 24, 26, 30, 32], [], [(21, 24), (21, 26), (21, 30), (21, 32)], some []⟩ 4 (decide (Pl.holds w t)) [] (by rw [hC]; rfl) (by kernel_rfl) (by kernel_rfl) (fun gd hgd k hk => ?_) ?_
 ·have g2 : gd 2 = some 7 := by rw [hgd]; rfl
  have g9 : gd 9 = some 14 := by rw [hgd]; rfl
  have g18 : gd 18 = some 23 := by rw [hgd]; rfl
  have g22 : gd 22 = some 27 := by rw [hgd]; rfl
  clear hgd
  simp (maxSteps := 9^9) (disch := (try simp only [lens]); omega) only [argSl, sm, ↓amb, mark_eq, simprocAttr, fl88_0, sz86, el86, sz118, fl118_3, sz3, sz88, en108, fl88_2, sz23, fl118_0, el23, sz4, gcase_undef, g2, g9, g18, g22, dx]
  repeat' first | refine hk _ _ rfl rfl rfl rfl ?_ | (refine gsplit (fun hg => ?_) (fun hg => ?_) <;> (try simp only [hbx] at hg) <;> (try (have hin : t.toNat < w.ts.length := by omega); try (have hok := hR.2.2.2 t.toNat hin; simp only [Pl.okT] at hok; have hcn := hR.1; simp only [Pl.cnt] at hcn)) <;> simp (maxSteps := 9^9) (disch := (try simp only [lens]); omega) only [argSl, sm, ↓amb, mark_eq, simprocAttr, fl88_0, sz86, el86, sz118, fl118_3, sz3, sz88, en108, fl88_2, sz23, fl118_0, el23, sz4, gcase_undef, g2, g9, g18, g22, dx]) | apply And.intro | (refine callK_p (c39 _ _ _ _) rfl ?_; (try simp (maxSteps := 9^9) (disch := (try simp only [lens]); omega) only [argSl, sm, ↓amb, mark_eq, simprocAttr, fl88_0, sz86, el86, sz118, fl118_3, sz3, sz88, en108, fl88_2, sz23, fl118_0, el23, sz4, gcase_undef, g2, g9, g18, g22, dx])) | fail
  all_goals first | rfl | omega | exact (decide_eq_true (by (try simp only [Pl.holds] at *); omega)).symm | exact (decide_eq_false (by (try simp only [Pl.holds] at *); omega)).symm | exact decide_eq_decide.mpr (by (try simp only [Pl.holds] at *); omega) | (refine Bool.eq_iff_iff.mpr ?_; (try simp only [Pl.holds] at *); simp only [beq_iff_eq, bne_iff_ne, ne_eq, decide_eq_true_eq]; omega) | (refine Bool.eq_iff_iff.mpr ?_; simp only [Bool.not_eq_true', Bool.not_eq_false', decide_eq_false_iff_not, decide_eq_true_eq, beq_iff_eq, bne_iff_ne, ne_eq]; (try simp only [Pl.holds] at *); omega) | assumption | (simp; done) | (simp [maxLen]; omega) | skip
  all_goals first | exact (decide_eq_false (by simp only [Pl.holds, Pl.task]; intro h; omega)).symm | exact (decide_eq_true ⟨by omega, by omega, by assumption, .inl (by assumption)⟩).symm | (refine Bool.eq_iff_iff.mpr ?_; rw [decide_eq_true_iff, Bool.not_eq_true']; exact ⟨fun h => ⟨by omega, by omega, by assumption, .inr h⟩, fun h => by (rcases h.2.2.2 with q | q; exact absurd q (by assumption); exact q)⟩)
 simp only [kp, argSl, simprocAttr, List.length_cons, List.length_nil]
 refine awp_ret ?_
 refine ret1 rfl rfl ?_
 exact .p (LeP.refl _)
set_option maxHeartbeats 4000000 in
theorem c45 (c : Pl.Crew) (hb' : Pl.held c.dq ≤ 1000000000) (hd : c.dq.length ≤ 1000000) : PCall Try.prog 95 [.agg (crewC c)] (iV (Pl.held c.dq)) := by
 refine pcall_of_awp Try.func95 rfl (by simp [Try.ntmps95]) fun C hC => ?_
 refine awp_le (le_keep [0]) ?_
 simp only [kp, argSl, simprocAttr]
 refine awp_sr [] (by rw [hC]; rfl) fun k hk => ?_
 simp (maxSteps := 9^9) (disch := (try simp only [lens]); omega) only [argSl, sm, ↓amb, mark_eq, simprocAttr, dx]
 repeat refine an ?_
 refine hk _ ?_; clear hk k
 refine awp_seq fun k1 h1 => ?_
 refine awp_le (le_keep [1, 2]) ?_
 simp only [kp, argSl, simprocAttr]
 refine awp_sr [] (by rw [hC]; rfl) fun k hk => ?_
 simp (maxSteps := 9^9) (disch := (try simp only [lens]); omega) only [argSl, sm, ↓amb, mark_eq, simprocAttr, fl91_1, sz89, el89, dx]
 repeat refine an ?_
 refine hk _ ?_; clear hk k
 refine awp_block ?_
 refine awp_loop (σ := Nat) (fun i => i ≤ c.dq.length) (fun (i : Nat) => ⟨[(2, (.p (iV (Pl.held (c.dq.take i))))), (6, (.p (.seq false (c.dq.map lV)))), (7, (.p (iV c.dq.length))), (8, (.p (iV i)))], [], 1⟩) (fun i => c.dq.length - i) 0 ?_ ?_ fun x hx => ?_
 ·exact Nat.zero_le _
 ·exact le_of [] (by rfl) (by rfl) ⟨⟨_, rfl, .p (.of_eq (by first | rfl | (rw [Pl.held_take_succ c.dq x (by omega)]; simp only [PV.lit.injEq, Value.int.injEq, true_and]; omega)))⟩, ⟨_, rfl, .oe⟩, ⟨_, rfl, .oe⟩, ⟨_, rfl, .oe⟩, trivial⟩ trivial
 refine awp_le (le_keep [2, 6, 7, 8]) ?_
 simp only [kp, argSl, simprocAttr]
 refine awp_sr [] (by rw [hC]; rfl) fun k hk => ?_
 simp (maxSteps := 9^9) (disch := (try simp only [lens]); omega) only [argSl, sm, ↓amb, mark_eq, simprocAttr, dx]
 repeat refine an ?_
 refine hk _ ?_; clear hk k
 refine awp_seq fun k3 h3 => ?_
 refine awp_cond rfl (fun hb => ?_) (fun hb => ?_)
 ·try simp only [hbx] at hb
  refine awp_skip ?_
  refine h3 _ ?_; clear h3 k3
  refine awp_seq fun k4 h4 => ?_
  refine awp_block ?_
  refine awp_le (le_keep [2, 6, 7, 8]) ?_
  simp only [kp, argSl, simprocAttr]
  have hs := Pl.held_take_succ c.dq x (by omega)
  have hl := Pl.held_le c.dq (x + 1)
  refine awp_sr [] (by rw [hC]; rfl) fun k hk => ?_
  simp (maxSteps := 9^9) (disch := (try simp only [lens]); omega) only [argSl, sm, ↓amb, mark_eq, simprocAttr, el89, sz33, dx]
  repeat refine an ?_
  refine hk _ ?_; clear hk k
  refine awp_region [] (by rw [hC]; rfl) fun k hk => ?_
  simp (maxSteps := 9^9) (disch := (try simp only [lens]); omega) only [argSl, sm, ↓amb, mark_eq, simprocAttr, el33, dx]
  repeat refine an ?_
  refine hk _ ?_; clear hk k
  refine h4 _ ?_; clear h4 k4
  refine awp_region [] (by rw [hC]; rfl) fun k hk => ?_
  simp (maxSteps := 9^9) (disch := (try simp only [lens]); omega) only [argSl, sm, ↓amb, mark_eq, simprocAttr, dx]
  repeat refine an ?_
  refine hk _ ?_; clear hk k
  refine ⟨x + 1, by omega, le_of [] (by rfl) (by rfl) ⟨⟨_, rfl, .p (.of_eq (by first | rfl | (rw [Pl.held_take_succ c.dq x (by omega)]; simp only [PV.lit.injEq, Value.int.injEq, true_and]; omega)))⟩, ⟨_, rfl, .oe⟩, ⟨_, rfl, .oe⟩, ⟨_, rfl, .oe⟩, trivial⟩ trivial, by omega⟩
 ·try simp only [hbx] at hb
  refine awp_exit ((if_pos rfl).mpr ?_)
  refine h1 _ ?_; clear h3 k3; clear h1 k1
  refine awp_le (le_keep [2]) ?_
  simp only [kp, argSl, simprocAttr]
  have hx2 : c.dq.take x = c.dq := List.take_of_length_le (by omega)
  rw [hx2]
  refine awp_sr [] (by rw [hC]; rfl) fun k hk => ?_
  simp (maxSteps := 9^9) (disch := (try simp only [lens]); omega) only [argSl, sm, ↓amb, mark_eq, simprocAttr, dx]
  repeat refine an ?_
  refine hk _ ?_; clear hk k
  refine awp_ret ?_
  refine ret1 rfl rfl ?_
  exact .p (LeP.refl _)
set_option maxHeartbeats 4000000 in
theorem c44 (c : Pl.Crew) (hl : ∀ l, l ∈ c.dq → l.length ≤ 1000000 ∧ ∀ t, t ∈ l → -9223372036854775808 ≤ t ∧ t ≤ 9223372036854775807) : PCall Try.prog 100 [.agg (crewC c)] (bV (decide (Pl.crewRight c))) := by
 refine pcall_of_awp Try.func100 rfl (by simp [Try.ntmps100]) fun C hC => ?_
 refine awp_le (le_keep [0]) ?_
 simp only [kp, argSl, simprocAttr]
 refine awp_sr [] (by rw [hC]; rfl) fun k hk => ?_
 simp (maxSteps := 9^9) (disch := (try simp only [lens]); omega) only [argSl, sm, ↓amb, mark_eq, simprocAttr, taskC, lV, Pl.metM_get, Pl.metM_set, dx]
 repeat refine an ?_
 refine hk _ ?_; clear hk k
 refine awp_seq fun k1 h1 => ?_
 refine awp_test [] 35 (decide (¬ (Pl.right c.work ∧ 1 ≤ c.dq.length ∧ c.dq.length ≤ 8 ∧ (0 ≤ c.steps ∧ c.steps ≤ 100000) ∧ (0 ≤ c.idle ∧ c.idle ≤ 100000)))) [1, 2] (by rw [hC]; rfl) (fun gd hgd k hk => ?_) ?_
 ·have g4 : gd 4 = some 12 := by rw [hgd]; rfl
  have g10 : gd 10 = some 18 := by rw [hgd]; rfl
  have g16 : gd 16 = some 24 := by rw [hgd]; rfl
  have g22 : gd 22 = some 30 := by rw [hgd]; rfl
  clear hgd
  simp (maxSteps := 9^9) (disch := (try simp only [lens]); omega) only [argSl, sm, ↓amb, mark_eq, simprocAttr, fl91_0, sz88, en105, fl91_1, sz89, el89, fl91_3, sz3, en106, fl91_4, gcase_undef, g4, g10, g16, g22, taskC, lV, Pl.metM_get, Pl.metM_set, dx]
  repeat' first | refine hk _ _ rfl rfl rfl rfl ?_ | (refine gsplit (fun hg => ?_) (fun hg => ?_) <;> (try simp only [hbx] at hg) <;> simp (maxSteps := 9^9) (disch := (try simp only [lens]); omega) only [argSl, sm, ↓amb, mark_eq, simprocAttr, fl91_0, sz88, en105, fl91_1, sz89, el89, fl91_3, sz3, en106, fl91_4, gcase_undef, g4, g10, g16, g22, taskC, lV, Pl.metM_get, Pl.metM_set, dx]) | apply And.intro | (refine callK_p (c37 _ _ _) rfl ?_; (try simp (maxSteps := 9^9) (disch := (try simp only [lens]); omega) only [argSl, sm, ↓amb, mark_eq, simprocAttr, fl91_0, sz88, en105, fl91_1, sz89, el89, fl91_3, sz3, en106, fl91_4, gcase_undef, g4, g10, g16, g22, taskC, lV, Pl.metM_get, Pl.metM_set, dx])) | (refine callK_p (c62 _) rfl ?_; (try simp (maxSteps := 9^9) (disch := (try simp only [lens]); omega) only [argSl, sm, ↓amb, mark_eq, simprocAttr, fl91_0, sz88, en105, fl91_1, sz89, el89, fl91_3, sz3, en106, fl91_4, gcase_undef, g4, g10, g16, g22, taskC, lV, Pl.metM_get, Pl.metM_set, dx])) | (refine callK_p (c62 _) rfl ?_; (try simp (maxSteps := 9^9) (disch := (try simp only [lens]); omega) only [argSl, sm, ↓amb, mark_eq, simprocAttr, fl91_0, sz88, en105, fl91_1, sz89, el89, fl91_3, sz3, en106, fl91_4, gcase_undef, g4, g10, g16, g22, taskC, lV, Pl.metM_get, Pl.metM_set, dx])) | fail
  all_goals first | rfl | omega | exact (decide_eq_true (by omega)).symm | exact (decide_eq_false (by omega)).symm | exact decide_eq_decide.mpr (by omega) | (refine Bool.eq_iff_iff.mpr ?_; simp only [beq_iff_eq, bne_iff_ne, ne_eq, decide_eq_true_eq]; omega) | (refine Bool.eq_iff_iff.mpr ?_; simp only [Bool.not_eq_true', Bool.not_eq_false', decide_eq_false_iff_not, decide_eq_true_eq, beq_iff_eq, bne_iff_ne, ne_eq]; omega) | assumption | (simp; done) | (simp [maxLen]; omega) | skip
  all_goals first | (refine Eq.symm (decide_eq_true ?_); intro q; exact absurd q.1 (by assumption)) | (rw [← decide_not]; exact decide_eq_decide.mpr ⟨fun h q => h q.2.2.2.2, fun h q => h ⟨by assumption, by omega, by omega, by assumption, q⟩⟩) | (refine Eq.symm (decide_eq_true ?_); intro q; exact absurd q.2.2.2.1 (by assumption))
 simp only [kp, argSl, simprocAttr, List.length_cons, List.length_nil]
 refine awp_cond rfl (fun hb => ?_) (fun hb => ?_)
 ·try simp only [hbx] at hb
  refine awp_le (le_keep []) ?_
  simp only [kp, argSl, simprocAttr]
  refine awp_sr [] (by rw [hC]; rfl) fun k hk => ?_
  simp (maxSteps := 9^9) (disch := (try simp only [lens]); omega) only [argSl, sm, ↓amb, mark_eq, simprocAttr, taskC, lV, Pl.metM_get, Pl.metM_set, dx]
  repeat refine an ?_
  refine hk _ ?_; clear hk k
  refine awp_ret ?_
  refine ret1 rfl rfl ?_
  exact .p (LeP.of_eq (by rw [decide_eq_false (fun q => hb ⟨q.1, q.2.1, q.2.2.1, q.2.2.2.1, q.2.2.2.2.1⟩)]))
 ·try simp only [hbx] at hb
  refine awp_skip ?_
  refine h1 _ ?_; clear h1 k1
  refine awp_le (le_keep [1]) ?_
  simp only [kp, argSl, simprocAttr]
  have hb1 := hb
  have hR := hb1.1
  refine awp_sr [] (by rw [hC]; rfl) fun k hk => ?_
  simp (maxSteps := 9^9) (disch := (try simp only [lens]); omega) only [argSl, sm, ↓amb, mark_eq, simprocAttr, mt120, taskC, lV, Pl.metM_get, Pl.metM_set, dx]
  repeat refine an ?_
  refine hk _ ?_; clear hk k
  refine awp_seq fun k2 h2 => ?_
  refine awp_le (le_keep [1, 2, 3]) ?_
  simp only [kp, argSl, simprocAttr]
  refine awp_sr [] (by rw [hC]; rfl) fun k hk => ?_
  simp (maxSteps := 9^9) (disch := (try simp only [lens]); omega) only [argSl, sm, ↓amb, mark_eq, simprocAttr, fl91_1, sz89, el89, taskC, lV, Pl.metM_get, Pl.metM_set, dx]
  repeat refine an ?_
  refine hk _ ?_; clear hk k
  refine awp_block ?_
  refine awp_loop (σ := Nat) (fun i => i ≤ c.dq.length ∧ Pl.metOk c.work (c.dq.take i).flatten) (fun (i : Nat) => ⟨[(1, (.ptr 0 7 0 0)), (3, (.mp 1)), (38, (.p (.seq false (c.dq.map lV)))), (39, (.p (iV c.dq.length))), (40, (.p (iV i)))], [(0, (.row 7 [[.p (.seq false (c.work.ts.map taskC)), .p (iV c.work.grain), .p (.seq false (c.work.done.map fun b => [bV b])), .p (.seq false (c.dq.map lV)), .p (bV c.over), .p (iV c.steps), .p (iV c.idle)]])), (1, (.map 1 (Pl.metM (c.dq.take i).flatten)))], 1⟩) (fun i => c.dq.length - i) 0 ?_ ?_ fun x hx => ?_
  ·exact ⟨Nat.zero_le _, Pl.metOk_nil _⟩
  ·exact le_of [(0, _), (1, _)] (by rfl) (by rfl) ⟨⟨_, rfl, .ptr rfl⟩, ⟨_, rfl, .mp rfl⟩, ⟨_, rfl, .oe⟩, ⟨_, rfl, .oe⟩, ⟨_, rfl, .oe⟩, trivial⟩ ⟨⟨_, rfl, _, rfl, .one (.cons (.p (.refl _)) (.cons (.p (.refl _)) (.cons (.p (.refl _)) (.cons (.p (.refl _)) (.cons (.p (.refl _)) (.cons (.p (.refl _)) (.cons (.p (.refl _)) (.nil))))))))⟩, ⟨_, rfl, _, rfl, ⟨rfl, by first | exact Pl.metM_nil | (rw [Pl.flat_succ c.dq x (by omega), List.take_of_length_le (l := (c.dq.getD x default)) (i := y) (by omega)])⟩⟩, trivial⟩
  obtain ⟨hx1, hx2⟩ := hx
  refine awp_le (le_keep [0, 1, 2, 3, 38, 39, 40]) ?_
  simp only [kp, argSl, simprocAttr]
  refine awp_sr [] (by rw [hC]; rfl) fun k hk => ?_
  simp (maxSteps := 9^9) (disch := (try simp only [lens]); omega) only [argSl, sm, ↓amb, mark_eq, simprocAttr, taskC, lV, Pl.metM_get, Pl.metM_set, dx]
  repeat refine an ?_
  refine hk _ ?_; clear hk k
  refine awp_seq fun k4 h4 => ?_
  refine awp_cond rfl (fun hb => ?_) (fun hb => ?_)
  ·try simp only [hbx] at hb
   refine awp_skip ?_
   refine h4 _ ?_; clear h4 k4
   refine awp_seq fun k5 h5 => ?_
   refine awp_block ?_
   refine awp_le (le_keep [0, 1, 2, 3, 38, 39, 40]) ?_
   simp only [kp, argSl, simprocAttr]
   refine awp_sr [] (by rw [hC]; rfl) fun k hk => ?_
   simp (maxSteps := 9^9) (disch := (try simp only [lens]); omega) only [argSl, sm, ↓amb, mark_eq, simprocAttr, el89, sz33, taskC, lV, Pl.metM_get, Pl.metM_set, dx]
   repeat refine an ?_
   refine hk _ ?_; clear hk k
   refine awp_le (le_keep [0, 1, 2, 3, 5, 38, 39, 40]) ?_
   simp only [kp, argSl, simprocAttr]
   have hll := hl (c.dq.getD x default) (Pl.getD_mem _ _ _ (by omega))
   refine awp_sr [] (by rw [hC]; rfl) fun k hk => ?_
   simp (maxSteps := 9^9) (disch := (try simp only [lens]); omega) only [argSl, sm, ↓amb, mark_eq, simprocAttr, el33, taskC, lV, Pl.metM_get, Pl.metM_set, dx]
   repeat refine an ?_
   refine hk _ ?_; clear hk k
   refine awp_block ?_
   refine awp_loop (σ := Nat) (fun y => y ≤ (c.dq.getD x default).length ∧ Pl.metOk c.work ((c.dq.take x).flatten ++ (c.dq.getD x default).take y)) (fun (y : Nat) => ⟨[(1, (.ptr 0 7 0 0)), (3, (.mp 1)), (38, (.p (.seq false (c.dq.map lV)))), (39, (.p (iV c.dq.length))), (40, (.p (iV x))), (44, (.p (.seq false ((c.dq.getD x default).map fun n => [iV n])))), (45, (.p (iV (c.dq.getD x default).length))), (46, (.p (iV y)))], [(0, (.row 7 [[.p (.seq false (c.work.ts.map taskC)), .p (iV c.work.grain), .p (.seq false (c.work.done.map fun b => [bV b])), .p (.seq false (c.dq.map lV)), .p (bV c.over), .p (iV c.steps), .p (iV c.idle)]])), (1, (.map 1 (Pl.metM ((c.dq.take x).flatten ++ (c.dq.getD x default).take y))))], 1⟩) (fun y => (c.dq.getD x default).length - y) 0 ?_ ?_ fun y hy => ?_
   ·exact ⟨Nat.zero_le _, by rw [List.take_zero, List.append_nil]; exact hx2⟩
   ·exact le_of [(0, _), (1, _)] (by rfl) (by rfl) ⟨⟨_, rfl, .ptr rfl⟩, ⟨_, rfl, .mp rfl⟩, ⟨_, rfl, .oe⟩, ⟨_, rfl, .oe⟩, ⟨_, rfl, .oe⟩, ⟨_, rfl, .oe⟩, ⟨_, rfl, .oe⟩, ⟨_, rfl, .oe⟩, trivial⟩ ⟨⟨_, rfl, _, rfl, .one (.cons (.p (.refl _)) (.cons (.p (.refl _)) (.cons (.p (.refl _)) (.cons (.p (.refl _)) (.cons (.p (.refl _)) (.cons (.p (.refl _)) (.cons (.p (.refl _)) (.nil))))))))⟩, ⟨_, rfl, _, rfl, ⟨rfl, by first | (rw [List.take_zero, List.append_nil]; done) | (rw [Pl.take_succ_at _ _ (by omega), ← List.append_assoc]; rfl)⟩⟩, trivial⟩
   obtain ⟨hy1, hy2⟩ := hy
   refine awp_le (le_keep [0, 1, 2, 3, 38, 39, 40, 44, 45, 46]) ?_
   simp only [kp, argSl, simprocAttr]
   refine awp_sr [] (by rw [hC]; rfl) fun k hk => ?_
   simp (maxSteps := 9^9) (disch := (try simp only [lens]); omega) only [argSl, sm, ↓amb, mark_eq, simprocAttr, taskC, lV, Pl.metM_get, Pl.metM_set, dx]
   repeat refine an ?_
   refine hk _ ?_; clear hk k
   refine awp_seq fun k7 h7 => ?_
   refine awp_cond rfl (fun hb => ?_) (fun hb => ?_)
   ·try simp only [hbx] at hb
    refine awp_skip ?_
    refine h7 _ ?_; clear h7 k7
    refine awp_seq fun k8 h8 => ?_
    refine awp_block ?_
    refine awp_le (le_keep [0, 1, 2, 3, 38, 39, 40, 44, 45, 46]) ?_
    simp only [kp, argSl, simprocAttr]
    refine awp_sr [] (by rw [hC]; rfl) fun k hk => ?_
    simp (maxSteps := 9^9) (disch := (try simp only [lens]); omega) only [argSl, sm, ↓amb, mark_eq, simprocAttr, el33, sz3, taskC, lV, Pl.metM_get, Pl.metM_set, dx]
    repeat refine an ?_
    refine hk _ ?_; clear hk k
    refine awp_le (le_keep [0, 1, 2, 3, 7, 38, 39, 40, 44, 45, 46]) ?_
    simp only [kp, argSl, simprocAttr]
    have hkl := hll.2 ((c.dq.getD x default).getD y 0) (Pl.getD_mem _ _ _ (by omega))
    have hcl : (((c.dq.take x).flatten ++ (c.dq.getD x default).take y).count ((c.dq.getD x default).getD y 0)) ≤ 1 := List.nodup_iff_count.1 hy2.1 _
    refine awp_sr [] (by rw [hC]; rfl) fun k hk => ?_
    simp (maxSteps := 9^9) (disch := (try simp only [lens]); omega) only [argSl, sm, ↓amb, mark_eq, simprocAttr, mt120, tz3, taskC, lV, Pl.metM_get, Pl.metM_set, dx]
    repeat refine an ?_
    refine hk _ ?_; clear hk k
    refine awp_test [] 64 (decide (1 < ((((c.dq.take x).flatten ++ (c.dq.getD x default).take y) ++ [((c.dq.getD x default).getD y 0)]).count ((c.dq.getD x default).getD y 0) : Int) ∨ ¬ Pl.holds c.work ((c.dq.getD x default).getD y 0))) [0, 1, 2, 3, 38, 39, 40, 44, 45, 46] (by rw [hC]; rfl) (fun gd hgd k hk => ?_) ?_
    ·have g4 : gd 4 = some 58 := by rw [hgd]; rfl
     clear hgd
     simp (maxSteps := 9^9) (disch := (try simp only [lens]); omega) only [argSl, sm, ↓amb, mark_eq, simprocAttr, mt120, tz3, fl91_0, sz88, en107, gcase_undef, g4, taskC, lV, Pl.metM_get, Pl.metM_set, dx]
     repeat' first | refine hk _ _ rfl rfl rfl rfl ?_ | (refine gsplit (fun hg => ?_) (fun hg => ?_) <;> (try simp only [hbx] at hg) <;> simp (maxSteps := 9^9) (disch := (try simp only [lens]); omega) only [argSl, sm, ↓amb, mark_eq, simprocAttr, mt120, tz3, fl91_0, sz88, en107, gcase_undef, g4, taskC, lV, Pl.metM_get, Pl.metM_set, dx]) | apply And.intro | (refine callK_p (c63 _ _ _ _ hR) rfl ?_; (try simp (maxSteps := 9^9) (disch := (try simp only [lens]); omega) only [argSl, sm, ↓amb, mark_eq, simprocAttr, mt120, tz3, fl91_0, sz88, en107, gcase_undef, g4, taskC, lV, Pl.metM_get, Pl.metM_set, dx])) | fail
     all_goals first | rfl | omega | exact (decide_eq_true (by omega)).symm | exact (decide_eq_false (by omega)).symm | exact decide_eq_decide.mpr (by omega) | (refine Bool.eq_iff_iff.mpr ?_; simp only [beq_iff_eq, bne_iff_ne, ne_eq, decide_eq_true_eq]; omega) | (refine Bool.eq_iff_iff.mpr ?_; simp only [Bool.not_eq_true', Bool.not_eq_false', decide_eq_false_iff_not, decide_eq_true_eq, beq_iff_eq, bne_iff_ne, ne_eq]; omega) | assumption | (simp; done) | (simp [maxLen]; omega) | skip
     all_goals (rw [← decide_not]; exact decide_eq_decide.mpr ⟨.inr, fun h => by (rcases h with q | q; omega; exact q)⟩)
    simp only [kp, argSl, simprocAttr, List.length_cons, List.length_nil]
    refine awp_cond rfl (fun hb => ?_) (fun hb => ?_)
    ·try simp only [hbx] at hb
     refine awp_le (le_keep []) ?_
     simp only [kp, argSl, simprocAttr]
     refine awp_sr [] (by rw [hC]; rfl) fun k hk => ?_
     simp (maxSteps := 9^9) (disch := (try simp only [lens]); omega) only [argSl, sm, ↓amb, mark_eq, simprocAttr, taskC, lV, Pl.metM_get, Pl.metM_set, dx]
     repeat refine an ?_
     refine hk _ ?_; clear hk k
     refine awp_ret ?_
     obtain ⟨r, hr⟩ := Pl.flat_at c.dq x y (by omega) (by omega)
     refine ret1 rfl rfl ?_
     exact .p (LeP.of_eq (by rw [decide_eq_false (Pl.crewRight_no hb hr)]))
    ·try simp only [hbx] at hb
     refine awp_skip ?_
     refine h8 _ ?_; clear h8 k8
     refine awp_region [] (by rw [hC]; rfl) fun k hk => ?_
     simp (maxSteps := 9^9) (disch := (try simp only [lens]); omega) only [argSl, sm, ↓amb, mark_eq, simprocAttr, taskC, lV, Pl.metM_get, Pl.metM_set, dx]
     repeat refine an ?_
     refine hk _ ?_; clear hk k
     refine ⟨y + 1, ⟨by omega, by rw [Pl.take_succ_at _ _ (by omega), ← List.append_assoc]; exact Pl.metOk_snoc hy2 hb⟩, le_of [(0, _), (1, _)] (by rfl) (by rfl) ⟨⟨_, rfl, .ptr rfl⟩, ⟨_, rfl, .mp rfl⟩, ⟨_, rfl, .oe⟩, ⟨_, rfl, .oe⟩, ⟨_, rfl, .oe⟩, ⟨_, rfl, .oe⟩, ⟨_, rfl, .oe⟩, ⟨_, rfl, .oe⟩, trivial⟩ ⟨⟨_, rfl, _, rfl, .one (.cons (.p (.refl _)) (.cons (.p (.refl _)) (.cons (.p (.refl _)) (.cons (.p (.refl _)) (.cons (.p (.refl _)) (.cons (.p (.refl _)) (.cons (.p (.refl _)) (.nil))))))))⟩, ⟨_, rfl, _, rfl, ⟨rfl, by first | (rw [List.take_zero, List.append_nil]; done) | (rw [Pl.take_succ_at _ _ (by omega), ← List.append_assoc]; rfl)⟩⟩, trivial⟩, by omega⟩
   ·try simp only [hbx] at hb
    refine awp_exit ((if_pos rfl).mpr ?_)
    refine h5 _ ?_; clear h7 k7; clear h5 k5
    refine awp_region [] (by rw [hC]; rfl) fun k hk => ?_
    simp (maxSteps := 9^9) (disch := (try simp only [lens]); omega) only [argSl, sm, ↓amb, mark_eq, simprocAttr, taskC, lV, Pl.metM_get, Pl.metM_set, dx]
    repeat refine an ?_
    refine hk _ ?_; clear hk k
    refine ⟨x + 1, ⟨by omega, by rw [Pl.flat_succ c.dq x (by omega)]; rw [List.take_of_length_le (l := (c.dq.getD x default)) (i := y) (by omega)] at hy2; exact hy2⟩, le_of [(0, _), (1, _)] (by rfl) (by rfl) ⟨⟨_, rfl, .ptr rfl⟩, ⟨_, rfl, .mp rfl⟩, ⟨_, rfl, .oe⟩, ⟨_, rfl, .oe⟩, ⟨_, rfl, .oe⟩, trivial⟩ ⟨⟨_, rfl, _, rfl, .one (.cons (.p (.refl _)) (.cons (.p (.refl _)) (.cons (.p (.refl _)) (.cons (.p (.refl _)) (.cons (.p (.refl _)) (.cons (.p (.refl _)) (.cons (.p (.refl _)) (.nil))))))))⟩, ⟨_, rfl, _, rfl, ⟨rfl, by first | exact Pl.metM_nil | (rw [Pl.flat_succ c.dq x (by omega), List.take_of_length_le (l := (c.dq.getD x default)) (i := y) (by omega)])⟩⟩, trivial⟩, by omega⟩
  ·try simp only [hbx] at hb
   refine awp_exit ((if_pos rfl).mpr ?_)
   refine h2 _ ?_; clear h4 k4; clear h2 k2
   refine awp_le (le_keep []) ?_
   simp only [kp, argSl, simprocAttr]
   refine awp_sr [] (by rw [hC]; rfl) fun k hk => ?_
   simp (maxSteps := 9^9) (disch := (try simp only [lens]); omega) only [argSl, sm, ↓amb, mark_eq, simprocAttr, taskC, lV, Pl.metM_get, Pl.metM_set, dx]
   repeat refine an ?_
   refine hk _ ?_; clear hk k
   refine awp_ret ?_
   rw [List.take_of_length_le (by omega)] at hx2
   refine ret1 rfl rfl ?_
   exact .p (LeP.of_eq (by rw [decide_eq_true (show Pl.crewRight c from ⟨hb1.1, hb1.2.1, hb1.2.2.1, hb1.2.2.2.1, hb1.2.2.2.2, hx2.1, hx2.2⟩)]))
set_option maxHeartbeats 4000000 in
theorem c58 (d : List (List Int)) (hl : d.length ≤ 1000000) : OCall Try.prog 101 [.seq false (d.map lV)] 1 (d.map lV) := by
 refine ocall_of_awp Try.func101 rfl (by simp [Try.ntmps101]) fun C hC => ?_
 refine awp_sr [7] (by rw [hC]; rfl) fun k hk => ?_
 simp (maxSteps := 9^9) (disch := (try simp only [lens]); omega) only [argSl, sm, ↓amb, mark_eq, simprocAttr, dx]
 repeat refine an ?_
 refine hk _ ?_; clear hk k
 refine awp_seq fun k1 h1 => ?_
 refine awp_nil 33 (of_decide_eq_true (by rw [hC]; rfl)) (of_decide_eq_true (by rw [hC]; rfl)) el89 rfl fun bq1 hq1 => ?_
 refine awp_cond rfl (fun hb => ?_) (fun hb => ?_)
 ·try simp only [hbx] at hb
  have he := hq1 hb
  refine awp_sr [7] (by rw [hC]; rfl) fun k hk => ?_
  simp (maxSteps := 9^9) (disch := (try simp only [lens]); omega) only [argSl, sm, ↓amb, mark_eq, simprocAttr, dx]
  repeat refine an ?_
  refine hk _ ?_; clear hk k
  refine awp_ret ?_
  exact reton (by rw [he]) rfl rfl
 ·try simp only [hbx] at hb
  refine awp_skip ?_
  refine h1 _ ?_; clear h1 k1
  refine awp_sr [7] (by rw [hC]; rfl) fun k hk => ?_
  simp (maxSteps := 9^9) (disch := (try simp only [lens]); omega) only [argSl, sm, ↓amb, mark_eq, simprocAttr, el89, vr33, by33, dx]
  repeat refine an ?_
  refine hk _ ?_; clear hk k
  refine awp_ret ?_
  refine reto1 rfl rfl ?_
  rfl
set_option maxHeartbeats 4000000 in
theorem c59 (w : Pl.Work) (d : List (List Int)) (o : Bool) (st id : Int) (e : Pl.Event) (n : Int) (h1 : 1 ≤ d.length) (h2 : d.length ≤ 8) : HCall Try.prog 102 [.ptr 7 11 0 0, .p (iV n)] [(7, .row 11 [[.p (.seq false (w.ts.map taskC)), .p (iV w.grain), .p (.seq false (w.done.map fun b => [bV b])), .own 15, .p (bV o), .p (iV st), .p (iV id), .p (iV e.worker), .p (iV e.src), .p (iV e.task), .p (bV e.parted)]]), (15, .row 1 (lift (d.map lV)))] (.p (iV (Pl.num d n))) [(7, .row 11 [[.p (.seq false (w.ts.map taskC)), .p (iV w.grain), .p (.seq false (w.done.map fun b => [bV b])), .own 15, .p (bV o), .p (iV st), .p (iV id), .p (iV e.worker), .p (iV e.src), .p (iV e.task), .p (bV e.parted)]]), (15, .row 1 (lift (d.map lV)))] := by
 refine hcall_of_awp Try.func102 rfl (by simp [Try.ntmps102]) fun C hC => ?_
 refine awp_sr [] (by rw [hC]; rfl) fun k hk => ?_
 simp (maxSteps := 9^9) (disch := (try simp only [lens]); omega) only [argSl, sm, ↓amb, mark_eq, simprocAttr, dx]
 repeat refine an ?_
 refine hk _ ?_; clear hk k
 obtain ⟨hm1, hm2⟩ := Pl.tmod_bound n (m := (d.length : Int)) (by omega)
 have hm3 := Int.emod_nonneg (n.tmod (d.length : Int) + d.length) (b := (d.length : Int)) (by omega)
 refine awp_sr [] (by rw [hC]; rfl) fun k hk => ?_
 simp (maxSteps := 9^9) (disch := (try simp only [lens]); omega) only [argSl, sm, ↓amb, mark_eq, simprocAttr, fl145_0, fl91_1, sz89, el89, dx]
 repeat refine an ?_
 refine hk _ ?_; clear hk k
 refine awp_sr [] (by rw [hC]; rfl) fun k hk => ?_
 simp (maxSteps := 9^9) (disch := (try simp only [lens]); omega) only [argSl, sm, ↓amb, mark_eq, simprocAttr, dx]
 repeat refine an ?_
 refine hk _ ?_; clear hk k
 refine awp_ret ?_
 refine reth1 rfl rfl ?_
 exact le_of [] (by rfl) (by rfl) ⟨⟨_, rfl, .p (.refl _)⟩, trivial⟩ ⟨⟨_, rfl, _, rfl, .one (.cons (.p (.refl _)) (.cons (.p (.refl _)) (.cons (.p (.refl _)) (.cons (.own rfl) (.cons (.p (.refl _)) (.cons (.p (.refl _)) (.cons (.p (.refl _)) (.cons (.p (.refl _)) (.cons (.p (.refl _)) (.cons (.p (.refl _)) (.cons (.p (.refl _)) (.nil))))))))))))⟩, ⟨_, rfl, _, rfl, .lift _⟩, trivial⟩
set_option maxHeartbeats 4000000 in
theorem c60 (w : Pl.Work) (d : List (List Int)) (o : Bool) (st id : Int) (e : Pl.Event) (p v : Nat) (h1 : p < d.length) (h2 : v < d.length) (hl : ∀ l, l ∈ d → l.length ≤ 1000000) (hd : d.length ≤ 8) : HCall Try.prog 103 [.ptr 7 11 0 0, .p (iV p), .p (iV v)] [(7, .row 11 [[.p (.seq false (w.ts.map taskC)), .p (iV w.grain), .p (.seq false (w.done.map fun b => [bV b])), .own 15, .p (bV o), .p (iV st), .p (iV id), .p (iV e.worker), .p (iV e.src), .p (iV e.task), .p (bV e.parted)]]), (15, .row 1 (lift (d.map lV)))] (.p (bV (Pl.foundB d p v))) [(7, .row 11 [[.p (.seq false (w.ts.map taskC)), .p (iV w.grain), .p (.seq false (w.done.map fun b => [bV b])), .own 15, .p (bV o), .p (iV st), .p (iV id), .p (iV (Pl.foundE d p v e).worker), .p (iV (Pl.foundE d p v e).src), .p (iV (Pl.foundE d p v e).task), .p (bV (Pl.foundE d p v e).parted)]]), (15, .row 1 (lift ((Pl.foundD d p v).map lV)))] := by
 refine hcall_of_awp Try.func103 rfl (by simp [Try.ntmps103]) fun C hC => ?_
 refine awp_sr [] (by rw [hC]; rfl) fun k hk => ?_
 simp (maxSteps := 9^9) (disch := (try simp only [lens]); omega) only [argSl, sm, ↓amb, mark_eq, simprocAttr, dx]
 repeat refine an ?_
 refine hk _ ?_; clear hk k
 have hlp := hl _ (Pl.getD_mem d p default h1)
 have hlv := hl _ (Pl.getD_mem d v default h2)
 refine awp_sd [] ⟨[0, 1, 3, 7, 15, 0, 63, 127, 0, 256, 768, 1792, 3840, 0, 16128, 32512, 255, 131071], [4, 7, 12, 15], [], [], some []⟩ (by rw [hC]; rfl) (by kernel_rfl) (by kernel_rfl) fun k hk => ?_
 simp (maxSteps := 9^9) (disch := (try simp only [lens]); omega) only [argSl, sm, ↓amb, mark_eq, simprocAttr, fl145_0, fl91_1, sz89, el89, sz33, dx]
 repeat refine an ?_
 refine hk _ ?_; clear hk k
 refine awp_seq fun k1 h1 => ?_
 refine awp_sr [] (by rw [hC]; rfl) fun k hk => ?_
 simp (maxSteps := 9^9) (disch := (try simp only [lens]); omega) only [argSl, sm, ↓amb, mark_eq, simprocAttr, el33, dx]
 repeat refine an ?_
 refine hk _ ?_; clear hk k
 refine awp_block ?_
 refine awp_sr [] (by rw [hC]; rfl) fun k hk => ?_
 simp (maxSteps := 9^9) (disch := (try simp only [lens]); omega) only [argSl, sm, ↓amb, mark_eq, simprocAttr, dx]
 repeat refine an ?_
 refine hk _ ?_; clear hk k
 refine awp_cond rfl (fun hb => ?_) (fun hb => ?_)
 ·try simp only [hbx] at hb
  refine awp_sr [] (by rw [hC]; rfl) fun k hk => ?_
  simp (maxSteps := 9^9) (disch := (try simp only [lens]); omega) only [argSl, sm, ↓amb, mark_eq, simprocAttr, el33, sz3, fl145_1, fl112_2, fl112_1, dx]
  repeat refine an ?_
  refine hk _ ?_; clear hk k
  refine awp_draw [] ⟨[0, 1, 3, 7, 15, 0, 0, 0, 0, 448, 1023, 2047], [10], [11], [], some [15]⟩ (by rw [hC]; rfl) (by kernel_rfl) (by kernel_rfl) fun k hk => ?_
  simp (maxSteps := 9^9) (disch := (try simp only [lens]); omega) only [argSl, sm, ↓amb, mark_eq, simprocAttr, fl145_0, fl91_1, sz89, el33, sz3, el89, sz33, dx]
  repeat refine an ?_
  refine hk _ ?_; clear hk k
  refine h1 _ ?_; clear h1 k1
  refine awp_sr [] (by rw [hC]; rfl) fun k hk => ?_
  simp (maxSteps := 9^9) (disch := (try simp only [lens]); omega) only [argSl, sm, ↓amb, mark_eq, simprocAttr, dx]
  repeat refine an ?_
  refine hk _ ?_; clear hk k
  refine awp_ret ?_
  have hpos : 0 < (d.getD p default).length := by omega
  rw [show Pl.foundB d p v = true from decide_eq_true (.inl hpos), show Pl.foundE d p v e = _ by rw [Pl.foundE, if_pos hpos], show Pl.foundD d p v = _ by rw [Pl.foundD, if_pos hpos]]
  refine reth1 rfl rfl ?_
  exact le_of [] (by rfl) (by rfl) ⟨⟨_, rfl, .p (.refl _)⟩, trivial⟩ ⟨⟨_, rfl, _, rfl, .one (.cons (.p (.refl _)) (.cons (.p (.refl _)) (.cons (.p (.refl _)) (.cons (.own rfl) (.cons (.p (.refl _)) (.cons (.p (.refl _)) (.cons (.p (.refl _)) (.cons (.p (.refl _)) (.cons (.p (.refl _)) (.cons (.p (.refl _)) (.cons (.p (.refl _)) (.nil))))))))))))⟩, ⟨_, rfl, _, rfl, (by rw [List.map_set]; exact Pl.leB_liftS _ _ (LeRow.cons (.p (LeP.seq _ _)) LeRow.nil))⟩, trivial⟩
 ·try simp only [hbx] at hb
  refine awp_sr [] (by rw [hC]; rfl) fun k hk => ?_
  simp (maxSteps := 9^9) (disch := (try simp only [lens]); omega) only [argSl, sm, ↓amb, mark_eq, simprocAttr, el33, dx]
  repeat refine an ?_
  refine hk _ ?_; clear hk k
  refine awp_cond rfl (fun hb => ?_) (fun hb => ?_)
  ·try simp only [hbx] at hb
   refine awp_sr [] (by rw [hC]; rfl) fun k hk => ?_
   simp (maxSteps := 9^9) (disch := (try simp only [lens]); omega) only [argSl, sm, ↓amb, mark_eq, simprocAttr, el33, sz3, fl145_1, fl112_2, fl112_1, dx]
   repeat refine an ?_
   refine hk _ ?_; clear hk k
   refine awp_draw [] ⟨[0, 1, 3, 7, 15, 0, 0, 64, 255, 511], [8], [9], [], some [15]⟩ (by rw [hC]; rfl) (by kernel_rfl) (by kernel_rfl) fun k hk => ?_
   simp (maxSteps := 9^9) (disch := (try simp only [lens]); omega) only [argSl, sm, ↓amb, mark_eq, simprocAttr, fl145_0, fl91_1, sz89, el33, sz3, el89, sz33, dx]
   repeat refine an ?_
   refine hk _ ?_; clear hk k
   refine h1 _ ?_; clear h1 k1
   refine awp_sr [] (by rw [hC]; rfl) fun k hk => ?_
   simp (maxSteps := 9^9) (disch := (try simp only [lens]); omega) only [argSl, sm, ↓amb, mark_eq, simprocAttr, dx]
   repeat refine an ?_
   refine hk _ ?_; clear hk k
   refine awp_ret ?_
   have hneg : ¬ 0 < (d.getD p default).length := by omega
   have hpos : 0 < (d.getD v default).length := by omega
   rw [show Pl.foundB d p v = true from decide_eq_true (.inr hpos), show Pl.foundE d p v e = _ by rw [Pl.foundE, if_neg hneg, if_pos hpos], show Pl.foundD d p v = _ by rw [Pl.foundD, if_neg hneg, if_pos hpos]]
   refine reth1 rfl rfl ?_
   exact le_of [] (by rfl) (by rfl) ⟨⟨_, rfl, .p (.refl _)⟩, trivial⟩ ⟨⟨_, rfl, _, rfl, .one (.cons (.p (.refl _)) (.cons (.p (.refl _)) (.cons (.p (.refl _)) (.cons (.own rfl) (.cons (.p (.refl _)) (.cons (.p (.refl _)) (.cons (.p (.refl _)) (.cons (.p (.refl _)) (.cons (.p (.refl _)) (.cons (.p (.refl _)) (.cons (.p (.refl _)) (.nil))))))))))))⟩, ⟨_, rfl, _, rfl, (by rw [List.map_set]; exact Pl.leB_liftS _ _ (LeRow.cons (.p (LeP.refl _)) LeRow.nil))⟩, trivial⟩
  ·try simp only [hbx] at hb
   refine awp_sr [] (by rw [hC]; rfl) fun k hk => ?_
   simp (maxSteps := 9^9) (disch := (try simp only [lens]); omega) only [argSl, sm, ↓amb, mark_eq, simprocAttr, dx]
   repeat refine an ?_
   refine hk _ ?_; clear hk k
   refine awp_ret ?_
   have hneg : ¬ 0 < (d.getD p default).length := by omega
   have hneg2 : ¬ 0 < (d.getD v default).length := by omega
   rw [show Pl.foundB d p v = false from decide_eq_false (by rintro (q | q); exact hneg q; exact hneg2 q), show Pl.foundE d p v e = _ by rw [Pl.foundE, if_neg hneg, if_neg hneg2], show Pl.foundD d p v = _ by rw [Pl.foundD, if_neg hneg, if_neg hneg2]]
   refine reth1 rfl rfl ?_
   exact le_of [] (by rfl) (by rfl) ⟨⟨_, rfl, .p (.refl _)⟩, trivial⟩ ⟨⟨_, rfl, _, rfl, .one (.cons (.p (.refl _)) (.cons (.p (.refl _)) (.cons (.p (.refl _)) (.cons (.own rfl) (.cons (.p (.refl _)) (.cons (.p (.refl _)) (.cons (.p (.refl _)) (.cons (.p (.refl _)) (.cons (.p (.refl _)) (.cons (.p (.refl _)) (.cons (.p (.refl _)) (.nil))))))))))))⟩, ⟨_, rfl, _, rfl, .lift _⟩, trivial⟩
set_option maxHeartbeats 4000000 in
theorem c61 (w : Pl.Work) (d : List (List Int)) (o : Bool) (st id : Int) (e : Pl.Event) (p : Nat) (hp1 : p < d.length) (hl : ∀ l, l ∈ d → l.length ≤ 1000000) (hd : d.length ≤ 8) : HCall Try.prog 104 [.ptr 7 11 0 0, .p (iV p)] [(7, .row 11 [[.p (.seq false (w.ts.map taskC)), .p (iV w.grain), .p (.seq false (w.done.map fun b => [bV b])), .own 15, .p (bV o), .p (iV st), .p (iV id), .p (iV e.worker), .p (iV e.src), .p (iV e.task), .p (bV e.parted)]]), (15, .row 1 (lift (d.map lV)))] (.p (iV (Pl.goE w e.task))) [(7, .row 11 [[.p (.seq false ((Pl.goW w e.task).ts.map taskC)), .p (iV (Pl.goW w e.task).grain), .p (.seq false ((Pl.goW w e.task).done.map fun b => [bV b])), .own 15, .p (bV (Pl.goO o w e.task)), .p (iV st), .p (iV id), .p (iV (Pl.goV e w).worker), .p (iV (Pl.goV e w).src), .p (iV (Pl.goV e w).task), .p (bV (Pl.goV e w).parted)]]), (15, .row 1 (lift ((Pl.goD d p w e.task).map lV)))] := by
 refine hcall_of_awp Try.func104 rfl (by simp [Try.ntmps104]) fun C hC => ?_
 refine awp_sr [] (by rw [hC]; rfl) fun k hk => ?_
 simp (maxSteps := 9^9) (disch := (try simp only [lens]); omega) only [argSl, sm, ↓amb, mark_eq, simprocAttr, dx]
 repeat refine an ?_
 refine hk _ ?_; clear hk k
 refine awp_seq fun k1 h1 => ?_
 have hlp := hl _ (Pl.getD_mem d p default hp1)
 refine awp_sd [] ⟨[0, 1, 3, 7, 15, 0, 32, 96, 224, 480, 1023], [4, 9], [], [], some []⟩ (by rw [hC]; rfl) (by kernel_rfl) (by kernel_rfl) fun k hk => ?_
 simp (maxSteps := 9^9) (disch := (try simp only [lens]); omega) only [argSl, sm, ↓amb, mark_eq, simprocAttr, fl145_0, fl91_0, sz88, fl145_1, fl112_2, sz3, en108, dx]
 repeat refine an ?_
 refine callK_p (c39 _ _ _ _) rfl ?_
 simp (maxSteps := 9^9) (disch := (try simp only [lens]); omega) only [argSl, sm, ↓amb, mark_eq, simprocAttr, fl145_0, fl91_0, sz88, fl145_1, fl112_2, sz3, en108, dx]
 repeat refine an ?_
 refine hk _ ?_; clear hk k
 refine awp_cond rfl (fun hb => ?_) (fun hb => ?_)
 ·try simp only [hbx] at hb
  have hgr := hb
  refine awp_sr [] (by rw [hC]; rfl) fun k hk => ?_
  simp (maxSteps := 9^9) (disch := (try simp only [lens]); omega) only [argSl, sm, ↓amb, mark_eq, simprocAttr, dx]
  repeat refine an ?_
  refine hk _ ?_; clear hk k
  refine awp_seq fun k2 h2 => ?_
  refine awp_sd [] ⟨[0, 0, 2, 6, 14, 30, 0, 64, 192, 448, 960, 2046, 4094, 8190, 8190, 8190, 8190, 16383, 147455, 409599, 933887, 1998847, 4128767, 8388607], [5, 10], [20], [(11, 20)], none⟩ (by rw [hC]; rfl) (by kernel_rfl) (by kernel_rfl) fun k hk => ?_
  simp (maxSteps := 9^9) (disch := (try simp only [lens]); omega) only [argSl, sm, ↓amb, mark_eq, simprocAttr, fl145_0, fl91_0, sz88, fl145_1, fl112_2, sz3, en109, dx]
  repeat refine an ?_
  refine callK_p (c28 _ _ _ _) rfl ?_
  simp (maxSteps := 9^9) (disch := (try simp only [lens]); omega) only [argSl, sm, ↓amb, mark_eq, simprocAttr, fl145_0, fl91_0, sz88, fl145_1, fl112_2, sz3, en109, dx]
  repeat refine an ?_
  refine hk _ ?_; clear hk k
  refine awp_sr [] (by rw [hC]; rfl) fun k hk => ?_
  simp (maxSteps := 9^9) (disch := (try simp only [lens]); omega) only [argSl, sm, ↓amb, mark_eq, simprocAttr, dx]
  repeat refine an ?_
  refine hk _ ?_; clear hk k
  refine awp_cond rfl (fun hb => ?_) (fun hb => ?_)
  ·try simp only [hbx] at hb
   refine awp_sr [] (by rw [hC]; rfl) fun k hk => ?_
   simp (maxSteps := 9^9) (disch := (try simp only [lens]); omega) only [argSl, sm, ↓amb, mark_eq, simprocAttr, fl145_1, fl112_3, sz4, dx]
   repeat refine an ?_
   refine hk _ ?_; clear hk k
   refine awp_draw [] ⟨[0, 1, 3, 7, 15, 0, 0, 64, 192, 448, 960, 0, 4032, 8128, 16320, 0, 0, 98304, 262080, 524287, 1048575], [12, 13, 19], [20], [(14, 18), (14, 20)], some [15]⟩ (by rw [hC]; rfl) (by kernel_rfl) (by kernel_rfl) fun k hk => ?_
   simp (maxSteps := 9^9) (disch := (try simp only [lens]); omega) only [argSl, sm, ↓amb, mark_eq, simprocAttr, fl145_0, fl91_1, sz89, el89, sz33, en110, el33, vr3, by3, dx]
   repeat refine an ?_
   refine callK_p (c47 _ _ (by omega)) rfl ?_
   simp (maxSteps := 9^9) (disch := (try simp only [lens]); omega) only [argSl, sm, ↓amb, mark_eq, simprocAttr, fl145_0, fl91_1, sz89, el89, sz33, en110, el33, vr3, by3, dx]
   repeat refine an ?_
   refine hk _ ?_; clear hk k
   refine h2 _ ?_; clear h2 k2
   refine awp_sr [] (by rw [hC]; rfl) fun k hk => ?_
   simp (maxSteps := 9^9) (disch := (try simp only [lens]); omega) only [argSl, sm, ↓amb, mark_eq, simprocAttr, dx]
   repeat refine an ?_
   refine hk _ ?_; clear hk k
   refine awp_ret ?_
   obtain ⟨e1, e2, e3, e4, e5⟩ := Pl.go_part (d := d) (p := p) (o := o) (e := e) rfl hgr hb
   rw [e1, e2, e3, e4, e5]
   refine reth1 rfl rfl ?_
   exact le_of [] (by rfl) (by rfl) ⟨⟨_, rfl, .p (.of_eq (by rw [hb]))⟩, trivial⟩ ⟨⟨_, rfl, _, rfl, .one (.cons (.p (.refl _)) (.cons (.p (.refl _)) (.cons (.p (.refl _)) (.cons (.own rfl) (.cons (.p (.refl _)) (.cons (.p (.refl _)) (.cons (.p (.refl _)) (.cons (.p (.refl _)) (.cons (.p (.refl _)) (.cons (.p (.refl _)) (.cons (.p (.refl _)) (.nil))))))))))))⟩, ⟨_, rfl, _, rfl, (by rw [List.map_set]; exact Pl.leB_liftS _ _ (LeRow.cons (.p (LeP.sq (by simp))) LeRow.nil))⟩, trivial⟩
  ·try simp only [hbx] at hb
   refine awp_skip ?_
   refine h2 _ ?_; clear h2 k2
   refine awp_sr [] (by rw [hC]; rfl) fun k hk => ?_
   simp (maxSteps := 9^9) (disch := (try simp only [lens]); omega) only [argSl, sm, ↓amb, mark_eq, simprocAttr, dx]
   repeat refine an ?_
   refine hk _ ?_; clear hk k
   refine awp_ret ?_
   obtain ⟨e1, e2, e3, e4, e5⟩ := Pl.go_parterr (d := d) (p := p) (o := o) (e := e) rfl hgr hb
   rw [e1, e2, e3, e4, e5]
   refine reth1 rfl rfl ?_
   exact le_of [] (by rfl) (by rfl) ⟨⟨_, rfl, .p (.refl _)⟩, trivial⟩ ⟨⟨_, rfl, _, rfl, .one (.cons (.p (.refl _)) (.cons (.p (.refl _)) (.cons (.p (.refl _)) (.cons (.own rfl) (.cons (.p (.refl _)) (.cons (.p (.refl _)) (.cons (.p (.refl _)) (.cons (.p (.refl _)) (.cons (.p (.refl _)) (.cons (.p (.refl _)) (.cons (.p (.refl _)) (.nil))))))))))))⟩, ⟨_, rfl, _, rfl, .lift _⟩, trivial⟩
 ·try simp only [hbx] at hb
  refine awp_skip ?_
  refine h1 _ ?_; clear h1 k1
  refine awp_sr [] (by rw [hC]; rfl) fun k hk => ?_
  simp (maxSteps := 9^9) (disch := (try simp only [lens]); omega) only [argSl, sm, ↓amb, mark_eq, simprocAttr, dx]
  repeat refine an ?_
  refine hk _ ?_; clear hk k
  refine awp_sd [] ⟨[0, 0, 2, 6, 14, 30, 0, 64, 192, 448, 960, 2046, 4094, 8190, 8190, 8190, 16383, 81919, 212991, 475135, 1015807, 2097151], [5, 10], [19], [(11, 19)], none⟩ (by rw [hC]; rfl) (by kernel_rfl) (by kernel_rfl) fun k hk => ?_
  simp (maxSteps := 9^9) (disch := (try simp only [lens]); omega) only [argSl, sm, ↓amb, mark_eq, simprocAttr, fl145_0, fl91_0, sz88, fl145_1, fl112_2, sz3, en111, dx]
  repeat refine an ?_
  refine callK_p (c30 _ _ _ _) rfl ?_
  simp (maxSteps := 9^9) (disch := (try simp only [lens]); omega) only [argSl, sm, ↓amb, mark_eq, simprocAttr, fl145_0, fl91_0, sz88, fl145_1, fl112_2, sz3, en111, dx]
  repeat refine an ?_
  refine hk _ ?_; clear hk k
  refine awp_srg [] (by rw [hC]; rfl) fun gd hgd k hk => ?_
  have g6 : gd 6 = some 91 := by rw [hgd]; rfl
  clear hgd
  simp (maxSteps := 9^9) (disch := (try simp only [lens]); omega) only [argSl, sm, ↓amb, mark_eq, simprocAttr, fl145_0, fl91_2, sz4, g6, a07, dx]
  repeat refine an ?_
  refine ⟨fun hg => ?_, fun hg => ?_⟩
  ·try simp only [hbx] at hg
   repeat refine an ?_
   refine hk _ ?_; clear hk k
   refine awp_sr [] (by rw [hC]; rfl) fun k hk => ?_
   simp (maxSteps := 9^9) (disch := (try simp only [lens]); omega) only [argSl, sm, ↓amb, mark_eq, simprocAttr, dx]
   repeat refine an ?_
   refine hk _ ?_; clear hk k
   refine awp_ret ?_
   obtain ⟨e1, e2, e3, e4, e5⟩ := Pl.go_do (d := d) (p := p) (o := o) (e := e) rfl hb
   rw [e1, e2, e3, e4, e5]
   subst hg
   rw [Bool.false_or]
   refine reth1 rfl rfl ?_
   exact le_of [] (by rfl) (by rfl) ⟨⟨_, rfl, .p (.refl _)⟩, trivial⟩ ⟨⟨_, rfl, _, rfl, .one (.cons (.p (.refl _)) (.cons (.p (.refl _)) (.cons (.p (.refl _)) (.cons (.own rfl) (.cons (.p (.refl _)) (.cons (.p (.refl _)) (.cons (.p (.refl _)) (.cons (.p (.refl _)) (.cons (.p (.refl _)) (.cons (.p (.refl _)) (.cons (.p (.refl _)) (.nil))))))))))))⟩, ⟨_, rfl, _, rfl, .lift _⟩, trivial⟩
  ·try simp only [hbx] at hg
   repeat refine an ?_
   refine hk _ ?_; clear hk k
   refine awp_sr [] (by rw [hC]; rfl) fun k hk => ?_
   simp (maxSteps := 9^9) (disch := (try simp only [lens]); omega) only [argSl, sm, ↓amb, mark_eq, simprocAttr, dx]
   repeat refine an ?_
   refine hk _ ?_; clear hk k
   refine awp_ret ?_
   obtain ⟨e1, e2, e3, e4, e5⟩ := Pl.go_do (d := d) (p := p) (o := o) (e := e) rfl hb
   rw [e1, e2, e3, e4, e5]
   subst hg
   rw [Bool.true_or]
   refine reth1 rfl rfl ?_
   exact le_of [] (by rfl) (by rfl) ⟨⟨_, rfl, .p (.refl _)⟩, trivial⟩ ⟨⟨_, rfl, _, rfl, .one (.cons (.p (.refl _)) (.cons (.p (.refl _)) (.cons (.p (.refl _)) (.cons (.own rfl) (.cons (.p (.refl _)) (.cons (.p (.refl _)) (.cons (.p (.refl _)) (.cons (.p (.refl _)) (.cons (.p (.refl _)) (.cons (.p (.refl _)) (.cons (.p (.refl _)) (.nil))))))))))))⟩, ⟨_, rfl, _, rfl, .lift _⟩, trivial⟩
theorem c60i (w : Pl.Work) (d : List (List Int)) (o : Bool) (st id : Int) (e : Pl.Event) (p v : Int) (hp : 0 ≤ p ∧ p < d.length) (hv : 0 ≤ v ∧ v < d.length) (hl : ∀ l, l ∈ d → l.length ≤ 1000000) (hd : d.length ≤ 8) : HCall Try.prog 103 [.ptr 7 11 0 0, .p (iV p), .p (iV v)] [(7, .row 11 [[.p (.seq false (w.ts.map taskC)), .p (iV w.grain), .p (.seq false (w.done.map fun b => [bV b])), .own 15, .p (bV o), .p (iV st), .p (iV id), .p (iV e.worker), .p (iV e.src), .p (iV e.task), .p (bV e.parted)]]), (15, .row 1 (lift (d.map lV)))] (.p (bV (Pl.foundB d p.toNat v.toNat))) [(7, .row 11 [[.p (.seq false (w.ts.map taskC)), .p (iV w.grain), .p (.seq false (w.done.map fun b => [bV b])), .own 15, .p (bV o), .p (iV st), .p (iV id), .p (iV (Pl.foundE d p.toNat v.toNat e).worker), .p (iV (Pl.foundE d p.toNat v.toNat e).src), .p (iV (Pl.foundE d p.toNat v.toNat e).task), .p (bV (Pl.foundE d p.toNat v.toNat e).parted)]]), (15, .row 1 (lift ((Pl.foundD d p.toNat v.toNat).map lV)))] := by
 have h := c60 w d o st id e p.toNat v.toNat (by omega) (by omega) hl hd
 rw [Int.toNat_of_nonneg hp.1, Int.toNat_of_nonneg hv.1] at h; exact h
theorem c61i (w : Pl.Work) (d : List (List Int)) (o : Bool) (st id : Int) (e : Pl.Event) (p : Int) (hp : 0 ≤ p ∧ p < d.length) (hl : ∀ l, l ∈ d → l.length ≤ 1000000) (hd : d.length ≤ 8) : HCall Try.prog 104 [.ptr 7 11 0 0, .p (iV p)] [(7, .row 11 [[.p (.seq false (w.ts.map taskC)), .p (iV w.grain), .p (.seq false (w.done.map fun b => [bV b])), .own 15, .p (bV o), .p (iV st), .p (iV id), .p (iV e.worker), .p (iV e.src), .p (iV e.task), .p (bV e.parted)]]), (15, .row 1 (lift (d.map lV)))] (.p (iV (Pl.goE w e.task))) [(7, .row 11 [[.p (.seq false ((Pl.goW w e.task).ts.map taskC)), .p (iV (Pl.goW w e.task).grain), .p (.seq false ((Pl.goW w e.task).done.map fun b => [bV b])), .own 15, .p (bV (Pl.goO o w e.task)), .p (iV st), .p (iV id), .p (iV (Pl.goV e w).worker), .p (iV (Pl.goV e w).src), .p (iV (Pl.goV e w).task), .p (bV (Pl.goV e w).parted)]]), (15, .row 1 (lift ((Pl.goD d p.toNat w e.task).map lV)))] := by
 have h := c61 w d o st id e p.toNat (by omega) hl hd
 rw [Int.toNat_of_nonneg hp.1] at h; exact h
set_option maxHeartbeats 4000000 in
theorem c43 (c : Pl.Crew) (p v : Int) (hl : ∀ l, l ∈ c.dq → l.length ≤ 1000000 ∧ ∀ t, t ∈ l → -9223372036854775808 ≤ t ∧ t ≤ 9223372036854775807) : PCall Try.prog 94 [.agg (crewC c), iV p, iV v] (.tup [.agg (crewC (Pl.step c p v).1), .agg (evC (Pl.step c p v).2.1), iV (Pl.step c p v).2.2]) := by
 refine pcall_of_awp Try.func94 rfl (by simp [Try.ntmps94]) fun C hC => ?_
 refine awp_le (le_keep [0, 1, 2]) ?_
 simp only [kp, argSl, simprocAttr]
 refine awp_sr [28] (by rw [hC]; rfl) fun k hk => ?_
 simp (maxSteps := 9^9) (disch := (try simp only [lens]); omega) only [argSl, sm, ↓amb, mark_eq, simprocAttr, vr91, vr112, dx]
 repeat refine an ?_
 refine hk _ ?_; clear hk k
 refine awp_seq fun k1 h1 => ?_
 refine awp_le (le_keep [1, 2, 3, 6, 7, 8]) ?_
 simp only [kp, argSl, simprocAttr]
 refine awp_sr [28] (by rw [hC]; rfl) fun k hk => ?_
 simp (maxSteps := 9^9) (disch := (try simp only [lens]); omega) only [argSl, sm, ↓amb, mark_eq, simprocAttr, sz91, en100, dx]
 repeat refine an ?_
 refine callK_p (c44 _ hl) rfl ?_
 simp (maxSteps := 9^9) (disch := (try simp only [lens]); omega) only [argSl, sm, ↓amb, mark_eq, simprocAttr, sz91, en100, dx]
 repeat refine an ?_
 refine hk _ ?_; clear hk k
 refine awp_cond rfl (fun hb => ?_) (fun hb => ?_)
 ·try simp only [hbx] at hb
  refine awp_le (le_keep [3, 6, 7]) ?_
  simp only [kp, argSl, simprocAttr]
  refine awp_sr [28] (by rw [hC]; rfl) fun k hk => ?_
  simp (maxSteps := 9^9) (disch := (try simp only [lens]); omega) only [argSl, sm, ↓amb, mark_eq, simprocAttr, sz91, vr112, bt112, sz112, dx]
  repeat refine an ?_
  refine hk _ ?_; clear hk k
  refine awp_ret ?_
  rw [Pl.step_1 hb]
  refine retl rfl rfl ⟨retc rfl sz91 ?_, retc rfl sz112 ?_, rett rfl ?_, trivial⟩
  all_goals first | (simp (maxSteps := 9^9) (disch := (try simp only [lens]); omega) only [argSl, sm, ↓amb, mark_eq, simprocAttr, sz112, sz91, dx]) | skip
  ·exact .p (LeP.refl _)
  ·exact .p (LeP.refl _)
  ·exact .p (LeP.refl _)
 ·try simp only [hbx] at hb
  refine awp_skip ?_
  refine h1 _ ?_; clear h1 k1
  refine awp_seq fun k2 h2 => ?_
  refine awp_le (le_keep [1, 2, 3, 6, 7, 8]) ?_
  simp only [kp, argSl, simprocAttr]
  have hR := hb
  obtain ⟨hr1, hr2, hr3, hr4, hr5, _⟩ := hb
  have nb1 := Pl.num_bound c.dq p hr2
  have nb2 := Pl.num_bound c.dq v hr2
  refine awp_sr [28] (by rw [hC]; rfl) fun k hk => ?_
  simp (maxSteps := 9^9) (disch := (try simp only [lens]); omega) only [argSl, sm, ↓amb, mark_eq, simprocAttr, fl91_3, sz3, dx]
  repeat refine an ?_
  refine hk _ ?_; clear hk k
  refine awp_cond rfl (fun hb => ?_) (fun hb => ?_)
  ·try simp only [hbx] at hb
   refine awp_le (le_keep [3, 6, 7]) ?_
   simp only [kp, argSl, simprocAttr]
   refine awp_sr [28] (by rw [hC]; rfl) fun k hk => ?_
   simp (maxSteps := 9^9) (disch := (try simp only [lens]); omega) only [argSl, sm, ↓amb, mark_eq, simprocAttr, sz91, vr112, bt112, sz112, dx]
   repeat refine an ?_
   refine hk _ ?_; clear hk k
   refine awp_ret ?_
   rw [Pl.step_2 hR hb]
   refine retl rfl rfl ⟨retc rfl sz91 ?_, retc rfl sz112 ?_, rett rfl ?_, trivial⟩
   all_goals first | (simp (maxSteps := 9^9) (disch := (try simp only [lens]); omega) only [argSl, sm, ↓amb, mark_eq, simprocAttr, sz112, sz91, dx]) | skip
   ·exact .p (LeP.refl _)
   ·exact .p (LeP.refl _)
   ·exact .p (LeP.refl _)
  ·try simp only [hbx] at hb
   refine awp_skip ?_
   refine h2 _ ?_; clear h2 k2
   refine awp_le (le_keep [1, 2, 3, 6, 7]) ?_
   simp only [kp, argSl, simprocAttr]
   have hst := hb
   refine awp_sr [28] (by rw [hC]; rfl) fun k hk => ?_
   simp (maxSteps := 9^9) (disch := (try simp only [lens]); omega) only [argSl, sm, ↓amb, mark_eq, simprocAttr, sz91, vr112, bt112, pl112_1, pl112_2, vr145, bt145, pl145_0, pl145_1, dx]
   repeat refine an ?_
   refine hk _ ?_; clear hk k
   refine awp_le (le_keep [1, 2, 3, 6, 7, 9]) ?_
   simp only [kp, argSl, simprocAttr]
   refine awp_sr [28] (by rw [hC]; rfl) fun k hk => ?_
   simp (maxSteps := 9^9) (disch := (try simp only [lens]); omega) only [argSl, sm, ↓amb, mark_eq, simprocAttr, fl91_1, sz89, en101, fl145_0, dx]
   repeat refine an ?_
   refine callK_o (c58 _ (by omega)) rfl ?_
   simp (maxSteps := 9^9) (disch := (try simp only [lens]); omega) only [argSl, sm, ↓amb, mark_eq, simprocAttr, fl91_1, sz89, en101, fl145_0, dx]
   repeat refine an ?_
   refine hk _ ?_; clear hk k
   refine awp_le (le_keep [1, 2, 3, 6, 7, 9]) ?_
   simp only [kp, argSl, simprocAttr]
   refine awp_sr [28] (by rw [hC]; rfl) fun k hk => ?_
   simp (maxSteps := 9^9) (disch := (try simp only [lens]); omega) only [argSl, sm, ↓amb, mark_eq, simprocAttr, en102, dx]
   repeat refine an ?_
   refine callK_h (c59 c.work c.dq c.over c.steps c.idle (⟨0, -1, -1, false⟩ : Pl.Event) p (by omega) (by omega)) [104, 144] [7, 15] (by first | rfl | (simp only [hm]; done)) (by first | rfl | (simp [namesOk, lkp]; done)) ?_ ?_ ?_ ?_ ?_ ?_ ?_
   (iterate 6 (focus (first | trivial | (intro n hn; cases hn; done) | (simp (maxSteps := 9^9) (disch := (try simp only [lens]); omega) only [argSl, sm, ↓amb, mark_eq, simprocAttr, en102, dx, hmx, List.filter_cons, Nat.reduceBNe, imp_self, implies_true]; done))))
   simp (maxSteps := 9^9) (disch := (try simp only [lens]); omega) only [argSl, sm, ↓amb, mark_eq, simprocAttr, en102, dx, hm, List.filter_cons, List.filter_nil, Nat.reduceBNe, Option.map_none]
   repeat refine an ?_
   refine callK_h (c59 c.work c.dq c.over c.steps c.idle (⟨0, -1, -1, false⟩ : Pl.Event) v (by omega) (by omega)) [104, 144] [7, 15] (by first | rfl | (simp only [hm]; done)) (by first | rfl | (simp [namesOk, lkp]; done)) ?_ ?_ ?_ ?_ ?_ ?_ ?_
   (iterate 6 (focus (first | trivial | (intro n hn; cases hn; done) | (simp (maxSteps := 9^9) (disch := (try simp only [lens]); omega) only [argSl, sm, ↓amb, mark_eq, simprocAttr, en102, dx, hmx, List.filter_cons, Nat.reduceBNe, imp_self, implies_true]; done))))
   simp (maxSteps := 9^9) (disch := (try simp only [lens]); omega) only [argSl, sm, ↓amb, mark_eq, simprocAttr, en102, dx, hm, List.filter_cons, List.filter_nil, Nat.reduceBNe, Option.map_none]
   repeat refine an ?_
   refine hk _ ?_; clear hk k
   refine awp_le (le_keep [1, 2, 3, 6, 7, 9]) ?_
   simp only [kp, argSl, simprocAttr]
   refine awp_sr [28] (by rw [hC]; rfl) fun k hk => ?_
   simp (maxSteps := 9^9) (disch := (try simp only [lens]); omega) only [argSl, sm, ↓amb, mark_eq, simprocAttr, fl145_1, fl112_0, sz3, dx]
   repeat refine an ?_
   refine hk _ ?_; clear hk k
   refine awp_le (le_keep [1, 2, 3, 6, 7, 9]) ?_
   simp only [kp, argSl, simprocAttr]
   refine awp_sr [28] (by rw [hC]; rfl) fun k hk => ?_
   simp (maxSteps := 9^9) (disch := (try simp only [lens]); omega) only [argSl, sm, ↓amb, mark_eq, simprocAttr, fl145_0, fl91_3, sz3, dx]
   repeat refine an ?_
   refine hk _ ?_; clear hk k
   refine awp_seq fun k3 h3 => ?_
   refine awp_le (le_keep [1, 2, 3, 6, 7, 8, 9]) ?_
   simp only [kp, argSl, simprocAttr]
   refine awp_sr [28] (by rw [hC]; rfl) fun k hk => ?_
   simp (maxSteps := 9^9) (disch := (try simp only [lens]); omega) only [argSl, sm, ↓amb, mark_eq, simprocAttr, en103, dx]
   repeat refine an ?_
   refine callK_h (c60i c.work c.dq c.over (c.steps + 1) c.idle (Pl.evN c.dq p) (Pl.num c.dq p) (Pl.num c.dq v) nb1 nb2 (fun l h => (hl l h).1) (by omega)) [104, 144] [] (by first | rfl | (simp only [hm]; done)) (by first | rfl | (simp [namesOk, lkp]; done)) ?_ ?_ ?_ ?_ ?_ ?_ ?_
   (iterate 6 (focus (first | trivial | (intro n hn; cases hn; done) | (simp (maxSteps := 9^9) (disch := (try simp only [lens]); omega) only [argSl, sm, ↓amb, mark_eq, simprocAttr, en103, dx, hmx, List.filter_cons, Nat.reduceBNe, imp_self, implies_true]; done))))
   simp (maxSteps := 9^9) (disch := (try simp only [lens]); omega) only [argSl, sm, ↓amb, mark_eq, simprocAttr, en103, dx, hm, List.filter_cons, List.filter_nil, Nat.reduceBNe, Option.map_none]
   repeat refine an ?_
   refine hk _ ?_; clear hk k
   refine awp_cond rfl (fun hb => ?_) (fun hb => ?_)
   ·try simp only [hbx] at hb
    refine awp_seq fun k4 h4 => ?_
    refine awp_le (le_keep [1, 3, 6, 7, 8, 9]) ?_
    simp only [kp, argSl, simprocAttr]
    have hfb := hb
    refine awp_sr [28] (by rw [hC]; rfl) fun k hk => ?_
    simp (maxSteps := 9^9) (disch := (try simp only [lens]); omega) only [argSl, sm, ↓amb, mark_eq, simprocAttr, en104, dx]
    repeat refine an ?_
    refine callK_h (c61i c.work (Pl.dqF c.dq p v) c.over (c.steps + 1) c.idle (Pl.evF c.dq p v) (Pl.num c.dq p) (by rw [Pl.foundD_len]; exact nb1) (Pl.foundD_lens (by omega) (by omega) (fun l h => (hl l h).1)) (by rw [Pl.foundD_len]; omega)) [104, 144] [] (by first | rfl | (simp only [hm]; done)) (by first | rfl | (simp [namesOk, lkp]; done)) ?_ ?_ ?_ ?_ ?_ ?_ ?_
    (iterate 6 (focus (first | trivial | (intro n hn; cases hn; done) | (simp (maxSteps := 9^9) (disch := (try simp only [lens]); omega) only [argSl, sm, ↓amb, mark_eq, simprocAttr, en104, dx, hmx, List.filter_cons, Nat.reduceBNe, imp_self, implies_true]; done))))
    simp (maxSteps := 9^9) (disch := (try simp only [lens]); omega) only [argSl, sm, ↓amb, mark_eq, simprocAttr, en104, dx, hm, List.filter_cons, List.filter_nil, Nat.reduceBNe, Option.map_none]
    repeat refine an ?_
    refine hk _ ?_; clear hk k
    refine awp_le (le_keep [3, 6, 7, 8, 9, 10]) ?_
    simp only [kp, argSl, simprocAttr]
    refine awp_sr [28] (by rw [hC]; rfl) fun k hk => ?_
    simp (maxSteps := 9^9) (disch := (try simp only [lens]); omega) only [argSl, sm, ↓amb, mark_eq, simprocAttr, dx]
    repeat refine an ?_
    refine hk _ ?_; clear hk k
    refine awp_cond rfl (fun hb => ?_) (fun hb => ?_)
    ·try simp only [hbx] at hb
     refine awp_le (le_keep [3, 6, 7, 10]) ?_
     simp only [kp, argSl, simprocAttr]
     refine awp_sr [28] (by rw [hC]; rfl) fun k hk => ?_
     simp (maxSteps := 9^9) (disch := (try simp only [lens]); omega) only [argSl, sm, ↓amb, mark_eq, simprocAttr, sz91, vr112, bt112, sz112, dx]
     repeat refine an ?_
     refine hk _ ?_; clear hk k
     refine awp_ret ?_
     rw [Pl.step_3 hR hst hfb hb]
     refine retl rfl rfl ⟨retc rfl sz91 ?_, retc rfl sz112 ?_, rett rfl ?_, trivial⟩
     all_goals first | (simp (maxSteps := 9^9) (disch := (try simp only [lens]); omega) only [argSl, sm, ↓amb, mark_eq, simprocAttr, sz112, sz91, dx]) | skip
     ·exact .p (LeP.refl _)
     ·exact .p (LeP.refl _)
     ·exact .p (LeP.refl _)
    ·try simp only [hbx] at hb
     refine awp_skip ?_
     refine h4 _ ?_; clear h4 k4
     refine awp_le (le_keep [6, 7, 9]) ?_
     simp only [kp, argSl, simprocAttr]
     refine awp_sd [28] ⟨[0, 1, 3, 7, 0, 16, 48, 112, 15, 511, 1023], [], [8, 9], [], some [8, 16]⟩ (by rw [hC]; rfl) (by kernel_rfl) (by kernel_rfl) fun k hk => ?_
     simp (maxSteps := 9^9) (disch := (try simp only [lens]); omega) only [argSl, sm, ↓amb, mark_eq, simprocAttr, fl145_0, sz91, fl145_1, sz112, dx]
     repeat refine an ?_
     refine hk _ ?_; clear hk k
     refine awp_ret ?_
     rw [Pl.step_4 hR hst hfb hb]
     refine retl rfl rfl ⟨retc rfl sz91 ?_, retc rfl sz112 ?_, rett rfl ?_, trivial⟩
     all_goals first | (simp (maxSteps := 9^9) (disch := (try simp only [lens]); omega) only [argSl, sm, ↓amb, mark_eq, simprocAttr, sz112, sz91, dx]) | skip
     ·exact .agg_cons (.p (LeP.refl _)) (.agg_cons (.p (LeP.refl _)) (.agg_cons (.p (LeP.refl _)) (.agg_cons (.ownE rfl rfl) (.agg_cons (.p (LeP.refl _)) (.agg_cons (.p (LeP.refl _)) (.agg_cons (.p (LeP.refl _)) (.agg_nil)))))))
     ·exact .p (LeP.refl _)
     ·exact .p (LeP.refl _)
   ·try simp only [hbx] at hb
    refine awp_skip ?_
    refine h3 _ ?_; clear h3 k3
    refine awp_seq fun k5 h5 => ?_
    refine awp_le (le_keep [3, 6, 7, 8, 9]) ?_
    simp only [kp, argSl, simprocAttr]
    have hfb := hb
    obtain ⟨ef1, ef2⟩ := Pl.none_found (e := Pl.evN c.dq p) hfb
    rw [ef1, ef2]
    refine awp_sr [28] (by rw [hC]; rfl) fun k hk => ?_
    simp (maxSteps := 9^9) (disch := (try simp only [lens]); omega) only [argSl, sm, ↓amb, mark_eq, simprocAttr, fl145_0, fl91_4, sz3, dx]
    repeat refine an ?_
    refine hk _ ?_; clear hk k
    refine awp_cond rfl (fun hb => ?_) (fun hb => ?_)
    ·try simp only [hbx] at hb
     refine awp_le (le_keep [3, 6, 7]) ?_
     simp only [kp, argSl, simprocAttr]
     refine awp_sr [28] (by rw [hC]; rfl) fun k hk => ?_
     simp (maxSteps := 9^9) (disch := (try simp only [lens]); omega) only [argSl, sm, ↓amb, mark_eq, simprocAttr, sz91, vr112, bt112, sz112, dx]
     repeat refine an ?_
     refine hk _ ?_; clear hk k
     refine awp_ret ?_
     rw [Pl.step_5 hR hst hfb hb]
     refine retl rfl rfl ⟨retc rfl sz91 ?_, retc rfl sz112 ?_, rett rfl ?_, trivial⟩
     all_goals first | (simp (maxSteps := 9^9) (disch := (try simp only [lens]); omega) only [argSl, sm, ↓amb, mark_eq, simprocAttr, sz112, sz91, dx]) | skip
     ·exact .p (LeP.refl _)
     ·exact .p (LeP.refl _)
     ·exact .p (LeP.refl _)
    ·try simp only [hbx] at hb
     refine awp_skip ?_
     refine h5 _ ?_; clear h5 k5
     refine awp_le (le_keep [6, 7, 9]) ?_
     simp only [kp, argSl, simprocAttr]
     have hid := hb
     refine awp_sr [28] (by rw [hC]; rfl) fun k hk => ?_
     simp (maxSteps := 9^9) (disch := (try simp only [lens]); omega) only [argSl, sm, ↓amb, mark_eq, simprocAttr, fl145_0, fl91_4, sz3, dx]
     repeat refine an ?_
     refine hk _ ?_; clear hk k
     refine awp_le (le_keep [6, 7, 9]) ?_
     simp only [kp, argSl, simprocAttr]
     refine awp_sd [28] ⟨[0, 1, 3, 7, 0, 16, 48, 112, 15, 511, 1023], [], [8, 9], [], some [8, 16]⟩ (by rw [hC]; rfl) (by kernel_rfl) (by kernel_rfl) fun k hk => ?_
     simp (maxSteps := 9^9) (disch := (try simp only [lens]); omega) only [argSl, sm, ↓amb, mark_eq, simprocAttr, fl145_0, sz91, fl145_1, sz112, dx]
     repeat refine an ?_
     refine hk _ ?_; clear hk k
     refine awp_ret ?_
     rw [Pl.step_6 hR hst hfb hid]
     refine retl rfl rfl ⟨retc rfl sz91 ?_, retc rfl sz112 ?_, rett rfl ?_, trivial⟩
     all_goals first | (simp (maxSteps := 9^9) (disch := (try simp only [lens]); omega) only [argSl, sm, ↓amb, mark_eq, simprocAttr, sz112, sz91, dx]) | skip
     ·exact .agg_cons (.p (LeP.refl _)) (.agg_cons (.p (LeP.refl _)) (.agg_cons (.p (LeP.refl _)) (.agg_cons (.ownE rfl rfl) (.agg_cons (.p (LeP.refl _)) (.agg_cons (.p (LeP.refl _)) (.agg_cons (.p (LeP.refl _)) (.agg_nil)))))))
     ·exact .p (LeP.refl _)
     ·exact .p (LeP.refl _)
end Go.Proofs.Ytbehekmnccoifaa
end
section
set_option linter.unusedSimpArgs false
set_option linter.unusedVariables false
namespace Go.Pl
def firstB {α : Type} (p : α → Bool) (l : List α) : Int := match l.findIdx? p with
  | some i => i
  | none => -1
theorem firstB_at {α : Type} [Inhabited α] {p : α → Bool} {l : List α} {i : Nat} (hi : i < l.length) (h : ∀ j, j < i → p (l.getD j default) = false) (h2 : p (l.getD i default) = true) : firstB p l = i := by
  have : l.findIdx? p = some i := by
    rw [List.findIdx?_eq_some_iff_getElem]
    refine ⟨hi, ?_, fun j hj => ?_⟩
    · rw [List.getD_eq_getElem?_getD, List.getElem?_eq_getElem hi] at h2; exact h2
    · have := h j hj
      rw [List.getD_eq_getElem?_getD, List.getElem?_eq_getElem (by omega)] at this
      simpa using this
  unfold firstB; rw [this]
theorem all_of {α : Type} [Inhabited α] {p : α → Bool} {l : List α} {i : Nat} (hi : l.length ≤ i) (h : ∀ j, j < i → j < l.length → p (l.getD j default) = false) : ∀ x, x ∈ l → p x = false := fun x hx => by
  obtain ⟨k, hk, e⟩ := List.getElem_of_mem hx
  have := h k (by omega) hk
  rw [List.getD_eq_getElem?_getD, List.getElem?_eq_getElem hk] at this
  rw [← e]; exact this
theorem firstB_no {α : Type} [Inhabited α] {p : α → Bool} {l : List α} {i : Nat} (hi : l.length ≤ i) (h : ∀ j, j < i → j < l.length → p (l.getD j default) = false) : firstB p l = -1 := by
  have : l.findIdx? p = none := by
    rw [List.findIdx?_eq_none_iff]
    exact all_of hi h
  unfold firstB; rw [this]
theorem firstB_iff {α : Type} (p : α → Bool) (l : List α) : (0 ≤ firstB p l) ↔ ∃ x, x ∈ l ∧ p x = true := by
  unfold firstB
  split
  · rename_i i h
    rw [List.findIdx?_eq_some_iff_getElem] at h
    obtain ⟨hi, h1, _⟩ := h
    exact ⟨fun _ => ⟨_, List.getElem_mem hi, h1⟩, fun _ => by omega⟩
  · rename_i h
    rw [List.findIdx?_eq_none_iff] at h
    exact ⟨fun q => by omega, fun ⟨x, h1, h2⟩ => by rw [h x h1] at h2; cases h2⟩
theorem firstB_ge {α : Type} (p : α → Bool) (l : List α) : -1 ≤ firstB p l ∧ firstB p l ≤ l.length := by
  unfold firstB
  split
  · rename_i i h
    rw [List.findIdx?_eq_some_iff_getElem] at h
    obtain ⟨hi, _⟩ := h; omega
  · omega
def shape (x : Batch) : Prop := 1 ≤ x.kind ∧ x.kind ≤ 3 ∧ (x.kind = 3 → x.edges.length = 0) ∧ (x.kind ≠ 3 → x.asks.length = 0) ∧ x.edges.length ≤ 60 ∧ x.asks.length ≤ 60
instance (x : Batch) : Decidable (shape x) := by unfold shape; infer_instance
def bdOk (n g w : Int) : Prop := cnt n g ∧ 1 ≤ w ∧ w ≤ 8
instance (n g w : Int) : Decidable (bdOk n g w) := by unfold bdOk; infer_instance
end Go.Pl
end
section
set_option linter.unusedSimpArgs false
set_option linter.unusedVariables false
namespace Go.Pl
theorem rp_eq {c : Crew} {W r p : Nat} (hW : c.dq.length = W) (hp : p < W) : rp c (r * W + p) = p ∧ rv c (r * W + p) = p + 1 + r := by
  unfold rp rv
  rw [hW, Nat.mul_comm, Nat.mul_add_mod, Nat.mod_eq_of_lt hp, Nat.mul_add_div (by omega), Nat.div_eq_of_lt hp, Nat.add_zero]
  exact ⟨rfl, rfl⟩
theorem rounds_over {f k : Nat} {c : Crew} {ev : List Event} (h : c.over = true) : rounds f k c ev = (c, ev, 0) := by
  cases f with
  | zero => rfl
  | succ f => simp only [rounds]; rw [if_pos h]
theorem rounds_on {f k W r p : Nat} {c : Crew} {ev : List Event} (hW : c.dq.length = W) (hp : p < W) (hk : k = r * W + p) (ho : ¬ c.over = true) (hh : ¬ held c.dq = 0) (h0 : (step c p (p + 1 + r)).2.2 = 0) (hf : k < f) :
    rounds (f - k) k c ev = rounds (f - (k + 1)) (k + 1) (step c p (p + 1 + r)).1 (ev ++ [(step c p (p + 1 + r)).2.1]) := by
  obtain ⟨e1, e2⟩ := rp_eq (r := r) hW hp
  rw [← hk] at e1 e2
  rw [show f - k = (f - (k + 1)) + 1 by omega]
  simp only [rounds]
  rw [if_neg ho, if_neg hh, e1, e2, if_neg (by simpa using h0)]
theorem Run.most_on {n g : Int} {c : Crew} {ev : List Event} (h : Run n g c ev) (hs : ev.length < 100000) {k W r p : Nat} (hW : c.dq.length = W) (hp : p < W) (hk : k = r * W + p) (ho : ¬ c.over = true) :
    most n g (k + 1) (Pl.step c p (p + 1 + r)).1 (ev ++ [(Pl.step c p (p + 1 + r)).2.1]) + 1 ≤ most n g k c ev := by
  obtain ⟨e1, e2⟩ := rp_eq (r := r) hW hp
  rw [← hk] at e1 e2
  have := h.most_step hs k ho
  rw [e1, e2] at this; exact this
theorem Run.most_0 {n g : Int} {c : Crew} {ev : List Event} (h : Run n g c ev) {k r : Nat} (hk : k = r * c.dq.length) : 0 ≤ most n g k c ev := by
  by_cases ho : c.over = true
  · have h3 := h.rem.2.2.1 ho
    unfold most
    rw [if_pos (.inr ho), h3, hk, Nat.mul_mod_left]; simp
  · have := (h.most_pos k ho).1; omega
theorem picked_ok {n g w : Int} {P : List (Int × Int)} (hc : cnt n g) (hw : 1 ≤ w ∧ w ≤ 8) (hP : P.length ≤ 70000) :
    (crewBegin n g w).2 = 0 ∧ Run n g (crewBegin n g w).1 [] ∧ (picked P (crewBegin n g w).1 []).2.2 = 0 ∧ Run n g (picked P (crewBegin n g w).1 []).1 (picked P (crewBegin n g w).1 []).2.1 ∧ (picked P (crewBegin n g w).1 []).2.1.length ≤ P.length ∧
    most n g 0 (picked P (crewBegin n g w).1 []).1 (picked P (crewBegin n g w).1 []).2.1 ≤ 16010 ∧ whole n g w P = rounds 20000 0 (picked P (crewBegin n g w).1 []).1 (picked P (crewBegin n g w).1 []).2.1 := by
  obtain ⟨b0, b1, b2, b3, b4, b5⟩ := CInv.begins hc hw
  obtain ⟨p1, p2, p3, p4⟩ := picked_end P _ _ (Run.begins hc hw) (by simp; omega)
  have hr0 := p2.rem
  rw [b4] at p4
  have hT : toCome n g (picked P (crewBegin n g w).1 []).2.1 ≤ 1999 := hr0.2.1
  have e2 : (((picked P (crewBegin n g w).1 []).1.dq.length : Nat) : Int) = w := by rw [p4]; omega
  have hTw : toCome n g (picked P (crewBegin n g w).1 []).2.1 * w ≤ 1999 * 8 := mul_up hT hw.2 (by omega) (by omega)
  simp only [List.length_nil] at p3
  refine ⟨b0, Run.begins hc hw, p1, p2, by omega, ?_, ?_⟩
  · unfold most
    rw [Nat.zero_mod, e2]
    split <;> omega
  · unfold whole; rw [if_neg (by simpa using b0)]
theorem leaves_len (ts : List Task) (ev : List Event) : (leaves' ts ev).length ≤ ev.length := by
  induction ev with
  | nil => exact Nat.le_refl _
  | cons e l ih => simp only [leaves']; split <;> simp <;> omega
theorem leaves_mem {ts : List Task} {s : Int × Int} : ∀ {ev : List Event}, s ∈ leaves' ts ev → ∃ t : Nat, t < ts.length ∧ s = ((ts.getD t default).low, (ts.getD t default).high)
  | e :: l, h => by
    simp only [leaves'] at h
    split at h
    · rename_i hc
      rcases List.mem_cons.1 h with q | q
      · unfold isLeaf at hc
        simp only [Bool.and_eq_true, decide_eq_true_eq] at hc
        exact ⟨e.task.toNat, by omega, q⟩
      · exact leaves_mem q
    · exact leaves_mem h
theorem Run.leaf {n g : Int} {c : Crew} {ev : List Event} (h : Run n g c ev) {s : Int × Int} (hs : s ∈ leaves' c.work.ts ev) : 0 ≤ s.1 ∧ s.1 < s.2 ∧ s.2 ≤ n := by
  obtain ⟨un, hci⟩ := h.ci
  obtain ⟨t, ht, rfl⟩ := leaves_mem hs
  have h1 := hci.inv.ok t ht
  have h2 := hci.inv.dl
  unfold okT at h1
  dsimp only; omega
theorem unitsOf_take_len (l : List (Int × Int)) (i : Nat) : (unitsOf (l.take i)).length ≤ (unitsOf l).length := by
  have : unitsOf l = unitsOf (l.take i) ++ unitsOf (l.drop i) := by rw [← unitsOf_app, List.take_append_drop]
  rw [this, List.length_append]; omega
def ordL (n : Int) (p : Plan) : List (Int × Int) := leaves' (ordW n p).1.work.ts (ordW n p).2.1
theorem ordL_ok {n : Int} {p : Plan} (h : ordOk n p) (h0 : n ≠ 0) : ordU n p = unitsOf (ordL n p) ∧ ordS n p = (ordW n p).2.1.length ∧ (∀ s, s ∈ ordL n p → 0 ≤ s.1 ∧ s.1 < s.2 ∧ s.2 ≤ n) ∧ ((unitsOf (ordL n p)).length : Int) = n ∧ (ordL n p).length ≤ 100000 ∧ (ordW n p).2.1.length ≤ 100000 ∧ (ordW n p).2.2 = 0 := by
  obtain ⟨h1, h2, h3⟩ := ord_cnt h h0
  obtain ⟨_, _, e, r, o, l1, _⟩ := whole_ok (P := p.picks) h1 h2 (by omega)
  have hu := (ordU_ok h).2.2
  have hT := (cntT_pos h1).2
  have h1' := h1
  unfold cnt at h1'
  have hTw : cntT n p.grain * p.workers ≤ 1999 * 8 := mul_up (by omega) (by omega) (by omega) (by omega)
  have e1 : ordU n p = unitsOf (ordL n p) := by unfold ordU ordL; rw [if_pos ⟨h, h0⟩]
  have hl := leaves_len (ordW n p).1.work.ts (ordW n p).2.1
  have hW : ((ordW n p).2.1.length : Int) ≤ p.picks.length + cntT n p.grain * p.workers := l1
  refine ⟨e1, by unfold ordS; rw [if_pos ⟨h, h0⟩], fun s hs => r.leaf hs, by rw [← e1]; exact hu, by unfold ordL; omega, by omega, e⟩
theorem ord_bd {n : Int} {p : Plan} (h : ordOk n p) (h0 : n ≠ 0) : bdOk n p.grain p.workers ∧ p.picks.length ≤ 4000 := by
  obtain ⟨h1, h2, h3⟩ := ord_cnt h h0
  exact ⟨⟨h1, h2⟩, h3⟩
theorem upto_take_len (l : List (Int × Int)) (i k : Nat) (h : i < l.length) (hk : (k : Int) < (l.getD i default).2 - (l.getD i default).1) : (unitsOf (l.take i) ++ upto (l.getD i default).1 ((l.getD i default).1 + k)).length < (unitsOf l).length := by
  have h1 := unitsOf_take_len l (i + 1)
  rw [unitsOf_take l i h, List.length_append, upto_len] at h1
  rw [List.length_append, upto_len]; omega
theorem ordE0 {n : Int} {p : Plan} (h : ordOk n p) : ordE n p = 0 := by unfold ordE; rw [if_pos h]
theorem ord_no {n : Int} {p : Plan} (h : ¬ ordOk n p) : ordE n p = 1 ∧ ordU n p = [] ∧ ordS n p = 0 := by
  unfold ordE ordU ordS
  rw [if_neg h, if_neg (fun q => h q.1), if_neg (fun q => h q.1)]; exact ⟨rfl, rfl, rfl⟩
theorem ord_zero (p : Plan) : ordU 0 p = [] ∧ ordS 0 p = 0 := by
  unfold ordU ordS
  rw [if_neg (fun q => q.2 rfl), if_neg (fun q => q.2 rfl)]; exact ⟨rfl, rfl⟩
end Go.Pl
namespace Go.Pl
theorem isLeaf_no {ts : List Task} {e : Event} (h : e.parted = true ∨ e.task < 0 ∨ (ts.length : Int) ≤ e.task) : isLeaf ts e = false := by
  unfold isLeaf
  rcases h with q | q | q
  · rw [q]; rfl
  · rw [decide_eq_false (show ¬ 0 ≤ e.task by omega)]; simp
  · rw [decide_eq_false (show ¬ e.task < ts.length by omega)]; simp
theorem isLeaf_yes {ts : List Task} {e : Event} (h : ¬ (e.parted = true ∨ e.task < 0 ∨ (ts.length : Int) ≤ e.task)) : isLeaf ts e = true ∧ 0 ≤ e.task ∧ e.task < ts.length := by
  have h1 : e.parted = false := by
    cases hp : e.parted with
    | false => rfl
    | true => exact absurd (.inl hp) h
  have h2 : 0 ≤ e.task := Int.not_lt.1 fun q => h (.inr (.inl q))
  have h3 : e.task < ts.length := Int.not_le.1 fun q => h (.inr (.inr q))
  refine ⟨?_, h2, h3⟩
  unfold isLeaf
  rw [h1, decide_eq_true h2, decide_eq_true h3]; rfl
end Go.Pl
namespace Go.Pl
theorem ord_steps {n : Int} {p : Plan} (h : ordOk n p) : leB n p ≤ ordS n p ∧ ordS n p ≤ phB n p ∧ (p.picks.length = 0 → p.workers = 1 → ordS n p = leB n p) ∧ min n 1 ≤ leB n p ∧ leB n p ≤ 2 * n ∧ ordS n p ≤ 20000 := by
  by_cases h0 : n = 0
  · subst h0
    have h1 : leB 0 p = 0 := if_neg (fun q => absurd q.1 (by decide))
    have h2 : phB 0 p = 0 := if_neg (fun q => absurd q.1 (by decide))
    rw [h1, h2, (ord_zero p).2]
    exact ⟨by omega, by omega, fun _ _ => rfl, by omega, by omega, by omega⟩
  · obtain ⟨h1, h2, h3⟩ := ord_cnt h h0
    obtain ⟨_, _, e, r, o, l1, l2⟩ := whole_ok (P := p.picks) h1 h2 (by omega)
    have hph : phOk n p := by
      have := h1; unfold cnt at this
      exact ⟨by omega, by omega, h.2.2⟩
    have e1 : leB n p = cntT n p.grain := if_pos hph
    have e2 : phB n p = p.picks.length + p.workers * (cntT n p.grain + 1) := if_pos hph
    have e3 : ordS n p = (whole n p.grain p.workers p.picks).2.1.length := by unfold ordS ordW; rw [if_pos ⟨h, h0⟩]
    have e4 : p.workers * (cntT n p.grain + 1) = cntT n p.grain * p.workers + p.workers := by rw [Int.mul_add, Int.mul_one, Int.mul_comm]
    have h5 := cntT_pos h1
    have h6 := (phB_nn n p).2
    have hn : 0 ≤ n := h.1
    rw [e1, e3]
    refine ⟨l2, by rw [e2, e4]; omega, fun a b => ?_, by omega, by omega, by rw [e2, e4] at h6; omega⟩
    have l3 : cntT n p.grain * p.workers = cntT n p.grain := by rw [b, Int.mul_one]
    omega
end Go.Pl
end
section
set_option linter.unusedSimpArgs false
set_option linter.unusedVariables false
set_option maxRecDepth 100000
namespace Go.Proofs.Ytbehekmnccoifaa
open Go.Am Go.Proofs
theorem by112 : tBytes Try.prog 112 = some 32 := by kernel_rfl
theorem el92 : tEl Try.prog 92 = some 112 := by kernel_rfl
theorem en94 : enters Try.prog 94 = true := by kernel_rfl
theorem fl126_0 : tFld Try.prog 126 0 = some (0, 7, true) := by kernel_rfl
theorem fl126_1 : tFld Try.prog 126 1 = some (7, 1, false) := by kernel_rfl
theorem sz92 : tSz Try.prog 92 = some (false, 1) := by kernel_rfl
set_option maxHeartbeats 4000000 in
theorem c_drain_go1_step (c : Pl.Crew) (ev : List Pl.Event) (p v : Int) (hl : ∀ l, l ∈ c.dq → l.length ≤ 1000000 ∧ ∀ t, t ∈ l → -9223372036854775808 ≤ t ∧ t ≤ 9223372036854775807) (h0 : (Pl.step c p v).2.2 = 0) (he : ev.length ≤ 1000000) : HCall Try.prog 80 [.ptr 7 8 0 0, .p (iV p), .p (iV v)] [(7, (.row 8 [[.p (.seq false (c.work.ts.map taskC)), .p (iV c.work.grain), .p (.seq false (c.work.done.map fun b => [bV b])), .p (.seq false (c.dq.map lV)), .p (bV c.over), .p (iV c.steps), .p (iV c.idle), .own 15]])), (15, (.row 4 (lift (ev.map evC))))] (.p (iV 0)) [(7, (.row 8 [[.p (.seq false ((Pl.step c p v).1.work.ts.map taskC)), .p (iV (Pl.step c p v).1.work.grain), .p (.seq false ((Pl.step c p v).1.work.done.map fun b => [bV b])), .p (.seq false ((Pl.step c p v).1.dq.map lV)), .p (bV (Pl.step c p v).1.over), .p (iV (Pl.step c p v).1.steps), .p (iV (Pl.step c p v).1.idle), .own 0]])), (0, (.row 4 (lift ((ev ++ [(Pl.step c p v).2.1]).map evC))))] := by
 refine hcall_of_awp Try.func80 rfl (by simp [Try.ntmps80]) fun C hC => ?_
 refine awp_le (le_keep [0, 1, 2]) ?_
 simp only [kp, argSl, simprocAttr]
 refine awp_sr [32] (by rw [hC]; rfl) fun k hk => ?_
 simp (maxSteps := 9^9) (disch := (try simp only [lens]); omega) only [argSl, sm, ↓amb, mark_eq, simprocAttr, dx]
 repeat refine an ?_
 refine hk _ ?_; clear hk k
 refine awp_le (le_keep [0, 1, 2]) ?_
 simp only [kp, argSl, simprocAttr]
 refine awp_sr [32] (by rw [hC]; rfl) fun k hk => ?_
 simp (maxSteps := 9^9) (disch := (try simp only [lens]); omega) only [argSl, sm, ↓amb, mark_eq, simprocAttr, fl126_0, sz91, en94, vr91, vr112, sz112, dx]
 repeat refine an ?_
 refine callK_p (c43 _ _ _ hl) rfl ?_
 simp (maxSteps := 9^9) (disch := (try simp only [lens]); omega) only [argSl, sm, ↓amb, mark_eq, simprocAttr, fl126_0, sz91, en94, vr91, vr112, sz112, dx]
 repeat refine an ?_
 refine hk _ ?_; clear hk k
 refine awp_seq fun k1 h1 => ?_
 refine awp_le (le_keep [0, 6, 7, 8, 9]) ?_
 simp only [kp, argSl, simprocAttr]
 rw [h0]
 refine awp_sr [32] (by rw [hC]; rfl) fun k hk => ?_
 simp (maxSteps := 9^9) (disch := (try simp only [lens]); omega) only [argSl, sm, ↓amb, mark_eq, simprocAttr, dx]
 repeat refine an ?_
 refine hk _ ?_; clear hk k
 refine awp_cond rfl (fun hb => ?_) (fun hb => ?_)
 ·try simp only [hbx] at hb
  refine awp_draw [32] ⟨[0, 0, 0, 0, 8, 24, 56, 0, 128, 504, 1021, 2045, 4093, 8191, 16383, 32767], [6], [9, 12, 15], [(9, 12), (9, 15)], some [7, 15]⟩ (by rw [hC]; rfl) (by kernel_rfl) (by kernel_rfl) fun k hk => ?_
  simp (maxSteps := 9^9) (disch := (try simp only [lens]); omega) only [argSl, sm, ↓amb, mark_eq, simprocAttr, sz91, fl126_1, sz92, sz112, el92, vr112, by112, fl126_0, dx]
  repeat refine an ?_
  refine hk _ ?_; clear hk k
  refine h1 _ ?_; clear h1 k1
  refine awp_le (le_keep [9]) ?_
  simp only [kp, argSl, simprocAttr]
  refine awp_sr [32] (by rw [hC]; rfl) fun k hk => ?_
  simp (maxSteps := 9^9) (disch := (try simp only [lens]); omega) only [argSl, sm, ↓amb, mark_eq, simprocAttr, dx]
  repeat refine an ?_
  refine hk _ ?_; clear hk k
  refine awp_ret ?_
  refine reth1 rfl rfl ?_
  exact le_of [(0, _)] (by rfl) (by rfl) ⟨⟨_, rfl, .p (.of_eq (by first | rfl | rw [h0]))⟩, trivial⟩ ⟨⟨_, rfl, _, rfl, .one (.cons (.p (.refl _)) (.cons (.p (.refl _)) (.cons (.p (.refl _)) (.cons (.p (.refl _)) (.cons (.p (.refl _)) (.cons (.p (.refl _)) (.cons (.p (.refl _)) (.cons (.own rfl) (.nil)))))))))⟩, ⟨_, rfl, _, rfl, .liftE (by simp)⟩, trivial⟩
 ·exact absurd hb (by simp)
end Go.Proofs.Ytbehekmnccoifaa
end
section
set_option linter.unusedSimpArgs false
set_option linter.unusedVariables false
set_option maxRecDepth 100000
namespace Go.Proofs.Ytbehekmnccoifaa
open Go.Am Go.Proofs
theorem en80 : enters Try.prog 80 = true := by kernel_rfl
theorem en95 : enters Try.prog 95 = true := by kernel_rfl
set_option maxHeartbeats 4000000 in
theorem c_drain_go1_rounds (n g : Int) (c : Pl.Crew) (ev : List Pl.Event) (hR : Pl.Run n g c ev) (hM : Pl.most n g 0 c ev ≤ 16010) (he : ev.length ≤ 70000) : HCall Try.prog 81 [.ptr 7 8 0 0] [(7, (.row 8 [[.p (.seq false (c.work.ts.map taskC)), .p (iV c.work.grain), .p (.seq false (c.work.done.map fun b => [bV b])), .p (.seq false (c.dq.map lV)), .p (bV c.over), .p (iV c.steps), .p (iV c.idle), .own 15]])), (15, (.row 4 (lift (ev.map evC))))] (.p (iV 0)) [(7, (.row 8 [[.p (.seq false ((Pl.rounds 20000 0 c ev).1.work.ts.map taskC)), .p (iV (Pl.rounds 20000 0 c ev).1.work.grain), .p (.seq false ((Pl.rounds 20000 0 c ev).1.work.done.map fun b => [bV b])), .p (.seq false ((Pl.rounds 20000 0 c ev).1.dq.map lV)), .p (bV (Pl.rounds 20000 0 c ev).1.over), .p (iV (Pl.rounds 20000 0 c ev).1.steps), .p (iV (Pl.rounds 20000 0 c ev).1.idle), .p (.seq false ((Pl.rounds 20000 0 c ev).2.1.map evC))]]))] := by
 refine hcall_of_awp Try.func81 rfl (by simp [Try.ntmps81]) fun C hC => ?_
 refine awp_le (le_keep [0]) ?_
 simp only [kp, argSl, simprocAttr]
 refine awp_sr [] (by rw [hC]; rfl) fun k hk => ?_
 simp (maxSteps := 9^9) (disch := (try simp only [lens]); omega) only [argSl, sm, ↓amb, mark_eq, simprocAttr, dx]
 repeat refine an ?_
 refine hk _ ?_; clear hk k
 refine awp_le (le_keep [0]) ?_
 simp only [kp, argSl, simprocAttr]
 refine awp_sr [] (by rw [hC]; rfl) fun k hk => ?_
 simp (maxSteps := 9^9) (disch := (try simp only [lens]); omega) only [argSl, sm, ↓amb, mark_eq, simprocAttr, dx]
 repeat refine an ?_
 refine hk _ ?_; clear hk k
 refine awp_block ?_
 refine awp_loop (σ := Nat × Pl.Crew × List Pl.Event) (fun x => Pl.Run n g x.2.1 x.2.2 ∧ x.2.1.dq.length = c.dq.length ∧ Pl.rounds (20000 - (x.1 * c.dq.length)) (x.1 * c.dq.length) x.2.1 x.2.2 = (Pl.rounds 20000 0 c ev) ∧ Pl.most n g (x.1 * c.dq.length) x.2.1 x.2.2 + (((x.1 * c.dq.length) : Nat) : Int) ≤ 16010 ∧ x.2.2.length = ev.length + (x.1 * c.dq.length)) (fun x => ⟨[(0, (.ptr 7 8 0 0)), (3, (.p (iV (x.1 : Int))))], [(7, (.row 8 [[.p (.seq false (x.2.1.work.ts.map taskC)), .p (iV x.2.1.work.grain), .p (.seq false (x.2.1.work.done.map fun b => [bV b])), .p (.seq false (x.2.1.dq.map lV)), .p (bV x.2.1.over), .p (iV x.2.1.steps), .p (iV x.2.1.idle), .own 0]])), (0, (.row 4 (lift (x.2.2.map evC))))], 1⟩) (fun x => 16011 - x.1 * c.dq.length) (0, c, ev) ?_ ?_ fun x hx => ?_
 ·dsimp only; rw [Nat.zero_mul]; exact ⟨hR, rfl, rfl, by omega, by omega⟩
 ·exact le_of2 [(0, _)] (by rfl) (by rfl) ⟨⟨_, rfl, .ptr rfl⟩, ⟨_, rfl, .oe⟩, trivial⟩ ⟨⟨_, rfl, _, rfl, .one (.cons (.p (.refl _)) (.cons (.p (.refl _)) (.cons (.p (.refl _)) (.cons (.p (.refl _)) (.cons (.p (.refl _)) (.cons (.p (.refl _)) (.cons (.p (.refl _)) (.cons (.own rfl) (.nil)))))))))⟩, ⟨_, rfl, _, rfl, .liftE rfl⟩, trivial⟩
 obtain ⟨r, c1, e1⟩ := x
 obtain ⟨hR1, hRw, hRr, hRm, hRe⟩ := hx
 dsimp only at hR1 hRw hRr hRm hRe
 refine awp_seq fun k2 h2 => ?_
 refine awp_block ?_
 refine awp_le (le_keep [0, 2, 3, 7]) ?_
 simp only [kp, argSl, simprocAttr]
 refine awp_sr [] (by rw [hC]; rfl) fun k hk => ?_
 simp (maxSteps := 9^9) (disch := (try simp only [lens]); omega) only [argSl, sm, ↓amb, mark_eq, simprocAttr, fl126_0, fl91_1, sz89, el89, dx]
 repeat refine an ?_
 refine hk _ ?_; clear hk k
 refine awp_block ?_
 refine awp_loop (σ := Nat × Pl.Crew × List Pl.Event) (fun x => x.1 ≤ c.dq.length ∧ Pl.Run n g x.2.1 x.2.2 ∧ x.2.1.dq.length = c.dq.length ∧ Pl.rounds (20000 - (r * c.dq.length + x.1)) (r * c.dq.length + x.1) x.2.1 x.2.2 = (Pl.rounds 20000 0 c ev) ∧ Pl.most n g (r * c.dq.length + x.1) x.2.1 x.2.2 + (((r * c.dq.length + x.1) : Nat) : Int) ≤ 16010 ∧ x.2.2.length = ev.length + (r * c.dq.length + x.1)) (fun x => ⟨[(0, (.ptr 7 8 0 0)), (3, (.p (iV (r : Int)))), (13, (.p (iV (c.dq.length : Int)))), (14, (.p (iV (x.1 : Int))))], [(7, (.row 8 [[.p (.seq false (x.2.1.work.ts.map taskC)), .p (iV x.2.1.work.grain), .p (.seq false (x.2.1.work.done.map fun b => [bV b])), .p (.seq false (x.2.1.dq.map lV)), .p (bV x.2.1.over), .p (iV x.2.1.steps), .p (iV x.2.1.idle), .own 0]])), (0, (.row 4 (lift (x.2.2.map evC))))], 1⟩) (fun x => c.dq.length - x.1) (0, c1, e1) ?_ ?_ fun x hx => ?_
 ·dsimp only; rw [Nat.add_zero]; exact ⟨Nat.zero_le _, hR1, hRw, hRr, hRm, hRe⟩
 ·exact le_of [(0, _)] (by rfl) (by rfl) ⟨⟨_, rfl, .ptr rfl⟩, ⟨_, rfl, .oe⟩, ⟨_, rfl, .p (.of_eq (by first | rfl | rw [hRw]))⟩, ⟨_, rfl, .oe⟩, trivial⟩ ⟨⟨_, rfl, _, rfl, .one (.cons (.p (.refl _)) (.cons (.p (.refl _)) (.cons (.p (.refl _)) (.cons (.p (.refl _)) (.cons (.p (.refl _)) (.cons (.p (.refl _)) (.cons (.p (.refl _)) (.cons (.own rfl) (.nil)))))))))⟩, ⟨_, rfl, _, rfl, .liftE rfl⟩, trivial⟩
 obtain ⟨p, c2, e2⟩ := x
 obtain ⟨hp1, hR2, hR3, hR4, hR5, hR6⟩ := hx
 dsimp only at hp1 hR2 hR3 hR4 hR5 hR6
 have hdl := hR1.dqlen
 have hm0 := hR1.most_0 (k := r * c.dq.length) (r := r) (by rw [hRw])
 have hrr : r ≤ r * c.dq.length := Nat.le_mul_of_pos_right r (by omega)
 refine awp_le (le_keep [0, 2, 3, 7, 13, 14]) ?_
 simp only [kp, argSl, simprocAttr]
 refine awp_sr [] (by rw [hC]; rfl) fun k hk => ?_
 simp (maxSteps := 9^9) (disch := (try simp only [lens]); omega) only [argSl, sm, ↓amb, mark_eq, simprocAttr, dx]
 repeat refine an ?_
 refine hk _ ?_; clear hk k
 refine awp_seq fun k4 h4 => ?_
 refine awp_cond rfl (fun hb => ?_) (fun hb => ?_)
 ·try simp only [hbx] at hb
  refine awp_skip ?_
  refine h4 _ ?_; clear h4 k4
  refine awp_seq fun k5 h5 => ?_
  refine awp_block ?_
  refine awp_le (le_keep [0, 2, 3, 7, 13, 14]) ?_
  simp only [kp, argSl, simprocAttr]
  refine awp_sr [] (by rw [hC]; rfl) fun k hk => ?_
  simp (maxSteps := 9^9) (disch := (try simp only [lens]); omega) only [argSl, sm, ↓amb, mark_eq, simprocAttr, dx]
  repeat refine an ?_
  refine hk _ ?_; clear hk k
  refine awp_seq fun k6 h6 => ?_
  refine awp_block ?_
  refine awp_le (le_keep [0, 2, 3, 4, 7, 13, 14]) ?_
  simp only [kp, argSl, simprocAttr]
  refine awp_sr [] (by rw [hC]; rfl) fun k hk => ?_
  simp (maxSteps := 9^9) (disch := (try simp only [lens]); omega) only [argSl, sm, ↓amb, mark_eq, simprocAttr, fl126_0, fl91_2, sz4, dx]
  repeat refine an ?_
  refine hk _ ?_; clear hk k
  refine awp_cond rfl (fun hb => ?_) (fun hb => ?_)
  ·try simp only [hbx] at hb
   refine awp_le (le_keep []) ?_
   simp only [kp, argSl, simprocAttr]
   have ho := hb
   refine awp_sr [] (by rw [hC]; rfl) fun k hk => ?_
   simp (maxSteps := 9^9) (disch := (try simp only [lens]); omega) only [argSl, sm, ↓amb, mark_eq, simprocAttr, dx]
   repeat refine an ?_
   refine hk _ ?_; clear hk k
   refine awp_ret ?_
   rw [Pl.rounds_over ho] at hR4
   rw [← hR4]
   refine reth1 rfl rfl ?_
   exact le_of [] (by rfl) (by rfl) ⟨⟨_, rfl, .p (.refl _)⟩, trivial⟩ ⟨⟨_, rfl, _, rfl, .one (.cons (.p (.refl _)) (.cons (.p (.refl _)) (.cons (.p (.refl _)) (.cons (.p (.refl _)) (.cons (.p (.refl _)) (.cons (.p (.refl _)) (.cons (.p (.refl _)) (.cons (.frz rfl (by rfl)) .nil))))))))⟩, trivial⟩
  ·try simp only [hbx] at hb
   refine awp_le (le_keep [0, 2, 3, 4, 7, 13, 14]) ?_
   simp only [kp, argSl, simprocAttr]
   have ho : ¬ c2.over = true := by simp [hb]
   refine awp_sr [] (by rw [hC]; rfl) fun k hk => ?_
   simp (maxSteps := 9^9) (disch := (try simp only [lens]); omega) only [argSl, sm, ↓amb, mark_eq, simprocAttr, fl126_0, sz91, en95, dx]
   repeat refine an ?_
   refine callK_p (c45 _ hR2.held.2 (by have := hR2.dqlen; omega)) rfl ?_
   simp (maxSteps := 9^9) (disch := (try simp only [lens]); omega) only [argSl, sm, ↓amb, mark_eq, simprocAttr, fl126_0, sz91, en95, dx]
   repeat refine an ?_
   refine hk _ ?_; clear hk k
   refine awp_cond rfl (fun hb => ?_) (fun hb => ?_)
   ·exact absurd (hR2.held.1.2 (by have := beq_iff_eq.mp hb; omega)) ho
   ·try simp only [hbx] at hb
    refine awp_skip ?_
    refine h6 _ ?_; clear h6 k6
    refine awp_le (le_keep [0, 2, 3, 4, 7, 13, 14]) ?_
    simp only [kp, argSl, simprocAttr]
    have hh : ¬ Pl.held c2.dq = 0 := by omega
    have hk1 := (hR2.most_pos (r * c.dq.length + p) ho).1
    obtain ⟨hs1, hs2⟩ := hR2.step (by omega) p (p + 1 + r)
    have hs3 := Pl.rounds_on (f := 20000) (k := r * c.dq.length + p) (W := c.dq.length) (r := r) (p := p) (ev := e2) hR3 (by omega) rfl ho hh hs1 (by omega)
    have hs4 := hR2.most_on (by omega) (W := c.dq.length) (r := r) (p := p) hR3 (by omega) rfl ho
    refine awp_sr [] (by rw [hC]; rfl) fun k hk => ?_
    simp (maxSteps := 9^9) (disch := (try simp only [lens]); omega) only [argSl, sm, ↓amb, mark_eq, simprocAttr, en80, dx]
    repeat refine an ?_
    refine callK_h (c_drain_go1_step c2 e2 p (p + 1 + r) (Pl.good_hl hR2.gd) hs1 (by omega)) [7, 0] [] (by first | rfl | (simp only [hm]; done)) (by first | rfl | (simp [namesOk, lkp]; done)) ?_ ?_ ?_ ?_ ?_ ?_ ?_
    (iterate 6 (focus (first | trivial | (intro n hn; cases hn; done) | (simp (maxSteps := 9^9) (disch := (try simp only [lens]); omega) only [argSl, sm, ↓amb, mark_eq, simprocAttr, en80, dx, hmx, List.filter_cons, Nat.reduceBNe, imp_self, implies_true]; done))))
    simp (maxSteps := 9^9) (disch := (try simp only [lens]); omega) only [argSl, sm, ↓amb, mark_eq, simprocAttr, en80, dx, hm, List.filter_cons, List.filter_nil, Nat.reduceBNe, Option.map_none]
    repeat refine an ?_
    refine hk _ ?_; clear hk k
    refine awp_le (le_keep [0, 2, 3, 5, 7, 13, 14]) ?_
    simp only [kp, argSl, simprocAttr]
    refine awp_sr [] (by rw [hC]; rfl) fun k hk => ?_
    simp (maxSteps := 9^9) (disch := (try simp only [lens]); omega) only [argSl, sm, ↓amb, mark_eq, simprocAttr, dx]
    repeat refine an ?_
    refine hk _ ?_; clear hk k
    refine awp_cond rfl (fun hb => ?_) (fun hb => ?_)
    ·exact absurd hb (by simp)
    ·try simp only [hbx] at hb
     refine awp_skip ?_
     refine h5 _ ?_; clear h5 k5
     refine awp_region [] (by rw [hC]; rfl) fun k hk => ?_
     simp (maxSteps := 9^9) (disch := (try simp only [lens]); omega) only [argSl, sm, ↓amb, mark_eq, simprocAttr, dx]
     repeat refine an ?_
     refine hk _ ?_; clear hk k
     refine ⟨(p + 1, (Pl.step c2 p (p + 1 + r)).1, e2 ++ [(Pl.step c2 p (p + 1 + r)).2.1]), (by dsimp only; rw [← Nat.add_assoc]; exact ⟨by omega, hs2, by rw [Pl.step_dqlen]; exact hR3, by rw [← hs3]; exact hR4, by omega, by rw [List.length_append, List.length_singleton]; omega⟩), le_of [(0, _)] (by rfl) (by rfl) ⟨⟨_, rfl, .ptr rfl⟩, ⟨_, rfl, .oe⟩, ⟨_, rfl, .p (.of_eq (by first | rfl | rw [hRw]))⟩, ⟨_, rfl, .oe⟩, trivial⟩ ⟨⟨_, rfl, _, rfl, .one (.cons (.p (.refl _)) (.cons (.p (.refl _)) (.cons (.p (.refl _)) (.cons (.p (.refl _)) (.cons (.p (.refl _)) (.cons (.p (.refl _)) (.cons (.p (.refl _)) (.cons (.own rfl) (.nil)))))))))⟩, ⟨_, rfl, _, rfl, .liftE rfl⟩, trivial⟩, (by dsimp only; omega)⟩
 ·try simp only [hbx] at hb
  refine awp_exit ((if_pos rfl).mpr ?_)
  refine h2 _ ?_; clear h4 k4; clear h2 k2
  have hp2 : r * c.dq.length + p = r * c.dq.length + c.dq.length := by omega
  refine awp_region [] (by rw [hC]; rfl) fun k hk => ?_
  simp (maxSteps := 9^9) (disch := (try simp only [lens]); omega) only [argSl, sm, ↓amb, mark_eq, simprocAttr, dx]
  repeat refine an ?_
  refine hk _ ?_; clear hk k
  refine ⟨(r + 1, c2, e2), (by dsimp only; rw [Nat.add_mul, Nat.one_mul]; rw [hp2] at hR4 hR5 hR6; exact ⟨hR2, hR3, hR4, hR5, hR6⟩), le_of [(0, _)] (by rfl) (by rfl) ⟨⟨_, rfl, .ptr rfl⟩, ⟨_, rfl, .oe⟩, trivial⟩ ⟨⟨_, rfl, _, rfl, .one (.cons (.p (.refl _)) (.cons (.p (.refl _)) (.cons (.p (.refl _)) (.cons (.p (.refl _)) (.cons (.p (.refl _)) (.cons (.p (.refl _)) (.cons (.p (.refl _)) (.cons (.own rfl) (.nil)))))))))⟩, ⟨_, rfl, _, rfl, .liftE rfl⟩, trivial⟩, (by dsimp only; rw [Nat.add_mul, Nat.one_mul]; have := hR1.most_0 (k := r * c.dq.length) (r := r) (by rw [hRw]); have := hR1.dqlen; omega)⟩
end Go.Proofs.Ytbehekmnccoifaa
end
section
set_option linter.unusedSimpArgs false
set_option linter.unusedVariables false
set_option maxRecDepth 100000
namespace Go.Proofs.Ytbehekmnccoifaa
open Go.Am Go.Proofs
theorem ar115 : tArr Try.prog 115 = some (2, 1, false) := by kernel_rfl
theorem bt126 : tBuilt Try.prog 126 = true := by kernel_rfl
theorem bt98 : tBuilt Try.prog 98 = true := by kernel_rfl
theorem by98 : tBytes Try.prog 98 = some 16 := by kernel_rfl
theorem el115 : tEl Try.prog 115 = none := by kernel_rfl
theorem el24 : tEl Try.prog 24 = some 115 := by kernel_rfl
theorem el95 : tEl Try.prog 95 = some 98 := by kernel_rfl
theorem en79 : enters Try.prog 79 = true := by kernel_rfl
theorem en81 : enters Try.prog 81 = true := by kernel_rfl
theorem pl126_0 : tPlace Try.prog 126 0 = some (0, 7) := by kernel_rfl
theorem pl98_0 : tPlace Try.prog 98 0 = some (0, 1) := by kernel_rfl
theorem pl98_1 : tPlace Try.prog 98 1 = some (1, 1) := by kernel_rfl
theorem sz115 : tSz Try.prog 115 = some (true, 2) := by kernel_rfl
theorem vr115 : tVar Try.prog 115 = some (true, [.lit (.int .i64 0), .lit (.int .i64 0)]) := by kernel_rfl
theorem vr126 : tVar Try.prog 126 = some (true, [.seq true [], .lit (.int .i64 0), .seq true [], .seq true [], .lit (.bool false), .lit (.int .i64 0), .lit (.int .i64 0), .seq true []]) := by kernel_rfl
theorem vr98 : tVar Try.prog 98 = some (true, [.lit (.int .i64 0), .lit (.int .i64 0)]) := by kernel_rfl
set_option maxHeartbeats 4000000 in
theorem c_drain_Whole (cp : Bool) (n g w : Int) (P : List (Int × Int)) (hok : Pl.bdOk n g w) (hP : P.length ≤ 70000) : PCall Try.prog 68 [iV n, iV g, iV w, picksV cp P] (.tup [.agg (crewC (Pl.whole n g w P).1), .seq false ((Pl.whole n g w P).2.1.map evC), iV 0]) := by
 obtain ⟨hcn, hww⟩ := hok
 obtain ⟨b0, b1, b2, b3, b4, b5, b6⟩ := Pl.picked_ok (P := P) hcn hww hP
 have hcn' := hcn
 unfold Pl.cnt at hcn'
 refine pcall_of_awp Try.func68 rfl (by simp [Try.ntmps68]) fun C hC => ?_
 refine awp_le (le_keep [0, 1, 2, 3]) ?_
 simp only [kp, argSl, simprocAttr]
 refine awp_sr [] (by rw [hC]; rfl) fun k hk => ?_
 simp (maxSteps := 9^9) (disch := (try simp only [lens]); omega) only [argSl, sm, ↓amb, mark_eq, simprocAttr, vr91, dx]
 repeat refine an ?_
 refine hk _ ?_; clear hk k
 refine awp_le (le_keep [0, 1, 2, 3, 8]) ?_
 simp only [kp, argSl, simprocAttr]
 refine awp_sr [] (by rw [hC]; rfl) fun k hk => ?_
 simp (maxSteps := 9^9) (disch := (try simp only [lens]); omega) only [argSl, sm, ↓amb, mark_eq, simprocAttr, en79, vr91, sz91, dx]
 repeat refine an ?_
 refine callK_p (c42 _ _ _ (by omega)) rfl ?_
 simp (maxSteps := 9^9) (disch := (try simp only [lens]); omega) only [argSl, sm, ↓amb, mark_eq, simprocAttr, en79, vr91, sz91, dx]
 repeat refine an ?_
 refine hk _ ?_; clear hk k
 refine awp_seq fun k1 h1 => ?_
 refine awp_le (le_keep [3, 8, 9, 10, 11, 12]) ?_
 simp only [kp, argSl, simprocAttr]
 rw [b0]
 refine awp_sr [] (by rw [hC]; rfl) fun k hk => ?_
 simp (maxSteps := 9^9) (disch := (try simp only [lens]); omega) only [argSl, sm, ↓amb, mark_eq, simprocAttr, dx]
 repeat refine an ?_
 refine hk _ ?_; clear hk k
 refine awp_cond rfl (fun hb => ?_) (fun hb => ?_)
 ·exact absurd hb (by simp)
 ·try simp only [hbx] at hb
  refine awp_skip ?_
  refine h1 _ ?_; clear h1 k1
  refine awp_le (le_keep [3, 8, 11]) ?_
  simp only [kp, argSl, simprocAttr]
  refine awp_sr [] (by rw [hC]; rfl) fun k hk => ?_
  simp (maxSteps := 9^9) (disch := (try simp only [lens]); omega) only [argSl, sm, ↓amb, mark_eq, simprocAttr, sz91, vr126, bt126, pl126_0, dx]
  repeat refine an ?_
  refine hk _ ?_; clear hk k
  refine awp_seq fun k2 h2 => ?_
  refine awp_le (le_keep [3, 8, 9, 10, 13]) ?_
  simp only [kp, argSl, simprocAttr]
  refine awp_ownCs 13 4 7 rfl rfl rfl ?_
  simp only [am, List.set_cons_succ, List.set_cons_zero, Nat.reduceEqDiff, ↓reduceIte, reduceCtorEq, Nat.reduceAdd, Nat.reduceMul]
  refine awp_sr [] (by rw [hC]; rfl) fun k hk => ?_
  simp (maxSteps := 9^9) (disch := (try simp only [lens]); omega) only [argSl, sm, ↓amb, mark_eq, simprocAttr, el24, dx]
  repeat refine an ?_
  refine hk _ ?_; clear hk k
  refine awp_block ?_
  refine awp_loop (σ := Nat × Pl.Crew × List Pl.Event) (fun x => x.1 ≤ P.length ∧ Pl.Run n g x.2.1 x.2.2 ∧ Pl.picked (P.drop x.1) x.2.1 x.2.2 = (Pl.picked P (Pl.crewBegin n g w).1 []) ∧ x.2.2.length ≤ x.1) (fun x => ⟨[(8, (.ptr 0 7 0 0)), (13, (.ptr 1 8 0 0)), (31, (.p (picksV cp P))), (32, (.p (iV P.length))), (33, (.p (iV (x.1 : Int))))], [(0, (.row 7 [[.p (.seq true []), .p (iV 0), .p (.seq true []), .p (.seq true []), .p (bV false), .p (iV 0), .p (iV 0)]])), (1, (.row 8 [[.p (.seq false (x.2.1.work.ts.map taskC)), .p (iV x.2.1.work.grain), .p (.seq false (x.2.1.work.done.map fun b => [bV b])), .p (.seq false (x.2.1.dq.map lV)), .p (bV x.2.1.over), .p (iV x.2.1.steps), .p (iV x.2.1.idle), .own 2]])), (2, (.row 4 (lift (x.2.2.map evC))))], 1⟩) (fun x => P.length - x.1) (0, (Pl.crewBegin n g w).1, []) ?_ ?_ fun x hx => ?_
  ·exact ⟨Nat.zero_le _, b1, rfl, Nat.le_refl _⟩
  ·exact le_of [(0, _), (1, _), (2, _)] (by rfl) (by rfl) ⟨⟨_, rfl, .ptr rfl⟩, ⟨_, rfl, .ptr rfl⟩, ⟨_, rfl, .oe⟩, ⟨_, rfl, .oe⟩, ⟨_, rfl, .oe⟩, trivial⟩ ⟨⟨_, rfl, _, rfl, .one (.cons (.p (.refl _)) (.cons (.p (.refl _)) (.cons (.p (.refl _)) (.cons (.p (.refl _)) (.cons (.p (.refl _)) (.cons (.p (.refl _)) (.cons (.p (.refl _)) (.nil))))))))⟩, ⟨_, rfl, _, rfl, .one (.cons (.p (.refl _)) (.cons (.p (.refl _)) (.cons (.p (.refl _)) (.cons (.p (.refl _)) (.cons (.p (.refl _)) (.cons (.p (.refl _)) (.cons (.p (.refl _)) (.cons (.own rfl) (.nil)))))))))⟩, ⟨_, rfl, _, rfl, .liftE (by first | rfl | simp)⟩, trivial⟩
  obtain ⟨i, c, ev⟩ := x
  obtain ⟨hi, hR, hK, hel⟩ := hx
  dsimp only at hi hR hK hel
  refine awp_le (le_keep [0, 1, 2, 8, 9, 10, 13, 31, 32, 33]) ?_
  simp only [kp, argSl, simprocAttr]
  refine awp_sr [] (by rw [hC]; rfl) fun k hk => ?_
  simp (maxSteps := 9^9) (disch := (try simp only [lens]); omega) only [argSl, sm, ↓amb, mark_eq, simprocAttr, dx]
  repeat refine an ?_
  refine hk _ ?_; clear hk k
  refine awp_seq fun k4 h4 => ?_
  refine awp_cond rfl (fun hb => ?_) (fun hb => ?_)
  ·try simp only [hbx] at hb
   refine awp_skip ?_
   refine h4 _ ?_; clear h4 k4
   refine awp_seq fun k5 h5 => ?_
   refine awp_block ?_
   refine awp_le (le_keep [0, 1, 2, 8, 9, 10, 13, 31, 32, 33]) ?_
   simp only [kp, argSl, simprocAttr]
   refine awp_sr [] (by rw [hC]; rfl) fun k hk => ?_
   simp (maxSteps := 9^9) (disch := (try simp only [lens]); omega) only [argSl, sm, ↓amb, mark_eq, simprocAttr, el24, sz115, vr115, dx]
   repeat refine an ?_
   refine hk _ ?_; clear hk k
   refine awp_seq fun k6 h6 => ?_
   refine awp_le (le_keep [0, 1, 2, 8, 9, 10, 13, 15, 31, 32, 33]) ?_
   simp only [kp, argSl, simprocAttr]
   refine awp_sr [] (by rw [hC]; rfl) fun k hk => ?_
   simp (maxSteps := 9^9) (disch := (try simp only [lens]); omega) only [argSl, sm, ↓amb, mark_eq, simprocAttr, fl126_0, fl91_2, sz4, dx]
   repeat refine an ?_
   refine hk _ ?_; clear hk k
   refine awp_cond rfl (fun hb => ?_) (fun hb => ?_)
   ·try simp only [hbx] at hb
    refine awp_exit ((if_neg (by decide)).mpr ((if_pos rfl).mpr ?_))
    refine h2 _ ?_; clear h6 k6; clear h5 k5; clear h2 k2
    refine awp_le (le_keep [8, 13]) ?_
    simp only [kp, argSl, simprocAttr]
    have he0 : (Pl.picked P (Pl.crewBegin n g w).1 []) = (c, ev, 0) := by first | (rw [← hK]; exact Pl.picked_nil (by omega)) | (rw [← hK]; exact Pl.picked_over _ (by first | exact hb | simp [hb]))
    have hM : Pl.most n g 0 c ev ≤ 16010 := by rw [he0] at b5; exact b5
    have hW : (Pl.whole n g w P) = Pl.rounds 20000 0 c ev := by rw [b6, he0]
    rw [hW]
    refine awp_sr [] (by rw [hC]; rfl) fun k hk => ?_
    simp (maxSteps := 9^9) (disch := (try simp only [lens]); omega) only [argSl, sm, ↓amb, mark_eq, simprocAttr, en81, dx]
    repeat refine an ?_
    refine callK_h (c_drain_go1_rounds n g c ev hR hM (by omega)) [1, 2] [] (by first | rfl | (simp only [hm]; done)) (by first | rfl | (simp [namesOk, lkp]; done)) ?_ ?_ ?_ ?_ ?_ ?_ ?_
    (iterate 6 (focus (first | trivial | (intro n hn; cases hn; done) | (simp (maxSteps := 9^9) (disch := (try simp only [lens]); omega) only [argSl, sm, ↓amb, mark_eq, simprocAttr, en81, dx, hmx, List.filter_cons, Nat.reduceBNe, imp_self, implies_true]; done))))
    simp (maxSteps := 9^9) (disch := (try simp only [lens]); omega) only [argSl, sm, ↓amb, mark_eq, simprocAttr, en81, dx, hm, List.filter_cons, List.filter_nil, Nat.reduceBNe, Option.map_none]
    repeat refine an ?_
    refine hk _ ?_; clear hk k
    refine awp_le (le_keep [8, 12, 13]) ?_
    simp only [kp, argSl, simprocAttr]
    refine awp_sd [] ⟨[0, 1, 3, 7, 0, 16, 48, 112, 0, 15, 767, 2047], [], [9], [], some [0]⟩ (by rw [hC]; rfl) (by kernel_rfl) (by kernel_rfl) fun k hk => ?_
    simp (maxSteps := 9^9) (disch := (try simp only [lens]); omega) only [argSl, sm, ↓amb, mark_eq, simprocAttr, fl126_0, sz91, fl126_1, sz92, dx]
    repeat refine an ?_
    refine hk _ ?_; clear hk k
    refine awp_ret ?_
    refine retl rfl rfl ⟨retc rfl sz91 ?_, rett rfl ?_, rett rfl ?_, trivial⟩
    simp (maxSteps := 9^9) (disch := (try simp only [lens]); omega) only [argSl, sm, ↓amb, mark_eq, simprocAttr, sz91, dx]
    ·exact .p (LeP.refl _)
    ·exact .p (LeP.refl _)
    ·exact .p (LeP.refl _)
   ·try simp only [hbx] at hb
    refine awp_skip ?_
    refine h6 _ ?_; clear h6 k6
    refine awp_le (le_keep [0, 1, 2, 8, 9, 10, 13, 15, 31, 32, 33]) ?_
    simp only [kp, argSl, simprocAttr]
    have ho : ¬ c.over = true := by simp [hb]
    obtain ⟨hs1, hs2⟩ := hR.step (by omega) (P.getD i default).1 (P.getD i default).2
    have hs3 := Pl.picked_on (l := ev) (P := P) (i := i) (by omega) ho hs1
    refine awp_sr [] (by rw [hC]; rfl) fun k hk => ?_
    simp (maxSteps := 9^9) (disch := (try simp only [lens]); omega) only [argSl, sm, ↓amb, mark_eq, simprocAttr, el115, ar115, sz3, en80, dx]
    repeat refine an ?_
    refine callK_h (c_drain_go1_step c ev _ _ (Pl.good_hl hR.gd) hs1 (by omega)) [1, 2] [] (by first | rfl | (simp only [hm]; done)) (by first | rfl | (simp [namesOk, lkp]; done)) ?_ ?_ ?_ ?_ ?_ ?_ ?_
    (iterate 6 (focus (first | trivial | (intro n hn; cases hn; done) | (simp (maxSteps := 9^9) (disch := (try simp only [lens]); omega) only [argSl, sm, ↓amb, mark_eq, simprocAttr, el115, ar115, sz3, en80, dx, hmx, List.filter_cons, Nat.reduceBNe, imp_self, implies_true]; done))))
    simp (maxSteps := 9^9) (disch := (try simp only [lens]); omega) only [argSl, sm, ↓amb, mark_eq, simprocAttr, el115, ar115, sz3, en80, dx, hm, List.filter_cons, List.filter_nil, Nat.reduceBNe, Option.map_none]
    repeat refine an ?_
    refine hk _ ?_; clear hk k
    refine awp_le (le_keep [0, 1, 2, 8, 9, 10, 13, 16, 31, 32, 33]) ?_
    simp only [kp, argSl, simprocAttr]
    refine awp_sr [] (by rw [hC]; rfl) fun k hk => ?_
    simp (maxSteps := 9^9) (disch := (try simp only [lens]); omega) only [argSl, sm, ↓amb, mark_eq, simprocAttr, dx]
    repeat refine an ?_
    refine hk _ ?_; clear hk k
    refine awp_cond rfl (fun hb => ?_) (fun hb => ?_)
    ·exact absurd hb (by simp)
    ·try simp only [hbx] at hb
     refine awp_skip ?_
     refine h5 _ ?_; clear h5 k5
     refine awp_region [] (by rw [hC]; rfl) fun k hk => ?_
     simp (maxSteps := 9^9) (disch := (try simp only [lens]); omega) only [argSl, sm, ↓amb, mark_eq, simprocAttr, dx]
     repeat refine an ?_
     refine hk _ ?_; clear hk k
     refine ⟨(i + 1, (Pl.step c (P.getD i default).1 (P.getD i default).2).1, ev ++ [(Pl.step c (P.getD i default).1 (P.getD i default).2).2.1]), ⟨by dsimp only; omega, hs2, by rw [← hK, hs3], by simp; omega⟩, le_of [(0, _), (1, _), (2, _)] (by rfl) (by rfl) ⟨⟨_, rfl, .ptr rfl⟩, ⟨_, rfl, .ptr rfl⟩, ⟨_, rfl, .oe⟩, ⟨_, rfl, .oe⟩, ⟨_, rfl, .oe⟩, trivial⟩ ⟨⟨_, rfl, _, rfl, .one (.cons (.p (.refl _)) (.cons (.p (.refl _)) (.cons (.p (.refl _)) (.cons (.p (.refl _)) (.cons (.p (.refl _)) (.cons (.p (.refl _)) (.cons (.p (.refl _)) (.nil))))))))⟩, ⟨_, rfl, _, rfl, .one (.cons (.p (.refl _)) (.cons (.p (.refl _)) (.cons (.p (.refl _)) (.cons (.p (.refl _)) (.cons (.p (.refl _)) (.cons (.p (.refl _)) (.cons (.p (.refl _)) (.cons (.own rfl) (.nil)))))))))⟩, ⟨_, rfl, _, rfl, .liftE (by first | rfl | simp)⟩, trivial⟩, by dsimp only; omega⟩
  ·try simp only [hbx] at hb
   refine awp_exit ((if_pos rfl).mpr ?_)
   refine h2 _ ?_; clear h4 k4; clear h2 k2
   refine awp_le (le_keep [8, 13]) ?_
   simp only [kp, argSl, simprocAttr]
   have he0 : (Pl.picked P (Pl.crewBegin n g w).1 []) = (c, ev, 0) := by first | (rw [← hK]; exact Pl.picked_nil (by omega)) | (rw [← hK]; exact Pl.picked_over _ (by first | exact hb | simp [hb]))
   have hM : Pl.most n g 0 c ev ≤ 16010 := by rw [he0] at b5; exact b5
   have hW : (Pl.whole n g w P) = Pl.rounds 20000 0 c ev := by rw [b6, he0]
   rw [hW]
   refine awp_sr [] (by rw [hC]; rfl) fun k hk => ?_
   simp (maxSteps := 9^9) (disch := (try simp only [lens]); omega) only [argSl, sm, ↓amb, mark_eq, simprocAttr, en81, dx]
   repeat refine an ?_
   refine callK_h (c_drain_go1_rounds n g c ev hR hM (by omega)) [1, 2] [] (by first | rfl | (simp only [hm]; done)) (by first | rfl | (simp [namesOk, lkp]; done)) ?_ ?_ ?_ ?_ ?_ ?_ ?_
   (iterate 6 (focus (first | trivial | (intro n hn; cases hn; done) | (simp (maxSteps := 9^9) (disch := (try simp only [lens]); omega) only [argSl, sm, ↓amb, mark_eq, simprocAttr, en81, dx, hmx, List.filter_cons, Nat.reduceBNe, imp_self, implies_true]; done))))
   simp (maxSteps := 9^9) (disch := (try simp only [lens]); omega) only [argSl, sm, ↓amb, mark_eq, simprocAttr, en81, dx, hm, List.filter_cons, List.filter_nil, Nat.reduceBNe, Option.map_none]
   repeat refine an ?_
   refine hk _ ?_; clear hk k
   refine awp_le (le_keep [8, 12, 13]) ?_
   simp only [kp, argSl, simprocAttr]
   refine awp_sd [] ⟨[0, 1, 3, 7, 0, 16, 48, 112, 0, 15, 767, 2047], [], [9], [], some [0]⟩ (by rw [hC]; rfl) (by kernel_rfl) (by kernel_rfl) fun k hk => ?_
   simp (maxSteps := 9^9) (disch := (try simp only [lens]); omega) only [argSl, sm, ↓amb, mark_eq, simprocAttr, fl126_0, sz91, fl126_1, sz92, dx]
   repeat refine an ?_
   refine hk _ ?_; clear hk k
   refine awp_ret ?_
   refine retl rfl rfl ⟨retc rfl sz91 ?_, rett rfl ?_, rett rfl ?_, trivial⟩
   simp (maxSteps := 9^9) (disch := (try simp only [lens]); omega) only [argSl, sm, ↓amb, mark_eq, simprocAttr, sz91, dx]
   ·exact .p (LeP.refl _)
   ·exact .p (LeP.refl _)
   ·exact .p (LeP.refl _)
set_option maxHeartbeats 4000000 in
theorem c_drain_Leaves (ce : Bool) (c : Pl.Crew) (ev : List Pl.Event) (he : ev.length ≤ 1000000) : PCall Try.prog 69 [.agg (crewC c), .seq ce (ev.map evC)] (.seq false ((Pl.leaves' c.work.ts ev).map (fun s => [iV s.1, iV s.2]))) := by
 refine pcall_of_awp Try.func69 rfl (by simp [Try.ntmps69]) fun C hC => ?_
 refine awp_le (le_keep [0, 1]) ?_
 simp only [kp, argSl, simprocAttr]
 refine awp_sr [45] (by rw [hC]; rfl) fun k hk => ?_
 simp (maxSteps := 9^9) (disch := (try simp only [lens]); omega) only [argSl, sm, ↓amb, mark_eq, simprocAttr, dx]
 repeat refine an ?_
 refine hk _ ?_; clear hk k
 refine awp_le (le_keep [1, 2]) ?_
 simp only [kp, argSl, simprocAttr]
 refine awp_sr [45] (by rw [hC]; rfl) fun k hk => ?_
 simp (maxSteps := 9^9) (disch := (try simp only [lens]); omega) only [argSl, sm, ↓amb, mark_eq, simprocAttr, dx]
 repeat refine an ?_
 refine hk _ ?_; clear hk k
 refine awp_seq fun k1 h1 => ?_
 refine awp_le (le_keep [1, 2, 4, 5]) ?_
 simp only [kp, argSl, simprocAttr]
 refine awp_own' 5 2 rfl ?_
 refine awp_sr [45] (by rw [hC]; rfl) fun k hk => ?_
 simp (maxSteps := 9^9) (disch := (try simp only [lens]); omega) only [argSl, sm, ↓amb, mark_eq, simprocAttr, el92, dx]
 repeat refine an ?_
 refine hk _ ?_; clear hk k
 refine awp_block ?_
 refine awp_loop (σ := Nat) (fun i => i ≤ ev.length) (fun (i : Nat) => ⟨[(2, (.ptr 0 7 0 0)), (5, (.own 1)), (9, (.p (.seq ce (ev.map evC)))), (10, (.p (iV ev.length))), (11, (.p (iV i)))], [(0, (.row 7 [[.p (.seq false (c.work.ts.map taskC)), .p (iV c.work.grain), .p (.seq false (c.work.done.map fun b => [bV b])), .p (.seq false (c.dq.map lV)), .p (bV c.over), .p (iV c.steps), .p (iV c.idle)]])), (1, (.row 2 (lift ((Pl.leaves' c.work.ts (ev.take i)).map (fun s => [iV s.1, iV s.2])))))], 1⟩) (fun i => ev.length - i) 0 ?_ ?_ fun i hi => ?_
 ·exact Nat.zero_le _
 ·exact le_of [(0, _), (1, _)] (by rfl) (by rfl) ⟨⟨_, rfl, .ptr rfl⟩, ⟨_, rfl, .own rfl⟩, ⟨_, rfl, .oe⟩, ⟨_, rfl, .oe⟩, ⟨_, rfl, .oe⟩, trivial⟩ ⟨⟨_, rfl, _, rfl, .one (.cons (.p (.refl _)) (.cons (.p (.refl _)) (.cons (.p (.refl _)) (.cons (.p (.refl _)) (.cons (.p (.refl _)) (.cons (.p (.refl _)) (.cons (.p (.refl _)) (.nil))))))))⟩, ⟨_, rfl, _, rfl, .liftE (by first | (rw [List.take_zero]; rfl) | (rw [Pl.leaves_take _ _ i (by omega), if_neg (by rw [hnl]; decide), List.append_nil]; done) | (rw [Pl.leaves_take _ _ i (by omega), if_pos hlf, List.map_append]; rfl))⟩, trivial⟩
 refine awp_le (le_keep [0, 1, 2, 4, 5, 9, 10, 11]) ?_
 simp only [kp, argSl, simprocAttr]
 refine awp_sr [45] (by rw [hC]; rfl) fun k hk => ?_
 simp (maxSteps := 9^9) (disch := (try simp only [lens]); omega) only [argSl, sm, ↓amb, mark_eq, simprocAttr, dx]
 repeat refine an ?_
 refine hk _ ?_; clear hk k
 refine awp_seq fun k3 h3 => ?_
 refine awp_cond rfl (fun hb => ?_) (fun hb => ?_)
 ·try simp only [hbx] at hb
  refine awp_skip ?_
  refine h3 _ ?_; clear h3 k3
  refine awp_seq fun k4 h4 => ?_
  refine awp_block ?_
  refine awp_le (le_keep [0, 1, 2, 4, 5, 9, 10, 11]) ?_
  simp only [kp, argSl, simprocAttr]
  refine awp_sr [45] (by rw [hC]; rfl) fun k hk => ?_
  simp (maxSteps := 9^9) (disch := (try simp only [lens]); omega) only [argSl, sm, ↓amb, mark_eq, simprocAttr, el92, sz112, vr112, dx]
  repeat refine an ?_
  refine hk _ ?_; clear hk k
  refine awp_seq fun k5 h5 => ?_
  refine awp_test [45] 30 (decide ((ev.getD i default).parted = true ∨ (ev.getD i default).task < 0 ∨ (c.work.ts.length : Int) ≤ (ev.getD i default).task)) [0, 1, 2, 4, 5, 7, 9, 10, 11] (by rw [hC]; rfl) (fun gd hgd k hk => ?_) ?_
  ·have g2 : gd 2 = some 17 := by rw [hgd]; rfl
   have g7 : gd 7 = some 22 := by rw [hgd]; rfl
   clear hgd
   simp (maxSteps := 9^9) (disch := (try simp only [lens]); omega) only [argSl, sm, ↓amb, mark_eq, simprocAttr, fl112_3, sz4, fl112_2, sz3, fl91_0, fl88_0, sz86, el86, gcase_undef, g2, g7, dx]
   repeat' first | refine hk _ _ rfl rfl rfl rfl ?_ | (refine gsplit (fun hg => ?_) (fun hg => ?_) <;> (try simp only [hbx] at hg) <;> simp (maxSteps := 9^9) (disch := (try simp only [lens]); omega) only [argSl, sm, ↓amb, mark_eq, simprocAttr, fl112_3, sz4, fl112_2, sz3, fl91_0, fl88_0, sz86, el86, gcase_undef, g2, g7, dx]) | apply And.intro | fail
   all_goals first | rfl | omega | exact (decide_eq_true (by omega)).symm | exact (decide_eq_false (by omega)).symm | exact decide_eq_decide.mpr (by omega) | (refine Bool.eq_iff_iff.mpr ?_; simp only [beq_iff_eq, bne_iff_ne, ne_eq, decide_eq_true_eq]; omega) | (refine Bool.eq_iff_iff.mpr ?_; simp only [Bool.not_eq_true', Bool.not_eq_false', decide_eq_false_iff_not, decide_eq_true_eq, beq_iff_eq, bne_iff_ne, ne_eq]; omega) | assumption | (simp; done) | (simp [maxLen]; omega) | skip
   all_goals first | (refine (decide_eq_true ?_).symm; first | (left; assumption) | (right; left; assumption) | (right; right; assumption)) | exact decide_eq_decide.mpr ⟨fun h => .inr (.inr h), fun h => h.elim (fun q => absurd (q.symm.trans (show _ = false by assumption)) (by decide)) (fun q => q.elim (fun q => by omega) id)⟩
  simp only [kp, argSl, simprocAttr, List.length_cons, List.length_nil]
  refine awp_cond rfl (fun hb => ?_) (fun hb => ?_)
  ·try simp only [hbx] at hb
   refine awp_exit ((if_pos rfl).mpr ?_)
   refine h4 _ ?_; clear h5 k5; clear h4 k4
   have hnl := Pl.isLeaf_no (ts := c.work.ts) hb
   refine awp_region [45] (by rw [hC]; rfl) fun k hk => ?_
   simp (maxSteps := 9^9) (disch := (try simp only [lens]); omega) only [argSl, sm, ↓amb, mark_eq, simprocAttr, dx]
   repeat refine an ?_
   refine hk _ ?_; clear hk k
   refine ⟨i + 1, by omega, le_of [(0, _), (1, _)] (by rfl) (by rfl) ⟨⟨_, rfl, .ptr rfl⟩, ⟨_, rfl, .own rfl⟩, ⟨_, rfl, .oe⟩, ⟨_, rfl, .oe⟩, ⟨_, rfl, .oe⟩, trivial⟩ ⟨⟨_, rfl, _, rfl, .one (.cons (.p (.refl _)) (.cons (.p (.refl _)) (.cons (.p (.refl _)) (.cons (.p (.refl _)) (.cons (.p (.refl _)) (.cons (.p (.refl _)) (.cons (.p (.refl _)) (.nil))))))))⟩, ⟨_, rfl, _, rfl, .liftE (by first | (rw [List.take_zero]; rfl) | (rw [Pl.leaves_take _ _ i (by omega), if_neg (by rw [hnl]; decide), List.append_nil]; done) | (rw [Pl.leaves_take _ _ i (by omega), if_pos hlf, List.map_append]; rfl))⟩, trivial⟩, by omega⟩
  ·try simp only [hbx] at hb
   refine awp_skip ?_
   refine h5 _ ?_; clear h5 k5
   refine awp_le (le_keep [0, 1, 2, 4, 5, 7, 9, 10, 11]) ?_
   simp only [kp, argSl, simprocAttr]
   obtain ⟨hlf, hlf2, hlf3⟩ := Pl.isLeaf_yes (ts := c.work.ts) (e := (ev.getD i default)) (by first | exact hb | simpa using hb)
   have hll := Pl.leaves_len c.work.ts (ev.take i)
   rw [List.length_take] at hll
   refine awp_sr [45] (by rw [hC]; rfl) fun k hk => ?_
   simp (maxSteps := 9^9) (disch := (try simp only [lens]); omega) only [argSl, sm, ↓amb, mark_eq, simprocAttr, fl91_0, fl88_0, sz86, fl112_2, sz3, el86, sz118, vr118, dx]
   repeat refine an ?_
   refine hk _ ?_; clear hk k
   refine awp_region [45] (by rw [hC]; rfl) fun k hk => ?_
   simp (maxSteps := 9^9) (disch := (try simp only [lens]); omega) only [argSl, sm, ↓amb, mark_eq, simprocAttr, fl118_0, sz3, fl118_1, vr98, bt98, pl98_0, pl98_1, el95, by98, dx]
   repeat refine an ?_
   refine hk _ ?_; clear hk k
   refine h4 _ ?_; clear h4 k4
   refine awp_region [45] (by rw [hC]; rfl) fun k hk => ?_
   simp (maxSteps := 9^9) (disch := (try simp only [lens]); omega) only [argSl, sm, ↓amb, mark_eq, simprocAttr, dx]
   repeat refine an ?_
   refine hk _ ?_; clear hk k
   refine ⟨i + 1, by omega, le_of [(0, _), (1, _)] (by rfl) (by rfl) ⟨⟨_, rfl, .ptr rfl⟩, ⟨_, rfl, .own rfl⟩, ⟨_, rfl, .oe⟩, ⟨_, rfl, .oe⟩, ⟨_, rfl, .oe⟩, trivial⟩ ⟨⟨_, rfl, _, rfl, .one (.cons (.p (.refl _)) (.cons (.p (.refl _)) (.cons (.p (.refl _)) (.cons (.p (.refl _)) (.cons (.p (.refl _)) (.cons (.p (.refl _)) (.cons (.p (.refl _)) (.nil))))))))⟩, ⟨_, rfl, _, rfl, .liftE (by first | (rw [List.take_zero]; rfl) | (rw [Pl.leaves_take _ _ i (by omega), if_neg (by rw [hnl]; decide), List.append_nil]; done) | (rw [Pl.leaves_take _ _ i (by omega), if_pos hlf, List.map_append]; rfl))⟩, trivial⟩, by omega⟩
 ·try simp only [hbx] at hb
  refine awp_exit ((if_pos rfl).mpr ?_)
  refine h1 _ ?_; clear h3 k3; clear h1 k1
  refine awp_le (le_keep [5]) ?_
  simp only [kp, argSl, simprocAttr]
  have htk : ev.take i = ev := List.take_of_length_le (by omega)
  rw [htk]
  refine awp_sr [45] (by rw [hC]; rfl) fun k hk => ?_
  simp (maxSteps := 9^9) (disch := (try simp only [lens]); omega) only [argSl, sm, ↓amb, mark_eq, simprocAttr, dx]
  repeat refine an ?_
  refine hk _ ?_; clear hk k
  refine awp_ret ?_
  refine ret1 rfl rfl ?_
  exact .ownE rfl rfl
end Go.Proofs.Ytbehekmnccoifaa
end
section
set_option linter.unusedSimpArgs false
set_option linter.unusedVariables false
set_option maxRecDepth 100000
namespace Go.Proofs.Ytbehekmnccoifaa
open Go.Am Go.Proofs
theorem en75 : enters Try.prog 75 = true := by kernel_rfl
theorem fl26_0 : tFld Try.prog 26 0 = some (0, 1, false) := by kernel_rfl
theorem fl26_1 : tFld Try.prog 26 1 = some (1, 1, false) := by kernel_rfl
theorem fl26_2 : tFld Try.prog 26 2 = some (2, 1, false) := by kernel_rfl
theorem sz24 : tSz Try.prog 24 = some (false, 1) := by kernel_rfl
set_option maxHeartbeats 4000000 in
theorem c_fill_Right (c : Bool) (p : Pl.Plan) : PCall Try.prog 67 [.agg (planC c p)] (bV (decide (Pl.planRight p))) := by
 refine pcall_of_awp Try.func67 rfl (by simp [Try.ntmps67]) fun C hC => ?_
 refine awp_sr [] (by rw [hC]; rfl) fun k hk => ?_
 simp (maxSteps := 9^9) (disch := (try simp only [lens]); omega) only [argSl, sm, ↓amb, mark_eq, simprocAttr, dx]
 repeat refine an ?_
 refine hk _ ?_; clear hk k
 refine awp_test [] 2 (decide (Pl.planRight p)) [] (by rw [hC]; rfl) (fun gd hgd k hk => ?_) ?_
 ·have g3 : gd 3 = some 6 := by rw [hgd]; rfl
  have g8 : gd 8 = some 11 := by rw [hgd]; rfl
  have g13 : gd 13 = some 16 := by rw [hgd]; rfl
  have g18 : gd 18 = some 21 := by rw [hgd]; rfl
  clear hgd
  simp (maxSteps := 9^9) (disch := (try simp only [lens]); omega) only [argSl, sm, ↓amb, mark_eq, simprocAttr, fl26_0, sz3, fl26_1, fl26_2, sz24, el24, gcase_undef, g3, g8, g13, g18, dx]
  repeat' first | refine hk _ _ rfl rfl rfl rfl ?_ | (refine gsplit (fun hg => ?_) (fun hg => ?_) <;> (try simp only [hbx] at hg) <;> simp (maxSteps := 9^9) (disch := (try simp only [lens]); omega) only [argSl, sm, ↓amb, mark_eq, simprocAttr, fl26_0, sz3, fl26_1, fl26_2, sz24, el24, gcase_undef, g3, g8, g13, g18, dx]) | apply And.intro | fail
  all_goals first | rfl | omega | exact (decide_eq_true (by (try simp only [Pl.planRight] at *); omega)).symm | exact (decide_eq_false (by (try simp only [Pl.planRight] at *); omega)).symm | exact decide_eq_decide.mpr (by (try simp only [Pl.planRight] at *); omega) | (refine Bool.eq_iff_iff.mpr ?_; (try simp only [Pl.planRight] at *); simp only [beq_iff_eq, bne_iff_ne, ne_eq, decide_eq_true_eq]; omega) | (refine Bool.eq_iff_iff.mpr ?_; simp only [Bool.not_eq_true', Bool.not_eq_false', decide_eq_false_iff_not, decide_eq_true_eq, beq_iff_eq, bne_iff_ne, ne_eq]; (try simp only [Pl.planRight] at *); omega) | assumption | (simp; done) | (simp [maxLen]; omega) | skip
 simp only [kp, argSl, simprocAttr, List.length_cons, List.length_nil]
 refine awp_ret ?_
 refine ret1 rfl rfl ?_
 exact .p (LeP.refl _)
set_option maxHeartbeats 4000000 in
theorem c_scan_sized (b : Int) : PCall Try.prog 75 [iV b] (bV (decide (1 ≤ b ∧ b ≤ 100))) := by
 refine pcall_of_awp Try.func75 rfl (by simp [Try.ntmps75]) fun C hC => ?_
 refine awp_sr [] (by rw [hC]; rfl) fun k hk => ?_
 simp (maxSteps := 9^9) (disch := (try simp only [lens]); omega) only [argSl, sm, ↓amb, mark_eq, simprocAttr, dx]
 repeat refine an ?_
 refine hk _ ?_; clear hk k
 refine awp_test [] 2 (decide (1 ≤ b ∧ b ≤ 100)) [] (by rw [hC]; rfl) (fun gd hgd k hk => ?_) ?_
 ·have g2 : gd 2 = some 5 := by rw [hgd]; rfl
  clear hgd
  simp (maxSteps := 9^9) (disch := (try simp only [lens]); omega) only [argSl, sm, ↓amb, mark_eq, simprocAttr, gcase_undef, g2, dx]
  repeat' first | refine hk _ _ rfl rfl rfl rfl ?_ | (refine gsplit (fun hg => ?_) (fun hg => ?_) <;> (try simp only [hbx] at hg) <;> simp (maxSteps := 9^9) (disch := (try simp only [lens]); omega) only [argSl, sm, ↓amb, mark_eq, simprocAttr, gcase_undef, g2, dx]) | apply And.intro | fail
  all_goals first | rfl | omega | exact (decide_eq_true (by omega)).symm | exact (decide_eq_false (by omega)).symm | exact decide_eq_decide.mpr (by omega) | (refine Bool.eq_iff_iff.mpr ?_; simp only [beq_iff_eq, bne_iff_ne, ne_eq, decide_eq_true_eq]; omega) | (refine Bool.eq_iff_iff.mpr ?_; simp only [Bool.not_eq_true', Bool.not_eq_false', decide_eq_false_iff_not, decide_eq_true_eq, beq_iff_eq, bne_iff_ne, ne_eq]; omega) | assumption | (simp; done) | (simp [maxLen]; omega) | skip
 simp only [kp, argSl, simprocAttr, List.length_cons, List.length_nil]
 refine awp_ret ?_
 refine ret1 rfl rfl ?_
 exact .p (LeP.refl _)
set_option maxHeartbeats 4000000 in
theorem c_scan_Blocks (n b : Int) : PCall Try.prog 76 [iV n, iV b] (iV (Pl.blk n b)) := by
 refine pcall_of_awp Try.func76 rfl (by simp [Try.ntmps76]) fun C hC => ?_
 refine awp_sr [] (by rw [hC]; rfl) fun k hk => ?_
 simp (maxSteps := 9^9) (disch := (try simp only [lens]); omega) only [argSl, sm, ↓amb, mark_eq, simprocAttr, dx]
 repeat refine an ?_
 refine hk _ ?_; clear hk k
 refine awp_seq fun k1 h1 => ?_
 refine awp_test [] 15 (decide (¬ Pl.blkOk' n b)) [0, 1, 4] (by rw [hC]; rfl) (fun gd hgd k hk => ?_) ?_
 ·have g2 : gd 2 = some 7 := by rw [hgd]; rfl
  have g6 : gd 6 = some 11 := by rw [hgd]; rfl
  clear hgd
  simp (maxSteps := 9^9) (disch := (try simp only [lens]); omega) only [argSl, sm, ↓amb, mark_eq, simprocAttr, en75, gcase_undef, g2, g6, dx]
  repeat' first | refine hk _ _ rfl rfl rfl rfl ?_ | (refine gsplit (fun hg => ?_) (fun hg => ?_) <;> (try simp only [hbx] at hg) <;> simp (maxSteps := 9^9) (disch := (try simp only [lens]); omega) only [argSl, sm, ↓amb, mark_eq, simprocAttr, en75, gcase_undef, g2, g6, dx]) | apply And.intro | (refine callK_p (c_scan_sized _) rfl ?_; (try simp (maxSteps := 9^9) (disch := (try simp only [lens]); omega) only [argSl, sm, ↓amb, mark_eq, simprocAttr, en75, gcase_undef, g2, g6, dx])) | fail
  all_goals first | rfl | omega | exact (decide_eq_true (by (try simp only [Pl.blkOk'] at *); omega)).symm | exact (decide_eq_false (by (try simp only [Pl.blkOk'] at *); omega)).symm | exact decide_eq_decide.mpr (by (try simp only [Pl.blkOk'] at *); omega) | (refine Bool.eq_iff_iff.mpr ?_; (try simp only [Pl.blkOk'] at *); simp only [beq_iff_eq, bne_iff_ne, ne_eq, decide_eq_true_eq]; omega) | (refine Bool.eq_iff_iff.mpr ?_; simp only [Bool.not_eq_true', Bool.not_eq_false', decide_eq_false_iff_not, decide_eq_true_eq, beq_iff_eq, bne_iff_ne, ne_eq]; (try simp only [Pl.blkOk'] at *); omega) | assumption | (simp; done) | (simp [maxLen]; omega) | skip
 simp only [kp, argSl, simprocAttr, List.length_cons, List.length_nil]
 refine awp_cond rfl (fun hb => ?_) (fun hb => ?_)
 ·try simp only [hbx] at hb
  refine awp_sr [] (by rw [hC]; rfl) fun k hk => ?_
  simp (maxSteps := 9^9) (disch := (try simp only [lens]); omega) only [argSl, sm, ↓amb, mark_eq, simprocAttr, dx]
  repeat refine an ?_
  refine hk _ ?_; clear hk k
  refine awp_ret ?_
  rw [show Pl.blk n b = 0 from if_neg (by first | exact hb | simpa using hb)]
  refine ret1 rfl rfl ?_
  exact .p (LeP.refl _)
 ·try simp only [hbx] at hb
  refine awp_skip ?_
  refine h1 _ ?_; clear h1 k1
  have hbk : Pl.blkOk' n b := by first | exact hb | simpa using hb
  have hbo := hbk
  unfold Pl.blkOk' at hbo
  have hq : 0 ≤ (n + b - 1) / b ∧ (n + b - 1) / b ≤ 1000 := by
   have h := Pl.blk_up (b := b) hbo.1 (Int.le_refl n) hbo.2.1
   rw [show Pl.blk n b = (n + b - 1) / b from if_pos hbk] at h; exact ⟨h.1, h.2.2⟩
  refine awp_sr [] (by rw [hC]; rfl) fun k hk => ?_
  simp (maxSteps := 9^9) (disch := (try simp only [lens]); omega) only [argSl, sm, ↓amb, mark_eq, simprocAttr, dx]
  repeat refine an ?_
  refine hk _ ?_; clear hk k
  refine awp_ret ?_
  rw [show Pl.blk n b = (n + b - 1) / b from if_pos hbk]
  refine ret1 rfl rfl ?_
  exact .p (LeP.refl _)
set_option maxHeartbeats 4000000 in
theorem c_radix_Passes (b : Int) : PCall Try.prog 59 [iV b] (iV (Pl.pas b)) := by
 refine pcall_of_awp Try.func59 rfl (by simp [Try.ntmps59]) fun C hC => ?_
 refine awp_sr [] (by rw [hC]; rfl) fun k hk => ?_
 simp (maxSteps := 9^9) (disch := (try simp only [lens]); omega) only [argSl, sm, ↓amb, mark_eq, simprocAttr, dx]
 repeat refine an ?_
 refine hk _ ?_; clear hk k
 refine awp_seq fun k1 h1 => ?_
 refine awp_test [] 8 (decide (¬ (1 ≤ b ∧ b ≤ 16))) [0, 2] (by rw [hC]; rfl) (fun gd hgd k hk => ?_) ?_
 ·have g2 : gd 2 = some 5 := by rw [hgd]; rfl
  clear hgd
  simp (maxSteps := 9^9) (disch := (try simp only [lens]); omega) only [argSl, sm, ↓amb, mark_eq, simprocAttr, gcase_undef, g2, dx]
  repeat' first | refine hk _ _ rfl rfl rfl rfl ?_ | (refine gsplit (fun hg => ?_) (fun hg => ?_) <;> (try simp only [hbx] at hg) <;> simp (maxSteps := 9^9) (disch := (try simp only [lens]); omega) only [argSl, sm, ↓amb, mark_eq, simprocAttr, gcase_undef, g2, dx]) | apply And.intro | fail
  all_goals first | rfl | omega | exact (decide_eq_true (by omega)).symm | exact (decide_eq_false (by omega)).symm | exact decide_eq_decide.mpr (by omega) | (refine Bool.eq_iff_iff.mpr ?_; simp only [beq_iff_eq, bne_iff_ne, ne_eq, decide_eq_true_eq]; omega) | (refine Bool.eq_iff_iff.mpr ?_; simp only [Bool.not_eq_true', Bool.not_eq_false', decide_eq_false_iff_not, decide_eq_true_eq, beq_iff_eq, bne_iff_ne, ne_eq]; omega) | assumption | (simp; done) | (simp [maxLen]; omega) | skip
 simp only [kp, argSl, simprocAttr, List.length_cons, List.length_nil]
 refine awp_cond rfl (fun hb => ?_) (fun hb => ?_)
 ·try simp only [hbx] at hb
  refine awp_sr [] (by rw [hC]; rfl) fun k hk => ?_
  simp (maxSteps := 9^9) (disch := (try simp only [lens]); omega) only [argSl, sm, ↓amb, mark_eq, simprocAttr, dx]
  repeat refine an ?_
  refine hk _ ?_; clear hk k
  refine awp_ret ?_
  rw [show Pl.pas b = 0 from if_neg (by omega)]
  refine ret1 rfl rfl ?_
  exact .p (LeP.refl _)
 ·try simp only [hbx] at hb
  refine awp_skip ?_
  refine h1 _ ?_; clear h1 k1
  have hbo : 1 ≤ b ∧ b ≤ 16 := by omega
  have hq := Pl.pas_nn b
  rw [show Pl.pas b = (32 + b - 1) / b from if_pos hbo] at hq
  refine awp_sr [] (by rw [hC]; rfl) fun k hk => ?_
  simp (maxSteps := 9^9) (disch := (try simp only [lens]); omega) only [argSl, sm, ↓amb, mark_eq, simprocAttr, dx]
  repeat refine an ?_
  refine hk _ ?_; clear hk k
  refine awp_ret ?_
  rw [show Pl.pas b = (32 + b - 1) / b from if_pos hbo]
  refine ret1 rfl rfl ?_
  exact .p (LeP.refl _)
end Go.Proofs.Ytbehekmnccoifaa
end
section
set_option linter.unusedSimpArgs false
set_option linter.unusedVariables false
set_option maxRecDepth 100000
namespace Go.Proofs.Ytbehekmnccoifaa
open Go.Am Go.Proofs
theorem en67 : enters Try.prog 67 = true := by kernel_rfl
theorem en68 : enters Try.prog 68 = true := by kernel_rfl
theorem en69 : enters Try.prog 69 = true := by kernel_rfl
theorem fl98_0 : tFld Try.prog 98 0 = some (0, 1, false) := by kernel_rfl
theorem fl98_1 : tFld Try.prog 98 1 = some (1, 1, false) := by kernel_rfl
theorem sz26 : tSz Try.prog 26 = some (true, 3) := by kernel_rfl
theorem sz98 : tSz Try.prog 98 = some (true, 2) := by kernel_rfl
set_option maxHeartbeats 4000000 in
theorem c_fill_Order (c : Bool) (n : Int) (p : Pl.Plan) : PCall Try.prog 53 [iV n, .agg (planC c p)] (.tup [ints false (Pl.ordU n p), iV (Pl.ordS n p), iV (Pl.ordE n p)]) := by
 refine pcall_of_awp Try.func53 rfl (by simp [Try.ntmps53]) fun C hC => ?_
 refine awp_le (le_keep [0, 1]) ?_
 simp only [kp, argSl, simprocAttr]
 refine awp_sr [64] (by rw [hC]; rfl) fun k hk => ?_
 simp (maxSteps := 9^9) (disch := (try simp only [lens]); omega) only [argSl, sm, ↓amb, mark_eq, simprocAttr, dx]
 repeat refine an ?_
 refine hk _ ?_; clear hk k
 refine awp_seq fun k1 h1 => ?_
 refine awp_test [64] 24 (decide (¬ Pl.ordOk n p)) [0, 3, 4, 5, 6] (by rw [hC]; rfl) (fun gd hgd k hk => ?_) ?_
 ·have g2 : gd 2 = some 16 := by rw [hgd]; rfl
  have g6 : gd 6 = some 20 := by rw [hgd]; rfl
  clear hgd
  simp (maxSteps := 9^9) (disch := (try simp only [lens]); omega) only [argSl, sm, ↓amb, mark_eq, simprocAttr, sz26, en67, gcase_undef, g2, g6, dx]
  repeat' first | refine hk _ _ rfl rfl rfl rfl ?_ | (refine gsplit (fun hg => ?_) (fun hg => ?_) <;> (try simp only [hbx] at hg) <;> simp (maxSteps := 9^9) (disch := (try simp only [lens]); omega) only [argSl, sm, ↓amb, mark_eq, simprocAttr, sz26, en67, gcase_undef, g2, g6, dx]) | apply And.intro | (refine callK_p (c_fill_Right _ _) rfl ?_; (try simp (maxSteps := 9^9) (disch := (try simp only [lens]); omega) only [argSl, sm, ↓amb, mark_eq, simprocAttr, sz26, en67, gcase_undef, g2, g6, dx])) | fail
  all_goals first | rfl | omega | exact (decide_eq_true (by omega)).symm | exact (decide_eq_false (by omega)).symm | exact decide_eq_decide.mpr (by omega) | (refine Bool.eq_iff_iff.mpr ?_; simp only [beq_iff_eq, bne_iff_ne, ne_eq, decide_eq_true_eq]; omega) | (refine Bool.eq_iff_iff.mpr ?_; simp only [Bool.not_eq_true', Bool.not_eq_false', decide_eq_false_iff_not, decide_eq_true_eq, beq_iff_eq, bne_iff_ne, ne_eq]; omega) | assumption | (simp; done) | (simp [maxLen]; omega) | skip
  all_goals first | (refine (decide_eq_true ?_).symm; intro q; exact absurd q.1 (by omega)) | (refine (decide_eq_true ?_).symm; intro q; exact absurd q.2.1 (by omega)) | (refine Bool.eq_iff_iff.mpr ?_; simp only [Bool.not_eq_true', decide_eq_false_iff_not, decide_eq_true_eq]; exact ⟨fun h q => h q.2.2, fun h q => h ⟨by omega, by omega, q⟩⟩)
 simp only [kp, argSl, simprocAttr, List.length_cons, List.length_nil]
 refine awp_cond rfl (fun hb => ?_) (fun hb => ?_)
 ·try simp only [hbx] at hb
  refine awp_le (le_keep []) ?_
  simp only [kp, argSl, simprocAttr]
  refine awp_sr [64] (by rw [hC]; rfl) fun k hk => ?_
  simp (maxSteps := 9^9) (disch := (try simp only [lens]); omega) only [argSl, sm, ↓amb, mark_eq, simprocAttr, dx]
  repeat refine an ?_
  refine hk _ ?_; clear hk k
  refine awp_ret ?_
  obtain ⟨e1, e2, e3⟩ := Pl.ord_no (n := n) (p := p) (by first | exact hb | simpa using hb)
  rw [e1, e2, e3]
  refine ret3 rfl rfl rfl rfl ?_ ?_ ?_
  ·exact .p (LeP.seq _ _)
  ·exact .p (LeP.refl _)
  ·exact .p (LeP.refl _)
 ·try simp only [hbx] at hb
  refine awp_skip ?_
  refine h1 _ ?_; clear h1 k1
  refine awp_seq fun k2 h2 => ?_
  refine awp_le (le_keep [0, 3, 4, 5, 6]) ?_
  simp only [kp, argSl, simprocAttr]
  have hok : Pl.ordOk n p := by first | exact hb | (simpa using hb)
  refine awp_sr [64] (by rw [hC]; rfl) fun k hk => ?_
  simp (maxSteps := 9^9) (disch := (try simp only [lens]); omega) only [argSl, sm, ↓amb, mark_eq, simprocAttr, dx]
  repeat refine an ?_
  refine hk _ ?_; clear hk k
  refine awp_cond rfl (fun hb => ?_) (fun hb => ?_)
  ·try simp only [hbx] at hb
   refine awp_le (le_keep []) ?_
   simp only [kp, argSl, simprocAttr]
   refine awp_sr [64] (by rw [hC]; rfl) fun k hk => ?_
   simp (maxSteps := 9^9) (disch := (try simp only [lens]); omega) only [argSl, sm, ↓amb, mark_eq, simprocAttr, dx]
   repeat refine an ?_
   refine hk _ ?_; clear hk k
   refine awp_ret ?_
   subst hb
   obtain ⟨e1, e2⟩ := Pl.ord_zero p
   rw [e1, e2, Pl.ordE0 hok]
   refine ret3 rfl rfl rfl rfl ?_ ?_ ?_
   ·exact .p (LeP.seq _ _)
   ·exact .p (LeP.refl _)
   ·exact .p (LeP.refl _)
  ·try simp only [hbx] at hb
   refine awp_skip ?_
   refine h2 _ ?_; clear h2 k2
   refine awp_le (le_keep [0, 3]) ?_
   simp only [kp, argSl, simprocAttr]
   have hn0 := hb
   have hbd := Pl.ord_bd hok hn0
   obtain ⟨u1, u2, u3, u4, u5, u6, u7⟩ := Pl.ordL_ok hok hn0
   have hn1 := hok.2.1
   refine awp_sr [64] (by rw [hC]; rfl) fun k hk => ?_
   simp (maxSteps := 9^9) (disch := (try simp only [lens]); omega) only [argSl, sm, ↓amb, mark_eq, simprocAttr, fl26_0, sz3, fl26_1, fl26_2, sz24, en68, vr91, sz91, dx]
   repeat refine an ?_
   refine callK_p (c_drain_Whole _ n p.grain p.workers p.picks hbd.1 (by omega)) rfl ?_
   simp (maxSteps := 9^9) (disch := (try simp only [lens]); omega) only [argSl, sm, ↓amb, mark_eq, simprocAttr, fl26_0, sz3, fl26_1, fl26_2, sz24, en68, vr91, sz91, dx]
   repeat refine an ?_
   refine hk _ ?_; clear hk k
   refine awp_seq fun k3 h3 => ?_
   refine awp_le (le_keep [4, 5, 6, 7, 8, 9]) ?_
   simp only [kp, argSl, simprocAttr]
   refine awp_sr [64] (by rw [hC]; rfl) fun k hk => ?_
   simp (maxSteps := 9^9) (disch := (try simp only [lens]); omega) only [argSl, sm, ↓amb, mark_eq, simprocAttr, dx]
   repeat refine an ?_
   refine hk _ ?_; clear hk k
   refine awp_cond rfl (fun hb => ?_) (fun hb => ?_)
   ·exact absurd hb (by simp)
   ·try simp only [hbx] at hb
    refine awp_skip ?_
    refine h3 _ ?_; clear h3 k3
    refine awp_le (le_keep [7, 8]) ?_
    simp only [kp, argSl, simprocAttr]
    refine awp_sr [64] (by rw [hC]; rfl) fun k hk => ?_
    simp (maxSteps := 9^9) (disch := (try simp only [lens]); omega) only [argSl, sm, ↓amb, mark_eq, simprocAttr, dx]
    repeat refine an ?_
    refine hk _ ?_; clear hk k
    refine awp_seq fun k4 h4 => ?_
    refine awp_le (le_keep [4, 5, 6, 7, 8, 10]) ?_
    simp only [kp, argSl, simprocAttr]
    have hws : (Pl.whole n p.grain p.workers p.picks).2.1.length ≤ 1000000 := by have := u6; unfold Pl.ordW at this; omega
    refine awp_own' 10 1 rfl ?_
    refine awp_sr [64] (by rw [hC]; rfl) fun k hk => ?_
    simp (maxSteps := 9^9) (disch := (try simp only [lens]); omega) only [argSl, sm, ↓amb, mark_eq, simprocAttr, sz91, en69, el95, dx]
    repeat refine an ?_
    refine callK_p (c_drain_Leaves _ _ _ hws) rfl ?_
    simp (maxSteps := 9^9) (disch := (try simp only [lens]); omega) only [argSl, sm, ↓amb, mark_eq, simprocAttr, sz91, en69, el95, dx]
    repeat refine an ?_
    refine hk _ ?_; clear hk k
    refine awp_block ?_
    refine awp_loop (σ := Nat) (fun i => i ≤ (Pl.ordL n p).length) (fun (i : Nat) => ⟨[(8, (.p (.seq false ((Pl.whole n p.grain p.workers p.picks).2.1.map evC)))), (10, (.own 0)), (44, (.p (.seq false ((Pl.ordL n p).map (fun s => [iV s.1, iV s.2]))))), (45, (.p (iV (Pl.ordL n p).length))), (46, (.p (iV i)))], [(0, (.row 1 (lift ((Pl.unitsOf ((Pl.ordL n p).take i)).map fun x => [iV x]))))], 1⟩) (fun i => (Pl.ordL n p).length - i) 0 ?_ ?_ fun i hi => ?_
    ·exact Nat.zero_le _
    ·exact le_of [(0, _)] (by rfl) (by rfl) ⟨⟨_, rfl, .oe⟩, ⟨_, rfl, .own rfl⟩, ⟨_, rfl, .oe⟩, ⟨_, rfl, .oe⟩, ⟨_, rfl, .oe⟩, trivial⟩ ⟨⟨_, rfl, _, rfl, .liftE (by first | (rw [List.take_zero]; rfl) | (rw [Pl.unitsOf_take _ i (by omega), show ((Pl.ordL n p).getD i default).1 + (k : Int) = ((Pl.ordL n p).getD i default).2 by omega]))⟩, trivial⟩
    refine awp_le (le_keep [0, 4, 5, 6, 8, 10, 44, 45, 46]) ?_
    simp only [kp, argSl, simprocAttr]
    refine awp_sr [64] (by rw [hC]; rfl) fun k hk => ?_
    simp (maxSteps := 9^9) (disch := (try simp only [lens]); omega) only [argSl, sm, ↓amb, mark_eq, simprocAttr, dx]
    repeat refine an ?_
    refine hk _ ?_; clear hk k
    refine awp_seq fun k6 h6 => ?_
    refine awp_cond rfl (fun hb => ?_) (fun hb => ?_)
    ·try simp only [hbx] at hb
     refine awp_skip ?_
     refine h6 _ ?_; clear h6 k6
     refine awp_seq fun k7 h7 => ?_
     refine awp_block ?_
     refine awp_le (le_keep [0, 4, 5, 6, 8, 10, 44, 45, 46]) ?_
     simp only [kp, argSl, simprocAttr]
     refine awp_sr [64] (by rw [hC]; rfl) fun k hk => ?_
     simp (maxSteps := 9^9) (disch := (try simp only [lens]); omega) only [argSl, sm, ↓amb, mark_eq, simprocAttr, el95, sz98, vr98, dx]
     repeat refine an ?_
     refine hk _ ?_; clear hk k
     refine awp_le (le_keep [0, 4, 5, 6, 8, 10, 12, 44, 45, 46]) ?_
     simp only [kp, argSl, simprocAttr]
     obtain ⟨s1, s2, s3⟩ := u3 ((Pl.ordL n p).getD i default) (Pl.getD_mem _ i default (by omega))
     refine awp_sr [64] (by rw [hC]; rfl) fun k hk => ?_
     simp (maxSteps := 9^9) (disch := (try simp only [lens]); omega) only [argSl, sm, ↓amb, mark_eq, simprocAttr, fl98_1, sz3, fl98_0, dx]
     repeat refine an ?_
     refine hk _ ?_; clear hk k
     refine awp_block ?_
     refine awp_loop (σ := Nat) (fun k => (k : Int) ≤ ((Pl.ordL n p).getD i default).2 - ((Pl.ordL n p).getD i default).1) (fun (k : Nat) => ⟨[(8, (.p (.seq false ((Pl.whole n p.grain p.workers p.picks).2.1.map evC)))), (10, (.own 0)), (44, (.p (.seq false ((Pl.ordL n p).map (fun s => [iV s.1, iV s.2]))))), (45, (.p (iV (Pl.ordL n p).length))), (46, (.p (iV i))), (12, (.ptr 1 2 0 0)), (54, (.p (iV (((Pl.ordL n p).getD i default).2 - ((Pl.ordL n p).getD i default).1)))), (55, (.p (iV (k : Int))))], [(0, (.row 1 (lift ((Pl.unitsOf ((Pl.ordL n p).take i) ++ Pl.upto ((Pl.ordL n p).getD i default).1 (((Pl.ordL n p).getD i default).1 + (k : Int))).map fun x => [iV x])))), (1, (.row 2 [[.p (iV ((Pl.ordL n p).getD i default).1), .p (iV ((Pl.ordL n p).getD i default).2)]]))], 1⟩) (fun k => (((Pl.ordL n p).getD i default).2 - ((Pl.ordL n p).getD i default).1).toNat - k) 0 ?_ ?_ fun k hk => ?_
     ·show ((0 : Nat) : Int) ≤ _; omega
     ·exact le_of [(0, _), (1, _)] (by rfl) (by rfl) ⟨⟨_, rfl, .oe⟩, ⟨_, rfl, .own rfl⟩, ⟨_, rfl, .oe⟩, ⟨_, rfl, .oe⟩, ⟨_, rfl, .oe⟩, ⟨_, rfl, .ptr rfl⟩, ⟨_, rfl, .oe⟩, ⟨_, rfl, .oe⟩, trivial⟩ ⟨⟨_, rfl, _, rfl, .liftE (by first | (rw [Pl.upto_nil (by simp), List.append_nil]; done) | (rw [← Pl.upto_snoc, ← List.append_assoc]; simp only [List.map_append, List.map_cons, List.map_nil]))⟩, ⟨_, rfl, _, rfl, .one (.cons (.p (.refl _)) (.cons (.p (.refl _)) (.nil)))⟩, trivial⟩
     refine awp_le (le_keep [0, 1, 4, 5, 6, 8, 10, 12, 44, 45, 46, 54, 55]) ?_
     simp only [kp, argSl, simprocAttr]
     refine awp_sr [64] (by rw [hC]; rfl) fun k hk => ?_
     simp (maxSteps := 9^9) (disch := (try simp only [lens]); omega) only [argSl, sm, ↓amb, mark_eq, simprocAttr, dx]
     repeat refine an ?_
     refine hk _ ?_; clear hk k
     refine awp_seq fun k9 h9 => ?_
     refine awp_cond rfl (fun hb => ?_) (fun hb => ?_)
     ·try simp only [hbx] at hb
      refine awp_skip ?_
      refine h9 _ ?_; clear h9 k9
      refine awp_seq fun k10 h10 => ?_
      refine awp_block ?_
      refine awp_le (le_keep [0, 1, 4, 5, 6, 8, 10, 12, 44, 45, 46, 54, 55]) ?_
      simp only [kp, argSl, simprocAttr]
      refine awp_sr [64] (by rw [hC]; rfl) fun k hk => ?_
      simp (maxSteps := 9^9) (disch := (try simp only [lens]); omega) only [argSl, sm, ↓amb, mark_eq, simprocAttr, dx]
      repeat refine an ?_
      refine hk _ ?_; clear hk k
      have hul := Pl.upto_take_len (Pl.ordL n p) i k (by omega) (by omega)
      rw [List.length_append] at hul
      refine awp_region [64] (by rw [hC]; rfl) fun k hk => ?_
      simp (maxSteps := 9^9) (disch := (try simp only [lens]); omega) only [argSl, sm, ↓amb, mark_eq, simprocAttr, fl98_0, sz3, el33, vr3, by3, dx]
      repeat refine an ?_
      refine hk _ ?_; clear hk k
      refine h10 _ ?_; clear h10 k10
      refine awp_region [64] (by rw [hC]; rfl) fun k hk => ?_
      simp (maxSteps := 9^9) (disch := (try simp only [lens]); omega) only [argSl, sm, ↓amb, mark_eq, simprocAttr, dx]
      repeat refine an ?_
      refine hk _ ?_; clear hk k
      refine ⟨k + 1, by omega, le_of [(0, _), (1, _)] (by rfl) (by rfl) ⟨⟨_, rfl, .oe⟩, ⟨_, rfl, .own rfl⟩, ⟨_, rfl, .oe⟩, ⟨_, rfl, .oe⟩, ⟨_, rfl, .oe⟩, ⟨_, rfl, .ptr rfl⟩, ⟨_, rfl, .oe⟩, ⟨_, rfl, .oe⟩, trivial⟩ ⟨⟨_, rfl, _, rfl, .liftE (by first | (rw [Pl.upto_nil (by simp), List.append_nil]; done) | (rw [← Pl.upto_snoc, ← List.append_assoc]; simp only [List.map_append, List.map_cons, List.map_nil]))⟩, ⟨_, rfl, _, rfl, .one (.cons (.p (.refl _)) (.cons (.p (.refl _)) (.nil)))⟩, trivial⟩, by omega⟩
     ·try simp only [hbx] at hb
      refine awp_exit ((if_pos rfl).mpr ?_)
      refine h7 _ ?_; clear h9 k9; clear h7 k7
      refine awp_region [64] (by rw [hC]; rfl) fun k hk => ?_
      simp (maxSteps := 9^9) (disch := (try simp only [lens]); omega) only [argSl, sm, ↓amb, mark_eq, simprocAttr, dx]
      repeat refine an ?_
      refine hk _ ?_; clear hk k
      refine ⟨i + 1, by omega, le_of [(0, _)] (by rfl) (by rfl) ⟨⟨_, rfl, .oe⟩, ⟨_, rfl, .own rfl⟩, ⟨_, rfl, .oe⟩, ⟨_, rfl, .oe⟩, ⟨_, rfl, .oe⟩, trivial⟩ ⟨⟨_, rfl, _, rfl, .liftE (by first | (rw [List.take_zero]; rfl) | (rw [Pl.unitsOf_take _ i (by omega), show ((Pl.ordL n p).getD i default).1 + (k : Int) = ((Pl.ordL n p).getD i default).2 by omega]))⟩, trivial⟩, by omega⟩
    ·try simp only [hbx] at hb
     refine awp_exit ((if_pos rfl).mpr ?_)
     refine h4 _ ?_; clear h6 k6; clear h4 k4
     refine awp_le (le_keep [8, 10]) ?_
     simp only [kp, argSl, simprocAttr]
     have htk : (Pl.ordL n p).take i = (Pl.ordL n p) := List.take_of_length_le (by omega)
     rw [htk]
     refine awp_sr [64] (by rw [hC]; rfl) fun k hk => ?_
     simp (maxSteps := 9^9) (disch := (try simp only [lens]); omega) only [argSl, sm, ↓amb, mark_eq, simprocAttr, el92, dx]
     repeat refine an ?_
     refine hk _ ?_; clear hk k
     refine awp_ret ?_
     rw [u1, u2, Pl.ordE0 hok]
     refine ret3 rfl rfl rfl rfl ?_ ?_ ?_
     ·exact .ownE rfl rfl
     ·exact .p (LeP.refl _)
     ·exact .p (LeP.refl _)
end Go.Proofs.Ytbehekmnccoifaa
end
