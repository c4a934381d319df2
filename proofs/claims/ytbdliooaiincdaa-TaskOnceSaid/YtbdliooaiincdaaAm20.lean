/-
  The abstract machine, twentieth part: from a state to a weaker one: names of blocks are chosen anew, slots are forgotten, rows are given away.
-/
import Derived.Test.YtbdliooaiincdaaAm19
namespace Go.Am
open Go.RowKit

/-- a name's block in the state before: those that called keep theirs -/
def lkq (π : List (Nat × Nat)) (j : Nat) : Option Nat := if j % 8 = 7 then some j else lkp π j
/-- x, in a state with blocks hp, is good for y in another one, whose block j is the block π j of the first -/
inductive LeA (hp : List (Nat × Blk)) (π : List (Nat × Nat)) : AV → AV → Prop
  | p {x y : PV} : LeP x y → LeA hp π (.p x) (.p y)
  | own {i j : Nat} : lkq π j = some i → LeA hp π (.own i) (.own j)
  | ptr {i j sz k o : Nat} : lkq π j = some i → LeA hp π (.ptr i sz k o) (.ptr j sz k o)
  | frz {i sz : Nat} {es : List (List PV)} : lkp hp i = some (.row sz (lift es)) → (π.all (fun q => q.2 != i) && i % 8 != 7) = true → LeA hp π (.own i) (.p (.seq false es))
  | agg {cs ds : List AV} : cs.length = ds.length → (∀ (i : Nat) (x y : AV), cs[i]? = some x → ds[i]? = some y → LeA hp π x y) → LeA hp π (.agg cs) (.agg ds)
  | mp {i j : Nat} : lkq π j = some i → LeA hp π (.mp i) (.mp j)
  | fn {f : FuncId} {cs ds : List AV} : cs.length = ds.length → (∀ (i : Nat) (x y : AV), cs[i]? = some x → ds[i]? = some y → LeA hp π x y) → LeA hp π (.fn f cs) (.fn f ds)

def LeRow (hp : List (Nat × Blk)) (π : List (Nat × Nat)) (cs ds : List AV) : Prop := cs.length = ds.length ∧ ∀ (j : Nat) (x y : AV), cs[j]? = some x → ds[j]? = some y → LeA hp π x y
def LeB (hp : List (Nat × Blk)) (π : List (Nat × Nat)) : Blk → Blk → Prop
  | .row sz es, .row sz' es' => sz = sz' ∧ es.length = es'.length ∧ ∀ (i : Nat) (cs ds : List AV), es[i]? = some cs → es'[i]? = some ds → LeRow hp π cs ds
  | .map len m, .map len' m' => len = len' ∧ m = m'
  | .map len m, .mapS len' S => len = len' ∧ ∀ q x, m q = some x → S q x
  | .mapS len S, .mapS len' S' => len = len' ∧ ∀ q x, S q x → S' q x
  | _, _ => False

theorem LeA.refl_p {hp : List (Nat × Blk)} {π : List (Nat × Nat)} (x : PV) : LeA hp π (.p x) (.p x) := .p (.refl x)
theorem LeRow.nil {hp : List (Nat × Blk)} {π : List (Nat × Nat)} : LeRow hp π [] [] := ⟨rfl, fun i x y h => by simp at h⟩
theorem LeRow.cons {hp : List (Nat × Blk)} {π : List (Nat × Nat)} {x y : AV} {xs ys : List AV} (h : LeA hp π x y) (hs : LeRow hp π xs ys) : LeRow hp π (x :: xs) (y :: ys) :=
  ⟨by simp [hs.1], fun i a b ha hb => by
    cases i with
    | zero => simp only [List.getElem?_cons_zero, Option.some.injEq] at ha hb; subst ha hb; exact h
    | succ i => exact hs.2 i a b (by simpa using ha) (by simpa using hb)⟩
theorem LeB.lift {hp : List (Nat × Blk)} {π : List (Nat × Nat)} {sz : Nat} (es : List (List PV)) : LeB hp π (.row sz (lift es)) (.row sz (lift es)) := by
  refine ⟨rfl, rfl, fun i cs ds h1 h2 => ?_⟩
  rw [h1] at h2; injection h2 with h2; subst h2
  rw [lift_get] at h1
  obtain ⟨qs, _, rfl⟩ := Option.map_eq_some_iff.1 h1
  refine ⟨rfl, fun j x y h1 h2 => ?_⟩
  rw [h1] at h2; injection h2 with h2; subst h2
  rw [List.getElem?_map] at h1
  obtain ⟨q, _, rfl⟩ := Option.map_eq_some_iff.1 h1
  exact .p (.refl q)
theorem LeB.one {hp : List (Nat × Blk)} {π : List (Nat × Nat)} {sz : Nat} {cs ds : List AV} (h : LeRow hp π cs ds) : LeB hp π (.row sz [cs]) (.row sz [ds]) := by
  refine ⟨rfl, rfl, fun i c d h1 h2 => ?_⟩
  cases i with
  | zero => simp only [List.getElem?_cons_zero, Option.some.injEq] at h1 h2; subst h1 h2; exact h
  | succ i => simp at h1

def SlLE (hp : List (Nat × Blk)) (π : List (Nat × Nat)) (sl : List (Nat × AV)) : List (Nat × AV) → Prop
  | [] => True
  | (d, y) :: r => (∃ x, lkp sl d = some x ∧ LeA hp π x y) ∧ SlLE hp π sl r
def HpLE (hp : List (Nat × Blk)) (π : List (Nat × Nat)) : List (Nat × Blk) → Prop
  | [] => True
  | (j, b') :: r => (∃ i, lkq π j = some i ∧ ∃ b, lkp hp i = some b ∧ LeB hp π b b') ∧ HpLE hp π r

theorem lkp_mem {α : Type} : ∀ (l : List (Nat × α)) (d : Nat) (x : α), lkp l d = some x → (d, x) ∈ l
  | [], d, x, h => by simp [lkp] at h
  | (k, y) :: l, d, x, h => by
    simp only [lkp] at h
    split at h
    · rename_i e; simp only [Option.some.injEq] at h; subst h e; simp
    · exact List.mem_cons_of_mem _ (lkp_mem l d x h)
theorem SlLE.get {hp : List (Nat × Blk)} {π : List (Nat × Nat)} {sl : List (Nat × AV)} : ∀ {l : List (Nat × AV)}, SlLE hp π sl l → ∀ {d y}, (d, y) ∈ l → ∃ x, lkp sl d = some x ∧ LeA hp π x y
  | [], _, d, y, h => by cases h
  | (d', y') :: l, hs, d, y, h => by
    rcases List.mem_cons.1 h with h | h
    · injection h with h1 h2; subst h1 h2; exact hs.1
    · exact hs.2.get h
theorem HpLE.get {hp : List (Nat × Blk)} {π : List (Nat × Nat)} : ∀ {l : List (Nat × Blk)}, HpLE hp π l → ∀ {j b'}, (j, b') ∈ l → ∃ i, lkq π j = some i ∧ ∃ b, lkp hp i = some b ∧ LeB hp π b b'
  | [], _, d, y, h => by cases h
  | (d', y') :: l, hs, d, y, h => by
    rcases List.mem_cons.1 h with h | h
    · injection h with h1 h2; subst h1 h2; exact hs.1
    · exact hs.2.get h

theorem le_of {s s' : LS} (π : List (Nat × Nat)) (h1 : π.all (fun q => decide (nmPos q.1 ≤ s'.nx) && q.2 % 8 != 7) = true) (h2 : π.all (fun p => π.all fun q => p.2 != q.2 || p.1 == q.1) = true) (hsl : SlLE s.hp π s.sl s'.sl) (hhp : HpLE s.hp π s'.hp) : LE s s' := by
  intro C a w ⟨ρ, h⟩
  let ρ' : Nat → Option Value := fun j => (lkq π j).bind ρ
  have hinj : ∀ j1 j2 i, lkq π j1 = some i → lkq π j2 = some i → j1 = j2 := by
    intro j1 j2 i e1 e2
    unfold lkq at e1 e2
    have hne : ∀ j i, lkp π j = some i → i % 8 ≠ 7 := by
      intro j i e
      have := List.all_eq_true.1 h1 _ (lkp_mem π j i e)
      simp at this; exact this.2
    split at e1
    · injection e1 with e1; subst e1
      split at e2
      · injection e2 with e2; exact e2.symm
      · exact absurd ‹_› (hne _ _ e2)
    split at e2
    · injection e2 with e2; subst e2
      exact absurd ‹_› (hne _ _ e1)
    have := List.all_eq_true.1 (List.all_eq_true.1 h2 _ (lkp_mem π j1 i e1)) _ (lkp_mem π j2 i e2)
    simpa using this
  have hdom : ∀ j b', lkp s'.hp j = some b' → ∃ i, lkq π j = some i ∧ ∃ b, lkp s.hp i = some b ∧ LeB s.hp π b b' := fun j b' hj => hhp.get (lkp_mem _ _ _ hj)
  have hO : ∀ x, Own C s'.ps ρ' x → Own C s.ps ρ x := by
    rintro x (ho | ⟨j, k, v, g1, g2, g3⟩)
    · exact .inl ho
    · obtain ⟨i, hi, b, hb, _⟩ := hdom j k g1
      simp only [ρ', hi, Option.bind_some] at g2
      exact .inr ⟨i, b, v, hb, g2, g3⟩
  have hm : Moves (Own C s.ps ρ) w (Own C s'.ps ρ') w := ⟨Nat.le_refl _, fun _ _ _ => rfl, fun x _ => hO x⟩
  have hA : ∀ {x y : AV}, LeA s.hp π x y → ∀ {v}, RepA (Own C s.ps ρ) ρ w x v → RepA (Own C s'.ps ρ') ρ' w y v := by
    intro x y hle
    induction hle with
    | p hp => intro v hv; exact .p _ _ (hp _ _ _ (hv.unP.mono hm))
    | own hπ =>
      intro v hv
      cases hv with
      | own _ ad n c hi => exact .own _ ad n c (by simp [ρ', hπ, hi])
    | ptr hπ =>
      intro v hv
      cases hv with
      | ptr _ _ _ _ b u hi hu => exact .ptr _ _ _ _ b u (by simp [ρ', hπ, hi]) hu
    | mp hπ =>
      intro v hv
      cases hv with
      | mp _ r hi => exact .mp _ r (by simp [ρ', hπ, hi])
    | @frz i sz es hi hno =>
      intro v hv
      obtain ⟨u, hu, hb⟩ := h.heap i _ hi
      cases hv with
      | own _ ad n c hi2 =>
        rw [hu] at hi2; injection hi2 with hi2; subst hi2
        rcases hb with ⟨hnil, a', ha'⟩ | ⟨b, cap, cur, e, g1, g0, g2, g3, g4, g5, g6, g7⟩
        · have : es = [] := by simpa [lift] using hnil
          subst this
          injection ha' with q1 q2 q3; subst q1 q2 q3
          exact .p _ _ (.nilseq _ _ _ (fun h => by cases h))
        · rcases g1 with g1 | ⟨g1, _⟩
          · injection g1 with q1 q2 q3; subst q1 q3
            rw [lift_length] at q2; subst q2
            have hok : BlkOk (Own C s.ps ρ) ρ w sz (lift es) c cur := ⟨g3, g4, g5, g6, g7⟩
            have hob : oblk (.slice (some ⟨b, 0, none⟩) es.length c) = some b := by simp [oblk]; omega
            have hno' : ¬ Own C s'.ps ρ' b := by
              rintro (ho | ⟨j, k, v, e1, e2, e3⟩)
              · exact (h.range i _ _ b hi hu hob).2.1 ho
              · obtain ⟨i', hi', b', hb', _⟩ := hdom j k e1
                simp only [ρ', hi', Option.bind_some] at e2
                have := h.inj i' i b' _ v _ b hb' hi e2 hu e3 hob
                subst this
                simp only [Bool.and_eq_true] at hno
                unfold lkq at hi'
                split at hi'
                · injection hi' with hi'; subst hi'
                  have := hno.2
                  simp at this; omega
                · have := List.all_eq_true.1 hno.1 _ (lkp_mem π j i' hi')
                  simp at this
            refine .p _ _ (.seq false es sz b 0 c (fun j => cur.getD j undef) (lift_len.1 g6) (by rw [lift_length] at g3; exact g3) (fun h => by cases h) (fun j hj => ?_) (fun j y hy => (blk_get hok hy).2.1.mono hm))
            have := blk_get hok (List.getElem?_eq_getElem hj)
            refine ⟨hno', ?_, this.2.2⟩
            rw [Nat.zero_add]; exact cell_row g2 this.1
          · cases g1
    | @agg cs ds hl _ ih =>
      intro v hv
      cases hv with
      | agg _ vs g1 g2 g3 =>
        refine .agg _ _ (g1.trans hl) (fun i y hy => ?_) (fun i hi => g3 i (by rw [hl]; exact hi))
        have hlt := (List.getElem?_eq_some_iff.1 hy).1
        have hx : cs[i]? = some (cs[i]'(by rw [hl]; exact hlt)) := by simp
        exact ih i _ y hx hy (g2 i _ hx)
    | @fn f cs ds hl _ ih =>
      intro v hv
      cases hv with
      | fn _ _ vs g1 g2 =>
        refine .fn _ _ _ (g1.trans hl) (fun i y hy => ?_)
        have hlt := (List.getElem?_eq_some_iff.1 hy).1
        have hx : cs[i]? = some (cs[i]'(by rw [hl]; exact hlt)) := by simp
        exact ih i _ y hx hy (g2 i _ hx)
  refine ⟨ρ', h.defers, h.size, fun d y hy => ?_, fun j b' hj => ?_, fun i j k l v u b e1 e2 e3 e4 e5 e6 => ?_, fun j hj => ?_, fun j k v b e1 e2 e3 => ?_, h.oc, h.os, h.tape, h.output, h.grows, h.frame, fun j v hj => by simp only [ρ', lkq]; rw [if_pos (by omega)]; exact h.pins j v hj⟩
  · obtain ⟨x, hx, hle⟩ := hsl.get (lkp_mem _ _ _ hy)
    exact hA hle (h.slots d x hx)
  · obtain ⟨i, hi, b, hb, hle⟩ := hdom j b' hj
    obtain ⟨v, hv, hr⟩ := h.heap i b hb
    refine ⟨v, by simp [ρ', hi, hv], ?_⟩
    cases b with
    | map len m =>
      obtain ⟨b, es, clock, rfl, g1, g4⟩ := hr
      cases b' with
      | row => exact hle.elim
      | map len' m' =>
        obtain ⟨rfl, rfl⟩ := hle
        exact ⟨b, es, clock, rfl, g1, g4.mono hm⟩
      | mapS len' S' =>
        obtain ⟨rfl, hS⟩ := hle
        exact ⟨m, ⟨b, es, clock, rfl, g1, g4.mono hm⟩, hS⟩
    | mapS len S =>
      obtain ⟨m, ⟨b, es, clock, rfl, g1, g4⟩, g5⟩ := hr
      cases b' with
      | row => exact hle.elim
      | map => exact hle.elim
      | mapS len' S' =>
        obtain ⟨rfl, hS⟩ := hle
        exact ⟨m, ⟨b, es, clock, rfl, g1, g4.mono hm⟩, fun q x hq => hS q x (g5 q x hq)⟩
    | row sz es =>
      cases b' with
      | map => exact hle.elim
      | mapS => exact hle.elim
      | row sz' es' =>
        obtain ⟨rfl, hlen, hrow⟩ := hle
        have hrl : ∀ i (cs ds : List AV), es[i]? = some cs → es'[i]? = some ds → cs.length = ds.length := fun i cs ds g1 g2 => (hrow i cs ds g1 g2).1
        rcases hr with ⟨rfl, ad, rfl⟩ | ⟨b, cap, cur, e, g1, g0, g2, g3, g4, g5, g6, g7⟩
        · have : es' = [] := List.eq_nil_of_length_eq_zero (by simpa using hlen.symm)
          exact .inl ⟨this, ad, rfl⟩
        · have hall : ∀ x, x ∈ es' → x.length = sz := by
            intro x hx
            obtain ⟨i, hi, rfl⟩ := List.getElem_of_mem hx
            have h3 : es[i]? = some (es[i]'(by rw [hlen]; exact hi)) := by simp
            rw [← hrl i _ _ h3 (List.getElem?_eq_getElem hi)]
            exact g6 _ (List.mem_of_getElem? h3)
          refine .inr ⟨b, cap, cur, e, by rw [← hlen]; exact g1, g0, g2, by rw [← hlen]; exact g3, g4, g5, hall, fun q y hy => ?_⟩
          have hql := (List.getElem?_eq_some_iff.1 hy).1
          rw [flat_len sz _ hall] at hql
          have hsz0 : 0 < sz := Nat.pos_of_ne_zero (fun h => by rw [h] at hql; simp at hql)
          have hmod := Nat.mod_lt q hsz0
          have hdiv : q / sz < es'.length := Nat.div_lt_of_lt_mul (by rw [Nat.mul_comm]; exact hql)
          have hq2 : q = q / sz * sz + q % sz := by rw [Nat.mul_comm]; exact (Nat.div_add_mod q sz).symm
          have hd' : es'[q / sz]? = some es'[q / sz] := List.getElem?_eq_getElem hdiv
          have hc' : es[q / sz]? = some (es[q / sz]'(by rw [hlen]; exact hdiv)) := by simp
          have hy2 : es'[q / sz][q % sz]? = some y := by rw [← flat_get sz _ (q / sz) (q % sz) _ hall hd' hmod, ← hq2]; exact hy
          have hlc := hrl _ _ _ hc' hd'
          have hx2 : (es[q / sz]'(by rw [hlen]; exact hdiv))[q % sz]? = some ((es[q / sz]'(by rw [hlen]; exact hdiv))[q % sz]'(by rw [hlc]; exact (List.getElem?_eq_some_iff.1 hy2).1)) := by simp
          have hxf : es.flatten[q]? = some ((es[q / sz]'(by rw [hlen]; exact hdiv))[q % sz]'(by rw [hlc]; exact (List.getElem?_eq_some_iff.1 hy2).1)) := by
            conv => lhs; rw [hq2]
            rw [flat_get sz es (q / sz) (q % sz) _ g6 hc' hmod]; exact hx2
          exact ⟨hA ((hrow _ _ _ hc' hd').2 _ _ _ hx2 hy2) (g7 q _ hxf).1, (g7 q _ hxf).2⟩
  · obtain ⟨i1, q1, b1, r1, _⟩ := hdom i k e1
    obtain ⟨i2, q2, b2, r2, _⟩ := hdom j l e2
    simp only [ρ', q1, q2, Option.bind_some] at e3 e4
    have := h.inj i1 i2 b1 b2 v u b r1 r2 e3 e4 e5 e6
    subst this
    exact hinj i j i1 q1 q2
  · have h7 : ¬ j % 8 = 7 := fun e => hj (by simp [nmPos, e])
    have e : lkq π j = lkp π j := by unfold lkq; rw [if_neg h7]
    cases hl : lkp π j with
    | none => simp [ρ', e, hl]
    | some i =>
      have := List.all_eq_true.1 h1 _ (lkp_mem π j i hl)
      simp at this
      exact absurd this.1 hj
  · obtain ⟨i1, q1, b1, r1, _⟩ := hdom j k e1
    simp only [ρ', q1, Option.bind_some] at e2
    exact h.range i1 b1 v b r1 e2 e3

/-- An empty slice of no room is a row of the call's own. -/
theorem awp_own {P : Program} {C : Ctx} {c : Code} {K : Exit → LS → Prop} {s : LS} (d sz : Nat) (hd : lkp s.sl d = some (.p (.seq true []))) (h : Awp P C c K ⟨(d, .own (8 * s.nx)) :: s.sl, (8 * s.nx, .row sz []) :: del s.hp (8 * s.nx), s.nx + 1⟩) : Awp P C c K s := by
  intro a w ⟨ρ, hs⟩
  have hv := hs.slots d _ hd
  obtain ⟨ad, cap, he, hcap, hcl⟩ := seq_shape hv.unP
  have hc : cap = 0 := by simpa using hcl rfl
  subst hc
  have hnil := hs.newNil (f := 8 * s.nx) (by simp only [nmPos]; split <;> omega) sz ad
  -- the slot's value is as it was
  have key : SatR C (fun i => nmPos i ≤ s.nx ∨ i = 8 * s.nx) ⟨fun e => if some d = some e then some (.own (8 * s.nx)) else s.ps.sl e, PS.setHp s.ps.hp [(8 * s.nx, some (.row sz []))]⟩ (fun i => if i = 8 * s.nx then some (.slice ad 0 0) else ρ i) a w := by
    refine { hnil with slots := fun e x hx => ?_ }
    simp only at hx
    split at hx
    · rename_i e1
      injection e1 with e1; subst e1
      simp only [Option.some.injEq] at hx; subst hx
      rw [he]
      exact .own _ _ _ _ (by simp)
    · exact hnil.slots e x hx
  have e2 : (⟨(d, .own (8 * s.nx)) :: s.sl, (8 * s.nx, .row sz []) :: del s.hp (8 * s.nx), s.nx + 1⟩ : LS).ps = ⟨fun e => if some d = some e then some (.own (8 * s.nx)) else s.ps.sl e, PS.setHp s.ps.hp [(8 * s.nx, some (.row sz []))]⟩ := by
    simp only [LS.ps, PS.mk.injEq]
    refine ⟨?_, ?_⟩
    · funext e; simp [lkp, eq_comm]
    · funext i
      simp only [lkp, lkp_del, PS.setHp]
      by_cases e : i = 8 * s.nx <;> simp [e]
  have fin := key.widen (U' := fun i => nmPos i ≤ s.nx + 1) (fun i hi => by
    rcases hi with hi | rfl
    · omega
    · simp only [nmPos]; split <;> omega)
  rw [← e2] at fin
  exact h a w ⟨_, fin⟩

end Go.Am
