/-
  The abstract machine, sixteenth part: the region that draws, in whatever order: the theorem.
-/
import Derived.Test.YtbdliooaiincdaaAm15
namespace Go.Am
open Go.RowKit

section
variable {P : Program} {D : Ord} {ops : Array Oper} {us : Nat → Upd} {rn : Nat → Bool} {s0 : PS} {nx0 : Nat} {S : Nat → Bool}

theorem writes_iff {ops : Array Oper} {j d : Nat} (h : writes ops.toList j d = true) : ∃ x, ops[j]? = some x ∧ x.dst = some d := by
  simp only [writes, dstOf, beq_iff_eq] at h
  obtain ⟨x, hx, hd⟩ := Option.bind_eq_some_iff.1 h
  exact ⟨x, by simpa using hx, hd⟩

theorem slot_agree (hO : OrdOk D ops) (hdown : ∀ j, S j = true → ∀ i, D.bit i j = true → S i = true) {k : Nat} {o : Oper} (hk : ops[k]? = some o) (hSk : S k = false) (hpre : ∀ i, D.bit i k = true → S i = true) {d : Nat}
    (hd : d ∈ looksAt (gdOf ops) o) : (PSof ops.toList us s0 S ops.size).sl d = (stFrom ops.toList us s0 k).sl d := by
  rw [stFrom_sl]
  simp only [PSof]
  have hkn : k < ops.size := (Array.getElem?_eq_some_iff.1 hk).1
  rw [last_eq (p := fun j => writes ops.toList j d) (q := fun j => S j && writes ops.toList j d) (i := k) (fun j hj hp => ?_) (fun j hj hq => ?_)]
  · obtain ⟨x, hx, hxd⟩ := writes_iff hp
    have := hO.conf j k x o hx hk hj (.inl (by simp [slotConflict, hxd, hd]))
    exact ⟨by omega, by simp [hpre j this, hp]⟩
  · simp only [Bool.and_eq_true] at hq
    obtain ⟨x, hx, hxd⟩ := writes_iff hq.2
    refine ⟨?_, hq.2⟩
    rcases Nat.lt_trichotomy j k with h | h | h
    · exact h
    · subst h; rw [hSk] at hq; cases hq.1
    · have := hO.conf k j o x hk hx h (.inl (by simp [slotConflict, hxd, hd]))
      have := hdown j hq.1 k this
      rw [hSk] at this; cases this

theorem heap_agree (hO : OrdOk D ops) (hu : ∀ j, j < ops.size → okU D nx0 j (us j)) (hdown : ∀ j, S j = true → ∀ i, D.bit i j = true → S i = true) {k : Nat} {o : Oper} (hk : ops[k]? = some o) (hSk : S k = false)
    (hpre : ∀ i, D.bit i k = true → S i = true) {id : Nat} {b : Blk} (hb : (viewP D nx0 k (stFrom ops.toList us s0 k)).hp id = some b) : (PSof ops.toList us s0 S ops.size).hp id = some b := by
  have hkn : k < ops.size := (Array.getElem?_eq_some_iff.1 hk).1
  simp only [viewP] at hb
  have hget : ∀ j, j < ops.size → ∃ x, ops[j]? = some x := fun j hj => ⟨ops[j], by simp [hj]⟩
  split at hb
  · rename_i hcold
    -- nobody writes it
    have hno : ∀ j, j < ops.size → touches us j id = false := by
      intro j hj
      cases ht : touches us j id with
      | false => rfl
      | true =>
        obtain ⟨p, hp1, hp2⟩ := mem_touches ht
        rcases (hu j hj).get p hp1 with h | ⟨_, h | h⟩
        · rw [hp2] at h; omega
        · rw [hp2, hcold.2] at h; cases h.2
        · rw [hp2] at h
          exact absurd hcold.1 h.1
    rw [stFrom_hp, last_none.2 (fun j hj => hno j (by omega))] at hb
    simp only [PSof]
    rw [last_none.2 (fun j hj => by rw [hno j hj]; simp)]
    exact hb
  split at hb
  · rename_i hrw
    have hb' : (stFrom ops.toList us s0 k).hp id = some b ∧ (nmPos id ≤ nx0 ∨ D.sees (nmPos id - 1 - nx0) k = true) := by
      split at hb
      · rename_i h; exact ⟨hb, .inl h⟩
      · split at hb
        · rename_i h; exact ⟨hb, .inr h⟩
        · cases hb
    obtain ⟨hb1, hsee⟩ := hb'
    rw [stFrom_hp] at hb1
    rw [← hb1]
    simp only [PSof]
    rw [last_eq (p := fun j => touches us j id) (q := fun j => S j && touches us j id) (i := k) (fun j hj hp => ?_) (fun j hj hq => ?_)]
    · obtain ⟨p, hp1, hp2⟩ := mem_touches hp
      obtain ⟨x, hx⟩ := hget j (by omega)
      refine ⟨by omega, ?_⟩
      have : S j = true := by
        rcases (hu j (by omega)).get p hp1 with h | ⟨h, _⟩
        · rw [hp2] at h
          rcases hsee with hs | hs
          · omega
          · rw [show nmPos id - 1 - nx0 = j by omega] at hs
            exact hpre j (hO.vis j k hs).2
        · exact hpre j (hO.conf j k x o hx hk hj (.inr (.inl ⟨h, hrw⟩)))
      simp [this, hp]
    · simp only [Bool.and_eq_true] at hq
      refine ⟨?_, hq.2⟩
      rcases Nat.lt_trichotomy j k with h | h | h
      · exact h
      · subst h; rw [hSk] at hq; cases hq.1
      · obtain ⟨p, hp1, hp2⟩ := mem_touches hq.2
        obtain ⟨x, hx⟩ := hget j hj
        rcases (hu j hj).get p hp1 with h2 | ⟨h2, _⟩
        · rw [hp2] at h2
          rcases hsee with hs | hs
          · omega
          · rw [show nmPos id - 1 - nx0 = j by omega] at hs
            have := (hO.vis j k hs).1; omega
        · have := hO.conf k j o x hk hx h (.inr (.inr ⟨hrw, h2⟩))
          have := hdown j hq.1 k this
          rw [hSk] at this; cases this
  · cases hb

theorem next_agree (hO : OrdOk D ops) (hu : ∀ j, j < ops.size → okU D nx0 j (us j)) (hdown : ∀ j, S j = true → ∀ i, D.bit i j = true → S i = true) {k : Nat} {o : Oper} (hk : ops[k]? = some o) (hSk : S k = false) :
    (PSof ops.toList us s0 S ops.size).upd o.dst (us k) = PSof ops.toList us s0 (fun j => S j || j == k) ops.size := by
  have hkn : k < ops.size := (Array.getElem?_eq_some_iff.1 hk).1
  have hget : ∀ j, j < ops.size → ∃ x, ops[j]? = some x := fun j hj => ⟨ops[j], by simp [hj]⟩
  have hdst : dstOf ops.toList k = o.dst := by simp [dstOf, hk]
  have h1 : ∀ d, ((PSof ops.toList us s0 S ops.size).upd o.dst (us k)).sl d = (PSof ops.toList us s0 (fun j => S j || j == k) ops.size).sl d := by
    intro d
    simp only [PS.upd, PSof]
    by_cases hw : o.dst = some d
    · rw [if_pos hw]
      have : last (fun j => (S j || j == k) && writes ops.toList j d) ops.size = some k := by
        rw [last_some]
        refine ⟨hkn, by simp [writes, hdst, hw], fun j h1 h2 => ?_⟩
        by_cases e : ((S j || j == k) && writes ops.toList j d) = true
        · simp only [Bool.and_eq_true, Bool.or_eq_true, beq_iff_eq] at e
          obtain ⟨x, hx, hxd⟩ := writes_iff e.2
          have := hO.conf k j o x hk hx h1 (.inl (by simp [slotConflict, hw, hxd]))
          rcases e.1 with e1 | e1
          · have := hdown j e1 k this; rw [hSk] at this; cases this
          · omega
        · simpa using e
      rw [this]
    · rw [if_neg hw]
      rw [last_eq (p := fun j => S j && writes ops.toList j d) (q := fun j => (S j || j == k) && writes ops.toList j d) (i := ops.size) (fun j hj hp => ⟨hj, by simp at hp; simp [hp.1, hp.2]⟩) (fun j hj hq => ⟨hj, ?_⟩)]
      simp only [Bool.and_eq_true, Bool.or_eq_true, beq_iff_eq] at hq ⊢
      rcases hq.1 with h | h
      · exact ⟨h, hq.2⟩
      · subst h
        have := hq.2
        simp only [writes, hdst, beq_iff_eq] at this
        exact absurd this hw
  have h2 : ∀ id, ((PSof ops.toList us s0 S ops.size).upd o.dst (us k)).hp id = (PSof ops.toList us s0 (fun j => S j || j == k) ops.size).hp id := by
    intro id
    simp only [PS.upd, PSof]
    rw [setHp_eq]
    by_cases ht : ((us k).hps.any fun p => p.1 == id) = true
    · rw [if_pos ht]
      have htk : touches us k id = true := ht
      have : last (fun j => (S j || j == k) && touches us j id) ops.size = some k := by
        rw [last_some]
        refine ⟨hkn, by simp [htk], fun j h1 h2 => ?_⟩
        by_cases e : ((S j || j == k) && touches us j id) = true
        · simp only [Bool.and_eq_true, Bool.or_eq_true, beq_iff_eq] at e
          obtain ⟨p, hp1, hp2⟩ := mem_touches htk
          obtain ⟨q, hq1, hq2⟩ := mem_touches e.2
          obtain ⟨x, hx⟩ := hget j h2
          have hSj : S j = true := by
            rcases e.1 with e1 | e1
            · exact e1
            · omega
          have hpq : nmPos p.1 = nmPos q.1 := by rw [hp2, hq2]
          have hno : D.bit k j = true → False := fun hb => by have := hdown j hSj k hb; rw [hSk] at this; cases this
          rcases (hu j h2).get q hq1 with g1 | ⟨g1, g2⟩
          · rcases (hu k hkn).get p hp1 with g3 | ⟨g3, g4⟩
            · omega
            · rcases g4 with g4 | g4
              · omega
              · have : nmPos p.1 - 1 - nx0 = j := by omega
                rw [this] at g4
                have := (hO.vis j k g4.2).1; omega
          · rcases (hu k hkn).get p hp1 with g3 | ⟨g3, g4⟩
            · rcases g2 with g2 | g2
              · omega
              · have : nmPos q.1 - 1 - nx0 = k := by omega
                rw [this] at g2
                exact (hno (hO.vis k j g2.2).2).elim
            · exact (hno (hO.conf k j o x hk hx h1 (.inr (.inr ⟨by simp [Ord.isRW, Ord.isW] at g3 ⊢; exact .inr g3, g1⟩)))).elim
        · simpa using e
      rw [this]; rfl
    · rw [if_neg ht]
      rw [last_eq (p := fun j => S j && touches us j id) (q := fun j => (S j || j == k) && touches us j id) (i := ops.size) (fun j hj hp => ⟨hj, by simp at hp; simp [hp.1, hp.2]⟩) (fun j hj hq => ⟨hj, ?_⟩)]
      simp only [Bool.and_eq_true, Bool.or_eq_true, beq_iff_eq] at hq ⊢
      rcases hq.1 with h | h
      · exact ⟨h, hq.2⟩
      · subst h
        exact absurd hq.2 ht
  generalize (PSof ops.toList us s0 S ops.size).upd o.dst (us k) = a at *
  generalize PSof ops.toList us s0 (fun j => S j || j == k) ops.size = b at *
  cases a; cases b
  simp only [PS.mk.injEq]
  exact ⟨funext h1, funext h2⟩
end

end Go.Am
