/-
  The abstract machine, twenty-eighth part: a region that comes to a test, whose ways meet again; states opened by cases.
-/
import Derived.Test.YtbdliooaiincdaaAm26
namespace Go.Am
open Go.RowKit
section
variable {P : Program} {C : Ctx} {K : Exit → LS → Prop} {s : LS}

theorem le_test {s s' : LS} {d : Nat} {b B : Bool} {L : List Nat} (hd : lkp s'.sl d = some (.p (.lit (.bool b)))) (hb : b = B) (hL : keepL s'.sl L = keepL s.sl L) (hh : s'.hp = s.hp) :
    LE s' ⟨(d, .p (.lit (.bool B))) :: keepL s.sl L, s.hp, s'.nx⟩ := by
  intro C a w ⟨ρ, h⟩
  subst hb
  refine ⟨ρ, ?_⟩
  have e : (⟨(d, .p (.lit (.bool b))) :: keepL s.sl L, s.hp, s'.nx⟩ : LS).ps = ⟨lkp ((d, .p (.lit (.bool b))) :: keepL s.sl L), s'.ps.hp⟩ := by simp [LS.ps, hh]
  rw [e]
  refine { h with slots := fun q x hx => ?_ }
  simp only [lkp] at hx
  split at hx
  · rename_i e1; subst e1
    simp only [Option.some.injEq] at hx; subst hx
    exact h.slots _ _ hd
  · rw [← hL] at hx
    exact h.slots q x (lkp_keepL _ _ _ _ hx)

theorem awp_test {id : Nat} {l : List Oper} {y : Code} (H : List Nat) (d : Nat) (B : Bool) (L : List Nat) (hf : inFrame C.n l.toArray = true)
    (h : ∀ gd, gd = gdOf l.toArray → ∀ k : LS → Prop, (∀ s' b, lkp s'.sl d = some (.p (.lit (.bool b))) → keepL s'.sl L = keepL s.sl L → s'.hp = s.hp → s'.nx = s.nx + l.length → b = B → k s') →
      aops P H gd (fun s' => k ⟨s'.sl, s'.hp, s'.nx + l.length⟩) 0 l s)
    (hy : Awp P C y K ⟨(d, .p (.lit (.bool B))) :: keepL s.sl L, s.hp, s.nx + l.length⟩) : Awp P C (.seq (.region id l.toArray false) y) K s :=
  awp_sr H hf fun k hk => h _ rfl k fun s' b hd hL hh hn hb => hk s' (awp_le (le_test hd hb hL hh) (by rw [hn]; exact hy))
theorem awp_testD {id : Nat} {l : List Oper} {y : Code} (H : List Nat) (D : Ord) (d : Nat) (B : Bool) (L : List Nat) (hf : inFrame C.n l.toArray = true) (hm : P.follows .mixedOrders = true) (hD : okD D l.toArray = true)
    (h : ∀ gd, gd = gdOf l.toArray → ∀ k : LS → Prop, (∀ s' b, lkp s'.sl d = some (.p (.lit (.bool b))) → keepL s'.sl L = keepL s.sl L → s'.hp = s.hp → s'.nx = s.nx + l.length → b = B → k s') →
      aopsD P H D gd (fun s' => k ⟨s'.sl, s'.hp, s'.nx + l.length⟩) 0 l s)
    (hy : Awp P C y K ⟨(d, .p (.lit (.bool B))) :: keepL s.sl L, s.hp, s.nx + l.length⟩) : Awp P C (.seq (.region id l.toArray true) y) K s :=
  awp_sd H D hf hm hD fun k hk => h _ rfl k fun s' b hd hL hh hn hb => hk s' (awp_le (le_test hd hb hL hh) (by rw [hn]; exact hy))

/-- a map of which a law is known, opened: it is some map -/
theorem awp_openS {c : Code} {sl : List (Nat × AV)} {hp : List (Nat × Blk)} {nx len : Nat} {S : List Int → PV → Prop} (id : Nat) (hid : lkp hp id = some (.mapS len S))
    (h : ∀ m : List Int → Option PV, (∀ q x, m q = some x → S q x) → Awp P C c K ⟨sl, (id, .map len m) :: del hp id, nx⟩) : Awp P C c K ⟨sl, hp, nx⟩ := by
  intro a w ⟨ρ, hs⟩
  obtain ⟨v, hv, m, hm, hS⟩ := hs.heap id _ hid
  refine h m hS a w ⟨ρ, ?_⟩
  have hk : ∀ i k, lkp ((id, Blk.map len m) :: del hp id) i = some k → ∃ k', lkp hp i = some k' := by
    intro i k hi
    simp only [lkp, lkp_del] at hi
    by_cases e : i = id
    · subst e; exact ⟨_, hid⟩
    · simp only [e, if_false] at hi; exact ⟨k, hi⟩
  have hO : ∀ b, Own C (⟨sl, (id, .map len m) :: del hp id, nx⟩ : LS).ps ρ b → Own C (⟨sl, hp, nx⟩ : LS).ps ρ b := by
    rintro b (ho | ⟨i, k, u, h1, h2, h3⟩)
    · exact .inl ho
    · obtain ⟨k', hk'⟩ := hk i k h1; exact .inr ⟨i, k', u, hk', h2, h3⟩
  have hmv : Moves (Own C (⟨sl, hp, nx⟩ : LS).ps ρ) w (Own C (⟨sl, (id, .map len m) :: del hp id, nx⟩ : LS).ps ρ) w := ⟨Nat.le_refl _, fun _ _ _ => rfl, fun b _ => hO b⟩
  refine ⟨hs.defers, hs.size, fun d x hx => (hs.slots d x hx).mono hmv (fun _ _ h => h), fun i k hi => ?_, fun i j k l u u' b h1 h2 h3 h4 => ?_, hs.used, fun i k u b h1 h2 h3 => ?_, hs.oc, hs.os, hs.tape, hs.output, hs.grows, hs.frame, hs.pins⟩
  · simp only [LS.ps, lkp, lkp_del] at hi
    by_cases e : i = id
    · subst e
      simp only [if_true, Option.some.injEq] at hi; subst hi
      exact ⟨v, hv, BlkRep.mono (k := .map len m) hm hmv (fun _ _ h => h) (fun _ _ => rfl)⟩
    · simp only [e, if_false] at hi
      obtain ⟨u, hu, hr⟩ := hs.heap i k hi
      exact ⟨u, hu, hr.mono hmv (fun _ _ h => h) (fun _ _ => rfl)⟩
  · obtain ⟨k', hk'⟩ := hk i k h1
    obtain ⟨l', hl'⟩ := hk j l h2
    exact hs.inj i j k' l' u u' b hk' hl' h3 h4
  · obtain ⟨k', hk'⟩ := hk i k h1
    exact hs.range i k' u b hk' h2 h3
end
theorem gcase_undef (b : Bool) (run skip : Bool → Prop) (idle : Prop) : gcase (.p (.lit undef)) b run skip idle = idle := rfl
theorem LeB.toS {hp : List (Nat × Blk)} {π : List (Nat × Nat)} {len : Nat} {m : List Int → Option PV} {S : List Int → PV → Prop} (h : ∀ q x, m q = some x → S q x) : LeB hp π (.map len m) (.mapS len S) := ⟨rfl, h⟩
theorem LeB.reflS {hp : List (Nat × Blk)} {π : List (Nat × Nat)} {len : Nat} {S : List Int → PV → Prop} : LeB hp π (.mapS len S) (.mapS len S) := ⟨rfl, fun _ _ h => h⟩
theorem LeB.reflM {hp : List (Nat × Blk)} {π : List (Nat × Nat)} {len : Nat} {m : List Int → Option PV} : LeB hp π (.map len m) (.map len m) := ⟨rfl, rfl⟩
end Go.Am
