/-
  The abstract machine, twenty-eighth part: a region that comes to a test, whose ways meet again; states opened by cases.
-/
import Derived.Test.YtbdliooaiincdaaAm26
import Derived.Laws.Cover3
namespace Go.Am
open Go.RowKit
section
variable {P : Program} {C : Ctx} {K : Exit → LS → Prop} {s : LS}

theorem le_test {s s' : LS} {d : Nat} {b B : Bool} {L : List Nat} (hd : lkp s'.sl d = some (.p (.lit (.bool b)))) (hb : b = B) (hL : keepL s'.sl L = keepL s.sl L) (hh : s'.hp = s.hp) :
    LE s' ⟨(d, .p (.lit (.bool B))) :: keepL s.sl L, s.hp, s'.nx⟩ := by
  intro C a w ⟨ρ, h⟩
  subst hb
  refine ⟨ρ, ?_⟩
  have e : (⟨(d, .p (.lit (.bool b))) :: keepL s.sl L, s.hp, s'.nx⟩ : LS).ps = ⟨lkp ((d, .p (.lit (.bool b))) :: keepL s.sl L), s'.ps.hp⟩ := by simp [LS.ps, hh]
  rw [e]
  refine { h with slots := fun q x hx => ?_ }
  simp only [lkp] at hx
  split at hx
  · rename_i e1; subst e1
    simp only [Option.some.injEq] at hx; subst hx
    exact h.slots _ _ hd
  · rw [← hL] at hx
    exact h.slots q x (lkp_keepL _ _ _ _ hx)

theorem awp_test {id : Nat} {l : List Oper} {y : Code} (H : List Nat) (d : Nat) (B : Bool) (L : List Nat) (hf : inFrame C.n l.toArray = true)
    (h : ∀ gd, gd = gdOf l.toArray → ∀ k : LS → Prop, (∀ s' b, lkp s'.sl d = some (.p (.lit (.bool b))) → keepL s'.sl L = keepL s.sl L → s'.hp = s.hp → s'.nx = s.nx + l.length → b = B → k s') →
      aops P H gd (fun s' => k ⟨s'.sl, s'.hp, s'.nx + l.length⟩) 0 l s)
    (hy : Awp P C y K ⟨(d, .p (.lit (.bool B))) :: keepL s.sl L, s.hp, s.nx + l.length⟩) : Awp P C (.seq (.region id l.toArray false) y) K s :=
  awp_sr H hf fun k hk => h _ rfl k fun s' b hd hL hh hn hb => hk s' (awp_le (le_test hd hb hL hh) (by rw [hn]; exact hy))
theorem awp_testD {id : Nat} {l : List Oper} {y : Code} (H : List Nat) (D : Ord) (d : Nat) (B : Bool) (L : List Nat) (hf : inFrame C.n l.toArray = true) (hm : P.follows .mixedOrders = true) (hD : okD D l.toArray = true)
    (h : ∀ gd, gd = gdOf l.toArray → ∀ k : LS → Prop, (∀ s' b, lkp s'.sl d = some (.p (.lit (.bool b))) → keepL s'.sl L = keepL s.sl L → s'.hp = s.hp → s'.nx = s.nx + l.length → b = B → k s') →
      aopsD P H D gd (fun s' => k ⟨s'.sl, s'.hp, s'.nx + l.length⟩) 0 l s)
    (hy : Awp P C y K ⟨(d, .p (.lit (.bool B))) :: keepL s.sl L, s.hp, s.nx + l.length⟩) : Awp P C (.seq (.region id l.toArray true) y) K s :=
  awp_sd H D hf hm hD fun k hk => h _ rfl k fun s' b hd hL hh hn hb => hk s' (awp_le (le_test hd hb hL hh) (by rw [hn]; exact hy))

/-- is a slice nil? one of no element may be -/
theorem awp_nil {id d1 d2 src T : Nat} {ty1 ty2 T' : TypeId} {p1 p2 : String} {a1 a2 : Array Edge} {y : Code} {c : Bool} {es : List (List PV)} (e : TypeId) (h1 : d1 < C.n) (h2 : d2 < C.n) (hT : tEl P T = some e) (hs : lkp s.sl src = some (.p (.seq c es)))
    (h : ∀ b : Bool, (b = true → es = []) → Awp P C y K ⟨(d2, .p (.lit (.bool b))) :: (d1, .p (.seq c es)) :: s.sl, s.hp, s.nx⟩) :
    Awp P C (.seq (.region id #[⟨some d1, .move (.tmp src), ty1, p1, a1, none⟩, ⟨some d2, .binOp .eql T (.tmp d1) (.const (.slice none 0 0)) T', ty2, p2, a2, none⟩] false) y) K s := by
  refine awp_seq fun k hk => ?_
  intro a w hsat
  refine wp_region_lit ?_
  obtain ⟨ρ, hr⟩ := hsat
  have hv := hr.slots src _ hs
  obtain ⟨ad, cap, he, hcap, hcl⟩ := seq_shape hv.unP
  have hr1 := hr.put (dst := some d1) (fun d hd => by injection hd with hd; subst hd; exact h1) (x := .p (.seq c es)) (v := a.tmps.getD src undef) hv
  have key : ∀ (b : Bool), (b = true → es = []) → (∀ w, (Op.equal T (.slice ad es.length cap) (.slice none 0 0)).run P w = .ok b w) → wpList P
      #[⟨some d1, .move (.tmp src), ty1, p1, a1, none⟩, ⟨some d2, .binOp .eql T (.tmp d1) (.const (.slice none 0 0)) T', ty2, p2, a2, none⟩] (fun e a' w' => ∃ s', (match e with | .normal => k s' | e => K e s') ∧ Sat C (fun i => nmPos i ≤ s'.nx) s'.ps a' w')
      [⟨some d1, .move (.tmp src), ty1, p1, a1, none⟩, ⟨some d2, .binOp .eql T (.tmp d1) (.const (.slice none 0 0)) T', ty2, p2, a2, none⟩] a w := by
    intro b hb hrun
    unfold wpList
    rw [if_pos (by rfl)]
    refine .inl ?_
    have e1 : (execOp a.eval ⟨some d1, .move (.tmp src), ty1, p1, a1, none⟩).run P w = .ok (.value (a.tmps.getD src undef)) w := by simp [execOp, Act.eval]
    refine wp_value e1 ?_
    unfold wpList
    rw [if_pos (by rfl)]
    refine .inl ?_
    have hg : (a.put (some d1) (a.tmps.getD src undef)).tmps.getD d1 undef = .slice ad es.length cap := by
      have hlt : d1 < a.tmps.size := by rw [hr.size]; exact h1
      simp only [Act.put, Array.getD_eq_getD_getElem?, Array.getElem?_setIfInBounds_self_of_lt hlt, Option.getD_some]
      rw [← Array.getD_eq_getD_getElem?]; exact he
    have e2 : (execOp (a.put (some d1) (a.tmps.getD src undef)).eval ⟨some d2, .binOp .eql T (.tmp d1) (.const (.slice none 0 0)) T', ty2, p2, a2, none⟩).run P w = .ok (.value (.bool b)) w := by
      simp only [execOp, Act.eval, hg, eqGuard_at_slice, Sem.run_bind, Sem.run_pure, Result.andThen_ok, binOp, hrun w]
    refine wp_value e2 ?_
    unfold wpList
    have hr2 := hr1.put (dst := some d2) (fun d hd => by injection hd with hd; subst hd; exact h2) (x := .p (.lit (.bool b))) (v := .bool b) (.p _ _ (.lit _))
    refine ⟨⟨(d2, .p (.lit (.bool b))) :: (d1, .p (.seq c es)) :: s.sl, s.hp, s.nx⟩, hk _ (h b hb), ρ, ?_⟩
    have e3 : (⟨(d2, .p (.lit (.bool b))) :: (d1, .p (.seq c es)) :: s.sl, s.hp, s.nx⟩ : LS).ps = ((s.ps.upd (some d1) ⟨.p (.seq c es), []⟩).upd (some d2) ⟨.p (.lit (.bool b)), []⟩) := by
      simp only [LS.ps, PS.upd, PS.setHp, PS.mk.injEq, and_true]
      funext q
      simp only [lkp, Option.some.injEq]
      by_cases q2 : q = d2
      · simp only [q2, if_true]
      · have a2 : ¬ d2 = q := fun h => q2 h.symm
        by_cases q1 : q = d1
        · have a1 : d1 = q := q1.symm
          simp only [q2, a2, if_false]; rw [if_pos q1, if_pos a1]
        · have a1 : ¬ d1 = q := fun h => q1 h.symm
          simp only [q2, a2, q1, a1, if_false]
    rw [e3]; exact hr2
  cases ad with
  | none =>
    refine key true (fun _ => ?_) (fun w => run_equal_slice_nil w T e none es.length cap (el_run hT))
    have hv' := hv.unP
    rw [he] at hv'
    cases hes : es with
    | nil => rfl
    | cons x r => rw [hes] at hv'; cases hv'
  | some ad => exact key false (fun h => by cases h) (fun w => run_equal_slice_nil w T e (some ad) es.length cap (el_run hT))

/-- a map of which a law is known, opened: it is some map -/
theorem awp_openS {c : Code} {sl : List (Nat × AV)} {hp : List (Nat × Blk)} {nx len : Nat} {S : List Int → PV → Prop} (id : Nat) (hid : lkp hp id = some (.mapS len S))
    (h : ∀ m : List Int → Option PV, (∀ q x, m q = some x → S q x) → Awp P C c K ⟨sl, (id, .map len m) :: del hp id, nx⟩) : Awp P C c K ⟨sl, hp, nx⟩ := by
  intro a w ⟨ρ, hs⟩
  obtain ⟨v, hv, m, hm, hS⟩ := hs.heap id _ hid
  refine h m hS a w ⟨ρ, ?_⟩
  have hk : ∀ i k, lkp ((id, Blk.map len m) :: del hp id) i = some k → ∃ k', lkp hp i = some k' := by
    intro i k hi
    simp only [lkp, lkp_del] at hi
    by_cases e : i = id
    · subst e; exact ⟨_, hid⟩
    · simp only [e, if_false] at hi; exact ⟨k, hi⟩
  have hO : ∀ b, Own C (⟨sl, (id, .map len m) :: del hp id, nx⟩ : LS).ps ρ b → Own C (⟨sl, hp, nx⟩ : LS).ps ρ b := by
    rintro b (ho | ⟨i, k, u, h1, h2, h3⟩)
    · exact .inl ho
    · obtain ⟨k', hk'⟩ := hk i k h1; exact .inr ⟨i, k', u, hk', h2, h3⟩
  have hmv : Moves (Own C (⟨sl, hp, nx⟩ : LS).ps ρ) w (Own C (⟨sl, (id, .map len m) :: del hp id, nx⟩ : LS).ps ρ) w := ⟨Nat.le_refl _, fun _ _ _ => rfl, fun b _ => hO b⟩
  refine ⟨hs.defers, hs.size, fun d x hx => (hs.slots d x hx).mono hmv (fun _ _ h => h), fun i k hi => ?_, fun i j k l u u' b h1 h2 h3 h4 => ?_, hs.used, fun i k u b h1 h2 h3 => ?_, hs.oc, hs.os, hs.tape, hs.output, hs.grows, hs.frame, hs.pins⟩
  · simp only [LS.ps, lkp, lkp_del] at hi
    by_cases e : i = id
    · subst e
      simp only [if_true, Option.some.injEq] at hi; subst hi
      exact ⟨v, hv, BlkRep.mono (k := .map len m) hm hmv (fun _ _ h => h) (fun _ _ => rfl)⟩
    · simp only [e, if_false] at hi
      obtain ⟨u, hu, hr⟩ := hs.heap i k hi
      exact ⟨u, hu, hr.mono hmv (fun _ _ h => h) (fun _ _ => rfl)⟩
  · obtain ⟨k', hk'⟩ := hk i k h1
    obtain ⟨l', hl'⟩ := hk j l h2
    exact hs.inj i j k' l' u u' b hk' hl' h3 h4
  · obtain ⟨k', hk'⟩ := hk i k h1
    exact hs.range i k' u b hk' h2 h3
end
/-- a map, of which from here on only a law is known -/
theorem awp_closeS {P : Program} {C : Ctx} {K : Exit → LS → Prop} {c : Code} {sl : List (Nat × AV)} {hp : List (Nat × Blk)} {nx len : Nat} {m : List Int → Option PV} (id : Nat) (S : List Int → PV → Prop) (hid : lkp hp id = some (.map len m)) (hS : ∀ q x, m q = some x → S q x)
    (h : Awp P C c K ⟨sl, (id, .mapS len S) :: del hp id, nx⟩) : Awp P C c K ⟨sl, hp, nx⟩ := by
  intro a w ⟨ρ, hs⟩
  refine h a w ⟨ρ, ?_⟩
  have hk : ∀ i k, lkp ((id, Blk.mapS len S) :: del hp id) i = some k → ∃ k', lkp hp i = some k' := by
    intro i k hi
    simp only [lkp, lkp_del] at hi
    by_cases e : i = id
    · subst e; exact ⟨_, hid⟩
    · simp only [e, if_false] at hi; exact ⟨k, hi⟩
  have hO : ∀ b, Own C (⟨sl, (id, .mapS len S) :: del hp id, nx⟩ : LS).ps ρ b → Own C (⟨sl, hp, nx⟩ : LS).ps ρ b := by
    rintro b (ho | ⟨i, k, u, h1, h2, h3⟩)
    · exact .inl ho
    · obtain ⟨k', hk'⟩ := hk i k h1; exact .inr ⟨i, k', u, hk', h2, h3⟩
  have hmv : Moves (Own C (⟨sl, hp, nx⟩ : LS).ps ρ) w (Own C (⟨sl, (id, .mapS len S) :: del hp id, nx⟩ : LS).ps ρ) w := ⟨Nat.le_refl _, fun _ _ _ => rfl, fun b _ => hO b⟩
  refine ⟨hs.defers, hs.size, fun d x hx => (hs.slots d x hx).mono hmv (fun _ _ h => h), fun i k hi => ?_, fun i j k l u u' b h1 h2 h3 h4 => ?_, hs.used, fun i k u b h1 h2 h3 => ?_, hs.oc, hs.os, hs.tape, hs.output, hs.grows, hs.frame, hs.pins⟩
  · simp only [LS.ps, lkp, lkp_del] at hi
    by_cases e : i = id
    · subst e
      simp only [if_true, Option.some.injEq] at hi; subst hi
      obtain ⟨v, hv, hm⟩ := hs.heap i _ hid
      have hm2 := BlkRep.mono (k := .map len m) hm hmv (fun _ _ h => h) (fun _ _ => rfl)
      exact ⟨v, hv, m, hm2, hS⟩
    · simp only [e, if_false] at hi
      obtain ⟨u, hu, hr⟩ := hs.heap i k hi
      exact ⟨u, hu, hr.mono hmv (fun _ _ h => h) (fun _ _ => rfl)⟩
  · obtain ⟨k', hk'⟩ := hk i k h1
    obtain ⟨l', hl'⟩ := hk j l h2
    exact hs.inj i j k' l' u u' b hk' hl' h3 h4
  · obtain ⟨k', hk'⟩ := hk i k h1
    exact hs.range i k' u b hk' h2 h3
theorem gcase_undef (b : Bool) (run skip : Bool → Prop) (idle : Prop) : gcase (.p (.lit undef)) b run skip idle = idle := rfl
theorem gsplit {t b : Bool} {run skip : Bool → Prop} {idle : Prop} (h1 : t = b → run b) (h2 : t = (!b) → skip (!b)) : gcase (.p (.lit (.bool t))) b run skip idle := ⟨h1, h2⟩
theorem LeB.toS {hp : List (Nat × Blk)} {π : List (Nat × Nat)} {len : Nat} {m : List Int → Option PV} {S : List Int → PV → Prop} (h : ∀ q x, m q = some x → S q x) : LeB hp π (.map len m) (.mapS len S) := ⟨rfl, h⟩
theorem LeB.reflS {hp : List (Nat × Blk)} {π : List (Nat × Nat)} {len : Nat} {S : List Int → PV → Prop} : LeB hp π (.mapS len S) (.mapS len S) := ⟨rfl, fun _ _ h => h⟩
theorem LeB.reflM {hp : List (Nat × Blk)} {π : List (Nat × Nat)} {len : Nat} {m : List Int → Option PV} : LeB hp π (.map len m) (.map len m) := ⟨rfl, rfl⟩
end Go.Am
