/-
  Plain data: work, of which some tasks are open; what parting and doing do to it.
-/
import Derived.Test.YtbdliooaiincdaaPl5
set_option linter.unusedSimpArgs false
set_option linter.unusedVariables false
namespace Go.Pl
/-! ## Tasks in a row -/
theorem getD_set_self {ts : List Task} {p : Nat} {t : Task} (h : p < ts.length) : (ts.set p t).getD p default = t := by
  rw [List.getD_eq_getElem?_getD, List.getElem?_set_self h]; rfl
theorem getD_set_ne {ts : List Task} {p j : Nat} {t : Task} (h : p ≠ j) : (ts.set p t).getD j default = ts.getD j default := by
  rw [List.getD_eq_getElem?_getD, List.getElem?_set_ne h, ← List.getD_eq_getElem?_getD]
/-- one, where a task isn't finished -/
def U (ts : List Task) (op : List Nat) (j : Nat) : Int := if j ∈ op ∨ 0 < (ts.getD j default).wait then 1 else 0
theorem U_01 (ts : List Task) (op : List Nat) (j : Nat) : U ts op j = 0 ∨ U ts op j = 1 := by unfold U; split <;> simp
theorem U_one {ts : List Task} {op : List Nat} {j : Nat} : U ts op j = 1 ↔ (j ∈ op ∨ 0 < (ts.getD j default).wait) := by unfold U; split <;> simp_all
/-- tasks wait for as many halves as aren't finished; one, that has just been, isn't yet counted off -/
structure G (ts : List Task) (op : List Nat) (p : Int) : Prop where
  up : ∀ i, i < ts.length → -1 ≤ (ts.getD i default).up ∧ (ts.getD i default).up < i ∧ 0 ≤ (ts.getD i default).wait
  up0 : ∀ i, i < ts.length → (ts.getD i default).up = -1 → i = 0
  rng : ∀ t, t ∈ op → t < ts.length ∧ (ts.getD t default).wait = 0
  node : ∀ i, i < ts.length → ((∀ j, j < ts.length → (ts.getD j default).up ≠ i) ∧ (ts.getD i default).wait = 0 ∧ (i : Int) ≠ p) ∨
    (i ∉ op ∧ ∃ a, a + 1 < ts.length ∧ (ts.getD a default).up = i ∧ (ts.getD (a + 1) default).up = i ∧ (∀ j, j < ts.length → (ts.getD j default).up = i → j = a ∨ j = a + 1) ∧
      (ts.getD i default).wait = U ts op a + U ts op (a + 1) + (if (i : Int) = p then 1 else 0))
theorem G.some_open {ts : List Task} {op : List Nat} (h : G ts op (-1)) : ∀ (k i : Nat), ts.length ≤ k + i → i < ts.length → U ts op i = 1 → op ≠ []
  | 0, i, hk, hi, _ => by omega
  | k + 1, i, hk, hi, hu => by
    rcases U_one.1 hu with ho | hw
    · intro e; rw [e] at ho; cases ho
    · rcases h.node i hi with ⟨_, hz, _⟩ | ⟨_, a, ha, u1, u2, _, hq⟩
      · omega
      · rw [if_neg (by omega)] at hq
        have l1 := (h.up a (by omega)).2.1
        have l2 := (h.up (a + 1) ha).2.1
        rcases U_01 ts op a with e1 | e1
        · rcases U_01 ts op (a + 1) with e2 | e2
          · omega
          · exact h.some_open k (a + 1) (by omega) ha e2
        · exact h.some_open k a (by omega) (by omega) e1
theorem G.root {ts : List Task} {op : List Nat} (h : G ts op (-1)) (i : Nat) : i < ts.length → U ts op i = 1 → U ts op 0 = 1 := by
  induction i using Nat.strongRecOn with
  | _ i ih =>
    intro hi hu
    by_cases e : i = 0
    · rw [← e]; exact hu
    · obtain ⟨hu0, hu1, _⟩ := h.up i hi
      have hne : (ts.getD i default).up ≠ -1 := fun q => e (h.up0 i hi q)
      obtain ⟨p, hp⟩ : ∃ p : Nat, (ts.getD i default).up = p := ⟨(ts.getD i default).up.toNat, by omega⟩
      have hpi : p < i := by omega
      refine ih p hpi (by omega) ?_
      rcases h.node p (by omega) with ⟨hn, _, _⟩ | ⟨_, a, ha, u1, u2, hall, hq⟩
      · exact absurd hp (hn i hi)
      · rw [if_neg (by omega)] at hq
        have h1 := U_01 ts op a
        have h2 := U_01 ts op (a + 1)
        refine U_one.2 (.inr ?_)
        rcases hall i hi hp with rfl | rfl <;> omega
/-- the walk upwards -/
theorem fin_G : ∀ (k : Nat) (ts : List Task) (op : List Nat) (p : Int), 0 < ts.length → G ts op p → -1 ≤ p → p < ts.length → p + 1 < k → (p = -1 → U ts op 0 = 0) →
    G (fin k ts p).1 op (-1) ∧ (fin k ts p).1.length = ts.length ∧ (∀ i, ((fin k ts p).1.getD i default).low = (ts.getD i default).low ∧ ((fin k ts p).1.getD i default).high = (ts.getD i default).high ∧ ((fin k ts p).1.getD i default).up = (ts.getD i default).up) ∧ ((fin k ts p).2 = true ↔ op = [])
  | 0, ts, op, p, _, _, _, _, hk, _ => by omega
  | k + 1, ts, op, p, hpos, h, hp0, hp1, hk, hroot => by
    by_cases e : p = -1
    · subst e
      rw [fin_end]
      refine ⟨h, rfl, fun i => ⟨rfl, rfl, rfl⟩, fun _ => ?_, fun _ => rfl⟩
      cases op with
      | nil => rfl
      | cons t r =>
        have h1 := h.root t (h.rng t (by simp)).1 (U_one.2 (.inl (by simp)))
        have h2 := hroot rfl
        omega
    · obtain ⟨q, rfl⟩ : ∃ q : Nat, p = q := ⟨p.toNat, by omega⟩
      have hq : q < ts.length := by omega
      rcases h.node q hq with ⟨_, _, hn⟩ | ⟨hno, a, ha, u1, u2, hall, hw⟩
      · exact absurd rfl hn
      rw [if_pos rfl] at hw
      have b1 := U_01 ts op a
      have b2 := U_01 ts op (a + 1)
      have la := (h.up a (by omega)).2.1
      have la' := (h.up (a + 1) ha).2.1
      generalize ht : ({ ts.getD q default with wait := (ts.getD q default).wait - 1 } : Task) = t' at *
      have tw : t'.wait = (ts.getD q default).wait - 1 := by rw [← ht]
      have tu : t'.up = (ts.getD q default).up := by rw [← ht]
      have tl : t'.low = (ts.getD q default).low := by rw [← ht]
      have th : t'.high = (ts.getD q default).high := by rw [← ht]
      have hs : (ts.set q t').getD q default = t' := getD_set_self hq
      have hn : ∀ j, q ≠ j → (ts.set q t').getD j default = ts.getD j default := fun j hj => getD_set_ne hj
      have hup : ∀ j, ((ts.set q t').getD j default).up = (ts.getD j default).up := fun j => by
        by_cases c : q = j
        · subst c; rw [hs, tu]
        · rw [hn j c]
      have hlow : ∀ j, ((ts.set q t').getD j default).low = (ts.getD j default).low ∧ ((ts.set q t').getD j default).high = (ts.getD j default).high := fun j => by
        by_cases c : q = j
        · subst c; rw [hs, tl, th]; exact ⟨rfl, rfl⟩
        · rw [hn j c]; exact ⟨rfl, rfl⟩
      have hU : ∀ j, q ≠ j → U (ts.set q t') op j = U ts op j := fun j hj => by unfold U; rw [hn j hj]
      have huq := h.up q hq
      -- the row behind the step
      have key : ∀ p' : Int, (0 < t'.wait → p' = -1) → (¬ 0 < t'.wait → p' = (ts.getD q default).up) → G (ts.set q t') op p' := by
        intro p' hA hB
        refine ⟨fun i hi => ?_, fun i hi => ?_, fun t ht' => ?_, fun i hi => ?_⟩
        · rw [List.length_set] at hi
          rw [hup]
          have := h.up i hi
          by_cases c : q = i
          · subst c; rw [hs, tw]; omega
          · rw [hn i c]; exact this
        · rw [List.length_set] at hi; rw [hup]; exact h.up0 i hi
        · rw [List.length_set]
          have c : q ≠ t := fun c => hno (c ▸ ht')
          rw [hn t c]; exact h.rng t ht'
        · simp only [List.length_set] at hi ⊢
          by_cases c : q = i
          · subst c
            refine .inr ⟨hno, a, ha, by rw [hup]; exact u1, by rw [hup]; exact u2, fun j hj hj' => hall j hj (by rw [hup] at hj'; exact hj'), ?_⟩
            rw [hs, tw, hU a (by omega), hU (a + 1) (by omega), if_neg, hw]
            · omega
            · by_cases c2 : 0 < t'.wait
              · rw [hA c2]; omega
              · rw [hB c2]; omega
          · rcases h.node i hi with ⟨n1, n2, n3⟩ | ⟨m1, b, hb, v1, v2, hall2, hw2⟩
            · refine .inl ⟨fun j hj => by rw [hup]; exact n1 j hj, by rw [hn i c]; exact n2, ?_⟩
              by_cases c2 : 0 < t'.wait
              · rw [hA c2]; omega
              · rw [hB c2]; exact fun e => n1 q hq e.symm
            · refine .inr ⟨m1, b, hb, by rw [hup]; exact v1, by rw [hup]; exact v2, fun j hj hj' => hall2 j hj (by rw [hup] at hj'; exact hj'), ?_⟩
              rw [hn i c, hw2, if_neg (by omega)]
              have Uq : U ts op q = 1 := U_one.2 (.inr (by omega))
              by_cases c2 : 0 < t'.wait
              · have Uq' : U (ts.set q t') op q = 1 := U_one.2 (.inr (by rw [hs]; exact c2))
                have hx : ∀ j, U (ts.set q t') op j = U ts op j := fun j => by
                  by_cases c3 : q = j
                  · subst c3; omega
                  · exact hU j c3
                rw [hx, hx, hA c2, if_neg (by omega)]
              · have Uq' : U (ts.set q t') op q = 0 := by
                  rcases U_01 (ts.set q t') op q with e0 | e0
                  · exact e0
                  · rcases U_one.1 e0 with o1 | o1
                    · exact absurd o1 hno
                    · rw [hs] at o1; exact absurd o1 c2
                rw [hB c2]
                by_cases c3 : (ts.getD q default).up = i
                · rw [if_pos c3.symm]
                  rcases hall2 q hq c3 with c4 | c4
                  · rw [← c4, hU (q + 1) (by omega)]; omega
                  · rw [← c4]
                    have : q ≠ b := by omega
                    rw [hU b this]; omega
                · rw [if_neg (fun e => c3 e.symm)]
                  have c5 : q ≠ b := fun e => c3 (by rw [e]; exact v1)
                  have c6 : q ≠ b + 1 := fun e => c3 (by rw [e]; exact v2)
                  rw [hU b c5, hU (b + 1) c6]
      by_cases hz : 0 < t'.wait
      · have hg := key (-1) (fun _ => rfl) (fun c => absurd hz c)
        rw [fin_stop (by omega) (by simp only [Int.toNat_natCast]; omega) (by simp only [Int.toNat_natCast]; rw [← tw]; exact hz)]
        simp only [Int.toNat_natCast, ht]
        refine ⟨hg, by simp, fun i => ⟨(hlow i).1, (hlow i).2, hup i⟩, ⟨fun hf => by simp at hf, fun ho => ?_⟩⟩
        exact absurd ho (hg.some_open ts.length q (by simp) (by simpa using hq) (U_one.2 (.inr (by rw [hs]; exact hz))))
      · have hg := key (ts.getD q default).up (fun c => absurd c hz) (fun _ => rfl)
        rw [fin_on (by omega) (by simp only [Int.toNat_natCast]; omega) (by simp only [Int.toNat_natCast]; rw [← tw]; exact hz)]
        simp only [Int.toNat_natCast, ht]
        obtain ⟨r1, r2, r3, r4⟩ := fin_G k (ts.set q t') op (ts.getD q default).up (by simpa using hpos) hg (by omega) (by rw [List.length_set]; omega) (by omega) (fun e => by
          have e0 := h.up0 q hq e
          subst e0
          rcases U_01 (ts.set 0 t') op 0 with e1 | e1
          · exact e1
          · rcases U_one.1 e1 with o1 | o1
            · exact absurd o1 hno
            · rw [hs] at o1; exact absurd o1 hz)
        refine ⟨r1, by rw [r2]; simp, fun i => ?_, r4⟩
        obtain ⟨s1, s2, s3⟩ := r3 i
        exact ⟨s1.trans (hlow i).1, s2.trans (hlow i).2, s3.trans (hup i)⟩
end Go.Pl
