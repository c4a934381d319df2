/-
  Plain data: doing a task, and the end.
-/
import Derived.Test.YtbdliooaiincdaaPl7
set_option linter.unusedSimpArgs false
set_option linter.unusedVariables false
namespace Go.Pl
theorem marked_get {d : List Bool} {lo hi : Nat} (h : lo ≤ hi) (h2 : hi ≤ d.length) (u : Nat) : (marked d lo hi).getD u false = if lo ≤ u ∧ u < hi then true else d.getD u false := by
  unfold marked
  rw [List.getD_eq_getElem?_getD, List.getD_eq_getElem?_getD]
  by_cases a : u < lo
  · rw [if_neg (by omega), List.append_assoc, List.getElem?_append_left (by simp; omega), List.getElem?_take_of_lt a]
  · by_cases b : u < hi
    · rw [if_pos (by omega), List.append_assoc, List.getElem?_append_right (by simp; omega), List.getElem?_append_left (by simp; omega)]
      rw [List.getElem?_replicate_of_lt (by simp; omega)]; rfl
    · rw [if_neg (by omega), List.getElem?_append_right (by simp; omega), List.getElem?_drop]
      congr 2; simp; omega
theorem Inv.do0 {n g : Int} {w : Work} {t : Nat} {r : List Nat} {units : Int} (h : Inv n g w (t :: r) units) (hg : ¬ g < szT w t) : doE w t = 0 := by
  have ht : t ∈ t :: r := by simp
  have h1 := (h.gg.rng t ht).2
  have hok := h.ok t (h.gg.rng t ht).1
  unfold okT at hok
  refine doE0 (h.there ht) ?_
  rw [h.gr]; simp only [task, Int.toNat_natCast]
  unfold szT at hg
  have := h.fresh t ht (w.ts.getD t default).low.toNat (by omega) (by omega)
  rintro (q | q | q)
  · exact hg q
  · omega
  · rw [this] at q; cases q
theorem Inv.did {n g : Int} {w : Work} {t : Nat} {r : List Nat} {units : Int} (h : Inv n g w (t :: r) units) (hg : ¬ g < szT w t) :
    Inv n g (doW w t) r (units + szT w t) ∧ (doO w t = true ↔ r = []) ∧ (doW w t).ts.length = w.ts.length ∧ ((doW w t).ts.getD t default).high = (w.ts.getD t default).high ∧ ((doW w t).ts.getD t default).low = (w.ts.getD t default).low := by
  have ht : t ∈ t :: r := by simp
  have hE := h.do0 hg
  obtain ⟨e1, e2, _⟩ := do_ok hE
  rw [e1, e2]
  obtain ⟨htl, htw⟩ := h.gg.rng t ht
  have hok := h.ok t htl
  have hnd := h.nd
  simp only [List.nodup_cons] at hnd
  unfold okT at hok
  have hup := h.gg.up t htl
  have hr : ∀ x, x ∈ r → x < w.ts.length ∧ x ≠ t := fun x hx => ⟨(h.gg.rng x (by simp [hx])).1, fun e => hnd.1 (e ▸ hx)⟩
  have Ut : U w.ts (t :: r) t = 1 := U_one.2 (.inl (by simp))
  have Ut' : U w.ts r t = 0 := by unfold U; rw [if_neg]; rintro (q | q); exact hnd.1 q; omega
  have hU : ∀ x, x ≠ t → U w.ts r x = U w.ts (t :: r) x := fun x hx => by unfold U; simp only [List.mem_cons, hx, false_or]
  have g0 : G w.ts r (w.ts.getD t default).up := by
    refine ⟨h.gg.up, h.gg.up0, fun x hx => h.gg.rng x (by simp [hx]), fun i hi => ?_⟩
    rcases h.gg.node i hi with ⟨n1, n2, n3⟩ | ⟨m1, a, m2, m3, m4, m5, m6⟩
    · exact .inl ⟨n1, n2, fun e => n1 t htl e.symm⟩
    · refine .inr ⟨fun q => m1 (by simp [q]), a, m2, m3, m4, m5, ?_⟩
      rw [m6, if_neg (by omega)]
      by_cases c : (w.ts.getD t default).up = i
      · rw [if_pos c.symm]
        rcases m5 t htl c with q | q
        · subst q; rw [hU (t + 1) (by omega)]; omega
        · subst q; rw [hU a (by omega)]; omega
      · rw [if_neg (fun e => c e.symm), hU a (fun e => c (by rw [← e]; exact m3)), hU (a + 1) (fun e => c (by rw [← e]; exact m4))]
  obtain ⟨r1, r2, r3, r4⟩ := fin_G (w.ts.length + 1) w.ts r (w.ts.getD t default).up h.pos g0 (by omega) (by omega) (by omega) (fun e => by
    have := h.gg.up0 t htl e; subst this; exact Ut')
  have hd : Pl.did w t = (⟨(fin (w.ts.length + 1) w.ts (w.ts.getD t default).up).1, w.grain, marked w.done (w.ts.getD t default).low.toNat (w.ts.getD t default).high.toNat⟩, (fin (w.ts.length + 1) w.ts (w.ts.getD t default).up).2) := by
    simp only [Pl.did, task, Int.toNat_natCast]
  rw [hd]
  generalize fin (w.ts.length + 1) w.ts (w.ts.getD t default).up = F at *
  obtain ⟨ts', o⟩ := F
  dsimp only at *
  have hml := marked_len (d := w.done) (lo := (w.ts.getD t default).low.toNat) (hi := (w.ts.getD t default).high.toNat) (by omega) (by omega)
  have hmg := marked_get (d := w.done) (lo := (w.ts.getD t default).low.toNat) (hi := (w.ts.getD t default).high.toNat) (by omega) (by omega)
  have hsz : ∀ (d : List Bool) (x : Nat), szT ⟨ts', w.grain, d⟩ x = szT w x := fun d x => by simp only [szT]; rw [(r3 x).1, (r3 x).2.1]
  refine ⟨⟨h.c, h.gr, by dsimp only; rw [hml]; exact h.dl, by have := h.pos; dsimp only; omega, fun i hi => ?_, r1, hnd.2, fun x hx u hu1 hu2 => ?_, fun x hx y hy hne => ?_, fun u hu => ?_, ?_, ?_⟩, r4, r2, (r3 t).2.1, (r3 t).1⟩
  · dsimp only at *
    rw [hml]
    have hi' : i < w.ts.length := by omega
    have o1 := h.ok i hi'
    unfold okT at *
    rw [(r3 i).1, (r3 i).2.1, (r3 i).2.2]
    have u1 := (r1.up i hi).2.2
    have u2 : (ts'.getD i default).wait ≤ 2 := by
      rcases r1.node i hi with ⟨_, q, _⟩ | ⟨_, a, _, _, _, _, q⟩
      · omega
      · rw [if_neg (by omega)] at q
        have b1 := U_01 ts' r a
        have b2 := U_01 ts' r (a + 1)
        omega
    omega
  · dsimp only at *
    rw [(r3 x).1] at hu1
    rw [(r3 x).2.1] at hu2
    have d1 := h.disj x (by simp [hx]) t ht (hr x hx).2
    rw [hmg, if_neg (by omega)]
    exact h.fresh x (by simp [hx]) u hu1 hu2
  · dsimp only
    rw [(r3 x).1, (r3 y).1, (r3 x).2.1, (r3 y).2.1]
    exact h.disj x (by simp [hx]) y (by simp [hy]) hne
  · dsimp only at *
    rw [hml] at hu
    rw [hmg]
    by_cases e : (w.ts.getD t default).low.toNat ≤ u ∧ u < (w.ts.getD t default).high.toNat
    · exact .inl (by rw [if_pos e])
    · rw [if_neg e]
      rcases h.cover u hu with q | ⟨x, hx, q1, q2⟩
      · exact .inl q
      · rcases List.mem_cons.1 hx with rfl | hx
        · exact absurd (by omega) e
        · exact .inr ⟨x, hx, by rw [(r3 x).1]; exact q1, by rw [(r3 x).2.1]; exact q2⟩
  · dsimp only
    rw [tot_congr (h := fun x => cntT (szT w x) g - 1) r (fun x _ => by rw [hsz]), r2]
    have e1 := h.phi
    simp only [tot] at e1
    have c1 := (h.sz ht).2.2
    have c2 := cntL_base c1 (by omega)
    have c3 := cntT_eq c1
    omega
  · rw [tot_congr (h := szT w) r (fun x _ => hsz _ x)]
    have e1 := h.un
    simp only [tot] at e1
    omega
theorem Inv.ends {n g : Int} {w : Work} {units : Int} (h : Inv n g w [] units) : units = n ∧ (w.ts.length : Int) = cntT n g ∧ (∀ u : Nat, u < w.done.length → w.done.getD u false = true) ∧ (∀ i, i < w.ts.length → (w.ts.getD i default).wait = 0) := by
  refine ⟨by have := h.un; simp only [tot] at this; omega, by have := h.phi; simp only [tot] at this; omega, fun u hu => ?_, fun i hi => ?_⟩
  · rcases h.cover u hu with q | ⟨x, hx, _⟩
    · exact q
    · cases hx
  · have h1 := (h.gg.up i hi).2.2
    rcases Int.lt_or_eq_of_le h1 with q | q
    · exact absurd rfl (h.gg.some_open w.ts.length i (by omega) hi (U_one.2 (.inr q)))
    · exact q.symm
theorem Inv.begins {n g : Int} (h : cnt n g) : Inv n g (beginW n g) [0] 0 := by
  have h' := h
  unfold cnt at h'
  have e : beginW n g = ⟨[⟨0, n, -1, 0⟩], g, List.replicate n.toNat false⟩ := by rw [beginW, if_pos h]
  rw [e]
  have one : ∀ i : Nat, i < 1 → i = 0 := fun i hi => by omega
  refine ⟨h, rfl, by simp; omega, by simp, fun i hi => ?_, ⟨fun i hi => ?_, fun i hi _ => one i hi, fun t ht => ?_, fun i hi => ?_⟩, by simp, fun t ht u _ _ => ?_, fun t ht t' ht' hne => ?_, fun u hu => ?_, ?_, ?_⟩
  · have := one i hi; subst this; simp [okT]; omega
  · have := one i hi; subst this; simp
  · simp at ht; subst ht; simp
  · have := one i hi; subst this
    refine .inl ⟨fun j hj => ?_, by simp, by omega⟩
    have := one j hj; subst this; simp
  · simp [List.getD_eq_getElem?_getD, List.getElem?_replicate]; split <;> rfl
  · simp at ht ht'; omega
  · refine .inr ⟨0, by simp, by simp, ?_⟩
    simp at hu ⊢; omega
  · simp [tot, szT]; omega
  · simp [tot, szT]
end Go.Pl
