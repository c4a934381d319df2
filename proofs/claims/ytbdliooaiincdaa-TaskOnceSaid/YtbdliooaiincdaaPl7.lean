/-
  Plain data: work parted and done in any order comes to its end.
-/
import Derived.Test.YtbdliooaiincdaaPl6
set_option linter.unusedSimpArgs false
set_option linter.unusedVariables false
namespace Go.Pl
def tot (f : Nat → Int) : List Nat → Int
  | [] => 0
  | t :: r => f t + tot f r
theorem tot_app (f : Nat → Int) : ∀ a b, tot f (a ++ b) = tot f a + tot f b
  | [], b => by simp [tot]
  | x :: a, b => by simp only [List.cons_append, tot, tot_app f a b]; omega
theorem tot_congr {f h : Nat → Int} : ∀ (l : List Nat), (∀ t, t ∈ l → f t = h t) → tot f l = tot h l
  | [], _ => rfl
  | x :: l, q => by simp only [tot]; rw [q x (by simp), tot_congr l (fun t ht => q t (by simp [ht]))]
theorem tot_nn {f : Nat → Int} : ∀ (l : List Nat), (∀ t, t ∈ l → 0 ≤ f t) → 0 ≤ tot f l
  | [], _ => by simp [tot]
  | x :: l, q => by
    have h1 := q x (by simp)
    have h2 := tot_nn l (fun t ht => q t (by simp [ht]))
    simp only [tot]; omega
theorem tot_perm {f : Nat → Int} {a b : List Nat} (h : a.Perm b) : tot f a = tot f b := by
  induction h with
  | nil => rfl
  | cons x _ ih => simp only [tot, ih]
  | swap x y l => simp only [tot]; omega
  | trans _ _ ih1 ih2 => rw [ih1, ih2]
def szT (w : Work) (t : Nat) : Int := (w.ts.getD t default).high - (w.ts.getD t default).low
/-- work, whose tasks in a list are open, and as many units of which are done as are told -/
structure Inv (n g : Int) (w : Work) (op : List Nat) (units : Int) : Prop where
  c : cnt n g
  gr : w.grain = g
  dl : (w.done.length : Int) = n
  pos : 0 < w.ts.length
  ok : ∀ i, i < w.ts.length → okT w.done.length i (w.ts.getD i default)
  gg : G w.ts op (-1)
  nd : op.Nodup
  fresh : ∀ t, t ∈ op → ∀ u : Nat, (w.ts.getD t default).low ≤ u → u < (w.ts.getD t default).high → w.done.getD u false = false
  disj : ∀ t, t ∈ op → ∀ t', t' ∈ op → t ≠ t' → (w.ts.getD t default).high ≤ (w.ts.getD t' default).low ∨ (w.ts.getD t' default).high ≤ (w.ts.getD t default).low
  cover : ∀ u : Nat, u < w.done.length → w.done.getD u false = true ∨ ∃ t, t ∈ op ∧ (w.ts.getD t default).low ≤ u ∧ u < (w.ts.getD t default).high
  phi : (w.ts.length : Int) + tot (fun t => cntT (szT w t) g - 1) op = cntT n g
  un : units + tot (szT w) op = n
theorem U_perm {ts : List Task} {a b : List Nat} (h : a.Perm b) (j : Nat) : U ts a j = U ts b j := by unfold U; simp only [h.mem_iff]
theorem G.perm {ts : List Task} {a b : List Nat} {p : Int} (h : G ts a p) (q : a.Perm b) : G ts b p :=
  ⟨h.up, h.up0, fun t ht => h.rng t (q.mem_iff.2 ht), fun i hi => by
    have := h.node i hi
    simp only [U_perm q, q.mem_iff] at this
    exact this⟩
theorem Inv.perm {n g : Int} {w : Work} {a b : List Nat} {units : Int} (h : Inv n g w a units) (q : a.Perm b) : Inv n g w b units :=
  ⟨h.c, h.gr, h.dl, h.pos, h.ok, h.gg.perm q, q.nodup_iff.1 h.nd, fun t ht => h.fresh t (q.mem_iff.2 ht), fun t ht t' ht' => h.disj t (q.mem_iff.2 ht) t' (q.mem_iff.2 ht'),
    fun u hu => by have := h.cover u hu; simp only [q.mem_iff] at this; exact this, by rw [← tot_perm q]; exact h.phi, by rw [← tot_perm q]; exact h.un⟩
theorem Inv.sz {n g : Int} {w : Work} {op : List Nat} {units : Int} (h : Inv n g w op units) {t : Nat} (ht : t ∈ op) : 1 ≤ szT w t ∧ szT w t ≤ n ∧ cnt (szT w t) g := by
  have h1 := h.ok t (h.gg.rng t ht).1
  have h2 := h.c
  have h3 := h.dl
  unfold okT at h1; unfold cnt at *; unfold szT
  omega
theorem Inv.len {n g : Int} {w : Work} {op : List Nat} {units : Int} (h : Inv n g w op units) : (w.ts.length : Int) ≤ cntT n g ∧ cntT n g ≤ 1999 := by
  have h1 := tot_nn (f := fun t => cntT (szT w t) g - 1) op (fun t ht => by
    have h2 := (h.sz ht).2.2
    have h3 := cntL_le h2
    have h4 := cntT_eq h2
    show 0 ≤ cntT (szT w t) g - 1
    omega)
  have h2 := h.phi
  have h3 := cntL_le h.c
  have h4 := cntT_eq h.c
  have h5 := h.c
  unfold cnt at h5
  omega
theorem Inv.units {n g : Int} {w : Work} {op : List Nat} {units : Int} (h : Inv n g w op units) : units ≤ n := by
  have h1 := tot_nn (f := szT w) op (fun t ht => by have := (h.sz ht).1; omega)
  have h2 := h.un
  omega
theorem Inv.right {n g : Int} {w : Work} {op : List Nat} {units : Int} (h : Inv n g w op units) : right w := by
  have := h.len
  have := h.pos
  refine ⟨by rw [h.gr, h.dl]; exact h.c, by omega, by omega, h.ok⟩
theorem Inv.there {n g : Int} {w : Work} {op : List Nat} {units : Int} (h : Inv n g w op units) {t : Nat} (ht : t ∈ op) : there w t = 0 :=
  there_of h.right ⟨by omega, by have := (h.gg.rng t ht).1; omega⟩
theorem Inv.great {n g : Int} {w : Work} {op : List Nat} {units : Int} (h : Inv n g w op units) {t : Nat} (ht : t ∈ op) : great w t ↔ g < szT w t := by
  unfold Pl.great szT; rw [h.gr]; simp only [task, Int.toNat_natCast]
  exact ⟨fun q => q.2, fun q => ⟨h.there ht, q⟩⟩
theorem cntT_rec {n g : Int} (h : cnt n g) (h2 : g < n) : cntT n g = 1 + cntT (n / 2) g + cntT (n - n / 2) g := by
  obtain ⟨h3, h4⟩ := cnt_half h h2
  rw [cntT_eq h, cntT_eq h3, cntT_eq h4, cntL_rec h h2]; omega
/-! ## Parting -/
theorem Inv.part0 {n g : Int} {w : Work} {t : Nat} {r : List Nat} {units : Int} (h : Inv n g w (t :: r) units) (hg : g < szT w t) : partE w t = 0 := by
  have ht : t ∈ t :: r := by simp
  have h1 := (h.gg.rng t ht).2
  have h2 := (h.sz ht).2.2
  have h3 := cntT_rec h2 hg
  obtain ⟨h4, h5⟩ := cnt_half h2 hg
  have l4 := cntL_le h4
  have l5 := cntL_le h5
  have t4 := cntT_eq h4
  have t5 := cntT_eq h5
  have h6 := tot_nn (f := fun t => cntT (szT w t) g - 1) r (fun x hx => by
    have h2 := (h.sz (t := x) (by simp [hx])).2.2
    have h3 := cntL_le h2
    have h4 := cntT_eq h2
    show 0 ≤ cntT (szT w x) g - 1
    omega)
  have h7 := h.phi
  simp only [tot] at h7
  have h8 := h.len.2
  refine partE0 (h.there ht) ?_ (by omega)
  rw [h.gr]; simp only [task, Int.toNat_natCast]
  unfold szT at hg
  omega
theorem Inv.part {n g : Int} {w : Work} {t : Nat} {r : List Nat} {units : Int} (h : Inv n g w (t :: r) units) (hg : g < szT w t) : Inv n g (partW w t) (r ++ [w.ts.length, w.ts.length + 1]) units := by
  have ht : t ∈ t :: r := by simp
  have hE := h.part0 hg
  rw [(part_ok hE).1]
  have htl := (h.gg.rng t ht).1
  have htw := (h.gg.rng t ht).2
  have hsz := h.sz ht
  have hok := h.ok t htl
  have hnd := h.nd
  simp only [List.nodup_cons] at hnd
  -- the rows
  have hts : (parted w t).ts = w.ts.set t { w.ts.getD t default with wait := 2 } ++ [⟨(w.ts.getD t default).low, mid (w.ts.getD t default), t, 0⟩, ⟨mid (w.ts.getD t default), (w.ts.getD t default).high, t, 0⟩] := by simp [parted, task]
  have hdn : (parted w t).done = w.done := rfl
  have hgr : (parted w t).grain = w.grain := rfl
  generalize hTT : (parted w t).ts = ts' at *
  have hl : ts'.length = w.ts.length + 2 := by rw [hts]; simp
  have gt : ts'.getD t default = { w.ts.getD t default with wait := 2 } := by
    rw [hts, List.getD_eq_getElem?_getD, List.getElem?_append_left (by simpa using htl), List.getElem?_set_self htl]; rfl
  have gn : ∀ i, i < w.ts.length → i ≠ t → ts'.getD i default = w.ts.getD i default := fun i hi hne => by
    rw [hts, List.getD_eq_getElem?_getD, List.getElem?_append_left (by simpa using hi), List.getElem?_set_ne (fun e => hne e.symm), ← List.getD_eq_getElem?_getD]
  have ga : ts'.getD w.ts.length default = ⟨(w.ts.getD t default).low, mid (w.ts.getD t default), t, 0⟩ := by
    rw [hts, List.getD_eq_getElem?_getD, List.getElem?_append_right (by simp)]; simp
  have gb : ts'.getD (w.ts.length + 1) default = ⟨mid (w.ts.getD t default), (w.ts.getD t default).high, t, 0⟩ := by
    rw [hts, List.getD_eq_getElem?_getD, List.getElem?_append_right (by simp)]; simp
  have hmid : mid (w.ts.getD t default) = (w.ts.getD t default).low + ((w.ts.getD t default).high - (w.ts.getD t default).low) / 2 := rfl
  have hc := h.c
  have hgs : g < (w.ts.getD t default).high - (w.ts.getD t default).low := hg
  have hc' : 1 ≤ g := by unfold cnt at hc; omega
  unfold okT at hok
  have cases4 : ∀ i, i < w.ts.length + 2 → i = t ∨ (i < w.ts.length ∧ i ≠ t) ∨ i = w.ts.length ∨ i = w.ts.length + 1 := fun i hi => by omega
  have hup : ∀ i, i < w.ts.length → (ts'.getD i default).up = (w.ts.getD i default).up ∧ (ts'.getD i default).low = (w.ts.getD i default).low ∧ (ts'.getD i default).high = (w.ts.getD i default).high := fun i hi => by
    by_cases e : i = t
    · subst e; rw [gt]; exact ⟨rfl, rfl, rfl⟩
    · rw [gn i hi e]; exact ⟨rfl, rfl, rfl⟩
  have hr : ∀ x, x ∈ r → x < w.ts.length ∧ x ≠ t := fun x hx => ⟨(h.gg.rng x (by simp [hx])).1, fun e => hnd.1 (e ▸ hx)⟩
  have hm : ∀ x, x ∈ r ++ [w.ts.length, w.ts.length + 1] ↔ x ∈ r ∨ x = w.ts.length ∨ x = w.ts.length + 1 := fun x => by simp
  have htn : (∀ j, j < w.ts.length → (w.ts.getD j default).up ≠ t) := by
    rcases h.gg.node t htl with ⟨q, _, _⟩ | ⟨q, _⟩
    · exact q
    · exact absurd ht q
  have hU : ∀ x, x < w.ts.length → U ts' (r ++ [w.ts.length, w.ts.length + 1]) x = U w.ts (t :: r) x := fun x hx => by
    by_cases e : x = t
    · subst e
      exact (U_one.2 (.inr (by rw [gt]; exact (by omega : (0:Int) < 2)))).trans (U_one.2 (.inl (by simp))).symm
    · unfold U
      rw [gn x hx e]
      have : (x ∈ r ++ [w.ts.length, w.ts.length + 1]) ↔ x ∈ t :: r := by
        rw [hm]; simp only [List.mem_cons]
        constructor
        · rintro (q | q | q)
          · exact .inr q
          · omega
          · omega
        · rintro (q | q)
          · exact absurd q e
          · exact .inl q
      simp only [this]
  have szr : ∀ x, x ∈ r → szT ⟨ts', w.grain, w.done⟩ x = szT w x := fun x hx => by
    unfold szT; rw [gn x (hr x hx).1 (hr x hx).2]
  have hpw : parted w t = ⟨ts', w.grain, w.done⟩ := by rw [← hTT]; rfl
  rw [hpw]
  refine ⟨h.c, h.gr, h.dl, by show 0 < ts'.length; omega, fun i hi => ?_, ⟨fun i hi => ?_, fun i hi he => ?_, fun x hx => ?_, fun i hi => ?_⟩, ?_, fun x hx u hu1 hu2 => ?_, fun x hx y hy hne => ?_, fun u hu => ?_, ?_, ?_⟩
  · have hi' : i < w.ts.length + 2 := by rw [← hl]; exact hi
    show okT w.done.length i (ts'.getD i default)
    unfold okT
    rcases cases4 i hi' with rfl | ⟨h1, h2⟩ | rfl | rfl
    · rw [gt]; dsimp only; omega
    · rw [gn i h1 h2]; exact h.ok i h1
    · rw [ga]; dsimp only; omega
    · rw [gb]; dsimp only; omega
  · have hi' : i < w.ts.length + 2 := by rw [← hl]; exact hi
    show -1 ≤ (ts'.getD i default).up ∧ (ts'.getD i default).up < i ∧ 0 ≤ (ts'.getD i default).wait
    rcases cases4 i hi' with rfl | ⟨h1, h2⟩ | rfl | rfl
    · rw [gt]; dsimp only; omega
    · rw [gn i h1 h2]; exact h.gg.up i h1
    · rw [ga]; dsimp only; omega
    · rw [gb]; dsimp only; omega
  · have hi' : i < w.ts.length + 2 := by rw [← hl]; exact hi
    change (ts'.getD i default).up = -1 at he
    rcases cases4 i hi' with rfl | ⟨h1, h2⟩ | rfl | rfl
    · rw [gt] at he; exact h.gg.up0 i htl he
    · rw [gn i h1 h2] at he; exact h.gg.up0 i h1 he
    · rw [ga] at he; dsimp only at he; omega
    · rw [gb] at he; dsimp only at he; omega
  · show x < ts'.length ∧ (ts'.getD x default).wait = 0
    rcases (hm x).1 hx with q | q | q
    · obtain ⟨h1, h2⟩ := hr x q
      rw [gn x h1 h2]; exact ⟨by omega, (h.gg.rng x (by simp [q])).2⟩
    · subst q; rw [ga]; exact ⟨by omega, rfl⟩
    · subst q; rw [gb]; exact ⟨by omega, rfl⟩
  · have hi' : i < w.ts.length + 2 := by rw [← hl]; exact hi
    show ((∀ j, j < ts'.length → (ts'.getD j default).up ≠ i) ∧ (ts'.getD i default).wait = 0 ∧ (i : Int) ≠ -1) ∨ (i ∉ r ++ [w.ts.length, w.ts.length + 1] ∧ ∃ a, a + 1 < ts'.length ∧ (ts'.getD a default).up = i ∧ (ts'.getD (a + 1) default).up = i ∧ (∀ j, j < ts'.length → (ts'.getD j default).up = i → j = a ∨ j = a + 1) ∧
      (ts'.getD i default).wait = U ts' (r ++ [w.ts.length, w.ts.length + 1]) a + U ts' (r ++ [w.ts.length, w.ts.length + 1]) (a + 1) + (if (i : Int) = -1 then 1 else 0))
    rw [hl]
    have hold : ∀ j, j < w.ts.length + 2 → j < w.ts.length ∨ (ts'.getD j default).up = t := fun j hj => by
      rcases cases4 j hj with rfl | ⟨h1, h2⟩ | rfl | rfl
      · exact .inl htl
      · exact .inl h1
      · rw [ga]; exact .inr rfl
      · rw [gb]; exact .inr rfl
    rcases cases4 i hi' with rfl | ⟨h1, h2⟩ | q
    · refine .inr ⟨fun q => ?_, w.ts.length, by omega, by rw [ga], by rw [gb], fun j hj hj' => ?_, ?_⟩
      · rcases (hm i).1 q with q | q | q
        · exact (hr i q).2 rfl
        · omega
        · omega
      · rcases cases4 j hj with rfl | ⟨h1, h2⟩ | rfl | rfl
        · rw [(hup j htl).1] at hj'; exact absurd hj' (htn j htl)
        · rw [gn j h1 h2] at hj'; exact absurd hj' (htn j h1)
        · exact .inl rfl
        · exact .inr rfl
      · rw [gt, U_one.2 (.inl (by simp)), U_one.2 (.inl (by simp)), if_neg (by omega)]; rfl
    · rcases h.gg.node i h1 with ⟨n1, n2, n3⟩ | ⟨m1, a, m2, m3, m4, m5, m6⟩
      · refine .inl ⟨fun j hj => ?_, by rw [gn i h1 h2]; exact n2, n3⟩
        rcases hold j hj with q | q
        · rw [(hup j q).1]; exact n1 j q
        · rw [q]; omega
      · refine .inr ⟨fun q => ?_, a, by omega, by rw [(hup a (by omega)).1]; exact m3, by rw [(hup (a + 1) m2).1]; exact m4, fun j hj hj' => ?_, ?_⟩
        · rcases (hm i).1 q with q | q | q
          · exact m1 (by simp [q])
          · omega
          · omega
        · rcases hold j hj with q | q
          · rw [(hup j q).1] at hj'; exact m5 j q hj'
          · rw [q] at hj'; omega
        · rw [gn i h1 h2, hU a (by omega), hU (a + 1) m2]; exact m6
    · refine .inl ⟨fun j hj => ?_, ?_, by omega⟩
      · rcases hold j hj with q' | q'
        · rw [(hup j q').1]
          have := h.gg.up j q'
          omega
        · rw [q']; omega
      · rcases q with rfl | rfl
        · rw [ga]
        · rw [gb]
  · rw [List.nodup_append]
    refine ⟨hnd.2, by simp, fun a ha b hb => ?_⟩
    have := (hr a ha).1
    simp at hb; omega
  · change (ts'.getD x default).low ≤ u at hu1
    change u < (ts'.getD x default).high at hu2
    show w.done.getD u false = false
    rcases (hm x).1 hx with q | q | q
    · rw [gn x (hr x q).1 (hr x q).2] at hu1 hu2; exact h.fresh x (by simp [q]) u hu1 hu2
    · subst q; rw [ga] at hu1 hu2; dsimp only at hu1 hu2; exact h.fresh t ht u (by omega) (by omega)
    · subst q; rw [gb] at hu1 hu2; dsimp only at hu1 hu2; exact h.fresh t ht u (by omega) (by omega)
  · show (ts'.getD x default).high ≤ (ts'.getD y default).low ∨ (ts'.getD y default).high ≤ (ts'.getD x default).low
    rcases (hm x).1 hx with q | q | q
    · rw [gn x (hr x q).1 (hr x q).2]
      have d1 := h.disj x (by simp [q]) t ht (hr x q).2
      rcases (hm y).1 hy with q' | q' | q'
      · rw [gn y (hr y q').1 (hr y q').2]; exact h.disj x (by simp [q]) y (by simp [q']) hne
      · subst q'; rw [ga]; dsimp only; omega
      · subst q'; rw [gb]; dsimp only; omega
    · subst q; rw [ga]; dsimp only
      rcases (hm y).1 hy with q' | q' | q'
      · have d1 := h.disj y (by simp [q']) t ht (hr y q').2
        rw [gn y (hr y q').1 (hr y q').2]; omega
      · exact absurd q'.symm hne
      · subst q'; rw [gb]; dsimp only; omega
    · subst q; rw [gb]; dsimp only
      rcases (hm y).1 hy with q' | q' | q'
      · have d1 := h.disj y (by simp [q']) t ht (hr y q').2
        rw [gn y (hr y q').1 (hr y q').2]; omega
      · subst q'; rw [ga]; dsimp only; omega
      · exact absurd q'.symm hne
  · show w.done.getD u false = true ∨ ∃ x, x ∈ r ++ [w.ts.length, w.ts.length + 1] ∧ (ts'.getD x default).low ≤ u ∧ u < (ts'.getD x default).high
    rcases h.cover u hu with q | ⟨x, hx, q1, q2⟩
    · exact .inl q
    · right
      rcases List.mem_cons.1 hx with rfl | hx
      · by_cases e : (u : Int) < mid (w.ts.getD x default)
        · exact ⟨w.ts.length, by simp, by rw [ga]; exact q1, by rw [ga]; exact e⟩
        · exact ⟨w.ts.length + 1, by simp, by rw [gb]; dsimp only; omega, by rw [gb]; exact q2⟩
      · exact ⟨x, by simp [hx], by rw [gn x (hr x hx).1 (hr x hx).2]; exact q1, by rw [gn x (hr x hx).1 (hr x hx).2]; exact q2⟩
  · show (ts'.length : Int) + tot (fun x => cntT (szT ⟨ts', w.grain, w.done⟩ x) g - 1) (r ++ [w.ts.length, w.ts.length + 1]) = cntT n g
    have e1 := h.phi
    have e2 := cntT_rec hsz.2.2 hg
    simp only [tot] at e1
    rw [tot_app, tot_congr (h := fun x => cntT (szT w x) g - 1) r (fun x hx => by rw [szr x hx]), hl]
    simp only [tot]
    rw [show szT ⟨ts', w.grain, w.done⟩ w.ts.length = szT w t / 2 by simp only [szT]; rw [ga]; dsimp only; omega, show szT ⟨ts', w.grain, w.done⟩ (w.ts.length + 1) = szT w t - szT w t / 2 by simp only [szT]; rw [gb]; dsimp only; omega]
    omega
  · have e1 := h.un
    simp only [tot] at e1
    rw [tot_app, tot_congr (h := szT w) r (fun x hx => szr x hx)]
    simp only [tot]
    rw [show szT ⟨ts', w.grain, w.done⟩ w.ts.length = szT w t / 2 by simp only [szT]; rw [ga]; dsimp only; omega, show szT ⟨ts', w.grain, w.done⟩ (w.ts.length + 1) = szT w t - szT w t / 2 by simp only [szT]; rw [gb]; dsimp only; omega]
    omega
end Go.Pl
