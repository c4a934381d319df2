/-
  The abstract machine, thirty-first part: such a function, called.
-/
import Derived.Test.YtbdliooaiincdaaAm30
namespace Go.Am
open Go.RowKit

theorem sgm_inj {σ : List Nat} {f i j : Nat} (hd : σ.Nodup) (hi : i % 8 = 7) (hj : j % 8 = 7) (hi2 : i / 8 < σ.length) (hj2 : j / 8 < σ.length) (h : sgm σ f i = sgm σ f j) : i = j := by
  simp only [sgm, hi, hj, if_true] at h
  have e1 : σ.getD (i / 8) 0 = σ[i / 8] := by simp [hi2]
  have e2 : σ.getD (j / 8) 0 = σ[j / 8] := by simp [hj2]
  rw [e1, e2] at h
  have hp := List.pairwise_iff_getElem.1 hd
  rcases Nat.lt_trichotomy (i / 8) (j / 8) with h1 | h1 | h1
  · exact absurd h (hp _ _ hi2 hj2 h1)
  · omega
  · exact absurd h.symm (hp _ _ hj2 hi2 h1)

theorem setHp_fresh {σ : List Nat} {f : Nat} {h : Nat → Option Blk} (g : Nat × Blk → Option Blk) : ∀ (l : List (Nat × Blk)) (id : Nat), (∀ q, q ∈ l → q.1 < 7) →
    (∀ j, j < 7 → id = f + j → PS.setHp h (l.map fun q => (f + q.1, g q)) id = match l.find? (fun q => q.1 == j) with | some q => g q | none => h id) ∧
    ((∀ j, j < 7 → id ≠ f + j) → PS.setHp h (l.map fun q => (f + q.1, g q)) id = h id)
  | [], id, _ => ⟨fun j _ _ => rfl, fun _ => rfl⟩
  | q :: l, id, hl => by
    have ih := setHp_fresh (σ := σ) (f := f) (h := h) g l id (fun p hp => hl p (by simp [hp]))
    have hq := hl q (by simp)
    refine ⟨fun j hj e => ?_, fun hno => ?_⟩
    · simp only [List.map_cons, PS.setHp, List.find?_cons]
      by_cases e1 : q.1 = j
      · subst e1; simp [e]
      · have : (q.1 == j) = false := by simp [e1]
        rw [if_neg (by omega), this]
        exact ih.1 j hj e
    · simp only [List.map_cons, PS.setHp]
      rw [if_neg (hno q.1 hq)]
      exact ih.2 hno

theorem lkp_find : ∀ (l : List (Nat × Blk)) (j : Nat), lkp l j = (l.find? fun q => q.1 == j).map (·.2)
  | [], j => rfl
  | (k, x) :: l, j => by
    simp only [lkp, List.find?_cons]
    by_cases e : j = k
    · subst e; simp
    · have : (k == j) = false := by simp; exact fun h => e h.symm
      rw [if_neg e, this]; exact lkp_find l j

theorem find_filter (l : List (Nat × Blk)) (j : Nat) (hj : j % 8 ≠ 7) : (l.filter fun q => q.1 % 8 != 7).find? (fun q => q.1 == j) = l.find? fun q => q.1 == j := by
  rw [List.find?_filter]
  congr 1; funext q
  by_cases e : q.1 = j
  · subst e; simp [hj]
  · have : (q.1 == j) = false := by simp [e]
    simp [this]

section
variable {σ same : List Nat} {f : Nat} {hp hp' : List (Nat × Blk)} {h : Nat → Option Blk}

theorem hpsOf_fresh (hl : ∀ q, q ∈ hp' → q.1 % 8 ≠ 7 → q.1 < 7) : ∀ (r : List (Nat × Blk)), (∀ q, q ∈ r → ∀ j, j < 7 → sgm σ f q.1 ≠ f + j) → ∀ j, j < 7 → PS.setHp h (hpsOf σ f same hp' r) (f + j) = match lkp hp' j with | some b => some (b.ren (sgm σ f)) | none => h (f + j)
  | [], _, j, hj => by
    have := (setHp_fresh (σ := σ) (f := f) (h := h) (fun q => some (q.2.ren (sgm σ f))) (hp'.filter fun q => q.1 % 8 != 7) (f + j) (fun q hq => by
      have h1 := List.mem_filter.1 hq
      exact hl q h1.1 (by simpa using h1.2))).1 j hj rfl
    simp only [hpsOf]
    rw [this, find_filter _ _ (by omega), lkp_find]
    cases hp'.find? (fun q => q.1 == j) <;> rfl
  | (i, b) :: r, hr, j, hj => by
    have ih := hpsOf_fresh hl r (fun q hq => hr q (by simp [hq])) j hj
    simp only [hpsOf]
    split
    · exact ih
    · simp only [PS.setHp]
      rw [if_neg (fun e => hr (i, b) (by simp) j hj e.symm)]
      exact ih
theorem hpsOf_other (hl : ∀ q, q ∈ hp' → q.1 % 8 ≠ 7 → q.1 < 7) {id : Nat} (hno : ∀ j, j < 7 → id ≠ f + j) : ∀ (r : List (Nat × Blk)), (∀ q, q ∈ r → same.contains q.1 = false → sgm σ f q.1 ≠ id) → PS.setHp h (hpsOf σ f same hp' r) id = h id
  | [], _ => by
    simp only [hpsOf]
    exact (setHp_fresh (σ := σ) (f := f) (h := h) (fun q => some (q.2.ren (sgm σ f))) (hp'.filter fun q => q.1 % 8 != 7) id (fun q hq => by
      have h1 := List.mem_filter.1 hq
      exact hl q h1.1 (by simpa using h1.2))).2 hno
  | (i, b) :: r, hr => by
    have ih := hpsOf_other hl hno r (fun q hq => hr q (by simp [hq]))
    simp only [hpsOf]
    split
    · exact ih
    · rename_i e
      simp only [PS.setHp]
      rw [if_neg (fun e1 => hr (i, b) (by simp) (by simpa using e) e1.symm)]
      exact ih
theorem hpsOf_old (hl : ∀ q, q ∈ hp' → q.1 % 8 ≠ 7 → q.1 < 7) {i : Nat} (hi : same.contains i = false) (hinj : ∀ q, q ∈ hp → sgm σ f q.1 = sgm σ f i → q.1 = i) : ∀ (r : List (Nat × Blk)), (∀ q, q ∈ r → q ∈ hp) → (∃ b, (i, b) ∈ r) →
    PS.setHp h (hpsOf σ f same hp' r) (sgm σ f i) = (lkp hp' i).map (Blk.ren (sgm σ f))
  | [], _, hm => by obtain ⟨b, hb⟩ := hm; cases hb
  | (j, c) :: r, hr, hm => by
    simp only [hpsOf]
    split
    · rename_i e
      refine hpsOf_old hl hi hinj r (fun q hq => hr q (by simp [hq])) ?_
      obtain ⟨b, hb⟩ := hm
      rcases List.mem_cons.1 hb with hb | hb
      · injection hb with h1 h2; subst h1; rw [hi] at e; cases e
      · exact ⟨b, hb⟩
    · simp only [PS.setHp]
      by_cases e : sgm σ f i = sgm σ f j
      · rw [if_pos e]
        have := hinj (j, c) (hr _ (by simp)) e.symm
        simp only at this
        rw [this]
      · rw [if_neg e]
        refine hpsOf_old hl hi hinj r (fun q hq => hr q (by simp [hq])) ?_
        obtain ⟨b, hb⟩ := hm
        rcases List.mem_cons.1 hb with hb | hb
        · injection hb with h1 h2; subst h1; exact absurd rfl e
        · exact ⟨b, hb⟩
end

theorem SameIn.get {hp hp' : List (Nat × Blk)} : ∀ {l : List Nat}, SameIn hp hp' l → ∀ i, l.contains i = true → lkp hp' i = lkp hp i
  | [], _, i, h => by simp at h
  | j :: r, hs, i, h => by
    simp only [List.contains_cons, Bool.or_eq_true, beq_iff_eq] at h
    rcases h with rfl | h
    · exact hs.1
    · exact hs.2.get i h

theorem callsA_of_hcall {P : Program} {g : FuncId} {xs ys : List AV} {hp hp' : List (Nat × Blk)} {r : AV} (h : HCall P g xs hp r hp') {σ same : List Nat} {f : Nat} {V : PS} {dst : Option Nat}
    (hn : namesOk σ same hp hp' = true) (hsame : SameIn hp hp' same) (hB : BlksOk hp hp) (hB' : BlksOk hp' hp') (hX : ∀ n, n ∈ AV.namess xs → Nm hp n) (hR : ∀ n, n ∈ r.names → Nm hp' n)
    (hys : ys = AV.rens (sgm σ f) xs) (hV : HpIn V σ f hp) : CallsA P g ys f V dst ⟨r.ren (sgm σ f), hpsOf σ f same hp' hp⟩ := by
  intro C U s ρ a w vs hd hf hVs hs hsz hr
  subst hys
  obtain ⟨fn, c, hfn, hbody, hlen, hawp⟩ := h
  simp only [namesOk, Bool.and_eq_true, List.all_eq_true, decide_eq_true_eq, beq_iff_eq, Bool.or_eq_true] at hn
  obtain ⟨⟨⟨hn1, hn2⟩, hnd⟩, hn3⟩ := hn
  let τ := sgm σ f
  -- the caller's names of what is handed over
  have hkey : ∀ i b, lkp hp i = some b → i % 8 = 7 ∧ i / 8 < σ.length ∧ s.hp (τ i) = some (b.ren τ) := fun i b hi => by
    have h1 := hn1 _ (lkp_mem hp i b hi)
    exact ⟨h1.1, h1.2, hVs _ _ (hV.get i b hi)⟩
  have hmem : ∀ q, q ∈ hp → ∃ b, lkp hp q.1 = some b := fun q hq => by
    have : (hp.find? fun p => p.1 == q.1).isSome = true := by rw [List.find?_isSome]; exact ⟨q, hq, by simp⟩
    obtain ⟨z, hz⟩ := Option.isSome_iff_exists.1 this
    exact ⟨z.2, by rw [lkp_find, hz]; rfl⟩
  have hfree : ∀ j, j < 7 → s.hp (f + j) = none := fun j hj => by
    cases hh : s.hp (f + j) with
    | none => rfl
    | some k =>
      obtain ⟨v, hv, _⟩ := hs.heap _ _ hh
      rw [hs.used _ (hf j hj)] at hv; cases hv
  have hτf : ∀ i b, lkp hp i = some b → ∀ j, j < 7 → τ i ≠ f + j := fun i b hi j hj e => by
    have := (hkey i b hi).2.2; rw [e, hfree j hj] at this; cases this
  have hτinj : ∀ i b j b', lkp hp i = some b → lkp hp j = some b' → τ i = τ j → i = j := fun i b j b' hi hj e =>
    sgm_inj hnd (hkey i b hi).1 (hkey j b' hj).1 (hkey i b hi).2.1 (hkey j b' hj).2.1 e
  have hl' : ∀ q, q ∈ hp' → q.1 % 8 ≠ 7 → q.1 < 7 := fun q hq h7 => by
    rcases hn2 q hq with h1 | h1
    · exact absurd h1.1 h7
    · exact h1
  have hpin' : ∀ i b, lkp hp' i = some b → i % 8 = 7 → ∃ b0, lkp hp i = some b0 := fun i b hi h7 => by
    rcases hn2 _ (lkp_mem hp' i b hi) with h1 | h1
    · exact Option.isSome_iff_exists.1 h1.2
    · simp only at h1; omega
  have hnew' : ∀ i b, lkp hp' i = some b → i % 8 ≠ 7 → i < 7 := fun i b hi h7 => hl' _ (lkp_mem hp' i b hi) h7
  -- blocks that are handed over
  let A : Nat → Prop := fun b => ∃ i k v, lkp hp i = some k ∧ ρ (τ i) = some v ∧ oblk v = some b
  have hAown : ∀ b, A b → Own C s ρ b := fun b ⟨i, k, v, h1, h2, h3⟩ => .inr ⟨τ i, _, v, (hkey i k h1).2.2, h2, h3⟩
  have hArange : ∀ b, A b → (C.w0.heap.size ≤ b ∨ C.A b) ∧ ¬ C.Oc b ∧ b < w.heap.size := fun b ⟨i, k, v, h1, h2, h3⟩ => hs.range _ _ v b (hkey i k h1).2.2 h2 h3
  let env : Nat → Option Value := fun j => if (lkp hp (8 * j + 7)).isSome = true then ρ (τ (8 * j + 7)) else none
  let C' : Ctx := ⟨w, fun b => Own C s ρ b ∧ ¬ A b, A, fn.ntmps, env⟩
  let ρ0 : Nat → Option Value := fun i => if i % 8 = 7 then env (i / 8) else none
  have hρ0 : ∀ i b, lkp hp i = some b → ρ0 i = ρ (τ i) := fun i b hi => by
    have h7 := (hkey i b hi).1
    have e : 8 * (i / 8) + 7 = i := by omega
    simp only [ρ0, h7, if_true, env, e, hi, Option.isSome_some]
  have hρ0N : ∀ i, Nm hp i → ∀ u, ρ (τ i) = some u → ρ0 i = some u := fun i hi u hu => by
    obtain ⟨b, hb⟩ := Option.isSome_iff_exists.1 hi
    rw [hρ0 i b hb]; exact hu
  have hsub : ∀ v b, oblk v = some b → ∀ i k, lkp hp i = some k → ρ0 i = some v → A b := fun v b hb i k hi hv => ⟨i, k, v, hi, by rw [← hρ0 i k hi]; exact hv, hb⟩
  let s0 : LS := ⟨argA 0 xs, hp, 0⟩
  have hOwn0 : ∀ b, Own C' s0.ps ρ0 b → Own C s ρ b := by
    rintro b (ho | ⟨i, k, v, h1, h2, h3⟩)
    · exact ho.1
    · exact hAown b (hsub v b h3 i k h1 h2)
  have hm0 : Moves (Own C s ρ) w (Own C' s0.ps ρ0) w := ⟨Nat.le_refl _, fun _ _ _ => rfl, fun b _ => hOwn0 b⟩
  have hOc : ∀ b, C'.Oc b → b < w.heap.size := fun b hb => by
    by_cases hlt : b < w.heap.size
    · exact hlt
    · exact absurd hb.1 (hs.notOwn (by omega))
  have hsat0 : SatR C' (fun i => nmPos i ≤ 0) s0.ps ρ0 ⟨vs ++ Array.replicate (fn.ntmps - vs.size) undef, []⟩ w := by
    refine ⟨rfl, by simp only [Array.size_append, Array.size_replicate, C']; rw [hsz, rens_length]; omega, fun d x hx => ?_, fun i k hi => ?_, fun i j k l v u b h1 h2 h3 h4 h5 h6 => ?_, fun i hi => ?_, fun i k v b h1 h2 h3 => ?_, hOc, rfl, rfl, rfl, Nat.le_refl _, fun _ _ _ => rfl, fun j v hj => ?_⟩
    · obtain ⟨j, hj, rfl⟩ := lkp_argA xs 0 d x hx
      have hjl := (List.getElem?_eq_some_iff.1 hj).1
      have h1 := hr j (x.ren τ) (by rw [rens_get, hj]; rfl)
      rw [rens_length] at hsz
      rw [Nat.zero_add, Array.getD_eq_getD_getElem?, Array.getElem?_append_left (by omega), ← Array.getD_eq_getD_getElem?]
      exact (h1.unren τ x rfl (fun i hi u hu => hρ0N i (hX i (namess_mem xs j x hj i hi)) u hu)).mono hm0 (fun _ _ h => h)
    · obtain ⟨h7, _, hsi⟩ := hkey i k hi
      obtain ⟨v, hv, hb⟩ := hs.heap _ _ hsi
      exact ⟨v, by rw [hρ0 i k hi]; exact hv, (hb.unren τ (hB.get i k hi) (fun j hj u hu => hρ0N j hj u hu)).mono hm0 (fun _ _ h => h) (fun _ _ => rfl)⟩
    · have e1 := (hkey i k h1).2.2
      have e2 := (hkey j l h2).2.2
      rw [hρ0 i k h1] at h3
      rw [hρ0 j l h2] at h4
      exact hτinj i k j l h1 h2 (hs.inj _ _ _ _ v u b e1 e2 h3 h4 h5 h6)
    · have : ¬ i % 8 = 7 := fun e => hi (by simp [nmPos, e])
      simp only [ρ0, this, if_false]
    · have hA := hsub v b h3 i k h1 h2
      exact ⟨.inr hA, fun ho => ho.2 hA, (hArange b hA).2.2⟩
    · simp only [ρ0]; rw [if_pos (by omega)]; rw [show (8 * j + 7) / 8 = j by omega]; exact hj
  refine calls_of_wp hfn hbody (wp_mono (hawp C' rfl _ w ⟨ρ0, hsat0⟩) fun e a' w' ⟨s1, hk, hsat1⟩ => ?_)
  have fin : (∃ r0, resWR P s1 fn.results.toList r0 ∧ LE ⟨[(0, r0)], s1.hp, s1.nx⟩ ⟨[(0, r)], hp', 1⟩) → bodyPost P fn (fun e w' => ∃ v, e = .returned v ∧ Sat C (fun i => U i ∨ (f ≤ i ∧ i < f + 7)) (s.upd dst ⟨r.ren τ, hpsOf σ f same hp' hp⟩) (a.put dst v) w') .ret a' w' := by
    rintro ⟨r0, hres, hle⟩
    obtain ⟨ρ1, hr1⟩ := hsat1
    obtain ⟨v, hv, hvr0⟩ := run_resultsW hr1 hres
    refine ⟨hr1.defers, v, hv, v, rfl, ?_⟩
    let C2 : Ctx := ⟨w, fun b => Own C s ρ b ∧ ¬ A b, A, 1, env⟩
    have hO12 : ∀ sl : List (Nat × AV), Own C2 (⟨sl, s1.hp, s1.nx⟩ : LS).ps ρ1 = Own C' s1.ps ρ1 := fun _ => rfl
    have hone : Sat C2 (fun i => nmPos i ≤ s1.nx) (⟨[(0, r0)], s1.hp, s1.nx⟩ : LS).ps ⟨#[v], []⟩ w' := by
      refine ⟨ρ1, rfl, rfl, fun d x hx => ?_, hr1.heap, hr1.inj, hr1.used, hr1.range, hr1.oc, hr1.os, hr1.tape, hr1.output, hr1.grows, hr1.frame, hr1.pins⟩
      simp only [LS.ps, lkp] at hx
      split at hx
      · rename_i e; subst e
        simp only [Option.some.injEq] at hx; subst hx
        exact hvr0
      · cases hx
    obtain ⟨ρ2, h2⟩ := hle C2 ⟨#[v], []⟩ w' hone
    have hvr : RepA (Own C2 (⟨[(0, r)], hp', 1⟩ : LS).ps ρ2) ρ2 w' r v := h2.slots 0 r rfl
    let s2 : LS := ⟨[(0, r)], hp', 1⟩
    -- names behind the call
    let ρ3 : Nat → Option Value := fun i => if f ≤ i ∧ i < f + 7 then ρ2 (i - f) else ρ i
    have hρ3old : ∀ i, (∃ v, ρ i = some v) → ρ3 i = ρ i := fun i ⟨v, hv⟩ => by
      have : ¬ (f ≤ i ∧ i < f + 7) := fun ⟨e1, e2⟩ => by
        have := hs.used (f + (i - f)) (hf (i - f) (by omega))
        rw [show f + (i - f) = i by omega, hv] at this; cases this
      simp only [ρ3, this, if_false]
    have hρ3ext : ∀ i v, ρ i = some v → ρ3 i = some v := fun i v hv => by rw [hρ3old i ⟨v, hv⟩]; exact hv
    have hpin2 : ∀ i b, lkp hp i = some b → ρ2 i = ρ (τ i) := fun i b hi => by
      obtain ⟨h7, _, hsi⟩ := hkey i b hi
      obtain ⟨u, hu, _⟩ := hs.heap _ _ hsi
      have e : 8 * (i / 8) + 7 = i := by omega
      have := h2.pins (i / 8) u (by simp only [C2, env, e, hi, Option.isSome_some, if_true]; exact hu)
      rw [e] at this
      rw [this, hu]
    have hρ3 : ∀ i, Nm s2.hp i → ∀ u, ρ2 i = some u → ρ3 (τ i) = some u := fun i hi u hu => by
      obtain ⟨b, hb⟩ := Option.isSome_iff_exists.1 hi
      by_cases h7 : i % 8 = 7
      · obtain ⟨b0, hb0⟩ := hpin' i b hb h7
        rw [hpin2 i b0 hb0] at hu
        exact hρ3ext _ _ hu
      · have hlt := hnew' i b hb h7
        have e : τ i = f + i := by simp [τ, sgm, h7]
        simp only [ρ3, e]
        rw [if_pos (by omega), show f + i - f = i by omega]; exact hu
    -- the state behind the call
    let s3 : PS := s.upd dst ⟨r.ren τ, hpsOf σ f same s2.hp hp⟩
    have hp3old : ∀ i b, lkp hp i = some b → s3.hp (τ i) = (lkp s2.hp i).map (Blk.ren τ) := fun i b hi => by
      have hinj : ∀ q, q ∈ hp → sgm σ f q.1 = sgm σ f i → q.1 = i := fun q hq e => by
        obtain ⟨b', hb'⟩ := hmem q hq
        exact hτinj q.1 b' i b hb' hi e
      cases hc : same.contains i with
      | false => exact hpsOf_old hl' hc hinj hp (fun _ h => h) ⟨b, lkp_mem hp i b hi⟩
      | true =>
        have := hpsOf_other (σ := σ) (f := f) (same := same) (hp' := s2.hp) (h := s.hp) hl' (id := τ i) (fun j hj => hτf i b hi j hj) hp (fun q hq hqs e => by
          have := hinj q hq e
          rw [this, hc] at hqs; cases hqs)
        show PS.setHp s.hp _ (τ i) = _
        rw [this, hsame.get i hc, hi, (hkey i b hi).2.2]; rfl
    have hp3new : ∀ j, j < 7 → s3.hp (f + j) = (lkp s2.hp j).map (Blk.ren τ) := fun j hj => by
      have := hpsOf_fresh (σ := σ) (f := f) (same := same) (hp' := s2.hp) (h := s.hp) hl' hp (fun q hq j hj => by
        obtain ⟨b, hb⟩ := hmem q hq
        exact hτf q.1 b hb j hj) j hj
      show PS.setHp s.hp _ (f + j) = _
      rw [this]
      cases lkp s2.hp j with
      | none => exact hfree j hj
      | some b => rfl
    have hp3oth : ∀ id, (∀ j, j < 7 → id ≠ f + j) → (∀ i b, lkp hp i = some b → τ i ≠ id) → s3.hp id = s.hp id := fun id h1 h2' =>
      hpsOf_other hl' h1 hp (fun q hq _ => by
        obtain ⟨b, hb⟩ := hmem q hq
        exact h2' q.1 b hb)
    -- whose is a block behind the call?
    have hcase : ∀ id k u, s3.hp id = some k → ρ3 id = some u → (∃ i b, lkp s2.hp i = some b ∧ k = b.ren τ ∧ ρ2 i = some u ∧ id = τ i) ∨ (s.hp id = some k ∧ ρ id = some u ∧ ∀ i b, lkp hp i = some b → τ i ≠ id) := fun id k u hk hu => by
      by_cases hnew : ∃ j, j < 7 ∧ id = f + j
      · obtain ⟨j, hj, rfl⟩ := hnew
        rw [hp3new j hj] at hk
        obtain ⟨b, hb, rfl⟩ := Option.map_eq_some_iff.1 hk
        simp only [ρ3] at hu
        rw [if_pos (by omega), show f + j - f = j by omega] at hu
        exact .inl ⟨j, b, hb, rfl, hu, by simp only [τ, sgm]; rw [if_neg (by omega)]⟩
      · have hno : ∀ j, j < 7 → id ≠ f + j := fun j hj e => hnew ⟨j, hj, e⟩
        have hu' : ρ id = some u := by
          have : ¬ (f ≤ id ∧ id < f + 7) := fun ⟨e1, e2⟩ => hno (id - f) (by omega) (by omega)
          simpa only [ρ3, this, if_false] using hu
        by_cases hold : ∃ i b, lkp hp i = some b ∧ τ i = id
        · obtain ⟨i, b, hi, rfl⟩ := hold
          rw [hp3old i b hi] at hk
          obtain ⟨b', hb', rfl⟩ := Option.map_eq_some_iff.1 hk
          exact .inl ⟨i, b', hb', rfl, by rw [hpin2 i b hi]; exact hu', rfl⟩
        · have hno2 : ∀ i b, lkp hp i = some b → τ i ≠ id := fun i b hi e => hold ⟨i, b, hi, e⟩
          rw [hp3oth id hno hno2] at hk
          exact .inr ⟨hk, hu', hno2⟩
    have hrange2 : ∀ i b u x, lkp s2.hp i = some b → ρ2 i = some u → oblk u = some x → (w.heap.size ≤ x ∨ A x) ∧ ¬ (Own C s ρ x ∧ ¬ A x) ∧ x < w'.heap.size := fun i b u x h1 h2' h3 => h2.range i b u x h1 h2' h3
    have hOwn3 : ∀ x, Own C s3 ρ3 x → x < w.heap.size → Own C s ρ x := by
      rintro x (ho | ⟨id, k, u, h1, h2', h3⟩) hlt
      · exact .inl ho
      · rcases hcase id k u h1 h2' with ⟨i, b, g1, _, g2, _⟩ | ⟨g1, g2, _⟩
        · rcases (hrange2 i b u x g1 g2 h3).1 with h | h
          · omega
          · exact hAown x h
        · exact .inr ⟨id, k, u, g1, g2, h3⟩
    have hOwn32 : ∀ x, Own C s3 ρ3 x → Own C2 s2.ps ρ2 x := by
      rintro x (ho | ⟨id, k, u, h1, h2', h3⟩)
      · refine .inl ⟨.inl ho, fun hA => (hArange x hA).2.1 ho⟩
      · rcases hcase id k u h1 h2' with ⟨i, b, g1, _, g2, _⟩ | ⟨g1, g2, g3⟩
        · exact .inr ⟨i, b, u, g1, g2, h3⟩
        · refine .inl ⟨.inr ⟨id, k, u, g1, g2, h3⟩, fun ⟨i, b, v', q1, q2, q3⟩ => ?_⟩
          exact g3 i b q1 (hs.inj (τ i) id _ _ v' u x (hkey i b q1).2.2 g1 q2 g2 q3 h3)
    have hm3 : Moves (Own C s ρ) w (Own C s3 ρ3) w' := ⟨h2.grows, fun x hx hno => h2.frame x hx (fun hA => hno (hAown x hA)), fun x hx ho => hOwn3 x ho hx⟩
    have hm32 : Moves (Own C2 s2.ps ρ2) w' (Own C s3 ρ3) w' := ⟨Nat.le_refl _, fun _ _ _ => rfl, fun x _ ho => hOwn32 x ho⟩
    have hblk : ∀ x, x < w.heap.size → ¬ A x → w'.heap[x]? = w.heap[x]? := fun x hx hA => h2.frame x hx hA
    have hdisj : ∀ id k u, s.hp id = some k → ρ id = some u → (∀ i b, lkp hp i = some b → τ i ≠ id) → ∀ x, oblk u = some x → ¬ A x := fun id k u g1 g2 g3 x hx ⟨i, b, v', q1, q2, q3⟩ =>
      g3 i b q1 (hs.inj (τ i) id _ _ v' u x (hkey i b q1).2.2 g1 q2 g2 q3 hx)
    have hres3 : RepA (Own C s3 ρ3) ρ3 w' (r.ren τ) v := (hvr.ren τ (ρ' := ρ3) (fun i hi u hu => hρ3 i (hR i hi) u hu)).mono hm32 (fun _ _ h => h)
    refine ⟨ρ3, ?_⟩
    have base : SatR C (fun i => U i ∨ (f ≤ i ∧ i < f + 7)) ⟨s.sl, s3.hp⟩ ρ3 a w' := by
      have hOe : Own C ⟨s.sl, s3.hp⟩ ρ3 = Own C s3 ρ3 := rfl
      refine ⟨hs.defers, hs.size, fun d x hx => (hs.slots d x hx).mono hm3 hρ3ext, fun id k hid => ?_, fun i j k l v u x h1 h2' h3 h4 h5 h6 => ?_, fun i hi => ?_, fun id k u x h1 h2' h3 => ?_, hs.oc, h2.os.trans hs.os, h2.tape.trans hs.tape, h2.output.trans hs.output, Nat.le_trans hs.grows h2.grows, fun x hx hA => ?_, fun j u hj => hρ3ext _ _ (hs.pins j u hj)⟩
      · have hid' : s3.hp id = some k := hid
        by_cases hnew : ∃ j, j < 7 ∧ id = f + j
        · obtain ⟨j, hj, rfl⟩ := hnew
          rw [hp3new j hj] at hid'
          obtain ⟨b, hb, rfl⟩ := Option.map_eq_some_iff.1 hid'
          obtain ⟨u, hu, hbr⟩ := h2.heap j b hb
          refine ⟨u, by simp only [ρ3]; rw [if_pos (by omega), show f + j - f = j by omega]; exact hu, ?_⟩
          exact (hbr.ren τ (ρ' := ρ3) (hB'.get j b hb) (fun i hi z hz => hρ3 i hi z hz)).mono hm32 (fun _ _ h => h) (fun _ _ => rfl)
        · have hno : ∀ j, j < 7 → id ≠ f + j := fun j hj e => hnew ⟨j, hj, e⟩
          by_cases hold : ∃ i b, lkp hp i = some b ∧ τ i = id
          · obtain ⟨i, b, hi, rfl⟩ := hold
            rw [hp3old i b hi] at hid'
            obtain ⟨b', hb', rfl⟩ := Option.map_eq_some_iff.1 hid'
            obtain ⟨u, hu, hbr⟩ := h2.heap i b' hb'
            refine ⟨u, hρ3ext _ _ (by rw [← hpin2 i b hi]; exact hu), ?_⟩
            exact (hbr.ren τ (ρ' := ρ3) (hB'.get i b' hb') (fun i hi z hz => hρ3 i hi z hz)).mono hm32 (fun _ _ h => h) (fun _ _ => rfl)
          · have hno2 : ∀ i b, lkp hp i = some b → τ i ≠ id := fun i b hi e => hold ⟨i, b, hi, e⟩
            rw [hp3oth id hno hno2] at hid'
            obtain ⟨u, hu, hbr⟩ := hs.heap id k hid'
            exact ⟨u, hρ3ext _ _ hu, hbr.mono hm3 hρ3ext (fun x hx => hblk x (hs.range id k u x hid' hu hx).2.2 (hdisj id k u hid' hu hno2 x hx))⟩
      · rcases hcase i k v h1 h3 with ⟨i', b, g1, _, g2, rfl⟩ | ⟨g1, g2, g3⟩
        · rcases hcase j l u h2' h4 with ⟨j', b', q1, _, q2, rfl⟩ | ⟨q1, q2, q3⟩
          · rw [h2.inj i' j' b b' v u x g1 q1 g2 q2 h5 h6]
          · exfalso
            rcases (hrange2 i' b v x g1 g2 h5).1 with h | h
            · have := (hs.range j l u x q1 q2 h6).2.2; omega
            · exact hdisj j l u q1 q2 q3 x h6 h
        · rcases hcase j l u h2' h4 with ⟨j', b', q1, _, q2, rfl⟩ | ⟨q1, q2, q3⟩
          · exfalso
            rcases (hrange2 j' b' u x q1 q2 h6).1 with h | h
            · have := (hs.range i k v x g1 g2 h5).2.2; omega
            · exact hdisj i k v g1 g2 g3 x h5 h
          · exact hs.inj i j k l v u x g1 q1 g2 q2 h5 h6
      · have h1 : ¬ (f ≤ i ∧ i < f + 7) := fun e => hi (.inr e)
        simp only [ρ3, h1, if_false]
        exact hs.used i (fun e => hi (.inl e))
      · rcases hcase id k u h1 h2' with ⟨i, b, g1, _, g2, _⟩ | ⟨g1, g2, _⟩
        · obtain ⟨q1, q2, q3⟩ := hrange2 i b u x g1 g2 h3
          rcases q1 with q1 | q1
          · refine ⟨.inl (Nat.le_trans hs.grows q1), fun ho => ?_, q3⟩
            have := hs.oc x ho; have := hs.grows; omega
          · exact ⟨(hArange x q1).1, (hArange x q1).2.1, q3⟩
        · obtain ⟨q1, q2, q3⟩ := hs.range id k u x g1 g2 h3
          exact ⟨q1, q2, Nat.lt_of_lt_of_le q3 h2.grows⟩
      · have hlt := Nat.lt_of_lt_of_le hx hs.grows
        rw [hblk x hlt (fun hAx => by
          rcases (hArange x hAx).1 with h | h
          · omega
          · exact hA h)]
        exact hs.frame x hx hA
    have := base.put hd (x := r.ren τ) (v := v) hres3
    exact this
  cases e with
  | ret => exact fin hk
  | normal => exact fin hk
  | exit => exact hk.elim
  | goto => exact hk.elim
  | panic => exact hk.elim
  | outgrown => exact hk.elim

theorem callK_h {P : Program} {g : FuncId} {xs ys : List AV} {hp hp' : List (Nat × Blk)} {r : AV} {f : Nat} {V : PS} {dst : Option Nat} {K : Upd → Prop} (h : HCall P g xs hp r hp') (σ same : List Nat)
    (hys : ys = AV.rens (sgm σ f) xs) (hn : namesOk σ same hp hp' = true) (hsame : SameIn hp hp' same) (hB : BlksOk hp hp) (hB' : BlksOk hp' hp') (hX : ∀ n, n ∈ AV.namess xs → Nm hp n) (hR : ∀ n, n ∈ r.names → Nm hp' n)
    (hV : HpIn V σ f hp) (hK : K ⟨r.ren (sgm σ f), hpsOf σ f same hp' hp⟩) : callK P g ys f V dst K := ⟨_, callsA_of_hcall h hn hsame hB hB' hX hR hys hV, hK⟩
end Go.Am
