/-
  The abstract machine, thirtieth part: a function that is handed blocks of its caller's own, and may write them, and may hand back new ones.
-/
import Derived.Test.YtbdliooaiincdaaAm28
namespace Go.Am
open Go.RowKit

/-! ### other names -/
mutual
def AV.ren (σ : Nat → Nat) : AV → AV
  | .p x => .p x
  | .own i => .own (σ i)
  | .sub i sz lo n => .sub (σ i) sz lo n
  | .ptr i sz k o => .ptr (σ i) sz k o
  | .pp cs o => .pp cs o
  | .agg cs => .agg (AV.rens σ cs)
  | .tup cs => .tup (AV.rens σ cs)
  | .fn f cs => .fn f (AV.rens σ cs)
  | .mp i => .mp (σ i)
def AV.rens (σ : Nat → Nat) : List AV → List AV
  | [] => []
  | x :: r => x.ren σ :: AV.rens σ r
end
mutual
def AV.names : AV → List Nat
  | .p _ => []
  | .own i => [i]
  | .sub i _ _ _ => [i]
  | .ptr i _ _ _ => [i]
  | .pp _ _ => []
  | .agg cs => AV.namess cs
  | .tup cs => AV.namess cs
  | .fn _ cs => AV.namess cs
  | .mp i => [i]
def AV.namess : List AV → List Nat
  | [] => []
  | x :: r => x.names ++ AV.namess r
end
theorem rens_get (σ : Nat → Nat) : ∀ (l : List AV) (i : Nat), (AV.rens σ l)[i]? = l[i]?.map (AV.ren σ)
  | [], i => by simp [AV.rens]
  | x :: r, 0 => by simp [AV.rens]
  | x :: r, i + 1 => by simp [AV.rens, rens_get σ r i]
theorem rens_length (σ : Nat → Nat) : ∀ l : List AV, (AV.rens σ l).length = l.length
  | [] => rfl
  | x :: r => by simp [AV.rens, rens_length σ r]
theorem namess_mem : ∀ (l : List AV) (i : Nat) (x : AV), l[i]? = some x → ∀ n, n ∈ x.names → n ∈ AV.namess l
  | [], i, x, h, n, hn => by simp at h
  | y :: r, 0, x, h, n, hn => by simp at h; subst h; simp [AV.namess, hn]
  | y :: r, i + 1, x, h, n, hn => by simp only [AV.namess, List.mem_append]; exact .inr (namess_mem r i x (by simpa using h) n hn)

/-- to the new names -/
theorem RepA.ren {O : Nat → Prop} {ρ ρ' : Nat → Option Value} {w : World} (σ : Nat → Nat) {x : AV} {v : Value} (h : RepA O ρ w x v) : (∀ i, i ∈ x.names → ∀ u, ρ i = some u → ρ' (σ i) = some u) → RepA O ρ' w (x.ren σ) v := by
  induction h with
  | p x v hx => intro _; exact .p x v hx
  | own id a n c hi => intro hn; exact .own _ a n c (hn id (by simp [AV.names]) _ hi)
  | sub id lo n len cap c sz b hi hc => intro hn; exact .sub _ lo n len cap c sz b (hn id (by simp [AV.names]) _ hi) hc
  | sub0 id sz lo a c => intro _; exact .sub0 _ sz lo a c
  | ptr id sz k off b v hi hv => intro hn; exact .ptr _ sz k off b v (hn id (by simp [AV.names]) _ hi) hv
  | pp cs off b o f h4 h5 => intro _; exact .pp cs off b o f h4 h5
  | agg cs vs hs _ h1 ih =>
    intro hn
    refine .agg _ vs (by rw [rens_length]; exact hs) (fun i y hy => ?_) (fun i hi => h1 i (by rwa [rens_length] at hi))
    rw [rens_get] at hy
    obtain ⟨z, hz, rfl⟩ := Option.map_eq_some_iff.1 hy
    exact ih i z hz (fun j hj => hn j (namess_mem cs i z hz j hj))
  | tup cs vs hs _ ih =>
    intro hn
    refine .tup _ vs (by rw [rens_length]; exact hs) (fun i y hy => ?_)
    rw [rens_get] at hy
    obtain ⟨z, hz, rfl⟩ := Option.map_eq_some_iff.1 hy
    exact ih i z hz (fun j hj => hn j (namess_mem cs i z hz j hj))
  | fn f cs vs hs _ ih =>
    intro hn
    refine .fn f _ vs (by rw [rens_length]; exact hs) (fun i y hy => ?_)
    rw [rens_get] at hy
    obtain ⟨z, hz, rfl⟩ := Option.map_eq_some_iff.1 hy
    exact ih i z hz (fun j hj => hn j (namess_mem cs i z hz j hj))
  | mp id v hi => intro hn; exact .mp _ v (hn id (by simp [AV.names]) _ hi)

/-- and back -/
theorem RepA.unren {O : Nat → Prop} {ρ ρ' : Nat → Option Value} {w : World} (σ : Nat → Nat) {y : AV} {v : Value} (h : RepA O ρ' w y v) : ∀ x : AV, y = x.ren σ → (∀ i, i ∈ x.names → ∀ u, ρ' (σ i) = some u → ρ i = some u) → RepA O ρ w x v := by
  induction h with
  | p z v hx => intro x e _; cases x <;> simp [AV.ren] at e; subst e; exact .p _ v hx
  | own id a n c hi => intro x e hn; cases x <;> simp [AV.ren] at e; subst e; exact .own _ a n c (hn _ (by simp [AV.names]) _ hi)
  | sub id lo n len cap c sz b hi hc => intro x e hn; cases x <;> simp [AV.ren] at e; obtain ⟨rfl, rfl, rfl, rfl⟩ := e; exact .sub _ _ _ len cap c _ b (hn _ (by simp [AV.names]) _ hi) hc
  | sub0 id sz lo a c => intro x e _; cases x <;> simp [AV.ren] at e; obtain ⟨rfl, rfl, rfl, rfl⟩ := e; exact .sub0 _ _ _ a c
  | ptr id sz k off b v hi hv => intro x e hn; cases x <;> simp [AV.ren] at e; obtain ⟨rfl, rfl, rfl, rfl⟩ := e; exact .ptr _ _ _ _ b v (hn _ (by simp [AV.names]) _ hi) hv
  | pp cs off b o f h4 h5 => intro x e _; cases x <;> simp [AV.ren] at e; obtain ⟨rfl, rfl⟩ := e; exact .pp _ _ b o f h4 h5
  | agg cs vs hs _ h1 ih =>
    intro x e hn
    cases x <;> simp [AV.ren] at e
    subst e
    refine .agg _ vs (by rw [rens_length] at hs; exact hs) (fun i y hy => ?_) (fun i hi => h1 i (by rwa [rens_length]))
    exact ih i _ (by rw [rens_get, hy]; rfl) y rfl (fun j hj => hn j (by simp only [AV.names]; exact namess_mem _ i y hy j hj))
  | tup cs vs hs _ ih =>
    intro x e hn
    cases x <;> simp [AV.ren] at e
    subst e
    refine .tup _ vs (by rw [rens_length] at hs; exact hs) (fun i y hy => ?_)
    exact ih i _ (by rw [rens_get, hy]; rfl) y rfl (fun j hj => hn j (by simp only [AV.names]; exact namess_mem _ i y hy j hj))
  | fn f cs vs hs _ ih =>
    intro x e hn
    cases x <;> simp [AV.ren] at e
    obtain ⟨rfl, rfl⟩ := e
    refine .fn _ _ vs (by rw [rens_length] at hs; exact hs) (fun i y hy => ?_)
    exact ih i _ (by rw [rens_get, hy]; rfl) y rfl (fun j hj => hn j (by simp only [AV.names]; exact namess_mem _ i y hy j hj))
  | mp id v hi => intro x e hn; cases x <;> simp [AV.ren] at e; subst e; exact .mp _ v (hn _ (by simp [AV.names]) _ hi)

def Blk.ren (σ : Nat → Nat) : Blk → Blk
  | .row sz es => .row sz (es.map (AV.rens σ))
  | b => b
def Blk.hasOnly (N : Nat → Prop) : Blk → Prop
  | .row _ es => ∀ cs, cs ∈ es → ∀ n, n ∈ AV.namess cs → N n
  | _ => True

theorem flat_rens (σ : Nat → Nat) : ∀ es : List (List AV), (es.map (AV.rens σ)).flatten = AV.rens σ es.flatten
  | [] => rfl
  | cs :: es => by
    simp only [List.map_cons, List.flatten_cons, flat_rens σ es]
    generalize es.flatten = ds
    induction cs with
    | nil => rfl
    | cons x r ih => simp [AV.rens, ih]
theorem flat_names {N : Nat → Prop} {es : List (List AV)} (h : ∀ cs, cs ∈ es → ∀ n, n ∈ AV.namess cs → N n) {j : Nat} {x : AV} (hx : es.flatten[j]? = some x) : ∀ n, n ∈ x.names → N n := by
  intro n hn
  obtain ⟨cs, hcs, hxc⟩ := List.mem_flatten.1 (List.mem_of_getElem? hx)
  obtain ⟨i, hi⟩ := List.getElem?_of_mem hxc
  exact h cs hcs n (namess_mem cs i x hi n hn)

theorem BlkRep.ren {O : Nat → Prop} {ρ ρ' : Nat → Option Value} {w : World} (σ : Nat → Nat) {N : Nat → Prop} {k : Blk} {v : Value} (h : BlkRep O ρ w v k) (hk : k.hasOnly N) (hN : ∀ i, N i → ∀ u, ρ i = some u → ρ' (σ i) = some u) : BlkRep O ρ' w v (k.ren σ) := by
  cases k with
  | row sz es =>
    rcases h with ⟨rfl, hr⟩ | ⟨b, cap, cur, e, h1, h0, h2, h3, h4, h5, h6, h7⟩
    · exact .inl ⟨rfl, hr⟩
    · refine .inr ⟨b, cap, cur, e, by simpa using h1, h0, h2, by simpa using h3, h4, h5, fun x hx => ?_, fun j x hx => ?_⟩
      · obtain ⟨y, hy, rfl⟩ := List.mem_map.1 hx
        rw [rens_length]; exact h6 y hy
      · rw [flat_rens, rens_get] at hx
        obtain ⟨y, hy, rfl⟩ := Option.map_eq_some_iff.1 hx
        exact ⟨(h7 j y hy).1.ren σ (fun i hi => hN i (flat_names hk hy i hi)), (h7 j y hy).2⟩
  | map len m => exact h
  | mapS len S => exact h
theorem BlkRep.unren {O : Nat → Prop} {ρ ρ' : Nat → Option Value} {w : World} (σ : Nat → Nat) {N : Nat → Prop} {k : Blk} {v : Value} (h : BlkRep O ρ' w v (k.ren σ)) (hk : k.hasOnly N) (hN : ∀ i, N i → ∀ u, ρ' (σ i) = some u → ρ i = some u) : BlkRep O ρ w v k := by
  cases k with
  | row sz es =>
    rcases h with ⟨he, hr⟩ | ⟨b, cap, cur, e, h1, h0, h2, h3, h4, h5, h6, h7⟩
    · exact .inl ⟨by simpa using he, hr⟩
    · refine .inr ⟨b, cap, cur, e, by simpa using h1, h0, h2, by simpa using h3, h4, h5, fun x hx => ?_, fun j x hx => ?_⟩
      · have := h6 (AV.rens σ x) (List.mem_map.2 ⟨x, hx, rfl⟩)
        rwa [rens_length] at this
      · have := h7 j (x.ren σ) (by rw [flat_rens, rens_get, hx]; rfl)
        exact ⟨this.1.unren σ x rfl (fun i hi => hN i (flat_names hk hx i hi)), this.2⟩
  | map len m => exact h
  | mapS len S => exact h

/-! ### the contract -/
def argA : Nat → List AV → List (Nat × AV)
  | _, [] => []
  | i, x :: r => (i, x) :: argA (i + 1) r
theorem lkp_argA : ∀ (l : List AV) (i d : Nat) (x : AV), lkp (argA i l) d = some x → ∃ j, l[j]? = some x ∧ d = i + j
  | [], i, d, x, h => by simp [argA, lkp] at h
  | y :: l, i, d, x, h => by
    simp only [argA, lkp] at h
    split at h
    · rename_i e
      simp only [Option.some.injEq] at h; subst h
      exact ⟨0, rfl, by omega⟩
    · obtain ⟨j, h2, h3⟩ := lkp_argA l (i + 1) d x h
      exact ⟨j + 1, by simpa using h2, by omega⟩

/-- one result variable, as it is -/
def resW (P : Program) (s : LS) : ResultVar → AV → Prop
  | .tmp t, r => lkp s.sl t = some r
  | .cell a ty, r => ∃ v, lkp s.sl a = some v ∧ ∃ g n, tSz P ty = some (g, n) ∧ loadR s.ps v g n r
def resWs (P : Program) (s : LS) : List ResultVar → List AV → Prop
  | [], [] => True
  | v :: vs, r :: rs => resW P s v r ∧ resWs P s vs rs
  | _, _ => False
def resWR (P : Program) (s : LS) (rv : List ResultVar) (r : AV) : Prop :=
  match rv with
  | [v] => resW P s v r
  | vs => ∃ rs, r = .tup rs ∧ resWs P s vs rs
def retH (P : Program) (fn : Func) (r : AV) (hp' : List (Nat × Blk)) (e : Exit) (s : LS) : Prop :=
  match e with
  | .ret | .normal => ∃ r0, resWR P s fn.results.toList r0 ∧ LE ⟨[(0, r0)], s.hp, s.nx⟩ ⟨[(0, r)], hp', 1⟩
  | _ => False

/-- Handed xs, with blocks hp of its caller's (by names that end in 7), it answers r and leaves blocks hp' (new ones by names below 7). -/
def HCall (P : Program) (g : FuncId) (xs : List AV) (hp : List (Nat × Blk)) (r : AV) (hp' : List (Nat × Blk)) : Prop :=
  ∃ fn c, P.funcs[g]? = some fn ∧ fn.body = some c ∧ xs.length ≤ fn.ntmps ∧ ∀ C : Ctx, C.n = fn.ntmps → Awp P C c (retH P fn r hp') ⟨argA 0 xs, hp, 0⟩

theorem hcall_of_awp {P : Program} {g : FuncId} {fn : Func} {c : Code} {xs : List AV} {hp hp' : List (Nat × Blk)} {r : AV} (hf : P.funcs[g]? = some fn) (hb : fn.body = some c) (hn : xs.length ≤ fn.ntmps)
    (h : ∀ C : Ctx, C.n = fn.ntmps → Awp P C c (retH P fn r hp') ⟨argA 0 xs, hp, 0⟩) : HCall P g xs hp r hp' := ⟨fn, c, hf, hb, hn, h⟩

theorem run_resW {P : Program} {C : Ctx} {U : Nat → Prop} {s : LS} {ρ : Nat → Option Value} {a : Act} {w : World} (h : SatR C U s.ps ρ a w) {rv : ResultVar} {r : AV} (hr : resW P s rv r) :
    ∃ v, (getR a.tmps rv).run P w = .ok v w ∧ RepA (Own C s.ps ρ) ρ w r v := by
  cases rv with
  | tmp t => exact ⟨_, rfl, h.slots t r hr⟩
  | cell ad ty =>
    obtain ⟨v, hv, g, n, ht, hl⟩ := hr
    have hvr := h.slots ad v hv
    obtain ⟨z, hz, hzr⟩ := load_rep ht hl (fun id k hk => h.heap id k hk) hvr
    refine ⟨z, ?_, hzr⟩
    simp only [getR]
    generalize a.tmps.getD ad undef = y at hvr hz ⊢
    have key : ∃ ad, y = .pointer (some ad) := by
      unfold loadR at hl
      cases hvr with
      | ptr => exact ⟨_, rfl⟩
      | pp => exact ⟨_, rfl⟩
      | p => exact hl.elim
      | own => exact hl.elim
      | sub => exact hl.elim
      | sub0 => exact hl.elim
      | agg => exact hl.elim
      | tup => exact hl.elim
      | fn => exact hl.elim
      | mp => exact hl.elim
    obtain ⟨ad, rfl⟩ := key
    simpa [getR, asAddr, Instr.loadAt, Instr.sureAddr] using hz

theorem run_resultsW {P : Program} {C : Ctx} {U : Nat → Prop} {s : LS} {ρ : Nat → Option Value} {a : Act} {w : World} (h : SatR C U s.ps ρ a w) {fn : Func} {r : AV} (hr : resWR P s fn.results.toList r) :
    ∃ v, (results fn a.tmps).run P w = .ok v w ∧ RepA (Own C s.ps ρ) ρ w r v := by
  have many : ∀ (l : List ResultVar) (rs : List AV), resWs P s l rs → ∃ us : List Value, us.length = rs.length ∧ us.length = l.length ∧ (∀ i x, rs[i]? = some x → RepA (Own C s.ps ρ) ρ w x (us.getD i undef)) ∧
      (l.mapM (getR a.tmps)).run P w = .ok us w := by
    intro l
    induction l with
    | nil =>
      intro rs hrs
      cases rs with
      | nil => exact ⟨[], rfl, rfl, fun i x hx => by simp at hx, by simp⟩
      | cons => exact hrs.elim
    | cons v l ih =>
      intro rs hrs
      cases rs with
      | nil => exact hrs.elim
      | cons r rs =>
        obtain ⟨u, hu, hur⟩ := run_resW h hrs.1
        obtain ⟨us, h1, h2, h3, h4⟩ := ih rs hrs.2
        refine ⟨u :: us, by simp [h1], by simp [h2], fun i x hx => ?_, ?_⟩
        · cases i with
          | zero => simp only [List.getElem?_cons_zero, Option.some.injEq] at hx; subst hx; simpa using hur
          | succ i => simpa using h3 i x (by simpa using hx)
        · rw [List.mapM_cons, Sem.run_bind, hu]
          simp only [Result.andThen_ok, Sem.run_bind, h4, Sem.run_pure]
  have key : ∀ (l : List ResultVar) (us : List Value), fn.results.toList = l → us.length = l.length → (l.mapM (getR a.tmps)).run P w = .ok us w →
      (results fn a.tmps).run P w = .ok (if h : us.toArray.size = 1 then us.toArray[0] else .tuple us.toArray) w := by
    intro l us hl hlen hrun
    have hfn : fn.results = l.toArray := by rw [← hl]
    rw [results_eq, hfn]
    simp only [Sem.run_bind, List.mapM_toArray, Sem.run_map, hrun, Result.andThen_ok, Sem.run_pure]
  generalize hl : fn.results.toList = l at hr key
  unfold resWR at hr
  split at hr
  · rename_i v
    obtain ⟨us, h1, h2, h3, h4⟩ := many [v] [r] ⟨hr, trivial⟩
    have hk := key [v] us rfl h2 h4
    obtain ⟨u, rfl⟩ : ∃ u, us = [u] := by
      cases us with
      | nil => simp at h2
      | cons u us => cases us with | nil => exact ⟨u, rfl⟩ | cons => simp at h2
    refine ⟨u, by simpa using hk, ?_⟩
    simpa using h3 0 r rfl
  · rename_i hne
    obtain ⟨rs, rfl, hrs⟩ := hr
    obtain ⟨us, h1, h2, h3, h4⟩ := many l rs hrs
    have hk := key l us rfl h2 h4
    have hn1 : us.toArray.size ≠ 1 := by
      intro h
      have : l.length = 1 := by rw [← h2]; simpa using h
      match l, this with
      | [v], _ => exact hne v rfl
    rw [dif_neg hn1] at hk
    refine ⟨_, hk, .tup _ _ (by simpa using h1) (fun i x hx => ?_)⟩
    have := h3 i x hx
    rw [List.getD_eq_getElem?_getD] at this
    rw [Array.getD_eq_getD_getElem?, List.getElem?_toArray]; exact this

/-- the callee's names, as the caller's: 8j+7 is the j-th that is handed over -/
def sgm (σ : List Nat) (f : Nat) (i : Nat) : Nat := if i % 8 = 7 then σ.getD (i / 8) 0 else f + i
/-- blocks that the caller has, by its names -/
def HpIn (V : PS) (σ : List Nat) (f : Nat) : List (Nat × Blk) → Prop
  | [] => True
  | (i, b) :: r => V.hp (sgm σ f i) = some (b.ren (sgm σ f)) ∧ HpIn V σ f r
theorem HpIn.get {V : PS} {σ : List Nat} {f : Nat} : ∀ {hp : List (Nat × Blk)}, HpIn V σ f hp → ∀ i b, lkp hp i = some b → V.hp (sgm σ f i) = some (b.ren (sgm σ f))
  | [], _, i, b, h => by simp [lkp] at h
  | (j, c) :: r, hi, i, b, h => by
    simp only [lkp] at h
    split at h
    · rename_i e; subst e; simp only [Option.some.injEq] at h; subst h; exact hi.1
    · exact hi.2.get i b h
/-- which names a block may lead to -/
def Nm (hp : List (Nat × Blk)) (i : Nat) : Prop := (lkp hp i).isSome = true
def BlksOk (hp : List (Nat × Blk)) : List (Nat × Blk) → Prop
  | [] => True
  | (_, b) :: r => b.hasOnly (Nm hp) ∧ BlksOk hp r
theorem BlksOk.get {hp : List (Nat × Blk)} : ∀ {l : List (Nat × Blk)}, BlksOk hp l → ∀ i b, lkp l i = some b → b.hasOnly (Nm hp)
  | [], _, i, b, h => by simp [lkp] at h
  | (j, c) :: r, hi, i, b, h => by
    simp only [lkp] at h
    split at h
    · simp only [Option.some.injEq] at h; subst h; exact hi.1
    · exact hi.2.get i b h
/-- what the caller's blocks are behind the call: those in 'same' are as they were -/
def hpsOf (σ : List Nat) (f : Nat) (same : List Nat) (hp' : List (Nat × Blk)) : List (Nat × Blk) → List (Nat × Option Blk)
  | [] => (hp'.filter fun q => q.1 % 8 != 7).map fun q => (f + q.1, some (q.2.ren (sgm σ f)))
  | (i, _) :: r => if same.contains i = true then hpsOf σ f same hp' r else (sgm σ f i, (lkp hp' i).map (Blk.ren (sgm σ f))) :: hpsOf σ f same hp' r

/-- names fit: those handed over end in 7 and are other blocks; new ones are below 7 -/
def namesOk (σ : List Nat) (same : List Nat) (hp hp' : List (Nat × Blk)) : Bool :=
  hp.all (fun q => q.1 % 8 == 7 && decide (q.1 / 8 < σ.length)) && hp'.all (fun q => (q.1 % 8 == 7 && (lkp hp q.1).isSome) || decide (q.1 < 7)) && decide σ.Nodup && same.all (fun i => (lkp hp i).isSome)
def SameIn (hp hp' : List (Nat × Blk)) : List Nat → Prop
  | [] => True
  | i :: r => lkp hp' i = lkp hp i ∧ SameIn hp hp' r
end Go.Am
