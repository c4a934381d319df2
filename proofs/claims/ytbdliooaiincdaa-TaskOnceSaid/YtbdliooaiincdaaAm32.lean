/-
  The abstract machine, thirty-second part: how calls that are handed blocks are reckoned with.
-/
import Derived.Test.YtbdliooaiincdaaAm31
namespace Go.Am
open Go.RowKit
theorem rens_p (σ : Nat → Nat) : ∀ xs : List PV, AV.rens σ (xs.map .p) = xs.map .p
  | [] => rfl
  | x :: r => by simp [AV.rens, AV.ren, rens_p σ r]
theorem ren_lift (σ : Nat → Nat) (sz : Nat) (es : List (List PV)) : Blk.ren σ (.row sz (lift es)) = .row sz (lift es) := by
  simp only [Blk.ren, lift, List.map_map, Blk.row.injEq, true_and]
  exact List.map_congr_left fun x _ => rens_p σ x
theorem namess_p : ∀ xs : List PV, AV.namess (xs.map .p) = []
  | [] => rfl
  | x :: r => by simp [AV.namess, AV.names, namess_p r]
theorem only_lift (N : Nat → Prop) (sz : Nat) (es : List (List PV)) : Blk.hasOnly N (.row sz (lift es)) = True := by
  simp only [Blk.hasOnly, lift, List.mem_map, eq_iff_iff, iff_true]
  rintro cs ⟨y, _, rfl⟩ n hn
  rw [namess_p] at hn; cases hn
theorem only_one (N : Nat → Prop) (sz : Nat) (cs : List AV) : Blk.hasOnly N (.row sz [cs]) = ∀ n, n ∈ AV.namess cs → N n := by simp [Blk.hasOnly]
theorem only_map (N : Nat → Prop) (len : Nat) (m : List Int → Option PV) : Blk.hasOnly N (.map len m) = True := rfl
theorem only_mapS (N : Nat → Prop) (len : Nat) (S : List Int → PV → Prop) : Blk.hasOnly N (.mapS len S) = True := rfl
theorem ren_one (σ : Nat → Nat) (sz : Nat) (cs : List AV) : Blk.ren σ (.row sz [cs]) = .row sz [AV.rens σ cs] := rfl
theorem ren_map (σ : Nat → Nat) (len : Nat) (m : List Int → Option PV) : Blk.ren σ (.map len m) = .map len m := rfl
theorem ren_mapS (σ : Nat → Nat) (len : Nat) (S : List Int → PV → Prop) : Blk.ren σ (.mapS len S) = .mapS len S := rfl
section
variable (σ : Nat → Nat)
theorem r01 (x : PV) : AV.ren σ (.p x) = .p x := by simp [AV.ren]
theorem r02 (i : Nat) : AV.ren σ (.own i) = .own (σ i) := by simp [AV.ren]
theorem r03 (i sz k o : Nat) : AV.ren σ (.ptr i sz k o) = .ptr (σ i) sz k o := by simp [AV.ren]
theorem r04 (i : Nat) : AV.ren σ (.mp i) = .mp (σ i) := by simp [AV.ren]
theorem r05 (cs : List AV) : AV.ren σ (.agg cs) = .agg (AV.rens σ cs) := by simp [AV.ren]
theorem r06 (cs : List AV) : AV.ren σ (.tup cs) = .tup (AV.rens σ cs) := by simp [AV.ren]
theorem r07 (f : FuncId) (cs : List AV) : AV.ren σ (.fn f cs) = .fn f (AV.rens σ cs) := by simp [AV.ren]
theorem r08 : AV.rens σ [] = [] := by simp [AV.rens]
theorem r09 (x : AV) (r : List AV) : AV.rens σ (x :: r) = x.ren σ :: AV.rens σ r := by simp [AV.rens]
end
theorem r10 (x : PV) : AV.names (.p x) = [] := by simp [AV.names]
theorem r11 (i : Nat) : AV.names (.own i) = [i] := by simp [AV.names]
theorem r12 (i sz k o : Nat) : AV.names (.ptr i sz k o) = [i] := by simp [AV.names]
theorem r13 (i : Nat) : AV.names (.mp i) = [i] := by simp [AV.names]
theorem r14 (cs : List AV) : AV.names (.agg cs) = AV.namess cs := by simp [AV.names]
theorem r15 (cs : List AV) : AV.names (.tup cs) = AV.namess cs := by simp [AV.names]
theorem r16 (f : FuncId) (cs : List AV) : AV.names (.fn f cs) = AV.namess cs := by simp [AV.names]
theorem r17 : AV.namess [] = [] := by simp [AV.namess]
theorem r18 (x : AV) (r : List AV) : AV.namess (x :: r) = x.names ++ AV.namess r := by simp [AV.namess]
section
variable (s : List Nat) (f : Nat)
theorem s01 (i : Nat) : sgm s f i = if i % 8 = 7 then s.getD (i / 8) 0 else f + i := rfl
theorem s02 (x : Nat) (r : List Nat) : (x :: r).getD 0 0 = x := rfl
theorem s03 (x i : Nat) (r : List Nat) : (x :: r).getD (i + 1) 0 = r.getD i 0 := rfl
theorem s04 (same : List Nat) (hp' : List (Nat × Blk)) : hpsOf s f same hp' [] = (hp'.filter fun q => q.1 % 8 != 7).map fun q => (f + q.1, some (q.2.ren (sgm s f))) := rfl
theorem s05 (same : List Nat) (hp' : List (Nat × Blk)) (i : Nat) (b : Blk) (r : List (Nat × Blk)) : hpsOf s f same hp' ((i, b) :: r) = if same.contains i = true then hpsOf s f same hp' r else (sgm s f i, (lkp hp' i).map (Blk.ren (sgm s f))) :: hpsOf s f same hp' r := rfl
theorem s06 (V : PS) : HpIn V s f [] = True := rfl
theorem s07 (V : PS) (i : Nat) (b : Blk) (r : List (Nat × Blk)) : HpIn V s f ((i, b) :: r) = (V.hp (sgm s f i) = some (b.ren (sgm s f)) ∧ HpIn V s f r) := rfl
theorem s08 (hp : List (Nat × Blk)) : BlksOk hp [] = True := rfl
theorem s09 (hp : List (Nat × Blk)) (i : Nat) (b : Blk) (r : List (Nat × Blk)) : BlksOk hp ((i, b) :: r) = (b.hasOnly (Nm hp) ∧ BlksOk hp r) := rfl
theorem s10 (hp hp' : List (Nat × Blk)) : SameIn hp hp' [] = True := rfl
theorem s11 (hp hp' : List (Nat × Blk)) (i : Nat) (r : List Nat) : SameIn hp hp' (i :: r) = (lkp hp' i = lkp hp i ∧ SameIn hp hp' r) := rfl
theorem s12 (hp : List (Nat × Blk)) (i : Nat) : Nm hp i = ((lkp hp i).isSome = true) := rfl
theorem s13 (n : Nat) (P : Nat → Prop) : (∀ i, i ∈ [n] → P i) = P n := by simp
theorem s14 (P : Nat → Prop) : (∀ i, i ∈ ([] : List Nat) → P i) = True := by simp
theorem s15 (a : Nat) (l : List Nat) (P : Nat → Prop) : (∀ i, i ∈ a :: l → P i) = (P a ∧ ∀ i, i ∈ l → P i) := by simp
end
theorem argA_nil (i : Nat) : argA i [] = [] := rfl
theorem argA_cons (i : Nat) (x : AV) (r : List AV) : argA i (x :: r) = (i, x) :: argA (i + 1) r := rfl
theorem hm : type_of% (And.intro (And.intro (And.intro (And.intro (And.intro @ren_lift @only_lift) (And.intro @only_one (And.intro @only_map @only_mapS))) (And.intro (And.intro @ren_one @ren_map) (And.intro @ren_mapS (And.intro @r01 @r02)))) (And.intro (And.intro (And.intro @r03 @r04) (And.intro @r05 (And.intro @r06 @r07))) (And.intro (And.intro @r08 (And.intro @r09 @r10)) (And.intro @r11 (And.intro @r12 @r13))))) (And.intro (And.intro (And.intro (And.intro @r14 @r15) (And.intro @r16 (And.intro @r17 @r18))) (And.intro (And.intro @s01 (And.intro @s02 @s03)) (And.intro @s04 (And.intro @s05 @s06)))) (And.intro (And.intro (And.intro @s07 @s08) (And.intro @s09 (And.intro @s10 @s11))) (And.intro (And.intro @s12 (And.intro @s13 @s14)) (And.intro @s15 (And.intro @argA_nil @argA_cons)))))) := (And.intro (And.intro (And.intro (And.intro (And.intro @ren_lift @only_lift) (And.intro @only_one (And.intro @only_map @only_mapS))) (And.intro (And.intro @ren_one @ren_map) (And.intro @ren_mapS (And.intro @r01 @r02)))) (And.intro (And.intro (And.intro @r03 @r04) (And.intro @r05 (And.intro @r06 @r07))) (And.intro (And.intro @r08 (And.intro @r09 @r10)) (And.intro @r11 (And.intro @r12 @r13))))) (And.intro (And.intro (And.intro (And.intro @r14 @r15) (And.intro @r16 (And.intro @r17 @r18))) (And.intro (And.intro @s01 (And.intro @s02 @s03)) (And.intro @s04 (And.intro @s05 @s06)))) (And.intro (And.intro (And.intro @s07 @s08) (And.intro @s09 (And.intro @s10 @s11))) (And.intro (And.intro @s12 (And.intro @s13 @s14)) (And.intro @s15 (And.intro @argA_nil @argA_cons))))))
section
variable {P : Program} {s : LS} {fn : Func} {hp' : List (Nat × Blk)}
theorem LE.refl (s : LS) : LE s s := fun _ _ _ h => h
theorem reth1 {t : Nat} {r r0 : AV} (hf : fn.results = #[.tmp t]) (h : lkp s.sl t = some r0) (hle : LE ⟨[(0, r0)], s.hp, s.nx⟩ ⟨[(0, r)], hp', 1⟩) : retH P fn r hp' .ret s := by
  refine ⟨r0, ?_, hle⟩
  rw [hf]; exact h
theorem reth2 {t u : Nat} {r0 q0 r : AV} (hf : fn.results = #[.tmp t, .tmp u]) (h : lkp s.sl t = some r0) (h2 : lkp s.sl u = some q0) (hle : LE ⟨[(0, .tup [r0, q0])], s.hp, s.nx⟩ ⟨[(0, r)], hp', 1⟩) : retH P fn r hp' .ret s := by
  refine ⟨_, ?_, hle⟩
  rw [hf]; exact ⟨_, rfl, h, h2, trivial⟩
theorem reth0 {r : AV} (hf : fn.results = #[]) (hle : LE ⟨[(0, .tup [])], s.hp, s.nx⟩ ⟨[(0, r)], hp', 1⟩) : retH P fn r hp' .ret s := by
  refine ⟨_, ?_, hle⟩
  rw [hf]; exact ⟨_, rfl, trivial⟩
theorem rethc {a ty : Nat} {r v : AV} {g : Bool} {n : Nat} (hf : fn.results = #[.cell a ty]) (h : lkp s.sl a = some v) (ht : tSz P ty = some (g, n)) (hl : loadK s.ps v g n fun x => LE ⟨[(0, x)], s.hp, s.nx⟩ ⟨[(0, r)], hp', 1⟩) : retH P fn r hp' .ret s := by
  obtain ⟨x, hx, hle⟩ := hl
  refine ⟨x, ?_, hle⟩
  rw [hf]; exact ⟨v, h, g, n, ht, hx⟩
theorem normH {r : AV} (h : retH P fn r hp' .ret s) : retH P fn r hp' .normal s := h
/-- a variable's cell that is handed back -/
theorem retc {a ty : Nat} {v : AV} {r : PV} {g : Bool} {n : Nat} (h : lkp s.sl a = some v) (ht : tSz P ty = some (g, n)) (hl : loadK s.ps v g n fun y => ResA s.hp y r) : resV P s (.cell a ty) r := by
  obtain ⟨y, hy, hr⟩ := hl
  exact ⟨v, h, g, n, ht, y, hy, hr⟩
theorem rett {t : Nat} {x : AV} {r : PV} (h : lkp s.sl t = some x) (hr : ResA s.hp x r) : resV P s (.tmp t) r := ⟨x, h, hr⟩
theorem retl {rv : List ResultVar} {rs : List PV} {v u : ResultVar} {l : List ResultVar} (hf : fn.results.toList = rv) (hv : rv = v :: u :: l) (h : resVs P s rv rs) : retK P fn (.tup rs) .ret s := by
  show resR P s fn.results.toList _
  rw [hf, hv]; rw [hv] at h; exact ⟨_, rfl, h⟩
theorem retone {v : ResultVar} {r : PV} (hf : fn.results = #[v]) (h : resV P s v r) : retK P fn r .ret s := by
  show resR P s fn.results.toList _
  rw [hf]; exact h
theorem ResA.agg_nil {hp : List (Nat × Blk)} : ResA hp (.agg []) (.agg []) := .agg rfl (fun i x y h => by simp at h)
theorem ResA.agg_cons {hp : List (Nat × Blk)} {x : AV} {y : PV} {xs : List AV} {ys : List PV} (h : ResA hp x y) (hs : ResA hp (.agg xs) (.agg ys)) : ResA hp (.agg (x :: xs)) (.agg (y :: ys)) := by
  cases hs with
  | agg hl hi =>
    refine .agg (by simp [hl]) (fun i a b ha hb => ?_)
    cases i with
    | zero => simp only [List.getElem?_cons_zero, Option.some.injEq] at ha hb; subst ha hb; exact h
    | succ i => exact hi i a b (by simpa using ha) (by simpa using hb)
end
end Go.Am
