/-
  The abstract machine, nineteenth part: functions by what they answer.
-/
import Derived.Test.YtbdliooaiincdaaAm18
namespace Go.Am
open Go.RowKit

/-- A function that answers r of these arguments, from whatever world, and turns nothing that was there. -/
def PCall (P : Program) (f : FuncId) (args : List PV) (r : PV) : Prop :=
  ∀ (O : Nat → Prop) (w : World) (vs : Array Value), (∀ b, O b → b < w.heap.size) → vs.size = args.length → (∀ i x, args[i]? = some x → RepP O w x (vs.getD i undef)) →
    Calls P f vs w fun e w' => ∃ v, e = .returned v ∧ RepP O w' r v ∧ Below w.heap.size w w'

theorem callsA_of_pcall {P : Program} {g : FuncId} {xs : List AV} {args : List PV} {r : PV} {f : Nat} {V : PS} {dst : Option Nat} (hx : pures xs = some args) (h : PCall P g args r) : CallsA P g xs f V dst ⟨.p r, []⟩ := by
  intro C U s ρ a w vs hd hf hV hs hsz hr
  have e := pures_spec _ _ hx
  subst e
  refine (h (Own C s ρ) w vs (fun b hb => ?_) (by simpa using hsz) (fun i x hi => (hr i (.p x) (by simp [hi])).unP)).mono fun e w' ⟨v, he, hv, hb⟩ => ⟨v, he, ρ, ?_⟩
  · by_cases hlt : b < w.heap.size
    · exact hlt
    · exact absurd hb (hs.notOwn (by omega))
  · have hm := hs.move (w' := w') hb.size hb.block hb.os hb.tape hb.output
    exact (hm.put hd (.p _ _ hv)).widen (fun _ => .inl)

theorem callK_p {P : Program} {g : FuncId} {xs : List AV} {f : Nat} {V : PS} {dst : Option Nat} {K : Upd → Prop} {args : List PV} {r : PV} (h : PCall P g args r) (hx : pures xs = some args) (hK : K ⟨.p r, []⟩) :
    callK P g xs f V dst K := ⟨_, callsA_of_pcall hx h, hK⟩

/-! ### results -/
inductive ResA (hp : List (Nat × Blk)) : AV → PV → Prop
  | p {x y : PV} : LeP x y → ResA hp (.p x) y
  | own {id sz : Nat} {es : List (List PV)} : lkp hp id = some (.row sz (lift es)) → ResA hp (.own id) (.seq false es)
  | agg {cs : List AV} {rs : List PV} : cs.length = rs.length → (∀ (i : Nat) (x : AV) (y : PV), cs[i]? = some x → rs[i]? = some y → ResA hp x y) → ResA hp (.agg cs) (.agg rs)

theorem resA_rep {C : Ctx} {U : Nat → Prop} {s : LS} {ρ : Nat → Option Value} {a : Act} {w : World} (h : SatR C U s.ps ρ a w) {x : AV} {r : PV} (hr : ResA s.hp x r) {v : Value} (hv : RepA (Own C s.ps ρ) ρ w x v) : RepP C.Oc w r v := by
  have hm : Moves (Own C s.ps ρ) w C.Oc w := ⟨Nat.le_refl _, fun _ _ _ => rfl, fun _ _ h => .inl h⟩
  induction hr generalizing v with
  | p hle => exact hle _ _ _ (hv.unP.mono hm)
  | @own id sz es hid =>
    obtain ⟨u, hu, hb⟩ := h.heap id _ hid
    cases hv with
    | own _ ad n c hi =>
      rw [hu] at hi; injection hi with hi; subst hi
      rcases hb with ⟨hnil, a', ha'⟩ | ⟨b, cap, cur, e, h1, h0, h2, h3, h4, h5, h6, h7⟩
      · have : es = [] := by simpa [lift] using hnil
        subst this
        injection ha' with q1 q2 q3; subst q1 q2 q3
        exact .nilseq _ _ _ (fun h => by cases h)
      · rcases h1 with h1 | ⟨h1, _⟩
        · injection h1 with q1 q2 q3; subst q1 q3
          rw [lift_length] at q2; subst q2
          have hok : BlkOk (Own C s.ps ρ) ρ w sz (lift es) c cur := ⟨h3, h4, h5, h6, h7⟩
          have hrange := (h.range id _ _ b hid hu (by simp [oblk]; omega)).2.1
          refine .seq false es sz b 0 c (fun j => cur.getD j undef) (lift_len.1 h6) (by rw [lift_length] at h3; exact h3) (fun h => by cases h) (fun j hj => ?_) (fun j y hy => (blk_get hok hy).2.1.mono hm)
          have := blk_get hok (List.getElem?_eq_getElem hj)
          refine ⟨hrange, ?_, this.2.2⟩
          rw [Nat.zero_add]; exact cell_row h2 this.1
        · cases h1
  | @agg cs rs hl _ ih =>
    cases hv with
    | agg _ vs h1 h2 h3 =>
      refine .agg _ _ (h1.trans hl) (fun i y hy => ?_) (fun i hi => h3 i (by rw [hl]; exact hi))
      have hlt := (List.getElem?_eq_some_iff.1 hy).1
      have hx : cs[i]? = some (cs[i]'(by rw [hl]; exact hlt)) := by simp
      exact ih i _ y hx hy (h2 i _ hx)

/-- one result variable -/
def resV (P : Program) (s : LS) : ResultVar → PV → Prop
  | .tmp t, r => ∃ x, lkp s.sl t = some x ∧ ResA s.hp x r
  | .cell a ty, r => ∃ v, lkp s.sl a = some v ∧ ∃ g n, tSz P ty = some (g, n) ∧ ∃ x, loadR s.ps v g n x ∧ ResA s.hp x r
def resVs (P : Program) (s : LS) : List ResultVar → List PV → Prop
  | [], [] => True
  | v :: vs, r :: rs => resV P s v r ∧ resVs P s vs rs
  | _, _ => False
def resR (P : Program) (s : LS) (rv : List ResultVar) (r : PV) : Prop :=
  match rv with
  | [v] => resV P s v r
  | vs => ∃ rs, r = .tup rs ∧ resVs P s vs rs

def retK (P : Program) (fn : Func) (r : PV) (e : Exit) (s : LS) : Prop :=
  match e with
  | .ret | .normal => resR P s fn.results.toList r
  | _ => False

def getR (tmps : Array Value) (rv : ResultVar) : Sem Value :=
  match rv with
  | .tmp t => pure (tmps.getD t undef)
  | .cell a t => do loadVar t (← asAddr (tmps.getD a undef))
theorem results_eq (fn : Func) (tmps : Array Value) : results fn tmps = (do let vs ← fn.results.mapM (getR tmps); pure (if h : vs.size = 1 then vs[0] else .tuple vs)) := rfl

theorem run_resV {P : Program} {C : Ctx} {U : Nat → Prop} {s : LS} {ρ : Nat → Option Value} {a : Act} {w : World} (h : SatR C U s.ps ρ a w) {rv : ResultVar} {r : PV} (hr : resV P s rv r) :
    ∃ v, (getR a.tmps rv).run P w = .ok v w ∧ RepP C.Oc w r v := by
  cases rv with
  | tmp t =>
    obtain ⟨x, hx, hres⟩ := hr
    exact ⟨_, rfl, resA_rep h hres (h.slots t x hx)⟩
  | cell q ty =>
    obtain ⟨v, hv, g, n, ht, x, hl, hres⟩ := hr
    have hvr := h.slots q v hv
    obtain ⟨z, hz, hzr⟩ := load_rep ht hl (fun id k hk => h.heap id k hk) hvr
    refine ⟨z, ?_, resA_rep h hres hzr⟩
    simp only [getR]
    generalize a.tmps.getD q undef = y at hvr hz ⊢
    have key : ∃ ad, y = .pointer (some ad) := by
      unfold loadR at hl
      cases hvr with
      | ptr => exact ⟨_, rfl⟩
      | pp => exact ⟨_, rfl⟩
      | p => exact hl.elim
      | own => exact hl.elim
      | sub => exact hl.elim
      | sub0 => exact hl.elim
      | agg => exact hl.elim
      | tup => exact hl.elim
      | fn => exact hl.elim
      | mp => exact hl.elim
    obtain ⟨ad, rfl⟩ := key
    simpa [getR, asAddr, Instr.loadAt, Instr.sureAddr] using hz

theorem run_results {P : Program} {C : Ctx} {U : Nat → Prop} {s : LS} {ρ : Nat → Option Value} {a : Act} {w : World} (h : SatR C U s.ps ρ a w) {fn : Func} {r : PV} (hr : resR P s fn.results.toList r) :
    ∃ v, (results fn a.tmps).run P w = .ok v w ∧ RepP C.Oc w r v := by
  have many : ∀ (l : List ResultVar) (rs : List PV), resVs P s l rs → ∃ us : List Value, us.length = rs.length ∧ us.length = l.length ∧ (∀ i x, rs[i]? = some x → RepP C.Oc w x (us.getD i undef)) ∧
      (l.mapM (getR a.tmps)).run P w = .ok us w := by
    intro l
    induction l with
    | nil =>
      intro rs hrs
      cases rs with
      | nil => exact ⟨[], rfl, rfl, fun i x hx => by simp at hx, by simp⟩
      | cons => exact hrs.elim
    | cons v l ih =>
      intro rs hrs
      cases rs with
      | nil => exact hrs.elim
      | cons r rs =>
        obtain ⟨u, hu, hur⟩ := run_resV h hrs.1
        obtain ⟨us, h1, h2, h3, h4⟩ := ih rs hrs.2
        refine ⟨u :: us, by simp [h1], by simp [h2], fun i x hx => ?_, ?_⟩
        · cases i with
          | zero => simp only [List.getElem?_cons_zero, Option.some.injEq] at hx; subst hx; simpa using hur
          | succ i => simpa using h3 i x (by simpa using hx)
        · rw [List.mapM_cons, Sem.run_bind, hu]
          simp only [Result.andThen_ok, Sem.run_bind, h4, Sem.run_pure]
  have key : ∀ (l : List ResultVar) (us : List Value), fn.results.toList = l → us.length = l.length → (l.mapM (getR a.tmps)).run P w = .ok us w →
      (results fn a.tmps).run P w = .ok (if h : us.toArray.size = 1 then us.toArray[0] else .tuple us.toArray) w := by
    intro l us hl hlen hrun
    have hfn : fn.results = l.toArray := by rw [← hl]
    rw [results_eq, hfn]
    simp only [Sem.run_bind, List.mapM_toArray, Sem.run_map, hrun, Result.andThen_ok, Sem.run_pure]
  generalize hl : fn.results.toList = l at hr key
  unfold resR at hr
  split at hr
  · rename_i v
    obtain ⟨us, h1, h2, h3, h4⟩ := many [v] [r] ⟨hr, trivial⟩
    have hk := key [v] us rfl h2 h4
    obtain ⟨u, rfl⟩ : ∃ u, us = [u] := by
      cases us with
      | nil => simp at h2
      | cons u us => cases us with | nil => exact ⟨u, rfl⟩ | cons => simp at h2
    refine ⟨u, by simpa using hk, ?_⟩
    simpa using h3 0 r rfl
  · rename_i hne
    obtain ⟨rs, rfl, hrs⟩ := hr
    obtain ⟨us, h1, h2, h3, h4⟩ := many l rs hrs
    have hk := key l us rfl h2 h4
    have hn1 : us.toArray.size ≠ 1 := by
      intro h
      have : l.length = 1 := by rw [← h2]; simpa using h
      match l, this with
      | [v], _ => exact hne v rfl
    rw [dif_neg hn1] at hk
    refine ⟨_, hk, .tup _ _ (by simpa using h1) (fun i x hx => ?_)⟩
    have := h3 i x hx
    rw [List.getD_eq_getElem?_getD] at this
    rw [Array.getD_eq_getD_getElem?, List.getElem?_toArray]; exact this

def argSl : Nat → List PV → List (Nat × AV)
  | _, [] => []
  | i, x :: r => (i, .p x) :: argSl (i + 1) r
theorem lkp_argSl : ∀ (l : List PV) (i d : Nat) (x : AV), lkp (argSl i l) d = some x → ∃ y j, x = .p y ∧ l[j]? = some y ∧ d = i + j
  | [], i, d, x, h => by simp [argSl, lkp] at h
  | y :: l, i, d, x, h => by
    simp only [argSl, lkp] at h
    split at h
    · rename_i e
      simp only [Option.some.injEq] at h; subst h
      exact ⟨y, 0, rfl, rfl, by omega⟩
    · obtain ⟨z, j, h1, h2, h3⟩ := lkp_argSl l (i + 1) d x h
      exact ⟨z, j + 1, h1, by simpa using h2, by omega⟩

theorem pcall_of_awp {P : Program} {f : FuncId} {fn : Func} {c : Code} {args : List PV} {r : PV} (hf : P.funcs[f]? = some fn) (hb : fn.body = some c) (hn : args.length ≤ fn.ntmps)
    (h : ∀ C : Ctx, C.n = fn.ntmps → Awp P C c (retK P fn r) ⟨argSl 0 args, [], 0⟩) : PCall P f args r := by
  intro O w vs hO hsz hr
  refine calls_of_wp hf hb ?_
  let C : Ctx := ⟨w, O, fun _ => False, fn.ntmps, fun _ => none⟩
  have hs : Sat C (fun i => nmPos i ≤ 0) (⟨argSl 0 args, [], 0⟩ : LS).ps ⟨vs ++ Array.replicate (fn.ntmps - vs.size) undef, []⟩ w := by
    refine ⟨fun _ => none, ⟨rfl, by simp [C]; omega, fun d x hx => ?_, fun id k hk => (by cases hk), fun i j k l v u b hk => (by cases hk), fun _ _ => rfl, fun id k v b hk => (by cases hk), hO, rfl, rfl, rfl, Nat.le_refl _, fun _ _ _ => rfl, fun j v hj => (by cases hj)⟩⟩
    obtain ⟨y, j, rfl, hy, rfl⟩ := lkp_argSl args 0 d x hx
    have hj := (List.getElem?_eq_some_iff.1 hy).1
    have := hr j y hy
    rw [Nat.zero_add, Array.getD_eq_getD_getElem?, Array.getElem?_append_left (by omega), ← Array.getD_eq_getD_getElem?]
    refine .p _ _ (this.mono ⟨Nat.le_refl _, fun _ _ _ => rfl, fun b hb ho => ?_⟩)
    rcases ho with ho | ⟨id, k, v, hk, _⟩
    · exact ho
    · cases hk
  refine wp_mono (h C rfl _ w hs) fun e a' w' ⟨s', hk, ρ, hsat⟩ => ?_
  have fin : resR P s' fn.results.toList r → bodyPost P fn (fun e w' => ∃ v, e = .returned v ∧ RepP O w' r v ∧ Below w.heap.size w w') .ret a' w' := by
    intro hres
    obtain ⟨v, hv, hrep⟩ := run_results hsat hres
    exact ⟨hsat.defers, v, hv, v, rfl, hrep, ⟨hsat.os, hsat.tape, hsat.output, hsat.grows, fun b hb => hsat.frame b hb (fun h => h)⟩⟩
  cases e with
  | ret => exact fin hk
  | normal => exact fin hk
  | exit => exact hk.elim
  | goto => exact hk.elim
  | panic => exact hk.elim
  | outgrown => exact hk.elim

end Go.Am
