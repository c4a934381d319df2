/-
  WireStreams, part 2 of 5: what the proof that the law holds at whatever arguments stands on; the last part holds the theorem. No condition.
-/
import Derived.Test.YtjkkjiaeeobnkaaWireStreamsZ1
import Derived.Test.YtjkkjiaeeobnkaaRows
section
namespace Go.Am
open Go.RowKit
section
variable {P : Program} {H : List Nat} {f : Nat} {V : PS} {K : Upd → Prop}
theorem one_arr {α : Type} {xs : Array α} {x : α} (h : xs.toList = [x]) : xs = #[x] := by rw [← Array.toArray_toList (xs := xs), h]
theorem snd_len {o : Oper} {args : Array Operand} {ts : Array TypeId} {x : Operand} {t e : Nat} (ho : o.op = .call ⟨.builtin .len, args, ts⟩) (ha : args.toList = [x]) (ht : ts.toList = [t]) (hT : tEl P t = some e) {v : AV}
    (hv : V.eval x = some v) {n : Nat} (hn : lenR V v n) (hK : K ⟨.p (.lit (.int .i64 n)), []⟩) : ∃ u, K u ∧ StepA P o f V u :=
  mk_pure hK fun O ρ s a w hE hH => by
    have ha' := one_arr ha
    have ht' := one_arr ht
    subst ha' ht'
    have hu := hE x (by simp [ho, Op.operands, Call.operands]) v hv
    refine ⟨_, ?_, .p _ _ (.lit _)⟩
    have key : ∃ ad c, a.eval x = .slice ad n c := by
      unfold lenR at hn
      split at hn
      · subst hn
        obtain ⟨ad, c, h, _⟩ := seq_shape hu.unP
        exact ⟨ad, c, h⟩
      · rename_i id
        obtain ⟨sz, es, hid, rfl⟩ := hn
        obtain ⟨u, hu2, hb⟩ := hH id _ hid
        generalize a.eval x = z at hu
        cases hu with
        | own _ ad len cap hi2 =>
          rw [hu2] at hi2; injection hi2 with hi2; subst hi2
          rcases hb with ⟨rfl, a', ha'⟩ | ⟨b, cap', cur, e', h1, h0, h2, hok⟩
          · injection ha' with q1 q2 q3; subst q2; exact ⟨_, _, rfl⟩
          · rcases h1 with h1 | ⟨h1, _⟩
            · injection h1 with q1 q2 q3; subst q2; exact ⟨_, _, rfl⟩
            · cases h1
      · rename_i id sz lo m
        subst hn
        generalize a.eval x = z at hu
        cases hu with
        | sub => exact ⟨_, _, rfl⟩
        | sub0 => exact ⟨_, _, rfl⟩
      · exact hn.elim
    obtain ⟨ad, c, he⟩ := key
    simp [execOp, ho, resolve, invoke, builtin, he, Builtin.len_, run_underlying (el_run hT), goInt]
theorem snd_cap {o : Oper} {args : Array Operand} {ts : Array TypeId} {x : Operand} {t e : Nat} (ho : o.op = .call ⟨.builtin .cap, args, ts⟩) (ha : args.toList = [x]) (ht : ts.toList = [t]) (hT : tEl P t = some e) {es : List (List PV)}
    (hv : V.eval x = some (.p (.seq true es))) (hK : K ⟨.p (.lit (.int .i64 es.length)), []⟩) : ∃ u, K u ∧ StepA P o f V u :=
  mk_pure hK fun O ρ s a w hE hH => by
    have ha' := one_arr ha
    have ht' := one_arr ht
    subst ha' ht'
    have hu := hE x (by simp [ho, Op.operands, Call.operands]) _ hv
    refine ⟨_, ?_, .p _ _ (.lit _)⟩
    obtain ⟨ad, c, he, _, hc⟩ := seq_shape hu.unP
    have hc := hc rfl
    subst hc
    simp [execOp, ho, resolve, invoke, builtin, he, Builtin.cap_, run_underlying (el_run hT), goInt]
theorem evalInts_spec {a : Act} {O : Nat → Prop} {ρ : Nat → Option Value} {w : World} : ∀ (xs : List Operand) (vs : List (IntKind × Int)), (∀ y, y ∈ xs → ∀ v, V.eval y = some v → RepA O ρ w v (a.eval y)) → aop.evalInts V xs = some vs →
    xs.map a.eval = vs.map fun (k, n) => Value.int k n
  | [], vs, _, h => by simp [aop.evalInts] at h; subst h; rfl
  | x :: xs, vs, hE, h => by
    simp only [aop.evalInts] at h
    split at h
    · rename_i k n us hx hus
      simp only [Option.some.injEq] at h; subst h
      simp only [List.map_cons, evalInts_spec xs us (fun y hy => hE y (by simp [hy])) hus]
      rw [(hE x (by simp) _ hx).lit]
    · cases h
theorem run_min {w : World} : ∀ (vs : List (IntKind × Int)) (k : IntKind) (n : Int), ((vs.map fun (k, n) => Value.int k n).foldlM Builtin.min2 (.int k n)).run P w = .ok (.int k (vs.foldl (fun x y => if y.2 < x then y.2 else x) n)) w
  | [], k, n => by simp
  | (k', m) :: vs, k, n => by
    simp only [List.map_cons, List.foldlM_cons, Sem.run_bind, Builtin.min2, Sem.run_pure, Result.andThen_ok, List.foldl_cons]
    exact run_min vs k _
theorem run_max {w : World} : ∀ (vs : List (IntKind × Int)) (k : IntKind) (n : Int), ((vs.map fun (k, n) => Value.int k n).foldlM Builtin.max2 (.int k n)).run P w = .ok (.int k (vs.foldl (fun x y => if y.2 > x then y.2 else x) n)) w
  | [], k, n => by simp
  | (k', m) :: vs, k, n => by
    simp only [List.map_cons, List.foldlM_cons, Sem.run_bind, Builtin.max2, Sem.run_pure, Result.andThen_ok, List.foldl_cons]
    exact run_max vs k _
theorem snd_min {o : Oper} {args : Array Operand} {ts : Array TypeId} (ho : o.op = .call ⟨.builtin .min, args, ts⟩) {vs : List (IntKind × Int)} (hv : aop.evalInts V args.toList = some vs) {k : IntKind} {r : Int} (hr : aop.minR vs = some (k, r))
    (hK : K ⟨.p (.lit (.int k r)), []⟩) : ∃ u, K u ∧ StepA P o f V u :=
  mk_pure hK fun O ρ s a w hE hH => by
    have h := evalInts_spec (O := O) (ρ := ρ) (w := w) (a := a) args.toList vs (fun y hy => hE y (by simp [ho, Op.operands, Call.operands]; exact Array.mem_toList_iff.1 hy)) hv
    refine ⟨_, ?_, .p _ _ (.lit _)⟩
    cases vs with
    | nil => cases hr
    | cons q vs =>
      obtain ⟨k', n⟩ := q
      simp only [aop.minR, Option.some.injEq, Prod.mk.injEq] at hr
      obtain ⟨rfl, rfl⟩ := hr
      have h2 : (args.map a.eval).toList = .int k' n :: vs.map fun (k, n) => Value.int k n := by rw [Array.toList_map, h]; rfl
      simp only [execOp, ho, resolve, invoke, builtin, Sem.run_bind, Sem.run_pure, Result.andThen_ok, Builtin.min_, h2, run_min]
theorem snd_max {o : Oper} {args : Array Operand} {ts : Array TypeId} (ho : o.op = .call ⟨.builtin .max, args, ts⟩) {vs : List (IntKind × Int)} (hv : aop.evalInts V args.toList = some vs) {k : IntKind} {r : Int} (hr : aop.maxR vs = some (k, r))
    (hK : K ⟨.p (.lit (.int k r)), []⟩) : ∃ u, K u ∧ StepA P o f V u :=
  mk_pure hK fun O ρ s a w hE hH => by
    have h := evalInts_spec (O := O) (ρ := ρ) (w := w) (a := a) args.toList vs (fun y hy => hE y (by simp [ho, Op.operands, Call.operands]; exact Array.mem_toList_iff.1 hy)) hv
    refine ⟨_, ?_, .p _ _ (.lit _)⟩
    cases vs with
    | nil => cases hr
    | cons q vs =>
      obtain ⟨k', n⟩ := q
      simp only [aop.maxR, Option.some.injEq, Prod.mk.injEq] at hr
      obtain ⟨rfl, rfl⟩ := hr
      have h2 : (args.map a.eval).toList = .int k' n :: vs.map fun (k, n) => Value.int k n := by rw [Array.toList_map, h]; rfl
      simp only [execOp, ho, resolve, invoke, builtin, Sem.run_bind, Sem.run_pure, Result.andThen_ok, Builtin.max_, h2, run_max]
theorem snd_not {o : Oper} {T : TypeId} {x : Operand} {b : Bool} (ho : o.op = .unOp .not T x) (hx : V.eval x = some (.p (.lit (.bool b)))) (hK : K ⟨.p (.lit (.bool (!b))), []⟩) : ∃ u, K u ∧ StepA P o f V u :=
  mk_pure hK fun O ρ s a w hE hH => by
    have h1 := (hE x (by simp [ho, Op.operands]) _ hx).lit
    exact ⟨_, by simp [execOp, ho, h1, Op.unary], .p _ _ (.lit _)⟩
theorem snd_neg {o : Oper} {T : TypeId} {x : Operand} {k : IntKind} {n : Int} (ho : o.op = .unOp .neg T x) (hx : V.eval x = some (.p (.lit (.int k n)))) (hK : K ⟨.p (.lit (.int k (k.wrap (0 - n)))), []⟩) : ∃ u, K u ∧ StepA P o f V u :=
  mk_pure hK fun O ρ s a w hE hH => by
    have h1 := (hE x (by simp [ho, Op.operands]) _ hx).lit
    exact ⟨_, by simp [execOp, ho, h1, Op.unary, Op.intArith], .p _ _ (.lit _)⟩
theorem evals_spec {a : Act} {O : Nat → Prop} {ρ : Nat → Option Value} {w : World} : ∀ (xs : List Operand) (vs : List AV), (∀ y, y ∈ xs → ∀ v, V.eval y = some v → RepA O ρ w v (a.eval y)) → evals V xs = some vs →
    vs.length = xs.length ∧ ∀ i x, vs[i]? = some x → RepA O ρ w x ((xs.map a.eval).getD i undef)
  | [], vs, _, h => by simp [evals] at h; subst h; simp
  | x :: xs, vs, hE, h => by
    simp only [evals] at h
    split at h
    · rename_i v us hx hus
      simp only [Option.some.injEq] at h; subst h
      have ih := evals_spec xs us (fun y hy => hE y (by simp [hy])) hus
      refine ⟨by simp [ih.1], fun i y hy => ?_⟩
      cases i with
      | zero => simp only [List.getElem?_cons_zero, Option.some.injEq] at hy; subst hy; simpa using hE x (by simp) _ hx
      | succ i => simpa using ih.2 i y (by simpa using hy)
    · cases h
theorem snd_makeFunc {o : Oper} {g : FuncId} {first caps : Array Operand} {cs : List AV} (ho : o.op = .makeFunc (.func g) first caps) (hf : first.size = 0) (hc : evals V caps.toList = some cs) (hK : K ⟨.fn g cs, []⟩) : ∃ u, K u ∧ StepA P o f V u :=
  mk_pure hK fun O ρ s a w hE hH => by
    have h := evals_spec (O := O) (ρ := ρ) (w := w) (a := a) caps.toList cs (fun y hy => hE y (by simp only [ho, Op.operands]; simp; exact .inr (Array.mem_toList_iff.1 hy))) hc
    have hfe : first = #[] := by simpa using hf
    subst hfe
    refine ⟨.func (.func g) #[] (caps.map a.eval), by simp [execOp, ho, Instr.makeFunc], .fn g cs _ (by simp [h.1]) (fun i x hx => ?_)⟩
    have := h.2 i x hx
    rw [Array.getD_eq_getD_getElem?, Array.getElem?_map]
    rw [List.getD_eq_getElem?_getD, List.getElem?_map] at this
    simpa using this
theorem snd_call {o : Oper} {g : Operand} {args : Array Operand} {ts : Array TypeId} (ho : o.op = .call ⟨.value g, args, ts⟩) {h : FuncId} {caps xs : List AV} (hg : V.eval g = some (.fn h caps)) (hen : enters P h = true)
    (hx : evals V args.toList = some xs) {u : Upd} (hc : CallsA P h (xs ++ caps) f V o.dst u) (hK : K u) : ∃ u, K u ∧ StepF P o f V u := by
  refine ⟨u, hK, ?_⟩
  intro C U s a w hd hf hV hHp ⟨ρ, hs⟩ Q
  have hgr := hs.eval (hV g (by simp [ho, Op.operands, Call.operands]) _ hg)
  have hxr := evals_spec (O := Own C s ρ) (ρ := ρ) (w := w) (a := a) args.toList xs (fun y hy v hv => hs.eval (hV y (by simp only [ho, Op.operands, Call.operands]; simp; exact .inr (Array.mem_toList_iff.1 hy)) v hv)) hx
  generalize hz : a.eval g = z at hgr
  cases hgr with
  | fn _ _ vs hvs hcaps =>
    have hcall := hc C U s ρ a w (args.map a.eval ++ vs) hd hf hHp hs (by simp [hxr.1, hvs]) (fun i x hi => ?_)
    · unfold enters at hen
      split at hen
      · rename_i fn hfn
        simp only [Bool.and_eq_true, Bool.not_eq_true', beq_eq_false_iff_ne, ne_eq] at hen
        obtain ⟨c, hb⟩ := Option.isSome_iff_exists.1 hen.1
        have hexec : (execOp a.eval o).run P w = .ok (.enter h (args.map a.eval ++ vs)) w := by
          simp [execOp, ho, resolve, hz, Deferred.ofValue, invoke, callFunc, hfn, hen.2, hb]
        unfold Oper.wp
        rw [hexec]
        show Calls _ _ _ _ _
        refine hcall.mono fun e w' ⟨v, he, hsat⟩ => ?_
        subst he
        exact hsat
      · cases hen
    · by_cases hlt : i < xs.length
      · rw [List.getElem?_append_left hlt] at hi
        have := hxr.2 i x hi
        rw [List.getD_eq_getElem?_getD, List.getElem?_map] at this
        rw [Array.getD_eq_getD_getElem?, Array.getElem?_append_left (by have := hxr.1; simp at this ⊢; omega), Array.getElem?_map]
        simpa using this
      · rw [List.getElem?_append_right (by omega)] at hi
        have := hcaps _ x hi
        rw [Array.getD_eq_getD_getElem?] at this ⊢
        rw [Array.getElem?_append_right (by simp; have := hxr.1; simp at this; omega)]
        have e : (args.map a.eval).size = xs.length := by simp [hxr.1]
        rw [e]; exact this
theorem toF {o : Oper} (h : ∃ u, K u ∧ StepA P o f V u) : ∃ u, K u ∧ StepF P o f V u := let ⟨u, hu, hs⟩ := h; ⟨u, hu, stepF_of hs⟩
theorem aop_sound {o : Oper} (h : aop P H f V o.dst o.op K) : ∃ u, K u ∧ StepF P o f V u := by
  obtain ⟨dst, op, type, pos, after, guard⟩ := o
  simp only at h
  unfold aop at h
  split at h
  · obtain ⟨v, hv, hK⟩ := h; exact toF (snd_move (.inl rfl) hv hK)
  · obtain ⟨v, hv, hK⟩ := h; exact toF (snd_move (.inr rfl) hv hK)
  · obtain ⟨t, ht, v, hv, hK⟩ := h; exact toF (snd_pick rfl ht hv hK)
  · obtain ⟨g, zs, ht, hK⟩ := h; exact toF (snd_alloc rfl ht hK)
  · obtain ⟨v, hv, cs, hc, hK⟩ := h; exact toF (snd_box rfl hv hc hK)
  · obtain ⟨zs, ht, hb, vs, hv, cs, hc, hK⟩ := h; exact toF (snd_build rfl ht hb hv hc hK)
  · obtain ⟨e, hT, g, zs, ht, h0, hn, hl, es, hr, hK⟩ := h; exact toF (snd_buildSlice rfl hT ht h0 hn hl hr hK)
  · obtain ⟨v, hv, g, n, ht, r, hr, hK⟩ := h; exact toF (snd_load rfl hv ht hr hK)
  · obtain ⟨id, sz, k, off, hx, v, hv, vs, hc, g, ht, es, hid, cs, hk, hle, hK⟩ := h; exact toF (snd_store rfl hx hv hc ht hid hk hle hK)
  · obtain ⟨v, hv, hp, hK⟩ := h; exact toF (snd_nilCheck rfl hv hp hK)
  · obtain ⟨u, hx, v, hy, r, hr, hK⟩ := h; exact toF (snd_binOp rfl hx hy hr hK)
  · split at h
    · obtain ⟨b, hb, hK⟩ := h; exact toF (snd_not rfl hb hK)
    · obtain ⟨k, n, hn, hK⟩ := h; exact toF (snd_neg rfl hn hK)
    · exact h.elim
  · unfold cvK at h
    split at h
    · rename_i k n hx; obtain ⟨hs, k', hd, hK⟩ := h; exact toF (snd_convert rfl hx hs hd hK)
    · rename_i c es hx; obtain ⟨hB, s, hs, hK⟩ := h; exact toF (snd_b2s rfl hB hx hs hK)
    · exact h.elim
  · obtain ⟨hT, p, hx, u, hu, hK⟩ := h; exact toF (snd_makeInterface rfl hT hx hu hK)
  · obtain ⟨hok, hT, t, u, hx, ht, hK⟩ := h; subst hok ht; exact toF (snd_typeAssert rfl hT hx hK)
  · obtain ⟨e, hT, g, sz, hs, v, hv, a, ha, b, hb, d, hd, hdb, h0, h⟩ := h
    split at h
    · obtain ⟨hl, h1, h2, h3, hK⟩ := h; exact toF (snd_slice_seq rfl hT hs hv ha hb hd hdb h0 hl h1 h2 h3 hK)
    · obtain ⟨es, hid, hd0, h1, h2, h⟩ := h
      split at h
      · obtain ⟨hz, hne, hK⟩ := h; exact toF (snd_shrink rfl hT hs hv ha hb hd hd0 h0 hid h1 h2 hz hne hK)
      · exact toF (snd_slice_own rfl hT hs hv ha hb hd hd0 h0 hid h1 h2 h)
    · exact h.elim
  · obtain ⟨off, sz, g, ht, v, hv, r, hr, hK⟩ := h; exact toF (snd_fieldAddr rfl ht hv hr hK)
  · obtain ⟨n, hi, h0, v, hv, h⟩ := h
    split at h
    · rename_i e hT
      obtain ⟨g, sz, hs, r, hr, hK⟩ := h; exact toF (snd_indexAddr_sl rfl hi h0 hT hs hv hr hK)
    · obtain ⟨len, sz, g, ht, hn, r, hr, hK⟩ := h; exact toF (snd_indexAddr_arr rfl hi h0 ht hn hv hr hK)
  · obtain ⟨off, sz, g, ht, v, hv, cs, hc, r, hr, hK⟩ := h; exact toF (snd_field rfl ht hv hc hr hK)
  · obtain ⟨n, hi, h0, len, sz, g, ht, hn, v, hv, cs, hc, r, hr, hK⟩ := h; exact toF (snd_index rfl hi h0 ht hn hv hc hr hK)
  · obtain ⟨v, hv, vs, ht, r, hr, hK⟩ := h; exact toF (snd_extract rfl hv ht hr hK)
  · obtain ⟨hf, cs, hc, hK⟩ := h; exact toF (snd_makeFunc rfl hf hc hK)
  · obtain ⟨e, hT, by', hby, g, zs, hvar, hpos, n, hx, c, hy, h0, hnc, hb, hm, hK⟩ := h; exact toF (snd_makeSlice rfl hT hby hvar hpos hx hy h0 hnc hb hm hK)
  · obtain ⟨len, e, hT, hK⟩ := h; exact toF (snd_makeMap rfl hT hK)
  · obtain ⟨len, e, hT, id, hx, m, hid, v, hy, q, hq, hok, z, hz, hK⟩ := h; exact toF (snd_lookup rfl hT hx hid hy hq hok hz hK)
  · obtain ⟨hdn, len, e, hT, id, hx, m, hid, v, hy, q, hq, hok, x, hz, hK⟩ := h; exact toF (snd_mapUpdate rfl hdn hT hx hid hy hq hok hz hK)
  · obtain ⟨x, ha, t, ht, e, hT, v, hv, n, hn, hK⟩ := h; exact toF (snd_len rfl ha ht hT hv hn hK)
  · obtain ⟨vs, hv, k, r, hr, hK⟩ := h; exact toF (snd_min rfl hv hr hK)
  · obtain ⟨vs, hv, k, r, hr, hK⟩ := h; exact toF (snd_max rfl hv hr hK)
  · obtain ⟨s, x, ha, t, u, ht, hA⟩ := h
    split at hA
    · rename_i e; subst e; exact toF (snd_append rfl ha ht hA)
    · exact toF (snd_appZ rfl ha ht hA)
  · obtain ⟨x, ha, t, ht, e, hT, g, zs, hvar, id, lo, n, hv, es, hid, hle, hK⟩ := h; exact toF (snd_clear rfl ha ht hT hvar hv hid hle hK)
  · obtain ⟨x, ha, t, ht, e, hT, es, hv, hK⟩ := h; exact toF (snd_cap rfl ha ht hT hv hK)
  · obtain ⟨v, hg, h', caps, rfl, hen, xs, hx, u, hc, hK⟩ := h; exact snd_call rfl hg hen hx hc hK
  · exact h.elim
end
end Go.Am
namespace Go.Am
open Go.RowKit
def lkp {α : Type} : List (Nat × α) → Nat → Option α
  | [], _ => none
  | (k, x) :: r, d => if d = k then some x else lkp r d
def del {α : Type} : List (Nat × α) → Nat → List (Nat × α)
  | [], _ => []
  | (k, x) :: r, d => if d = k then del r d else (k, x) :: del r d
theorem lkp_nil {α : Type} (d : Nat) : lkp ([] : List (Nat × α)) d = none := rfl
theorem lkp_cons {α : Type} (k : Nat) (x : α) (r : List (Nat × α)) (d : Nat) : lkp ((k, x) :: r) d = if d = k then some x else lkp r d := rfl
theorem lkp_del {α : Type} (l : List (Nat × α)) (d i : Nat) : lkp (del l d) i = if i = d then none else lkp l i := by
  induction l with
  | nil => simp [del, lkp]
  | cons q l ih =>
    obtain ⟨k, x⟩ := q
    simp only [del]
    by_cases h : d = k
    · subst h; simp only [if_true, ih, lkp]; by_cases e : i = d <;> simp [e]
    · simp only [h, if_false, lkp, ih]
      by_cases e : i = d
      · subst e; simp [h]
      · simp [e]
structure LS where
  sl : List (Nat × AV)
  hp : List (Nat × Blk)
  nx : Nat
def LS.ps (s : LS) : PS := ⟨lkp s.sl, lkp s.hp⟩
def put1 (hp : List (Nat × Blk)) (i : Nat) : Option Blk → List (Nat × Blk)
  | some k => (i, k) :: del hp i
  | none => del hp i
def hpUpd (hp : List (Nat × Blk)) : List (Nat × Option Blk) → List (Nat × Blk)
  | [] => hp
  | (i, k) :: r => put1 (hpUpd hp r) i k
def slUpd (sl : List (Nat × AV)) (v : AV) : Option Nat → List (Nat × AV)
  | some d => (d, v) :: sl
  | none => sl
def LS.upd (s : LS) (dst : Option Nat) (u : Upd) : LS := ⟨slUpd s.sl u.val dst, hpUpd s.hp u.hps, s.nx⟩
theorem lkp_put1 (hp : List (Nat × Blk)) (i : Nat) (k : Option Blk) (id : Nat) : lkp (put1 hp i k) id = if id = i then k else lkp hp id := by
  cases k with
  | none => exact lkp_del hp i id
  | some k =>
    simp only [put1, lkp, lkp_del]
    by_cases h : id = i <;> simp [h]
theorem lkp_hpUpd (hp : List (Nat × Blk)) : ∀ l, lkp (hpUpd hp l) = PS.setHp (lkp hp) l
  | [] => rfl
  | (i, k) :: r => by
    funext id
    simp only [hpUpd, lkp_put1, PS.setHp, lkp_hpUpd hp r]
theorem ps_upd (s : LS) (dst : Option Nat) (u : Upd) : (s.upd dst u).ps = s.ps.upd dst u := by
  simp only [LS.ps, LS.upd, PS.upd, lkp_hpUpd, PS.mk.injEq, and_true]
  funext d
  cases dst with
  | none => simp [slUpd]
  | some d' => simp [slUpd, lkp, eq_comm]
def undefA : AV := .p (.lit undef)
def gcase (x : AV) (b : Bool) (run skip : Bool → Prop) (idle : Prop) : Prop :=
  match x with
  | .p (.lit (.bool t)) => (t = b → run b) ∧ (t = (!b) → skip (!b))
  | .p (.lit (.tuple _)) => idle
  | _ => False
def nmPos (i : Nat) : Nat := if i % 8 = 7 then 0 else i / 8 + 1
def aops (P : Program) (H : List Nat) (gd : Nat → Option Nat) (K : LS → Prop) : Nat → List Oper → LS → Prop
  | _, [], s => K s
  | i, o :: os, s =>
    match o.guard with
    | none => aop P H (8 * (s.nx + i)) s.ps o.dst o.op fun u => aops P H gd K (i + 1) os (s.upd o.dst u)
    | some (g, b) => ∃ d, gd g = some d ∧ ∃ x, lkp s.sl d = some x ∧
        gcase x b (fun t => aop P H (8 * (s.nx + i)) (s.upd (some d) ⟨.p (.lit (.bool t)), []⟩).ps o.dst o.op fun u => aops P H gd K (i + 1) os ((s.upd (some d) ⟨.p (.lit (.bool t)), []⟩).upd o.dst u))
          (fun t => aops P H gd K (i + 1) os ((s.upd (some d) ⟨.p (.lit (.bool t)), []⟩).upd o.dst ⟨undefA, []⟩))
          (aops P H gd K (i + 1) os (s.upd o.dst ⟨undefA, []⟩))
def gdOf (ops : Array Oper) (g : Nat) : Option Nat := (ops[g]?).bind (·.dst)
theorem Sat.widen {C : Ctx} {U U' : Nat → Prop} {s : PS} {a : Act} {w : World} (h : Sat C U s a w) (hu : ∀ i, U i → U' i) : Sat C U' s a w := let ⟨ρ, h⟩ := h; ⟨ρ, h.widen hu⟩
theorem Sat.skip {C : Ctx} {U : Nat → Prop} {s : PS} {a : Act} {w : World} (h : Sat C U s a w) {dst : Option Nat} (hd : ∀ d, dst = some d → d < C.n) : Sat C U (s.upd dst ⟨undefA, []⟩) (a.put dst undef) w := by
  obtain ⟨ρ, h⟩ := h
  exact ⟨ρ, h.put hd (.p _ _ (.lit _))⟩
theorem Sat.known {C : Ctx} {U : Nat → Prop} {s : PS} {a : Act} {w : World} (_ : Sat C U s a w) {d : Nat} {x : AV} (hx : s.sl d = some x) : s.upd (some d) ⟨x, []⟩ = s := by
  cases s
  simp only [PS.upd, PS.setHp, PS.mk.injEq, and_true]
  funext e
  simp only [Option.some.injEq]
  by_cases h : d = e
  · subst h; simp only [if_true]; exact hx.symm
  · simp [h]
theorem Sat.getBool {C : Ctx} {U : Nat → Prop} {s : PS} {a : Act} {w : World} (h : Sat C U s a w) {d : Nat} {v : Value} (hx : s.sl d = some (.p (.lit v))) : a.tmps.getD d undef = v := by
  obtain ⟨ρ, h⟩ := h
  exact (h.slots d _ hx).lit
theorem yielded_of {ops : Array Oper} {a : Act} {g d : Nat} (hg : gdOf ops g = some d) (hd : d < a.tmps.size) : yielded ops a.tmps g = match a.tmps.getD d undef with | .bool b => some b | _ => none := by
  unfold yielded
  unfold gdOf at hg
  rw [hg]
  simp only [Option.bind_some]
  rw [Array.getD_eq_getD_getElem?]
  have : a.tmps[d]? = some a.tmps[d] := by simp [hd]
  rw [this]
  cases a.tmps[d] <;> rfl
theorem stepA_use {P : Program} {o : Oper} {f : Nat} {V s : PS} {u : Upd} (h : StepF P o f V u) {C : Ctx} {U U' : Nat → Prop} {a : Act} {w : World} (hd : ∀ d, o.dst = some d → d < C.n) (hf : ∀ j, j < 7 → ¬ U (f + j)) (hV : V = s) (hs : Sat C U s a w)
    (hU : ∀ i, U i ∨ (f ≤ i ∧ i < f + 7) → U' i) (Q : Exit → Act → World → Prop) : o.wp P a w (fun a' w' => Sat C U' (s.upd o.dst u) a' w') Q := by
  subst hV
  exact Oper.wp_mono (fun a w h => h.widen hU) (h C U V a w hd hf (fun _ _ _ h => h) (fun _ _ h => h) hs Q)
theorem aops_seq {P : Program} {H : List Nat} {ops : Array Oper} {K : LS → Prop} {C : Ctx} {Q : Exit → Act → World → Prop} : ∀ (os : List Oper) (i : Nat) (s : LS) (a : Act) (w : World),
    aops P H (gdOf ops) K i os s → (∀ o, o ∈ os → ∀ d, o.dst = some d → d < C.n) → (∀ g d, gdOf ops g = some d → d < C.n) → Sat C (fun j => nmPos j ≤ s.nx + i) s.ps a w →
    (∀ s' a' w', K s' → s'.nx = s.nx → Sat C (fun j => nmPos j ≤ s'.nx + (i + os.length)) s'.ps a' w' → Q .normal a' w') → wpList P ops Q os a w
  | [], i, s, a, w, h, _, _, hs, hQ => hQ s a w h rfl hs
  | o :: os, i, s, a, w, h, hd, hgd, hs, hQ => by
    have hd0 := hd o (by simp)
    have hd1 : ∀ o', o' ∈ os → ∀ d, o'.dst = some d → d < C.n := fun o' ho' => hd o' (by simp [ho'])
    have hsize : a.tmps.size = C.n := by obtain ⟨ρ, h⟩ := hs; exact h.size
    have next : ∀ (s2 : LS) (a2 : Act) (w2 : World), s2.nx = s.nx → aops P H (gdOf ops) K (i + 1) os s2 → Sat C (fun j => nmPos j ≤ s.nx + (i + 1)) s2.ps a2 w2 → wpList P ops Q os a2 w2 := by
      intro s2 a2 w2 hnx h2 hs2
      refine aops_seq os (i + 1) s2 a2 w2 h2 hd1 hgd (by rw [hnx]; exact hs2) (fun s' a' w' hK hn hs' => hQ s' a' w' hK (hn.trans hnx) ?_)
      simp only [List.length_cons]
      rw [show i + (os.length + 1) = i + 1 + os.length by omega]; exact hs'
    have run : ∀ (s1 : LS), s1.nx = s.nx → s1.ps = s.ps → (aop P H (8 * (s1.nx + i)) s1.ps o.dst o.op fun u => aops P H (gdOf ops) K (i + 1) os (s1.upd o.dst u)) → Region.wanted o (yielded ops a.tmps) = true → wpList P ops Q (o :: os) a w := by
      intro s1 hnx hps h1 hw
      obtain ⟨u, hK, hstep⟩ := aop_sound h1
      unfold wpList
      rw [if_pos hw]
      refine .inl (Oper.wp_mono (fun a' w' hs' => ?_) (stepA_use hstep hd0 (U := fun j => nmPos j ≤ s.nx + i) (U' := fun j => nmPos j ≤ s.nx + (i + 1)) (by rw [hnx]; intro j hj; simp only [nmPos]; split <;> omega) hps hs (fun j hj => by rw [hnx] at hj; rcases hj with hj | hj; omega; simp only [nmPos]; split <;> omega) Q))
      refine next (s1.upd o.dst u) a' w' hnx hK ?_
      rw [ps_upd, hps]; exact hs'
    simp only [aops] at h
    split at h
    · rename_i hg
      exact run s rfl rfl h (by simp [Region.wanted, hg])
    · rename_i g b hg
      obtain ⟨d, hgd', x, hx, h⟩ := h
      have hdn : d < a.tmps.size := by rw [hsize]; exact hgd g d hgd'
      have hy := yielded_of hgd' hdn
      have idle : ∀ (s1 : LS), s1.nx = s.nx → s1.ps = s.ps → aops P H (gdOf ops) K (i + 1) os (s1.upd o.dst ⟨undefA, []⟩) → Region.wanted o (yielded ops a.tmps) = false → wpList P ops Q (o :: os) a w := by
        intro s1 hnx hps h1 hw
        unfold wpList
        rw [if_neg (by rw [hw]; simp)]
        refine next (s1.upd o.dst ⟨undefA, []⟩) _ w hnx h1 ?_
        rw [ps_upd, hps]
        exact (hs.skip hd0).widen (fun j hj => by omega)
      unfold gcase at h
      split at h
      · rename_i t
        have hv := hs.getBool (d := d) hx
        rw [hv] at hy
        have hps : (s.upd (some d) ⟨.p (.lit (.bool t)), []⟩).ps = s.ps := by rw [ps_upd]; exact hs.known hx
        by_cases e : t = b
        · subst e
          exact run (s.upd (some d) ⟨.p (.lit (.bool t)), []⟩) rfl hps (h.1 rfl) (by simp [Region.wanted, hg, hy])
        · have e' : t = !b := by cases t <;> cases b <;> simp_all
          subst e'
          exact idle (s.upd (some d) ⟨.p (.lit (.bool (!b))), []⟩) rfl hps (h.2 rfl) (by simp [Region.wanted, hg, hy])
      · have hv := hs.getBool (d := d) hx
        rw [hv] at hy
        exact idle s rfl rfl h (by simp [Region.wanted, hg, hy])
      · exact h.elim
end Go.Am
namespace Go.Am
open Go.RowKit
structure Ord where
  B : List Nat
  R : List Nat
  W : List Nat
  vis : List (Nat × Nat)
  hot : Option (List Nat) := none
def Ord.bit (D : Ord) (i j : Nat) : Bool := (D.B.getD j 0).testBit i
def Ord.isHot (D : Ord) (id : Nat) : Bool := match D.hot with
  | none => true
  | some l => l.contains id
def Ord.isW (D : Ord) (i : Nat) : Bool := D.W.contains i
def Ord.isRW (D : Ord) (i : Nat) : Bool := D.R.contains i || D.W.contains i
def Ord.sees (D : Ord) (i j : Nat) : Bool := D.vis.contains (i, j)
def looksAt (gd : Nat → Option Nat) (o : Oper) : List Nat :=
  (o.op.operands.toList.filterMap fun | .tmp t => some t | _ => none) ++ (match o.guard with | some (g, _) => (gd g).toList | none => [])
def slotConflict (gd : Nat → Option Nat) (x y : Oper) : Bool :=
  (match x.dst with | some d => (looksAt gd y).contains d || y.dst == some d | none => false) || (match y.dst with | some d => (looksAt gd x).contains d | none => false)
def okPair (D : Ord) (gd : Nat → Option Nat) (i j : Nat) (x y : Oper) : Bool :=
  (!D.bit i j || y.after.toList.any fun e => Region.binds .any e && (e.on == i || D.bit i e.on)) &&
  (!decide (i < j) || D.bit i j || !(slotConflict gd x y || (D.isW i && D.isRW j) || (D.isRW i && D.isW j)))
def okRow (D : Ord) (gd : Nat → Option Nat) (j : Nat) (y : Oper) : Nat → List Oper → Bool
  | _, [] => true
  | i, x :: r => okPair D gd i j x y && okRow D gd j y (i + 1) r
def okRows (D : Ord) (ops : Array Oper) (gd : Nat → Option Nat) : Nat → List Oper → Bool
  | _, [] => true
  | j, y :: r => y.after.toList.all (fun e => !Region.binds .any e || decide (e.on < j)) && okRow D gd j y 0 ops.toList && okRows D ops gd (j + 1) r
def okD (D : Ord) (ops : Array Oper) : Bool :=
  okRows D ops (gdOf ops) 0 ops.toList && D.vis.all (fun p => decide (p.1 < p.2) && D.bit p.1 p.2) && (D.B.zipIdx.all fun p => decide (p.1 < 2 ^ ops.size)) && decide (D.B.length ≤ ops.size)
def viewD (D : Ord) (nx0 i : Nat) (s : LS) : PS :=
  ⟨lkp s.sl, fun id => if nmPos id ≤ nx0 ∧ D.isHot id = false then lkp s.hp id else if D.isRW i = true then (if nmPos id ≤ nx0 then lkp s.hp id else if D.sees (nmPos id - 1 - nx0) i = true then lkp s.hp id else none) else none⟩
def viewP (D : Ord) (nx0 i : Nat) (s : PS) : PS :=
  ⟨s.sl, fun id => if nmPos id ≤ nx0 ∧ D.isHot id = false then s.hp id else if D.isRW i = true then (if nmPos id ≤ nx0 then s.hp id else if D.sees (nmPos id - 1 - nx0) i = true then s.hp id else none) else none⟩
def okL (D : Ord) (nx0 i : Nat) : List (Nat × Option Blk) → Prop
  | [] => True
  | p :: r => (nmPos p.1 = nx0 + i + 1 ∨ (D.isW i = true ∧ ((nmPos p.1 ≤ nx0 ∧ D.isHot p.1 = true) ∨ (¬ nmPos p.1 ≤ nx0 ∧ D.sees (nmPos p.1 - 1 - nx0) i = true)))) ∧ okL D nx0 i r
def okU (D : Ord) (nx0 i : Nat) (u : Upd) : Prop := okL D nx0 i u.hps
theorem okU.get {D : Ord} {nx0 i : Nat} {u : Upd} (h : okU D nx0 i u) : ∀ p, p ∈ u.hps → nmPos p.1 = nx0 + i + 1 ∨ (D.isW i = true ∧ ((nmPos p.1 ≤ nx0 ∧ D.isHot p.1 = true) ∨ (¬ nmPos p.1 ≤ nx0 ∧ D.sees (nmPos p.1 - 1 - nx0) i = true))) := by
  have key : ∀ l, okL D nx0 i l → ∀ p, p ∈ l → nmPos p.1 = nx0 + i + 1 ∨ (D.isW i = true ∧ ((nmPos p.1 ≤ nx0 ∧ D.isHot p.1 = true) ∨ (¬ nmPos p.1 ≤ nx0 ∧ D.sees (nmPos p.1 - 1 - nx0) i = true))) := by
    intro l
    induction l with
    | nil => intro _ p hp; cases hp
    | cons q l ih =>
      intro h p hp
      rcases List.mem_cons.1 hp with rfl | hp
      · exact h.1
      · exact ih h.2 p hp
  exact key _ h
def aopsD (P : Program) (H : List Nat) (D : Ord) (gd : Nat → Option Nat) (K : LS → Prop) : Nat → List Oper → LS → Prop
  | _, [], s => K s
  | i, o :: os, s =>
    match o.guard with
    | none => aop P H (8 * (s.nx + i)) (viewD D s.nx i s) o.dst o.op fun u => okU D s.nx i u ∧ aopsD P H D gd K (i + 1) os (s.upd o.dst u)
    | some (g, b) => ∃ d, gd g = some d ∧ ∃ x, lkp s.sl d = some x ∧
        gcase x b (fun t => aop P H (8 * (s.nx + i)) (viewD D s.nx i (s.upd (some d) ⟨.p (.lit (.bool t)), []⟩)) o.dst o.op fun u => okU D s.nx i u ∧ aopsD P H D gd K (i + 1) os ((s.upd (some d) ⟨.p (.lit (.bool t)), []⟩).upd o.dst u))
          (fun t => aopsD P H D gd K (i + 1) os ((s.upd (some d) ⟨.p (.lit (.bool t)), []⟩).upd o.dst ⟨undefA, []⟩))
          (aopsD P H D gd K (i + 1) os (s.upd o.dst ⟨undefA, []⟩))
def stFrom (ops : List Oper) (us : Nat → Upd) : PS → Nat → PS
  | s, 0 => s
  | s, m + 1 => (stFrom ops us s m).upd ((ops[m]?).bind (·.dst)) (us m)
def yv : Value → Option Bool
  | .bool b => some b
  | _ => none
structure Good (P : Program) (D : Ord) (gd : Nat → Option Nat) (nx0 k : Nat) (o : Oper) (s : PS) (u : Upd) (rn : Bool) : Prop where
  step : rn = true → StepF P o (8 * (nx0 + k)) (viewP D nx0 k s) u ∧ okU D nx0 k u
  idle : rn = false → u = ⟨undefA, []⟩
  guard : (o.guard = none ∧ rn = true) ∨ ∃ g b d v, o.guard = some (g, b) ∧ gd g = some d ∧ s.sl d = some (.p (.lit v)) ∧ rn = decide (yv v = some b)
theorem stFrom_head (o : Oper) (os : List Oper) (us : Nat → Upd) (s : PS) : ∀ m, stFrom (o :: os) us s (m + 1) = stFrom os (fun i => us (i + 1)) (s.upd o.dst (us 0)) m
  | 0 => rfl
  | m + 1 => by
    have ih := stFrom_head o os us s m
    simp only [stFrom] at ih ⊢
    rw [ih]; rfl
theorem upd_known {s : PS} {d : Nat} {x : AV} (hx : s.sl d = some x) : s.upd (some d) ⟨x, []⟩ = s := by
  cases s
  simp only [PS.upd, PS.setHp, PS.mk.injEq, and_true]
  funext e
  simp only [Option.some.injEq]
  by_cases h : d = e
  · subst h; simp only [if_true]; exact hx.symm
  · simp [h]
theorem viewD_ps (D : Ord) (nx0 i : Nat) (s : LS) : viewD D nx0 i s = viewP D nx0 i s.ps := rfl
theorem traceD {P : Program} {H : List Nat} {D : Ord} {gd : Nat → Option Nat} {K : LS → Prop} : ∀ (os : List Oper) (i : Nat) (s : LS), aopsD P H D gd K i os s →
    ∃ (us : Nat → Upd) (rn : Nat → Bool) (s' : LS), K s' ∧ s'.nx = s.nx ∧ s'.ps = stFrom os us s.ps os.length ∧ ∀ k o, os[k]? = some o → Good P D gd s.nx (i + k) o (stFrom os us s.ps k) (us k) (rn k)
  | [], i, s, h => ⟨fun _ => ⟨undefA, []⟩, fun _ => true, s, h, rfl, rfl, fun k o hk => by simp at hk⟩
  | o :: os, i, s, h => by
    have fin : ∀ (s1 : LS) (u : Upd) (r : Bool), s1.nx = s.nx → s1.ps = s.ps.upd o.dst u → Good P D gd s.nx i o s.ps u r → aopsD P H D gd K (i + 1) os s1 →
        ∃ (us : Nat → Upd) (rn : Nat → Bool) (s' : LS), K s' ∧ s'.nx = s.nx ∧ s'.ps = stFrom (o :: os) us s.ps (os.length + 1) ∧ ∀ k o', (o :: os)[k]? = some o' → Good P D gd s.nx (i + k) o' (stFrom (o :: os) us s.ps k) (us k) (rn k) := by
      intro s1 u r hnx hps hg h1
      obtain ⟨us, rn, s', hK, hn, hs', hall⟩ := traceD os (i + 1) s1 h1
      refine ⟨fun k => match k with | 0 => u | k + 1 => us k, fun k => match k with | 0 => r | k + 1 => rn k, s', hK, hn.trans hnx, ?_, fun k o' hk => ?_⟩
      · rw [stFrom_head]; simp only; rw [hs', hps]
      · cases k with
        | zero => simp only [List.getElem?_cons_zero, Option.some.injEq] at hk; subst hk; exact hg
        | succ k =>
          rw [stFrom_head]
          have := hall k o' (by simpa using hk)
          rw [hnx, hps, show i + 1 + k = i + (k + 1) by omega] at this
          exact this
    simp only [aopsD] at h
    split at h
    · rename_i hg
      obtain ⟨u, ⟨hok, hK⟩, hstep⟩ := aop_sound h
      exact fin (s.upd o.dst u) u true rfl (ps_upd _ _ _) ⟨fun _ => ⟨hstep, hok⟩, fun h => (by cases h), .inl ⟨hg, rfl⟩⟩ hK
    · rename_i g b hg
      obtain ⟨d, hgd, x, hx, h⟩ := h
      unfold gcase at h
      split at h
      · rename_i t
        have hps : (s.upd (some d) ⟨.p (.lit (.bool t)), []⟩).ps = s.ps := by rw [ps_upd]; exact upd_known hx
        by_cases e : t = b
        · subst e
          obtain ⟨u, ⟨hok, hK⟩, hstep⟩ := aop_sound (h.1 rfl)
          rw [viewD_ps, hps] at hstep
          exact fin ((s.upd (some d) ⟨.p (.lit (.bool t)), []⟩).upd o.dst u) u true rfl (by rw [ps_upd, hps]) ⟨fun _ => ⟨hstep, hok⟩, fun h => (by cases h), .inr ⟨g, t, d, _, hg, hgd, hx, by simp [yv]⟩⟩ hK
        · have e' : t = !b := by cases t <;> cases b <;> simp_all
          subst e'
          exact fin ((s.upd (some d) ⟨.p (.lit (.bool (!b))), []⟩).upd o.dst ⟨undefA, []⟩) ⟨undefA, []⟩ false rfl (by rw [ps_upd, hps]) ⟨fun h => (by cases h), fun _ => rfl, .inr ⟨g, b, d, _, hg, hgd, hx, by simp [yv]⟩⟩ (h.2 rfl)
      · exact fin (s.upd o.dst ⟨undefA, []⟩) ⟨undefA, []⟩ false rfl (ps_upd _ _ _) ⟨fun h => (by cases h), fun _ => rfl, .inr ⟨g, b, d, _, hg, hgd, hx, by simp [yv]⟩⟩ h
      · exact h.elim
def last (p : Nat → Bool) : Nat → Option Nat
  | 0 => none
  | n + 1 => if p n = true then some n else last p n
theorem last_some {p : Nat → Bool} : ∀ {n m : Nat}, last p n = some m ↔ m < n ∧ p m = true ∧ ∀ j, m < j → j < n → p j = false
  | 0, m => by simp [last]
  | n + 1, m => by
    simp only [last]
    by_cases h : p n = true
    · rw [if_pos h]
      constructor
      · intro e; injection e with e; subst e; exact ⟨by omega, h, fun j h1 h2 => by omega⟩
      · rintro ⟨h1, h2, h3⟩
        by_cases e : m = n
        · rw [e]
        · have := h3 n (by omega) (by omega); rw [h] at this; cases this
    · rw [if_neg h, last_some]
      have hf : p n = false := by simpa using h
      constructor
      · rintro ⟨h1, h2, h3⟩
        refine ⟨by omega, h2, fun j g1 g2 => ?_⟩
        by_cases e : j = n
        · rw [e]; exact hf
        · exact h3 j g1 (by omega)
      · rintro ⟨h1, h2, h3⟩
        refine ⟨?_, h2, fun j g1 g2 => h3 j g1 (by omega)⟩
        by_cases e : m = n
        · rw [e, hf] at h2; cases h2
        · omega
theorem last_none {p : Nat → Bool} : ∀ {n : Nat}, last p n = none ↔ ∀ j, j < n → p j = false
  | 0 => by simp [last]
  | n + 1 => by
    simp only [last]
    by_cases h : p n = true
    · rw [if_pos h]
      constructor
      · intro e; cases e
      · intro e; have := e n (by omega); rw [h] at this; cases this
    · rw [if_neg h, last_none]
      have hf : p n = false := by simpa using h
      constructor
      · intro e j hj
        by_cases e2 : j = n
        · rw [e2]; exact hf
        · exact e j (by omega)
      · intro e j hj; exact e j (by omega)
theorem last_eq {p q : Nat → Bool} {i n : Nat} (h1 : ∀ j, j < i → p j = true → j < n ∧ q j = true) (h2 : ∀ j, j < n → q j = true → j < i ∧ p j = true) : last q n = last p i := by
  cases h : last p i with
  | none =>
    rw [last_none] at h
    rw [last_none]
    intro j hj
    by_cases e : q j = true
    · obtain ⟨g1, g2⟩ := h2 j hj e; rw [h j g1] at g2; cases g2
    · simpa using e
  | some m =>
    rw [last_some] at h
    obtain ⟨a1, a2, a3⟩ := h
    rw [last_some]
    obtain ⟨b1, b2⟩ := h1 m a1 a2
    refine ⟨b1, b2, fun j g1 g2 => ?_⟩
    by_cases e : q j = true
    · obtain ⟨c1, c2⟩ := h2 j g2 e; rw [a3 j g1 c1] at c2; cases c2
    · simpa using e
end Go.Am
namespace Go.Am
open Go.RowKit
theorem okRow_spec {D : Ord} {gd : Nat → Option Nat} {j : Nat} {y : Oper} : ∀ (os : List Oper) (i : Nat), okRow D gd j y i os = true → ∀ k x, os[k]? = some x → okPair D gd (i + k) j x y = true
  | [], i, _, k, x, hk => by simp at hk
  | o :: os, i, h, k, x, hk => by
    simp only [okRow, Bool.and_eq_true] at h
    cases k with
    | zero => simp only [List.getElem?_cons_zero, Option.some.injEq] at hk; subst hk; exact h.1
    | succ k =>
      have := okRow_spec os (i + 1) h.2 k x (by simpa using hk)
      rwa [show i + 1 + k = i + (k + 1) by omega] at this
theorem okRows_spec {D : Ord} {ops : Array Oper} {gd : Nat → Option Nat} : ∀ (os : List Oper) (j : Nat), okRows D ops gd j os = true → ∀ k y, os[k]? = some y →
    (∀ e, e ∈ y.after.toList → Region.binds .any e = true → e.on < j + k) ∧ ∀ i x, ops.toList[i]? = some x → okPair D gd i (j + k) x y = true
  | [], j, _, k, y, hk => by simp at hk
  | o :: os, j, h, k, y, hk => by
    simp only [okRows, Bool.and_eq_true] at h
    cases k with
    | zero =>
      simp only [List.getElem?_cons_zero, Option.some.injEq] at hk; subst hk
      refine ⟨fun e he hb => ?_, fun i x hi => ?_⟩
      · have := List.all_eq_true.1 h.1.1 e he
        simpa [hb] using this
      · have := okRow_spec ops.toList 0 h.1.2 i x hi
        simpa using this
    | succ k =>
      have := okRows_spec os (j + 1) h.2 k y (by simpa using hk)
      rwa [show j + 1 + k = j + (k + 1) by omega] at this
structure OrdOk (D : Ord) (ops : Array Oper) : Prop where
  edge : ∀ j y, ops[j]? = some y → ∀ e, e ∈ y.after.toList → Region.binds .any e = true → e.on < j
  why : ∀ i j x y, ops[i]? = some x → ops[j]? = some y → D.bit i j = true → ∃ e, e ∈ y.after.toList ∧ Region.binds .any e = true ∧ (e.on = i ∨ D.bit i e.on = true)
  conf : ∀ i j x y, ops[i]? = some x → ops[j]? = some y → i < j → (slotConflict (gdOf ops) x y = true ∨ (D.isW i = true ∧ D.isRW j = true) ∨ (D.isRW i = true ∧ D.isW j = true)) → D.bit i j = true
  vis : ∀ i j, D.sees i j = true → i < j ∧ D.bit i j = true
  small : ∀ i j, D.bit i j = true → i < ops.size ∧ j < ops.size
theorem ordOk_of {D : Ord} {ops : Array Oper} (h : okD D ops = true) : OrdOk D ops := by
  unfold okD at h
  simp only [Bool.and_eq_true, decide_eq_true_eq] at h
  obtain ⟨⟨⟨h1, h2⟩, h3⟩, h4⟩ := h
  have hr := okRows_spec (D := D) (ops := ops) ops.toList 0 h1
  simp only [Nat.zero_add] at hr
  refine ⟨fun j y hj => (hr j y (by simpa using hj)).1, fun i j x y hi hj hb => ?_, fun i j x y hi hj hlt hc => ?_, fun i j hs => ?_, fun i j hb => ?_⟩
  · have := (hr j y (by simpa using hj)).2 i x (by simpa using hi)
    simp only [okPair, Bool.and_eq_true, Bool.or_eq_true, hb, Bool.not_true, Bool.false_eq_true, false_or, List.any_eq_true, beq_iff_eq] at this
    obtain ⟨⟨e, he, hbi, hor⟩, _⟩ := this
    exact ⟨e, he, hbi, hor⟩
  · have := (hr j y (by simpa using hj)).2 i x (by simpa using hi)
    simp only [okPair, Bool.and_eq_true] at this
    have h2 := this.2
    simp only [Bool.or_eq_true, Bool.not_eq_true', decide_eq_false_iff_not, Bool.or_eq_false_iff, Bool.and_eq_false_iff] at h2
    rcases h2 with (h2 | h2) | ⟨⟨h2, h3⟩, h4⟩
    · exact absurd hlt h2
    · exact h2
    · rcases hc with hc | ⟨c1, c2⟩ | ⟨c1, c2⟩
      · rw [h2] at hc; cases hc
      · rcases h3 with h3 | h3
        · rw [c1] at h3; cases h3
        · rw [c2] at h3; cases h3
      · rcases h4 with h4 | h4
        · rw [c1] at h4; cases h4
        · rw [c2] at h4; cases h4
  · unfold Ord.sees at hs
    have := List.all_eq_true.1 h2 (i, j) (by simpa using hs)
    simpa using this
  · unfold Ord.bit at hb
    have hj : j < D.B.length := by
      by_cases hj : j < D.B.length
      · exact hj
      · rw [List.getD_eq_getElem?_getD, List.getElem?_eq_none (by omega)] at hb; simp at hb
    refine ⟨?_, by omega⟩
    have := List.all_eq_true.1 h3 (D.B[j], j) (by rw [List.mem_zipIdx_iff_getElem?]; simp [hj])
    simp only [decide_eq_true_eq] at this
    rw [List.getD_eq_getElem?_getD, List.getElem?_eq_getElem hj, Option.getD_some] at hb
    by_cases hi : i < ops.size
    · exact hi
    · have : D.B[j] < 2 ^ i := Nat.lt_of_lt_of_le this (Nat.pow_le_pow_right (by omega) (by omega))
      rw [Nat.testBit_lt_two_pow this] at hb; cases hb
def touches (us : Nat → Upd) (j id : Nat) : Bool := (us j).hps.any fun p => p.1 == id
def hval (us : Nat → Upd) (j id : Nat) : Option Blk := PS.setHp (fun _ => none) (us j).hps id
def dstOf (ops : List Oper) (j : Nat) : Option Nat := (ops[j]?).bind (·.dst)
def writes (ops : List Oper) (j d : Nat) : Bool := dstOf ops j == some d
def PSof (ops : List Oper) (us : Nat → Upd) (s0 : PS) (S : Nat → Bool) (n : Nat) : PS :=
  ⟨fun d => match last (fun j => S j && writes ops j d) n with | some j => some (us j).val | none => s0.sl d,
   fun id => match last (fun j => S j && touches us j id) n with | some j => hval us j id | none => s0.hp id⟩
theorem setHp_eq (hp : Nat → Option Blk) : ∀ (l : List (Nat × Option Blk)) (id : Nat), PS.setHp hp l id = if l.any (fun p => p.1 == id) = true then PS.setHp (fun _ => none) l id else hp id
  | [], id => by simp [PS.setHp]
  | (i, k) :: l, id => by
    simp only [PS.setHp, List.any_cons]
    by_cases h : id = i
    · subst h; simp
    · have : (i == id) = false := by simp; exact fun e => h e.symm
      simp only [h, if_false, this, Bool.false_or]
      exact setHp_eq hp l id
theorem stFrom_sl (ops : List Oper) (us : Nat → Upd) (s0 : PS) (d : Nat) : ∀ k, (stFrom ops us s0 k).sl d = match last (fun j => writes ops j d) k with | some j => some (us j).val | none => s0.sl d
  | 0 => rfl
  | k + 1 => by
    simp only [stFrom, last, PS.upd]
    by_cases h : writes ops k d = true
    · have : (ops[k]?).bind (·.dst) = some d := by simpa [writes, dstOf] using h
      rw [if_pos h, if_pos this]
    · have : ¬ (ops[k]?).bind (·.dst) = some d := by simpa [writes, dstOf] using h
      rw [if_neg h, if_neg this]
      exact stFrom_sl ops us s0 d k
theorem stFrom_hp (ops : List Oper) (us : Nat → Upd) (s0 : PS) (id : Nat) : ∀ k, (stFrom ops us s0 k).hp id = match last (fun j => touches us j id) k with | some j => hval us j id | none => s0.hp id
  | 0 => rfl
  | k + 1 => by
    simp only [stFrom, last, PS.upd]
    rw [setHp_eq]
    by_cases h : ((us k).hps.any fun p => p.1 == id) = true
    · rw [if_pos h, if_pos (show touches us k id = true from h)]; rfl
    · rw [if_neg h, if_neg (show ¬ touches us k id = true from h)]; exact stFrom_hp ops us s0 id k
theorem psOf_full (ops : List Oper) (us : Nat → Upd) (s0 : PS) (S : Nat → Bool) (n : Nat) (hS : ∀ j, j < n → S j = true) : PSof ops us s0 S n = stFrom ops us s0 n := by
  have h1 : ∀ d, (PSof ops us s0 S n).sl d = (stFrom ops us s0 n).sl d := by
    intro d
    rw [stFrom_sl]
    simp only [PSof]
    rw [last_eq (p := fun j => writes ops j d) (q := fun j => S j && writes ops j d) (i := n) (fun j hj hp => ⟨hj, by simp [hS j hj, hp]⟩) (fun j hj hq => ⟨hj, by simp at hq; exact hq.2⟩)]
  have h2 : ∀ id, (PSof ops us s0 S n).hp id = (stFrom ops us s0 n).hp id := by
    intro id
    rw [stFrom_hp]
    simp only [PSof]
    rw [last_eq (p := fun j => touches us j id) (q := fun j => S j && touches us j id) (i := n) (fun j hj hp => ⟨hj, by simp [hS j hj, hp]⟩) (fun j hj hq => ⟨hj, by simp at hq; exact hq.2⟩)]
  generalize PSof ops us s0 S n = a at *
  generalize stFrom ops us s0 n = b at *
  cases a; cases b
  simp only [PS.mk.injEq]
  exact ⟨funext h1, funext h2⟩
theorem mem_touches {us : Nat → Upd} {j id : Nat} (h : touches us j id = true) : ∃ p, p ∈ (us j).hps ∧ p.1 = id := by
  simp only [touches, List.any_eq_true, beq_iff_eq] at h
  exact h
end Go.Am
namespace Go.Am
open Go.RowKit
section
variable {P : Program} {D : Ord} {ops : Array Oper} {us : Nat → Upd} {rn : Nat → Bool} {s0 : PS} {nx0 : Nat} {S : Nat → Bool}
theorem writes_iff {ops : Array Oper} {j d : Nat} (h : writes ops.toList j d = true) : ∃ x, ops[j]? = some x ∧ x.dst = some d := by
  simp only [writes, dstOf, beq_iff_eq] at h
  obtain ⟨x, hx, hd⟩ := Option.bind_eq_some_iff.1 h
  exact ⟨x, by simpa using hx, hd⟩
theorem slot_agree (hO : OrdOk D ops) (hdown : ∀ j, S j = true → ∀ i, D.bit i j = true → S i = true) {k : Nat} {o : Oper} (hk : ops[k]? = some o) (hSk : S k = false) (hpre : ∀ i, D.bit i k = true → S i = true) {d : Nat}
    (hd : d ∈ looksAt (gdOf ops) o) : (PSof ops.toList us s0 S ops.size).sl d = (stFrom ops.toList us s0 k).sl d := by
  rw [stFrom_sl]
  simp only [PSof]
  have hkn : k < ops.size := (Array.getElem?_eq_some_iff.1 hk).1
  rw [last_eq (p := fun j => writes ops.toList j d) (q := fun j => S j && writes ops.toList j d) (i := k) (fun j hj hp => ?_) (fun j hj hq => ?_)]
  · obtain ⟨x, hx, hxd⟩ := writes_iff hp
    have := hO.conf j k x o hx hk hj (.inl (by simp [slotConflict, hxd, hd]))
    exact ⟨by omega, by simp [hpre j this, hp]⟩
  · simp only [Bool.and_eq_true] at hq
    obtain ⟨x, hx, hxd⟩ := writes_iff hq.2
    refine ⟨?_, hq.2⟩
    rcases Nat.lt_trichotomy j k with h | h | h
    · exact h
    · subst h; rw [hSk] at hq; cases hq.1
    · have := hO.conf k j o x hk hx h (.inl (by simp [slotConflict, hxd, hd]))
      have := hdown j hq.1 k this
      rw [hSk] at this; cases this
theorem heap_agree (hO : OrdOk D ops) (hu : ∀ j, j < ops.size → okU D nx0 j (us j)) (hdown : ∀ j, S j = true → ∀ i, D.bit i j = true → S i = true) {k : Nat} {o : Oper} (hk : ops[k]? = some o) (hSk : S k = false)
    (hpre : ∀ i, D.bit i k = true → S i = true) {id : Nat} {b : Blk} (hb : (viewP D nx0 k (stFrom ops.toList us s0 k)).hp id = some b) : (PSof ops.toList us s0 S ops.size).hp id = some b := by
  have hkn : k < ops.size := (Array.getElem?_eq_some_iff.1 hk).1
  simp only [viewP] at hb
  have hget : ∀ j, j < ops.size → ∃ x, ops[j]? = some x := fun j hj => ⟨ops[j], by simp [hj]⟩
  split at hb
  · rename_i hcold
    -- nobody writes it
    have hno : ∀ j, j < ops.size → touches us j id = false := by
      intro j hj
      cases ht : touches us j id with
      | false => rfl
      | true =>
        obtain ⟨p, hp1, hp2⟩ := mem_touches ht
        rcases (hu j hj).get p hp1 with h | ⟨_, h | h⟩
        · rw [hp2] at h; omega
        · rw [hp2, hcold.2] at h; cases h.2
        · rw [hp2] at h
          exact absurd hcold.1 h.1
    rw [stFrom_hp, last_none.2 (fun j hj => hno j (by omega))] at hb
    simp only [PSof]
    rw [last_none.2 (fun j hj => by rw [hno j hj]; simp)]
    exact hb
  split at hb
  · rename_i hrw
    have hb' : (stFrom ops.toList us s0 k).hp id = some b ∧ (nmPos id ≤ nx0 ∨ D.sees (nmPos id - 1 - nx0) k = true) := by
      split at hb
      · rename_i h; exact ⟨hb, .inl h⟩
      · split at hb
        · rename_i h; exact ⟨hb, .inr h⟩
        · cases hb
    obtain ⟨hb1, hsee⟩ := hb'
    rw [stFrom_hp] at hb1
    rw [← hb1]
    simp only [PSof]
    rw [last_eq (p := fun j => touches us j id) (q := fun j => S j && touches us j id) (i := k) (fun j hj hp => ?_) (fun j hj hq => ?_)]
    · obtain ⟨p, hp1, hp2⟩ := mem_touches hp
      obtain ⟨x, hx⟩ := hget j (by omega)
      refine ⟨by omega, ?_⟩
      have : S j = true := by
        rcases (hu j (by omega)).get p hp1 with h | ⟨h, _⟩
        · rw [hp2] at h
          rcases hsee with hs | hs
          · omega
          · rw [show nmPos id - 1 - nx0 = j by omega] at hs
            exact hpre j (hO.vis j k hs).2
        · exact hpre j (hO.conf j k x o hx hk hj (.inr (.inl ⟨h, hrw⟩)))
      simp [this, hp]
    · simp only [Bool.and_eq_true] at hq
      refine ⟨?_, hq.2⟩
      rcases Nat.lt_trichotomy j k with h | h | h
      · exact h
      · subst h; rw [hSk] at hq; cases hq.1
      · obtain ⟨p, hp1, hp2⟩ := mem_touches hq.2
        obtain ⟨x, hx⟩ := hget j hj
        rcases (hu j hj).get p hp1 with h2 | ⟨h2, _⟩
        · rw [hp2] at h2
          rcases hsee with hs | hs
          · omega
          · rw [show nmPos id - 1 - nx0 = j by omega] at hs
            have := (hO.vis j k hs).1; omega
        · have := hO.conf k j o x hk hx h (.inr (.inr ⟨hrw, h2⟩))
          have := hdown j hq.1 k this
          rw [hSk] at this; cases this
  · cases hb
theorem next_agree (hO : OrdOk D ops) (hu : ∀ j, j < ops.size → okU D nx0 j (us j)) (hdown : ∀ j, S j = true → ∀ i, D.bit i j = true → S i = true) {k : Nat} {o : Oper} (hk : ops[k]? = some o) (hSk : S k = false) :
    (PSof ops.toList us s0 S ops.size).upd o.dst (us k) = PSof ops.toList us s0 (fun j => S j || j == k) ops.size := by
  have hkn : k < ops.size := (Array.getElem?_eq_some_iff.1 hk).1
  have hget : ∀ j, j < ops.size → ∃ x, ops[j]? = some x := fun j hj => ⟨ops[j], by simp [hj]⟩
  have hdst : dstOf ops.toList k = o.dst := by simp [dstOf, hk]
  have h1 : ∀ d, ((PSof ops.toList us s0 S ops.size).upd o.dst (us k)).sl d = (PSof ops.toList us s0 (fun j => S j || j == k) ops.size).sl d := by
    intro d
    simp only [PS.upd, PSof]
    by_cases hw : o.dst = some d
    · rw [if_pos hw]
      have : last (fun j => (S j || j == k) && writes ops.toList j d) ops.size = some k := by
        rw [last_some]
        refine ⟨hkn, by simp [writes, hdst, hw], fun j h1 h2 => ?_⟩
        by_cases e : ((S j || j == k) && writes ops.toList j d) = true
        · simp only [Bool.and_eq_true, Bool.or_eq_true, beq_iff_eq] at e
          obtain ⟨x, hx, hxd⟩ := writes_iff e.2
          have := hO.conf k j o x hk hx h1 (.inl (by simp [slotConflict, hw, hxd]))
          rcases e.1 with e1 | e1
          · have := hdown j e1 k this; rw [hSk] at this; cases this
          · omega
        · simpa using e
      rw [this]
    · rw [if_neg hw]
      rw [last_eq (p := fun j => S j && writes ops.toList j d) (q := fun j => (S j || j == k) && writes ops.toList j d) (i := ops.size) (fun j hj hp => ⟨hj, by simp at hp; simp [hp.1, hp.2]⟩) (fun j hj hq => ⟨hj, ?_⟩)]
      simp only [Bool.and_eq_true, Bool.or_eq_true, beq_iff_eq] at hq ⊢
      rcases hq.1 with h | h
      · exact ⟨h, hq.2⟩
      · subst h
        have := hq.2
        simp only [writes, hdst, beq_iff_eq] at this
        exact absurd this hw
  have h2 : ∀ id, ((PSof ops.toList us s0 S ops.size).upd o.dst (us k)).hp id = (PSof ops.toList us s0 (fun j => S j || j == k) ops.size).hp id := by
    intro id
    simp only [PS.upd, PSof]
    rw [setHp_eq]
    by_cases ht : ((us k).hps.any fun p => p.1 == id) = true
    · rw [if_pos ht]
      have htk : touches us k id = true := ht
      have : last (fun j => (S j || j == k) && touches us j id) ops.size = some k := by
        rw [last_some]
        refine ⟨hkn, by simp [htk], fun j h1 h2 => ?_⟩
        by_cases e : ((S j || j == k) && touches us j id) = true
        · simp only [Bool.and_eq_true, Bool.or_eq_true, beq_iff_eq] at e
          obtain ⟨p, hp1, hp2⟩ := mem_touches htk
          obtain ⟨q, hq1, hq2⟩ := mem_touches e.2
          obtain ⟨x, hx⟩ := hget j h2
          have hSj : S j = true := by
            rcases e.1 with e1 | e1
            · exact e1
            · omega
          have hpq : nmPos p.1 = nmPos q.1 := by rw [hp2, hq2]
          have hno : D.bit k j = true → False := fun hb => by have := hdown j hSj k hb; rw [hSk] at this; cases this
          rcases (hu j h2).get q hq1 with g1 | ⟨g1, g2⟩
          · rcases (hu k hkn).get p hp1 with g3 | ⟨g3, g4⟩
            · omega
            · rcases g4 with g4 | g4
              · omega
              · have : nmPos p.1 - 1 - nx0 = j := by omega
                rw [this] at g4
                have := (hO.vis j k g4.2).1; omega
          · rcases (hu k hkn).get p hp1 with g3 | ⟨g3, g4⟩
            · rcases g2 with g2 | g2
              · omega
              · have : nmPos q.1 - 1 - nx0 = k := by omega
                rw [this] at g2
                exact (hno (hO.vis k j g2.2).2).elim
            · exact (hno (hO.conf k j o x hk hx h1 (.inr (.inr ⟨by simp [Ord.isRW, Ord.isW] at g3 ⊢; exact .inr g3, g1⟩)))).elim
        · simpa using e
      rw [this]; rfl
    · rw [if_neg ht]
      rw [last_eq (p := fun j => S j && touches us j id) (q := fun j => (S j || j == k) && touches us j id) (i := ops.size) (fun j hj hp => ⟨hj, by simp at hp; simp [hp.1, hp.2]⟩) (fun j hj hq => ⟨hj, ?_⟩)]
      simp only [Bool.and_eq_true, Bool.or_eq_true, beq_iff_eq] at hq ⊢
      rcases hq.1 with h | h
      · exact ⟨h, hq.2⟩
      · subst h
        exact absurd hq.2 ht
  generalize (PSof ops.toList us s0 S ops.size).upd o.dst (us k) = a at *
  generalize PSof ops.toList us s0 (fun j => S j || j == k) ops.size = b at *
  cases a; cases b
  simp only [PS.mk.injEq]
  exact ⟨funext h1, funext h2⟩
end
end Go.Am
namespace Go.Am
open Go.RowKit
def SU (nx0 : Nat) (n : Nat) (S : Nat → Bool) (id : Nat) : Prop := nmPos id ≤ nx0 ∨ ∃ j, j < n ∧ S j = true ∧ nmPos id = nx0 + j + 1
theorem ready_mem {ops : Array Oper} {listed : Array Bool} {i : Nat} (h : i ∈ Region.ready .any ops listed) : ∃ o, ops[i]? = some o ∧ listed.getD i true = false ∧ ∀ e, e ∈ o.after.toList → Region.binds .any e = true → listed.getD e.on false = true := by
  simp only [Region.ready, List.mem_filter, List.mem_range, Bool.and_eq_true, Bool.not_eq_true'] at h
  obtain ⟨h1, h2, h3⟩ := h
  refine ⟨ops[i], by simp [h1], h2, fun e he hb => ?_⟩
  rw [Array.getElem?_eq_getElem h1] at h3
  simp only [Option.map_some, Option.getD_some] at h3
  have := (Array.all_eq_true'.1 h3) e (by simpa using he)
  simpa [hb] using this
theorem draw_any {P : Program} {D : Ord} {ops : Array Oper} {us : Nat → Upd} {rn : Nat → Bool} {s0 : PS} {nx0 : Nat} {C : Ctx} {Q : Exit → Act → World → Prop} (hO : OrdOk D ops)
    (hg : ∀ k o, ops[k]? = some o → Good P D (gdOf ops) nx0 k o (stFrom ops.toList us s0 k) (us k) (rn k)) (hd : ∀ o, o ∈ ops.toList → ∀ d, o.dst = some d → d < C.n)
    (hQ : ∀ a w, Sat C (fun id => nmPos id ≤ nx0 + ops.size) (stFrom ops.toList us s0 ops.size) a w → Q .normal a w) : ∀ (fuel : Nat) (listed : Array Bool) (a : Act) (w : World), listed.size = ops.size →
      (∀ j, listed.getD j false = true → ∀ i, D.bit i j = true → listed.getD i false = true) → ((List.range ops.size).filter fun j => !listed.getD j false).length ≤ fuel →
      Sat C (SU nx0 ops.size fun j => listed.getD j false) (PSof ops.toList us s0 (fun j => listed.getD j false) ops.size) a w → wpAny P .any ops Q fuel listed a w := by
  have hu : ∀ j, j < ops.size → okU D nx0 j (us j) := by
    intro j hj
    have := hg j ops[j] (by simp [hj])
    cases h : rn j with
    | true => exact (this.step h).2
    | false => rw [this.idle h]; exact trivial
  have alls : ∀ (listed : Array Bool) (a : Act) (w : World), (∀ j, j < ops.size → listed.getD j false = true) → Sat C (SU nx0 ops.size fun j => listed.getD j false) (PSof ops.toList us s0 (fun j => listed.getD j false) ops.size) a w → Q .normal a w := by
    intro listed a w hall hs
    rw [psOf_full _ _ _ _ _ hall] at hs
    refine hQ a w (hs.widen (fun id h => ?_))
    rcases h with h | ⟨j, hj, _, h⟩ <;> omega
  have hreadyAll : ∀ (listed : Array Bool), listed.size = ops.size → Region.ready .any ops listed = [] → ∀ j, j < ops.size → listed.getD j false = true := by
    intro listed hsz hr j
    induction j using Nat.strongRecOn with
    | _ j ih =>
      intro hj
      by_cases h : listed.getD j false = true
      · exact h
      · exfalso
        have hf : listed.getD j false = false := by simpa using h
        have hft : listed.getD j true = false := by
          rw [Array.getD_eq_getD_getElem?] at hf ⊢
          have : listed[j]? = some listed[j] := by simp [show j < listed.size by omega]
          rw [this] at hf ⊢; exact hf
        have hmem : j ∈ Region.ready .any ops listed := by
          simp only [Region.ready, List.mem_filter, List.mem_range, Bool.and_eq_true, Bool.not_eq_true']
          refine ⟨hj, hft, ?_⟩
          rw [Array.getElem?_eq_getElem hj]
          simp only [Option.map_some, Option.getD_some]
          rw [Array.all_eq_true']
          intro e he
          by_cases hb : Region.binds .any e = true
          · have hlt := hO.edge j ops[j] (by simp [hj]) e (by simpa using he) hb
            simp [ih e.on hlt (by omega)]
          · simp [hb]
        rw [hr] at hmem; cases hmem
  intro fuel
  induction fuel with
  | zero =>
    intro listed a w hsz hdown hcount hs
    have hall : ∀ j, j < ops.size → listed.getD j false = true := by
      intro j hj
      have hnil := List.eq_nil_of_length_eq_zero (Nat.le_zero.1 hcount)
      by_cases h : listed.getD j false = true
      · exact h
      · have : j ∈ (List.range ops.size).filter fun j => !listed.getD j false := by
          simp only [List.mem_filter, List.mem_range, hj, true_and]; simpa using h
        rw [hnil] at this; cases this
    refine ⟨?_, alls listed a w hall hs⟩
    simp only [Region.ready, List.filter_eq_nil_iff, List.mem_range, Bool.and_eq_true, Bool.not_eq_true', not_and]
    intro i hi hf
    have := hall i hi
    rw [Array.getD_eq_getD_getElem?] at this hf
    have h2 : listed[i]? = some listed[i] := by simp [show i < listed.size by omega]
    rw [h2] at this hf
    simp only [Option.getD_some] at this hf
    rw [this] at hf; cases hf
  | succ fuel ih =>
    intro listed a w hsz hdown hcount hs
    refine ⟨fun hr => alls listed a w (hreadyAll listed hsz hr) hs, fun k hk => ?_⟩
    obtain ⟨o, ho, hlk, hedge⟩ := ready_mem hk
    have hkn : k < ops.size := (Array.getElem?_eq_some_iff.1 ho).1
    have hSk : listed.getD k false = false := by
      rw [Array.getD_eq_getD_getElem?] at hlk ⊢
      have h2 : listed[k]? = some listed[k] := by simp [show k < listed.size by omega]
      rw [h2] at hlk ⊢; exact hlk
    have hpre : ∀ i, D.bit i k = true → listed.getD i false = true := by
      intro i hb
      have hin := (hO.small i k hb).1
      obtain ⟨e, he, hbi, hor⟩ := hO.why i k ops[i] o (by simp [hin]) ho hb
      rcases hor with rfl | hor
      · exact hedge e he hbi
      · exact hdown e.on (hedge e he hbi) i hor
    have hlisted : ∀ j, (listed.setIfInBounds k true).getD j false = (listed.getD j false || j == k) := by
      intro j
      rw [Array.getD_eq_getD_getElem?, Array.getD_eq_getD_getElem?]
      by_cases e : j = k
      · subst e; rw [Array.getElem?_setIfInBounds_self_of_lt (by omega)]; simp
      · rw [Array.getElem?_setIfInBounds_ne (fun h => e h.symm)]; simp [e]
    have good := hg k o ho
    have hdk : ∀ d, o.dst = some d → d < C.n := hd o (by rw [Array.mem_toList_iff]; exact Array.mem_of_getElem? ho)
    have hnext := next_agree (S := fun j => listed.getD j false) (s0 := s0) hO hu hdown ho hSk
    have hstep : ∀ (a' : Act) (w' : World), Sat C (fun id => SU nx0 ops.size (fun j => listed.getD j false) id ∨ (8 * (nx0 + k) ≤ id ∧ id < 8 * (nx0 + k) + 7)) ((PSof ops.toList us s0 (fun j => listed.getD j false) ops.size).upd o.dst (us k)) a' w' → wpAny P .any ops Q fuel (listed.setIfInBounds k true) a' w' := by
      intro a' w' hs'
      refine ih _ a' w' (by simpa using hsz) (fun j hj i hb => ?_) ?_ ?_
      · rw [hlisted] at hj ⊢
        simp only [Bool.or_eq_true, beq_iff_eq] at hj ⊢
        rcases hj with hj | rfl
        · exact .inl (hdown j hj i hb)
        · exact .inl (hpre i hb)
      · have hlt : ((List.range ops.size).filter fun j => !(listed.setIfInBounds k true).getD j false).length < ((List.range ops.size).filter fun j => !listed.getD j false).length := by
          have e1 : ((List.range ops.size).filter fun j => !(listed.setIfInBounds k true).getD j false) = (((List.range ops.size).filter fun j => !listed.getD j false).filter fun j => !(j == k)) := by
            rw [List.filter_filter]
            refine List.filter_congr (fun j _ => ?_)
            rw [hlisted, Bool.not_or, Bool.and_comm]
          rw [e1]
          refine List.length_filter_lt_length_iff_exists.2 ⟨k, ?_, by simp⟩
          simp only [List.mem_filter, List.mem_range, hkn, true_and]
          simp [hSk]
        omega
      · have e1 : PSof ops.toList us s0 (fun j => (listed.setIfInBounds k true).getD j false) ops.size = PSof ops.toList us s0 (fun j => listed.getD j false || j == k) ops.size := by
          congr 1; funext j; exact hlisted j
        rw [e1, ← hnext]
        refine hs'.widen (fun id hid => ?_)
        rcases hid with (h | ⟨j, hj, hSj, h⟩) | h
        · exact .inl h
        · exact .inr ⟨j, hj, (hlisted j).trans (by simp only at hSj; rw [hSj]; rfl), h⟩
        · exact .inr ⟨k, hkn, (hlisted k).trans (by simp), by simp only [nmPos]; split <;> omega⟩
    unfold wpOp
    rw [ho]
    simp only
    -- the guard
    have hwant : Region.wanted o (yielded ops a.tmps) = rn k := by
      rcases good.guard with ⟨h1, h2⟩ | ⟨g, b, d, v, h1, h2, h3, h4⟩
      · rw [h2]; simp [Region.wanted, h1]
      · have hmem : d ∈ looksAt (gdOf ops) o := by simp [looksAt, h1, h2]
        have hag := slot_agree (S := fun j => listed.getD j false) (s0 := s0) (us := us) hO hdown ho hSk hpre hmem
        rw [h3] at hag
        have hv := hs.getBool hag
        have hdn : d < a.tmps.size := by
          obtain ⟨ρ, hr⟩ := hs
          rw [hr.size]
          simp only [gdOf] at h2
          obtain ⟨x, hx, hxd⟩ := Option.bind_eq_some_iff.1 h2
          exact hd x (by rw [Array.mem_toList_iff]; exact Array.mem_of_getElem? hx) d hxd
        rw [h4]
        simp only [Region.wanted, h1, yielded_of h2 hdn, hv]
        cases v <;> simp [yv] <;> first | rfl | (rename_i q; cases q <;> cases b <;> rfl)
    rw [hwant]
    cases hr : rn k with
    | true =>
      simp only [if_true]
      left
      obtain ⟨hst, _⟩ := good.step hr
      refine Oper.wp_mono hstep (hst C (SU nx0 ops.size fun j => listed.getD j false) _ a w hdk ?_ (fun x hx v hv => ?_) (fun id b hb => ?_) hs Q)
      · intro j' hj'
        have hpos : nmPos (8 * (nx0 + k) + j') = nx0 + k + 1 := by simp only [nmPos]; split <;> omega
        rintro (h | ⟨j, hj, hSj, he⟩)
        · omega
        · have : j = k := by omega
          subst this; simp only at hSj; rw [hSk] at hSj; cases hSj
      · cases x with
        | tmp t =>
          have hmem : t ∈ looksAt (gdOf ops) o := by
            simp only [looksAt, List.mem_append, List.mem_filterMap]
            exact .inl ⟨.tmp t, by simpa using hx, rfl⟩
          have := slot_agree (S := fun j => listed.getD j false) (s0 := s0) (us := us) hO hdown ho hSk hpre hmem
          simp only [PS.eval] at hv ⊢
          rw [this]; exact hv
        | const c => exact hv
        | global g => exact hv
        | func g => exact hv
      · exact heap_agree hO hu hdown ho hSk hpre hb
    | false =>
      simp only [Bool.false_eq_true, if_false]
      refine hstep _ w ?_
      rw [good.idle hr]
      exact (hs.skip hdk).widen (fun _ h => .inl h)
end Go.Am
namespace Go.Am
open Go.RowKit
def Awp (P : Program) (C : Ctx) (c : Code) (K : Exit → LS → Prop) (s : LS) : Prop :=
  ∀ a w, Sat C (fun i => nmPos i ≤ s.nx) s.ps a w → c.wp P (fun e a' w' => ∃ s', K e s' ∧ Sat C (fun i => nmPos i ≤ s'.nx) s'.ps a' w') a w
section
variable {P : Program} {C : Ctx} {K : Exit → LS → Prop} {s : LS}
theorem awp_skip (h : K .normal s) : Awp P C .skip K s := fun _ _ hs => wp_skip ⟨s, h, hs⟩
theorem awp_ret (h : K .ret s) : Awp P C .ret K s := fun _ _ hs => wp_ret ⟨s, h, hs⟩
theorem awp_exit {id : Nat} (h : K (.exit id) s) : Awp P C (.exit id) K s := fun _ _ hs => wp_exit ⟨s, h, hs⟩
theorem awp_seq {x y : Code} (h : ∀ k : LS → Prop, (∀ s', Awp P C y K s' → k s') → Awp P C x (fun e s' => match e with | .normal => k s' | e => K e s') s) : Awp P C (.seq x y) K s := by
  intro a w hs
  have h1 := h (fun s' => Awp P C y K s') (fun _ h => h) a w hs
  refine wp_seq (wp_mono h1 fun e a' w' ⟨s', hk, hs'⟩ => ?_)
  cases e with
  | normal => exact hk a' w' hs'
  | exit id => exact ⟨s', hk, hs'⟩
  | goto l => exact ⟨s', hk, hs'⟩
  | ret => exact ⟨s', hk, hs'⟩
  | panic ch => exact ⟨s', hk, hs'⟩
  | outgrown => exact ⟨s', hk, hs'⟩
theorem awp_block {id : Nat} {c : Code} (h : Awp P C c (fun e s' => match e with | .exit j => if j = id then K .normal s' else K (.exit j) s' | e => K e s') s) : Awp P C (.block id c) K s := by
  intro a w hs
  refine wp_block (wp_mono (h a w hs) fun e a' w' ⟨s', hk, hs'⟩ => ?_)
  cases e with
  | exit j =>
    simp only [Exit.inBlock]
    simp only at hk
    by_cases e : j = id
    · rw [if_pos e] at hk ⊢; exact ⟨s', hk, hs'⟩
    · rw [if_neg e] at hk ⊢; exact ⟨s', hk, hs'⟩
  | normal => exact ⟨s', hk, hs'⟩
  | goto l => exact ⟨s', hk, hs'⟩
  | ret => exact ⟨s', hk, hs'⟩
  | panic ch => exact ⟨s', hk, hs'⟩
  | outgrown => exact ⟨s', hk, hs'⟩
theorem awp_cond {d : Nat} {x y : Code} {b : Bool} (hb : lkp s.sl d = some (.p (.lit (.bool b)))) (h1 : b = true → Awp P C x K s) (h2 : b = false → Awp P C y K s) : Awp P C (.cond (.tmp d) x y) K s := by
  intro a w hs
  have hv := hs.getBool (d := d) hb
  refine wp_cond (t := b) hv ?_
  cases b with
  | true => exact h1 rfl a w hs
  | false => exact h2 rfl a w hs
def inFrame (n : Nat) (ops : Array Oper) : Bool := ops.toList.all fun o => o.dst.all fun d => decide (d < n)
theorem inFrame_spec {n : Nat} {ops : Array Oper} (h : inFrame n ops = true) : ∀ o, o ∈ ops.toList → ∀ d, o.dst = some d → d < n := by
  intro o ho d hd
  have := List.all_eq_true.1 h o ho
  rw [hd] at this
  simpa using this
theorem gdOf_lt {n : Nat} {ops : Array Oper} (h : inFrame n ops = true) : ∀ g d, gdOf ops g = some d → d < n := by
  intro g d hg
  unfold gdOf at hg
  obtain ⟨x, hx, hd⟩ := Option.bind_eq_some_iff.1 hg
  exact inFrame_spec h x (by rw [Array.mem_toList_iff]; exact Array.mem_of_getElem? hx) d hd
theorem awp_region {id : Nat} {l : List Oper} (H : List Nat) (hf : inFrame C.n l.toArray = true)
    (h : ∀ k : LS → Prop, (∀ s', K .normal s' → k s') → aops P H (gdOf l.toArray) (fun s' => k ⟨s'.sl, s'.hp, s'.nx + l.length⟩) 0 l s) : Awp P C (.region id l.toArray false) K s := by
  intro a w hs
  refine wp_region_lit ?_
  have hd := inFrame_spec hf
  refine aops_seq (C := C) l 0 s a w (h _ fun _ h => h) (fun o ho => hd o (by simpa using ho)) (gdOf_lt hf) (by simpa using hs) (fun s' a' w' hk hnx hs' => ⟨⟨s'.sl, s'.hp, s'.nx + l.length⟩, hk, ?_⟩)
  simp only [Nat.zero_add] at hs'
  exact hs'
theorem awp_draw {id : Nat} {l : List Oper} (H : List Nat) (D : Ord) (hf : inFrame C.n l.toArray = true) (hm : P.follows .mixedOrders = true) (hD : okD D l.toArray = true)
    (h : ∀ k : LS → Prop, (∀ s', K .normal s' → k s') → aopsD P H D (gdOf l.toArray) (fun s' => k ⟨s'.sl, s'.hp, s'.nx + l.length⟩) 0 l s) : Awp P C (.region id l.toArray true) K s := by
  intro a w hs
  refine wp_region_any hm ?_
  have hO := ordOk_of hD
  obtain ⟨us, rn, s', hk, hnx, hps, hgood⟩ := traceD l 0 s (h _ fun _ h => h)
  have hl : l.toArray.toList = l := by simp
  refine draw_any (C := C) (us := us) (rn := rn) (s0 := s.ps) (nx0 := s.nx) hO (fun k o hk => ?_) (inFrame_spec hf) (fun a' w' hs' => ?_) l.toArray.size _ a _ (by simp) (fun j hj => ?_) ?_ ?_
  · rw [hl]
    have := hgood k o (by simpa using hk)
    rwa [Nat.zero_add] at this
  · refine ⟨⟨s'.sl, s'.hp, s'.nx + l.length⟩, hk, ?_⟩
    have e : l.toArray.size = l.length := by simp
    rw [hl, e, ← hps, ← hnx] at hs'
    exact hs'
  · rw [Array.getD_eq_getD_getElem?, Array.getElem?_replicate] at hj
    split at hj <;> cases hj
  · refine Nat.le_trans (List.length_filter_le _ _) (by simp)
  · have e1 : PSof l.toArray.toList us s.ps (fun j => (Array.replicate l.toArray.size false).getD j false) l.toArray.size = s.ps := by
      have hz : ∀ j, (Array.replicate l.toArray.size false).getD j false = false := by
        intro j
        rw [Array.getD_eq_getD_getElem?, Array.getElem?_replicate]
        split <;> rfl
      have h0 : ∀ p : Nat → Bool, last (fun j => (Array.replicate l.toArray.size false).getD j false && p j) l.toArray.size = none := fun p => last_none.2 (fun j _ => by rw [hz]; rfl)
      simp only [PSof, h0]
    rw [e1]
    obtain ⟨ρ, hr⟩ := hs
    exact ⟨ρ, (hr.drew).widen (fun i hi => .inl hi)⟩
def LE (s s' : LS) : Prop := ∀ C a w, Sat C (fun i => nmPos i ≤ s.nx) s.ps a w → Sat C (fun i => nmPos i ≤ s'.nx) s'.ps a w
theorem awp_le {c : Code} {s' : LS} (hle : LE s s') (h : Awp P C c K s') : Awp P C c K s := fun a w hs => h a w (hle C a w hs)
theorem awp_loop {σ : Type} {c : Code} (ok : σ → Prop) (st : σ → LS) (μ : σ → Nat) (x0 : σ) (h0 : ok x0) (hle : LE s (st x0))
    (h : ∀ x, ok x → Awp P C c (fun e s' => match e with | .normal => ∃ x', ok x' ∧ LE s' (st x') ∧ μ x' < μ x | e => K e s') (st x)) : Awp P C (.loop c) K s := by
  intro a w hs
  -- the state is chosen anew at each round
  have key : ∀ (b : Frame) (k : List Item) (cs : List Frame) (n : Nat) (x : σ) (a : Act) (w : World), μ x = n → ok x → Sat C (fun i => nmPos i ≤ (st x).nx) (st x).ps a w →
      ∃ e a' w', (∃ s', K e s' ∧ Sat C (fun i => nmPos i ≤ s'.nx) s'.ps a' w') ∧ Arrives P (lone (b.at a (.code c :: .inLoop c :: k)) cs w) b k cs e a' w' := by
    intro b k cs n
    induction n using Nat.strongRecOn with
    | _ n ih =>
      intro x a w hn hok hsat
      obtain ⟨e, a₁, w₁, ⟨s', hk, hs'⟩, harr⟩ := h x hok a w hsat b (.inLoop c :: k) cs
      cases e with
      | normal =>
        obtain ⟨x', hok', hle', hlt⟩ := hk
        obtain ⟨e₂, a₂, w₂, hq₂, harr₂⟩ := ih (μ x') (hn ▸ hlt) x' a₁ w₁ rfl hok' (hle' C a₁ w₁ hs')
        exact ⟨e₂, a₂, w₂, hq₂, .of_steps (Steps.trans harr (.one step_inLoop)) harr₂⟩
      | exit id => exact ⟨_, a₁, w₁, ⟨s', hk, hs'⟩, .pass (x := .inLoop c) rfl (fun _ _ => .inl (by simp)) harr⟩
      | goto l => exact ⟨_, a₁, w₁, ⟨s', hk, hs'⟩, .pass (x := .inLoop c) rfl (fun _ _ => .inl (by simp)) harr⟩
      | ret => exact ⟨_, a₁, w₁, ⟨s', hk, hs'⟩, .pass (x := .inLoop c) rfl (fun _ _ => .inl (by simp)) harr⟩
      | panic ch => exact ⟨_, a₁, w₁, ⟨s', hk, hs'⟩, .pass (x := .inLoop c) rfl (fun _ _ => .inl (by simp)) harr⟩
      | outgrown => exact ⟨_, a₁, w₁, ⟨s', hk, hs'⟩, .pass (x := .inLoop c) rfl (fun _ _ => .inl (by simp)) harr⟩
  intro b k cs
  obtain ⟨e, a', w', hq, harr⟩ := key b k cs (μ x0) x0 a w rfl h0 (hle C a w hs)
  exact ⟨e, a', w', hq, .of_steps (.one step_loop) harr⟩
end
def LeP (x y : PV) : Prop := ∀ O w v, RepP O w x v → RepP O w y v
theorem LeP.refl (x : PV) : LeP x x := fun _ _ _ h => h
theorem LeP.seq (c : Bool) (es : List (List PV)) : LeP (.seq c es) (.seq false es) := by
  intro O w v h
  cases h with
  | nilseq _ a cap hc => exact .nilseq _ _ _ (fun h => by cases h)
  | seq _ _ sz' b' off _ q g1 g2 g3 g4 g5 => exact .seq _ _ sz' b' off _ q g1 g2 (fun h => by cases h) g4 g5
theorem LeP.of_eq {x y : PV} (h : x = y) : LeP x y := h ▸ LeP.refl x
def LePs (xs ys : List PV) : Prop := xs.length = ys.length ∧ ∀ (i : Nat) (x y : PV), xs[i]? = some x → ys[i]? = some y → LeP x y
theorem LePs.nil : LePs [] [] := ⟨rfl, fun i x y h => by simp at h⟩
theorem LePs.cons {x y : PV} {xs ys : List PV} (h : LeP x y) (hs : LePs xs ys) : LePs (x :: xs) (y :: ys) :=
  ⟨by simp [hs.1], fun i a b ha hb => by
    cases i with
    | zero => simp only [List.getElem?_cons_zero, Option.some.injEq] at ha hb; subst ha hb; exact h
    | succ i => exact hs.2 i a b (by simpa using ha) (by simpa using hb)⟩
theorem LeP.agg {xs ys : List PV} (h : LePs xs ys) : LeP (.agg xs) (.agg ys) := by
  intro O w v hr
  cases hr with
  | agg _ vs h1 h2 h3 =>
    refine .agg _ _ (h1.trans h.1) (fun i y hy => ?_) (fun i hi => h3 i (by rw [h.1]; exact hi))
    have hlt := (List.getElem?_eq_some_iff.1 hy).1
    have hx : xs[i]? = some (xs[i]'(by rw [h.1]; exact hlt)) := by simp [h.1, hlt]
    exact h.2 i _ y hx hy O w _ (h2 i _ hx)
theorem LeP.tup {xs ys : List PV} (h : LePs xs ys) : LeP (.tup xs) (.tup ys) := by
  intro O w v hr
  cases hr with
  | tup _ vs h1 h2 =>
    refine .tup _ _ (h1.trans h.1) (fun i y hy => ?_)
    have hlt := (List.getElem?_eq_some_iff.1 hy).1
    have hx : xs[i]? = some (xs[i]'(by rw [h.1]; exact hlt)) := by simp [h.1, hlt]
    exact h.2 i _ y hx hy O w _ (h2 i _ hx)
end Go.Am
namespace Go.Am
open Go.RowKit
def PCall (P : Program) (f : FuncId) (args : List PV) (r : PV) : Prop :=
  ∀ (O : Nat → Prop) (w : World) (vs : Array Value), (∀ b, O b → b < w.heap.size) → vs.size = args.length → (∀ i x, args[i]? = some x → RepP O w x (vs.getD i undef)) →
    Calls P f vs w fun e w' => ∃ v, e = .returned v ∧ RepP O w' r v ∧ Below w.heap.size w w'
theorem callsA_of_pcall {P : Program} {g : FuncId} {xs : List AV} {args : List PV} {r : PV} {f : Nat} {V : PS} {dst : Option Nat} (hx : pures xs = some args) (h : PCall P g args r) : CallsA P g xs f V dst ⟨.p r, []⟩ := by
  intro C U s ρ a w vs hd hf hV hs hsz hr
  have e := pures_spec _ _ hx
  subst e
  refine (h (Own C s ρ) w vs (fun b hb => ?_) (by simpa using hsz) (fun i x hi => (hr i (.p x) (by simp [hi])).unP)).mono fun e w' ⟨v, he, hv, hb⟩ => ⟨v, he, ρ, ?_⟩
  · by_cases hlt : b < w.heap.size
    · exact hlt
    · exact absurd hb (hs.notOwn (by omega))
  · have hm := hs.move (w' := w') hb.size hb.block hb.os hb.tape hb.output
    exact (hm.put hd (.p _ _ hv)).widen (fun _ => .inl)
theorem callK_p {P : Program} {g : FuncId} {xs : List AV} {f : Nat} {V : PS} {dst : Option Nat} {K : Upd → Prop} {args : List PV} {r : PV} (h : PCall P g args r) (hx : pures xs = some args) (hK : K ⟨.p r, []⟩) :
    callK P g xs f V dst K := ⟨_, callsA_of_pcall hx h, hK⟩
inductive ResA (hp : List (Nat × Blk)) : AV → PV → Prop
  | p {x y : PV} : LeP x y → ResA hp (.p x) y
  | own {id sz : Nat} {es : List (List PV)} : lkp hp id = some (.row sz (lift es)) → ResA hp (.own id) (.seq false es)
  | agg {cs : List AV} {rs : List PV} : cs.length = rs.length → (∀ (i : Nat) (x : AV) (y : PV), cs[i]? = some x → rs[i]? = some y → ResA hp x y) → ResA hp (.agg cs) (.agg rs)
theorem resA_rep {C : Ctx} {U : Nat → Prop} {s : LS} {ρ : Nat → Option Value} {a : Act} {w : World} (h : SatR C U s.ps ρ a w) {x : AV} {r : PV} (hr : ResA s.hp x r) {v : Value} (hv : RepA (Own C s.ps ρ) ρ w x v) : RepP C.Oc w r v := by
  have hm : Moves (Own C s.ps ρ) w C.Oc w := ⟨Nat.le_refl _, fun _ _ _ => rfl, fun _ _ h => .inl h⟩
  induction hr generalizing v with
  | p hle => exact hle _ _ _ (hv.unP.mono hm)
  | @own id sz es hid =>
    obtain ⟨u, hu, hb⟩ := h.heap id _ hid
    cases hv with
    | own _ ad n c hi =>
      rw [hu] at hi; injection hi with hi; subst hi
      rcases hb with ⟨hnil, a', ha'⟩ | ⟨b, cap, cur, e, h1, h0, h2, h3, h4, h5, h6, h7⟩
      · have : es = [] := by simpa [lift] using hnil
        subst this
        injection ha' with q1 q2 q3; subst q1 q2 q3
        exact .nilseq _ _ _ (fun h => by cases h)
      · rcases h1 with h1 | ⟨h1, _⟩
        · injection h1 with q1 q2 q3; subst q1 q3
          rw [lift_length] at q2; subst q2
          have hok : BlkOk (Own C s.ps ρ) ρ w sz (lift es) c cur := ⟨h3, h4, h5, h6, h7⟩
          have hrange := (h.range id _ _ b hid hu (by simp [oblk]; omega)).2.1
          refine .seq false es sz b 0 c (fun j => cur.getD j undef) (lift_len.1 h6) (by rw [lift_length] at h3; exact h3) (fun h => by cases h) (fun j hj => ?_) (fun j y hy => (blk_get hok hy).2.1.mono hm)
          have := blk_get hok (List.getElem?_eq_getElem hj)
          refine ⟨hrange, ?_, this.2.2⟩
          rw [Nat.zero_add]; exact cell_row h2 this.1
        · cases h1
  | @agg cs rs hl _ ih =>
    cases hv with
    | agg _ vs h1 h2 h3 =>
      refine .agg _ _ (h1.trans hl) (fun i y hy => ?_) (fun i hi => h3 i (by rw [hl]; exact hi))
      have hlt := (List.getElem?_eq_some_iff.1 hy).1
      have hx : cs[i]? = some (cs[i]'(by rw [hl]; exact hlt)) := by simp
      exact ih i _ y hx hy (h2 i _ hx)
def resV (P : Program) (s : LS) : ResultVar → PV → Prop
  | .tmp t, r => ∃ x, lkp s.sl t = some x ∧ ResA s.hp x r
  | .cell a ty, r => ∃ v, lkp s.sl a = some v ∧ ∃ g n, tSz P ty = some (g, n) ∧ ∃ x, loadR s.ps v g n x ∧ ResA s.hp x r
def resVs (P : Program) (s : LS) : List ResultVar → List PV → Prop
  | [], [] => True
  | v :: vs, r :: rs => resV P s v r ∧ resVs P s vs rs
  | _, _ => False
def resR (P : Program) (s : LS) (rv : List ResultVar) (r : PV) : Prop :=
  match rv with
  | [v] => resV P s v r
  | vs => ∃ rs, r = .tup rs ∧ resVs P s vs rs
def retK (P : Program) (fn : Func) (r : PV) (e : Exit) (s : LS) : Prop :=
  match e with
  | .ret | .normal => resR P s fn.results.toList r
  | _ => False
def getR (tmps : Array Value) (rv : ResultVar) : Sem Value :=
  match rv with
  | .tmp t => pure (tmps.getD t undef)
  | .cell a t => do loadVar t (← asAddr (tmps.getD a undef))
theorem results_eq (fn : Func) (tmps : Array Value) : results fn tmps = (do let vs ← fn.results.mapM (getR tmps); pure (if h : vs.size = 1 then vs[0] else .tuple vs)) := rfl
theorem run_resV {P : Program} {C : Ctx} {U : Nat → Prop} {s : LS} {ρ : Nat → Option Value} {a : Act} {w : World} (h : SatR C U s.ps ρ a w) {rv : ResultVar} {r : PV} (hr : resV P s rv r) :
    ∃ v, (getR a.tmps rv).run P w = .ok v w ∧ RepP C.Oc w r v := by
  cases rv with
  | tmp t =>
    obtain ⟨x, hx, hres⟩ := hr
    exact ⟨_, rfl, resA_rep h hres (h.slots t x hx)⟩
  | cell q ty =>
    obtain ⟨v, hv, g, n, ht, x, hl, hres⟩ := hr
    have hvr := h.slots q v hv
    obtain ⟨z, hz, hzr⟩ := load_rep ht hl (fun id k hk => h.heap id k hk) hvr
    refine ⟨z, ?_, resA_rep h hres hzr⟩
    simp only [getR]
    generalize a.tmps.getD q undef = y at hvr hz ⊢
    have key : ∃ ad, y = .pointer (some ad) := by
      unfold loadR at hl
      cases hvr with
      | ptr => exact ⟨_, rfl⟩
      | pp => exact ⟨_, rfl⟩
      | p => exact hl.elim
      | own => exact hl.elim
      | sub => exact hl.elim
      | sub0 => exact hl.elim
      | agg => exact hl.elim
      | tup => exact hl.elim
      | fn => exact hl.elim
      | mp => exact hl.elim
    obtain ⟨ad, rfl⟩ := key
    simpa [getR, asAddr, Instr.loadAt, Instr.sureAddr] using hz
theorem run_results {P : Program} {C : Ctx} {U : Nat → Prop} {s : LS} {ρ : Nat → Option Value} {a : Act} {w : World} (h : SatR C U s.ps ρ a w) {fn : Func} {r : PV} (hr : resR P s fn.results.toList r) :
    ∃ v, (results fn a.tmps).run P w = .ok v w ∧ RepP C.Oc w r v := by
  have many : ∀ (l : List ResultVar) (rs : List PV), resVs P s l rs → ∃ us : List Value, us.length = rs.length ∧ us.length = l.length ∧ (∀ i x, rs[i]? = some x → RepP C.Oc w x (us.getD i undef)) ∧
      (l.mapM (getR a.tmps)).run P w = .ok us w := by
    intro l
    induction l with
    | nil =>
      intro rs hrs
      cases rs with
      | nil => exact ⟨[], rfl, rfl, fun i x hx => by simp at hx, by simp⟩
      | cons => exact hrs.elim
    | cons v l ih =>
      intro rs hrs
      cases rs with
      | nil => exact hrs.elim
      | cons r rs =>
        obtain ⟨u, hu, hur⟩ := run_resV h hrs.1
        obtain ⟨us, h1, h2, h3, h4⟩ := ih rs hrs.2
        refine ⟨u :: us, by simp [h1], by simp [h2], fun i x hx => ?_, ?_⟩
        · cases i with
          | zero => simp only [List.getElem?_cons_zero, Option.some.injEq] at hx; subst hx; simpa using hur
          | succ i => simpa using h3 i x (by simpa using hx)
        · rw [List.mapM_cons, Sem.run_bind, hu]
          simp only [Result.andThen_ok, Sem.run_bind, h4, Sem.run_pure]
  have key : ∀ (l : List ResultVar) (us : List Value), fn.results.toList = l → us.length = l.length → (l.mapM (getR a.tmps)).run P w = .ok us w →
      (results fn a.tmps).run P w = .ok (if h : us.toArray.size = 1 then us.toArray[0] else .tuple us.toArray) w := by
    intro l us hl hlen hrun
    have hfn : fn.results = l.toArray := by rw [← hl]
    rw [results_eq, hfn]
    simp only [Sem.run_bind, List.mapM_toArray, Sem.run_map, hrun, Result.andThen_ok, Sem.run_pure]
  generalize hl : fn.results.toList = l at hr key
  unfold resR at hr
  split at hr
  · rename_i v
    obtain ⟨us, h1, h2, h3, h4⟩ := many [v] [r] ⟨hr, trivial⟩
    have hk := key [v] us rfl h2 h4
    obtain ⟨u, rfl⟩ : ∃ u, us = [u] := by
      cases us with
      | nil => simp at h2
      | cons u us => cases us with | nil => exact ⟨u, rfl⟩ | cons => simp at h2
    refine ⟨u, by simpa using hk, ?_⟩
    simpa using h3 0 r rfl
  · rename_i hne
    obtain ⟨rs, rfl, hrs⟩ := hr
    obtain ⟨us, h1, h2, h3, h4⟩ := many l rs hrs
    have hk := key l us rfl h2 h4
    have hn1 : us.toArray.size ≠ 1 := by
      intro h
      have : l.length = 1 := by rw [← h2]; simpa using h
      match l, this with
      | [v], _ => exact hne v rfl
    rw [dif_neg hn1] at hk
    refine ⟨_, hk, .tup _ _ (by simpa using h1) (fun i x hx => ?_)⟩
    have := h3 i x hx
    rw [List.getD_eq_getElem?_getD] at this
    rw [Array.getD_eq_getD_getElem?, List.getElem?_toArray]; exact this
def argSl : Nat → List PV → List (Nat × AV)
  | _, [] => []
  | i, x :: r => (i, .p x) :: argSl (i + 1) r
theorem lkp_argSl : ∀ (l : List PV) (i d : Nat) (x : AV), lkp (argSl i l) d = some x → ∃ y j, x = .p y ∧ l[j]? = some y ∧ d = i + j
  | [], i, d, x, h => by simp [argSl, lkp] at h
  | y :: l, i, d, x, h => by
    simp only [argSl, lkp] at h
    split at h
    · rename_i e
      simp only [Option.some.injEq] at h; subst h
      exact ⟨y, 0, rfl, rfl, by omega⟩
    · obtain ⟨z, j, h1, h2, h3⟩ := lkp_argSl l (i + 1) d x h
      exact ⟨z, j + 1, h1, by simpa using h2, by omega⟩
theorem pcall_of_awp {P : Program} {f : FuncId} {fn : Func} {c : Code} {args : List PV} {r : PV} (hf : P.funcs[f]? = some fn) (hb : fn.body = some c) (hn : args.length ≤ fn.ntmps)
    (h : ∀ C : Ctx, C.n = fn.ntmps → Awp P C c (retK P fn r) ⟨argSl 0 args, [], 0⟩) : PCall P f args r := by
  intro O w vs hO hsz hr
  refine calls_of_wp hf hb ?_
  let C : Ctx := ⟨w, O, fun _ => False, fn.ntmps, fun _ => none, []⟩
  have hs : Sat C (fun i => nmPos i ≤ 0) (⟨argSl 0 args, [], 0⟩ : LS).ps ⟨vs ++ Array.replicate (fn.ntmps - vs.size) undef, []⟩ w := by
    refine ⟨fun _ => none, ⟨rfl, by simp [C]; omega, fun d x hx => ?_, fun id k hk => (by cases hk), fun i j k l v u b hk => (by cases hk), fun _ _ => rfl, fun id k v b hk => (by cases hk), hO, rfl, rfl, rfl, Nat.le_refl _, fun _ _ _ => rfl, fun j v hj => (by cases hj)⟩⟩
    obtain ⟨y, j, rfl, hy, rfl⟩ := lkp_argSl args 0 d x hx
    have hj := (List.getElem?_eq_some_iff.1 hy).1
    have := hr j y hy
    rw [Nat.zero_add, Array.getD_eq_getD_getElem?, Array.getElem?_append_left (by omega), ← Array.getD_eq_getD_getElem?]
    refine .p _ _ (this.mono ⟨Nat.le_refl _, fun _ _ _ => rfl, fun b hb ho => ?_⟩)
    rcases ho with ho | ⟨id, k, v, hk, _⟩
    · exact ho
    · cases hk
  refine wp_mono (h C rfl _ w hs) fun e a' w' ⟨s', hk, ρ, hsat⟩ => ?_
  have fin : resR P s' fn.results.toList r → bodyPost P fn (fun e w' => ∃ v, e = .returned v ∧ RepP O w' r v ∧ Below w.heap.size w w') .ret a' w' := by
    intro hres
    obtain ⟨v, hv, hrep⟩ := run_results hsat hres
    exact ⟨hsat.defers, v, hv, v, rfl, hrep, ⟨hsat.os, hsat.tape, hsat.output, hsat.grows, fun b hb => hsat.frame b hb (fun h => h)⟩⟩
  cases e with
  | ret => exact fin hk
  | normal => exact fin hk
  | exit => exact hk.elim
  | goto => exact hk.elim
  | panic => exact hk.elim
  | outgrown => exact hk.elim
end Go.Am
namespace Go.Am
open Go.RowKit
def lkq (π : List (Nat × Nat)) (j : Nat) : Option Nat := if j % 8 = 7 then some j else lkp π j
inductive LeA (hp : List (Nat × Blk)) (π : List (Nat × Nat)) : AV → AV → Prop
  | p {x y : PV} : LeP x y → LeA hp π (.p x) (.p y)
  | own {i j : Nat} : lkq π j = some i → LeA hp π (.own i) (.own j)
  | ptr {i j sz k o : Nat} : lkq π j = some i → LeA hp π (.ptr i sz k o) (.ptr j sz k o)
  | frz {i sz : Nat} {es : List (List PV)} : lkp hp i = some (.row sz (lift es)) → (π.all (fun q => q.2 != i) && i % 8 != 7) = true → LeA hp π (.own i) (.p (.seq false es))
  | agg {cs ds : List AV} : cs.length = ds.length → (∀ (i : Nat) (x y : AV), cs[i]? = some x → ds[i]? = some y → LeA hp π x y) → LeA hp π (.agg cs) (.agg ds)
  | mp {i j : Nat} : lkq π j = some i → LeA hp π (.mp i) (.mp j)
  | tup {cs ds : List AV} : cs.length = ds.length → (∀ (i : Nat) (x y : AV), cs[i]? = some x → ds[i]? = some y → LeA hp π x y) → LeA hp π (.tup cs) (.tup ds)
  | fn {f : FuncId} {cs ds : List AV} : cs.length = ds.length → (∀ (i : Nat) (x y : AV), cs[i]? = some x → ds[i]? = some y → LeA hp π x y) → LeA hp π (.fn f cs) (.fn f ds)
def LeRow (hp : List (Nat × Blk)) (π : List (Nat × Nat)) (cs ds : List AV) : Prop := cs.length = ds.length ∧ ∀ (j : Nat) (x y : AV), cs[j]? = some x → ds[j]? = some y → LeA hp π x y
def LeB (hp : List (Nat × Blk)) (π : List (Nat × Nat)) : Blk → Blk → Prop
  | .row sz es, .row sz' es' => sz = sz' ∧ es.length = es'.length ∧ ∀ (i : Nat) (cs ds : List AV), es[i]? = some cs → es'[i]? = some ds → LeRow hp π cs ds
  | .map len m, .map len' m' => len = len' ∧ m = m'
  | .map len m, .mapS len' S => len = len' ∧ ∀ q x, m q = some x → S q x
  | .mapS len S, .mapS len' S' => len = len' ∧ ∀ q x, S q x → S' q x
  | _, _ => False
theorem LeRow.nil {hp : List (Nat × Blk)} {π : List (Nat × Nat)} : LeRow hp π [] [] := ⟨rfl, fun i x y h => by simp at h⟩
theorem LeRow.cons {hp : List (Nat × Blk)} {π : List (Nat × Nat)} {x y : AV} {xs ys : List AV} (h : LeA hp π x y) (hs : LeRow hp π xs ys) : LeRow hp π (x :: xs) (y :: ys) :=
  ⟨by simp [hs.1], fun i a b ha hb => by
    cases i with
    | zero => simp only [List.getElem?_cons_zero, Option.some.injEq] at ha hb; subst ha hb; exact h
    | succ i => exact hs.2 i a b (by simpa using ha) (by simpa using hb)⟩
theorem LeB.lift {hp : List (Nat × Blk)} {π : List (Nat × Nat)} {sz : Nat} (es : List (List PV)) : LeB hp π (.row sz (lift es)) (.row sz (lift es)) := by
  refine ⟨rfl, rfl, fun i cs ds h1 h2 => ?_⟩
  rw [h1] at h2; injection h2 with h2; subst h2
  rw [lift_get] at h1
  obtain ⟨qs, _, rfl⟩ := Option.map_eq_some_iff.1 h1
  refine ⟨rfl, fun j x y h1 h2 => ?_⟩
  rw [h1] at h2; injection h2 with h2; subst h2
  rw [List.getElem?_map] at h1
  obtain ⟨q, _, rfl⟩ := Option.map_eq_some_iff.1 h1
  exact .p (.refl q)
theorem LeB.one {hp : List (Nat × Blk)} {π : List (Nat × Nat)} {sz : Nat} {cs ds : List AV} (h : LeRow hp π cs ds) : LeB hp π (.row sz [cs]) (.row sz [ds]) := by
  refine ⟨rfl, rfl, fun i c d h1 h2 => ?_⟩
  cases i with
  | zero => simp only [List.getElem?_cons_zero, Option.some.injEq] at h1 h2; subst h1 h2; exact h
  | succ i => simp at h1
def SlLE (hp : List (Nat × Blk)) (π : List (Nat × Nat)) (sl : List (Nat × AV)) : List (Nat × AV) → Prop
  | [] => True
  | (d, y) :: r => (∃ x, lkp sl d = some x ∧ LeA hp π x y) ∧ SlLE hp π sl r
def HpLE (hp : List (Nat × Blk)) (π : List (Nat × Nat)) : List (Nat × Blk) → Prop
  | [] => True
  | (j, b') :: r => (∃ i, lkq π j = some i ∧ ∃ b, lkp hp i = some b ∧ LeB hp π b b') ∧ HpLE hp π r
theorem lkp_mem {α : Type} : ∀ (l : List (Nat × α)) (d : Nat) (x : α), lkp l d = some x → (d, x) ∈ l
  | [], d, x, h => by simp [lkp] at h
  | (k, y) :: l, d, x, h => by
    simp only [lkp] at h
    split at h
    · rename_i e; simp only [Option.some.injEq] at h; subst h e; simp
    · exact List.mem_cons_of_mem _ (lkp_mem l d x h)
theorem SlLE.get {hp : List (Nat × Blk)} {π : List (Nat × Nat)} {sl : List (Nat × AV)} : ∀ {l : List (Nat × AV)}, SlLE hp π sl l → ∀ {d y}, (d, y) ∈ l → ∃ x, lkp sl d = some x ∧ LeA hp π x y
  | [], _, d, y, h => by cases h
  | (d', y') :: l, hs, d, y, h => by
    rcases List.mem_cons.1 h with h | h
    · injection h with h1 h2; subst h1 h2; exact hs.1
    · exact hs.2.get h
theorem HpLE.get {hp : List (Nat × Blk)} {π : List (Nat × Nat)} : ∀ {l : List (Nat × Blk)}, HpLE hp π l → ∀ {j b'}, (j, b') ∈ l → ∃ i, lkq π j = some i ∧ ∃ b, lkp hp i = some b ∧ LeB hp π b b'
  | [], _, d, y, h => by cases h
  | (d', y') :: l, hs, d, y, h => by
    rcases List.mem_cons.1 h with h | h
    · injection h with h1 h2; subst h1 h2; exact hs.1
    · exact hs.2.get h
theorem le_of {s s' : LS} (π : List (Nat × Nat)) (h1 : π.all (fun q => decide (nmPos q.1 ≤ s'.nx) && q.2 % 8 != 7) = true) (h2 : π.all (fun p => π.all fun q => p.2 != q.2 || p.1 == q.1) = true) (hsl : SlLE s.hp π s.sl s'.sl) (hhp : HpLE s.hp π s'.hp) : LE s s' := by
  intro C a w ⟨ρ, h⟩
  let ρ' : Nat → Option Value := fun j => (lkq π j).bind ρ
  have hinj : ∀ j1 j2 i, lkq π j1 = some i → lkq π j2 = some i → j1 = j2 := by
    intro j1 j2 i e1 e2
    unfold lkq at e1 e2
    have hne : ∀ j i, lkp π j = some i → i % 8 ≠ 7 := by
      intro j i e
      have := List.all_eq_true.1 h1 _ (lkp_mem π j i e)
      simp at this; exact this.2
    split at e1
    · injection e1 with e1; subst e1
      split at e2
      · injection e2 with e2; exact e2.symm
      · exact absurd ‹_› (hne _ _ e2)
    split at e2
    · injection e2 with e2; subst e2
      exact absurd ‹_› (hne _ _ e1)
    have := List.all_eq_true.1 (List.all_eq_true.1 h2 _ (lkp_mem π j1 i e1)) _ (lkp_mem π j2 i e2)
    simpa using this
  have hdom : ∀ j b', lkp s'.hp j = some b' → ∃ i, lkq π j = some i ∧ ∃ b, lkp s.hp i = some b ∧ LeB s.hp π b b' := fun j b' hj => hhp.get (lkp_mem _ _ _ hj)
  have hO : ∀ x, Own C s'.ps ρ' x → Own C s.ps ρ x := by
    rintro x (ho | ⟨j, k, v, g1, g2, g3⟩)
    · exact .inl ho
    · obtain ⟨i, hi, b, hb, _⟩ := hdom j k g1
      simp only [ρ', hi, Option.bind_some] at g2
      exact .inr ⟨i, b, v, hb, g2, g3⟩
  have hm : Moves (Own C s.ps ρ) w (Own C s'.ps ρ') w := ⟨Nat.le_refl _, fun _ _ _ => rfl, fun x _ => hO x⟩
  have hA : ∀ {x y : AV}, LeA s.hp π x y → ∀ {v}, RepA (Own C s.ps ρ) ρ w x v → RepA (Own C s'.ps ρ') ρ' w y v := by
    intro x y hle
    induction hle with
    | p hp => intro v hv; exact .p _ _ (hp _ _ _ (hv.unP.mono hm))
    | own hπ =>
      intro v hv
      cases hv with
      | own _ ad n c hi => exact .own _ ad n c (by simp [ρ', hπ, hi])
    | ptr hπ =>
      intro v hv
      cases hv with
      | ptr _ _ _ _ b u hi hu => exact .ptr _ _ _ _ b u (by simp [ρ', hπ, hi]) hu
    | mp hπ =>
      intro v hv
      cases hv with
      | mp _ r hi => exact .mp _ r (by simp [ρ', hπ, hi])
    | @frz i sz es hi hno =>
      intro v hv
      obtain ⟨u, hu, hb⟩ := h.heap i _ hi
      cases hv with
      | own _ ad n c hi2 =>
        rw [hu] at hi2; injection hi2 with hi2; subst hi2
        rcases hb with ⟨hnil, a', ha'⟩ | ⟨b, cap, cur, e, g1, g0, g2, g3, g4, g5, g6, g7⟩
        · have : es = [] := by simpa [lift] using hnil
          subst this
          injection ha' with q1 q2 q3; subst q1 q2 q3
          exact .p _ _ (.nilseq _ _ _ (fun h => by cases h))
        · rcases g1 with g1 | ⟨g1, _⟩
          · injection g1 with q1 q2 q3; subst q1 q3
            rw [lift_length] at q2; subst q2
            have hok : BlkOk (Own C s.ps ρ) ρ w sz (lift es) c cur := ⟨g3, g4, g5, g6, g7⟩
            have hob : oblk (.slice (some ⟨b, 0, none⟩) es.length c) = some b := by simp [oblk]; omega
            have hno' : ¬ Own C s'.ps ρ' b := by
              rintro (ho | ⟨j, k, v, e1, e2, e3⟩)
              · exact (h.range i _ _ b hi hu hob).2.1 ho
              · obtain ⟨i', hi', b', hb', _⟩ := hdom j k e1
                simp only [ρ', hi', Option.bind_some] at e2
                have := h.inj i' i b' _ v _ b hb' hi e2 hu e3 hob
                subst this
                simp only [Bool.and_eq_true] at hno
                unfold lkq at hi'
                split at hi'
                · injection hi' with hi'; subst hi'
                  have := hno.2
                  simp at this; omega
                · have := List.all_eq_true.1 hno.1 _ (lkp_mem π j i' hi')
                  simp at this
            refine .p _ _ (.seq false es sz b 0 c (fun j => cur.getD j undef) (lift_len.1 g6) (by rw [lift_length] at g3; exact g3) (fun h => by cases h) (fun j hj => ?_) (fun j y hy => (blk_get hok hy).2.1.mono hm))
            have := blk_get hok (List.getElem?_eq_getElem hj)
            refine ⟨hno', ?_, this.2.2⟩
            rw [Nat.zero_add]; exact cell_row g2 this.1
          · cases g1
    | @agg cs ds hl _ ih =>
      intro v hv
      cases hv with
      | agg _ vs g1 g2 g3 =>
        refine .agg _ _ (g1.trans hl) (fun i y hy => ?_) (fun i hi => g3 i (by rw [hl]; exact hi))
        have hlt := (List.getElem?_eq_some_iff.1 hy).1
        have hx : cs[i]? = some (cs[i]'(by rw [hl]; exact hlt)) := by simp
        exact ih i _ y hx hy (g2 i _ hx)
    | @tup cs ds hl _ ih =>
      intro v hv
      cases hv with
      | tup _ vs g1 g2 =>
        refine .tup _ _ (g1.trans hl) (fun i y hy => ?_)
        have hlt := (List.getElem?_eq_some_iff.1 hy).1
        have hx : cs[i]? = some (cs[i]'(by rw [hl]; exact hlt)) := by simp
        exact ih i _ y hx hy (g2 i _ hx)
    | @fn f cs ds hl _ ih =>
      intro v hv
      cases hv with
      | fn _ _ vs g1 g2 =>
        refine .fn _ _ _ (g1.trans hl) (fun i y hy => ?_)
        have hlt := (List.getElem?_eq_some_iff.1 hy).1
        have hx : cs[i]? = some (cs[i]'(by rw [hl]; exact hlt)) := by simp
        exact ih i _ y hx hy (g2 i _ hx)
  refine ⟨ρ', h.defers, h.size, fun d y hy => ?_, fun j b' hj => ?_, fun i j k l v u b e1 e2 e3 e4 e5 e6 => ?_, fun j hj => ?_, fun j k v b e1 e2 e3 => ?_, h.oc, h.os, h.tape, h.output, h.grows, h.frame, fun j v hj => by simp only [ρ', lkq]; rw [if_pos (by omega)]; exact h.pins j v hj⟩
  · obtain ⟨x, hx, hle⟩ := hsl.get (lkp_mem _ _ _ hy)
    exact hA hle (h.slots d x hx)
  · obtain ⟨i, hi, b, hb, hle⟩ := hdom j b' hj
    obtain ⟨v, hv, hr⟩ := h.heap i b hb
    refine ⟨v, by simp [ρ', hi, hv], ?_⟩
    cases b with
    | map len m =>
      obtain ⟨b, es, clock, rfl, g1, g4⟩ := hr
      cases b' with
      | row => exact hle.elim
      | map len' m' =>
        obtain ⟨rfl, rfl⟩ := hle
        exact ⟨b, es, clock, rfl, g1, g4.mono hm⟩
      | mapS len' S' =>
        obtain ⟨rfl, hS⟩ := hle
        exact ⟨m, ⟨b, es, clock, rfl, g1, g4.mono hm⟩, hS⟩
    | mapS len S =>
      obtain ⟨m, ⟨b, es, clock, rfl, g1, g4⟩, g5⟩ := hr
      cases b' with
      | row => exact hle.elim
      | map => exact hle.elim
      | mapS len' S' =>
        obtain ⟨rfl, hS⟩ := hle
        exact ⟨m, ⟨b, es, clock, rfl, g1, g4.mono hm⟩, fun q x hq => hS q x (g5 q x hq)⟩
    | row sz es =>
      cases b' with
      | map => exact hle.elim
      | mapS => exact hle.elim
      | row sz' es' =>
        obtain ⟨rfl, hlen, hrow⟩ := hle
        have hrl : ∀ i (cs ds : List AV), es[i]? = some cs → es'[i]? = some ds → cs.length = ds.length := fun i cs ds g1 g2 => (hrow i cs ds g1 g2).1
        rcases hr with ⟨rfl, ad, rfl⟩ | ⟨b, cap, cur, e, g1, g0, g2, g3, g4, g5, g6, g7⟩
        · have : es' = [] := List.eq_nil_of_length_eq_zero (by simpa using hlen.symm)
          exact .inl ⟨this, ad, rfl⟩
        · have hall : ∀ x, x ∈ es' → x.length = sz := by
            intro x hx
            obtain ⟨i, hi, rfl⟩ := List.getElem_of_mem hx
            have h3 : es[i]? = some (es[i]'(by rw [hlen]; exact hi)) := by simp
            rw [← hrl i _ _ h3 (List.getElem?_eq_getElem hi)]
            exact g6 _ (List.mem_of_getElem? h3)
          refine .inr ⟨b, cap, cur, e, by rw [← hlen]; exact g1, g0, g2, by rw [← hlen]; exact g3, g4, g5, hall, fun q y hy => ?_⟩
          have hql := (List.getElem?_eq_some_iff.1 hy).1
          rw [flat_len sz _ hall] at hql
          have hsz0 : 0 < sz := Nat.pos_of_ne_zero (fun h => by rw [h] at hql; simp at hql)
          have hmod := Nat.mod_lt q hsz0
          have hdiv : q / sz < es'.length := Nat.div_lt_of_lt_mul (by rw [Nat.mul_comm]; exact hql)
          have hq2 : q = q / sz * sz + q % sz := by rw [Nat.mul_comm]; exact (Nat.div_add_mod q sz).symm
          have hd' : es'[q / sz]? = some es'[q / sz] := List.getElem?_eq_getElem hdiv
          have hc' : es[q / sz]? = some (es[q / sz]'(by rw [hlen]; exact hdiv)) := by simp
          have hy2 : es'[q / sz][q % sz]? = some y := by rw [← flat_get sz _ (q / sz) (q % sz) _ hall hd' hmod, ← hq2]; exact hy
          have hlc := hrl _ _ _ hc' hd'
          have hx2 : (es[q / sz]'(by rw [hlen]; exact hdiv))[q % sz]? = some ((es[q / sz]'(by rw [hlen]; exact hdiv))[q % sz]'(by rw [hlc]; exact (List.getElem?_eq_some_iff.1 hy2).1)) := by simp
          have hxf : es.flatten[q]? = some ((es[q / sz]'(by rw [hlen]; exact hdiv))[q % sz]'(by rw [hlc]; exact (List.getElem?_eq_some_iff.1 hy2).1)) := by
            conv => lhs; rw [hq2]
            rw [flat_get sz es (q / sz) (q % sz) _ g6 hc' hmod]; exact hx2
          exact ⟨hA ((hrow _ _ _ hc' hd').2 _ _ _ hx2 hy2) (g7 q _ hxf).1, (g7 q _ hxf).2⟩
  · obtain ⟨i1, q1, b1, r1, _⟩ := hdom i k e1
    obtain ⟨i2, q2, b2, r2, _⟩ := hdom j l e2
    simp only [ρ', q1, q2, Option.bind_some] at e3 e4
    have := h.inj i1 i2 b1 b2 v u b r1 r2 e3 e4 e5 e6
    subst this
    exact hinj i j i1 q1 q2
  · have h7 : ¬ j % 8 = 7 := fun e => hj (by simp [nmPos, e])
    have e : lkq π j = lkp π j := by unfold lkq; rw [if_neg h7]
    cases hl : lkp π j with
    | none => simp [ρ', e, hl]
    | some i =>
      have := List.all_eq_true.1 h1 _ (lkp_mem π j i hl)
      simp at this
      exact absurd this.1 hj
  · obtain ⟨i1, q1, b1, r1, _⟩ := hdom j k e1
    simp only [ρ', q1, Option.bind_some] at e2
    exact h.range i1 b1 v b r1 e2 e3
theorem awp_own {P : Program} {C : Ctx} {c : Code} {K : Exit → LS → Prop} {s : LS} (d sz : Nat) (hd : lkp s.sl d = some (.p (.seq true []))) (h : Awp P C c K ⟨(d, .own (8 * s.nx)) :: s.sl, (8 * s.nx, .row sz []) :: del s.hp (8 * s.nx), s.nx + 1⟩) : Awp P C c K s := by
  intro a w ⟨ρ, hs⟩
  have hv := hs.slots d _ hd
  obtain ⟨ad, cap, he, hcap, hcl⟩ := seq_shape hv.unP
  have hc : cap = 0 := by simpa using hcl rfl
  subst hc
  have hnil := hs.newNil (f := 8 * s.nx) (by simp only [nmPos]; split <;> omega) sz ad
  -- the slot's value is as it was
  have key : SatR C (fun i => nmPos i ≤ s.nx ∨ i = 8 * s.nx) ⟨fun e => if some d = some e then some (.own (8 * s.nx)) else s.ps.sl e, PS.setHp s.ps.hp [(8 * s.nx, some (.row sz []))]⟩ (fun i => if i = 8 * s.nx then some (.slice ad 0 0) else ρ i) a w := by
    refine { hnil with slots := fun e x hx => ?_ }
    simp only at hx
    split at hx
    · rename_i e1
      injection e1 with e1; subst e1
      simp only [Option.some.injEq] at hx; subst hx
      rw [he]
      exact .own _ _ _ _ (by simp)
    · exact hnil.slots e x hx
  have e2 : (⟨(d, .own (8 * s.nx)) :: s.sl, (8 * s.nx, .row sz []) :: del s.hp (8 * s.nx), s.nx + 1⟩ : LS).ps = ⟨fun e => if some d = some e then some (.own (8 * s.nx)) else s.ps.sl e, PS.setHp s.ps.hp [(8 * s.nx, some (.row sz []))]⟩ := by
    simp only [LS.ps, PS.mk.injEq]
    refine ⟨?_, ?_⟩
    · funext e; simp [lkp, eq_comm]
    · funext i
      simp only [lkp, lkp_del, PS.setHp]
      by_cases e : i = 8 * s.nx <;> simp [e]
  have fin := key.widen (U' := fun i => nmPos i ≤ s.nx + 1) (fun i hi => by
    rcases hi with hi | rfl
    · omega
    · simp only [nmPos]; split <;> omega)
  rw [← e2] at fin
  exact h a w ⟨_, fin⟩
end Go.Am
namespace Go.Am
open Go.RowKit
section
variable {P : Program} {C : Ctx} {K : Exit → LS → Prop} {s : LS}
theorem ret1 {fn : Func} {t : Nat} {x : AV} {r : PV} (hf : fn.results = #[.tmp t]) (h : lkp s.sl t = some x) (hr : ResA s.hp x r) : retK P fn r .ret s := by
  show resR P s fn.results.toList r
  rw [hf]; exact ⟨x, h, hr⟩
theorem ret2 {fn : Func} {t u : Nat} {x y : AV} {r q : PV} (hf : fn.results = #[.tmp t, .tmp u]) (h : lkp s.sl t = some x) (h2 : lkp s.sl u = some y) (hr : ResA s.hp x r) (hr2 : ResA s.hp y q) : retK P fn (.tup [r, q]) .ret s := by
  show resR P s fn.results.toList _
  rw [hf]; exact ⟨_, rfl, ⟨x, h, hr⟩, ⟨y, h2, hr2⟩, trivial⟩
theorem awp_sr {id : Nat} {l : List Oper} {y : Code} (H : List Nat) (hf : inFrame C.n l.toArray = true)
    (h : ∀ k : LS → Prop, (∀ s', Awp P C y K s' → k s') → aops P H (gdOf l.toArray) (fun s' => k ⟨s'.sl, s'.hp, s'.nx + l.length⟩) 0 l s) : Awp P C (.seq (.region id l.toArray false) y) K s :=
  awp_seq fun _ hk => awp_region H hf fun k' hk' => h k' fun s' ha => hk' s' (hk s' ha)
theorem awp_sd {id : Nat} {l : List Oper} {y : Code} (H : List Nat) (D : Ord) (hf : inFrame C.n l.toArray = true) (hm : P.follows .mixedOrders = true) (hD : okD D l.toArray = true)
    (h : ∀ k : LS → Prop, (∀ s', Awp P C y K s' → k s') → aopsD P H D (gdOf l.toArray) (fun s' => k ⟨s'.sl, s'.hp, s'.nx + l.length⟩) 0 l s) : Awp P C (.seq (.region id l.toArray true) y) K s :=
  awp_seq fun _ hk => awp_draw H D hf hm hD fun k' hk' => h k' fun s' ha => hk' s' (hk s' ha)
theorem wrap64_in {x : Int} (h : -9223372036854775808 ≤ x ∧ x ≤ 9223372036854775807) : IntKind.i64.wrap x = x := by
  rw [IntKind.wrap_i64]; omega
theorem wrap64_of {x : Int} (h1 : -9223372036854775808 ≤ x) (h2 : x ≤ 9223372036854775807) : IntKind.i64.wrap x = x := wrap64_in ⟨h1, h2⟩
theorem toNat_sub_n (n m : Nat) : ((n : Int) - (m : Int)).toNat = n - m := by omega
theorem toNat_sub_1 (n : Nat) : ((n : Int) - 1).toNat = n - 1 := by omega
theorem toNat_add_1 (n : Nat) : ((n : Int) + 1).toNat = n + 1 := by omega
theorem all1 {α : Type} (f : α → PV) (l : List α) : (∀ y, y ∈ l.map (fun x => [f x]) → y.length = 1) = True := by simp
end
end Go.Am
namespace Go.Am
open Go.RowKit
section
variable {α β γ : Type}
def onE (o : Option α) (K : α → Prop) : Prop := ∃ v, o = some v ∧ K v
def onP (o : Option (α × β)) (K : α → β → Prop) : Prop := ∃ v u, o = some (v, u) ∧ K v u
def onT (o : Option (α × β × γ)) (K : α → β → γ → Prop) : Prop := ∃ v u t, o = some (v, u, t) ∧ K v u t
def onLit (o : Option AV) (K : Value → Prop) : Prop := ∃ v, o = some (.p (.lit v)) ∧ K v
def onBool (o : Option AV) (K : Bool → Prop) : Prop := ∃ v, o = some (.p (.lit (.bool v))) ∧ K v
def onInt (o : Option AV) (K : IntKind → Int → Prop) : Prop := ∃ k n, o = some (.p (.lit (.int k n))) ∧ K k n
def onPtr (o : Option AV) (K : Nat → Nat → Nat → Nat → Prop) : Prop := ∃ a b c d, o = some (.ptr a b c d) ∧ K a b c d
def onFn (o : Option AV) (K : FuncId → List AV → Prop) : Prop := ∃ v, o = some v ∧ ∃ a b, v = .fn a b ∧ K a b
def onSeq (o : Option AV) (K : List (List PV) → Prop) : Prop := ∃ es, o = some (.p (.seq true es)) ∧ K es
@[congr] theorem onSeq_congr {o o' : Option AV} {K : List (List PV) → Prop} (h : mark o = o') : onSeq o K = onSeq o' K := by rw [← h, mark_eq]
theorem e18 (es : List (List PV)) (K : List (List PV) → Prop) : onSeq (some (.p (.seq true es))) K = K es := by simp [onSeq]
def onRow (o : Option Blk) (sz : Nat) (K : List (List AV) → Prop) : Prop := ∃ es, o = some (.row sz es) ∧ K es
def onZ (o : Option (Bool × List PV)) (K : List PV → Prop) : Prop := ∃ zs, o = some (true, zs) ∧ K zs
def onS (o : Option (Bool × Nat)) (n : Nat) (K : Prop) : Prop := ∃ g, o = some (g, n) ∧ K
@[congr] theorem onE_congr {o o' : Option α} {K : α → Prop} (h : mark o = o') : onE o K = onE o' K := by rw [← h, mark_eq]
@[congr] theorem onP_congr {o o' : Option (α × β)} {K : α → β → Prop} (h : mark o = o') : onP o K = onP o' K := by rw [← h, mark_eq]
@[congr] theorem onT_congr {o o' : Option (α × β × γ)} {K : α → β → γ → Prop} (h : mark o = o') : onT o K = onT o' K := by rw [← h, mark_eq]
@[congr] theorem onLit_congr {o o' : Option AV} {K : Value → Prop} (h : mark o = o') : onLit o K = onLit o' K := by rw [← h, mark_eq]
@[congr] theorem onBool_congr {o o' : Option AV} {K : Bool → Prop} (h : mark o = o') : onBool o K = onBool o' K := by rw [← h, mark_eq]
@[congr] theorem onInt_congr {o o' : Option AV} {K : IntKind → Int → Prop} (h : mark o = o') : onInt o K = onInt o' K := by rw [← h, mark_eq]
@[congr] theorem onPtr_congr {o o' : Option AV} {K : Nat → Nat → Nat → Nat → Prop} (h : mark o = o') : onPtr o K = onPtr o' K := by rw [← h, mark_eq]
@[congr] theorem onFn_congr {o o' : Option AV} {K : FuncId → List AV → Prop} (h : mark o = o') : onFn o K = onFn o' K := by rw [← h, mark_eq]
@[congr] theorem onRow_congr {o o' : Option Blk} {sz sz' : Nat} {K : List (List AV) → Prop} (h : mark o = o') (hn : sz = sz') : onRow o sz K = onRow o' sz' K := by rw [← h, mark_eq, hn]
@[congr] theorem onZ_congr {o o' : Option (Bool × List PV)} {K : List PV → Prop} (h : mark o = o') : onZ o K = onZ o' K := by rw [← h, mark_eq]
theorem g19 (run skip : Bool → Prop) (idle : Prop) : gcase (.p (.lit (.bool true))) true run skip idle = run true := by simp [gcase]
theorem g20 (run skip : Bool → Prop) (idle : Prop) : gcase (.p (.lit (.bool false))) false run skip idle = run false := by simp [gcase]
theorem g21 (run skip : Bool → Prop) (idle : Prop) : gcase (.p (.lit (.bool true))) false run skip idle = skip true := by simp [gcase]
theorem g22 (run skip : Bool → Prop) (idle : Prop) : gcase (.p (.lit (.bool false))) true run skip idle = skip false := by simp [gcase]
theorem cast_add1 (n : Nat) : ((n + 1 : Nat) : Int) = (n : Int) + 1 := rfl
@[congr] theorem onS_congr {o o' : Option (Bool × Nat)} {n n' : Nat} {K : Prop} (h : mark o = o') (hn : n = n') : onS o n K = onS o' n' K := by rw [← h, mark_eq, hn]
theorem e01 (v : α) (K : α → Prop) : onE (some v) K = K v := by simp [onE]
theorem e02 (v : α) (u : β) (K : α → β → Prop) : onP (some (v, u)) K = K v u := by simp [onP, and_assoc]
theorem e03 (v : α) (u : β) (t : γ) (K : α → β → γ → Prop) : onT (some (v, u, t)) K = K v u t := by simp [onT, and_assoc]
theorem e04 (v : Value) (K : Value → Prop) : onLit (some (.p (.lit v))) K = K v := by simp [onLit]
theorem e05 (v : Bool) (K : Bool → Prop) : onBool (some (.p (.lit (.bool v)))) K = K v := by simp [onBool]
theorem e06 (k : IntKind) (n : Int) (K : IntKind → Int → Prop) : onInt (some (.p (.lit (.int k n)))) K = K k n := by simp [onInt, and_assoc]
theorem e07 (a b c d : Nat) (K : Nat → Nat → Nat → Nat → Prop) : onPtr (some (.ptr a b c d)) K = K a b c d := by simp [onPtr, and_assoc]
theorem e08 (f : FuncId) (l : List AV) (K : FuncId → List AV → Prop) : onFn (some (.fn f l)) K = K f l := by simp [onFn, and_assoc]
theorem e09 (sz : Nat) (es : List (List AV)) (K : List (List AV) → Prop) : onRow (some (.row sz es)) sz K = K es := by simp [onRow]
theorem e10 (zs : List PV) (K : List PV → Prop) : onZ (some (true, zs)) K = K zs := by simp [onZ]
theorem e11 (g : Bool) (n m : Nat) (K : Prop) : onS (some (g, n)) m K = (n = m ∧ K) := by
  simp [onS]
theorem e12 (f : α → β) (o : Option α) (K : β → Prop) : onE (o.map f) K = onE o fun x => K (f x) := by cases o <;> simp [onE]
theorem e13 [Inhabited α] (l : List α) (i : Nat) (K : α → Prop) (h : i < l.length) : onE l[i]? K = K (l.getD i default) := by
  simp [onE, h, List.getD]
end
theorem if_min (a b : Int) : (if b < a then b else a) = min a b := by omega
theorem if_max (a b : Int) : (if b > a then b else a) = max a b := by omega
theorem int_default : (default : Int) = 0 := rfl
theorem tmod_of {a b : Int} (h : 0 ≤ a) : a.tmod b = a % b := Int.tmod_eq_emod_of_nonneg h
theorem tdiv_of {a b : Int} (h : 0 ≤ a) : a.tdiv b = a / b := Int.tdiv_eq_ediv_of_nonneg h
instance : Inhabited PV := ⟨.lit undef⟩
instance : Inhabited AV := ⟨.p default⟩
section
variable (P : Program) (H : List Nat) (gd : Nat → Option Nat) (D : Ord) (Kl : LS → Prop) (i f : Nat) (V : PS) (dst : Option Nat) (K : Upd → Prop) (s : LS) (ty : TypeId) (pos : String) (af : Array Edge) (os : List Oper) (op : Op)
-- one behind the other
theorem a01 : aops P H gd Kl i [] s = Kl s := rfl
theorem a02 : aops P H gd Kl i (⟨dst, op, ty, pos, af, none⟩ :: os) s = aop P H (8 * (s.nx + i)) s.ps dst op fun u => aops P H gd Kl (i + 1) os (s.upd dst u) := rfl
theorem a03 (g : Nat) (b : Bool) : aops P H gd Kl i (⟨dst, op, ty, pos, af, some (g, b)⟩ :: os) s = onE (gd g) fun d => onE (lkp s.sl d) fun x =>
        gcase x b (fun t => aop P H (8 * (s.nx + i)) (s.upd (some d) ⟨.p (.lit (.bool t)), []⟩).ps dst op fun u => aops P H gd Kl (i + 1) os ((s.upd (some d) ⟨.p (.lit (.bool t)), []⟩).upd dst u))
          (fun t => aops P H gd Kl (i + 1) os ((s.upd (some d) ⟨.p (.lit (.bool t)), []⟩).upd dst ⟨undefA, []⟩))
          (aops P H gd Kl (i + 1) os (s.upd dst ⟨undefA, []⟩)) := rfl
theorem a34 (x : Oper) (xs ys : List Oper) : aops P H gd Kl i (List.append (x :: xs) ys) s = aops P H gd Kl i (x :: List.append xs ys) s := rfl
theorem a35 (ys : List Oper) : aops P H gd Kl i (List.append [] ys) s = aops P H gd Kl i ys s := rfl
theorem a36 (x : Oper) (xs ys : List Oper) : aopsD P H D gd Kl i (List.append (x :: xs) ys) s = aopsD P H D gd Kl i (x :: List.append xs ys) s := rfl
theorem a37 (ys : List Oper) : aopsD P H D gd Kl i (List.append [] ys) s = aopsD P H D gd Kl i ys s := rfl
theorem a04 : aopsD P H D gd Kl i [] s = Kl s := rfl
theorem a05 : aopsD P H D gd Kl i (⟨dst, op, ty, pos, af, none⟩ :: os) s = aop P H (8 * (s.nx + i)) (viewD D s.nx i s) dst op fun u => okU D s.nx i u ∧ aopsD P H D gd Kl (i + 1) os (s.upd dst u) := rfl
theorem a06 (g : Nat) (b : Bool) : aopsD P H D gd Kl i (⟨dst, op, ty, pos, af, some (g, b)⟩ :: os) s = onE (gd g) fun d => onE (lkp s.sl d) fun x =>
        gcase x b (fun t => aop P H (8 * (s.nx + i)) (viewD D s.nx i (s.upd (some d) ⟨.p (.lit (.bool t)), []⟩)) dst op fun u => okU D s.nx i u ∧ aopsD P H D gd Kl (i + 1) os ((s.upd (some d) ⟨.p (.lit (.bool t)), []⟩).upd dst u))
          (fun t => aopsD P H D gd Kl (i + 1) os ((s.upd (some d) ⟨.p (.lit (.bool t)), []⟩).upd dst ⟨undefA, []⟩))
          (aopsD P H D gd Kl (i + 1) os (s.upd dst ⟨undefA, []⟩)) := rfl
@[congr] theorem aops_congr {P : Program} {H : List Nat} {gd : Nat → Option Nat} {Kl : LS → Prop} {i : Nat} {os : List Oper} {s s' : LS} (h : mark s = s') : aops P H gd Kl i os s = aops P H gd Kl i os s' := by rw [← h, mark_eq]
@[congr] theorem aopsD_congr {P : Program} {H : List Nat} {D : Ord} {gd : Nat → Option Nat} {Kl : LS → Prop} {i : Nat} {os : List Oper} {s s' : LS} (h : mark s = s') : aopsD P H D gd Kl i os s = aopsD P H D gd Kl i os s' := by rw [← h, mark_eq]
@[congr] theorem gcase_congr {x x' : AV} {b : Bool} {run skip : Bool → Prop} {idle : Prop} (h : mark x = x') : gcase x b run skip idle = gcase x' b run skip idle := by rw [← h, mark_eq]
theorem a08 (vs : Array Value) (b : Bool) (run skip : Bool → Prop) (idle : Prop) : gcase (.p (.lit (.tuple vs))) b run skip idle = idle := rfl
theorem a09 (sl : List (Nat × AV)) (hp : List (Nat × Blk)) (nx d : Nat) (v : AV) (l : List (Nat × Option Blk)) : (⟨sl, hp, nx⟩ : LS).upd (some d) ⟨v, l⟩ = ⟨(d, v) :: sl, hpUpd hp l, nx⟩ := rfl
theorem a10 (sl : List (Nat × AV)) (hp : List (Nat × Blk)) (nx : Nat) (v : AV) (l : List (Nat × Option Blk)) : (⟨sl, hp, nx⟩ : LS).upd none ⟨v, l⟩ = ⟨sl, hpUpd hp l, nx⟩ := rfl
theorem a11 (hp : List (Nat × Blk)) : hpUpd hp [] = hp := rfl
theorem a12 (hp : List (Nat × Blk)) (i : Nat) (k : Option Blk) (r : List (Nat × Option Blk)) : hpUpd hp ((i, k) :: r) = put1 (hpUpd hp r) i k := rfl
theorem a13 (hp : List (Nat × Blk)) (i : Nat) (k : Blk) : put1 hp i (some k) = (i, k) :: del hp i := rfl
theorem a14 (hp : List (Nat × Blk)) (i : Nat) : put1 hp i none = del hp i := rfl
theorem a15 (i : Nat) : del ([] : List (Nat × Blk)) i = [] := rfl
theorem a16 (k : Nat) (x : Blk) (r : List (Nat × Blk)) (d : Nat) : del ((k, x) :: r) d = if d = k then del r d else (k, x) :: del r d := rfl
theorem a17 (v : AV) : okU D i f ⟨v, []⟩ = True := rfl
theorem a18 (v : AV) (p : Nat × Option Blk) (r : List (Nat × Option Blk)) : okU D i f ⟨v, p :: r⟩ = ((nmPos p.1 = i + f + 1 ∨ (D.isW f = true ∧ ((nmPos p.1 ≤ i ∧ D.isHot p.1 = true) ∨ (¬ nmPos p.1 ≤ i ∧ D.sees (nmPos p.1 - 1 - i) f = true)))) ∧ okL D i f r) := rfl
theorem a19 : okL D i f [] = True := rfl
theorem a20 (p : Nat × Option Blk) (r : List (Nat × Option Blk)) : okL D i f (p :: r) = ((nmPos p.1 = i + f + 1 ∨ (D.isW f = true ∧ ((nmPos p.1 ≤ i ∧ D.isHot p.1 = true) ∨ (¬ nmPos p.1 ≤ i ∧ D.sees (nmPos p.1 - 1 - i) f = true)))) ∧ okL D i f r) := rfl
theorem a21 (s : LS) (t : Nat) : PS.eval s.ps (.tmp t) = lkp s.sl t := rfl
theorem a22 (v : Value) : PS.eval V (.const v) = some (constAV v) := rfl
theorem a23 (f : FuncId) : PS.eval V (.func f) = some (.fn f []) := rfl
theorem a24 (s : LS) (id : Nat) : s.ps.hp id = lkp s.hp id := rfl
theorem a25 (nx : Nat) (s : LS) (t : Nat) : PS.eval (viewD D nx i s) (.tmp t) = lkp s.sl t := rfl
theorem a26 (nx : Nat) (s : LS) (id : Nat) : (viewD D nx i s).hp id = if nmPos id ≤ nx ∧ D.isHot id = false then lkp s.hp id else if D.isRW i = true then (if nmPos id ≤ nx then lkp s.hp id else if D.sees (nmPos id - 1 - nx) i = true then lkp s.hp id else none) else none := rfl
theorem a27 (b : Bool) : constAV (.bool b) = .p (.lit (.bool b)) := rfl
theorem a28 (k : IntKind) (n : Int) : constAV (.int k n) = .p (.lit (.int k n)) := rfl
theorem a29 : constAV (.slice none 0 0) = .p (.seq true []) := rfl
theorem a30 (d : Nat) : lkp ([] : List (Nat × AV)) d = none := rfl
theorem a31 (k : Nat) (x : AV) (r : List (Nat × AV)) (d : Nat) : lkp ((k, x) :: r) d = if d = k then some x else lkp r d := rfl
theorem a32 (d : Nat) : lkp ([] : List (Nat × Blk)) d = none := rfl
theorem a33 (k : Nat) (x : Blk) (r : List (Nat × Blk)) (d : Nat) : lkp ((k, x) :: r) d = if d = k then some x else lkp r d := rfl
-- operations
theorem h01 (B : List Nat) (R W : List Nat) (vis : List (Nat × Nat)) (id : Nat) : Ord.isHot ⟨B, R, W, vis, none⟩ id = true := rfl
theorem h02 (B : List Nat) (R W : List Nat) (vis : List (Nat × Nat)) (l : List Nat) (id : Nat) : Ord.isHot ⟨B, R, W, vis, some l⟩ id = l.contains id := rfl
theorem b01 (x : Operand) : aop P H f V dst (.move x) K = onE (V.eval x) fun v => K ⟨v, []⟩ := rfl
theorem b02 (x : Operand) : aop P H f V dst (.assign x) K = onE (V.eval x) fun v => K ⟨v, []⟩ := rfl
theorem b03 (c a b : Operand) : aop P H f V dst (.pick c a b) K = onBool (V.eval c) fun t => onE (V.eval (if t = true then a else b)) fun v => K ⟨v, []⟩ := rfl
theorem b04 (T : TypeId) : aop P H f V dst (.alloc T) K = onP (tVar P T) fun _ zs => K ⟨.ptr f zs.length 0 0, [(f, some (.row zs.length [zs.map .p]))]⟩ := rfl
theorem b05 (T : TypeId) (x : Operand) : aop P H f V dst (.box T x) K = onE (V.eval x) fun v => onE v.cells fun cs => K ⟨.ptr f cs.length 0 0, [(f, some (.row cs.length [cs]))]⟩ := rfl
theorem b06 (T : TypeId) (l : List (Nat × Operand)) : aop P H f V dst (.build T l.toArray) K = onZ (tVar P T) fun zs => tBuilt P T = true ∧ onE (evalParts V l) fun vs => onE (afill (tPlace P T) (zs.map .p) vs) fun cs => K ⟨aggOf cs, []⟩ := rfl
theorem b07 (T n : Nat) (l : List (Nat × Operand)) : aop P H f V dst (.buildSlice T n l.toArray) K = onE (tEl P T) fun e => onP (tVar P e) fun _ zs => 0 < zs.length ∧ n * zs.length ≤ 2 ^ 24 ∧ l.length = n ∧
      onE (evalRow V zs.length 0 l) fun es => K ⟨.p (.seq true es), []⟩ := rfl
def loadB (o : Option Blk) (sz k off : Nat) (g : Bool) (n : Nat) (K : AV → Prop) : Prop := ∃ es, o = some (.row sz es) ∧ ∃ cs, es[k]? = some cs ∧ if g = true then off + n ≤ cs.length ∧ K (aggOf ((cs.drop off).take n)) else ∃ r, cs[off]? = some r ∧ K r
@[congr] theorem loadB_congr {o o' : Option Blk} {sz k k' off off' : Nat} {g : Bool} {n : Nat} {K : AV → Prop} (h : mark o = o') (hk : k = k') (ho : off = off') : loadB o sz k off g n K = loadB o' sz k' off' g n K := by rw [← h, mark_eq, hk, ho]
def storeB (o : Option Blk) (id sz k off : Nat) (vs : List AV) (K : Upd → Prop) : Prop := ∃ es, o = some (.row sz es) ∧ ∃ cs, es[k]? = some cs ∧ off + vs.length ≤ cs.length ∧ K ⟨.p (.lit undef), [(id, some (.row sz (es.set k (splice cs off vs))))]⟩
@[congr] theorem storeB_congr {o o' : Option Blk} {id sz k k' off off' : Nat} {vs vs' : List AV} {K : Upd → Prop} (h : mark o = o') (hk : k = k') (ho : off = off') (hv : vs = vs') : storeB o id sz k off vs K = storeB o' id sz k' off' vs' K := by rw [← h, mark_eq, hk, ho, hv]
def storeL (o : Option (List PV)) (es : List (List PV)) (id sz k off : Nat) (vs : List AV) (K : Upd → Prop) : Prop := match o with
  | some xs => K ⟨.p (.lit undef), [(id, some (.row sz (lift (es.set k (splice (es.getD k []) off xs)))))]⟩
  | none => K ⟨.p (.lit undef), [(id, some (.row sz ((lift es).set k (splice ((es.getD k []).map .p) off vs))))]⟩
@[congr] theorem storeL_congr {o o' : Option (List PV)} {es es' : List (List PV)} {id sz k k' off : Nat} {vs : List AV} {K : Upd → Prop} (h : mark o = o') (he : es = es') (hk : k = k') : storeL o es id sz k off vs K = storeL o' es' id sz k' off vs K := by rw [← h, mark_eq, he, hk]
theorem c27 (id sz off : Nat) (cs vs : List AV) (K : Upd → Prop) : storeB (some (.row sz [cs])) id sz 0 off vs K = (off + vs.length ≤ cs.length ∧ K ⟨.p (.lit undef), [(id, some (.row sz [splice cs off vs]))]⟩) := by
  simp [storeB]
theorem c28 (id sz k off : Nat) (es : List (List PV)) (vs : List AV) (K : Upd → Prop) : storeB (some (.row sz (lift es))) id sz k off vs K = (k < es.length ∧ off + vs.length ≤ (es.getD k []).length ∧ storeL (pures vs) es id sz k off vs K) := by
  simp only [storeB, storeL, Option.some.injEq, Blk.row.injEq, true_and]
  refine propext ⟨?_, ?_⟩
  · rintro ⟨_, rfl, cs, h1, h2, h⟩
    rw [lift_get] at h1
    obtain ⟨ys, hys, rfl⟩ := Option.map_eq_some_iff.1 h1
    have e : es.getD k [] = ys := by rw [List.getD_eq_getElem?_getD, hys]; rfl
    refine ⟨(List.getElem?_eq_some_iff.1 hys).1, by rw [e]; simpa using h2, ?_⟩
    cases hp : pures vs with
    | none => simp only []; rw [e]; exact h
    | some xs =>
      simp only []
      have hv := pures_spec _ _ hp
      subst hv
      rw [e, ← lift_set]
      simpa [splice] using h
  · rintro ⟨hk, h2, h⟩
    have hys : es[k]? = some es[k] := List.getElem?_eq_getElem hk
    have e : es.getD k [] = es[k] := by rw [List.getD_eq_getElem?_getD, hys]; rfl
    rw [e] at h2 h
    refine ⟨_, rfl, es[k].map .p, by rw [lift_get, hys]; rfl, by simpa using h2, ?_⟩
    cases hp : pures vs with
    | none => rw [hp] at h; exact h
    | some xs =>
      rw [hp] at h
      simp only [] at h
      have hv := pures_spec _ _ hp
      subst hv
      rw [← lift_set] at h
      simpa [splice] using h
theorem c29 (xs : List PV) (es : List (List PV)) (id sz k off : Nat) (vs : List AV) (K : Upd → Prop) : storeL (some xs) es id sz k off vs K = K ⟨.p (.lit undef), [(id, some (.row sz (lift (es.set k (splice (es.getD k []) off xs)))))]⟩ := rfl
theorem getD_set {α : Type} (l : List α) (k : Nat) (x d : α) (h : k < l.length) : (l.set k x).getD k d = x := by
  rw [List.getD_eq_getElem?_getD, List.getElem?_set_self h]; rfl
theorem getD_app {α : Type} (l r : List α) (k : Nat) (d : α) (h : k < l.length) : (l ++ r).getD k d = l.getD k d := by
  rw [List.getD_eq_getElem?_getD, List.getD_eq_getElem?_getD, List.getElem?_append_left h]
theorem getD_map {α : Type} [Inhabited α] (f : α → List PV) (l : List α) (k : Nat) (h : k < l.length) : (l.map f).getD k [] = f (l.getD k default) := by
  rw [List.getD_eq_getElem?_getD, List.getD_eq_getElem?_getD, List.getElem?_map, List.getElem?_eq_getElem h]; rfl
def loadK (V : PS) (v : AV) (g : Bool) (n : Nat) (K : AV → Prop) : Prop := ∃ r, loadR V v g n r ∧ K r
@[congr] theorem loadK_congr {V : PS} {v v' : AV} {g : Bool} {n : Nat} {K : AV → Prop} (h : mark v = v') : loadK V v g n K = loadK V v' g n K := by rw [← h, mark_eq]
theorem b08 (T : TypeId) (x : Operand) : aop P H f V dst (.load T x) K = onE (V.eval x) fun v => onP (tSz P T) fun g n => loadK V v g n fun r => K ⟨r, []⟩ := rfl
theorem b09 (T : TypeId) (x y : Operand) : aop P H f V dst (.store T x y) K = onPtr (V.eval x) fun id sz k off => onE (V.eval y) fun v => onE v.cells fun vs => onS (tSz P T) vs.length (storeB (V.hp id) id sz k off vs K) := by
  simp only [aop, onPtr, onE, onS, storeB]
theorem b10 (x : Operand) : aop P H f V dst (.nilCheck x) K = onE (V.eval x) fun v => isPtr v = true ∧ K ⟨v, []⟩ := rfl
def binK (P : Program) (T : TypeId) (o : BinOp) (u v : Value) (K : Value → Prop) : Prop := ∃ r, (binR o u v r ∨ binT P o T u v r) ∧ K r
@[congr] theorem binK_congr {P : Program} {T : TypeId} {o : BinOp} {u u' v v' : Value} {K : Value → Prop} (h : mark u = u') (hv : v = v') : binK P T o u v K = binK P T o u' v' K := by rw [← h, mark_eq, hv]
def binB (P : Program) (T : TypeId) (o : BinOp) (u v : AV) (K : Value → Prop) : Prop := ∃ r, binA P o T u v r ∧ K r
@[congr] theorem binB_congr {P : Program} {T : TypeId} {o : BinOp} {u u' v v' : AV} {K : Value → Prop} (h : mark u = u') (hv : v = v') : binB P T o u v K = binB P T o u' v' K := by rw [← h, mark_eq, hv]
theorem b11 (o : BinOp) (T T' : TypeId) (x y : Operand) : aop P H f V dst (.binOp o T x y T') K = onE (V.eval x) fun u => onE (V.eval y) fun v => binB P T o u v fun r => K ⟨.p (.lit r), []⟩ := rfl
theorem g23 (T : TypeId) (o : BinOp) (u v : Value) (K : Value → Prop) : binB P T o (.p (.lit u)) (.p (.lit v)) K = binK P T o u v K := rfl
theorem g24 (T : TypeId) (o : BinOp) (xs ys : List PV) (K : Value → Prop) : binB P T o (.p (.agg xs)) (.p (.agg ys)) K = onE (tFlat P T) fun ks => onE (flatEq ks xs ys) fun b => onE (eqR o b) K := by
  simp only [binB, binA, onE]
  exact propext ⟨by rintro ⟨r, ⟨ks, h1, b, h2, h3⟩, h⟩; exact ⟨ks, h1, b, h2, r, h3, h⟩, by rintro ⟨ks, h1, b, h2, r, h3, h⟩; exact ⟨r, ⟨ks, h1, b, h2, h3⟩, h⟩⟩
theorem g25 : flatEq [] [] [] = some true := rfl
theorem g26 (k : IntKind) (ks : List (Option IntKind)) (a b : Int) (xs ys : List PV) : flatEq (some k :: ks) (.lit (.int k a) :: xs) (.lit (.int k b) :: ys) = (flatEq ks xs ys).map fun r => (a == b) && r := by simp [flatEq]
theorem g27 (ks : List (Option IntKind)) (a b : Bool) (xs ys : List PV) : flatEq (none :: ks) (.lit (.bool a) :: xs) (.lit (.bool b) :: ys) = (flatEq ks xs ys).map fun r => (a == b) && r := rfl
theorem g28 (b : Bool) : eqR .eql b = some (.bool b) := rfl
theorem g29 (b : Bool) : eqR .neq b = some (.bool (!b)) := rfl
def onMp (o : Option AV) (K : Nat → Prop) : Prop := ∃ id, o = some (.mp id) ∧ K id
@[congr] theorem onMp_congr {o o' : Option AV} {K : Nat → Prop} (h : mark o = o') : onMp o K = onMp o' K := by rw [← h, mark_eq]
theorem e19 (id : Nat) (K : Nat → Prop) : onMp (some (.mp id)) K = K id := by simp [onMp]
def onMap (o : Option Blk) (len : Nat) (K : (List Int → Option PV) → Prop) : Prop := ∃ m, o = some (.map len m) ∧ K m
@[congr] theorem onMap_congr {o o' : Option Blk} {len len' : Nat} {K : (List Int → Option PV) → Prop} (h : mark o = o') (hl : len = len') : onMap o len K = onMap o' len' K := by rw [← h, mark_eq, hl]
theorem e20 (len : Nat) (m : List Int → Option PV) (K : (List Int → Option PV) → Prop) : onMap (some (.map len m)) len K = K m := by simp [onMap]
def onPV (o : Option AV) (K : PV → Prop) : Prop := ∃ x, o = some (.p x) ∧ K x
@[congr] theorem onPV_congr {o o' : Option AV} {K : PV → Prop} (h : mark o = o') : onPV o K = onPV o' K := by rw [← h, mark_eq]
theorem e21 (x : PV) (K : PV → Prop) : onPV (some (.p x)) K = K x := by simp [onPV]
theorem b34 (T : TypeId) (x y : Operand) : aop P H f V dst (.makeSlice T x y) K = onE (tEl P T) fun e => onE (tBytes P e) fun by' => onP (tVar P e) fun _ zs => 0 < zs.length ∧ onE (evalInt V x) fun a => onE (evalInt V y) fun b =>
      0 ≤ a ∧ a ≤ b ∧ b * by' ≤ 140737488355328 ∧ b ≤ maxLen ∧ K ⟨.own f, [(f, some (.row zs.length (lift (List.replicate a.toNat zs))))]⟩ := rfl
theorem b35 (T : TypeId) : aop P H f V dst (.makeMap T none) K = onP (tMap P T) fun len _ => K ⟨.mp f, [(f, some (.map len fun _ => none))]⟩ := rfl
theorem b36 (T : TypeId) (x y : Operand) (ok : Bool) : aop P H f V dst (.lookup T x y ok) K = onP (tMap P T) fun len e => onMp (V.eval x) fun id => onMap (V.hp id) len fun m => onE (V.eval y) fun v => onE (keyQ v) fun q => KeyOk len q ∧ onE (tZero P e) fun z => K ⟨.p (lookR ok (m q) z), []⟩ := rfl
theorem b37 (T : TypeId) (x y z : Operand) : aop P H f V none (.mapUpdate T x y z) K = onP (tMap P T) fun len _ => onMp (V.eval x) fun id => onMap (V.hp id) len fun m => onE (V.eval y) fun v => onE (keyQ v) fun q => KeyOk len q ∧ onPV (V.eval z) fun x => K ⟨.p (.lit undef), [(id, some (.map len (setM m q x)))]⟩ := by
  simp only [aop, onP, onMp, onMap, onE, onPV, true_and]
theorem g30 (n : Int) : keyQ (.p (.lit (.int .i64 n))) = some [n] := rfl
theorem g31 (n : Int) : KeyOk 1 [n] = (-9223372036854775808 ≤ n ∧ n ≤ 9223372036854775807) := by simp [KeyOk]
theorem g32 (o : Option PV) (z : PV) : lookR false o z = o.getD z := rfl
theorem g33 (o : Option PV) (z : PV) : lookR true o z = .tup [o.getD z, .lit (.bool o.isSome)] := rfl
theorem b12 (T : TypeId) (x : Operand) : aop P H f V dst (.unOp .not T x) K = onBool (V.eval x) fun b => K ⟨.p (.lit (.bool (!b))), []⟩ := rfl
theorem b13 (T : TypeId) (x : Operand) : aop P H f V dst (.unOp .neg T x) K = onInt (V.eval x) fun k n => K ⟨.p (.lit (.int k (k.wrap (0 - n)))), []⟩ := rfl
@[congr] theorem cvK_congr {src d : TypeId} {K : Upd → Prop} {o o' : Option AV} (h : mark o = o') : cvK P src d K o = cvK P src d K o' := by rw [← h, mark_eq]
theorem b14 (src d : TypeId) (x : Operand) : aop P H f V dst (.convert src d x) K = cvK P src d K (V.eval x) := rfl
theorem h03 (src d : TypeId) (k : IntKind) (n : Int) (K : Upd → Prop) : cvK P src d K (some (.p (.lit (.int k n)))) = ((P.underlying src).isSome = true ∧ onE (tInt P d) fun k' => K ⟨.p (.lit (.int k' (k'.wrap n))), []⟩) := rfl
theorem h04 (src d : TypeId) (c : Bool) (es : List (List PV)) (K : Upd → Prop) : cvK P src d K (some (.p (.seq c es))) = (tB2S P src d = true ∧ onE (strOf es) fun s => K ⟨.p (.lit (.string s)), []⟩) := rfl
theorem byteOf_map (l : List Int) : (l.map fun n => [PV.lit (.int .u8 n)]).mapM byteOf = some l := by
  induction l with
  | nil => rfl
  | cons x l ih => rw [List.map_cons, List.mapM_cons, ih]; rfl
theorem h05 (l : List Int) : strOf (l.map fun n => [PV.lit (.int .u8 n)]) = some (strI l) := by rw [strOf, byteOf_map]; rfl
theorem b39 (T : TypeId) (x : Operand) : aop P H f V dst (.makeInterface T x) K = (tConc P T = true ∧ onPV (V.eval x) fun p => onE (litOf p) fun u => K ⟨.p (.lit (.iface T u)), []⟩) := rfl
def onIf (o : Option AV) (K : TypeId → Value → Prop) : Prop := ∃ t u, o = some (.p (.lit (.iface t u))) ∧ K t u
@[congr] theorem onIf_congr {o o' : Option AV} {K : TypeId → Value → Prop} (h : mark o = o') : onIf o K = onIf o' K := by rw [← h, mark_eq]
theorem e23 (t : TypeId) (u : Value) (K : TypeId → Value → Prop) : onIf (some (.p (.lit (.iface t u)))) K = K t u := by simp [onIf, and_assoc]
theorem b40 (x : Operand) (xT T : TypeId) : aop P H f V dst (.typeAssert x xT T true) K = (tConc P T = true ∧ onIf (V.eval x) fun t u => t = T ∧ K ⟨.tup [constAV u, .p (.lit (.bool true))], []⟩) := by
  simp only [aop, onIf, true_and]
theorem h06 (v : Value) : litOf (.lit v) = some v := rfl
theorem h07 (xs : List PV) : litOf (.agg xs) = (xs.mapM litV).map fun vs => .agg vs.toArray := rfl
theorem h08 (v : Value) (r : List PV) : (PV.lit v :: r).mapM litV = (r.mapM litV).map (v :: ·) := by
  rw [List.mapM_cons]; cases h : r.mapM litV <;> rfl
theorem h09 : ([] : List PV).mapM litV = some [] := rfl
theorem h10 (k1 k2 : IntKind) (a b : Int) : constAV (.agg [.int k1 a, .int k2 b].toArray) = .p (.agg [.lit (.int k1 a), .lit (.int k2 b)]) := by
  simp [constAV, Value.oneCell', ofVal1]
def sliceK (H : List Nat) (f : Nat) (dst : Option Nat) (V : PS) (sz : Nat) (a b d : Option Int) (v : AV) (K : Upd → Prop) : Prop :=
  match v with
        | .p (.seq c es) => (∀ y, y ∈ es → y.length = sz) ∧ a.getD 0 ≤ b.getD es.length ∧ b.getD es.length ≤ d.getD es.length ∧ d.getD es.length ≤ es.length ∧
            K ⟨.p (.seq (clipOf c es.length b d) ((es.take (b.getD es.length).toNat).drop (a.getD 0).toNat)), []⟩
        | .own id => ∃ es, V.hp id = some (.row sz es) ∧ d = none ∧ a.getD 0 ≤ b.getD es.length ∧ b.getD es.length ≤ es.length ∧
            if dst.any (H.contains ·) = true then a.getD 0 = 0 ∧ id ≠ f ∧ K ⟨.own f, [(f, some (.row sz (es.take (b.getD es.length).toNat))), (id, none)]⟩
            else K ⟨.sub id sz (a.getD 0).toNat ((b.getD es.length).toNat - (a.getD 0).toNat), []⟩
        | _ => False
@[congr] theorem sliceK_congr {H : List Nat} {f : Nat} {dst : Option Nat} {f' : Nat} {V : PS} {sz : Nat} {a b d : Option Int} {v v' : AV} {K : Upd → Prop} (h : mark v = v') (hf : f = f') : sliceK H f dst V sz a b d v K = sliceK H f' dst V sz a b d v' K := by rw [← h, mark_eq, hf]
theorem b15 (T : TypeId) (x : Operand) (lo hi mx : Option Operand) : aop P H f V dst (.slice T x lo hi mx) K = onE (tEl P T) fun e => onP (tSz P e) fun _ sz => onE (V.eval x) fun v => onE (evalOpt V lo) fun a => onE (evalOpt V hi) fun b => onE (evalOpt V mx) fun d =>
      (d.isSome = true → b.isSome = true) ∧ 0 ≤ a.getD 0 ∧ sliceK H f dst V sz a b d v K := by
  simp only [aop, onE, onP]
  refine propext (exists_congr fun e => and_congr_right fun _ => exists_congr fun g => exists_congr fun sz => and_congr_right fun _ => exists_congr fun v => and_congr_right fun _ => exists_congr fun a => and_congr_right fun _ => exists_congr fun b => and_congr_right fun _ => exists_congr fun d => and_congr_right fun _ => and_congr_right fun _ => and_congr_right fun _ => ?_)
  cases v <;> first | exact Iff.rfl | (rename_i q; cases q <;> exact Iff.rfl)
theorem b16 (sz : Nat) (a b d : Option Int) (c : Bool) (es : List (List PV)) : sliceK H f dst V sz a b d (.p (.seq c es)) K = ((∀ y, y ∈ es → y.length = sz) ∧ a.getD 0 ≤ b.getD es.length ∧ b.getD es.length ≤ d.getD es.length ∧ d.getD es.length ≤ es.length ∧
            K ⟨.p (.seq (clipOf c es.length b d) ((es.take (b.getD es.length).toNat).drop (a.getD 0).toNat)), []⟩) := rfl
theorem b17 (sz : Nat) (a b d : Option Int) (id : Nat) : sliceK H f dst V sz a b d (.own id) K = onRow (V.hp id) sz fun es => d = none ∧ a.getD 0 ≤ b.getD es.length ∧ b.getD es.length ≤ es.length ∧
            if dst.any (H.contains ·) = true then a.getD 0 = 0 ∧ id ≠ f ∧ K ⟨.own f, [(f, some (.row sz (es.take (b.getD es.length).toNat))), (id, none)]⟩
            else K ⟨.sub id sz (a.getD 0).toNat ((b.getD es.length).toNat - (a.getD 0).toNat), []⟩ := rfl
theorem b18 (T : TypeId) (x : Operand) (fd : Nat) : aop P H f V dst (.fieldAddr T x fd) K = onT (tFld P T fd) fun off _ _ => onE (V.eval x) fun v => onE (offs v off) fun r => K ⟨r, []⟩ := rfl
def idxG (V : PS) (sz n : Nat) (v : AV) (K : AV → Prop) : Prop := ∃ r, idxR V sz n v r ∧ K r
@[congr] theorem idxG_congr {V : PS} {sz n n' : Nat} {v v' : AV} {K : AV → Prop} (h : mark v = v') (hn : n = n') : idxG V sz n v K = idxG V sz n' v' K := by rw [← h, mark_eq, hn]
def idxK (P : Program) (V : PS) (T : TypeId) (n : Int) (v : AV) (K : AV → Prop) : Option TypeId → Prop
  | some e => onP (tSz P e) fun _ sz => idxG V sz n.toNat v K
  | none => onT (tArr P T) fun len sz _ => n < len ∧ onE (offs v (n.toNat * sz)) K
@[congr] theorem idxK_congr {P : Program} {V : PS} {T : TypeId} {n : Int} {v : AV} {K : AV → Prop} {o o' : Option TypeId} (h : mark o = o') : idxK P V T n v K o = idxK P V T n v K o' := by rw [← h, mark_eq]
theorem b19 (T : TypeId) (x i : Operand) : aop P H f V dst (.indexAddr T x i) K = onE (evalInt V i) fun n => 0 ≤ n ∧ onE (V.eval x) fun v => idxK P V T n v (fun r => K ⟨r, []⟩) (tEl P T) := by
  simp only [aop, idxK, onE]
  cases tEl P T <;> rfl
theorem b20 (T : TypeId) (n : Int) (v : AV) (e : TypeId) (K : AV → Prop) : idxK P V T n v K (some e) = onP (tSz P e) fun _ sz => idxG V sz n.toNat v K := rfl
theorem b21 (T : TypeId) (n : Int) (v : AV) (K : AV → Prop) : idxK P V T n v K none = onT (tArr P T) fun len sz _ => n < len ∧ onE (offs v (n.toNat * sz)) K := rfl
def cellK (g : Bool) (off sz : Nat) (cs : List AV) (K : AV → Prop) : Prop := ∃ r, (if g = true then off + sz ≤ cs.length ∧ r = aggOf ((cs.drop off).take sz) else cs[off]? = some r) ∧ K r
@[congr] theorem cellK_congr {g : Bool} {off off' sz : Nat} {cs cs' : List AV} {K : AV → Prop} (h : mark cs = cs') (hn : off = off') : cellK g off sz cs K = cellK g off' sz cs' K := by rw [← h, mark_eq, hn]
theorem b22 (T : TypeId) (x : Operand) (fd : Nat) : aop P H f V dst (.field T x fd) K = onT (tFld P T fd) fun off sz g => onE (V.eval x) fun v => onE (aop.aggCells v) fun cs => cellK g off sz cs fun r => K ⟨r, []⟩ := rfl
theorem b23 (T : TypeId) (x i : Operand) : aop P H f V dst (.index T x i) K = onE (evalInt V i) fun n => 0 ≤ n ∧ onT (tArr P T) fun len sz g => n < len ∧ onE (V.eval x) fun v => onE (aop.aggCells v) fun cs =>
      cellK g (n.toNat * sz) sz cs fun r => K ⟨r, []⟩ := rfl
theorem b24 (x : Operand) (i : Nat) : aop P H f V dst (.extract x i) K = onE (V.eval x) fun v => onE (aop.tupCells v) fun vs => onE vs[i]? fun r => K ⟨r, []⟩ := rfl
theorem b25 (g : FuncId) (first : Array Operand) (l : List Operand) : aop P H f V dst (.makeFunc (.func g) first l.toArray) K = (first.size = 0 ∧ onE (evals V l) fun cs => K ⟨.fn g cs, []⟩) := rfl
def lenK (V : PS) (v : AV) (K : Nat → Prop) : Prop := ∃ n, lenR V v n ∧ K n
@[congr] theorem lenK_congr {V : PS} {v v' : AV} {K : Nat → Prop} (h : mark v = v') : lenK V v K = lenK V v' K := by rw [← h, mark_eq]
theorem b26 (x : Operand) (t : Nat) : aop P H f V dst (.call ⟨.builtin .len, #[x], #[t]⟩) K = onE (tEl P t) fun _ => onE (V.eval x) fun v => lenK V v fun n => K ⟨.p (.lit (.int .i64 n)), []⟩ := by
  simp [aop, onE, lenK]
theorem b27 (l : List Operand) (ts : Array TypeId) : aop P H f V dst (.call ⟨.builtin .min, l.toArray, ts⟩) K = onE (aop.evalInts V l) fun vs => onP (aop.minR vs) fun k r => K ⟨.p (.lit (.int k r)), []⟩ := rfl
theorem b28 (l : List Operand) (ts : Array TypeId) : aop P H f V dst (.call ⟨.builtin .max, l.toArray, ts⟩) K = onE (aop.evalInts V l) fun vs => onP (aop.maxR vs) fun k r => K ⟨.p (.lit (.int k r)), []⟩ := rfl
def srcK (V : PS) (v : AV) (K : List (List PV) → Prop) : Prop := ∃ es, srcR V v es ∧ K es
def appK (H : List Nat) (f : Nat) (V : PS) (dst : Option Nat) (by' n : Nat) (v : AV) (es2 : List (List PV)) (K : Upd → Prop) : Prop := match v with
    | .p (.seq true es1) => (∀ y, y ∈ es1 → y.length = n) ∧ (es1.length + es2.length) * by' ≤ 140737488355328 ∧ es1.length + es2.length ≤ maxLen ∧
        if dst.any (H.contains ·) = true then (es1 = [] ∨ es2 ≠ []) ∧ K ⟨.own f, [(f, some (.row n (lift (es1 ++ es2))))]⟩ else K ⟨.p (.seq es2.isEmpty (es1 ++ es2)), []⟩
    | .own id => ∃ es1, V.hp id = some (.row n (lift es1)) ∧ (es1.length + es2.length) * by' ≤ 140737488355328 ∧ es1.length + es2.length ≤ maxLen ∧ id ≠ f ∧
        if dst.any (H.contains ·) = true then K ⟨.own f, [(f, some (.row n (lift (es1 ++ es2)))), (id, none)]⟩ else dst.isSome = true ∧ K ⟨.p (.seq false (es1 ++ es2)), [(f, none), (id, none)]⟩
    | _ => False
@[congr] theorem srcK_congr {V : PS} {v v' : AV} {K : List (List PV) → Prop} (h : mark v = v') : srcK V v K = srcK V v' K := by rw [← h, mark_eq]
@[congr] theorem appK_congr {H : List Nat} {f : Nat} {V : PS} {dst : Option Nat} {by' n n' f' : Nat} {v v' : AV} {es es' : List (List PV)} {K : Upd → Prop} (h : mark v = v') (he : es = es') (hn : n = n') (hf : f = f') : appK H f V dst by' n v es K = appK H f' V dst by' n' v' es' K := by rw [← h, mark_eq, he, hn, hf]
theorem b29 (x y : Operand) (t : Nat) : aop P H f V dst (.call ⟨.builtin .append, #[x, y], #[t, t]⟩) K = onE (tEl P t) fun e => onE (tBytes P e) fun by' => onP (tVar P e) fun _ zs => 0 < zs.length ∧ onE (V.eval x) fun v => onE (V.eval y) fun v2 => srcK V v2 fun es2 =>
      (∀ y, y ∈ es2 → y.length = zs.length) ∧ appK H f V dst by' zs.length v es2 K := by
  have e : aop P H f V dst (.call ⟨.builtin .append, #[x, y], #[t, t]⟩) K = aAppend P H f V dst t x y K := by
    simp only [aop]
    exact propext ⟨by rintro ⟨_, _, e, _, _, e', h⟩; cases e; cases e'; rwa [if_pos rfl] at h, fun h => ⟨_, _, rfl, _, _, rfl, by rwa [if_pos rfl]⟩⟩
  rw [e]
  simp only [aAppend, onE, onP, srcK]
  refine propext (exists_congr fun e => and_congr_right fun _ => exists_congr fun b => and_congr_right fun _ => exists_congr fun g => exists_congr fun zs => and_congr_right fun _ => and_congr_right fun _ => exists_congr fun v => and_congr_right fun _ => exists_congr fun v2 => and_congr_right fun _ =>
    exists_congr fun es2 => and_congr_right fun _ => and_congr_right fun _ => ?_)
  cases v <;> first | exact Iff.rfl | (rename_i q; cases q <;> first | exact Iff.rfl | (rename_i c es; cases c <;> exact Iff.rfl))
def onNat (o : Option AV) (K : Int → Prop) : Prop := ∃ k n, o = some (.p (.lit (.int k n))) ∧ K n
@[congr] theorem onNat_congr {o o' : Option AV} {K : Int → Prop} (h : mark o = o') : onNat o K = onNat o' K := by rw [← h, mark_eq]
theorem e17 (k : IntKind) (n : Int) (K : Int → Prop) : onNat (some (.p (.lit (.int k n)))) K = K n := by simp [onNat, and_assoc]
theorem b32 (x y : Operand) (t u : Nat) (hne : t ≠ u) : aop P H f V dst (.call ⟨.builtin .append, #[x, y], #[t, u]⟩) K = onE (tEl P t) fun e => onE (tInt P u) fun _ => onE (tBytes P e) fun by' => onP (tVar P e) fun _ zs => 0 < zs.length ∧ V.eval x = some (.p (.seq true [])) ∧ onNat (V.eval y) fun n =>
      0 < n ∧ n * by' ≤ 140737488355328 ∧ n ≤ maxLen ∧ dst.any (H.contains ·) = true ∧ K ⟨.own f, [(f, some (.row zs.length (lift (List.replicate n.toNat zs))))]⟩ := by
  have e : aop P H f V dst (.call ⟨.builtin .append, #[x, y], #[t, u]⟩) K = aAppZ P H f V dst t u x y K := by
    simp only [aop]
    exact propext ⟨by rintro ⟨_, _, e, _, _, e', h⟩; cases e; cases e'; rwa [if_neg hne] at h, fun h => ⟨_, _, rfl, _, _, rfl, by rwa [if_neg hne]⟩⟩
  rw [e]
  rfl
theorem b33 (x : Operand) (t : Nat) : aop P H f V dst (.call ⟨.builtin .cap, #[x], #[t]⟩) K = onE (tEl P t) fun _ => onSeq (V.eval x) fun es => K ⟨.p (.lit (.int .i64 es.length)), []⟩ := by
  simp [aop, onE, onSeq]
def onSub (o : Option AV) (sz : Nat) (K : Nat → Nat → Nat → Prop) : Prop := ∃ id lo n, o = some (.sub id sz lo n) ∧ K id lo n
@[congr] theorem onSub_congr {o o' : Option AV} {sz sz' : Nat} {K : Nat → Nat → Nat → Prop} (h : mark o = o') (hs : sz = sz') : onSub o sz K = onSub o' sz' K := by rw [← h, mark_eq, hs]
theorem e22 (id sz lo n : Nat) (K : Nat → Nat → Nat → Prop) : onSub (some (.sub id sz lo n)) sz K = K id lo n := by simp [onSub, and_assoc]
theorem b38 (x : Operand) (t : Nat) : aop P H f V dst (.call ⟨.builtin .clear, #[x], #[t]⟩) K = onE (tEl P t) fun e => onP (tVar P e) fun _ zs => onSub (V.eval x) zs.length fun id lo n => onRow (V.hp id) zs.length fun es => lo + n ≤ es.length ∧ K ⟨.p (.tup []), [(id, some (.row zs.length (clr es lo n zs)))]⟩ := by
  simp [aop, onE, onP, onSub, onRow]
theorem b30 (g : FuncId) (l : List Operand) (ts : Array TypeId) : aop P H f V dst (.call ⟨.value (.func g), l.toArray, ts⟩) K = (enters P g = true ∧ onE (evals V l) fun xs => callK P g (xs ++ []) f V dst K) := by
  simp only [aop, PS.eval, onE]
  exact propext ⟨by rintro ⟨_, e, _, _, e', h⟩; cases e; cases e'; exact h, fun h => ⟨_, rfl, _, _, rfl, h⟩⟩
theorem b31 (t : Nat) (l : List Operand) (ts : Array TypeId) : aop P H f V dst (.call ⟨.value (.tmp t), l.toArray, ts⟩) K = onFn (V.eval (.tmp t)) fun h caps => enters P h = true ∧ onE (evals V l) fun xs => callK P h (xs ++ caps) f V dst K := rfl
-- values
section
variable (K : AV → Prop)
theorem c01 (g : Bool) (n id sz k off : Nat) : loadK V (.ptr id sz k off) g n K = loadB (V.hp id) sz k off g n K := by
  cases g <;> simp only [loadK, loadR, loadB]
  · exact propext ⟨by rintro ⟨_, ⟨es, cs, h1, h2, h3⟩, h⟩; exact ⟨es, h1, cs, h2, _, h3, h⟩, by rintro ⟨es, h1, cs, h2, _, h3, h⟩; exact ⟨_, ⟨es, cs, h1, h2, h3⟩, h⟩⟩
  · exact propext ⟨by rintro ⟨_, ⟨es, cs, h1, h2, h3, rfl⟩, h⟩; exact ⟨es, h1, cs, h2, h3, h⟩, by rintro ⟨es, h1, cs, h2, h3, h⟩; exact ⟨_, ⟨es, cs, h1, h2, h3, rfl⟩, h⟩⟩
theorem c02 (sz off n : Nat) (cs : List AV) : loadB (some (.row sz [cs])) sz 0 off false n K = onE cs[off]? K := by
  simp [loadB, onE]
theorem c24 (sz off n : Nat) (cs : List AV) : loadB (some (.row sz [cs])) sz 0 off true n K = (off + n ≤ cs.length ∧ K (aggOf ((cs.drop off).take n))) := by
  simp [loadB]
theorem c25 (sz k off n : Nat) (es : List (List PV)) : loadB (some (.row sz (lift es))) sz k off false n K = (k < es.length ∧ onE (es.getD k [])[off]? fun x => K (.p x)) := by
  simp only [loadB, onE, Option.some.injEq, Blk.row.injEq, true_and]
  refine propext ⟨?_, ?_⟩
  · rintro ⟨_, rfl, cs, h1, y, h2, h⟩
    rw [lift_get] at h1
    obtain ⟨xs, hxs, rfl⟩ := Option.map_eq_some_iff.1 h1
    rw [List.getElem?_map] at h2
    obtain ⟨x, hx, rfl⟩ := Option.map_eq_some_iff.1 h2
    exact ⟨(List.getElem?_eq_some_iff.1 hxs).1, x, by rw [List.getD_eq_getElem?_getD, hxs]; exact hx, h⟩
  · rintro ⟨hk, x, hx, h⟩
    have hxs : es[k]? = some es[k] := List.getElem?_eq_getElem hk
    rw [List.getD_eq_getElem?_getD, hxs] at hx
    exact ⟨_, rfl, es[k].map .p, by rw [lift_get, hxs]; rfl, .p x, by rw [List.getElem?_map, show es[k][off]? = some x from hx]; rfl, h⟩
theorem c26 (sz k off n : Nat) (es : List (List PV)) : loadB (some (.row sz (lift es))) sz k off true n K = (k < es.length ∧ off + n ≤ (es.getD k []).length ∧ K (.p (.agg (((es.getD k []).drop off).take n)))) := by
  simp only [loadB, Option.some.injEq, Blk.row.injEq, true_and]
  have key : ∀ xs : List PV, aggOf (((xs.map AV.p).drop off).take n) = .p (.agg ((xs.drop off).take n)) := fun xs => by
    rw [← List.map_drop, ← List.map_take, aggOf, pures_map]
  refine propext ⟨?_, ?_⟩
  · rintro ⟨_, rfl, cs, h1, h2, h⟩
    rw [lift_get] at h1
    obtain ⟨xs, hxs, rfl⟩ := Option.map_eq_some_iff.1 h1
    rw [key] at h
    have e : es.getD k [] = xs := by rw [List.getD_eq_getElem?_getD, hxs]; rfl
    exact ⟨(List.getElem?_eq_some_iff.1 hxs).1, by rw [e]; simpa using h2, by rw [e]; exact h⟩
  · rintro ⟨hk, h2, h⟩
    have hxs : es[k]? = some es[k] := List.getElem?_eq_getElem hk
    have e : es.getD k [] = es[k] := by rw [List.getD_eq_getElem?_getD, hxs]; rfl
    rw [e] at h2 h
    exact ⟨_, rfl, es[k].map .p, by rw [lift_get, hxs]; rfl, by simpa using h2, by rw [key]; exact h⟩
theorem c03 (n off : Nat) (cs : List PV) : loadK V (.pp cs off) true n K = (off + n ≤ cs.length ∧ K (.p (.agg ((cs.drop off).take n)))) := by
  simp only [loadK, loadR]
  exact propext ⟨by rintro ⟨_, ⟨h3, rfl⟩, h⟩; exact ⟨h3, h⟩, by rintro ⟨h3, h⟩; exact ⟨_, ⟨h3, rfl⟩, h⟩⟩
theorem c04 (n off : Nat) (cs : List PV) : loadK V (.pp cs off) false n K = onE cs[off]? fun x => K (.p x) := by
  simp only [loadK, loadR, onE]
  exact propext ⟨by rintro ⟨_, ⟨x, h3, rfl⟩, h⟩; exact ⟨x, h3, h⟩, by rintro ⟨x, h3, h⟩; exact ⟨_, ⟨x, h3, rfl⟩, h⟩⟩
theorem c05 (sz n : Nat) (c : Bool) (es : List (List PV)) : idxG V sz n (.p (.seq c es)) K = onE es[n]? fun cs => cs.length = sz ∧ K (.pp cs 0) := by
  simp only [idxG, idxR, onE]
  exact propext ⟨by rintro ⟨_, ⟨x, h3, h4, rfl⟩, h⟩; exact ⟨x, h3, h4, h⟩, by rintro ⟨x, h3, h4, h⟩; exact ⟨_, ⟨x, h3, h4, rfl⟩, h⟩⟩
theorem c06 (sz n id : Nat) : idxG V sz n (.own id) K = onRow (V.hp id) sz fun es => n < es.length ∧ K (.ptr id sz n 0) := by
  simp only [idxG, idxR, onRow]
  exact propext ⟨by rintro ⟨_, ⟨x, h3, h4, rfl⟩, h⟩; exact ⟨x, h3, h4, h⟩, by rintro ⟨x, h3, h4, h⟩; exact ⟨_, ⟨x, h3, h4, rfl⟩, h⟩⟩
theorem c07 (off sz : Nat) (cs : List AV) : cellK true off sz cs K = (off + sz ≤ cs.length ∧ K (aggOf ((cs.drop off).take sz))) := by
  simp only [cellK]
  exact propext ⟨by rintro ⟨_, ⟨h3, rfl⟩, h⟩; exact ⟨h3, h⟩, by rintro ⟨h3, h⟩; exact ⟨_, ⟨h3, rfl⟩, h⟩⟩
theorem c08 (off sz : Nat) (cs : List AV) : cellK false off sz cs K = onE cs[off]? K := rfl
end
section
variable (K : Nat → Prop)
theorem c09 (c : Bool) (es : List (List PV)) : lenK V (.p (.seq c es)) K = K es.length := by simp [lenK, lenR]
theorem c10 (id lo sz m : Nat) : lenK V (.sub id sz lo m) K = K m := by simp [lenK, lenR]
def onLen (o : Option Blk) (K : Nat → Prop) : Prop := ∃ sz es, o = some (.row sz es) ∧ K es.length
@[congr] theorem onLen_congr {o o' : Option Blk} {K : Nat → Prop} (h : mark o = o') : onLen o K = onLen o' K := by rw [← h, mark_eq]
theorem e14 (sz : Nat) (es : List (List AV)) : onLen (some (.row sz es)) K = K es.length := by simp [onLen, and_assoc]
theorem c11 (id : Nat) : lenK V (.own id) K = onLen (V.hp id) K := by
  simp only [lenK, lenR, onLen]
  exact propext ⟨by rintro ⟨_, ⟨a, b, h3, rfl⟩, h⟩; exact ⟨a, b, h3, h⟩, by rintro ⟨a, b, h3, h⟩; exact ⟨_, ⟨a, b, h3, rfl⟩, h⟩⟩
end
theorem c12 (i s k o d : Nat) : offs (.ptr i s k o) d = some (.ptr i s k (o + d)) := rfl
theorem c13 (cs : List PV) (o d : Nat) : offs (.pp cs o) d = some (.pp cs (o + d)) := rfl
def onLift (o : Option Blk) (K : List (List PV) → Prop) : Prop := ∃ sz es, o = some (.row sz (lift es)) ∧ K es
@[congr] theorem onLift_congr {o o' : Option Blk} {K : List (List PV) → Prop} (h : mark o = o') : onLift o K = onLift o' K := by rw [← h, mark_eq]
theorem e15 (sz : Nat) (es : List (List PV)) (K : List (List PV) → Prop) : onLift (some (.row sz (lift es))) K = K es := by
  simp only [onLift, Option.some.injEq, Blk.row.injEq]
  exact propext ⟨by rintro ⟨_, _, ⟨_, h⟩, h'⟩; rwa [lift_inj.mp h], fun h => ⟨_, _, ⟨rfl, rfl⟩, h⟩⟩
def onLiftN (o : Option Blk) (n : Nat) (K : List (List PV) → Prop) : Prop := ∃ es, o = some (.row n (lift es)) ∧ K es
@[congr] theorem onLiftN_congr {o o' : Option Blk} {n n' : Nat} {K : List (List PV) → Prop} (h : mark o = o') (hn : n = n') : onLiftN o n K = onLiftN o' n' K := by rw [← h, mark_eq, hn]
theorem e16 (sz : Nat) (es : List (List PV)) (K : List (List PV) → Prop) : onLiftN (some (.row sz (lift es))) sz K = K es := by
  simp only [onLiftN, Option.some.injEq, Blk.row.injEq, true_and]
  exact propext ⟨by rintro ⟨_, h, h'⟩; rwa [lift_inj.mp h], fun h => ⟨_, rfl, h⟩⟩
section
variable (K : List (List PV) → Prop)
theorem c14 (c : Bool) (es : List (List PV)) : srcK V (.p (.seq c es)) K = K es := by simp [srcK, srcR]
theorem c15 (id : Nat) : srcK V (.own id) K = onLift (V.hp id) K := by
  simp only [srcK, srcR, onLift]
  exact propext ⟨by rintro ⟨es, ⟨a, h⟩, h'⟩; exact ⟨a, es, h, h'⟩, by rintro ⟨a, es, h, h'⟩; exact ⟨es, ⟨a, h⟩, h'⟩⟩
theorem c16 (id sz lo n : Nat) : srcK V (.sub id sz lo n) K = onLiftN (V.hp id) sz fun es => lo + n ≤ es.length ∧ K ((es.drop lo).take n) := by
  simp only [srcK, srcR, onLiftN]
  exact propext ⟨by rintro ⟨_, ⟨a, h, h2, rfl⟩, h'⟩; exact ⟨a, h, h2, h'⟩, by rintro ⟨a, h, h2, h'⟩; exact ⟨_, ⟨a, h, h2, rfl⟩, h'⟩⟩
end
theorem c17 (by' n : Nat) (es1 es2 : List (List PV)) : appK H f V dst by' n (.p (.seq true es1)) es2 K = ((∀ y, y ∈ es1 → y.length = n) ∧ (es1.length + es2.length) * by' ≤ 140737488355328 ∧ es1.length + es2.length ≤ maxLen ∧
        if dst.any (H.contains ·) = true then (es1 = [] ∨ es2 ≠ []) ∧ K ⟨.own f, [(f, some (.row n (lift (es1 ++ es2))))]⟩ else K ⟨.p (.seq es2.isEmpty (es1 ++ es2)), []⟩) := rfl
theorem c18 (by' n id : Nat) (es2 : List (List PV)) : appK H f V dst by' n (.own id) es2 K = onLiftN (V.hp id) n fun es1 => (es1.length + es2.length) * by' ≤ 140737488355328 ∧ es1.length + es2.length ≤ maxLen ∧ id ≠ f ∧
        if dst.any (H.contains ·) = true then K ⟨.own f, [(f, some (.row n (lift (es1 ++ es2)))), (id, none)]⟩ else dst.isSome = true ∧ K ⟨.p (.seq false (es1 ++ es2)), [(f, none), (id, none)]⟩ := rfl
theorem c19 : evalOpt V none = some none := rfl
theorem c20 (x : Operand) : evalOpt V (some x) = match V.eval x with | some (.p (.lit (.int _ n))) => some (some n) | _ => none := rfl
theorem c21 (c : Bool) (n : Nat) (h : Option Int) (m : Int) : clipOf c n h (some m) = decide (h = some m) := rfl
theorem c22 (c : Bool) (n : Nat) : clipOf c n none none = c := rfl
theorem c23 (c : Bool) (n : Nat) (h : Int) : clipOf c n (some h) none = (c && decide (h = n)) := rfl
section
variable (T : TypeId) (k : IntKind) (a b : Int) (K : Value → Prop)
theorem g01 : binK P T .add (.int k a) (.int k b) K = K (.int k (k.wrap (a + b))) := by simp [binK, binR, binT]
theorem g02 : binK P T .sub (.int k a) (.int k b) K = K (.int k (k.wrap (a - b))) := by simp [binK, binR, binT]
theorem g03 : binK P T .mul (.int k a) (.int k b) K = K (.int k (k.wrap (a * b))) := by simp [binK, binR, binT]
theorem g04 : binK P T .quo (.int k a) (.int k b) K = (b ≠ 0 ∧ K (.int k (k.wrap (a.tdiv b)))) := by simp [binK, binR, binT, and_assoc]
theorem g05 : binK P T .rem (.int k a) (.int k b) K = (b ≠ 0 ∧ K (.int k (a.tmod b))) := by simp [binK, binR, binT, and_assoc]
theorem g06 : binK P T .eql (.int k a) (.int k b) K = K (.bool (a == b)) := by simp [binK, binR, binT]
theorem g07 : binK P T .neq (.int k a) (.int k b) K = K (.bool (a != b)) := by simp [binK, binR, binT]
theorem g08 : binK P T .lss (.int k a) (.int k b) K = K (.bool (decide (a < b))) := by simp [binK, binR, binT]
theorem g09 : binK P T .leq (.int k a) (.int k b) K = K (.bool (decide (a ≤ b))) := by simp [binK, binR, binT]
theorem g10 : binK P T .gtr (.int k a) (.int k b) K = K (.bool (decide (b < a))) := by simp [binK, binR, binT]
theorem g11 : binK P T .geq (.int k a) (.int k b) K = K (.bool (decide (b ≤ a))) := by simp [binK, binR, binT]
theorem g12 (k' : IntKind) : binK P T .shl (.int k a) (.int k' b) K = (0 ≤ b ∧ K (.int k (k.wrap (a * 2 ^ min b.toNat k.bits)))) := by simp [binK, binR, binT, and_assoc]
theorem g13 (k' : IntKind) : binK P T .shr (.int k a) (.int k' b) K = (0 ≤ b ∧ K (.int k (a / 2 ^ min b.toNat k.bits))) := by simp [binK, binR, binT, and_assoc]
theorem g14 : binK P T .and (.int k a) (.int k b) K = K (.int k (k.wrap (BitVec.ofInt k.bits a &&& BitVec.ofInt k.bits b).toNat)) := by simp [binK, binR, binT]
theorem g15 : binK P T .or (.int k a) (.int k b) K = K (.int k (k.wrap (BitVec.ofInt k.bits a ||| BitVec.ofInt k.bits b).toNat)) := by simp [binK, binR, binT]
theorem g17 (a b : Bool) : binK P T .eql (.bool a) (.bool b) K = (P.underlying T = some .bool ∧ K (.bool (a == b))) := by simp [binK, binR, binT, and_assoc]
theorem g18 (a b : Bool) : binK P T .neq (.bool a) (.bool b) K = (P.underlying T = some .bool ∧ K (.bool (a != b))) := by simp [binK, binR, binT, and_assoc]
theorem g34 (T : TypeId) (a b : ByteArray) (K : Value → Prop) : binK P T .eql (.string a) (.string b) K = K (.bool (a.toList == b.toList)) := by simp [binK, binR, binT]
theorem g35 (T : TypeId) (K : Value → Prop) : binK P T .eql .nilIface .nilIface K = (tAny P T = true ∧ K (.bool true)) := by simp [binK, binR, binT, and_assoc]
theorem g36 (T : TypeId) (K : Value → Prop) : binK P T .neq .nilIface .nilIface K = (tAny P T = true ∧ K (.bool false)) := by simp [binK, binR, binT, and_assoc]
theorem g37 (T t : TypeId) (v : Value) (K : Value → Prop) : binK P T .eql (.iface t v) .nilIface K = (tAny P T = true ∧ K (.bool false)) := by simp [binK, binR, binT, and_assoc]
theorem g38 (T t : TypeId) (v : Value) (K : Value → Prop) : binK P T .neq (.iface t v) .nilIface K = (tAny P T = true ∧ K (.bool true)) := by simp [binK, binR, binT, and_assoc]
theorem g16 : binK P T .xor (.int k a) (.int k b) K = K (.int k (k.wrap (BitVec.ofInt k.bits a ^^^ BitVec.ofInt k.bits b).toNat)) := by simp [binK, binR, binT]
end
theorem d01 (cs : List PV) : AV.cells (.p (.agg cs)) = some (cs.map .p) := rfl
theorem d02 (k : IntKind) (n : Int) : AV.cells (.p (.lit (.int k n))) = some [.p (.lit (.int k n))] := rfl
theorem d03 (b : Bool) : AV.cells (.p (.lit (.bool b))) = some [.p (.lit (.bool b))] := rfl
theorem d04 (c : Bool) (es : List (List PV)) : AV.cells (.p (.seq c es)) = some [.p (.seq c es)] := rfl
theorem d05 (cs : List AV) : AV.cells (.agg cs) = some cs := rfl
theorem d06 (id : Nat) : AV.cells (.own id) = some [.own id] := rfl
theorem d07 (a b c d : Nat) : AV.cells (.ptr a b c d) = some [.ptr a b c d] := rfl
theorem d33 (i : Nat) : AV.cells (.mp i) = some [.mp i] := rfl
theorem d34 (f : FuncId) (cs : List AV) : AV.cells (.fn f cs) = some [.fn f cs] := rfl
theorem d35 (i : Nat) (r : List AV) : pures (.mp i :: r) = none := rfl
theorem d36 (f : FuncId) (cs r : List AV) : pures (.fn f cs :: r) = none := rfl
theorem d08 : pures [] = some [] := rfl
theorem d09 (x : PV) (r : List AV) : pures (.p x :: r) = (pures r).map (x :: ·) := rfl
theorem d10 (x : Nat) (r : List AV) : pures (.own x :: r) = none := rfl
theorem d11 (a b c d : Nat) (r : List AV) : pures (.ptr a b c d :: r) = none := rfl
theorem d12 (cs : List PV) : aop.aggCells (.p (.agg cs)) = some (cs.map .p) := rfl
theorem d13 (cs : List AV) : aop.aggCells (.agg cs) = some cs := rfl
theorem d14 (cs : List PV) : aop.tupCells (.p (.tup cs)) = some (cs.map .p) := rfl
theorem d15 (cs : List AV) : aop.tupCells (.tup cs) = some cs := rfl
theorem d16 (a b c d : Nat) : isPtr (.ptr a b c d) = true := rfl
theorem d17 (cs : List PV) (o : Nat) : isPtr (.pp cs o) = true := rfl
theorem d18 : evals V [] = some [] := rfl
theorem d19 (x : Operand) (r : List Operand) : evals V (x :: r) = match V.eval x, evals V r with | some v, some vs => some (v :: vs) | _, _ => none := rfl
theorem d20 : aop.evalInts V [] = some [] := rfl
theorem d21 (x : Operand) (r : List Operand) : aop.evalInts V (x :: r) = match V.eval x, aop.evalInts V r with | some (.p (.lit (.int k n))), some vs => some ((k, n) :: vs) | _, _ => none := rfl
theorem d22 (k : IntKind) (n : Int) (r : List (IntKind × Int)) : aop.minR ((k, n) :: r) = some (k, r.foldl (fun x y => if y.2 < x then y.2 else x) n) := rfl
theorem d23 (k : IntKind) (n : Int) (r : List (IntKind × Int)) : aop.maxR ((k, n) :: r) = some (k, r.foldl (fun x y => if y.2 > x then y.2 else x) n) := rfl
theorem d24 (x : Operand) : evalInt V x = match V.eval x with | some (.p (.lit (.int _ n))) => some n | _ => none := rfl
theorem d25 : evalParts V [] = some [] := rfl
theorem d26 (i : Nat) (x : Operand) (r : List (Nat × Operand)) : evalParts V ((i, x) :: r) = match V.eval x, evalParts V r with
    | some v, some vs => match v.cells with | some cs => some ((i, cs) :: vs) | none => none
    | _, _ => none := rfl
theorem d27 (sz k : Nat) : evalRow V sz k [] = some [] := rfl
theorem d28 (sz k i : Nat) (x : Operand) (r : List (Nat × Operand)) : evalRow V sz k ((i, x) :: r) = if i = k then match V.eval x, evalRow V sz (k + 1) r with
      | some v, some es => match v.cells with
        | some cs => match pures cs with
          | some ps => if ps.length = sz then some (ps :: es) else none
          | none => none
        | none => none
      | _, _ => none
    else none := rfl
theorem d29 (place : Nat → Option (Nat × Nat)) (cells : List AV) : afill place cells [] = some cells := rfl
theorem d30 (place : Nat → Option (Nat × Nat)) (cells : List AV) (i : Nat) (v : List AV) (r : List (Nat × List AV)) : afill place cells ((i, v) :: r) = match place i with
    | none => none
    | some (off, size) => if v.length = size ∧ off + size ≤ cells.length then afill place (splice cells off v) r else none := rfl
theorem d31 (cs : List AV) : aggOf cs = match pures cs with | some xs => .p (.agg xs) | none => .agg cs := rfl
theorem d32 (α : Type) (cs : List α) (off : Nat) (vs : List α) : splice cs off vs = cs.take off ++ vs ++ cs.drop (off + vs.length) := rfl
end
theorem ResA.ownE {hp : List (Nat × Blk)} {id sz : Nat} {es : List (List PV)} {r : PV} (h : lkp hp id = some (.row sz (lift es))) (e : PV.seq false es = r) : ResA hp (.own id) r := e ▸ .own h
theorem amb : type_of% (And.intro (And.intro (And.intro (And.intro (And.intro (And.intro (And.intro (And.intro (And.intro (And.intro (And.intro @b01 (And.intro @b02 @b03)) (And.intro (And.intro @b04 @b05) (And.intro @b06 @b07))) (And.intro (And.intro @b08 (And.intro @b09 @b10)) (And.intro (And.intro @b11 @b12) (And.intro @b13 @b14)))) (And.intro (And.intro (And.intro @b15 (And.intro @b18 @b19)) (And.intro (And.intro @b22 @b23) (And.intro @b24 @b25))) (And.intro (And.intro (And.intro @b26 @b27) (And.intro @b28 @b29)) (And.intro (And.intro @b30 @b31) (And.intro @b32 @b33))))) @b34) @b35) @b36) @b37) @b38) @b39) @b40) := (And.intro (And.intro (And.intro (And.intro (And.intro (And.intro (And.intro (And.intro (And.intro (And.intro (And.intro @b01 (And.intro @b02 @b03)) (And.intro (And.intro @b04 @b05) (And.intro @b06 @b07))) (And.intro (And.intro @b08 (And.intro @b09 @b10)) (And.intro (And.intro @b11 @b12) (And.intro @b13 @b14)))) (And.intro (And.intro (And.intro @b15 (And.intro @b18 @b19)) (And.intro (And.intro @b22 @b23) (And.intro @b24 @b25))) (And.intro (And.intro (And.intro @b26 @b27) (And.intro @b28 @b29)) (And.intro (And.intro @b30 @b31) (And.intro @b32 @b33))))) @b34) @b35) @b36) @b37) @b38) @b39) @b40)
theorem am : type_of% (And.intro (And.intro (And.intro (And.intro (And.intro (And.intro (And.intro (And.intro (And.intro (And.intro (And.intro (And.intro (And.intro (And.intro (And.intro (And.intro (And.intro (And.intro (And.intro (And.intro (And.intro (And.intro (And.intro (And.intro (And.intro (And.intro (And.intro (And.intro (And.intro (And.intro (And.intro (And.intro (And.intro (And.intro (And.intro (And.intro (And.intro (And.intro (And.intro (And.intro (And.intro (And.intro (And.intro (And.intro (And.intro (And.intro (And.intro (And.intro (And.intro (And.intro (And.intro (And.intro (And.intro @a01 @a02) (And.intro @a03 @a04)) (And.intro (And.intro @a05 @a06) (And.intro @a08 @a09))) (And.intro (And.intro (And.intro @a10 @a11) (And.intro @a12 @a13)) (And.intro (And.intro @a14 @a15) (And.intro @a16 @a17)))) (And.intro (And.intro (And.intro (And.intro @a18 @a19) (And.intro @a20 @a21)) (And.intro (And.intro @a22 @a23) (And.intro @a24 @a25))) (And.intro (And.intro (And.intro @a26 @a27) (And.intro @a28 @a29)) (And.intro (And.intro @a30 @a31) (And.intro @a32 @a33))))) (And.intro (And.intro (And.intro (And.intro (And.intro @b16 @b17) (And.intro @b20 @b21)) (And.intro (And.intro @c01 @c02) (And.intro @c03 @c04))) (And.intro (And.intro (And.intro @c05 @c06) (And.intro @c07 @c08)) (And.intro (And.intro @c09 @c10) (And.intro @c11 @c12)))) (And.intro (And.intro (And.intro (And.intro @c13 @c14) (And.intro @c15 @c16)) (And.intro (And.intro @c17 @c18) (And.intro @c19 @c20))) (And.intro (And.intro (And.intro @c21 @c22) (And.intro @c23 @d01)) (And.intro (And.intro @d02 @d03) (And.intro @d04 (And.intro @d05 @d06))))))) (And.intro (And.intro (And.intro (And.intro (And.intro (And.intro @d07 @d08) (And.intro @d09 @d10)) (And.intro (And.intro @d11 @d12) (And.intro @d13 @d14))) (And.intro (And.intro (And.intro @d15 @d16) (And.intro @d17 @d18)) (And.intro (And.intro @d19 @d20) (And.intro @d21 @d22)))) (And.intro (And.intro (And.intro (And.intro @d23 @d24) (And.intro @d25 @d26)) (And.intro (And.intro @d27 @d28) (And.intro @d29 @d30))) (And.intro (And.intro (And.intro @d31 @d32) (And.intro @e01 @e02)) (And.intro (And.intro @e03 @e04) (And.intro @e05 (And.intro @e06 @e07)))))) (And.intro (And.intro (And.intro (And.intro (And.intro @e08 @e09) (And.intro @e10 @e11)) (And.intro (And.intro @e12 @e13) (And.intro @e14 @e15))) (And.intro (And.intro (And.intro @e16 @e17) (And.intro @e18 @g01)) (And.intro (And.intro @g02 @g03) (And.intro @g04 @g05)))) (And.intro (And.intro (And.intro (And.intro @g06 @g07) (And.intro @g08 @g09)) (And.intro (And.intro @g10 @g11) (And.intro @g12 @g13))) (And.intro (And.intro (And.intro @g14 @g15) (And.intro @g16 @g17)) (And.intro (And.intro @g18 @g19) (And.intro @g20 (And.intro @g21 @g22)))))))) @g23) @g24) @g25) @g26) @g27) @g28) @g29) @g30) @g31) @g32) @g33) @e19) @e20) @e21) @c24) @c25) @c26) @c27) @c28) @c29) @h01) @h02) @d33) @d34) @d35) @d36) @a34) @a35) @a36) @a37) @e22) @clr_lift) @h03) @h04) @h05) @e23) @h06) @h07) @h08) @h09) @h10) @g34) @g35) @g36) @g37) @g38) := (And.intro (And.intro (And.intro (And.intro (And.intro (And.intro (And.intro (And.intro (And.intro (And.intro (And.intro (And.intro (And.intro (And.intro (And.intro (And.intro (And.intro (And.intro (And.intro (And.intro (And.intro (And.intro (And.intro (And.intro (And.intro (And.intro (And.intro (And.intro (And.intro (And.intro (And.intro (And.intro (And.intro (And.intro (And.intro (And.intro (And.intro (And.intro (And.intro (And.intro (And.intro (And.intro (And.intro (And.intro (And.intro (And.intro (And.intro (And.intro (And.intro (And.intro (And.intro (And.intro (And.intro @a01 @a02) (And.intro @a03 @a04)) (And.intro (And.intro @a05 @a06) (And.intro @a08 @a09))) (And.intro (And.intro (And.intro @a10 @a11) (And.intro @a12 @a13)) (And.intro (And.intro @a14 @a15) (And.intro @a16 @a17)))) (And.intro (And.intro (And.intro (And.intro @a18 @a19) (And.intro @a20 @a21)) (And.intro (And.intro @a22 @a23) (And.intro @a24 @a25))) (And.intro (And.intro (And.intro @a26 @a27) (And.intro @a28 @a29)) (And.intro (And.intro @a30 @a31) (And.intro @a32 @a33))))) (And.intro (And.intro (And.intro (And.intro (And.intro @b16 @b17) (And.intro @b20 @b21)) (And.intro (And.intro @c01 @c02) (And.intro @c03 @c04))) (And.intro (And.intro (And.intro @c05 @c06) (And.intro @c07 @c08)) (And.intro (And.intro @c09 @c10) (And.intro @c11 @c12)))) (And.intro (And.intro (And.intro (And.intro @c13 @c14) (And.intro @c15 @c16)) (And.intro (And.intro @c17 @c18) (And.intro @c19 @c20))) (And.intro (And.intro (And.intro @c21 @c22) (And.intro @c23 @d01)) (And.intro (And.intro @d02 @d03) (And.intro @d04 (And.intro @d05 @d06))))))) (And.intro (And.intro (And.intro (And.intro (And.intro (And.intro @d07 @d08) (And.intro @d09 @d10)) (And.intro (And.intro @d11 @d12) (And.intro @d13 @d14))) (And.intro (And.intro (And.intro @d15 @d16) (And.intro @d17 @d18)) (And.intro (And.intro @d19 @d20) (And.intro @d21 @d22)))) (And.intro (And.intro (And.intro (And.intro @d23 @d24) (And.intro @d25 @d26)) (And.intro (And.intro @d27 @d28) (And.intro @d29 @d30))) (And.intro (And.intro (And.intro @d31 @d32) (And.intro @e01 @e02)) (And.intro (And.intro @e03 @e04) (And.intro @e05 (And.intro @e06 @e07)))))) (And.intro (And.intro (And.intro (And.intro (And.intro @e08 @e09) (And.intro @e10 @e11)) (And.intro (And.intro @e12 @e13) (And.intro @e14 @e15))) (And.intro (And.intro (And.intro @e16 @e17) (And.intro @e18 @g01)) (And.intro (And.intro @g02 @g03) (And.intro @g04 @g05)))) (And.intro (And.intro (And.intro (And.intro @g06 @g07) (And.intro @g08 @g09)) (And.intro (And.intro @g10 @g11) (And.intro @g12 @g13))) (And.intro (And.intro (And.intro @g14 @g15) (And.intro @g16 @g17)) (And.intro (And.intro @g18 @g19) (And.intro @g20 (And.intro @g21 @g22)))))))) @g23) @g24) @g25) @g26) @g27) @g28) @g29) @g30) @g31) @g32) @g33) @e19) @e20) @e21) @c24) @c25) @c26) @c27) @c28) @c29) @h01) @h02) @d33) @d34) @d35) @d36) @a34) @a35) @a36) @a37) @e22) @clr_lift) @h03) @h04) @h05) @e23) @h06) @h07) @h08) @h09) @h10) @g34) @g35) @g36) @g37) @g38)
theorem aml : type_of% (And.intro (And.intro (And.intro (And.intro (And.intro (And.intro (And.intro (And.intro @int_default @toNat_sub_n) (And.intro @toNat_sub_1 @toNat_add_1)) (And.intro (And.intro @wrap64_of @if_min) (And.intro @if_max @cast_add1))) @getD_map) @tmod_of) @tdiv_of) @getD_app) @getD_set) := (And.intro (And.intro (And.intro (And.intro (And.intro (And.intro (And.intro (And.intro @int_default @toNat_sub_n) (And.intro @toNat_sub_1 @toNat_add_1)) (And.intro (And.intro @wrap64_of @if_min) (And.intro @if_max @cast_add1))) @getD_map) @tmod_of) @tdiv_of) @getD_app) @getD_set)
end Go.Am
namespace Go.Am
open Go.RowKit
theorem SatR.callBlk {C : Ctx} {U : Nat → Prop} {s : PS} {ρ : Nat → Option Value} {a : Act} {w w' : World} (h : SatR C U s ρ a w) {f : Nat} (hf : ¬ U f) (hB : Below w.heap.size w w')
    {b : Nat} (hlb : w.heap.size ≤ b) (e : TypeId) (cur : Array Value) (sz : Nat) (es : List (List AV)) (cap : Nat) (hbl : w'.heap[b]? = some (.cells cur e (0, 0))) (h0 : 0 < cap)
    (hok : BlkOk (fun x => Own C s ρ x ∨ x = b) ρ w' sz es cap cur) :
    SatR C (fun i => U i ∨ i = f) ⟨s.sl, PS.setHp s.hp [(f, some (.row sz es))]⟩ (fun i => if i = f then some (.slice (some ⟨b, 0, none⟩) es.length cap) else ρ i) a w' := by
  have hob : oblk (.slice (some ⟨b, 0, none⟩) es.length cap) = some b := by simp [oblk]; omega
  have hblt : b < w'.heap.size := (Array.getElem?_eq_some_iff.1 hbl).1
  have hρ : ∀ i v', ρ i = some v' → (fun i => if i = f then some (Value.slice (some ⟨b, 0, none⟩) es.length cap) else ρ i) i = some v' := by
    intro i v' hi
    by_cases e : i = f
    · subst e; rw [h.used i hf] at hi; cases hi
    · simp [e, hi]
  have hO : ∀ x, Own C ⟨s.sl, PS.setHp s.hp [(f, some (.row sz es))]⟩ (fun i => if i = f then some (.slice (some ⟨b, 0, none⟩) es.length cap) else ρ i) x → Own C s ρ x ∨ x = b := by
    rintro x (ho | ⟨id, k, u, h1, h2, h3⟩)
    · exact .inl (.inl ho)
    · by_cases e : id = f
      · subst e; simp only [if_true, Option.some.injEq] at h2; subst h2; rw [hob] at h3; injection h3 with h3; exact .inr h3.symm
      · simp only [PS.setHp, e, if_false] at h1 h2; exact .inl (.inr ⟨id, k, u, h1, h2, h3⟩)
  have hm : Moves (Own C s ρ) w (Own C ⟨s.sl, PS.setHp s.hp [(f, some (.row sz es))]⟩ (fun i => if i = f then some (.slice (some ⟨b, 0, none⟩) es.length cap) else ρ i)) w' := by
    refine ⟨hB.size, fun x hx _ => hB.block x hx, fun x hx ho => ?_⟩
    rcases hO x ho with ho | rfl
    · exact ho
    · omega
  have hm2 : Moves (fun x => Own C s ρ x ∨ x = b) w' (Own C ⟨s.sl, PS.setHp s.hp [(f, some (.row sz es))]⟩ (fun i => if i = f then some (.slice (some ⟨b, 0, none⟩) es.length cap) else ρ i)) w' :=
    ⟨Nat.le_refl _, fun _ _ _ => rfl, fun x _ => hO x⟩
  have hlt : ∀ id k v b, s.hp id = some k → ρ id = some v → oblk v = some b → b < w.heap.size := fun id k v b h1 h2 h3 => (h.range id k v b h1 h2 h3).2.2
  refine ⟨h.defers, h.size, fun d x hx => (h.slots d x hx).mono hm hρ, fun id k hid => ?_, ?_, fun id hid => ?_, ?_, h.oc, hB.os.trans h.os, hB.tape.trans h.tape, hB.output.trans h.output, Nat.le_trans h.grows hB.size,
    fun x hx hA => (hB.block x (Nat.lt_of_lt_of_le hx h.grows)).trans (h.frame x hx hA), fun j v hj => hρ _ _ (h.pins j v hj)⟩
  · by_cases e : id = f
    · subst e
      simp only [PS.setHp, if_true, Option.some.injEq] at hid
      subst hid
      exact ⟨_, by simp, .inr ⟨b, cap, cur, _, .inl rfl, h0, hbl, hok.1, hok.2.1, hok.2.2.1, hok.2.2.2.1, fun j x hx => ⟨(hok.2.2.2.2 j x hx).1.mono hm2 hρ, (hok.2.2.2.2 j x hx).2⟩⟩⟩
    · simp only [PS.setHp, e, if_false] at hid
      obtain ⟨v', hv', hr⟩ := h.heap id k hid
      exact ⟨v', by simp [e, hv'], hr.mono hm hρ (fun b hb => hB.block b (h.range id k v' b hid hv' hb).2.2)⟩
  · intro i j k l v' u b' h1 h2 h3 h4 h5 h6
    by_cases ei : i = f
    · by_cases ej : j = f
      · rw [ei, ej]
      · subst ei
        simp only [PS.setHp, ej, if_false] at h2 h4
        simp only [if_true, Option.some.injEq] at h3
        subst h3
        rw [hob] at h5; injection h5 with h5; subst h5
        have := hlt j l u _ h2 h4 h6; omega
    · by_cases ej : j = f
      · subst ej
        simp only [PS.setHp, ei, if_false] at h1 h3
        simp only [if_true, Option.some.injEq] at h4
        subst h4
        rw [hob] at h6; injection h6 with h6; subst h6
        have := hlt i k v' _ h1 h3 h5; omega
      · simp only [PS.setHp, ei, ej, if_false] at h1 h2 h3 h4
        exact h.inj i j k l v' u b' h1 h2 h3 h4 h5 h6
  · have : ¬ id = f := fun e => hid (.inr e)
    simp only [this, if_false]
    exact h.used id (fun x => hid (.inl x))
  · intro id k v' b' h1 h2 h3
    by_cases e : id = f
    · subst e
      simp only [if_true, Option.some.injEq] at h2
      subst h2
      rw [hob] at h3; injection h3 with h3; subst h3
      refine ⟨.inl (Nat.le_trans h.grows hlb), fun ho => ?_, hblt⟩
      have := h.oc _ ho; have := h.grows; omega
    · simp only [PS.setHp, e, if_false] at h1 h2
      obtain ⟨r1, r2, r3⟩ := h.range id k v' b' h1 h2 h3
      exact ⟨r1, r2, Nat.lt_of_lt_of_le r3 hB.size⟩
def OCall (P : Program) (f : FuncId) (args : List PV) (sz : Nat) (es : List (List PV)) : Prop :=
  ∀ (O : Nat → Prop) (w : World) (vs : Array Value), (∀ b, O b → b < w.heap.size) → vs.size = args.length → (∀ i x, args[i]? = some x → RepP O w x (vs.getD i undef)) →
    Calls P f vs w fun e w' => ∃ v, e = .returned v ∧ Below w.heap.size w w' ∧ ((es = [] ∧ ∃ a, v = .slice a 0 0) ∨
      ∃ b cap cur ty, v = .slice (some ⟨b, 0, none⟩) es.length cap ∧ 0 < cap ∧ w.heap.size ≤ b ∧ w'.heap[b]? = some (.cells cur ty (0, 0)) ∧ BlkOk (fun x => O x ∨ x = b) (fun _ => none) w' sz (lift es) cap cur)
theorem Sat.fam {C : Ctx} {U : Nat → Prop} {s : PS} {a : Act} {w : World} {f : Nat} (h : Sat C (fun i => U i ∨ i = f) s a w) : Sat C (fun i => U i ∨ (f ≤ i ∧ i < f + 7)) s a w :=
  h.widen fun i hi => by
    rcases hi with hi | rfl
    · exact .inl hi
    · exact .inr ⟨by omega, by omega⟩
theorem repA_lift {O : Nat → Prop} {ρ ρ' : Nat → Option Value} {w : World} {x : PV} {v : Value} (h : RepA O ρ w (.p x) v) : RepA O ρ' w (.p x) v := .p _ _ h.unP
theorem blkOk_lift {O : Nat → Prop} {ρ ρ' : Nat → Option Value} {w : World} {sz cap : Nat} {es : List (List PV)} {cur : Array Value} (h : BlkOk O ρ w sz (lift es) cap cur) : BlkOk O ρ' w sz (lift es) cap cur :=
  ⟨h.1, h.2.1, h.2.2.1, h.2.2.2.1, fun j x hx => by
    obtain ⟨y, hy, rfl⟩ : ∃ y, es.flatten[j]? = some y ∧ x = .p y := by
      have := hx; rw [lift_flatten, List.getElem?_map] at this
      obtain ⟨y, h1, h2⟩ := Option.map_eq_some_iff.1 this
      exact ⟨y, h1, h2.symm⟩
    exact ⟨repA_lift (h.2.2.2.2 j _ hx).1, (h.2.2.2.2 j _ hx).2⟩⟩
theorem callsA_of_ocall {P : Program} {g : FuncId} {xs : List AV} {args : List PV} {sz : Nat} {es : List (List PV)} {f : Nat} {V : PS} {dst : Option Nat} (hx : pures xs = some args) (h : OCall P g args sz es) :
    CallsA P g xs f V dst ⟨.own f, [(f, some (.row sz (lift es)))]⟩ := by
  intro C U s ρ a w vs hd hf hV hs hsz hr
  have e := pures_spec _ _ hx
  subst e
  refine (h (Own C s ρ) w vs (fun b hb => ?_) (by simpa using hsz) (fun i x hi => (hr i (.p x) (by simp [hi])).unP)).mono fun e w' ⟨v, he, hB, hv⟩ => ⟨v, he, ?_⟩
  · by_cases hlt : b < w.heap.size
    · exact hlt
    · exact absurd hb (hs.notOwn (by omega))
  · rcases hv with ⟨rfl, ad, rfl⟩ | ⟨b, cap, cur, ty, rfl, h0, hb, hbl, hok⟩
    · have hm := hs.move (w' := w') hB.size hB.block hB.os hB.tape hB.output
      exact Sat.fam ⟨_, (hm.newNil (hf 0 (by omega)) sz ad).put hd (x := .own f) (.own f ad 0 0 (by simp))⟩
    · have hl : (lift es).length = es.length := lift_length es
      have := (hs.callBlk (hf 0 (by omega)) hB hb ty cur sz (lift es) cap hbl h0 (blkOk_lift hok)).put hd (x := .own f) (v := .slice (some ⟨b, 0, none⟩) es.length cap) (.own f _ _ _ (by simp [hl]))
      exact Sat.fam ⟨_, this⟩
theorem callK_o {P : Program} {g : FuncId} {xs : List AV} {f : Nat} {V : PS} {dst : Option Nat} {K : Upd → Prop} {args : List PV} {sz : Nat} {es : List (List PV)} (h : OCall P g args sz es) (hx : pures xs = some args)
    (hK : K ⟨.own f, [(f, some (.row sz (lift es)))]⟩) : callK P g xs f V dst K := ⟨_, callsA_of_ocall hx h, hK⟩
def retO (fn : Func) (sz : Nat) (es : List (List PV)) (e : Exit) (s : LS) : Prop :=
  match e with
  | .ret | .normal => (∃ t id, fn.results = #[.tmp t] ∧ lkp s.sl t = some (.own id) ∧ lkp s.hp id = some (.row sz (lift es))) ∨ (es = [] ∧ ∃ t, fn.results = #[.tmp t] ∧ lkp s.sl t = some (.p (.seq true [])))
  | _ => False
theorem ocall_of_awp {P : Program} {f : FuncId} {fn : Func} {c : Code} {args : List PV} {sz : Nat} {es : List (List PV)} (hf : P.funcs[f]? = some fn) (hb : fn.body = some c) (hn : args.length ≤ fn.ntmps)
    (h : ∀ C : Ctx, C.n = fn.ntmps → Awp P C c (retO fn sz es) ⟨argSl 0 args, [], 0⟩) : OCall P f args sz es := by
  intro O w vs hO hsz hr
  refine calls_of_wp hf hb ?_
  let C : Ctx := ⟨w, O, fun _ => False, fn.ntmps, fun _ => none, []⟩
  have hs : Sat C (fun i => nmPos i ≤ 0) (⟨argSl 0 args, [], 0⟩ : LS).ps ⟨vs ++ Array.replicate (fn.ntmps - vs.size) undef, []⟩ w := by
    refine ⟨fun _ => none, ⟨rfl, by simp [C]; omega, fun d x hx => ?_, fun id k hk => (by cases hk), fun i j k l v u b hk => (by cases hk), fun _ _ => rfl, fun id k v b hk => (by cases hk), hO, rfl, rfl, rfl, Nat.le_refl _, fun _ _ _ => rfl, fun j v hj => (by cases hj)⟩⟩
    obtain ⟨y, j, rfl, hy, rfl⟩ := lkp_argSl args 0 d x hx
    have hj := (List.getElem?_eq_some_iff.1 hy).1
    have := hr j y hy
    rw [Nat.zero_add, Array.getD_eq_getD_getElem?, Array.getElem?_append_left (by omega), ← Array.getD_eq_getD_getElem?]
    refine .p _ _ (this.mono ⟨Nat.le_refl _, fun _ _ _ => rfl, fun b hb ho => ?_⟩)
    rcases ho with ho | ⟨id, k, v, hk, _⟩
    · exact ho
    · cases hk
  refine wp_mono (h C rfl _ w hs) fun e a' w' ⟨s', hk, ρ, hsat⟩ => ?_
  have fin : ((∃ t id, fn.results = #[.tmp t] ∧ lkp s'.sl t = some (.own id) ∧ lkp s'.hp id = some (.row sz (lift es))) ∨ (es = [] ∧ ∃ t, fn.results = #[.tmp t] ∧ lkp s'.sl t = some (.p (.seq true [])))) → bodyPost P fn (fun e w' => ∃ v, e = .returned v ∧ Below w.heap.size w w' ∧ ((es = [] ∧ ∃ a, v = .slice a 0 0) ∨
      ∃ b cap cur ty, v = .slice (some ⟨b, 0, none⟩) es.length cap ∧ 0 < cap ∧ w.heap.size ≤ b ∧ w'.heap[b]? = some (.cells cur ty (0, 0)) ∧ BlkOk (fun x => O x ∨ x = b) (fun _ => none) w' sz (lift es) cap cur)) .ret a' w' := by
    rintro (⟨t, id, hres, ht, hid⟩ | ⟨rfl, t, hres, ht⟩)
    rotate_left
    · have hv := hsat.slots t _ ht
      have hrun : (results fn a'.tmps).run P w' = .ok (a'.tmps.getD t undef) w' := by
        rw [results_eq, hres]
        simp [getR]
      refine ⟨hsat.defers, _, hrun, _, rfl, ⟨hsat.os, hsat.tape, hsat.output, hsat.grows, fun b hb => hsat.frame b hb (fun h => h)⟩, .inl ⟨rfl, ?_⟩⟩
      obtain ⟨ad, cap, he, _, hcl⟩ := seq_shape hv.unP
      have hc : cap = 0 := by simpa using hcl rfl
      subst hc
      exact ⟨ad, he⟩
    have hv := hsat.slots t _ ht
    obtain ⟨u, hu, hbk⟩ := hsat.heap id _ hid
    have hrun : (results fn a'.tmps).run P w' = .ok (a'.tmps.getD t undef) w' := by
      rw [results_eq, hres]
      simp [getR]
    refine ⟨hsat.defers, _, hrun, _, rfl, ⟨hsat.os, hsat.tape, hsat.output, hsat.grows, fun b hb => hsat.frame b hb (fun h => h)⟩, ?_⟩
    generalize a'.tmps.getD t undef = z at hv
    cases hv with
    | own _ ad n c hi =>
      rw [hu] at hi; injection hi with hi; subst hi
      rcases hbk with ⟨hnil, ad', he⟩ | ⟨b, cap, cur, e', h1, h0, h2, hok⟩
      · injection he with q1 q2 q3; subst q1 q2 q3
        exact .inl ⟨by simpa [lift] using hnil, _, rfl⟩
      · rcases h1 with h1 | ⟨h1, _⟩
        · injection h1 with q1 q2 q3; subst q1 q3
          rw [lift_length] at q2; subst q2
          have hob : oblk (.slice (some ⟨b, 0, none⟩) es.length c) = some b := by simp [oblk]; omega
          have hrg := hsat.range id _ _ b hid hu hob
          refine .inr ⟨b, c, cur, e', rfl, h0, ?_, h2, ?_⟩
          · rcases hrg.1 with hr | hr
            · exact hr
            · exact hr.elim
          · have hm : Moves (Own C s'.ps ρ) w' (fun x => O x ∨ x = b) w' := ⟨Nat.le_refl _, fun _ _ _ => rfl, fun x _ hx => by
              rcases hx with hx | rfl
              · exact .inl hx
              · exact .inr ⟨id, _, _, hid, hu, hob⟩⟩
            have hok' : BlkOk (Own C s'.ps ρ) ρ w' sz (lift es) c cur := hok
            refine ⟨hok'.1, hok'.2.1, hok'.2.2.1, hok'.2.2.2.1, fun j x hx => ?_⟩
            obtain ⟨y, hy, rfl⟩ : ∃ y, es.flatten[j]? = some y ∧ x = .p y := by
              have := hx; rw [lift_flatten, List.getElem?_map] at this
              obtain ⟨y, h1, h2⟩ := Option.map_eq_some_iff.1 this
              exact ⟨y, h1, h2.symm⟩
            exact ⟨.p _ _ ((hok'.2.2.2.2 j _ hx).1.unP.mono hm), (hok'.2.2.2.2 j _ hx).2⟩
        · cases h1
  cases e with
  | ret => exact fin hk
  | normal => exact fin hk
  | exit => exact hk.elim
  | goto => exact hk.elim
  | panic => exact hk.elim
  | outgrown => exact hk.elim
theorem reto1 {fn : Func} {t id sz : Nat} {es : List (List PV)} {s : LS} (hf : fn.results = #[.tmp t]) (h : lkp s.sl t = some (.own id)) (h2 : lkp s.hp id = some (.row sz (lift es))) : retO fn sz es .ret s := .inl ⟨t, id, hf, h, h2⟩
theorem LeB.liftE {hp : List (Nat × Blk)} {π : List (Nat × Nat)} {sz : Nat} {es es' : List (List PV)} (h : es = es') : LeB hp π (.row sz (Am.lift es)) (.row sz (Am.lift es')) := h ▸ LeB.lift es
theorem awp_own' {P : Program} {C : Ctx} {c : Code} {K : Exit → LS → Prop} {s : LS} (d sz : Nat) (hd : lkp s.sl d = some (.p (.seq true []))) (h : Awp P C c K ⟨(d, .own (8 * s.nx)) :: s.sl, (8 * s.nx, .row sz (lift [])) :: del s.hp (8 * s.nx), s.nx + 1⟩) : Awp P C c K s := awp_own d sz hd h
section
variable {P : Program} {C : Ctx} {K : Exit → LS → Prop} {s : LS}
end
def keepM (o : Option AV) (d : Nat) (r : List (Nat × AV)) : List (Nat × AV) := match o with | some x => (d, x) :: r | none => r
def keepL (sl : List (Nat × AV)) : List Nat → List (Nat × AV)
  | [] => []
  | d :: r => keepM (lkp sl d) d (keepL sl r)
theorem lkp_keepL (sl : List (Nat × AV)) : ∀ (ds : List Nat) (d : Nat) (x : AV), lkp (keepL sl ds) d = some x → lkp sl d = some x
  | [], d, x, h => by simp [keepL, lkp] at h
  | e :: r, d, x, h => by
    unfold keepL keepM at h
    split at h
    · rename_i y hy
      simp only [lkp] at h
      split at h
      · rename_i e1; subst e1; rw [hy]; exact h
      · exact lkp_keepL sl r d x h
    · exact lkp_keepL sl r d x h
theorem le_keep {s : LS} (ds : List Nat) : LE s ⟨keepL s.sl ds, s.hp, s.nx⟩ := fun _ _ _ ⟨ρ, h⟩ => ⟨ρ, { h with slots := fun d x hx => h.slots d x (lkp_keepL s.sl ds d x hx) }⟩
theorem keepL_nil (sl : List (Nat × AV)) : keepL sl [] = [] := rfl
theorem keepL_cons (sl : List (Nat × AV)) (d : Nat) (r : List Nat) : keepL sl (d :: r) = keepM (lkp sl d) d (keepL sl r) := rfl
theorem keepM_some (x : AV) (d : Nat) (r : List (Nat × AV)) : keepM (some x) d r = (d, x) :: r := rfl
theorem keepM_none (d : Nat) (r : List (Nat × AV)) : keepM none d r = r := rfl
theorem cast0 : ((0 : Nat) : Int) = 0 := rfl
end Go.Am
end
