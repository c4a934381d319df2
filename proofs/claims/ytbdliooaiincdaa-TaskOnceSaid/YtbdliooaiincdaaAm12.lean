/-
  The abstract machine, twelfth part: the other operations; all operations together.
-/
import Derived.Test.YtbdliooaiincdaaAm29
namespace Go.Am
open Go.RowKit

section
variable {P : Program} {H : List Nat} {f : Nat} {V : PS} {K : Upd → Prop}

theorem one_arr {α : Type} {xs : Array α} {x : α} (h : xs.toList = [x]) : xs = #[x] := by rw [← Array.toArray_toList (xs := xs), h]

theorem snd_len {o : Oper} {args : Array Operand} {ts : Array TypeId} {x : Operand} {t e : Nat} (ho : o.op = .call ⟨.builtin .len, args, ts⟩) (ha : args.toList = [x]) (ht : ts.toList = [t]) (hT : tEl P t = some e) {v : AV}
    (hv : V.eval x = some v) {n : Nat} (hn : lenR V v n) (hK : K ⟨.p (.lit (.int .i64 n)), []⟩) : ∃ u, K u ∧ StepA P o f V u :=
  mk_pure hK fun O ρ s a w hE hH => by
    have ha' := one_arr ha
    have ht' := one_arr ht
    subst ha' ht'
    have hu := hE x (by simp [ho, Op.operands, Call.operands]) v hv
    refine ⟨_, ?_, .p _ _ (.lit _)⟩
    have key : ∃ ad c, a.eval x = .slice ad n c := by
      unfold lenR at hn
      split at hn
      · subst hn
        obtain ⟨ad, c, h, _⟩ := seq_shape hu.unP
        exact ⟨ad, c, h⟩
      · rename_i id
        obtain ⟨sz, es, hid, rfl⟩ := hn
        obtain ⟨u, hu2, hb⟩ := hH id _ hid
        generalize a.eval x = z at hu
        cases hu with
        | own _ ad len cap hi2 =>
          rw [hu2] at hi2; injection hi2 with hi2; subst hi2
          rcases hb with ⟨rfl, a', ha'⟩ | ⟨b, cap', cur, e', h1, h0, h2, hok⟩
          · injection ha' with q1 q2 q3; subst q2; exact ⟨_, _, rfl⟩
          · rcases h1 with h1 | ⟨h1, _⟩
            · injection h1 with q1 q2 q3; subst q2; exact ⟨_, _, rfl⟩
            · cases h1
      · rename_i id sz lo m
        subst hn
        generalize a.eval x = z at hu
        cases hu with
        | sub => exact ⟨_, _, rfl⟩
        | sub0 => exact ⟨_, _, rfl⟩
      · exact hn.elim
    obtain ⟨ad, c, he⟩ := key
    simp [execOp, ho, resolve, invoke, builtin, he, Builtin.len_, run_underlying (el_run hT), goInt]

theorem snd_cap {o : Oper} {args : Array Operand} {ts : Array TypeId} {x : Operand} {t e : Nat} (ho : o.op = .call ⟨.builtin .cap, args, ts⟩) (ha : args.toList = [x]) (ht : ts.toList = [t]) (hT : tEl P t = some e) {es : List (List PV)}
    (hv : V.eval x = some (.p (.seq true es))) (hK : K ⟨.p (.lit (.int .i64 es.length)), []⟩) : ∃ u, K u ∧ StepA P o f V u :=
  mk_pure hK fun O ρ s a w hE hH => by
    have ha' := one_arr ha
    have ht' := one_arr ht
    subst ha' ht'
    have hu := hE x (by simp [ho, Op.operands, Call.operands]) _ hv
    refine ⟨_, ?_, .p _ _ (.lit _)⟩
    obtain ⟨ad, c, he, _, hc⟩ := seq_shape hu.unP
    have hc := hc rfl
    subst hc
    simp [execOp, ho, resolve, invoke, builtin, he, Builtin.cap_, run_underlying (el_run hT), goInt]

theorem evalInts_spec {a : Act} {O : Nat → Prop} {ρ : Nat → Option Value} {w : World} : ∀ (xs : List Operand) (vs : List (IntKind × Int)), (∀ y, y ∈ xs → ∀ v, V.eval y = some v → RepA O ρ w v (a.eval y)) → aop.evalInts V xs = some vs →
    xs.map a.eval = vs.map fun (k, n) => Value.int k n
  | [], vs, _, h => by simp [aop.evalInts] at h; subst h; rfl
  | x :: xs, vs, hE, h => by
    simp only [aop.evalInts] at h
    split at h
    · rename_i k n us hx hus
      simp only [Option.some.injEq] at h; subst h
      simp only [List.map_cons, evalInts_spec xs us (fun y hy => hE y (by simp [hy])) hus]
      rw [(hE x (by simp) _ hx).lit]
    · cases h

theorem run_min {w : World} : ∀ (vs : List (IntKind × Int)) (k : IntKind) (n : Int), ((vs.map fun (k, n) => Value.int k n).foldlM Builtin.min2 (.int k n)).run P w = .ok (.int k (vs.foldl (fun x y => if y.2 < x then y.2 else x) n)) w
  | [], k, n => by simp
  | (k', m) :: vs, k, n => by
    simp only [List.map_cons, List.foldlM_cons, Sem.run_bind, Builtin.min2, Sem.run_pure, Result.andThen_ok, List.foldl_cons]
    exact run_min vs k _
theorem run_max {w : World} : ∀ (vs : List (IntKind × Int)) (k : IntKind) (n : Int), ((vs.map fun (k, n) => Value.int k n).foldlM Builtin.max2 (.int k n)).run P w = .ok (.int k (vs.foldl (fun x y => if y.2 > x then y.2 else x) n)) w
  | [], k, n => by simp
  | (k', m) :: vs, k, n => by
    simp only [List.map_cons, List.foldlM_cons, Sem.run_bind, Builtin.max2, Sem.run_pure, Result.andThen_ok, List.foldl_cons]
    exact run_max vs k _

theorem snd_min {o : Oper} {args : Array Operand} {ts : Array TypeId} (ho : o.op = .call ⟨.builtin .min, args, ts⟩) {vs : List (IntKind × Int)} (hv : aop.evalInts V args.toList = some vs) {k : IntKind} {r : Int} (hr : aop.minR vs = some (k, r))
    (hK : K ⟨.p (.lit (.int k r)), []⟩) : ∃ u, K u ∧ StepA P o f V u :=
  mk_pure hK fun O ρ s a w hE hH => by
    have h := evalInts_spec (O := O) (ρ := ρ) (w := w) (a := a) args.toList vs (fun y hy => hE y (by simp [ho, Op.operands, Call.operands]; exact Array.mem_toList_iff.1 hy)) hv
    refine ⟨_, ?_, .p _ _ (.lit _)⟩
    cases vs with
    | nil => cases hr
    | cons q vs =>
      obtain ⟨k', n⟩ := q
      simp only [aop.minR, Option.some.injEq, Prod.mk.injEq] at hr
      obtain ⟨rfl, rfl⟩ := hr
      have h2 : (args.map a.eval).toList = .int k' n :: vs.map fun (k, n) => Value.int k n := by rw [Array.toList_map, h]; rfl
      simp only [execOp, ho, resolve, invoke, builtin, Sem.run_bind, Sem.run_pure, Result.andThen_ok, Builtin.min_, h2, run_min]
theorem snd_max {o : Oper} {args : Array Operand} {ts : Array TypeId} (ho : o.op = .call ⟨.builtin .max, args, ts⟩) {vs : List (IntKind × Int)} (hv : aop.evalInts V args.toList = some vs) {k : IntKind} {r : Int} (hr : aop.maxR vs = some (k, r))
    (hK : K ⟨.p (.lit (.int k r)), []⟩) : ∃ u, K u ∧ StepA P o f V u :=
  mk_pure hK fun O ρ s a w hE hH => by
    have h := evalInts_spec (O := O) (ρ := ρ) (w := w) (a := a) args.toList vs (fun y hy => hE y (by simp [ho, Op.operands, Call.operands]; exact Array.mem_toList_iff.1 hy)) hv
    refine ⟨_, ?_, .p _ _ (.lit _)⟩
    cases vs with
    | nil => cases hr
    | cons q vs =>
      obtain ⟨k', n⟩ := q
      simp only [aop.maxR, Option.some.injEq, Prod.mk.injEq] at hr
      obtain ⟨rfl, rfl⟩ := hr
      have h2 : (args.map a.eval).toList = .int k' n :: vs.map fun (k, n) => Value.int k n := by rw [Array.toList_map, h]; rfl
      simp only [execOp, ho, resolve, invoke, builtin, Sem.run_bind, Sem.run_pure, Result.andThen_ok, Builtin.max_, h2, run_max]

theorem snd_not {o : Oper} {T : TypeId} {x : Operand} {b : Bool} (ho : o.op = .unOp .not T x) (hx : V.eval x = some (.p (.lit (.bool b)))) (hK : K ⟨.p (.lit (.bool (!b))), []⟩) : ∃ u, K u ∧ StepA P o f V u :=
  mk_pure hK fun O ρ s a w hE hH => by
    have h1 := (hE x (by simp [ho, Op.operands]) _ hx).lit
    exact ⟨_, by simp [execOp, ho, h1, Op.unary], .p _ _ (.lit _)⟩
theorem snd_neg {o : Oper} {T : TypeId} {x : Operand} {k : IntKind} {n : Int} (ho : o.op = .unOp .neg T x) (hx : V.eval x = some (.p (.lit (.int k n)))) (hK : K ⟨.p (.lit (.int k (k.wrap (0 - n)))), []⟩) : ∃ u, K u ∧ StepA P o f V u :=
  mk_pure hK fun O ρ s a w hE hH => by
    have h1 := (hE x (by simp [ho, Op.operands]) _ hx).lit
    exact ⟨_, by simp [execOp, ho, h1, Op.unary, Op.intArith], .p _ _ (.lit _)⟩

theorem evals_spec {a : Act} {O : Nat → Prop} {ρ : Nat → Option Value} {w : World} : ∀ (xs : List Operand) (vs : List AV), (∀ y, y ∈ xs → ∀ v, V.eval y = some v → RepA O ρ w v (a.eval y)) → evals V xs = some vs →
    vs.length = xs.length ∧ ∀ i x, vs[i]? = some x → RepA O ρ w x ((xs.map a.eval).getD i undef)
  | [], vs, _, h => by simp [evals] at h; subst h; simp
  | x :: xs, vs, hE, h => by
    simp only [evals] at h
    split at h
    · rename_i v us hx hus
      simp only [Option.some.injEq] at h; subst h
      have ih := evals_spec xs us (fun y hy => hE y (by simp [hy])) hus
      refine ⟨by simp [ih.1], fun i y hy => ?_⟩
      cases i with
      | zero => simp only [List.getElem?_cons_zero, Option.some.injEq] at hy; subst hy; simpa using hE x (by simp) _ hx
      | succ i => simpa using ih.2 i y (by simpa using hy)
    · cases h

theorem snd_makeFunc {o : Oper} {g : FuncId} {first caps : Array Operand} {cs : List AV} (ho : o.op = .makeFunc (.func g) first caps) (hf : first.size = 0) (hc : evals V caps.toList = some cs) (hK : K ⟨.fn g cs, []⟩) : ∃ u, K u ∧ StepA P o f V u :=
  mk_pure hK fun O ρ s a w hE hH => by
    have h := evals_spec (O := O) (ρ := ρ) (w := w) (a := a) caps.toList cs (fun y hy => hE y (by simp only [ho, Op.operands]; simp; exact .inr (Array.mem_toList_iff.1 hy))) hc
    have hfe : first = #[] := by simpa using hf
    subst hfe
    refine ⟨.func (.func g) #[] (caps.map a.eval), by simp [execOp, ho, Instr.makeFunc], .fn g cs _ (by simp [h.1]) (fun i x hx => ?_)⟩
    have := h.2 i x hx
    rw [Array.getD_eq_getD_getElem?, Array.getElem?_map]
    rw [List.getD_eq_getElem?_getD, List.getElem?_map] at this
    simpa using this

theorem snd_call {o : Oper} {g : Operand} {args : Array Operand} {ts : Array TypeId} (ho : o.op = .call ⟨.value g, args, ts⟩) {h : FuncId} {caps xs : List AV} (hg : V.eval g = some (.fn h caps)) (hen : enters P h = true)
    (hx : evals V args.toList = some xs) {u : Upd} (hc : CallsA P h (xs ++ caps) f V o.dst u) (hK : K u) : ∃ u, K u ∧ StepF P o f V u := by
  refine ⟨u, hK, ?_⟩
  intro C U s a w hd hf hV hHp ⟨ρ, hs⟩ Q
  have hgr := hs.eval (hV g (by simp [ho, Op.operands, Call.operands]) _ hg)
  have hxr := evals_spec (O := Own C s ρ) (ρ := ρ) (w := w) (a := a) args.toList xs (fun y hy v hv => hs.eval (hV y (by simp only [ho, Op.operands, Call.operands]; simp; exact .inr (Array.mem_toList_iff.1 hy)) v hv)) hx
  generalize hz : a.eval g = z at hgr
  cases hgr with
  | fn _ _ vs hvs hcaps =>
    have hcall := hc C U s ρ a w (args.map a.eval ++ vs) hd hf hHp hs (by simp [hxr.1, hvs]) (fun i x hi => ?_)
    · unfold enters at hen
      split at hen
      · rename_i fn hfn
        simp only [Bool.and_eq_true, Bool.not_eq_true', beq_eq_false_iff_ne, ne_eq] at hen
        obtain ⟨c, hb⟩ := Option.isSome_iff_exists.1 hen.1
        have hexec : (execOp a.eval o).run P w = .ok (.enter h (args.map a.eval ++ vs)) w := by
          simp [execOp, ho, resolve, hz, Deferred.ofValue, invoke, callFunc, hfn, hen.2, hb]
        unfold Oper.wp
        rw [hexec]
        show Calls _ _ _ _ _
        refine hcall.mono fun e w' ⟨v, he, hsat⟩ => ?_
        subst he
        exact hsat
      · cases hen
    · by_cases hlt : i < xs.length
      · rw [List.getElem?_append_left hlt] at hi
        have := hxr.2 i x hi
        rw [List.getD_eq_getElem?_getD, List.getElem?_map] at this
        rw [Array.getD_eq_getD_getElem?, Array.getElem?_append_left (by have := hxr.1; simp at this ⊢; omega), Array.getElem?_map]
        simpa using this
      · rw [List.getElem?_append_right (by omega)] at hi
        have := hcaps _ x hi
        rw [Array.getD_eq_getD_getElem?] at this ⊢
        rw [Array.getElem?_append_right (by simp; have := hxr.1; simp at this; omega)]
        have e : (args.map a.eval).size = xs.length := by simp [hxr.1]
        rw [e]; exact this

theorem toF {o : Oper} (h : ∃ u, K u ∧ StepA P o f V u) : ∃ u, K u ∧ StepF P o f V u := let ⟨u, hu, hs⟩ := h; ⟨u, hu, stepF_of hs⟩

theorem aop_sound {o : Oper} (h : aop P H f V o.dst o.op K) : ∃ u, K u ∧ StepF P o f V u := by
  obtain ⟨dst, op, type, pos, after, guard⟩ := o
  simp only at h
  unfold aop at h
  split at h
  · obtain ⟨v, hv, hK⟩ := h; exact toF (snd_move (.inl rfl) hv hK)
  · obtain ⟨v, hv, hK⟩ := h; exact toF (snd_move (.inr rfl) hv hK)
  · obtain ⟨t, ht, v, hv, hK⟩ := h; exact toF (snd_pick rfl ht hv hK)
  · obtain ⟨g, zs, ht, hK⟩ := h; exact toF (snd_alloc rfl ht hK)
  · obtain ⟨v, hv, cs, hc, hK⟩ := h; exact toF (snd_box rfl hv hc hK)
  · obtain ⟨zs, ht, hb, vs, hv, cs, hc, hK⟩ := h; exact toF (snd_build rfl ht hb hv hc hK)
  · obtain ⟨e, hT, g, zs, ht, h0, hn, hl, es, hr, hK⟩ := h; exact toF (snd_buildSlice rfl hT ht h0 hn hl hr hK)
  · obtain ⟨v, hv, g, n, ht, r, hr, hK⟩ := h; exact toF (snd_load rfl hv ht hr hK)
  · obtain ⟨id, sz, k, off, hx, v, hv, vs, hc, g, ht, es, hid, cs, hk, hle, hK⟩ := h; exact toF (snd_store rfl hx hv hc ht hid hk hle hK)
  · obtain ⟨v, hv, hp, hK⟩ := h; exact toF (snd_nilCheck rfl hv hp hK)
  · obtain ⟨u, hx, v, hy, r, hr, hK⟩ := h; exact toF (snd_binOp rfl hx hy hr hK)
  · split at h
    · obtain ⟨b, hb, hK⟩ := h; exact toF (snd_not rfl hb hK)
    · obtain ⟨k, n, hn, hK⟩ := h; exact toF (snd_neg rfl hn hK)
    · exact h.elim
  · obtain ⟨k, n, hx, hs, k', hd, hK⟩ := h; exact toF (snd_convert rfl hx hs hd hK)
  · obtain ⟨e, hT, g, sz, hs, v, hv, a, ha, b, hb, d, hd, hdb, h0, h⟩ := h
    split at h
    · obtain ⟨hl, h1, h2, h3, hK⟩ := h; exact toF (snd_slice_seq rfl hT hs hv ha hb hd hdb h0 hl h1 h2 h3 hK)
    · obtain ⟨es, hid, hd0, h1, h2, h⟩ := h
      split at h
      · obtain ⟨hz, hne, hK⟩ := h; exact toF (snd_shrink rfl hT hs hv ha hb hd hd0 h0 hid h1 h2 hz hne hK)
      · exact toF (snd_slice_own rfl hT hs hv ha hb hd hd0 h0 hid h1 h2 h)
    · exact h.elim
  · obtain ⟨off, sz, g, ht, v, hv, r, hr, hK⟩ := h; exact toF (snd_fieldAddr rfl ht hv hr hK)
  · obtain ⟨n, hi, h0, v, hv, h⟩ := h
    split at h
    · rename_i e hT
      obtain ⟨g, sz, hs, r, hr, hK⟩ := h; exact toF (snd_indexAddr_sl rfl hi h0 hT hs hv hr hK)
    · obtain ⟨len, sz, g, ht, hn, r, hr, hK⟩ := h; exact toF (snd_indexAddr_arr rfl hi h0 ht hn hv hr hK)
  · obtain ⟨off, sz, g, ht, v, hv, cs, hc, r, hr, hK⟩ := h; exact toF (snd_field rfl ht hv hc hr hK)
  · obtain ⟨n, hi, h0, len, sz, g, ht, hn, v, hv, cs, hc, r, hr, hK⟩ := h; exact toF (snd_index rfl hi h0 ht hn hv hc hr hK)
  · obtain ⟨v, hv, vs, ht, r, hr, hK⟩ := h; exact toF (snd_extract rfl hv ht hr hK)
  · obtain ⟨hf, cs, hc, hK⟩ := h; exact toF (snd_makeFunc rfl hf hc hK)
  · obtain ⟨e, hT, by', hby, g, zs, hvar, hpos, n, hx, c, hy, h0, hnc, hb, hm, hK⟩ := h; exact toF (snd_makeSlice rfl hT hby hvar hpos hx hy h0 hnc hb hm hK)
  · obtain ⟨len, e, hT, hK⟩ := h; exact toF (snd_makeMap rfl hT hK)
  · obtain ⟨len, e, hT, id, hx, m, hid, v, hy, q, hq, hok, z, hz, hK⟩ := h; exact toF (snd_lookup rfl hT hx hid hy hq hok hz hK)
  · obtain ⟨hdn, len, e, hT, id, hx, m, hid, v, hy, q, hq, hok, x, hz, hK⟩ := h; exact toF (snd_mapUpdate rfl hdn hT hx hid hy hq hok hz hK)
  · obtain ⟨x, ha, t, ht, e, hT, v, hv, n, hn, hK⟩ := h; exact toF (snd_len rfl ha ht hT hv hn hK)
  · obtain ⟨vs, hv, k, r, hr, hK⟩ := h; exact toF (snd_min rfl hv hr hK)
  · obtain ⟨vs, hv, k, r, hr, hK⟩ := h; exact toF (snd_max rfl hv hr hK)
  · obtain ⟨s, x, ha, t, u, ht, hA⟩ := h
    split at hA
    · rename_i e; subst e; exact toF (snd_append rfl ha ht hA)
    · exact toF (snd_appZ rfl ha ht hA)
  · obtain ⟨x, ha, t, ht, e, hT, es, hv, hK⟩ := h; exact toF (snd_cap rfl ha ht hT hv hK)
  · obtain ⟨v, hg, h', caps, rfl, hen, xs, hx, u, hc, hK⟩ := h; exact snd_call rfl hg hen hx hc hK
  · exact h.elim

end
end Go.Am
