/-
  The abstract machine, between its eleventh and its twelfth part: made slices, maps.
-/
import Derived.Test.YtbdliooaiincdaaAm25
import Derived.Laws.MakeOwn
import Derived.Carry
namespace Go.Am
open Go.RowKit

/-- A new block of the call's own, of whatever kind, under a name that nobody has. -/
theorem SatR.newAny {C : Ctx} {U : Nat → Prop} {s : PS} {ρ : Nat → Option Value} {a : Act} {w : World} (h : SatR C U s ρ a w) {f : Nat} (hf : ¬ U f) (o : Obj) (v : Value) (k : Blk) (hob : oblk v = some w.heap.size)
    (hrep : ∀ (O : Nat → Prop) (ρ : Nat → Option Value) (w' : World), w'.heap[w.heap.size]? = some o → BlkRep O ρ w' v k) :
    SatR C (fun i => U i ∨ i = f) ⟨s.sl, PS.setHp s.hp [(f, some k)]⟩ (fun i => if i = f then some v else ρ i) a (w.alloc o) := by
  have hρ : ∀ i v', ρ i = some v' → (fun i => if i = f then some v else ρ i) i = some v' := by
    intro i v' hi
    by_cases e : i = f
    · subst e; rw [h.used i hf] at hi; cases hi
    · simp [e, hi]
  have hm : Moves (Own C s ρ) w (Own C ⟨s.sl, PS.setHp s.hp [(f, some k)]⟩ (fun i => if i = f then some v else ρ i)) (w.alloc o) := by
    refine ⟨by simp, fun b hb _ => heap_alloc_old w _ hb, fun b hb ho => ?_⟩
    rcases ho with ho | ⟨id, k', u, h1, h2, h3⟩
    · exact .inl ho
    · by_cases e : id = f
      · subst e; simp only [if_true, Option.some.injEq] at h2; subst h2; rw [hob] at h3; injection h3; omega
      · simp only [PS.setHp, e, if_false] at h1 h2; exact .inr ⟨id, k', u, h1, h2, h3⟩
  refine ⟨h.defers, h.size, fun d x hx => (h.slots d x hx).mono hm hρ, fun id k' hid => ?_, ?_, fun id hid => ?_, ?_, h.oc, h.os, h.tape, h.output, Nat.le_trans h.grows (by simp), fun b hb hA => ?_, fun j v hj => hρ _ _ (h.pins j v hj)⟩
  · by_cases e : id = f
    · subst e
      simp only [PS.setHp, if_true, Option.some.injEq] at hid
      subst hid
      exact ⟨v, by simp, hrep _ _ _ (heap_alloc_new w _)⟩
    · simp only [PS.setHp, e, if_false] at hid
      obtain ⟨v', hv', hr⟩ := h.heap id k' hid
      exact ⟨v', by simp [e, hv'], hr.mono hm hρ (fun b hb => heap_alloc_old w _ (h.range id k' v' b hid hv' hb).2.2)⟩
  · intro i j k' l v' u b h1 h2 h3 h4 h5 h6
    by_cases ei : i = f
    · by_cases ej : j = f
      · rw [ei, ej]
      · subst ei
        simp only [PS.setHp, ej, if_false] at h2 h4
        simp only [if_true, Option.some.injEq] at h3
        subst h3
        rw [hob] at h5; injection h5 with h5; subst h5
        have := (h.range j l u _ h2 h4 h6).2.2; omega
    · by_cases ej : j = f
      · subst ej
        simp only [PS.setHp, ei, if_false] at h1 h3
        simp only [if_true, Option.some.injEq] at h4
        subst h4
        rw [hob] at h6; injection h6 with h6; subst h6
        have := (h.range i k' v' _ h1 h3 h5).2.2; omega
      · simp only [PS.setHp, ei, ej, if_false] at h1 h2 h3 h4
        exact h.inj i j k' l v' u b h1 h2 h3 h4 h5 h6
  · have : ¬ id = f := fun e => hid (.inr e)
    simp only [this, if_false]
    exact h.used id (fun x => hid (.inl x))
  · intro id k' v' b h1 h2 h3
    by_cases e : id = f
    · subst e
      simp only [if_true, Option.some.injEq] at h2
      subst h2
      rw [hob] at h3; injection h3 with h3; subst h3
      refine ⟨.inl h.grows, fun ho => ?_, by simp⟩
      have := h.oc _ ho; have := h.grows; omega
    · simp only [PS.setHp, e, if_false] at h1 h2
      obtain ⟨r1, r2, r3⟩ := h.range id k' v' b h1 h2 h3
      exact ⟨r1, r2, Nat.lt_of_lt_of_le r3 (by simp)⟩
  · rw [heap_alloc_old w _ (Nat.lt_of_lt_of_le hb h.grows)]; exact h.frame b hb hA

theorem setBlock_self (w : World) (b : Nat) (o : Obj) (h : b < w.heap.size) : (ChangeMaps.setBlock w b o).heap[b]? = some o := by
  simp only [ChangeMaps.setBlock]; rw [Array.getElem?_setIfInBounds_self_of_lt h]
theorem setBlock_other (w : World) (b x : Nat) (o : Obj) (h : x ≠ b) : (ChangeMaps.setBlock w b o).heap[x]? = w.heap[x]? := by
  simp only [ChangeMaps.setBlock]; rw [Array.getElem?_setIfInBounds_ne (fun e => h e.symm)]

/-- A map of the call's own is written. -/
theorem SatR.setMap {C : Ctx} {U : Nat → Prop} {s : PS} {ρ : Nat → Option Value} {a : Act} {w : World} (h : SatR C U s ρ a w) {id len : Nat} {m m' : List Int → Option PV}
    (hid : s.hp id = some (.map len m)) {b : Nat} (hv : ρ id = some (.map (some b))) {es' : Array MapEntry} {clock' : Nat} (hok : MapRep (Own C s ρ) w len m' es'.toList) :
    SatR C U ⟨s.sl, PS.setHp s.hp [(id, some (.map len m'))]⟩ ρ a (ChangeMaps.setBlock w b (.map es' clock')) := by
  have hob : oblk (.map (some b)) = some b := rfl
  have hO : ∀ x, Own C ⟨s.sl, PS.setHp s.hp [(id, some (.map len m'))]⟩ ρ x → Own C s ρ x := by
    rintro x (ho | ⟨i, k, u, h1, h2, h3⟩)
    · exact .inl ho
    · by_cases e : i = id
      · subst e; exact .inr ⟨i, _, u, hid, h2, h3⟩
      · simp only [PS.setHp, e, if_false] at h1; exact .inr ⟨i, k, u, h1, h2, h3⟩
  have hin : Own C s ρ b := .inr ⟨id, _, _, hid, hv, hob⟩
  have hrange := h.range id _ _ b hid hv hob
  have hm : Moves (Own C s ρ) w (Own C ⟨s.sl, PS.setHp s.hp [(id, some (.map len m'))]⟩ ρ) (ChangeMaps.setBlock w b (.map es' clock')) :=
    ⟨by simp [ChangeMaps.setBlock], fun x _ hx => setBlock_other w b x _ (fun e => hx (e ▸ hin)), fun x _ => hO x⟩
  have hi : ∀ i k, PS.setHp s.hp [(id, some (.map len m'))] i = some k → ∃ k, s.hp i = some k := by
    intro i k h1
    by_cases e : i = id
    · subst e; exact ⟨_, hid⟩
    · simp only [PS.setHp, e, if_false] at h1; exact ⟨k, h1⟩
  refine ⟨h.defers, h.size, fun d x hx => (h.slots d x hx).mono hm (fun _ _ x => x), fun i k hik => ?_, fun i j k l v' u b' h1 h2 h3 h4 h5 h6 => ?_, h.used, fun i k v' b' h1 h2 h3 => ?_, h.oc, h.os, h.tape, h.output, by simpa [ChangeMaps.setBlock] using h.grows, fun x hx hA => ?_, h.pins⟩
  · by_cases e : i = id
    · subst e
      simp only [PS.setHp, if_true, Option.some.injEq] at hik
      subst hik
      exact ⟨_, hv, b, es', clock', rfl, setBlock_self w b _ hrange.2.2, hok.mono hm⟩
    · simp only [PS.setHp, e, if_false] at hik
      obtain ⟨u, hu, hr⟩ := h.heap i k hik
      exact ⟨u, hu, hr.mono hm (fun _ _ x => x) (fun b2 hob2 => setBlock_other w b b2 _ (fun x => by subst x; exact e (h.inj i id _ _ u _ b2 hik hid hu hv hob2 hob)))⟩
  · obtain ⟨k', hk'⟩ := hi i k h1
    obtain ⟨l', hl'⟩ := hi j l h2
    exact h.inj i j k' l' v' u b' hk' hl' h3 h4 h5 h6
  · obtain ⟨k', hk'⟩ := hi i k h1
    simpa [ChangeMaps.setBlock] using h.range i k' v' b' hk' h2 h3
  · rw [setBlock_other w b x _ ?_]
    · exact h.frame x hx hA
    · rintro rfl
      rcases hrange.1 with hr | hr
      · omega
      · exact hA hr

section
variable {P : Program} {H : List Nat} {f : Nat} {V : PS} {K : Upd → Prop}

theorem snd_makeSlice {o : Oper} {T : TypeId} {x y : Operand} (ho : o.op = .makeSlice T x y) {e by' : Nat} {g : Bool} {zs : List PV} (hT : tEl P T = some e) (hby : tBytes P e = some by') (hvar : tVar P e = some (g, zs)) (_ : 0 < zs.length)
    {n c : Int} (hx : evalInt V x = some n) (hy : evalInt V y = some c) (h0 : 0 ≤ n) (hnc : n ≤ c) (hbytes : c * by' ≤ 140737488355328) (hmax : c ≤ maxLen) (hK : K ⟨.own f, [(f, some (.row zs.length (lift (List.replicate n.toNat zs))))]⟩) : ∃ u, K u ∧ StepA P o f V u := by
  obtain ⟨i, z, hi, hz, hsz, hbt, hzc⟩ := tb_run hby hvar
  refine ⟨_, hK, ?_⟩
  obtain ⟨m, rfl⟩ : ∃ m : Nat, n = m := ⟨n.toNat, by omega⟩
  obtain ⟨q, rfl⟩ : ∃ q : Nat, c = q := ⟨c.toNat, by omega⟩
  rw [Int.toNat_natCast]
  have hx' : x ∈ o.op.operands := by simp [ho, Op.operands]
  have hy' : y ∈ o.op.operands := by simp [ho, Op.operands]
  obtain ⟨kx, hkx⟩ := evalInt_some hx
  obtain ⟨ky, hky⟩ := evalInt_some hy
  have hrun : ∀ (w : World), (Instr.makeSlice T (.int kx m) (.int ky q)).run P w = .ok (.slice (some ⟨w.heap.size, 0, none⟩) m q) (w.alloc (.cells (madeCells z.cells (q * i.size)) e)) := by
    intro w
    have := run_make (P := P) w T e i z (el_run hT) hi hz kx ky m q h0 hnc (by rw [hbt, Int.mul_comm]; omega) (by unfold maxLen at hmax; omega)
    simpa using this
  by_cases hq : q = 0
  · subst hq
    have hm : m = 0 := by omega
    subst hm
    -- no cell: a row that takes none
    intro C U s a w hd hf hV hH ⟨ρ, hs⟩ Q
    have e1 := (hs.eval (hV x hx' _ hkx)).lit
    have e2 := (hs.eval (hV y hy' _ hky)).lit
    have hs1 := (hs.alloc (.cells (madeCells z.cells (0 * i.size)) e)).newNil hf zs.length (some ⟨w.heap.size, 0, none⟩)
    have := hs1.put hd (x := .own f) (v := .slice (some ⟨w.heap.size, 0, none⟩) 0 0) (.own f _ _ _ (by simp))
    have hex : (execOp a.eval o).run P w = .ok (.value (.slice (some ⟨w.heap.size, 0, none⟩) 0 0)) (w.alloc (.cells (madeCells z.cells (0 * i.size)) e)) := by
      have hw := hrun w
      simp only [execOp, ho, e1, e2, Sem.run_bind, hw, Result.andThen_ok, Sem.run_pure]
    exact wp_value hex ⟨_, this⟩
  · refine stepA_own (.inl rfl) fun O ρ s a w hV hE hH hN => ?_
    have e1 := (hE x _ (hV x hx' _ hkx)).lit
    have e2 := (hE y _ (hV y hy' _ hky)).lit
    have hlen : (lift (List.replicate m zs)).length = m := by simp [lift]
    have hzr : RepCells O ρ w (zs.map .p) z.cells := zero_info hvar (by simp [hi, hz]) O ρ w
    have hzl : z.cells.size = zs.length := by rw [hzc, hsz]
    refine ⟨.slice (some ⟨w.heap.size, 0, none⟩) m q, w, 
      .slice (some ⟨w.heap.size, 0, none⟩) m q, e, madeCells z.cells (q * i.size), q, (by
      have hw := hrun w
      simp only [execOp, ho, e1, e2, Sem.run_bind, hw, Result.andThen_ok, Sem.run_pure]), rfl, rfl, rfl, rfl, .inl (by rw [hlen]), by omega,
      ⟨by rw [hlen]; omega, by omega, by rw [size_madeCells, hsz], ?_, fun j y hy => ?_⟩, fun O' ρ' w' hρ' => .own f _ _ _ hρ'⟩
    · intro y hy
      simp only [lift, List.map_replicate] at hy
      rw [List.eq_of_mem_replicate hy]; simp
    · rw [lift_flatten, List.getElem?_map] at hy
      obtain ⟨y', hy', rfl⟩ := Option.map_eq_some_iff.1 hy
      obtain ⟨h1, h2⟩ := rep_flat zs m j y' hy'
      have hj := (List.getElem?_eq_some_iff.1 h1).1
      have hjq : j < q * i.size := by
        rw [hsz]; exact Nat.lt_of_lt_of_le h2 (Nat.mul_le_mul_right _ (by omega))
      have e3 : (madeCells z.cells (q * i.size)).getD j undef = z.cells.getD (j % zs.length) undef := by
        simp only [madeCells, Array.getD_eq_getD_getElem?, Array.getElem?_map, Array.getElem?_range, hjq, if_true, Option.map_some, Option.getD_some, hzl]
        have : j % zs.length < z.cells.size := by omega
        simp [this]
      rw [e3]
      exact ⟨hzr.2.1 _ _ (by rw [List.getElem?_map, h1]; rfl), hzr.2.2 _ (by rw [List.length_map]; exact hj)⟩

theorem tMap_run {T len e : Nat} (h : tMap P T = some (len, e)) : ∃ k, P.underlying T = some (.map k e) ∧ Maps.Keyed P k ∧ ∀ q, KeyOk len q → ∃ l, keyOf P k (keyV q) = some l := by
  unfold tMap at h
  split at h
  · rename_i k e' hT
    split at h
    · rename_i hk
      simp only [Option.some.injEq, Prod.mk.injEq] at h
      obtain ⟨rfl, rfl⟩ := h
      refine ⟨k, hT, Maps.int_keyed hk, fun q hq => ?_⟩
      match q, hq with
      | [n], hq => exact ⟨_, Maps.keyOf_int_mk hk (by
        simp only [Lit.wf, Bool.and_eq_true, decide_eq_true_eq, show IntKind.i64.min = -9223372036854775808 from rfl, show IntKind.i64.max = 9223372036854775807 from rfl]
        exact hq.2 n (by simp))⟩
      | [], hq => exact absurd hq.1 (by simp)
      | _ :: _ :: _, hq => exact absurd hq.1 (by simp)
    · cases h
  · cases h

theorem mapInt_inj : ∀ (p q : List Int), p.map (Value.int .i64) = q.map (Value.int .i64) → p = q
  | [], [], _ => rfl
  | [], _ :: _, h => by simp at h
  | _ :: _, [], h => by simp at h
  | a :: p, b :: q, h => by
    simp only [List.map_cons, List.cons.injEq, Value.int.injEq, true_and] at h
    rw [h.1, mapInt_inj p q h.2]
theorem keyV_inj {len : Nat} {p q : List Int} (hp : KeyOk len p) (hq : KeyOk len q) (h : keyV p = keyV q) : p = q := by
  have hl := hp.1.trans hq.1.symm
  match p, q, hl with
  | [], [], _ => rfl
  | [a], [b], _ => simp only [keyV, Value.int.injEq, true_and] at h; rw [h]
  | a :: a' :: r, b :: b' :: r', _ =>
    simp only [keyV, Value.agg.injEq, Array.mk.injEq] at h
    have : (a :: a' :: r).map (Value.int .i64) = (b :: b' :: r').map (Value.int .i64) := by simpa using h
    exact mapInt_inj _ _ this

theorem litInt_all {O : Nat → Prop} {w : World} : ∀ (xs : List PV) (q : List Int) (us : List Value), xs.mapM litInt = some q → us.length = xs.length → (∀ i x, xs[i]? = some x → RepP O w x (us.getD i undef)) → us = q.map (Value.int .i64)
  | [], q, us, h, hl, _ => by
    simp at h; subst h
    exact List.eq_nil_of_length_eq_zero hl
  | x :: xs, q, [], h, hl, _ => by simp at hl
  | x :: xs, q, u :: us, h, hl, hr => by
    rw [List.mapM_cons] at h
    obtain ⟨n, hn, h⟩ := Option.bind_eq_some_iff.1 h
    obtain ⟨ns, hns, h⟩ := Option.bind_eq_some_iff.1 h
    simp only [Option.pure_def, Option.some.injEq] at h; subst h
    have ih := litInt_all xs ns us hns (by simpa using hl) (fun i y hy => by simpa using hr (i + 1) y (by simpa using hy))
    have h0 := hr 0 x rfl
    simp only [List.getD_cons_zero] at h0
    unfold litInt at hn
    split at hn
    · simp only [Option.some.injEq] at hn; subst hn
      cases h0
      rw [ih]; rfl
    · cases hn

theorem keyQ_rep {O : Nat → Prop} {ρ : Nat → Option Value} {w : World} {v : AV} {q : List Int} (h : keyQ v = some q) {u : Value} (hu : RepA O ρ w v u) : u = keyV q := by
  unfold keyQ at h
  split at h
  · simp only [Option.some.injEq] at h; subst h; exact hu.lit
  · rename_i x y r
    have hu' := hu.unP
    cases hu' with
    | agg _ us h1 h2 h3 =>
      have := litInt_all _ _ us.toList h (by simpa using h1) (fun i z hz => by
        have := h2 i z hz
        rw [List.getD_eq_getElem?_getD]; rw [Array.getD_eq_getD_getElem?] at this; simpa using this)
      have hlen : q.length = us.size := by have := congrArg List.length this; simpa using this.symm
      simp only [List.length_cons] at h1
      match q, hlen with
      | [], hlen => simp at hlen; omega
      | [_], hlen => simp at hlen; omega
      | a :: b :: c, _ => simp only [keyV]; rw [← this]
  · cases h

theorem zero_run {e : Nat} {z : PV} (hz : tZero P e = some z) (O : Nat → Prop) (w : World) : ∃ v, (zeroValue e).run P w = .ok v w ∧ RepP O w z v := by
  unfold tZero at hz
  split at hz
  · rename_i v hv
    obtain ⟨i, hi, hiz⟩ := Option.bind_eq_some_iff.1 hv
    split at hz
    · rename_i x hx
      simp only [Option.some.injEq] at hz; subst hz
      have := repA_const O (fun _ => none) w v
      rw [hx] at this
      exact ⟨v, by simp [zeroValue, typeInfo, hi, hiz], this.unP⟩
    · cases hz
  · cases hz

theorem map_shape {O : Nat → Prop} {ρ : Nat → Option Value} {w : World} {id len : Nat} {m : List Int → Option PV} {u v : Value} (hu : RepA O ρ w (.mp id) u) (hv : ρ id = some v) (hr : BlkRep O ρ w v (.map len m)) :
    ∃ b es clock, u = .map (some b) ∧ v = .map (some b) ∧ w.heap[b]? = some (.map es clock) ∧ MapRep O w len m es.toList := by
  cases hu with
  | mp _ _ hi =>
    rw [hv] at hi; injection hi with hi; subst hi
    obtain ⟨b, es, clock, e, h1, h2⟩ := hr
    injection e with e; subst e
    exact ⟨b, es, clock, rfl, rfl, h1, h2⟩

theorem map_find {k len : Nat} (hK : Maps.Keyed P k) (hfit : ∀ q, KeyOk len q → ∃ l, keyOf P k (keyV q) = some l) {O : Nat → Prop} {w : World} {m : List Int → Option PV} {es : List MapEntry} (h : MapRep O w len m es) {q : List Int} (hq : KeyOk len q) :
    ((Instr.findKey k (keyV q) es).run P w = .ok none w ∧ m q = none ∧ ∀ e ∈ es, e.key ≠ keyV q) ∨ ∃ j e x, (Instr.findKey k (keyV q) es).run P w = .ok (some (j, e.val)) w ∧ es[j]? = some e ∧ e.key = keyV q ∧ m q = some x ∧ RepP O w x e.val := by
  obtain ⟨l, hl⟩ := hfit q hq
  rcases hK.find w hl es (fun e he => by
    obtain ⟨p, x, g1, g2, _⟩ := h.1 e he
    rw [g2]; exact hfit p g1) with ⟨h1, h2⟩ | ⟨j, e, h1, h2, h3⟩
  · refine .inl ⟨h1, ?_, h2⟩
    cases hm : m q with
    | none => rfl
    | some x =>
      obtain ⟨_, e, he, hk⟩ := h.2.2 q x hm
      exact absurd hk (h2 e he)
  · obtain ⟨p, x, g1, g2, g3, g4⟩ := h.1 e (List.mem_of_getElem? h2)
    have : p = q := keyV_inj g1 hq (g2.symm.trans h3)
    subst this
    exact .inr ⟨j, e, x, h1, h2, h3, g3, g4⟩

theorem snd_makeMap {o : Oper} {T len e : Nat} (ho : o.op = .makeMap T none) (_ : tMap P T = some (len, e)) (hK : K ⟨.mp f, [(f, some (.map len fun _ => none))]⟩) : ∃ u, K u ∧ StepA P o f V u := by
  refine ⟨_, hK, ?_⟩
  intro C U s a w hd hf hV hH ⟨ρ, hs⟩ Q
  have hex : (execOp a.eval o).run P w = .ok (.value (.map (some w.heap.size))) (w.alloc (.map #[] 0)) := by
    have := run_makeMap (P := P) T w
    simp only [execOp, ho, Option.map_none, Sem.run_bind, this, Result.andThen_ok, Sem.run_pure]
  have h1 := (hs.newAny hf (.map #[] 0) (.map (some w.heap.size)) (.map len fun _ => none) rfl (fun O ρ w' hw => ⟨_, #[], 0, rfl, hw, fun e he => by simp at he, by simp, fun q x hq => by cases hq⟩)).put hd (x := .mp f) (v := .map (some w.heap.size)) (.mp f _ (by simp))
  exact wp_value hex ⟨fun i => if i = f then some (.map (some w.heap.size)) else ρ i, h1⟩

theorem snd_lookup {o : Oper} {T : TypeId} {x y : Operand} {ok : Bool} (ho : o.op = .lookup T x y ok) {len e id : Nat} (hT : tMap P T = some (len, e)) (hx : V.eval x = some (.mp id)) {m : List Int → Option PV} (hid : V.hp id = some (.map len m)) {v : AV}
    (hy : V.eval y = some v) {q : List Int} (hq : keyQ v = some q) (hok : KeyOk len q) {z : PV} (hz : tZero P e = some z) (hK : K ⟨.p (lookR ok (m q) z), []⟩) : ∃ u, K u ∧ StepA P o f V u :=
  mk_pure hK fun O ρ s a w hE hH => by
    obtain ⟨k, hT', hKd, hfit⟩ := tMap_run hT
    obtain ⟨v', hv', hr⟩ := hH id _ hid
    obtain ⟨b, es, clock, hu, rfl, hb, hm⟩ := map_shape (hE x (by simp [ho, Op.operands]) _ hx) hv' hr
    have hkey := keyQ_rep hq (hE y (by simp [ho, Op.operands]) _ hy)
    obtain ⟨zv, hzr, hzp⟩ := zero_run hz O w
    obtain ⟨l, hl⟩ := hfit q hok
    have hchk := hKd.check w es.isEmpty hl
    rcases map_find hKd hfit hm hok with ⟨h1, h2, _⟩ | ⟨j, en, xv, h1, _, _, h2, h3⟩
    · have hrun : ∀ c : Bool, (Instr.lookup T (.map (some b)) (keyV q) c).run P w = .ok (if c then .tuple #[zv, .bool false] else zv) w := by
        intro c
        simp only [Instr.lookup, Sem.run_bind, run_underlying hT', Result.andThen_ok, MapKept.run_getObj_map hb, Sem.run_pure, hchk, h1, hzr]
      refine ⟨if ok then .tuple #[zv, .bool false] else zv, by simp only [execOp, ho, hu, hkey, Sem.run_bind, hrun, Result.andThen_ok, Sem.run_pure], ?_⟩
      rw [h2]
      cases ok with
      | false => exact .p _ _ hzp
      | true =>
        refine .p _ _ (.tup _ _ rfl (fun i x hx => ?_))
        match i, hx with
        | 0, hx => simp only [List.getElem?_cons_zero, Option.some.injEq] at hx; subst hx; exact hzp
        | 1, hx => simp only [List.getElem?_cons_succ, List.getElem?_cons_zero, Option.some.injEq] at hx; subst hx; exact .lit _
        | i + 2, hx => simp at hx
    · have hrun : ∀ c : Bool, (Instr.lookup T (.map (some b)) (keyV q) c).run P w = .ok (if c then .tuple #[en.val, .bool true] else en.val) w := by
        intro c
        simp only [Instr.lookup, Sem.run_bind, run_underlying hT', Result.andThen_ok, MapKept.run_getObj_map hb, Sem.run_pure, hchk, h1]
      refine ⟨if ok then .tuple #[en.val, .bool true] else en.val, by simp only [execOp, ho, hu, hkey, Sem.run_bind, hrun, Result.andThen_ok, Sem.run_pure], ?_⟩
      rw [h2]
      cases ok with
      | false => exact .p _ _ h3
      | true =>
        refine .p _ _ (.tup _ _ rfl (fun i x hx => ?_))
        match i, hx with
        | 0, hx => simp only [List.getElem?_cons_zero, Option.some.injEq] at hx; subst hx; exact h3
        | 1, hx => simp only [List.getElem?_cons_succ, List.getElem?_cons_zero, Option.some.injEq] at hx; subst hx; exact .lit _
        | i + 2, hx => simp at hx

theorem mapRep_put {O : Nat → Prop} {w : World} {len : Nat} {m : List Int → Option PV} {es es' : List MapEntry} (h : MapRep O w len m es) {q : List Int} (hq : KeyOk len q) {x : PV} {xv : Value} (hx : RepP O w x xv)
    (hcase : ((∃ bn, es' = es ++ [⟨keyV q, xv, bn⟩]) ∧ ∀ e ∈ es, e.key ≠ keyV q) ∨ ∃ (j : Nat) (e : MapEntry), es[j]? = some e ∧ e.key = keyV q ∧ es' = es.set j { e with key := keyV q, val := xv }) : MapRep O w len (setM m q x) es' := by
  rcases hcase with ⟨⟨bn, rfl⟩, hno⟩ | ⟨j, e0, hj, hk, rfl⟩
  · refine ⟨fun e hm => ?_, ?_, fun p y hp => ?_⟩
    · rcases List.mem_append.1 hm with hm | hm
      · obtain ⟨p, y, g1, g2, g3, g4⟩ := h.1 e hm
        have hne : p ≠ q := fun e1 => hno e hm (by rw [g2, e1])
        exact ⟨p, y, g1, g2, by simp [setM, hne, g3], g4⟩
      · simp only [List.mem_singleton] at hm; subst hm
        exact ⟨q, x, hq, rfl, by simp [setM], hx⟩
    · refine List.pairwise_append.2 ⟨h.2.1, by simp, fun a ha b hb => ?_⟩
      simp only [List.mem_singleton] at hb; subst hb
      exact hno a ha
    · unfold setM at hp
      split at hp
      · rename_i e1; subst e1
        exact ⟨hq, ⟨keyV p, xv, bn⟩, by simp, rfl⟩
      · obtain ⟨hpk, e, hm, hk⟩ := h.2.2 p y hp
        exact ⟨hpk, e, by simp [hm], hk⟩
  · have hjl := (List.getElem?_eq_some_iff.1 hj).1
    have hje := (List.getElem?_eq_some_iff.1 hj).2
    have hget : ∀ (i : Nat) (e : MapEntry), (es.set j { e0 with key := keyV q, val := xv })[i]? = some e → (i = j ∧ e = { e0 with key := keyV q, val := xv }) ∨ (i ≠ j ∧ es[i]? = some e) := by
      intro i e hi
      rw [List.getElem?_set] at hi
      by_cases e1 : j = i
      · subst e1
        simp only [hjl, if_true, Option.some.injEq] at hi
        exact .inl ⟨rfl, hi.symm⟩
      · simp only [e1, if_false] at hi; exact .inr ⟨fun h => e1 h.symm, hi⟩
    have hap : ∀ (i : Nat) (e : MapEntry), i ≠ j → es[i]? = some e → e.key ≠ keyV q := by
      intro i e hne hi
      have hil := (List.getElem?_eq_some_iff.1 hi).1
      have hie := (List.getElem?_eq_some_iff.1 hi).2
      have hp := List.pairwise_iff_getElem.1 h.2.1
      rw [← hk, ← hie, ← hje]
      rcases Nat.lt_or_gt_of_ne hne with h1 | h1
      · exact hp i j hil hjl h1
      · exact (hp j i hjl hil h1).symm
    refine ⟨fun e hm => ?_, ?_, fun p y hp => ?_⟩
    · obtain ⟨i, hi⟩ := List.getElem?_of_mem hm
      rcases hget i e hi with ⟨_, rfl⟩ | ⟨hne, hi⟩
      · exact ⟨q, x, hq, rfl, by simp [setM], hx⟩
      · obtain ⟨p, y, g1, g2, g3, g4⟩ := h.1 e (List.mem_of_getElem? hi)
        have hpq : p ≠ q := fun e1 => hap i e hne hi (by rw [g2, e1])
        exact ⟨p, y, g1, g2, by simp [setM, hpq, g3], g4⟩
    · rw [List.pairwise_iff_getElem]
      intro i k hi hk' hlt
      have h1 := hget i _ (List.getElem?_eq_getElem hi)
      have h2 := hget k _ (List.getElem?_eq_getElem hk')
      have hp := List.pairwise_iff_getElem.1 h.2.1
      rcases h1 with ⟨rfl, e1⟩ | ⟨n1, e1⟩
      · rcases h2 with ⟨rfl, _⟩ | ⟨n2, e2⟩
        · omega
        · rw [e1]; exact (hap k _ n2 e2).symm
      · rcases h2 with ⟨rfl, e2⟩ | ⟨n2, e2⟩
        · rw [e2]; exact hap i _ n1 e1
        · have a1 := List.getElem?_eq_some_iff.1 e1
          have a2 := List.getElem?_eq_some_iff.1 e2
          rw [← a1.2, ← a2.2]
          exact hp i k a1.1 a2.1 hlt
    · have hlen : j < (es.set j { e0 with key := keyV q, val := xv }).length := by simp [hjl]
      unfold setM at hp
      split at hp
      · rename_i e1; subst e1
        exact ⟨hq, { e0 with key := keyV p, val := xv }, List.mem_of_getElem? (i := j) (by rw [List.getElem?_set]; simp [hjl]), rfl⟩
      · rename_i hpq
        obtain ⟨hpk, e, hm, hk2⟩ := h.2.2 p y hp
        obtain ⟨i, hi⟩ := List.getElem?_of_mem hm
        have hne : i ≠ j := by
          rintro rfl
          rw [hj] at hi; injection hi with hi; subst hi
          exact hpq (keyV_inj hpk hq (hk2.symm.trans hk))
        exact ⟨hpk, e, List.mem_of_getElem? (i := i) (by rw [List.getElem?_set]; simp [hne.symm, hi]), hk2⟩

theorem snd_mapUpdate {o : Oper} {T : TypeId} {x y z : Operand} (ho : o.op = .mapUpdate T x y z) (hdn : o.dst = none) {len e id : Nat} (hT : tMap P T = some (len, e)) (hx : V.eval x = some (.mp id)) {m : List Int → Option PV} (hid : V.hp id = some (.map len m)) {v : AV}
    (hy : V.eval y = some v) {q : List Int} (hq : keyQ v = some q) (hok : KeyOk len q) {u : PV} (hz : V.eval z = some (.p u)) (hK : K ⟨.p (.lit undef), [(id, some (.map len (setM m q u)))]⟩) : ∃ u, K u ∧ StepA P o f V u := by
  refine ⟨_, hK, ?_⟩
  intro C U s a w hd hf hV hH ⟨ρ, hs⟩ Q
  obtain ⟨k, hT', hKd, hfit⟩ := tMap_run hT
  have hid' := hH id _ hid
  obtain ⟨v', hv', hr⟩ := hs.heap id _ hid'
  obtain ⟨b, es, clock, hu, rfl, hb, hm⟩ := map_shape (hs.eval (hV x (by simp [ho, Op.operands]) _ hx)) hv' hr
  have hkey := keyQ_rep hq (hs.eval (hV y (by simp [ho, Op.operands]) _ hy))
  have hval := (hs.eval (hV z (by simp [ho, Op.operands]) _ hz)).unP
  obtain ⟨l, hl⟩ := hfit q hok
  have hchk := hKd.check w false hl
  have key : ∃ es' clock', (Instr.mapUpdate T (.map (some b)) (keyV q) (a.eval z)).run P w = .ok () (ChangeMaps.setBlock w b (.map es' clock')) ∧ MapRep (Own C s ρ) w len (setM m q u) es'.toList := by
    rcases map_find hKd hfit hm hok with ⟨h1, h2, h3⟩ | ⟨j, en, xv, h1, h2, h3, _, _⟩
    · refine ⟨es.push ⟨keyV q, a.eval z, clock⟩, clock + 1, ?_, mapRep_put hm hok hval (.inl ⟨⟨clock, by simp⟩, h3⟩)⟩
      simp only [Instr.mapUpdate, Sem.run_bind, run_underlying hT', Result.andThen_ok, MapKept.run_getObj_map hb, hchk, h1, MapKept.run_setObj_map _ hb]; rfl
    · have hj : es[j]? = some en := by simpa using h2
      have hjl := (Array.getElem?_eq_some_iff.1 hj).1
      have hje := (Array.getElem?_eq_some_iff.1 hj).2
      have hst := hKd.stays w hl
      refine ⟨es.modify j fun e => { e with key := keyV q, val := a.eval z }, clock, ?_, mapRep_put hm hok hval (.inr ⟨j, en, h2, h3, ?_⟩)⟩
      · simp only [Instr.mapUpdate, Sem.run_bind, run_underlying hT', Result.andThen_ok, MapKept.run_getObj_map hb, hchk, h1, hj, Option.map_some, Option.getD_some, h3, hst, MapKept.run_setObj_map _ hb]; rfl
      · rw [Array.toList_modify]
        apply List.ext_getElem?
        intro i
        rw [List.getElem?_modify, List.getElem?_set]
        by_cases e1 : j = i
        · subst e1; simp [hjl, hje]
        · simp [e1]
  obtain ⟨es', clock', hrun, hmr⟩ := key
  have hex : (execOp a.eval o).run P w = .ok .skip (ChangeMaps.setBlock w b (.map es' clock')) := by
    simp only [execOp, ho, hu, hkey, Sem.run_bind, hrun, Result.andThen_ok, Sem.run_pure]
  have h1 := hs.setMap hid' hv' (es' := es') (clock' := clock') hmr
  unfold Oper.wp
  rw [hex, hdn]
  simp only [Oper.upon, hdn]
  exact ⟨ρ, h1.widen (fun _ => .inl)⟩
end
end Go.Am
