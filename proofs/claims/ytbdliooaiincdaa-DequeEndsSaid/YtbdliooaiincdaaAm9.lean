/-
  The abstract machine, ninth part: each operation does so.
-/
import Derived.Test.YtbdliooaiincdaaAm8
namespace Go.Am
open Go.RowKit

section
variable {P : Program} {H : List Nat} {f : Nat} {V : PS} {K : Upd → Prop}

theorem mk_pure {o : Oper} {x : AV} (hK : K ⟨x, []⟩) (h : ∀ (O : Nat → Prop) (ρ : Nat → Option Value) (_ : PS) (a : Act) (w : World), (∀ y, y ∈ o.op.operands → ∀ v, V.eval y = some v → RepA O ρ w v (a.eval y)) →
      (∀ id k, V.hp id = some k → ∃ v, ρ id = some v ∧ BlkRep O ρ w v k) → ∃ v, (execOp a.eval o).run P w = .ok (.value v) w ∧ RepA O ρ w x v) : ∃ u, K u ∧ StepA P o f V u :=
  ⟨_, hK, stepA_pure fun O ρ s a w hV hE hH => h O ρ s a w (fun y hy v hv => hE y v (hV y hy v hv)) hH⟩

theorem evalInt_rep {O : Nat → Prop} {ρ : Nat → Option Value} {w : World} {a : Act} {xs : Array Operand} (hE : ∀ y, y ∈ xs → ∀ v, V.eval y = some v → RepA O ρ w v (a.eval y)) {x : Operand} (hx : x ∈ xs) {n : Int}
    (h : evalInt V x = some n) : ∃ k, a.eval x = .int k n := by
  obtain ⟨k, hk⟩ := evalInt_some h
  exact ⟨k, (hE x hx _ hk).lit⟩

theorem offs_rep {O : Nat → Prop} {ρ : Nat → Option Value} {w : World} {v r : AV} {d : Nat} (h : offs v d = some r) {u : Value} (hu : RepA O ρ w v u) :
    ∃ b o, u = .pointer (some ⟨b, o, none⟩) ∧ RepA O ρ w r (.pointer (some ⟨b, o + d, none⟩)) := by
  unfold offs at h
  split at h
  · simp only [Option.some.injEq] at h; subst h
    cases hu with
    | ptr id sz k off b v hi hv => exact ⟨b, _, rfl, by rw [Nat.add_assoc]; exact .ptr _ _ _ _ b v hi hv⟩
  · simp only [Option.some.injEq] at h; subst h
    cases hu with
    | pp cs off b o f h4 h5 => exact ⟨b, _, rfl, by rw [Nat.add_assoc]; exact .pp _ _ b o f h4 h5⟩
  · cases h

theorem repA_cells {O : Nat → Prop} {ρ : Nat → Option Value} {w : World} {v : AV} {cs : List AV} (h : aop.aggCells v = some cs) {u : Value} (hu : RepA O ρ w v u) :
    ∃ vs, u = .agg vs ∧ RepCells O ρ w cs vs := by
  unfold aop.aggCells at h
  split at h
  · simp only [Option.some.injEq] at h; subst h
    have := AV.cells_rep (x := .p (.agg _)) rfl hu
    cases hu with
    | p _ _ hx => cases hx with | agg _ vs h1 h2 h3 => exact ⟨vs, rfl, this⟩
  · simp only [Option.some.injEq] at h; subst h
    have := AV.cells_rep (x := .agg _) rfl hu
    cases hu with
    | agg _ vs h1 h2 h3 => exact ⟨vs, rfl, this⟩
  · cases h

theorem part_rep {O : Nat → Prop} {ρ : Nat → Option Value} {w : World} {t : TypeId} {g : Bool} {sz off : Nat} {cs : List AV} {vs : Array Value} {r : AV} (hc : RepCells O ρ w cs vs)
    (hu : ∃ i d, P.info? t = some i ∧ P.underlying t = some d ∧ i.size = sz ∧ aggDesc (some d) = g)
    (h : if g = true then off + sz ≤ cs.length ∧ r = aggOf ((cs.drop off).take sz) else cs[off]? = some r) : ∃ x, (part t vs off).run P w = .ok x w ∧ RepA O ρ w r x := by
  obtain ⟨i, d, hi, hd, rfl, rfl⟩ := hu
  have ht : tSz P t = some (aggDesc (some d), i.size) := by simp [tSz, hi, hd]
  simp only [part, Sem.run_bind, run_isAgg ht, Result.andThen_ok]
  cases hg : aggDesc (some d) with
  | true =>
    rw [hg] at h ht
    simp only [if_true] at h ⊢
    obtain ⟨hle, rfl⟩ := h
    simp only [Sem.run_bind, run_sizeOf ht, Result.andThen_ok, Sem.run_pure]
    refine ⟨_, rfl, repA_aggOf ?_ (fun j x hx => ?_) (fun j hj => ?_)⟩
    · have := hc.1; simp; omega
    · rw [List.getElem?_take] at hx
      split at hx
      · rename_i hj
        rw [List.getElem?_drop] at hx
        have := hc.2.1 _ _ hx
        have hlt := (List.getElem?_eq_some_iff.1 hx).1
        have e : (vs.extract off (off + i.size)).getD j undef = vs.getD (off + j) undef := by
          rw [Array.getD_eq_getD_getElem?, Array.getD_eq_getD_getElem?, Array.getElem?_extract, if_pos (by have := hc.1; omega)]
        rw [e]; exact this
      · cases hx
    · have hj' : j < i.size := by simp at hj; omega
      have e : (vs.extract off (off + i.size)).getD j undef = vs.getD (off + j) undef := by
        rw [Array.getD_eq_getD_getElem?, Array.getD_eq_getD_getElem?, Array.getElem?_extract, if_pos (by have := hc.1; omega)]
      rw [e]; exact hc.2.2 _ (by omega)
  | false =>
    rw [hg] at h
    simp only [Bool.false_eq_true, if_false] at h ⊢
    have hlt := (List.getElem?_eq_some_iff.1 h).1
    have hs := hc.1
    have := hc.2.1 _ _ h
    have e : vs[off]? = some (vs.getD off undef) := by rw [Array.getD_eq_getD_getElem?]; simp [show off < vs.size by omega]
    rw [e]
    exact ⟨_, rfl, this⟩

theorem fld_run {t fd off sz : Nat} {g : Bool} (h : tFld P t fd = some (off, sz, g)) : ∃ fs fdd i d, P.underlying t = some (.struct fs) ∧ fs[fd]? = some fdd ∧ fdd.offset = off ∧ P.info? fdd.type = some i ∧ P.underlying fdd.type = some d ∧
    i.size = sz ∧ aggDesc (some d) = g ∧ i.size ≠ 0 := by
  unfold tFld at h
  split at h
  · rename_i fs hu
    split at h
    · rename_i fdd hf
      split at h
      · rename_i i d hi hd
        split at h
        · cases h
        · rename_i h0
          simp only [Option.some.injEq, Prod.mk.injEq] at h
          exact ⟨fs, fdd, i, d, hu, hf, h.1, hi, hd, h.2.1, h.2.2, h0⟩
      · cases h
    · cases h
  · cases h

theorem el_run {t e : Nat} (h : tEl P t = some e) : P.underlying t = some (.slice e) := by
  unfold tEl at h
  split at h
  · rename_i e' hu; simp only [Option.some.injEq] at h; subst h; exact hu
  · cases h
theorem arr_run {t n sz : Nat} {g : Bool} (h : tArr P t = some (n, sz, g)) : ∃ e i d, P.underlying t = some (.array n e) ∧ P.info? e = some i ∧ P.underlying e = some d ∧ i.size = sz ∧ aggDesc (some d) = g := by
  unfold tArr at h
  split at h
  · rename_i n' e hu
    split at h
    · rename_i i d hi hd
      simp only [Option.some.injEq, Prod.mk.injEq] at h
      obtain ⟨rfl, rfl, rfl⟩ := h
      exact ⟨e, i, d, hu, hi, hd, rfl, rfl⟩
    · cases h
  · cases h
theorem int_run {t : Nat} {k : IntKind} (h : tInt P t = some k) : P.underlying t = some (.int k) := by
  unfold tInt at h
  split at h
  · rename_i e' hu; simp only [Option.some.injEq] at h; subst h; exact hu
  · cases h

/-! ### one by one -/
theorem snd_move {o : Oper} {x : Operand} (ho : o.op = .move x ∨ o.op = .assign x) {v : AV} (hv : V.eval x = some v) (hK : K ⟨v, []⟩) : ∃ u, K u ∧ StepA P o f V u :=
  mk_pure hK fun O ρ s a w hE _ => by
    rcases ho with ho | ho <;> exact ⟨a.eval x, by simp [execOp, ho], hE x (by simp [ho, Op.operands]) v hv⟩

theorem snd_pick {o : Oper} {c x y : Operand} (ho : o.op = .pick c x y) {t : Bool} {v : AV} (hc : V.eval c = some (.p (.lit (.bool t)))) (hv : V.eval (if t = true then x else y) = some v) (hK : K ⟨v, []⟩) :
    ∃ u, K u ∧ StepA P o f V u :=
  mk_pure hK fun O ρ s a w hE _ => by
    have h1 := (hE c (by simp [ho, Op.operands]) _ hc).lit
    refine ⟨a.eval (if t = true then x else y), ?_, hE _ (by cases t <;> simp [ho, Op.operands]) v hv⟩
    cases t <;> simp [execOp, ho, h1, asBool]

theorem snd_extract {o : Oper} {x : Operand} {i : Nat} (ho : o.op = .extract x i) {v r : AV} {vs : List AV} (hv : V.eval x = some v) (ht : aop.tupCells v = some vs) (hr : vs[i]? = some r) (hK : K ⟨r, []⟩) :
    ∃ u, K u ∧ StepA P o f V u :=
  mk_pure hK fun O ρ s a w hE _ => by
    have hu := hE x (by simp [ho, Op.operands]) v hv
    have key : ∃ us, a.eval x = .tuple us ∧ us.size = vs.length ∧ ∀ i y, vs[i]? = some y → RepA O ρ w y (us.getD i undef) := by
      unfold aop.tupCells at ht
      split at ht
      · simp only [Option.some.injEq] at ht; subst ht
        generalize a.eval x = z at hu
        cases hu with
        | p _ _ hx => cases hx with
          | tup cs us h1 h2 =>
            refine ⟨us, rfl, by simpa using h1, fun i y hy => ?_⟩
            rw [List.getElem?_map] at hy
            obtain ⟨q, hq, rfl⟩ := Option.map_eq_some_iff.1 hy
            exact .p _ _ (h2 i q hq)
      · simp only [Option.some.injEq] at ht; subst ht
        generalize a.eval x = z at hu
        cases hu with | tup cs us h1 h2 => exact ⟨us, rfl, h1, h2⟩
      · cases ht
    obtain ⟨us, he, hs, hall⟩ := key
    have hlt := (List.getElem?_eq_some_iff.1 hr).1
    obtain ⟨q, hq⟩ : ∃ q, us[i]? = some q := ⟨us[i], by simp [show i < us.size by omega]⟩
    have hq2 := hall i r hr
    rw [Array.getD_eq_getD_getElem?, hq] at hq2
    exact ⟨q, by simp [execOp, ho, Instr.extract, he, hq], hq2⟩

theorem snd_nilCheck {o : Oper} {x : Operand} (ho : o.op = .nilCheck x) {v : AV} (hv : V.eval x = some v) (hp : isPtr v = true) (hK : K ⟨v, []⟩) : ∃ u, K u ∧ StepA P o f V u :=
  mk_pure hK fun O ρ s a w hE _ => by
    have hu := hE x (by simp [ho, Op.operands]) v hv
    refine ⟨a.eval x, ?_, hu⟩
    have key : (∃ ad, a.eval x = .pointer (some ad)) ∨ ∃ g c, a.eval x = .func (.func g) #[] c := by
      generalize a.eval x = z at hu
      cases hu with
      | ptr _ _ _ _ b v hi hv => exact .inl ⟨_, rfl⟩
      | pp _ _ b o f h4 h5 => exact .inl ⟨_, rfl⟩
      | fn g cs vs h1 h2 => exact .inr ⟨_, _, rfl⟩
      | p => cases hp
      | own => cases hp
      | sub => cases hp
      | sub0 => cases hp
      | agg => cases hp
      | tup => cases hp
      | mp => cases hp
    rcases key with ⟨ad, h⟩ | ⟨g, c, h⟩ <;> simp [execOp, ho, h]

theorem binT_run {op : BinOp} {T : TypeId} {u v r : Value} (h : binT P op T u v r) (x y : Operand) (w : World) :
    (do eqGuard op T x y u v; binOp op T u v : Sem Value).run P w = .ok r w := by
  unfold binT at h
  split at h
  · obtain ⟨h, rfl⟩ := h
    rename_i a b
    have := run_equalIn_bool' w 9999 T a b h
    simp only [eqGuard_at_bool, pure_bind, binOp, Op.equal, Op.maxDepth, Sem.run_bind, this, Result.andThen_ok, Sem.run_pure]
  · obtain ⟨h, rfl⟩ := h
    rename_i a b
    have := run_equalIn_bool' w 9999 T a b h
    simp only [eqGuard_at_bool, pure_bind, binOp, Op.equal, Op.maxDepth, Sem.run_bind, this, Result.andThen_ok, Sem.run_pure]
    rfl
  · exact h.elim
theorem snd_binOp {o : Oper} {op : BinOp} {T T' : TypeId} {x y : Operand} (ho : o.op = .binOp op T x y T') {u v r : Value} (hx : V.eval x = some (.p (.lit u))) (hy : V.eval y = some (.p (.lit v))) (hr : binR op u v r ∨ binT P op T u v r)
    (hK : K ⟨.p (.lit r), []⟩) : ∃ u, K u ∧ StepA P o f V u :=
  mk_pure hK fun O ρ s a w hE _ => by
    have h1 := (hE x (by simp [ho, Op.operands]) _ hx).lit
    have h2 := (hE y (by simp [ho, Op.operands]) _ hy).lit
    refine ⟨r, ?_, .p _ _ (.lit r)⟩
    have : (do eqGuard op T x y u v; binOp op T u v : Sem Value).run P w = .ok r w := hr.elim (fun hr => binR_run (P := P) hr T x y w) (fun hr => binT_run hr x y w)
    simp only [execOp, ho, h1, h2, Sem.run_bind, this, Result.andThen_ok, Sem.run_pure]

theorem snd_convert {o : Oper} {src d : TypeId} {x : Operand} (ho : o.op = .convert src d x) {k k' : IntKind} {n : Int} (hx : V.eval x = some (.p (.lit (.int k n)))) (hs : (P.underlying src).isSome = true) (hd : tInt P d = some k')
    (hK : K ⟨.p (.lit (.int k' (k'.wrap n))), []⟩) : ∃ u, K u ∧ StepA P o f V u :=
  mk_pure hK fun O ρ s a w hE _ => by
    have h1 := (hE x (by simp [ho, Op.operands]) _ hx).lit
    refine ⟨_, ?_, .p _ _ (.lit _)⟩
    obtain ⟨dd, hdd⟩ := Option.isSome_iff_exists.1 hs
    simp [execOp, ho, h1, convert, run_underlying hdd, run_underlying (int_run hd), Conv.intToInt]

theorem snd_load {o : Oper} {T : TypeId} {x : Operand} (ho : o.op = .load T x) {v r : AV} {g : Bool} {n : Nat} (hv : V.eval x = some v) (ht : tSz P T = some (g, n)) (hl : loadR V v g n r) (hK : K ⟨r, []⟩) : ∃ u, K u ∧ StepA P o f V u :=
  mk_pure hK fun O ρ s a w hE hH => by
    obtain ⟨z, hz, hr⟩ := load_rep ht hl hH (hE x (by simp [ho, Op.operands]) v hv)
    exact ⟨z, by simp [execOp, ho, hz], hr⟩

theorem snd_fieldAddr {o : Oper} {T : TypeId} {x : Operand} {fd off sz : Nat} {g : Bool} (ho : o.op = .fieldAddr T x fd) (ht : tFld P T fd = some (off, sz, g)) {v r : AV} (hv : V.eval x = some v) (hr : offs v off = some r) (hK : K ⟨r, []⟩) :
    ∃ u, K u ∧ StepA P o f V u :=
  mk_pure hK fun O ρ s a w hE hH => by
    obtain ⟨b, p, he, hrep⟩ := offs_rep hr (hE x (by simp [ho, Op.operands]) v hv)
    obtain ⟨fs, fdd, i, d, h1, h2, rfl, h4, h5, h6, h7, h8⟩ := fld_run ht
    refine ⟨_, ?_, hrep⟩
    have hsz : ¬ i.size = 0 := h8
    simp [execOp, ho, he, Instr.fieldAt, run_underlying h1, h2, Instr.sureAddr, fieldPlace, sizeOf, typeInfo, h4, hsz, Addr.add_lit]

theorem snd_field {o : Oper} {T : TypeId} {x : Operand} {fd off sz : Nat} {g : Bool} (ho : o.op = .field T x fd) (ht : tFld P T fd = some (off, sz, g)) {v r : AV} {cs : List AV} (hv : V.eval x = some v) (hc : aop.aggCells v = some cs)
    (hr : if g = true then off + sz ≤ cs.length ∧ r = aggOf ((cs.drop off).take sz) else cs[off]? = some r) (hK : K ⟨r, []⟩) : ∃ u, K u ∧ StepA P o f V u :=
  mk_pure hK fun O ρ s a w hE hH => by
    obtain ⟨vs, he, hrep⟩ := repA_cells hc (hE x (by simp [ho, Op.operands]) v hv)
    obtain ⟨fs, fdd, i, d, h1, h2, rfl, h4, h5, h6, h7, h8⟩ := fld_run ht
    obtain ⟨z, hz, hzr⟩ := part_rep (P := P) (t := fdd.type) hrep ⟨i, d, h4, h5, h6, h7⟩ hr
    exact ⟨z, by simp [execOp, ho, he, Instr.field, run_underlying h1, h2, asAgg, hz], hzr⟩

theorem snd_index {o : Oper} {T : TypeId} {x i : Operand} (ho : o.op = .index T x i) {n : Int} (hi : evalInt V i = some n) (h0 : 0 ≤ n) {len sz : Nat} {g : Bool} (ht : tArr P T = some (len, sz, g)) (hn : n < len) {v r : AV} {cs : List AV}
    (hv : V.eval x = some v) (hc : aop.aggCells v = some cs) (hr : if g = true then n.toNat * sz + sz ≤ cs.length ∧ r = aggOf ((cs.drop (n.toNat * sz)).take sz) else cs[n.toNat * sz]? = some r) (hK : K ⟨r, []⟩) :
    ∃ u, K u ∧ StepA P o f V u :=
  mk_pure hK fun O ρ s a w hE hH => by
    obtain ⟨vs, he, hrep⟩ := repA_cells hc (hE x (by simp [ho, Op.operands]) v hv)
    obtain ⟨k, hk⟩ := evalInt_rep hE (by simp [ho, Op.operands]) hi
    obtain ⟨e, ie, d, h1, h4, h5, h6, h7⟩ := arr_run ht
    obtain ⟨z, hz, hzr⟩ := part_rep (P := P) (t := e) hrep ⟨ie, d, h4, h5, h6, h7⟩ hr
    refine ⟨z, ?_, hzr⟩
    simp [execOp, ho, he, hk, Instr.index, run_underlying h1, asIntOf, h0, hn, sizeOf, typeInfo, h4, h6, hz]

theorem snd_indexAddr_sl {o : Oper} {T e : TypeId} {x i : Operand} (ho : o.op = .indexAddr T x i) {n : Int} (hi : evalInt V i = some n) (h0 : 0 ≤ n) {sz : Nat} {g : Bool} (ht : tEl P T = some e) (hs : tSz P e = some (g, sz)) {v r : AV}
    (hv : V.eval x = some v) (hr : idxR V sz n.toNat v r) (hK : K ⟨r, []⟩) : ∃ u, K u ∧ StepA P o f V u :=
  mk_pure hK fun O ρ s a w hE hH => by
    obtain ⟨k, hk⟩ := evalInt_rep hE (by simp [ho, Op.operands]) hi
    have hu := hE x (by simp [ho, Op.operands]) v hv
    have key : ∃ b p len cap, a.eval x = .slice (some ⟨b, p, none⟩) len cap ∧ n.toNat < len ∧ RepA O ρ w r (.pointer (some ⟨b, p + n.toNat * sz, none⟩)) := by
      unfold idxR at hr
      split at hr
      · rename_i c es
        obtain ⟨cs, hcs, hl, rfl⟩ := hr
        generalize a.eval x = z at hu
        cases hu with
        | p _ _ hx => cases hx with
          | nilseq => simp at hcs
          | seq _ _ sz' b off cap q h1 h2 h3 h4 h5 =>
            have hlt := (List.getElem?_eq_some_iff.1 hcs).1
            have hsz : sz' = sz := by rw [← h1 cs (List.mem_of_getElem? hcs), hl]
            subst hsz
            have hget : ∀ j x, cs[j]? = some x → es.flatten[n.toNat * sz' + j]? = some x := fun j x hx => by
              rw [flat_get sz' es n.toNat j cs h1 hcs (by rw [← hl]; exact (List.getElem?_eq_some_iff.1 hx).1)]; exact hx
            refine ⟨b, off, _, _, rfl, hlt, ?_⟩
            have := RepA.pp (O := O) (ρ := ρ) (w := w) cs 0 b (off + n.toNat * sz') (fun j => q (n.toNat * sz' + j)) (fun j hj => ?_) (fun j x hx => h5 _ _ (hget j x hx))
            · exact this
            · have := h4 _ (List.getElem?_eq_some_iff.1 (hget j cs[j] (by simp [hj]))).1
              rw [← Nat.add_assoc] at this
              exact this
      · rename_i id
        obtain ⟨es, hid, hlt, rfl⟩ := hr
        obtain ⟨u, hu2, hb⟩ := hH id _ hid
        generalize a.eval x = z at hu
        cases hu with
        | own _ ad len cap hi2 =>
          rw [hu2] at hi2; injection hi2 with hi2; subst hi2
          rcases hb with ⟨rfl, _⟩ | ⟨b, cap', cur, e', g1, g0, g2, g3⟩
          · simp at hlt
          · rcases g1 with g1 | ⟨g1, _⟩
            · injection g1 with q1 q2 q3; subst q1 q2 q3
              refine ⟨b, 0, _, _, rfl, hlt, ?_⟩
              have := RepA.ptr (O := O) (ρ := ρ) (w := w) id sz n.toNat 0 b _ hu2 (by simp [oblk]; omega)
              simpa using this
            · cases g1
      · exact hr.elim
    obtain ⟨b, p, len, cap, he, hlt, hrep⟩ := key
    refine ⟨_, ?_, hrep⟩
    have h1 : n < len := by omega
    simp [execOp, ho, he, hk, Instr.indexAt, run_underlying (el_run ht), asIntOf, h0, h1, run_sizeOf hs, Addr.add_lit]

theorem snd_indexAddr_arr {o : Oper} {T : TypeId} {x i : Operand} (ho : o.op = .indexAddr T x i) {n : Int} (hi : evalInt V i = some n) (h0 : 0 ≤ n) {len sz : Nat} {g : Bool} (ht : tArr P T = some (len, sz, g)) (hn : n < len) {v r : AV}
    (hv : V.eval x = some v) (hr : offs v (n.toNat * sz) = some r) (hK : K ⟨r, []⟩) : ∃ u, K u ∧ StepA P o f V u :=
  mk_pure hK fun O ρ s a w hE hH => by
    obtain ⟨k, hk⟩ := evalInt_rep hE (by simp [ho, Op.operands]) hi
    obtain ⟨b, p, he, hrep⟩ := offs_rep hr (hE x (by simp [ho, Op.operands]) v hv)
    obtain ⟨e, ie, d, h1, h4, h5, h6, h7⟩ := arr_run ht
    refine ⟨_, ?_, hrep⟩
    simp [execOp, ho, he, hk, Instr.indexAt, run_underlying h1, asIntOf, h0, hn, sizeOf, typeInfo, h4, h6, Addr.add_lit, Instr.sureAddr]

end
end Go.Am
