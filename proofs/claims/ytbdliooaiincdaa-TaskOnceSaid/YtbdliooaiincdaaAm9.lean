/-
  The abstract machine, ninth part: each operation does so.
-/
import Derived.Test.YtbdliooaiincdaaAm8
namespace Go.Am
open Go.RowKit

section
variable {P : Program} {H : List Nat} {f : Nat} {V : PS} {K : Upd → Prop}

theorem mk_pure {o : Oper} {x : AV} (hK : K ⟨x, []⟩) (h : ∀ (O : Nat → Prop) (ρ : Nat → Option Value) (_ : PS) (a : Act) (w : World), (∀ y, y ∈ o.op.operands → ∀ v, V.eval y = some v → RepA O ρ w v (a.eval y)) →
      (∀ id k, V.hp id = some k → ∃ v, ρ id = some v ∧ BlkRep O ρ w v k) → ∃ v, (execOp a.eval o).run P w = .ok (.value v) w ∧ RepA O ρ w x v) : ∃ u, K u ∧ StepA P o f V u :=
  ⟨_, hK, stepA_pure fun O ρ s a w hV hE hH => h O ρ s a w (fun y hy v hv => hE y v (hV y hy v hv)) hH⟩

theorem evalInt_rep {O : Nat → Prop} {ρ : Nat → Option Value} {w : World} {a : Act} {xs : Array Operand} (hE : ∀ y, y ∈ xs → ∀ v, V.eval y = some v → RepA O ρ w v (a.eval y)) {x : Operand} (hx : x ∈ xs) {n : Int}
    (h : evalInt V x = some n) : ∃ k, a.eval x = .int k n := by
  obtain ⟨k, hk⟩ := evalInt_some h
  exact ⟨k, (hE x hx _ hk).lit⟩

theorem offs_rep {O : Nat → Prop} {ρ : Nat → Option Value} {w : World} {v r : AV} {d : Nat} (h : offs v d = some r) {u : Value} (hu : RepA O ρ w v u) :
    ∃ b o, u = .pointer (some ⟨b, o, none⟩) ∧ RepA O ρ w r (.pointer (some ⟨b, o + d, none⟩)) := by
  unfold offs at h
  split at h
  · simp only [Option.some.injEq] at h; subst h
    cases hu with
    | ptr id sz k off b v hi hv => exact ⟨b, _, rfl, by rw [Nat.add_assoc]; exact .ptr _ _ _ _ b v hi hv⟩
  · simp only [Option.some.injEq] at h; subst h
    cases hu with
    | pp cs off b o f h4 h5 => exact ⟨b, _, rfl, by rw [Nat.add_assoc]; exact .pp _ _ b o f h4 h5⟩
  · cases h

theorem repA_cells {O : Nat → Prop} {ρ : Nat → Option Value} {w : World} {v : AV} {cs : List AV} (h : aop.aggCells v = some cs) {u : Value} (hu : RepA O ρ w v u) :
    ∃ vs, u = .agg vs ∧ RepCells O ρ w cs vs := by
  unfold aop.aggCells at h
  split at h
  · simp only [Option.some.injEq] at h; subst h
    have := AV.cells_rep (x := .p (.agg _)) rfl hu
    cases hu with
    | p _ _ hx => cases hx with | agg _ vs h1 h2 h3 => exact ⟨vs, rfl, this⟩
  · simp only [Option.some.injEq] at h; subst h
    have := AV.cells_rep (x := .agg _) rfl hu
    cases hu with
    | agg _ vs h1 h2 h3 => exact ⟨vs, rfl, this⟩
  · cases h

theorem part_rep {O : Nat → Prop} {ρ : Nat → Option Value} {w : World} {t : TypeId} {g : Bool} {sz off : Nat} {cs : List AV} {vs : Array Value} {r : AV} (hc : RepCells O ρ w cs vs)
    (hu : ∃ i d, P.info? t = some i ∧ P.underlying t = some d ∧ i.size = sz ∧ aggDesc (some d) = g)
    (h : if g = true then off + sz ≤ cs.length ∧ r = aggOf ((cs.drop off).take sz) else cs[off]? = some r) : ∃ x, (part t vs off).run P w = .ok x w ∧ RepA O ρ w r x := by
  obtain ⟨i, d, hi, hd, rfl, rfl⟩ := hu
  have ht : tSz P t = some (aggDesc (some d), i.size) := by simp [tSz, hi, hd]
  simp only [part, Sem.run_bind, run_isAgg ht, Result.andThen_ok]
  cases hg : aggDesc (some d) with
  | true =>
    rw [hg] at h ht
    simp only [if_true] at h ⊢
    obtain ⟨hle, rfl⟩ := h
    simp only [Sem.run_bind, run_sizeOf ht, Result.andThen_ok, Sem.run_pure]
    refine ⟨_, rfl, repA_aggOf ?_ (fun j x hx => ?_) (fun j hj => ?_)⟩
    · have := hc.1; simp; omega
    · rw [List.getElem?_take] at hx
      split at hx
      · rename_i hj
        rw [List.getElem?_drop] at hx
        have := hc.2.1 _ _ hx
        have hlt := (List.getElem?_eq_some_iff.1 hx).1
        have e : (vs.extract off (off + i.size)).getD j undef = vs.getD (off + j) undef := by
          rw [Array.getD_eq_getD_getElem?, Array.getD_eq_getD_getElem?, Array.getElem?_extract, if_pos (by have := hc.1; omega)]
        rw [e]; exact this
      · cases hx
    · have hj' : j < i.size := by simp at hj; omega
      have e : (vs.extract off (off + i.size)).getD j undef = vs.getD (off + j) undef := by
        rw [Array.getD_eq_getD_getElem?, Array.getD_eq_getD_getElem?, Array.getElem?_extract, if_pos (by have := hc.1; omega)]
      rw [e]; exact hc.2.2 _ (by omega)
  | false =>
    rw [hg] at h
    simp only [Bool.false_eq_true, if_false] at h ⊢
    have hlt := (List.getElem?_eq_some_iff.1 h).1
    have hs := hc.1
    have := hc.2.1 _ _ h
    have e : vs[off]? = some (vs.getD off undef) := by rw [Array.getD_eq_getD_getElem?]; simp [show off < vs.size by omega]
    rw [e]
    exact ⟨_, rfl, this⟩

theorem fld_run {t fd off sz : Nat} {g : Bool} (h : tFld P t fd = some (off, sz, g)) : ∃ fs fdd i d, P.underlying t = some (.struct fs) ∧ fs[fd]? = some fdd ∧ fdd.offset = off ∧ P.info? fdd.type = some i ∧ P.underlying fdd.type = some d ∧
    i.size = sz ∧ aggDesc (some d) = g ∧ i.size ≠ 0 := by
  unfold tFld at h
  split at h
  · rename_i fs hu
    split at h
    · rename_i fdd hf
      split at h
      · rename_i i d hi hd
        split at h
        · cases h
        · rename_i h0
          simp only [Option.some.injEq, Prod.mk.injEq] at h
          exact ⟨fs, fdd, i, d, hu, hf, h.1, hi, hd, h.2.1, h.2.2, h0⟩
      · cases h
    · cases h
  · cases h

theorem el_run {t e : Nat} (h : tEl P t = some e) : P.underlying t = some (.slice e) := by
  unfold tEl at h
  split at h
  · rename_i e' hu; simp only [Option.some.injEq] at h; subst h; exact hu
  · cases h
theorem arr_run {t n sz : Nat} {g : Bool} (h : tArr P t = some (n, sz, g)) : ∃ e i d, P.underlying t = some (.array n e) ∧ P.info? e = some i ∧ P.underlying e = some d ∧ i.size = sz ∧ aggDesc (some d) = g := by
  unfold tArr at h
  split at h
  · rename_i n' e hu
    split at h
    · rename_i i d hi hd
      simp only [Option.some.injEq, Prod.mk.injEq] at h
      obtain ⟨rfl, rfl, rfl⟩ := h
      exact ⟨e, i, d, hu, hi, hd, rfl, rfl⟩
    · cases h
  · cases h
theorem int_run {t : Nat} {k : IntKind} (h : tInt P t = some k) : P.underlying t = some (.int k) := by
  unfold tInt at h
  split at h
  · rename_i e' hu; simp only [Option.some.injEq] at h; subst h; exact hu
  · cases h

/-! ### one by one -/
theorem snd_move {o : Oper} {x : Operand} (ho : o.op = .move x ∨ o.op = .assign x) {v : AV} (hv : V.eval x = some v) (hK : K ⟨v, []⟩) : ∃ u, K u ∧ StepA P o f V u :=
  mk_pure hK fun O ρ s a w hE _ => by
    rcases ho with ho | ho <;> exact ⟨a.eval x, by simp [execOp, ho], hE x (by simp [ho, Op.operands]) v hv⟩

theorem snd_pick {o : Oper} {c x y : Operand} (ho : o.op = .pick c x y) {t : Bool} {v : AV} (hc : V.eval c = some (.p (.lit (.bool t)))) (hv : V.eval (if t = true then x else y) = some v) (hK : K ⟨v, []⟩) :
    ∃ u, K u ∧ StepA P o f V u :=
  mk_pure hK fun O ρ s a w hE _ => by
    have h1 := (hE c (by simp [ho, Op.operands]) _ hc).lit
    refine ⟨a.eval (if t = true then x else y), ?_, hE _ (by cases t <;> simp [ho, Op.operands]) v hv⟩
    cases t <;> simp [execOp, ho, h1, asBool]

theorem snd_extract {o : Oper} {x : Operand} {i : Nat} (ho : o.op = .extract x i) {v r : AV} {vs : List AV} (hv : V.eval x = some v) (ht : aop.tupCells v = some vs) (hr : vs[i]? = some r) (hK : K ⟨r, []⟩) :
    ∃ u, K u ∧ StepA P o f V u :=
  mk_pure hK fun O ρ s a w hE _ => by
    have hu := hE x (by simp [ho, Op.operands]) v hv
    have key : ∃ us, a.eval x = .tuple us ∧ us.size = vs.length ∧ ∀ i y, vs[i]? = some y → RepA O ρ w y (us.getD i undef) := by
      unfold aop.tupCells at ht
      split at ht
      · simp only [Option.some.injEq] at ht; subst ht
        generalize a.eval x = z at hu
        cases hu with
        | p _ _ hx => cases hx with
          | tup cs us h1 h2 =>
            refine ⟨us, rfl, by simpa using h1, fun i y hy => ?_⟩
            rw [List.getElem?_map] at hy
            obtain ⟨q, hq, rfl⟩ := Option.map_eq_some_iff.1 hy
            exact .p _ _ (h2 i q hq)
      · simp only [Option.some.injEq] at ht; subst ht
        generalize a.eval x = z at hu
        cases hu with | tup cs us h1 h2 => exact ⟨us, rfl, h1, h2⟩
      · cases ht
    obtain ⟨us, he, hs, hall⟩ := key
    have hlt := (List.getElem?_eq_some_iff.1 hr).1
    obtain ⟨q, hq⟩ : ∃ q, us[i]? = some q := ⟨us[i], by simp [show i < us.size by omega]⟩
    have hq2 := hall i r hr
    rw [Array.getD_eq_getD_getElem?, hq] at hq2
    exact ⟨q, by simp [execOp, ho, Instr.extract, he, hq], hq2⟩

theorem snd_nilCheck {o : Oper} {x : Operand} (ho : o.op = .nilCheck x) {v : AV} (hv : V.eval x = some v) (hp : isPtr v = true) (hK : K ⟨v, []⟩) : ∃ u, K u ∧ StepA P o f V u :=
  mk_pure hK fun O ρ s a w hE _ => by
    have hu := hE x (by simp [ho, Op.operands]) v hv
    refine ⟨a.eval x, ?_, hu⟩
    have key : (∃ ad, a.eval x = .pointer (some ad)) ∨ ∃ g c, a.eval x = .func (.func g) #[] c := by
      generalize a.eval x = z at hu
      cases hu with
      | ptr _ _ _ _ b v hi hv => exact .inl ⟨_, rfl⟩
      | pp _ _ b o f h4 h5 => exact .inl ⟨_, rfl⟩
      | fn g cs vs h1 h2 => exact .inr ⟨_, _, rfl⟩
      | p => cases hp
      | own => cases hp
      | sub => cases hp
      | sub0 => cases hp
      | agg => cases hp
      | tup => cases hp
      | mp => cases hp
    rcases key with ⟨ad, h⟩ | ⟨g, c, h⟩ <;> simp [execOp, ho, h]

theorem binT_run {op : BinOp} {T : TypeId} {u v r : Value} (h : binT P op T u v r) (x y : Operand) (w : World) :
    (do eqGuard op T x y u v; binOp op T u v : Sem Value).run P w = .ok r w := by
  unfold binT at h
  split at h
  · obtain ⟨h, rfl⟩ := h
    rename_i a b
    have := run_equalIn_bool' w 9999 T a b h
    simp only [eqGuard_at_bool, pure_bind, binOp, Op.equal, Op.maxDepth, Sem.run_bind, this, Result.andThen_ok, Sem.run_pure]
  · obtain ⟨h, rfl⟩ := h
    rename_i a b
    have := run_equalIn_bool' w 9999 T a b h
    simp only [eqGuard_at_bool, pure_bind, binOp, Op.equal, Op.maxDepth, Sem.run_bind, this, Result.andThen_ok, Sem.run_pure]
    rfl
  · exact h.elim
theorem flatKinds_run {P : Program} : ∀ (fs : List Field) (i : Nat) (ks : List (Option IntKind)), flatKinds P i fs = some ks → ∀ (d : Nat) (xs ys : List PV) (us vs : Array Value) (b : Bool) (w : World), flatEq ks xs ys = some b →
    us.size = vs.size → us.size = i + xs.length → (∀ j v, xs[j]? = some (.lit v) → us.getD (i + j) undef = v) → (∀ j v, ys[j]? = some (.lit v) → vs.getD (i + j) undef = v) → (Op.eqFields (d + 1) us vs fs).run P w = .ok b w
  | [], i, ks, hk, d, xs, ys, us, vs, b, w, hb, _, _, _, _ => by
    simp only [flatKinds, Option.some.injEq] at hk; subst hk
    cases xs <;> cases ys <;> simp [flatEq] at hb
    subst hb; simp [Op.eqFields]
  | f :: fs, i, ks, hk, d, xs, ys, us, vs, b, w, hb, hsz, hlen, hx, hy => by
    simp only [flatKinds] at hk
    split at hk
    · rename_i hcond
      obtain ⟨hoff, hnm⟩ := hcond
      have step : ∀ (td : TypeDesc) (di : TypeInfo) (kd : Option IntKind) (r : List (Option IntKind)) (x y : Value) (xs' ys' : List PV) (e bb : Bool), P.underlying f.type = some td → (aggDesc (some td) = false) → P.info? f.type = some di → di.size = 1 → flatKinds P (i + 1) fs = some r →
          xs = .lit x :: xs' → ys = .lit y :: ys' → (∀ w, (Op.equalIn (d + 1) f.type x y).run P w = .ok e w) → flatEq r xs' ys' = some bb → b = (e && bb) → (Op.eqFields (d + 1) us vs (f :: fs)).run P w = .ok b w := by
        intro td di kd r x y xs' ys' e bb htd hag hdi hd1 hr hxs hys heq hbb hbe
        subst hxs hys hbe
        have h0 : i < us.size := by simp at hlen; omega
        have hi1 : us.getD i undef = x := by simpa using hx 0 x rfl
        have hi2 : vs.getD i undef = y := by simpa using hy 0 y rfl
        have ih := flatKinds_run fs (i + 1) r hr d xs' ys' us vs bb w hbb hsz (by simp at hlen; omega) (fun j v hj => by rw [show i + 1 + j = i + (j + 1) by omega]; exact hx (j + 1) v (by simpa using hj)) (fun j v hj => by rw [show i + 1 + j = i + (j + 1) by omega]; exact hy (j + 1) v (by simpa using hj))
        have hp : ∀ (cs : Array Value) (v : Value), i < cs.size → cs.getD i undef = v → (part f.type cs f.offset).run P w = .ok v w := by
          intro cs v hi hv
          have hg : cs[i]? = some v := by
            rw [Array.getD_eq_getD_getElem?] at hv
            rw [Array.getElem?_eq_getElem hi] at hv ⊢
            simpa using hv
          rw [hoff]
          unfold part
          cases td <;> simp [aggDesc] at hag <;> simp [Go.isAgg, run_underlying htd, hg, Sem.run_bind]
        simp only [Op.eqFields]
        rw [if_pos (by simpa using hnm)]
        simp only [Sem.run_bind, hp us x h0 hi1, hp vs y (by omega) hi2, Result.andThen_ok, heq]
        cases e
        · simp
        · simpa using ih
      split at hk
      · rename_i k di r htd hdi hr
        split at hk
        · rename_i hd1
          simp only [Option.some.injEq] at hk; subst hk
          cases xs with
          | nil => simp [flatEq] at hb
          | cons x xs =>
            cases ys with
            | nil => cases x <;> simp [flatEq] at hb
            | cons y ys =>
              unfold flatEq at hb
              split at hb
              · rename_i h; cases h
              · rename_i h1 h2 h3
                injection h1 with h1 h1'; injection h2 with h2 h2'; injection h3 with h3 h3'
                injection h1 with h1; subst h1 h1' h2 h2' h3 h3'
                split at hb
                · rename_i hkk
                  obtain ⟨rfl, rfl⟩ := hkk
                  obtain ⟨bb, hbb, hbe⟩ := Option.map_eq_some_iff.1 hb
                  exact step _ di none r _ _ _ _ _ bb htd rfl hdi hd1 hr rfl rfl (fun w => run_equalIn_int w d f.type _ _ _ _ htd) hbb hbe.symm
                · cases hb
              · rename_i h1 h2 h3; injection h1 with h1; cases h1
              · cases hb
        · cases hk
      · rename_i di r htd hdi hr
        split at hk
        · rename_i hd1
          simp only [Option.some.injEq] at hk; subst hk
          cases xs with
          | nil => simp [flatEq] at hb
          | cons x xs =>
            cases ys with
            | nil => cases x <;> simp [flatEq] at hb
            | cons y ys =>
              unfold flatEq at hb
              split at hb
              · rename_i h; cases h
              · rename_i h1 h2 h3; injection h1 with h1; cases h1
              · rename_i h1 h2 h3
                injection h1 with h1 h1'; injection h2 with h2 h2'; injection h3 with h3 h3'
                subst h1' h2 h2' h3 h3'
                obtain ⟨bb, hbb, hbe⟩ := Option.map_eq_some_iff.1 hb
                exact step _ di none r _ _ _ _ _ bb htd rfl hdi hd1 hr rfl rfl (fun w => run_equalIn_bool' w d f.type _ _ htd) hbb hbe.symm
              · cases hb
        · cases hk
      · cases hk
    · cases hk

theorem flatEq_len : ∀ (ks : List (Option IntKind)) (xs ys : List PV) (b : Bool), flatEq ks xs ys = some b → xs.length = ys.length ∧ (∀ x, x ∈ xs → ∃ v, x = .lit v) ∧ ∀ y, y ∈ ys → ∃ v, y = .lit v := by
  intro ks xs ys
  induction ks, xs, ys using flatEq.induct with
  | case1 => intro b _; simp
  | case2 k ks k1 a xs k2 b ys hk ih =>
    intro r h
    simp only [flatEq, hk, and_self, if_true] at h
    obtain ⟨r', hr, _⟩ := Option.map_eq_some_iff.1 h
    obtain ⟨i1, i2, i3⟩ := ih r' hr
    refine ⟨by simp [i1], fun x hx => ?_, fun y hy => ?_⟩
    · rcases List.mem_cons.1 hx with rfl | hx
      · exact ⟨_, rfl⟩
      · exact i2 x hx
    · rcases List.mem_cons.1 hy with rfl | hy
      · exact ⟨_, rfl⟩
      · exact i3 y hy
  | case3 k ks k1 a xs k2 b ys hk => intro r h; simp only [flatEq, hk, if_false] at h; cases h
  | case4 ks a xs b ys ih =>
    intro r h
    simp only [flatEq] at h
    obtain ⟨r', hr, _⟩ := Option.map_eq_some_iff.1 h
    obtain ⟨i1, i2, i3⟩ := ih r' hr
    refine ⟨by simp [i1], fun x hx => ?_, fun y hy => ?_⟩
    · rcases List.mem_cons.1 hx with rfl | hx
      · exact ⟨_, rfl⟩
      · exact i2 x hx
    · rcases List.mem_cons.1 hy with rfl | hy
      · exact ⟨_, rfl⟩
      · exact i3 y hy
  | case5 => intro r h; simp [flatEq] at h

theorem agg_lits {O : Nat → Prop} {w : World} {xs : List PV} {v : Value} (h : RepP O w (.agg xs) v) : ∃ us : Array Value, v = .agg us ∧ us.size = xs.length ∧ ∀ j u, xs[j]? = some (.lit u) → us.getD j undef = u := by
  cases h with
  | agg _ us h1 h2 _ =>
    refine ⟨us, rfl, h1, fun j u hj => ?_⟩
    have h3 := h2 j _ hj
    generalize us.getD j undef = q at h3
    cases h3; rfl

theorem binA_run {P : Program} {op : BinOp} {T : TypeId} {x y : AV} {r : Value} (h : binA P op T x y r) {O : Nat → Prop} {ρ : Nat → Option Value} {w : World} {u v : Value} (hu : RepA O ρ w x u) (hv : RepA O ρ w y v) (x0 y0 : Operand) :
    (do eqGuard op T x0 y0 u v; binOp op T u v : Sem Value).run P w = .ok r w := by
  unfold binA at h
  split at h
  · have h1 := hu.lit; have h2 := hv.lit; subst h1 h2
    exact h.elim (fun hr => binR_run (P := P) hr T x0 y0 w) (fun hr => binT_run hr x0 y0 w)
  · obtain ⟨ks, hks, b, hb, he⟩ := h
    obtain ⟨us, rfl, s1, g1⟩ := agg_lits hu.unP
    obtain ⟨vs, rfl, s2, g2⟩ := agg_lits hv.unP
    unfold tFlat at hks
    split at hks
    · rename_i fs hfs
      split at hks
      · rename_i hc
        obtain ⟨hst, hgt⟩ := hc
        have hfo : P.fieldsOf T = fs := by simp [Program.fieldsOf, hfs]
        have hl := (flatEq_len _ _ _ _ hb).1
        have hrun := flatKinds_run fs.toList 0 ks hks 9998 _ _ us vs b w hb (by omega) (by omega) (fun j v hj => by rw [Nat.zero_add]; exact g1 j v hj) (fun j v hj => by rw [Nat.zero_add]; exact g2 j v hj)
        have heq : (Op.equalIn 10000 T (.agg us) (.agg vs)).run P w = .ok b w := by
          rw [run_equalIn_struct w 9999 T us vs (by rw [hfo]; exact hfs) hst, hfo]; exact hrun
        have hgd := run_eqGuard_agg (P := P) w op T x0 y0 us vs hgt
        rw [Sem.run_bind, hgd, Result.andThen_ok]
        cases op <;> simp [eqR] at he <;> subst he
        · rw [run_eql_struct, heq]; rfl
        · simp [binOp, Op.equal, Op.maxDepth, heq]
      · cases hks
    · cases hks
  · exact h.elim

theorem snd_binOp {o : Oper} {op : BinOp} {T T' : TypeId} {x y : Operand} (ho : o.op = .binOp op T x y T') {u v : AV} {r : Value} (hx : V.eval x = some u) (hy : V.eval y = some v) (hr : binA P op T u v r)
    (hK : K ⟨.p (.lit r), []⟩) : ∃ u, K u ∧ StepA P o f V u :=
  mk_pure hK fun O ρ s a w hE _ => by
    have h1 := hE x (by simp [ho, Op.operands]) _ hx
    have h2 := hE y (by simp [ho, Op.operands]) _ hy
    refine ⟨r, ?_, .p _ _ (.lit r)⟩
    have := binA_run (P := P) hr h1 h2 x y
    simp only [execOp, ho, Sem.run_bind] at this ⊢
    simp only [this, Result.andThen_ok, Sem.run_pure]

theorem snd_convert {o : Oper} {src d : TypeId} {x : Operand} (ho : o.op = .convert src d x) {k k' : IntKind} {n : Int} (hx : V.eval x = some (.p (.lit (.int k n)))) (hs : (P.underlying src).isSome = true) (hd : tInt P d = some k')
    (hK : K ⟨.p (.lit (.int k' (k'.wrap n))), []⟩) : ∃ u, K u ∧ StepA P o f V u :=
  mk_pure hK fun O ρ s a w hE _ => by
    have h1 := (hE x (by simp [ho, Op.operands]) _ hx).lit
    refine ⟨_, ?_, .p _ _ (.lit _)⟩
    obtain ⟨dd, hdd⟩ := Option.isSome_iff_exists.1 hs
    simp [execOp, ho, h1, convert, run_underlying hdd, run_underlying (int_run hd), Conv.intToInt]

theorem snd_load {o : Oper} {T : TypeId} {x : Operand} (ho : o.op = .load T x) {v r : AV} {g : Bool} {n : Nat} (hv : V.eval x = some v) (ht : tSz P T = some (g, n)) (hl : loadR V v g n r) (hK : K ⟨r, []⟩) : ∃ u, K u ∧ StepA P o f V u :=
  mk_pure hK fun O ρ s a w hE hH => by
    obtain ⟨z, hz, hr⟩ := load_rep ht hl hH (hE x (by simp [ho, Op.operands]) v hv)
    exact ⟨z, by simp [execOp, ho, hz], hr⟩

theorem snd_fieldAddr {o : Oper} {T : TypeId} {x : Operand} {fd off sz : Nat} {g : Bool} (ho : o.op = .fieldAddr T x fd) (ht : tFld P T fd = some (off, sz, g)) {v r : AV} (hv : V.eval x = some v) (hr : offs v off = some r) (hK : K ⟨r, []⟩) :
    ∃ u, K u ∧ StepA P o f V u :=
  mk_pure hK fun O ρ s a w hE hH => by
    obtain ⟨b, p, he, hrep⟩ := offs_rep hr (hE x (by simp [ho, Op.operands]) v hv)
    obtain ⟨fs, fdd, i, d, h1, h2, rfl, h4, h5, h6, h7, h8⟩ := fld_run ht
    refine ⟨_, ?_, hrep⟩
    have hsz : ¬ i.size = 0 := h8
    simp [execOp, ho, he, Instr.fieldAt, run_underlying h1, h2, Instr.sureAddr, fieldPlace, sizeOf, typeInfo, h4, hsz, Addr.add_lit]

theorem snd_field {o : Oper} {T : TypeId} {x : Operand} {fd off sz : Nat} {g : Bool} (ho : o.op = .field T x fd) (ht : tFld P T fd = some (off, sz, g)) {v r : AV} {cs : List AV} (hv : V.eval x = some v) (hc : aop.aggCells v = some cs)
    (hr : if g = true then off + sz ≤ cs.length ∧ r = aggOf ((cs.drop off).take sz) else cs[off]? = some r) (hK : K ⟨r, []⟩) : ∃ u, K u ∧ StepA P o f V u :=
  mk_pure hK fun O ρ s a w hE hH => by
    obtain ⟨vs, he, hrep⟩ := repA_cells hc (hE x (by simp [ho, Op.operands]) v hv)
    obtain ⟨fs, fdd, i, d, h1, h2, rfl, h4, h5, h6, h7, h8⟩ := fld_run ht
    obtain ⟨z, hz, hzr⟩ := part_rep (P := P) (t := fdd.type) hrep ⟨i, d, h4, h5, h6, h7⟩ hr
    exact ⟨z, by simp [execOp, ho, he, Instr.field, run_underlying h1, h2, asAgg, hz], hzr⟩

theorem snd_index {o : Oper} {T : TypeId} {x i : Operand} (ho : o.op = .index T x i) {n : Int} (hi : evalInt V i = some n) (h0 : 0 ≤ n) {len sz : Nat} {g : Bool} (ht : tArr P T = some (len, sz, g)) (hn : n < len) {v r : AV} {cs : List AV}
    (hv : V.eval x = some v) (hc : aop.aggCells v = some cs) (hr : if g = true then n.toNat * sz + sz ≤ cs.length ∧ r = aggOf ((cs.drop (n.toNat * sz)).take sz) else cs[n.toNat * sz]? = some r) (hK : K ⟨r, []⟩) :
    ∃ u, K u ∧ StepA P o f V u :=
  mk_pure hK fun O ρ s a w hE hH => by
    obtain ⟨vs, he, hrep⟩ := repA_cells hc (hE x (by simp [ho, Op.operands]) v hv)
    obtain ⟨k, hk⟩ := evalInt_rep hE (by simp [ho, Op.operands]) hi
    obtain ⟨e, ie, d, h1, h4, h5, h6, h7⟩ := arr_run ht
    obtain ⟨z, hz, hzr⟩ := part_rep (P := P) (t := e) hrep ⟨ie, d, h4, h5, h6, h7⟩ hr
    refine ⟨z, ?_, hzr⟩
    simp [execOp, ho, he, hk, Instr.index, run_underlying h1, asIntOf, h0, hn, sizeOf, typeInfo, h4, h6, hz]

theorem snd_indexAddr_sl {o : Oper} {T e : TypeId} {x i : Operand} (ho : o.op = .indexAddr T x i) {n : Int} (hi : evalInt V i = some n) (h0 : 0 ≤ n) {sz : Nat} {g : Bool} (ht : tEl P T = some e) (hs : tSz P e = some (g, sz)) {v r : AV}
    (hv : V.eval x = some v) (hr : idxR V sz n.toNat v r) (hK : K ⟨r, []⟩) : ∃ u, K u ∧ StepA P o f V u :=
  mk_pure hK fun O ρ s a w hE hH => by
    obtain ⟨k, hk⟩ := evalInt_rep hE (by simp [ho, Op.operands]) hi
    have hu := hE x (by simp [ho, Op.operands]) v hv
    have key : ∃ b p len cap, a.eval x = .slice (some ⟨b, p, none⟩) len cap ∧ n.toNat < len ∧ RepA O ρ w r (.pointer (some ⟨b, p + n.toNat * sz, none⟩)) := by
      unfold idxR at hr
      split at hr
      · rename_i c es
        obtain ⟨cs, hcs, hl, rfl⟩ := hr
        generalize a.eval x = z at hu
        cases hu with
        | p _ _ hx => cases hx with
          | nilseq => simp at hcs
          | seq _ _ sz' b off cap q h1 h2 h3 h4 h5 =>
            have hlt := (List.getElem?_eq_some_iff.1 hcs).1
            have hsz : sz' = sz := by rw [← h1 cs (List.mem_of_getElem? hcs), hl]
            subst hsz
            have hget : ∀ j x, cs[j]? = some x → es.flatten[n.toNat * sz' + j]? = some x := fun j x hx => by
              rw [flat_get sz' es n.toNat j cs h1 hcs (by rw [← hl]; exact (List.getElem?_eq_some_iff.1 hx).1)]; exact hx
            refine ⟨b, off, _, _, rfl, hlt, ?_⟩
            have := RepA.pp (O := O) (ρ := ρ) (w := w) cs 0 b (off + n.toNat * sz') (fun j => q (n.toNat * sz' + j)) (fun j hj => ?_) (fun j x hx => h5 _ _ (hget j x hx))
            · exact this
            · have := h4 _ (List.getElem?_eq_some_iff.1 (hget j cs[j] (by simp [hj]))).1
              rw [← Nat.add_assoc] at this
              exact this
      · rename_i id
        obtain ⟨es, hid, hlt, rfl⟩ := hr
        obtain ⟨u, hu2, hb⟩ := hH id _ hid
        generalize a.eval x = z at hu
        cases hu with
        | own _ ad len cap hi2 =>
          rw [hu2] at hi2; injection hi2 with hi2; subst hi2
          rcases hb with ⟨rfl, _⟩ | ⟨b, cap', cur, e', g1, g0, g2, g3⟩
          · simp at hlt
          · rcases g1 with g1 | ⟨g1, _⟩
            · injection g1 with q1 q2 q3; subst q1 q2 q3
              refine ⟨b, 0, _, _, rfl, hlt, ?_⟩
              have := RepA.ptr (O := O) (ρ := ρ) (w := w) id sz n.toNat 0 b _ hu2 (by simp [oblk]; omega)
              simpa using this
            · cases g1
      · exact hr.elim
    obtain ⟨b, p, len, cap, he, hlt, hrep⟩ := key
    refine ⟨_, ?_, hrep⟩
    have h1 : n < len := by omega
    simp [execOp, ho, he, hk, Instr.indexAt, run_underlying (el_run ht), asIntOf, h0, h1, run_sizeOf hs, Addr.add_lit]

theorem snd_indexAddr_arr {o : Oper} {T : TypeId} {x i : Operand} (ho : o.op = .indexAddr T x i) {n : Int} (hi : evalInt V i = some n) (h0 : 0 ≤ n) {len sz : Nat} {g : Bool} (ht : tArr P T = some (len, sz, g)) (hn : n < len) {v r : AV}
    (hv : V.eval x = some v) (hr : offs v (n.toNat * sz) = some r) (hK : K ⟨r, []⟩) : ∃ u, K u ∧ StepA P o f V u :=
  mk_pure hK fun O ρ s a w hE hH => by
    obtain ⟨k, hk⟩ := evalInt_rep hE (by simp [ho, Op.operands]) hi
    obtain ⟨b, p, he, hrep⟩ := offs_rep hr (hE x (by simp [ho, Op.operands]) v hv)
    obtain ⟨e, ie, d, h1, h4, h5, h6, h7⟩ := arr_run ht
    refine ⟨_, ?_, hrep⟩
    simp [execOp, ho, he, hk, Instr.indexAt, run_underlying h1, asIntOf, h0, hn, sizeOf, typeInfo, h4, h6, Addr.add_lit, Instr.sureAddr]

end
end Go.Am
