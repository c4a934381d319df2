/-
  The abstract machine, tenth part: operations that make or write memory, slices, calls.
-/
import Derived.Test.YtbdliooaiincdaaAm9
namespace Go.Am
open Go.RowKit

section
variable {P : Program} {H : List Nat} {f : Nat} {V : PS} {K : Upd → Prop}

theorem snd_alloc {o : Oper} {T : TypeId} {g : Bool} {zs : List PV} (ho : o.op = .alloc T) (ht : tVar P T = some (g, zs)) (hK : K ⟨.ptr f zs.length 0 0, [(f, some (.row zs.length [zs.map .p]))]⟩) : ∃ u, K u ∧ StepA P o f V u := by
  refine ⟨_, hK, stepA_own (.inl rfl) fun O ρ s a w hV hE hH hN => ?_⟩
  obtain ⟨z, hz, hr⟩ := repCells_zero (O := O) (ρ := ρ) ht w w
  refine ⟨.pointer (some ⟨w.heap.size, 0, none⟩), w, .pointer (some ⟨w.heap.size, 0, none⟩), T, z.cells, 1, ?_, rfl, rfl, rfl, rfl, .inr ⟨rfl, rfl, rfl⟩, by omega, ⟨by simp, by simp [maxLen], ?_, by simp, fun j x hx => ?_⟩, fun O' ρ' w' h => ?_⟩
  · simp [execOp, ho, Instr.alloc, hz, newVar, newRow]
  · have := hr.1; simpa using this
  · simp only [List.flatten_cons, List.flatten_nil, List.append_nil] at hx
    exact ⟨hr.2.1 j x hx, hr.2.2 j (List.getElem?_eq_some_iff.1 hx).1⟩
  · have := RepA.ptr (O := O') (ρ := ρ') (w := w') f zs.length 0 0 _ _ h rfl
    simpa using this

theorem snd_box {o : Oper} {T : TypeId} {x : Operand} {v : AV} {cs : List AV} (ho : o.op = .box T x) (hv : V.eval x = some v) (hc : v.cells = some cs) (hK : K ⟨.ptr f cs.length 0 0, [(f, some (.row cs.length [cs]))]⟩) : ∃ u, K u ∧ StepA P o f V u := by
  refine ⟨_, hK, stepA_own (.inl rfl) fun O ρ s a w hV hE hH hN => ?_⟩
  have hr := AV.cells_rep hc (hE x v (hV x (by simp [ho, Op.operands]) v hv))
  refine ⟨.pointer (some ⟨w.heap.size, 0, none⟩), w, .pointer (some ⟨w.heap.size, 0, none⟩), T, (a.eval x).cells, 1, ?_, rfl, rfl, rfl, rfl, .inr ⟨rfl, rfl, rfl⟩, by omega, ⟨by simp, by simp [maxLen], ?_, by simp, fun j y hx => ?_⟩, fun O' ρ' w' h => ?_⟩
  · simp [execOp, ho, Instr.box, newVar, newRow]
  · simpa using hr.1
  · simp only [List.flatten_cons, List.flatten_nil, List.append_nil] at hx
    exact ⟨hr.2.1 j y hx, hr.2.2 j (List.getElem?_eq_some_iff.1 hx).1⟩
  · have := RepA.ptr (O := O') (ρ := ρ') (w := w') f cs.length 0 0 _ _ h rfl
    simpa using this

theorem evalParts_spec {O : Nat → Prop} {ρ : Nat → Option Value} {w : World} {a : Act} : ∀ (ps : List (Nat × Operand)) (vs : List (Nat × List AV)),
    (∀ y, y ∈ ps.map (·.2) → ∀ v, V.eval y = some v → RepA O ρ w v (a.eval y)) → evalParts V ps = some vs →
    vs.length = (ps.map fun (i, x) => (i, a.eval x)).length ∧ ∀ (j i : Nat) (x : List AV), vs[j]? = some (i, x) → ∃ v : Value, (ps.map fun (i, x) => (i, a.eval x))[j]? = some (i, v) ∧ RepCells O ρ w x v.cells
  | [], vs, _, h => by simp [evalParts] at h; subst h; simp
  | (i, y) :: ps, vs, hE, h => by
    simp only [evalParts] at h
    split at h
    · rename_i v us hv hus
      split at h
      · rename_i cs hcs
        simp only [Option.some.injEq] at h; subst h
        have ih := evalParts_spec ps us (fun y hy => hE y (by simp at hy ⊢; exact .inr hy)) hus
        refine ⟨by simp [ih.1], fun j i' x hx => ?_⟩
        cases j with
        | zero =>
          simp only [List.getElem?_cons_zero, Option.some.injEq, Prod.mk.injEq] at hx
          obtain ⟨rfl, rfl⟩ := hx
          exact ⟨_, by simp, AV.cells_rep hcs (hE y (by simp) v hv)⟩
        | succ j => simpa using ih.2 j i' x (by simpa using hx)
      · cases h
    · cases h

theorem mapM_get {α β : Type} {g : α → Option β} : ∀ (l : List α) (r : List β), l.mapM g = some r → ∀ (i : Nat) (a : α), l[i]? = some a → ∃ b, g a = some b ∧ r[i]? = some b
  | [], r, _, i, a, h => by simp at h
  | x :: l, r, h, i, a, ha => by
    simp only [List.mapM_cons, Option.bind_eq_bind, Option.pure_def, Option.bind_eq_some_iff, Option.some.injEq] at h
    obtain ⟨b, hb, bs, hbs, rfl⟩ := h
    cases i with
    | zero => simp only [List.getElem?_cons_zero, Option.some.injEq] at ha; subst ha; exact ⟨b, hb, rfl⟩
    | succ i => exact mapM_get l bs hbs i a (by simpa using ha)

theorem built_fill {P : Program} {t : TypeId} (hb : tBuilt P t = true) (vs : List (Nat × Value)) :
    ∃ pl z, (P.info? t).bind (·.zero) = some z ∧ P.built t vs = Instr.fill pl z.cells vs ∧ ∀ i q, tPlace P t i = some q → pl i = some q := by
  unfold tBuilt Program.built at hb
  split at hb
  · rename_i it n e hi hu
    split at hb
    · rename_i z ie hz hie
      refine ⟨fun i => some (i * ie.size, ie.size), z, by simp [hi, hz], by simp [Program.built, hi, hu, hz, hie], fun i q hq => ?_⟩
      simpa [tPlace, hu, hie] using hq
    · cases hb
  · rename_i it fs hi hu
    split at hb
    · rename_i z pl hz hpl
      refine ⟨(pl.toArray[·]?), z, by simp [hi, hz], by simp [Program.built, hi, hu, hz, hpl], fun i q hq => ?_⟩
      simp only [tPlace, hu] at hq
      split at hq
      · rename_i fd hfd
        obtain ⟨b, hb1, hb2⟩ := mapM_get fs.toList pl hpl i fd (by simpa using hfd)
        rw [hb1] at hq; injection hq with hq; subst hq
        simpa using hb2
      · cases hq
    · cases hb
  · cases hb

theorem zero_info {P : Program} {t : TypeId} {g : Bool} {zs : List PV} (ht : tVar P t = some (g, zs)) {z : Value} (hz : (P.info? t).bind (·.zero) = some z) (O : Nat → Prop) (ρ : Nat → Option Value) (w : World) :
    RepCells O ρ w (zs.map .p) z.cells := by
  obtain ⟨z', h1, h2⟩ := repCells_zero (O := O) (ρ := ρ) ht w w
  have : z' = z := by
    cases hi : P.info? t with
    | none => simp [hi] at hz
    | some i =>
      simp only [hi, Option.bind_some] at hz
      simp [zeroValue, typeInfo, hi, hz] at h1
      exact h1.symm
  subst this; exact h2

theorem snd_build {o : Oper} {T : TypeId} {parts : Array (Nat × Operand)} {zs : List PV} {g : Bool} (ho : o.op = .build T parts) (ht : tVar P T = some (g, zs)) (hb : tBuilt P T = true) {vs : List (Nat × List AV)} (hv : evalParts V parts.toList = some vs)
    {cs : List AV} (hc : afill (tPlace P T) (zs.map .p) vs = some cs) (hK : K ⟨aggOf cs, []⟩) : ∃ u, K u ∧ StepA P o f V u :=
  mk_pure hK fun O ρ s a w hE hH => by
    have hp := evalParts_spec (O := O) (ρ := ρ) (w := w) (a := a) parts.toList vs (fun y hy => hE y (by rw [ho]; simp only [Op.operands]; simpa using hy)) hv
    obtain ⟨pl, z, hz, hbt, hpl⟩ := built_fill hb (parts.toList.map fun (i, x) => (i, a.eval x))
    obtain ⟨ys, hy, hr⟩ := repCells_fill hpl vs _ _ _ _ (zero_info ht hz O ρ w) hp.1 hp.2 hc
    refine ⟨.agg ys, ?_, repA_aggOf hr.1 hr.2.1 hr.2.2⟩
    have := run_build (P := P) w T (parts.map fun (i, x) => (i, a.eval x)) ys (by rw [Array.toList_map, hbt]; exact hy)
    simp only [execOp, ho, Sem.run_bind, this, Result.andThen_ok, Sem.run_pure]

theorem evalRow_spec {O : Nat → Prop} {ρ : Nat → Option Value} {w : World} {a : Act} {sz : Nat} : ∀ (ps : List (Nat × Operand)) (k : Nat) (es : List (List PV)), (∀ y, y ∈ ps.map (·.2) → ∀ v, V.eval y = some v → RepA O ρ w v (a.eval y)) → evalRow V sz k ps = some es →
    es.length = ps.length ∧ (∀ x, x ∈ es → x.length = sz) ∧ ∀ (xs : Array Value) (pre : List AV), RepCells O ρ w pre xs → pre.length = (k + ps.length) * sz →
      ∃ ys, Instr.fill (fun i => some (i * sz, sz)) xs (ps.map fun (i, x) => (i, a.eval x)) = some ys ∧ RepCells O ρ w (pre.take (k * sz) ++ es.flatten.map .p) ys
  | [], k, es, _, h => by
    simp only [evalRow, Option.some.injEq] at h; subst h
    refine ⟨rfl, (fun x hx => absurd hx (by simp)), fun xs pre hp hl => ⟨xs, rfl, ?_⟩⟩
    simp only [List.length_nil, Nat.add_zero] at hl
    rw [List.take_of_length_le (by omega)]; simpa using hp
  | (i, y) :: ps, k, es, hE, h => by
    simp only [evalRow] at h
    split at h
    · rename_i hik
      subst hik
      split at h
      · rename_i v us hv hus
        split at h
        · rename_i cs hcs
          split at h
          · rename_i qs hqs
            split at h
            · rename_i hl
              simp only [Option.some.injEq] at h; subst h
              have ih := evalRow_spec ps (i + 1) us (fun y hy => hE y (by simp at hy ⊢; exact .inr hy)) hus
              refine ⟨by simp [ih.1], fun x hx => ?_, fun xs pre hp hlen => ?_⟩
              · rcases List.mem_cons.1 hx with rfl | hx
                · exact hl
                · exact ih.2.1 x hx
              · have hc := AV.cells_rep hcs (hE y (by simp) v hv)
                have e := pures_spec _ _ hqs
                have hcl : cs.length = sz := by rw [e]; simpa using hl
                simp only [List.length_cons] at hlen
                have hle : i * sz + cs.length ≤ pre.length := by rw [hlen, hcl, ← Nat.add_one_mul]; exact Nat.mul_le_mul_right _ (by omega)
                have hs := repCells_splice (off := i * sz) hp hc hle
                obtain ⟨ys, hy, hr⟩ := ih.2.2 _ _ hs (by rw [splice_length _ _ _ hle, hlen]; congr 1; omega)
                refine ⟨ys, ?_, ?_⟩
                · simp only [List.map_cons, Instr.fill]
                  rw [if_neg]
                  · exact hy
                  · simp only [hc.1, hp.1]; simp; omega
                · have e2 : (splice pre (i * sz) cs).take ((i + 1) * sz) ++ us.flatten.map .p = pre.take (i * sz) ++ (qs :: us).flatten.map .p := by
                    rw [List.flatten_cons, List.map_append, ← e, ← List.append_assoc]
                    congr 1
                    simp only [splice]
                    have h1 : (pre.take (i * sz) ++ cs).length = (i + 1) * sz := by simp only [List.length_append, List.length_take, hcl, Nat.add_one_mul]; omega
                    rw [← h1, List.take_left]
                  rw [← e2]; exact hr
            · cases h
          · cases h
        · cases h
      · cases h
    · cases h

theorem snd_buildSlice {o : Oper} {T e n : Nat} {parts : Array (Nat × Operand)} {g : Bool} {zs : List PV} (ho : o.op = .buildSlice T n parts) (hT : tEl P T = some e) (ht : tVar P e = some (g, zs)) (h0 : 0 < zs.length)
    (hn : n * zs.length ≤ 2 ^ 24) (hl : parts.toList.length = n) {es : List (List PV)} (hr : evalRow V zs.length 0 parts.toList = some es) (hK : K ⟨.p (.seq true es), []⟩) : ∃ u, K u ∧ StepA P o f V u := by
  refine ⟨_, hK, stepA_new fun O ρ s a w hV hE hH hN => ?_⟩
  obtain ⟨h1, h2, h3⟩ := evalRow_spec (O := O) (ρ := ρ) (w := w) (a := a) parts.toList 0 es (fun y hy v hv => hE y v (hV y (by rw [ho]; simp only [Op.operands]; simpa using hy) v hv)) hr
  have hsz := tVar_sz ht
  obtain ⟨z, hz, hzr⟩ := repCells_zero (O := O) (ρ := ρ) ht w w
  have hzl : z.cells.size = zs.length := by have := hzr.1; simpa using this
  by_cases hn0 : n = 0
  · subst hn0
    have hp : parts.toList = [] := List.eq_nil_of_length_eq_zero hl
    rw [hp] at hr h1
    simp only [evalRow, Option.some.injEq] at hr; subst hr
    refine ⟨.slice (some ⟨w.heap.size, 0, none⟩) 0 0, w.alloc (.cells #[] e), ?_, .p _ _ (.nilseq true _ 0 (fun _ => rfl)), by simp, fun b hb => heap_alloc_old w _ hb, rfl, rfl, rfl⟩
    have hpa : parts = #[] := by simpa using hp
    simp [execOp, ho, Instr.buildSlice, run_underlying (el_run hT), run_sizeOf hsz, hpa, Instr.fill, newRow, Array.range_zero']
  · have hnz : ¬ n * zs.length = 0 := by
      intro h; rcases Nat.mul_eq_zero.1 h with h | h <;> omega
    have hpos : 0 < n * zs.length := Nat.pos_of_ne_zero hnz
    have hrow : RepCells O ρ w ((List.range (n * zs.length)).map fun j => AV.p (zs.getD (j % zs.length) (.lit undef))) ((Array.range (n * zs.length)).map (z.cells[· % z.cells.size]!)) := by
      have hmod : ∀ j, j % zs.length < zs.length := fun j => Nat.mod_lt _ h0
      have hz1 : ∀ j, j < n * zs.length → ((Array.range (n * zs.length)).map (z.cells[· % z.cells.size]!)).getD j undef = z.cells.getD (j % zs.length) undef := by
        intro j hj
        rw [Array.getD_eq_getD_getElem?, Array.getD_eq_getD_getElem?]
        have := hmod j
        simp [hj, hzl, this]
      refine ⟨by simp, fun j x hx => ?_, fun j hj => ?_⟩
      · have hj : j < n * zs.length := by have := (List.getElem?_eq_some_iff.1 hx).1; simpa using this
        rw [List.getElem?_map, List.getElem?_range hj] at hx
        simp only [Option.map_some, Option.some.injEq] at hx
        subst hx
        rw [hz1 j hj]
        refine hzr.2.1 _ _ ?_
        rw [List.getElem?_map, List.getD_eq_getElem?_getD, List.getElem?_eq_getElem (hmod j)]; rfl
      · have hj' : j < n * zs.length := by simpa using hj
        rw [hz1 j hj']
        exact hzr.2.2 _ (by simpa using hmod j)
    obtain ⟨ys, hy, hyr⟩ := h3 _ _ hrow (by simp [hl])
    simp only [Nat.zero_mul, List.take_zero, List.nil_append] at hyr
    have hlen : es.length = n := by rw [h1, hl]
    refine ⟨.slice (some ⟨w.heap.size, 0, none⟩) n n, w.alloc (.cells ys e), ?_, ?_, by simp, fun b hb => heap_alloc_old w _ hb, rfl, rfl, rfl⟩
    · obtain ⟨ie, hie⟩ : ∃ ie, P.info? e = some ie ∧ ie.size = zs.length := by
        unfold tSz at hsz
        split at hsz
        · rename_i d i hd hi; simp only [Option.some.injEq, Prod.mk.injEq] at hsz; exact ⟨i, hi, hsz.2⟩
        · cases hsz
      have hzi : ie.zero = some z := by
        have := hz
        cases hzz : ie.zero with
        | none => simp [zeroValue, typeInfo, hie.1, hzz] at this
        | some z' => simp [zeroValue, typeInfo, hie.1, hzz] at this; rw [this]
      have := run_buildSlice (P := P) w T e n (parts.map fun (i, x) => (i, a.eval x)) ys ie z (el_run hT) hie.1 hzi (by rw [hie.2]; omega) (by rw [hie.2]; exact hnz) (by rw [hie.2, Array.toList_map]; exact hy)
      simp only [execOp, ho, Sem.run_bind, this, Result.andThen_ok, Sem.run_pure]
    · rw [← hlen]
      refine .p _ _ (.seq true es zs.length w.heap.size 0 _ (fun j => ys.getD j undef) h2 (Nat.le_refl _) (fun _ => rfl) (fun j hj => ⟨hN _ (Nat.le_refl _), ?_, ?_⟩) (fun j x hx => ?_))
      · rw [Nat.zero_add]
        exact cell_row (e := e) (heap_alloc_new w _) (by rw [hyr.1, List.length_map]; exact hj)
      · exact hyr.2.2 j (by rw [List.length_map]; exact hj)
      · have hx' : (es.flatten.map AV.p)[j]? = some (.p x) := by rw [List.getElem?_map, hx]; rfl
        have := (hyr.2.1 j _ hx').unP
        exact this.mono ⟨by simp, fun b hb _ => heap_alloc_old w _ hb, fun _ _ x => x⟩

theorem snd_store {o : Oper} {T : TypeId} {x y : Operand} {id sz k off : Nat} {v : AV} {vs : List AV} {g : Bool} {es : List (List AV)} {cs : List AV} (ho : o.op = .store T x y) (hx : V.eval x = some (.ptr id sz k off)) (hv : V.eval y = some v)
    (hc : v.cells = some vs) (ht : tSz P T = some (g, vs.length)) (hid : V.hp id = some (.row sz es)) (hk : es[k]? = some cs) (hle : off + vs.length ≤ cs.length)
    (hK : K ⟨.p (.lit undef), [(id, some (.row sz (es.set k (splice cs off vs))))]⟩) : ∃ u, K u ∧ StepA P o f V u := by
  refine ⟨_, hK, ?_⟩
  intro C U s a w hd _ hV hH ⟨ρ, hs⟩ Q
  have hid' := hH id _ hid
  obtain ⟨u, hu, hb⟩ := hs.heap id _ hid'
  have hp := hs.eval (hV x (by simp [ho, Op.operands]) _ hx)
  have hr := AV.cells_rep hc (hs.eval (hV y (by simp [ho, Op.operands]) _ hv))
  obtain ⟨b, cap, cur, e, he, hub, h0, hw, hok, hcl, hcell⟩ := ptr_cells hp hu hb hk
  have hes : es.length ≤ cap := hok.1
  have hkl := (List.getElem?_eq_some_iff.1 hk).1
  have hroom : k * sz + off + (a.eval y).cells.toList.length ≤ cur.size := by
    have h1 : (k + 1) * sz ≤ cap * sz := Nat.mul_le_mul_right _ (by omega)
    rw [Nat.add_one_mul] at h1
    have h2 := hok.2.2.1
    have h3 : (a.eval y).cells.toList.length = vs.length := by simpa using hr.1
    omega
  have h1c : ∀ z, z ∈ (a.eval y).cells.toList → z.oneCell' = true := by
    intro z hz
    obtain ⟨i, hi, rfl⟩ := List.getElem_of_mem hz
    have := hr.2.2 i (by have := hr.1; simp at hi; omega)
    rw [Array.getD_eq_getD_getElem?] at this
    simp at hi
    simpa [hi] using this
  have hrun := run_storeCells_at (P := P) b (k * sz + off) e (a.eval y).cells.toList 0 cur w hw (by simpa using hroom) h1c
  simp only [Nat.add_zero] at hrun
  have hexec : (execOp a.eval o).run P w = .ok .skip (w.setRow b (cur.toList.take (k * sz + off) ++ (a.eval y).cells.toList ++ cur.toList.drop (k * sz + off + (a.eval y).cells.toList.length)).toArray) := by
    have hsz : (a.eval y).cells.size = vs.length := hr.1
    simp only [execOp, ho, Instr.storeAt, he, Instr.sureAddr, storeVar, Sem.run_bind, Sem.run_pure, Result.andThen_ok, run_sizeOf ht]
    simp only [ne_eq, hsz, not_true_eq_false, if_false, hrun, Result.andThen_ok]
  unfold Oper.wp
  rw [hexec]
  show Sat _ _ _ _ _
  refine ⟨ρ, ?_⟩
  have hn : (es.set k (splice cs off vs)).length = es.length := by simp
  have hspl := splice_length cs vs off hle
  have hlen3 : (a.eval y).cells.toList.length = vs.length := by simpa using hr.1
  have hok' : BlkOk (Own C s ρ) ρ w sz (es.set k (splice cs off vs)) cap (cur.toList.take (k * sz + off) ++ (a.eval y).cells.toList ++ cur.toList.drop (k * sz + off + (a.eval y).cells.toList.length)).toArray := by
    refine ⟨by rw [hn]; exact hes, hok.2.1, ?_, fun z hz => ?_, fun j z hz => ?_⟩
    · have := hok.2.2.1
      simp only [List.size_toArray, List.length_append, List.length_take, List.length_drop, Array.length_toList]
      simp only [Array.length_toList] at hroom
      omega
    · rcases List.mem_or_eq_of_mem_set hz with hz | rfl
      · exact hok.2.2.2.1 z hz
      · rw [hspl]; exact hcl
    · have hall : ∀ e, e ∈ es.set k (splice cs off vs) → e.length = sz := fun z hz => by
        rcases List.mem_or_eq_of_mem_set hz with hz | rfl
        · exact hok.2.2.2.1 z hz
        · rw [hspl]; exact hcl
      have hjl := (List.getElem?_eq_some_iff.1 hz).1
      rw [flat_len sz _ hall, hn] at hjl
      have hsz0 : 0 < sz := Nat.pos_of_ne_zero (fun h => by rw [h] at hjl; simp at hjl)
      have hdm := Nat.div_add_mod j sz
      have hmod := Nat.mod_lt j hsz0
      have hdiv : j / sz < es.length := Nat.div_lt_of_lt_mul (by rw [Nat.mul_comm]; exact hjl)
      have hj2 : j = j / sz * sz + j % sz := by rw [Nat.mul_comm]; exact hdm.symm
      have hget : (es.set k (splice cs off vs))[j / sz]? = some ((es.set k (splice cs off vs))[j / sz]'(by rw [hn]; exact hdiv)) := by simp [hdiv]
      have hz2 : ((es.set k (splice cs off vs))[j / sz]'(by rw [hn]; exact hdiv))[j % sz]? = some z := by
        rw [← flat_get sz _ (j / sz) (j % sz) _ hall hget hmod, ← hj2]; exact hz
      rw [Array.getD_eq_getD_getElem?, List.getElem?_toArray]
      have hold : (es[j / sz]'hdiv)[j % sz]? = some z → j < k * sz + off ∨ k * sz + off + vs.length ≤ j → RepA (Own C s ρ) ρ w z (((cur.toList.take (k * sz + off) ++ (a.eval y).cells.toList ++ cur.toList.drop (k * sz + off + (a.eval y).cells.toList.length))[j]?).getD undef) ∧
          (((cur.toList.take (k * sz + off) ++ (a.eval y).cells.toList ++ cur.toList.drop (k * sz + off + (a.eval y).cells.toList.length))[j]?).getD undef).oneCell' = true := by
        intro h1 h2
        have h3 : es.flatten[j]? = some z := by
          conv => lhs; rw [hj2]
          rw [flat_get sz es (j / sz) (j % sz) (es[j / sz]'hdiv) hok.2.2.2.1 (by simp [hdiv]) hmod]; exact h1
        have h4 := hok.2.2.2.2 j z h3
        have hcur : j < cur.size := by
          have := (List.getElem?_eq_some_iff.1 h3).1
          rw [flat_len sz es hok.2.2.2.1] at this
          have h5 : es.length * sz ≤ cap * sz := Nat.mul_le_mul_right _ hes
          have := hok.2.2.1
          omega
        have e1 : ((cur.toList.take (k * sz + off) ++ (a.eval y).cells.toList ++ cur.toList.drop (k * sz + off + (a.eval y).cells.toList.length))[j]?) = cur[j]? := by
          have hct : cur.toList.length = cur.size := Array.length_toList
          rcases h2 with h2 | h2
          · rw [List.append_assoc, List.getElem?_append_left (by rw [List.length_take]; omega), List.getElem?_take, if_pos h2]; simp
          · rw [List.getElem?_append_right (by rw [List.length_append, List.length_take]; omega), List.getElem?_drop]
            rw [Array.getElem?_toList]
            congr 1
            rw [List.length_append, List.length_take]; omega
        rw [e1, ← Array.getD_eq_getD_getElem?]; exact h4
      by_cases hjk : j / sz = k
      · rw [List.getElem_set, if_pos hjk.symm] at hz2
        rw [splice_get _ _ _ _ hle] at hz2
        have hkk : k * sz + j % sz = j := by rw [← hjk]; exact hj2.symm
        split at hz2
        · rename_i hin
          have e1 : ((cur.toList.take (k * sz + off) ++ (a.eval y).cells.toList ++ cur.toList.drop (k * sz + off + (a.eval y).cells.toList.length))[j]?) = (a.eval y).cells[j % sz - off]? := by
            have hct : cur.toList.length = cur.size := Array.length_toList
            rw [List.append_assoc, List.getElem?_append_right (by rw [List.length_take]; omega), List.getElem?_append_left (by rw [List.length_take]; omega), Array.getElem?_toList]
            congr 1
            rw [List.length_take]; omega
          rw [e1, ← Array.getD_eq_getD_getElem?]
          exact ⟨hr.2.1 _ _ hz2, hr.2.2 _ (by omega)⟩
        · rename_i hout
          refine hold ?_ (by omega)
          have : es[j / sz]'hdiv = cs := by
            have := (List.getElem?_eq_some_iff.1 hk).2
            subst hjk; exact this
          rw [this]; exact hz2
      · rw [List.getElem_set, if_neg (fun h => hjk h.symm)] at hz2
        refine hold hz2 ?_
        rcases Nat.lt_or_gt_of_ne hjk with h | h
        · left
          have : (j / sz + 1) * sz ≤ k * sz := Nat.mul_le_mul_right _ h
          rw [Nat.add_one_mul] at this; omega
        · right
          have : (k + 1) * sz ≤ j / sz * sz := Nat.mul_le_mul_right _ h
          rw [Nat.add_one_mul] at this; omega
  have hset := hs.setBlk hid' hu hub h0 hw hn hok'
  have hput := hset.put (dst := o.dst) hd (x := .p (.lit undef)) (v := undef) (.p _ _ (.lit _))
  exact hput.widen (fun _ => .inl)
end
end Go.Am
