/-
  The abstract machine, between its eleventh and its twelfth part: zeros behind the nil slice, a row made shorter, capacity.
-/
import Derived.Test.YtbdliooaiincdaaAm11
import Derived.Lib.AppendZerosOnto
namespace Go.Am
open Go.RowKit
section
variable {P : Program} {H : List Nat} {f : Nat} {V : PS} {K : Upd → Prop}

theorem rep_flat {α : Type} (zs : List α) : ∀ (m j : Nat) (x : α), (List.replicate m zs).flatten[j]? = some x → zs[j % zs.length]? = some x ∧ j < m * zs.length
  | 0, j, x, h => by simp at h
  | m + 1, j, x, h => by
    rw [List.replicate_succ, List.flatten_cons] at h
    by_cases hj : j < zs.length
    · rw [List.getElem?_append_left hj] at h
      rw [Nat.mod_eq_of_lt hj]
      exact ⟨h, by rw [Nat.add_mul]; omega⟩
    · rw [List.getElem?_append_right (by omega)] at h
      obtain ⟨h1, h2⟩ := rep_flat zs m (j - zs.length) x h
      rw [← Nat.mod_eq_sub_mod (by omega)] at h1
      exact ⟨h1, by rw [Nat.add_mul]; omega⟩

theorem zeroCells_get (z : Array Value) (n j : Nat) (h : j < n * z.size) : (Builtin.zeroCells z n).getD j undef = z.getD (j % z.size) undef := by
  have hp : 0 < z.size := by
    rcases Nat.eq_zero_or_pos z.size with h0 | h0
    · rw [h0] at h; simp at h
    · exact h0
  have hm : j % z.size < z.size := Nat.mod_lt _ hp
  simp [Builtin.zeroCells, Array.getD_eq_getD_getElem?, h, hm]

theorem exec_append2 {o : Oper} {s x : Operand} {t tn : TypeId} {args : Array Operand} {ts : Array TypeId} (ho : o.op = .call ⟨.builtin .append, args, ts⟩) (ha : args.toList = [s, x]) (ht : ts.toList = [t, tn]) (a : Act) {v : Value} {w w' : World}
    (h : (Builtin.append_ #[t, tn] o.type #[a.eval s, a.eval x]).run P w = .ok v w') : (execOp a.eval o).run P w = .ok (.value v) w' := by
  have ha' : args = #[s, x] := by rw [← Array.toArray_toList (xs := args), ha]
  have ht' : ts = #[t, tn] := by rw [← Array.toArray_toList (xs := ts), ht]
  subst ha' ht'
  simp [execOp, ho, resolve, invoke, builtin, h]

theorem snd_appZ {o : Oper} {s x : Operand} {t tn : TypeId} {args : Array Operand} {ts : Array TypeId} (ho : o.op = .call ⟨.builtin .append, args, ts⟩) (ha : args.toList = [s, x]) (ht : ts.toList = [t, tn]) (h : aAppZ P H f V o.dst t tn s x K) :
    ∃ u, K u ∧ StepA P o f V u := by
  obtain ⟨e, hT, kn, hN, by', hby, g, zs, hvar, hpos, hv, kq, n, hx, hn0, hbytes, hmax, _, hK⟩ := h
  obtain ⟨i, z, hi, hz, hsz, hbt, hzc⟩ := tb_run hby hvar
  have hs' : s ∈ o.op.operands := by simp [ho, Op.operands, Call.operands]; rw [← Array.mem_toList_iff, ha]; simp
  have hx' : x ∈ o.op.operands := by simp [ho, Op.operands, Call.operands]; rw [← Array.mem_toList_iff, ha]; simp
  obtain ⟨m, rfl⟩ : ∃ m : Nat, n = m := ⟨n.toNat, by omega⟩
  rw [Int.toNat_natCast] at hK
  have hmb : m * by' ≤ 140737488355328 := by
    have : ((m * by' : Nat) : Int) ≤ 140737488355328 := by rw [Int.natCast_mul]; exact hbytes
    omega
  have hm' : m ≤ maxLen := by omega
  have hm63 : (m : Int) ≤ 9223372036854775807 := by unfold maxLen at hm'; omega
  refine ⟨_, hK, stepA_own (.inl rfl) fun O ρ s0 a w hV hE hHp hNo => ?_⟩
  have r1 := (hE s _ (hV s hs' _ hv)).unP
  have r2 := (hE x _ (hV x hx' _ hx)).lit
  obtain ⟨ad, cap, he, hcap, hclip⟩ := seq_shape r1
  have hc0 : cap = 0 := by simpa using hclip rfl
  subst hc0
  simp only [List.length_nil] at he
  have hold : (Builtin.firstCells i.size 0 (.slice ad 0 0)).run P w.drew = .ok ([] : List Value).toArray w.drew := by
    cases ad with
    | none => exact run_firstCells_none w.drew i.size 0 0 0
    | some b => exact run_firstCells_some w.drew i.size 0 b 0 0 [] (by simp) (fun j v h => by simp at h)
  have hrun := Lib.run_append_grow_zeros w t tn o.type e i z kq kn (el_run hT) (int_run hN) hi hz ad 0 0 [] hold m (by omega) (by omega) (by omega) (by simpa using hm63) (by rw [hbt]; omega)
    (by rw [hbt]; exact growslice_fits (by omega) (by simpa using hmb))
  have hex := exec_append2 ho ha ht a (by rw [he, r2]; exact hrun)
  have hG := grownCap_ge w (0 + m) 0 e
  have hGl := grownCap_le_maxLen w (0 + m) 0 e (by simpa using hm')
  generalize hGd : grownCap w (0 + m) 0 e = G at hex hG hGl
  have hzr : RepCells O ρ w.drew (zs.map .p) z.cells := zero_info hvar (by simp [hi, hz]) O ρ w.drew
  have hlen : (lift (List.replicate m zs)).length = m := by simp [lift]
  refine ⟨_, w.drew, .slice (some ⟨w.heap.size, 0, none⟩) m G, e, _, G, hex, rfl, rfl, rfl, rfl, .inl (by rw [hlen]; rfl), by omega, ⟨by rw [hlen]; omega, hGl, ?_, ?_, ?_⟩, fun O' ρ' w' hρ' => by rw [Nat.zero_add]; exact .own f _ _ _ hρ'⟩
  · simp only [Array.size_append, size_zeroCells, hzc, hsz, List.size_toArray, List.length_nil]
    rw [Nat.zero_add, Nat.zero_add, ← Nat.add_mul]
    congr 1
    omega
  · intro y hy
    simp only [lift, List.map_replicate] at hy
    rw [List.eq_of_mem_replicate hy]; simp
  · intro j y hy
    rw [lift_flatten, List.getElem?_map] at hy
    obtain ⟨y', hy', rfl⟩ := Option.map_eq_some_iff.1 hy
    obtain ⟨h1, h2⟩ := rep_flat zs m j y' hy'
    have hzl : z.cells.size = zs.length := by rw [hzc, hsz]
    have e1 : ((([] : List Value).toArray ++ Builtin.zeroCells z.cells m ++ Builtin.zeroCells z.cells (G - (0 + m)))).getD j undef = z.cells.getD (j % zs.length) undef := by
      have hs1 : j < (Builtin.zeroCells z.cells m).size := by rw [size_zeroCells, hzl]; exact h2
      rw [Array.getD_eq_getD_getElem?, Array.getElem?_append_left (by simpa using hs1)]
      have e0 : (([] : List Value).toArray ++ Builtin.zeroCells z.cells m) = Builtin.zeroCells z.cells m := by simp
      rw [e0, ← Array.getD_eq_getD_getElem?, zeroCells_get _ _ _ (by rw [hzl]; exact h2), hzl]
    have hj := (List.getElem?_eq_some_iff.1 h1).1
    rw [e1]
    exact ⟨hzr.2.1 _ _ (by rw [List.getElem?_map, h1]; rfl), hzr.2.2 _ (by rw [List.length_map]; exact hj)⟩

theorem snd_shrink {o : Oper} {T e sz : Nat} {g : Bool} {x : Operand} {lo hi : Option Operand} {mx : Option Operand} (ho : o.op = .slice T x lo hi mx) (hT : tEl P T = some e) (hs : tSz P e = some (g, sz)) {id : Nat} {es : List (List AV)}
    (hv : V.eval x = some (.own id)) {a b d : Option Int} (ha : evalOpt V lo = some a) (hb : evalOpt V hi = some b) (hd : evalOpt V mx = some d) (hd0 : d = none) (h0 : 0 ≤ a.getD 0) (hid : V.hp id = some (.row sz es))
    (h1 : a.getD 0 ≤ b.getD es.length) (h2 : b.getD es.length ≤ es.length) (hz0 : a.getD 0 = 0) (hne : id ≠ f)
    (hK : K ⟨.own f, [(f, some (.row sz (es.take (b.getD es.length).toNat))), (id, none)]⟩) : ∃ u, K u ∧ StepA P o f V u := by
  refine ⟨_, hK, ?_⟩
  intro C U s0 act w hdst hf hV hHp ⟨ρ, hsat⟩ Q
  subst hd0
  have hE : ∀ y, y ∈ o.op.operands → ∀ v, V.eval y = some v → RepA (Own C s0 ρ) ρ w v (act.eval y) := fun y hy v hv => hsat.eval (hV y hy v hv)
  have hu := hE x (by simp [ho, Op.operands]) _ hv
  have ra := evalOpt_rep hE (fun y hy => by simp [ho, Op.operands, hy]) ha
  have rb := evalOpt_rep hE (fun y hy => by simp [ho, Op.operands, hy]) hb
  have rd := evalOpt_rep hE (fun y hy => by simp [ho, Op.operands, hy]) hd
  have conv1 : ∀ {q : Option Operand} {n : Option Int}, ((q = none ∧ n = none) ∨ ∃ x k m, q = some x ∧ n = some m ∧ act.eval x = .int k m) → (q.map act.eval = none ∧ n = none) ∨ ∃ k m, q.map act.eval = some (.int k m) ∧ n = some m := by
    rintro q n (⟨rfl, rfl⟩ | ⟨x, k, m, rfl, rfl, hx⟩)
    · exact .inl ⟨rfl, rfl⟩
    · exact .inr ⟨k, m, by simp [hx], rfl⟩
  have hid' := hHp id _ hid
  obtain ⟨u, hu2, hbk⟩ := hsat.heap id _ hid'
  have hown : ∃ ad cap, act.eval x = .slice ad es.length cap ∧ u = .slice ad es.length cap ∧ es.length ≤ cap ∧ ((es = [] ∧ cap = 0) ∨ ∃ b cur e', ad = some ⟨b, 0, none⟩ ∧ 0 < cap ∧ w.heap[b]? = some (.cells cur e' (0, 0)) ∧ BlkOk (Own C s0 ρ) ρ w sz es cap cur) := by
    generalize act.eval x = q at hu
    cases hu with
    | own _ ad n c hi2 =>
      rw [hu2] at hi2; injection hi2 with hi2; subst hi2
      rcases hbk with ⟨rfl, a', ha'⟩ | ⟨b, cap, cur, e', h1, h0, h2, hok⟩
      · injection ha' with q1 q2 q3; subst q1 q2 q3
        exact ⟨_, _, rfl, rfl, Nat.le_refl _, .inl ⟨rfl, rfl⟩⟩
      · rcases h1 with h1 | ⟨h1, _⟩
        · injection h1 with q1 q2 q3; subst q1 q2 q3
          exact ⟨_, _, rfl, rfl, hok.1, .inr ⟨b, cur, e', rfl, h0, h2, hok⟩⟩
        · cases h1
  obtain ⟨ad, cap, he, rfl, hcap, hcase⟩ := hown
  have hrun := run_sliceAt (P := P) (w := w) hT hs ad es.length cap _ _ _ (run_bounds (P := P) (w := w) (len := es.length) (cap := cap) (conv1 ra) (conv1 rb) (conv1 rd) (by simp) h0 h1 (by simp only [Option.getD_none]; omega) (by simp))
  simp only [Option.getD_none, Int.toNat_natCast, hz0, Int.toNat_zero, Nat.sub_zero, Nat.zero_mul] at hrun
  have had : (if cap = 0 then ad else ad.map (·.add 0)) = ad := by
    split
    · rfl
    · cases ad with
      | none => rfl
      | some q => simp [Addr.add]
  rw [had] at hrun
  generalize hnd : (b.getD es.length).toNat = n at hrun hK ⊢
  have hn : n ≤ es.length := by omega
  have hex : (execOp act.eval o).run P w = .ok (.value (.slice ad n cap)) w := by
    simp only [execOp, ho, he, Sem.run_bind, hrun, Result.andThen_ok, Sem.run_pure]
  rcases hcase with ⟨rfl, rfl⟩ | ⟨bk, cur, e', rfl, hc0, hw, hok⟩
  · have hn0 : n = 0 := by simpa using hn
    subst hn0
    have := ((hsat.newNil hf sz ad).dropBlk id).put hdst (x := .own f) (v := .slice ad 0 0) (.own f ad 0 0 (by simp))
    have e2 : (PS.upd ⟨s0.sl, PS.setHp (PS.setHp s0.hp [(f, some (.row sz []))]) [(id, none)]⟩ o.dst ⟨.own f, []⟩) = s0.upd o.dst ⟨.own f, [(f, some (.row sz (List.take 0 ([] : List (List AV))))), (id, none)]⟩ := by
      simp only [PS.upd, PS.setHp, PS.mk.injEq, true_and, List.take_nil]
      funext j
      by_cases e1 : j = id
      · by_cases e2 : j = f
        · exact absurd (e1.symm.trans e2) hne
        · simp [e1, hne]
      · simp [e1]
    simp only at this
    rw [e2] at this
    exact wp_value hex ⟨_, this⟩
  · have hlen : (es.take n).length = n := by rw [List.length_take]; omega
    have hok2 : BlkOk (Own C s0 ρ) ρ w sz (es.take n) cap cur := by
      refine ⟨by omega, hok.2.1, hok.2.2.1, fun y hy => hok.2.2.2.1 y (List.mem_of_mem_take hy), fun j y hy => hok.2.2.2.2 j y ?_⟩
      have e1 : es.flatten = (es.take n).flatten ++ (es.drop n).flatten := by rw [← List.flatten_append, List.take_append_drop]
      rw [e1, List.getElem?_append_left (List.getElem?_eq_some_iff.1 hy).1]
      exact hy
    have := (hsat.rename hf hid' hu2 hc0 hw hok2).put hdst (x := .own f) (v := .slice (some ⟨bk, 0, none⟩) n cap) (.own f _ _ _ (by simp [hlen]))
    rw [setRow_self w bk cur _ _ hw] at this
    exact wp_value hex ⟨_, this⟩
end
end Go.Am
