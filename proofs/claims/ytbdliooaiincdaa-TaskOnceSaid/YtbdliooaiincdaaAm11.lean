/-
  The abstract machine, eleventh part: slices, built-in functions, calls; all operations together.
-/
import Derived.Test.YtbdliooaiincdaaAm10
namespace Go.Am
open Go.RowKit

section
variable {P : Program} {H : List Nat} {f : Nat} {V : PS} {K : Upd → Prop}

theorem evalOpt_rep {O : Nat → Prop} {ρ : Nat → Option Value} {w : World} {a : Act} {xs : Array Operand} (hE : ∀ y, y ∈ xs → ∀ v, V.eval y = some v → RepA O ρ w v (a.eval y)) {lo : Option Operand} (hx : ∀ x, lo = some x → x ∈ xs) {n : Option Int}
    (h : evalOpt V lo = some n) : (lo = none ∧ n = none) ∨ ∃ x k m, lo = some x ∧ n = some m ∧ a.eval x = .int k m := by
  cases lo with
  | none => simp only [evalOpt, Option.some.injEq] at h; exact .inl ⟨rfl, h.symm⟩
  | some x =>
    simp only [evalOpt] at h
    split at h
    · rename_i k m hm
      simp only [Option.some.injEq] at h
      exact .inr ⟨x, k, m, rfl, h.symm, (hE x (hx x rfl) _ hm).lit⟩
    · cases h

theorem run_bounds {P : Program} {w : World} {len cap : Nat} {ea eb ed : Option Value} {a b d : Option Int} (ha : (ea = none ∧ a = none) ∨ ∃ k m, ea = some (.int k m) ∧ a = some m) (hb : (eb = none ∧ b = none) ∨ ∃ k m, eb = some (.int k m) ∧ b = some m)
    (hd : (ed = none ∧ d = none) ∨ ∃ k m, ed = some (.int k m) ∧ d = some m) (hdb : d.isSome = true → b.isSome = true) (h0 : 0 ≤ a.getD 0) (h1 : a.getD 0 ≤ b.getD len) (h2 : b.getD len ≤ d.getD cap) (h3 : d.getD cap ≤ cap) :
    (Instr.sliceBounds true len cap ea eb ed).run P w = .ok ((a.getD 0).toNat, (b.getD len).toNat, (d.getD cap).toNat) w := by
  have sb : ∀ (k : IntKind) (i : Int) (y : Nat) (code : BoundsCode), 0 ≤ i → i ≤ y → (Instr.sliceBound (.int k i) y code).run P w = .ok i.toNat w := by
    intro k i y code g1 g2
    simp [Instr.sliceBound, asIntOf, g1, g2]
  have hq : ∀ (y : Nat) (z : Int), z ≤ y → 0 ≤ z → (z.toNat : Int) = z := fun y z _ hz => Int.toNat_of_nonneg hz
  rcases hd with ⟨rfl, rfl⟩ | ⟨kd, md, rfl, rfl⟩
  · simp only [Option.getD_none] at h2 h3 ⊢
    rcases hb with ⟨rfl, rfl⟩ | ⟨kb, mb, rfl, rfl⟩
    · simp only [Option.getD_none] at h1 h2 ⊢
      rcases ha with ⟨rfl, rfl⟩ | ⟨ka, ma, rfl, rfl⟩
      · simp [Instr.sliceBounds]
      · simp only [Option.getD_some] at h0 h1 ⊢
        simp [Instr.sliceBounds, sb ka ma len _ h0 h1]
    · simp only [Option.getD_some] at h1 h2 ⊢
      have hb0 : 0 ≤ mb := Int.le_trans h0 h1
      rcases ha with ⟨rfl, rfl⟩ | ⟨ka, ma, rfl, rfl⟩
      · simp [Instr.sliceBounds, sb kb mb cap _ hb0 h2]
      · simp only [Option.getD_some] at h0 h1 ⊢
        simp [Instr.sliceBounds, sb kb mb cap _ hb0 h2, sb ka ma mb.toNat _ h0 (by omega)]
  · simp only [Option.getD_some] at h2 h3 ⊢
    rcases hb with ⟨rfl, rfl⟩ | ⟨kb, mb, rfl, rfl⟩
    · simp at hdb
    · simp only [Option.getD_some] at h1 h2 ⊢
      have hb0 : 0 ≤ mb := Int.le_trans h0 h1
      have hd0 : 0 ≤ md := Int.le_trans hb0 h2
      rcases ha with ⟨rfl, rfl⟩ | ⟨ka, ma, rfl, rfl⟩
      · simp [Instr.sliceBounds, sb kd md cap _ hd0 h3, sb kb mb md.toNat _ hb0 (by omega)]
      · simp only [Option.getD_some] at h0 h1 ⊢
        simp [Instr.sliceBounds, sb kd md cap _ hd0 h3, sb kb mb md.toNat _ hb0 (by omega), sb ka ma mb.toNat _ h0 (by omega)]

theorem run_sliceAt {P : Program} {w : World} {T e sz : Nat} {g : Bool} (hT : tEl P T = some e) (hs : tSz P e = some (g, sz)) (ad : Option Addr) (len cap : Nat) (ea eb ed : Option Value) {l h m : Nat}
    (hb : (Instr.sliceBounds true len cap ea eb ed).run P w = .ok (l, h, m) w) :
    (Instr.sliceAt T (.slice ad len cap) ea eb ed).run P w = .ok (.slice (if m = l then ad else ad.map (·.add (l * sz))) (h - l) (m - l)) w := by
  simp [Instr.sliceAt, Instr.slice, run_underlying (el_run hT), hb, run_sizeOf hs]

theorem take_drop_flat {es : List (List PV)} {sz l h : Nat} (hl : ∀ x, x ∈ es → x.length = sz) (hlh : l ≤ h) (hh : h ≤ es.length) {j : Nat} {x : PV} (hx : ((es.take h).drop l).flatten[j]? = some x) :
    es.flatten[l * sz + j]? = some x := by
  have h3 : es = es.take l ++ ((es.take h).drop l ++ es.drop h) := by
    have h1 : (es.take h) = es.take l ++ (es.take h).drop l := by
      conv => lhs; rw [← List.take_append_drop l (es.take h)]
      rw [List.take_take, Nat.min_eq_left hlh]
    rw [← List.append_assoc, ← h1, List.take_append_drop]
  have h4 : (es.take l).flatten.length = l * sz := by
    rw [flat_len sz _ (fun x hx => hl x (List.mem_of_mem_take hx)), List.length_take, Nat.min_eq_left (by omega)]
  rw [h3, List.flatten_append, List.flatten_append, List.getElem?_append_right (by omega), h4, Nat.add_sub_cancel_left, List.getElem?_append_left (List.getElem?_eq_some_iff.1 hx).1]
  exact hx

theorem snd_slice_seq {o : Oper} {T e sz : Nat} {g : Bool} {x : Operand} {lo hi mx : Option Operand} (ho : o.op = .slice T x lo hi mx) (hT : tEl P T = some e) (hs : tSz P e = some (g, sz)) {c : Bool} {es : List (List PV)}
    (hv : V.eval x = some (.p (.seq c es))) {a b d : Option Int} (ha : evalOpt V lo = some a) (hb : evalOpt V hi = some b) (hd : evalOpt V mx = some d) (hdb : d.isSome = true → b.isSome = true) (h0 : 0 ≤ a.getD 0)
    (hl : ∀ y, y ∈ es → y.length = sz) (h1 : a.getD 0 ≤ b.getD es.length) (h2 : b.getD es.length ≤ d.getD es.length) (h3 : d.getD es.length ≤ es.length)
    (hK : K ⟨.p (.seq (clipOf c es.length b d) ((es.take (b.getD es.length).toNat).drop (a.getD 0).toNat)), []⟩) : ∃ u, K u ∧ StepA P o f V u :=
  mk_pure hK fun O ρ s act w hE hH => by
    have hu := (hE x (by simp [ho, Op.operands]) _ hv).unP
    have ra := evalOpt_rep hE (fun y hy => by simp [ho, Op.operands, hy]) ha
    have rb := evalOpt_rep hE (fun y hy => by simp [ho, Op.operands, hy]) hb
    have rd := evalOpt_rep hE (fun y hy => by simp [ho, Op.operands, hy]) hd
    have conv1 : ∀ {q : Option Operand} {n : Option Int}, ((q = none ∧ n = none) ∨ ∃ x k m, q = some x ∧ n = some m ∧ act.eval x = .int k m) → (q.map act.eval = none ∧ n = none) ∨ ∃ k m, q.map act.eval = some (.int k m) ∧ n = some m := by
      rintro q n (⟨rfl, rfl⟩ | ⟨x, k, m, rfl, rfl, hx⟩)
      · exact .inl ⟨rfl, rfl⟩
      · exact .inr ⟨k, m, by simp [hx], rfl⟩
    -- the slice's own shape
    have key : ∃ ad cap, act.eval x = .slice ad es.length cap ∧ es.length ≤ cap ∧ (c = true → cap = es.length) := by
      generalize act.eval x = z at hu
      cases hu with
      | nilseq _ ad cap hc => exact ⟨ad, cap, rfl, Nat.zero_le _, fun h => by simpa using hc h⟩
      | seq _ _ sz' b' off cap q g1 g2 g3 g4 g5 => exact ⟨_, cap, rfl, g2, g3⟩
    obtain ⟨ad, cap, he, hcap, hclip⟩ := key
    have hrun := run_sliceAt (P := P) (w := w) hT hs ad es.length cap _ _ _ (run_bounds (P := P) (w := w) (len := es.length) (cap := cap) (conv1 ra) (conv1 rb) (conv1 rd) hdb h0 h1
      (by cases d with | none => simp only [Option.getD_none] at h2 h3 ⊢; omega | some m => exact h2) (by cases d with | none => simp | some m => simp only [Option.getD_some] at h3 ⊢; omega))
    refine ⟨_, (by simp only [execOp, ho, he, Sem.run_bind, hrun, Result.andThen_ok, Sem.run_pure]; exact rfl), .p _ _ ?_⟩
    -- the new slice
    have hlen : ((es.take (b.getD es.length).toNat).drop (a.getD 0).toNat).length = (b.getD es.length).toNat - (a.getD 0).toNat := by
      rw [List.length_drop, List.length_take, Nat.min_eq_left (by omega)]
    have hlh : (a.getD 0).toNat ≤ (b.getD es.length).toNat := by omega
    have hhn : (b.getD es.length).toNat ≤ es.length := by omega
    have hcl : clipOf c es.length b d = true → (d.getD cap).toNat - (a.getD 0).toNat = (b.getD es.length).toNat - (a.getD 0).toNat := by
      intro h
      unfold clipOf at h
      cases d with
      | some m =>
        simp only [decide_eq_true_eq] at h
        subst h; simp
      | none =>
        cases b with
        | none => simp only at h; rw [hclip h]
        | some hh =>
          simp only [Bool.and_eq_true, decide_eq_true_eq] at h
          rw [hclip h.1]; simp [h.2]
    by_cases hzero : (b.getD es.length).toNat - (a.getD 0).toNat = 0
    · have hnil : (es.take (b.getD es.length).toNat).drop (a.getD 0).toNat = [] := List.eq_nil_of_length_eq_zero (by rw [hlen, hzero])
      rw [hnil, hzero]
      exact .nilseq _ _ _ (fun h => by have := hcl h; omega)
    · have hpos : 0 < es.length := by omega
      generalize act.eval x = z at hu he
      subst he
      cases hu with
      | nilseq _ ad cap hc => simp at hpos
      | seq _ _ sz' b' off _ q g1 g2 g3 g4 g5 =>
        have hszz : sz' = sz := by
          obtain ⟨e0, he0⟩ : ∃ e0, e0 ∈ es := ⟨es[0], by simp⟩
          rw [← g1 e0 he0, hl e0 he0]
        subst hszz
        have e1 : (if (d.getD cap).toNat = (a.getD 0).toNat then some (⟨b', off, none⟩ : Addr) else (some (⟨b', off, none⟩ : Addr)).map (·.add ((a.getD 0).toNat * sz'))) = some ⟨b', off + (a.getD 0).toNat * sz', none⟩ := by
          rw [if_neg]
          · simp [Addr.add_lit]
          · cases d with
            | none => simp only [Option.getD_none]; omega
            | some m => simp only [Option.getD_some] at h2 h3 ⊢; omega
        rw [e1, ← hlen]
        refine .seq _ _ sz' b' _ _ (fun j => q ((a.getD 0).toNat * sz' + j)) (fun y hy => g1 y (List.mem_of_mem_take (List.mem_of_mem_drop hy))) ?_ (fun h => by rw [hcl h, hlen]) (fun j hj => ?_) (fun j y hy => g5 _ _ (take_drop_flat g1 hlh hhn hy))
        · rw [hlen]
          cases d with
          | none => simp only [Option.getD_none]; omega
          | some m => simp only [Option.getD_some] at h2 ⊢; omega
        · have := g4 _ (List.getElem?_eq_some_iff.1 (take_drop_flat g1 hlh hhn (List.getElem?_eq_getElem hj))).1
          rw [← Nat.add_assoc] at this
          exact this

theorem snd_slice_own {o : Oper} {T e sz : Nat} {g : Bool} {x : Operand} {lo hi : Option Operand} {mx : Option Operand} (ho : o.op = .slice T x lo hi mx) (hT : tEl P T = some e) (hs : tSz P e = some (g, sz)) {id : Nat} {es : List (List AV)}
    (hv : V.eval x = some (.own id)) {a b d : Option Int} (ha : evalOpt V lo = some a) (hb : evalOpt V hi = some b) (hd : evalOpt V mx = some d) (hd0 : d = none) (h0 : 0 ≤ a.getD 0) (hid : V.hp id = some (.row sz es))
    (h1 : a.getD 0 ≤ b.getD es.length) (h2 : b.getD es.length ≤ es.length)
    (hK : K ⟨.sub id sz (a.getD 0).toNat ((b.getD es.length).toNat - (a.getD 0).toNat), []⟩) : ∃ u, K u ∧ StepA P o f V u :=
  mk_pure hK fun O ρ s act w hE hH => by
    subst hd0
    have hu := hE x (by simp [ho, Op.operands]) _ hv
    have ra := evalOpt_rep hE (fun y hy => by simp [ho, Op.operands, hy]) ha
    have rb := evalOpt_rep hE (fun y hy => by simp [ho, Op.operands, hy]) hb
    have rd := evalOpt_rep hE (fun y hy => by simp [ho, Op.operands, hy]) hd
    have conv1 : ∀ {q : Option Operand} {n : Option Int}, ((q = none ∧ n = none) ∨ ∃ x k m, q = some x ∧ n = some m ∧ act.eval x = .int k m) → (q.map act.eval = none ∧ n = none) ∨ ∃ k m, q.map act.eval = some (.int k m) ∧ n = some m := by
      rintro q n (⟨rfl, rfl⟩ | ⟨x, k, m, rfl, rfl, hx⟩)
      · exact .inl ⟨rfl, rfl⟩
      · exact .inr ⟨k, m, by simp [hx], rfl⟩
    obtain ⟨u, hu2, hbk⟩ := hH id _ hid
    generalize hz : act.eval x = z at hu
    cases hu with
    | own _ ad len cap hi2 =>
      rw [hu2] at hi2; injection hi2 with hi2; subst hi2
      have hle : len = es.length ∧ es.length ≤ cap ∧ (es.length = 0 ∨ ∃ b', ad = some ⟨b', 0, none⟩ ∧ 0 < cap) := by
        rcases hbk with ⟨rfl, a', ha'⟩ | ⟨b', cap', cur, e', g1, g0, g2, g3⟩
        · injection ha' with q1 q2 q3; subst q2 q3; exact ⟨rfl, by simp, .inl rfl⟩
        · rcases g1 with g1 | ⟨g1, _⟩
          · injection g1 with q1 q2 q3; subst q1 q2 q3; exact ⟨rfl, g3.1, .inr ⟨b', rfl, g0⟩⟩
          · cases g1
      obtain ⟨rfl, hcap, hcase⟩ := hle
      have hrun := run_sliceAt (P := P) (w := w) hT hs ad es.length cap _ _ _ (run_bounds (P := P) (w := w) (len := es.length) (cap := cap) (conv1 ra) (conv1 rb) (conv1 rd) (by simp) h0 h1 (by simp only [Option.getD_none]; omega) (by simp))
      refine ⟨_, (by simp only [execOp, ho, hz, Sem.run_bind, hrun, Result.andThen_ok, Sem.run_pure]; exact rfl), ?_⟩
      simp only [Option.getD_none, Int.toNat_natCast]
      by_cases hzero : (b.getD es.length).toNat - (a.getD 0).toNat = 0
      · rw [hzero]; exact .sub0 _ _ _ _ _
      · rcases hcase with hcase | ⟨b', rfl, g0⟩
        · omega
        · rw [if_neg (by omega)]
          simp only [Option.map_some, Addr.add_lit, Nat.zero_add]
          exact .sub id _ _ _ _ _ sz b' hu2 g0

theorem tb_run {P : Program} {e by' : Nat} {g : Bool} {zs : List PV} (hb : tBytes P e = some by') (ht : tVar P e = some (g, zs)) : ∃ i z, P.info? e = some i ∧ i.zero = some z ∧ i.size = zs.length ∧ i.bytes = by' ∧ z.cells.size = i.size := by
  unfold tVar at ht
  unfold tBytes at hb
  split at ht
  · rename_i d i hd hi
    split at ht
    · rename_i z hz
      split at ht
      · rename_i hc
        simp only [Option.some.injEq, Prod.mk.injEq] at ht
        obtain ⟨_, rfl⟩ := ht
        rw [hi] at hb
        simp only [Option.map_some, Option.some.injEq] at hb
        exact ⟨i, z, hi, hz, by simp [zcells, hc.1], hb, hc.1⟩
      · cases ht
    · cases ht
  · cases ht

theorem exec_append {o : Oper} {s x : Operand} {t : TypeId} {args : Array Operand} {ts : Array TypeId} (ho : o.op = .call ⟨.builtin .append, args, ts⟩) (ha : args.toList = [s, x]) (ht : ts.toList = [t, t]) (a : Act) {v : Value} {w w' : World}
    (h : (Builtin.append_ #[t, t] o.type #[a.eval s, a.eval x]).run P w = .ok v w') : (execOp a.eval o).run P w = .ok (.value v) w' := by
  have ha' : args = #[s, x] := by rw [← Array.toArray_toList (xs := args), ha]
  have ht' : ts = #[t, t] := by rw [← Array.toArray_toList (xs := ts), ht]
  subst ha' ht'
  simp [execOp, ho, resolve, invoke, builtin, h]

theorem seq_shape {O : Nat → Prop} {w : World} {c : Bool} {es : List (List PV)} {v : Value} (h : RepP O w (.seq c es) v) : ∃ ad cap, v = .slice ad es.length cap ∧ es.length ≤ cap ∧ (c = true → cap = es.length) := by
  cases h with
  | nilseq _ ad cap hc => exact ⟨ad, cap, rfl, Nat.zero_le _, fun h => by simpa using hc h⟩
  | seq _ _ sz' b' off cap q g1 g2 g3 g4 g5 => exact ⟨_, cap, rfl, g2, g3⟩

theorem len_lit {O : Nat → Prop} {w : World} {c : Bool} {es : List (List PV)} {sz : Nat} (hl : ∀ y, y ∈ es → y.length = sz) {cap : Nat} {cur : Array Value} {ρ : Nat → Option Value} {w' : World} (h1 : es.length ≤ cap) (h2 : cap ≤ maxLen) (h3 : cur.size = cap * sz)
    (h4 : ∀ j x, es.flatten[j]? = some x → RepP O w x (cur.getD j undef) ∧ (cur.getD j undef).oneCell' = true) (hm : Moves O w O w') (_ : c = c) : BlkOk O ρ w' sz (lift es) cap cur :=
  ⟨by rw [lift_length]; exact h1, h2, h3, lift_len.2 hl, fun j x hx => by
    rw [lift_flatten, List.getElem?_map] at hx
    obtain ⟨y, hy, rfl⟩ := Option.map_eq_some_iff.1 hx
    exact ⟨.p _ _ ((h4 j y hy).1.mono hm), (h4 j y hy).2⟩⟩

theorem run_append_room' {P : Program} {w : World} (t ty e e' : TypeId) (i : TypeInfo) (ht : P.underlying t = some (.slice e)) (hi : P.info? e = some i)
    (g sLen sCap : Nat) (cur : Array Value) (hg : w.heap[g]? = some (.cells cur e' (0, 0)))
    (a : Addr) (m c : Nat) (news : List Value) (hl : news.length = m * i.size) (hnews : ∀ j u, news[j]? = some u → w.cell? (a.add j) = some u) (h1 : ∀ u ∈ news, u.oneCell' = true)
    (hroom : sLen + m ≤ sCap) (hfit : sLen * i.size + news.length ≤ cur.size) :
    (Builtin.append_ #[t, t] ty #[.slice (some ⟨g, 0, none⟩) sLen sCap, .slice (some a) m c]).run P w =
      .ok (.slice (some ⟨g, 0, none⟩) (sLen + m) sCap) (w.setRow g (cur.toList.take (sLen * i.size) ++ news ++ cur.toList.drop (sLen * i.size + news.length)).toArray) := by
  have hf := run_firstCells_some (P := P) w i.size m a m c news hl hnews
  have hst := run_storeCells_at (P := P) g (sLen * i.size) e' news 0 cur w hg (by simpa using hfit) h1
  simp only [Nat.add_zero] at hst
  simp [Builtin.append_, run_underlying ht, sizeOf, typeInfo, hi, Builtin.lenOf, hroom, hf, Addr.add_lit, hst]

theorem snd_append {o : Oper} {s x : Operand} {t : TypeId} {args : Array Operand} {ts : Array TypeId} (ho : o.op = .call ⟨.builtin .append, args, ts⟩) (ha : args.toList = [s, x]) (ht : ts.toList = [t, t]) (h : aAppend P H f V o.dst t s x K) :
    ∃ u, K u ∧ StepA P o f V u := by
  obtain ⟨e, hT, by', hby, g, zs, hvar, hpos, v, hv, v2, hv2, es2, hsrc, hl2, h⟩ := h
  obtain ⟨i, z, hi, hz, hsz, hbt, hzc⟩ := tb_run hby hvar
  have hu := el_run hT
  have hs' : s ∈ o.op.operands := by simp [ho, Op.operands, Call.operands]; rw [← Array.mem_toList_iff, ha]; simp
  have hx' : x ∈ o.op.operands := by simp [ho, Op.operands, Call.operands]; rw [← Array.mem_toList_iff, ha]; simp
  split at h
  · rename_i es1
    obtain ⟨hl1, hbytes, hmax, h⟩ := h
    by_cases hn2 : es2 = []
    · subst hn2
      split at h
      · rename_i hH
        obtain ⟨hor, hK⟩ := h
        have hes1 : es1 = [] := by rcases hor with h | h; exact h; exact absurd rfl h
        subst hes1
        refine ⟨_, hK, ?_⟩
        intro C U s0 a w hd hf hV hHp ⟨ρ, hs⟩ Q
        have r1 := (hs.eval (hV s hs' _ hv)).unP
        obtain ⟨vs2, l2⟩ := lies_src hsrc (fun id k hk => hs.heap id k (hHp id k hk)) (hs.eval (hV x hx' _ hv2))
        obtain ⟨ad, cap, he, hcap, hclip⟩ := seq_shape r1
        obtain ⟨ad2, c2, he2, _⟩ := l2.slice
        have hc0 : cap = 0 := by simpa using hclip rfl
        subst hc0
        have hrun := run_append_none (P := P) t o.type e i hu hi ad ad2 0 0 c2 (Nat.le_refl _) w
        simp only [List.length_nil] at he he2
        have hex := exec_append ho ha ht a (by rw [he, he2]; exact hrun)
        have := (hs.newNil hf zs.length ad).put hd (x := .own f) (v := .slice ad 0 0) (.own f ad 0 0 (by simp))
        exact wp_value hex ⟨_, this⟩
      · rename_i hH
        rw [List.append_nil] at h
        refine ⟨_, h, stepA_pure fun O ρ s0 a w hV hE hHp => ?_⟩
        have r1 := (hE s _ (hV s hs' _ hv)).unP
        obtain ⟨vs2, l2⟩ := lies_src hsrc hHp (hE x _ (hV x hx' _ hv2))
        obtain ⟨ad, cap, he, hcap, hclip⟩ := seq_shape r1
        obtain ⟨ad2, c2, he2, _⟩ := l2.slice
        have hrun := run_append_none (P := P) t o.type e i hu hi ad ad2 es1.length cap c2 hcap w
        simp only [List.length_nil] at he2
        refine ⟨_, exec_append ho ha ht a (by rw [he, he2]; exact hrun), .p _ _ ?_⟩
        rw [he] at r1
        cases r1 with
        | nilseq _ _ _ hc => exact .nilseq _ _ _ (fun h => by cases h)
        | seq _ _ sz' b' off _ q g1 g2 g3 g4 g5 => exact .seq _ _ sz' b' off _ q g1 g2 (fun h => by cases h) g4 g5
    · have hpos2 : 0 < es2.length := by cases es2 with | nil => exact absurd rfl hn2 | cons => simp
      -- the run
      have hrun : ∀ (O : Nat → Prop) (ρ : Nat → Option Value) (a : Act) (w : World), RepA O ρ w (.p (.seq true es1)) (a.eval s) → RepA O ρ w v2 (a.eval x) → (∀ id k, V.hp id = some k → ∃ v, ρ id = some v ∧ BlkRep O ρ w v k) →
          ∃ cap cur, (execOp a.eval o).run P w = .ok (.value (.slice (some ⟨w.heap.size, 0, none⟩) (es1 ++ es2).length cap)) (w.drew.alloc (.cells cur e)) ∧ (es1 ++ es2).length ≤ cap ∧ cap ≤ maxLen ∧
            cur.size = cap * zs.length ∧ ∀ j x, (es1 ++ es2).flatten[j]? = some x → RepP O w x (cur.getD j undef) ∧ (cur.getD j undef).oneCell' = true := by
        intro O ρ a w r1 r2 hHp
        obtain ⟨vs1, l1⟩ := lies_seq r1.unP
        obtain ⟨vs2, l2⟩ := lies_src hsrc hHp r2
        obtain ⟨ad, cap, he, hcap, hclip⟩ := seq_shape r1.unP
        have hc := hclip rfl
        subst hc
        obtain ⟨cap', cur, h1, h2, h3, h4, h5⟩ := run_append_more (P := P) t o.type e i z hu hi hz hzc l1 l2 es1.length ⟨ad, he⟩ (by omega)
          (fun hnil => by
            rw [he] at hnil
            injection hnil with q1 q2 q3
            subst q1
            have := r1.unP
            rw [he] at this
            cases this with
            | nilseq => rfl) (fun y hy => by rw [hsz]; exact hl1 y hy) (fun y hy => by rw [hsz]; exact hl2 y hy) hpos2 hmax (by rw [hbt]; exact hbytes)
        exact ⟨cap', cur, exec_append ho ha ht a h1, h2, h3, by rw [← hsz]; exact h4, h5⟩
      have hle : ∀ y, y ∈ es1 ++ es2 → y.length = zs.length := fun y hy => by
        rcases List.mem_append.1 hy with hy | hy
        · exact hl1 y hy
        · exact hl2 y hy
      split at h
      · rename_i hH
        obtain ⟨_, hK⟩ := h
        refine ⟨_, hK, stepA_own (.inl rfl) fun O ρ s0 a w hV hE hHp hN => ?_⟩
        obtain ⟨cap, cur, h1, h2, h3, h4, h5⟩ := hrun O ρ a w (hE s _ (hV s hs' _ hv)) (hE x _ (hV x hx' _ hv2)) hHp
        refine ⟨_, w.drew, .slice (some ⟨w.heap.size, 0, none⟩) (es1 ++ es2).length cap, e, cur, cap, h1, rfl, rfl, rfl, rfl, .inl (by rw [lift_length]; rfl), ?_, ?_, fun O' ρ' w' hρ' => .own f _ _ _ hρ'⟩
        · have : 0 < (es1 ++ es2).length := by rw [List.length_append]; omega
          omega
        · exact len_lit (c := true) hle h2 h3 h4 h5 ⟨Nat.le_refl _, fun _ _ _ => rfl, fun _ _ x => x⟩ rfl
      · refine ⟨_, h, stepA_new fun O ρ s0 a w hV hE hHp hN => ?_⟩
        obtain ⟨cap, cur, h1, h2, h3, h4, h5⟩ := hrun O ρ a w (hE s _ (hV s hs' _ hv)) (hE x _ (hV x hx' _ hv2)) hHp
        refine ⟨_, _, h1, .p _ _ ?_, by simp, fun b hb => heap_alloc_old w.drew _ hb, rfl, rfl, rfl⟩
        have hm : Moves O w O (w.drew.alloc (.cells cur e)) := ⟨by simp, fun b hb _ => heap_alloc_old w.drew _ hb, fun _ _ x => x⟩
        refine .seq false (es1 ++ es2) zs.length w.heap.size 0 cap (fun j => cur.getD j undef) hle h2 (fun h => by cases h) (fun j hj => ⟨hN _ (Nat.le_refl _), ?_, ?_⟩) (fun j y hy => (h5 j y hy).1.mono hm)
        · rw [Nat.zero_add]
          refine cell_row (e := e) (heap_alloc_new w.drew _) ?_
          rw [flat_len zs.length _ hle] at hj
          have : (es1 ++ es2).length * zs.length ≤ cap * zs.length := Nat.mul_le_mul_right _ h2
          omega
        · exact (h5 j _ (List.getElem?_eq_getElem hj)).2
  · rename_i id
    obtain ⟨es1, hid, hbytes, hmax, hne, hK⟩ := h
    have hstep : StepA P o f V ⟨.own f, [(f, some (.row zs.length (lift (es1 ++ es2)))), (id, none)]⟩ := by
      intro C U s0 a w hd hf hV hHp ⟨ρ, hs⟩ Q
      have r1 := hs.eval (hV s hs' _ hv)
      have hid' := hHp id _ hid
      obtain ⟨vs2, l2⟩ := lies_src hsrc (fun id k hk => hs.heap id k (hHp id k hk)) (hs.eval (hV x hx' _ hv2))
      obtain ⟨vs1, l1⟩ := lies_src (V := V) (x := .own id) (es := es1) ⟨_, hid⟩ (fun id k hk => hs.heap id k (hHp id k hk)) r1
      obtain ⟨u, hu2, hb⟩ := hs.heap id _ hid'
      have hown : ∃ ad cap, a.eval s = .slice ad es1.length cap ∧ u = .slice ad es1.length cap ∧ ((es1 = [] ∧ cap = 0) ∨ ∃ b cur e', ad = some ⟨b, 0, none⟩ ∧ 0 < cap ∧ w.heap[b]? = some (.cells cur e' (0, 0)) ∧ BlkOk (Own C s0 ρ) ρ w zs.length (lift es1) cap cur) := by
        generalize a.eval s = q at r1
        cases r1 with
        | own _ ad n c hi2 =>
          rw [hu2] at hi2; injection hi2 with hi2; subst hi2
          rcases hb with ⟨hnil, a', ha'⟩ | ⟨b, cap, cur, e', h1, h0, h2, hok⟩
          · have : es1 = [] := by simpa [lift] using hnil
            subst this
            injection ha' with q1 q2 q3; subst q1 q2 q3
            exact ⟨_, _, rfl, rfl, .inl ⟨rfl, rfl⟩⟩
          · rcases h1 with h1 | ⟨h1, _⟩
            · injection h1 with q1 q2 q3; subst q1 q3
              rw [lift_length] at q2; subst q2
              exact ⟨_, _, rfl, rfl, .inr ⟨b, cur, e', rfl, h0, h2, hok⟩⟩
            · cases h1
      obtain ⟨ad, cap, he, rfl, hcase⟩ := hown
      have hl1 : ∀ y, y ∈ es1 → y.length = zs.length := by
        rcases hcase with ⟨rfl, _⟩ | ⟨b, cur, e', _, _, _, hok⟩
        · intro y hy; cases hy
        · exact lift_len.1 hok.2.2.2.1
      have hlen2 : vs2.length = es2.length * zs.length := by rw [l2.len, flat_len zs.length es2 hl2]
      have hle : ∀ y, y ∈ es1 ++ es2 → y.length = zs.length := fun y hy => by
        rcases List.mem_append.1 hy with hy | hy
        · exact hl1 y hy
        · exact hl2 y hy
      obtain ⟨ad2, c2, he2, hsome2⟩ := l2.slice
      have hcape : es1.length ≤ cap := by
        rcases hcase with ⟨rfl, rfl⟩ | ⟨b, cur, e', _, _, _, hok⟩
        · simp
        · have := hok.1; rwa [lift_length] at this
      by_cases hroom : es1.length + es2.length ≤ cap
      · rcases hcase with ⟨rfl, rfl⟩ | ⟨b, cur, e', rfl, h0, hw, hok⟩
        · -- nothing to nothing
          have hes2 : es2 = [] := List.eq_nil_of_length_eq_zero (by simpa using hroom)
          subst hes2
          have hrun := run_append_none (P := P) t o.type e i hu hi ad ad2 0 0 c2 (Nat.le_refl _) w
          simp only [List.length_nil] at he he2
          have hex := exec_append ho ha ht a (by rw [he, he2]; exact hrun)
          have := ((hs.newNil hf zs.length ad).dropBlk id).put hd (x := .own f) (v := .slice ad 0 0) (.own f ad 0 0 (by simp))
          have e2 : (PS.upd ⟨s0.sl, PS.setHp (PS.setHp s0.hp [(f, some (.row zs.length []))]) [(id, none)]⟩ o.dst ⟨.own f, []⟩) = s0.upd o.dst ⟨.own f, [(f, some (.row zs.length (lift ([] ++ [])))), (id, none)]⟩ := by
            simp only [PS.upd, PS.setHp, PS.mk.injEq, true_and, List.append_nil, lift_nil]
            funext j
            by_cases e1 : j = id
            · by_cases e2 : j = f
              · exact absurd (e1.symm.trans e2) hne
              · simp [e1, hne]
            · simp [e1]
          simp only at this
          rw [e2] at this
          exact wp_value hex ⟨_, this⟩
        · -- in place
          have hfit : es1.length * i.size + vs2.length ≤ cur.size := by
            rw [hlen2, hok.2.2.1, hsz, ← Nat.add_mul]; exact Nat.mul_le_mul_right _ hroom
          have h1c : ∀ q ∈ vs2, q.oneCell' = true := by
            intro q hq
            obtain ⟨j, hj, rfl⟩ := List.getElem_of_mem hq
            have := (l2.rep j _ (List.getElem?_eq_getElem (by rw [← l2.len]; exact hj))).2
            rw [List.getD_eq_getElem?_getD, List.getElem?_eq_getElem hj] at this
            exact this
          have hrun : (Builtin.append_ #[t, t] o.type #[.slice (some ⟨b, 0, none⟩) es1.length cap, .slice ad2 es2.length c2]).run P w =
              .ok (.slice (some ⟨b, 0, none⟩) (es1 ++ es2).length cap) (w.setRow b (cur.toList.take (es1.length * zs.length) ++ vs2 ++ cur.toList.drop (es1.length * zs.length + vs2.length)).toArray) := by
            by_cases hz2 : es2.length = 0
            · have hv2n : vs2 = [] := List.eq_nil_of_length_eq_zero (by rw [hlen2, hz2]; simp)
              have := run_append_none (P := P) t o.type e i hu hi (some ⟨b, 0, none⟩) ad2 es1.length cap c2 hcape w
              rw [hz2, this, hv2n, List.length_append, hz2]
              simp only [List.append_nil, List.length_nil, Nat.add_zero, List.take_append_drop, Array.toArray_toList]
              rw [setRow_self w b cur _ _ hw]
            · obtain ⟨b2, rfl, hc2⟩ := hsome2 (by omega)
              have := run_append_room' (P := P) (w := w) t o.type e e' i hu hi b es1.length cap cur hw b2 es2.length c2 vs2 (by rw [hlen2, hsz]) hc2 h1c hroom hfit
              rw [this, List.length_append, hsz]
          have hex := exec_append ho ha ht a (by rw [he, he2]; exact hrun)
          have hok2 := blk_room hok l2 hl2 hroom
          have := (hs.rename hf hid' (by rw [lift_length]; exact hu2) h0 hw hok2).put hd (x := .own f) (v := .slice (some ⟨b, 0, none⟩) (es1 ++ es2).length cap) (.own f _ _ _ (by simp [lift_length]))
          exact wp_value hex ⟨_, this⟩
      · -- it grows
        have hpos2 : 0 < es2.length := by omega
        obtain ⟨cap', cur, h1, h2, h3, h4, h5⟩ := run_append_more (P := P) t o.type e i z hu hi hz hzc l1 l2 cap ⟨ad, he⟩ (by omega)
          (fun hnil => by
            rw [he] at hnil
            injection hnil with q1 q2 q3
            rcases hcase with ⟨_, hc⟩ | ⟨b, cur, e', hb', _⟩
            · exact hc
            · rw [q1] at hb'; cases hb') (fun y hy => by rw [hsz]; exact hl1 y hy) (fun y hy => by rw [hsz]; exact hl2 y hy) hpos2 hmax (by rw [hbt]; exact hbytes)
        have hex := exec_append ho ha ht a h1
        rw [hsz] at h4
        have hmv : Moves (Own C s0 ρ) w (Own C s0 ρ) w.drew := ⟨Nat.le_refl _, fun _ _ _ => rfl, fun _ _ x => x⟩
        have hnew := hs.drew.newBlk hf e cur zs.length (lift (es1 ++ es2)) cap' (.slice (some ⟨w.heap.size, 0, none⟩) (es1 ++ es2).length cap') (.inl (by rw [lift_length]; rfl))
          (by have : 0 < (es1 ++ es2).length := by rw [List.length_append]; omega
              omega) (len_lit (c := true) hle h2 h3 h4 h5 hmv rfl)
        have := (hnew.dropBlk id).put hd (x := .own f) (v := .slice (some ⟨w.heap.size, 0, none⟩) (es1 ++ es2).length cap') (.own f _ _ _ (by simp))
        have e2 : (PS.upd ⟨s0.sl, PS.setHp (PS.setHp s0.hp [(f, some (.row zs.length (lift (es1 ++ es2))))]) [(id, none)]⟩ o.dst ⟨.own f, []⟩) = s0.upd o.dst ⟨.own f, [(f, some (.row zs.length (lift (es1 ++ es2)))), (id, none)]⟩ := by
          simp only [PS.upd, PS.setHp, PS.mk.injEq, true_and]
          funext j
          by_cases e1 : j = id
          · by_cases e2 : j = f
            · exact absurd (e1.symm.trans e2) hne
            · simp [e1, hne]
          · simp [e1]
        simp only at this
        rw [e2] at this
        exact wp_value hex ⟨_, this⟩
    split at hK
    · exact ⟨_, hK, hstep⟩
    · obtain ⟨hds, hK⟩ := hK
      obtain ⟨d, hdd⟩ := Option.isSome_iff_exists.1 hds
      exact ⟨_, hK, stepA_freeze hdd hstep⟩
  · exact h.elim

end
end Go.Am
