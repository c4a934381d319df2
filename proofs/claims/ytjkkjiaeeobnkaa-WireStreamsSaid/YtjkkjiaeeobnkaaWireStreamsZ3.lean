/-
  WireStreams, part 3 of 5: what the proof that the law holds at whatever arguments stands on; the last part holds the theorem. No condition.
-/
import Derived.Test.YtjkkjiaeeobnkaaWireStreamsZ2
import Derived.Test.YtjkkjiaeeobnkaaRows
section
namespace Go.Am
theorem lo : type_of% (And.intro (And.intro (And.intro (And.intro (And.intro (And.intro @beq_self_eq_true.{0} @bne_self_eq_false.{0}) (And.intro @false_imp_iff @true_imp_iff)) (And.intro (And.intro @cast0 @Int.sub_zero) (And.intro @Int.zero_add (And.intro @Int.add_zero @Bool.true_and)))) (And.intro (And.intro (And.intro @Bool.and_true @List.take_nil.{0}) (And.intro @List.take_zero.{0} (And.intro @lift_length @List.length_replicate.{0}))) (And.intro (And.intro @List.take_length.{0} @List.length_take.{0}) (And.intro @List.length_drop.{0} (And.intro @List.length_append.{0} @Nat.zero_add))))) (And.intro (And.intro (And.intro (And.intro @List.drop_zero.{0} @Int.toNat_natCast) (And.intro @Int.toNat_zero @List.length_map.{0,0})) (And.intro (And.intro @List.getElem?_map.{0,0} @Option.map_some.{0,0}) (And.intro @all1 (And.intro @decide_true @and_true)))) (And.intro (And.intro (And.intro @true_and @and_assoc) (And.intro @List.length_cons.{0} (And.intro @List.length_nil.{0} @List.map_cons.{0,0}))) (And.intro (And.intro @List.map_nil.{0,0} @Bool.false_eq_true) (And.intro @Option.getD_some.{0} (And.intro @Option.getD_none.{0} @Option.isSome_some.{0})))))) (And.intro (And.intro (And.intro (And.intro (And.intro @Option.isSome_none.{0} @forall_const.{1}) (And.intro @List.getElem?_cons_zero.{0} @List.getElem?_cons_succ.{0})) (And.intro (And.intro @List.foldl_cons.{0,0} @List.foldl_nil.{0,0}) (And.intro @List.append_nil.{0} (And.intro @List.nil_append.{0} @List.cons_append.{0})))) (And.intro (And.intro (And.intro @List.contains_cons.{0} @List.contains_nil.{0}) (And.intro @Bool.or_self (And.intro @Bool.or_false @Bool.or_true))) (And.intro (And.intro @Bool.false_or @Bool.true_or) (And.intro @undefA.eq_1 (And.intro @Bool.not_true @Bool.not_false))))) (And.intro (And.intro (And.intro (And.intro @Bool.true_eq_false @Ord.isRW.eq_1) (And.intro @Ord.isW.eq_1 (And.intro @Ord.sees.eq_1 @Option.any_some.{0}))) (And.intro (And.intro @nmPos.eq_1 @true_imp_iff) (And.intro @not_true_eq_false (And.intro @not_false_eq_true @false_and)))) (And.intro (And.intro (And.intro @true_and @and_false) (And.intro @or_false (And.intro @false_or @or_true))) (And.intro (And.intro @true_or @List.take_succ_cons.{0}) (And.intro @List.drop_succ_cons.{0} (And.intro @Nat.min_self @Option.map_none.{0,0}))))))) := (And.intro (And.intro (And.intro (And.intro (And.intro (And.intro @beq_self_eq_true.{0} @bne_self_eq_false.{0}) (And.intro @false_imp_iff @true_imp_iff)) (And.intro (And.intro @cast0 @Int.sub_zero) (And.intro @Int.zero_add (And.intro @Int.add_zero @Bool.true_and)))) (And.intro (And.intro (And.intro @Bool.and_true @List.take_nil.{0}) (And.intro @List.take_zero.{0} (And.intro @lift_length @List.length_replicate.{0}))) (And.intro (And.intro @List.take_length.{0} @List.length_take.{0}) (And.intro @List.length_drop.{0} (And.intro @List.length_append.{0} @Nat.zero_add))))) (And.intro (And.intro (And.intro (And.intro @List.drop_zero.{0} @Int.toNat_natCast) (And.intro @Int.toNat_zero @List.length_map.{0,0})) (And.intro (And.intro @List.getElem?_map.{0,0} @Option.map_some.{0,0}) (And.intro @all1 (And.intro @decide_true @and_true)))) (And.intro (And.intro (And.intro @true_and @and_assoc) (And.intro @List.length_cons.{0} (And.intro @List.length_nil.{0} @List.map_cons.{0,0}))) (And.intro (And.intro @List.map_nil.{0,0} @Bool.false_eq_true) (And.intro @Option.getD_some.{0} (And.intro @Option.getD_none.{0} @Option.isSome_some.{0})))))) (And.intro (And.intro (And.intro (And.intro (And.intro @Option.isSome_none.{0} @forall_const.{1}) (And.intro @List.getElem?_cons_zero.{0} @List.getElem?_cons_succ.{0})) (And.intro (And.intro @List.foldl_cons.{0,0} @List.foldl_nil.{0,0}) (And.intro @List.append_nil.{0} (And.intro @List.nil_append.{0} @List.cons_append.{0})))) (And.intro (And.intro (And.intro @List.contains_cons.{0} @List.contains_nil.{0}) (And.intro @Bool.or_self (And.intro @Bool.or_false @Bool.or_true))) (And.intro (And.intro @Bool.false_or @Bool.true_or) (And.intro @undefA.eq_1 (And.intro @Bool.not_true @Bool.not_false))))) (And.intro (And.intro (And.intro (And.intro @Bool.true_eq_false @Ord.isRW.eq_1) (And.intro @Ord.isW.eq_1 (And.intro @Ord.sees.eq_1 @Option.any_some.{0}))) (And.intro (And.intro @nmPos.eq_1 @true_imp_iff) (And.intro @not_true_eq_false (And.intro @not_false_eq_true @false_and)))) (And.intro (And.intro (And.intro @true_and @and_false) (And.intro @or_false (And.intro @false_or @or_true))) (And.intro (And.intro @true_or @List.take_succ_cons.{0}) (And.intro @List.drop_succ_cons.{0} (And.intro @Nat.min_self @Option.map_none.{0,0})))))))
theorem lens : type_of% (And.intro (And.intro (And.intro @List.length_append.{0} @List.length_take.{0}) (And.intro @List.length_drop.{0} @List.length_cons.{0})) (And.intro (And.intro @List.length_nil.{0} @List.length_dropLast.{0}) (And.intro @List.length_map.{0,0} (And.intro @List.length_replicate.{0} @List.length_set.{0})))) := (And.intro (And.intro (And.intro @List.length_append.{0} @List.length_take.{0}) (And.intro @List.length_drop.{0} @List.length_cons.{0})) (And.intro (And.intro @List.length_nil.{0} @List.length_dropLast.{0}) (And.intro @List.length_map.{0,0} (And.intro @List.length_replicate.{0} @List.length_set.{0}))))
end Go.Am
namespace Go.Am
open Go.RowKit Go.ChangeShapes Go.WideShapes
theorem law_calls {P : Program} {f : FuncId} {args : List PV} {vs : Array Value} {W : World} (h : PCall P f args (.lit (.bool true))) (hsz : vs.size = args.length) (hr : ∀ i x, args[i]? = some x → RepP (fun _ => False) W x (vs.getD i undef)) :
    Calls P f vs W fun e W' => e = .returned (.bool true) ∧ Below W.heap.size W W' :=
  (h _ W vs (fun _ h => h.elim) hsz hr).mono fun e W' ⟨v, he, hv, hB⟩ => by cases hv; exact ⟨he, hB⟩
section
variable {H : Type} {enc : TypeId × Value → H} {P : Program}
theorem law_post {f : Func} {s : ChangeSpec} {apart fresh handsOn again : Bool} {W W' : World} {args : Array Value} {v : Value} {ds gs : List (DataW H)} {before pa pv : List MemPlace}
    (hW : DataW.Whole enc P f.params.toList s.vars apart W args.toList ds gs before)
    (hres : ∀ (b : Nat) (sp : Nat → Bool) (hd : Bool), DataW.TrodAll enc P W' b sp hd f.resultTypes.toList (v.resultList f.resultTypes.size) (s.fn H (ds ++ gs)).results [])
    (hargs : ∀ sp : Nat → Bool, (∀ p ∈ before, sp p.block = true) → DataW.TrodAll enc P W' 0 sp true f.params.toList args.toList (s.fn H (ds ++ gs)).args pa)
    (hvars : ∀ sp : Nat → Bool, (∀ p ∈ before, sp p.block = true) → DataW.TrodVars enc P W' sp s.vars (s.fn H (ds ++ gs)).vars pv)
    (hps : before = pa ++ pv) (hb : Below W.heap.size W W')
    (hok : ∀ (j : Nat) (t : TypeId) (r : Value), f.resultTypes[j]? = some t → (v.resultList f.resultTypes.size)[j]? = some r → Value.okWide P W' .any 0 t r) :
    s.post enc P f apart fresh handsOn again W args v W' := by
  have hlt : ∀ p ∈ before, p.block < W.heap.size := fun p hp => hW.lt p hp
  have hold : ∀ p ∈ before, (fun b => decide (b < W.heap.size)) p.block = true := fun p hp => by simpa using hlt p hp
  refine ⟨ds, gs, before, [], pa, pv, hW, hres _ _ _, hargs _ hold, hvars _ hold, World.keptBut_mono (fun p hp => ⟨hp, ?_⟩) (hb.frame (· ∈ before)), fun _ => ?_⟩
  · rw [hps, List.mem_append] at hp
    exact Or.inr hp
  · obtain ⟨_, _, _, _, _, hz, hn⟩ := hW
    refine ⟨hok, _, _, ([] ++ pa) ++ pv, ⟨[] ++ pa, pv, trodAll_append (hargs _ (fun _ _ => rfl)) (hres _ _ _), hvars _ (fun _ _ => rfl), rfl, ?_, ?_⟩, ?_⟩
    · intro b off hp
      have hin : MemPlace.cell b off ∈ before := by rw [hps]; simpa using hp
      rw [hb.frozen (hlt _ hin)]
      exact hz b off hin
    · intro ha
      have := hn ha
      rw [hps] at this
      simpa using this
    · intro p hp _
      rw [hps]
      simpa using hp
end
end Go.Am
namespace Go.Am
open Go.RowKit Go.ChangeShapes Go.WideShapes
def RepC (w : World) (xs : List PV) (cs : List Value) : Prop :=
  xs.length = cs.length ∧ ∀ i x, xs[i]? = some x → RepP (fun _ => False) w x (cs.getD i undef) ∧ (cs.getD i undef).oneCell' = true
def Opens (P : Program) (t : TypeId) (α : Type) (ok : α → Prop) (enc : α → List PV) : Prop :=
  ∀ (H : Type) (e : TypeId × Value → H) (w : World) (base : Nat) (spare : Nat → Bool) (held : Bool) (fuel : Nat) (cs : List Value) (x : DataW H × List MemPlace),
    DataW.trod e P w base spare held fuel t cs = some x → ∃ a, ok a ∧ RepC w (enc a) cs
theorem repC_one {w : World} {v : Value} {x : PV} (h : RepP (fun _ => False) w x v) (h1 : v.oneCell' = true) : RepC w [x] [v] :=
  ⟨rfl, fun i y hy => by
    cases i with
    | zero => simp only [List.getElem?_cons_zero, Option.some.injEq] at hy; subst hy; exact ⟨h, h1⟩
    | succ i => simp at hy⟩
theorem RepC.nil {w : World} : RepC w [] [] := ⟨rfl, fun i y hy => by simp at hy⟩
theorem RepC.append {w : World} {xs ys : List PV} {cs ds : List Value} (h : RepC w xs cs) (g : RepC w ys ds) : RepC w (xs ++ ys) (cs ++ ds) := by
  refine ⟨by simp [h.1, g.1], fun i x hx => ?_⟩
  by_cases hi : i < xs.length
  · rw [List.getElem?_append_left hi] at hx
    have := h.2 i x hx
    rw [List.getD_eq_getElem?_getD, List.getElem?_append_left (by rw [← h.1]; exact hi), ← List.getD_eq_getElem?_getD]; exact this
  · rw [List.getElem?_append_right (by omega)] at hx
    have := g.2 _ x hx
    rw [List.getD_eq_getElem?_getD, List.getElem?_append_right (by rw [← h.1]; omega), ← List.getD_eq_getElem?_getD, ← h.1]; exact this
section
variable {P : Program} {t : TypeId}
theorem opens_int {k : IntKind} (ht : P.underlying t = some (.int k)) : Opens P t Int (fun n => (Lit.int k n).wf = true) (fun n => [.lit (.int k n)]) := by
  intro H e w base spare held fuel cs x h
  obtain ⟨n, rfl, _, hw⟩ := DataW.trod_int ht h
  exact ⟨n, hw, repC_one (.lit _) rfl⟩
theorem pick_list {α : Type} (R : Nat → α → Prop) : ∀ n, (∀ i, i < n → ∃ a, R i a) → ∃ l : List α, l.length = n ∧ ∀ i a, l[i]? = some a → R i a
  | 0, _ => ⟨[], rfl, fun i a h => by simp at h⟩
  | n + 1, h => by
    obtain ⟨l, hl, hr⟩ := pick_list R n (fun i hi => h i (by omega))
    obtain ⟨a, ha⟩ := h n (by omega)
    refine ⟨l ++ [a], by simp [hl], fun i b hb => ?_⟩
    by_cases hi : i < n
    · rw [List.getElem?_append_left (by omega)] at hb; exact hr i b hb
    · rw [List.getElem?_append_right (by omega)] at hb
      have hi' : i - l.length = 0 := by
        have := (List.getElem?_eq_some_iff.1 hb).1; simp at this; omega
      rw [hi'] at hb
      simp only [List.getElem?_cons_zero, Option.some.injEq] at hb; subst hb
      rwa [show i = n by omega]
theorem mapM_get2 {β : Type} {f : Nat → Option β} : ∀ (l : List Nat) (r : List β), l.mapM f = some r → r.length = l.length ∧ ∀ (i n : Nat), l[i]? = some n → f n = r[i]?
  | [], r, h => by simp at h; subst h; exact ⟨rfl, fun i n hn => by simp at hn⟩
  | a :: l, r, h => by
    rw [List.mapM_cons] at h
    obtain ⟨b, hb, h⟩ := Option.bind_eq_some_iff.1 h
    obtain ⟨bs, hbs, h⟩ := Option.bind_eq_some_iff.1 h
    simp only [Option.pure_def, Option.some.injEq] at h; subst h
    obtain ⟨h1, h2⟩ := mapM_get2 l bs hbs
    refine ⟨by simp [h1], fun i n hn => ?_⟩
    cases i with
    | zero => simp only [List.getElem?_cons_zero, Option.some.injEq] at hn; subst hn; simpa using hb
    | succ i => simpa using h2 i n (by simpa using hn)
theorem cells_get {w : World} {base : Nat} {a : Addr} {n : Nat} {cs : List Value} (h : w.cells? base a n = some cs) : cs.length = n ∧ ∀ i, i < n → w.cell? (a.add i) = some (cs.getD i undef) := by
  unfold World.cells? at h
  split at h
  · obtain ⟨h1, h2⟩ := mapM_get2 _ _ h
    simp only [List.length_range] at h1
    refine ⟨h1, fun i hi => ?_⟩
    rw [h2 i i (by simp [hi]), List.getD_eq_getElem?_getD, List.getElem?_eq_getElem (by omega)]; rfl
  · cases h
theorem opens_slice {el : TypeId} {α : Type} {ok : α → Prop} {enc : α → List PV} (ht : P.underlying t = some (.slice el)) (hsz : 0 < P.cellsOf el) (he : Opens P el α ok enc) :
    Opens P t (List α) (fun l => l.length ≤ maxLen ∧ ∀ a, a ∈ l → ok a) (fun l => [.seq false (l.map enc)]) := by
  intro H e w base spare held fuel cs x h
  rcases DataW.trod_slice ht h with ⟨rfl, _⟩ | ⟨a, len, cap, elems, rest, n, _, rfl, _, hb, hl, hm, hlen, hel, _, _⟩
  · exact ⟨[], ⟨by simp, fun a ha => by cases ha⟩, repC_one (.nilseq false none 0 (fun h => by cases h)) rfl⟩
  · have each : ∀ i, i < len → ∃ q : α, ok q ∧ ∃ ds, w.cells? base (a.add (i * P.cellsOf el)) (P.cellsOf el) = some ds ∧ RepC w (enc q) ds := by
      intro i hi
      have := hel i hi
      rw [List.getElem?_eq_getElem (by omega)] at this
      obtain ⟨ds, h1, h2⟩ := Option.bind_eq_some_iff.1 this
      obtain ⟨q, hq, hr⟩ := he H e w base spare held n ds _ h2
      exact ⟨q, hq, ds, h1, hr⟩
    obtain ⟨l, hll, hall⟩ := pick_list _ len each
    refine ⟨l, ⟨by omega, fun q hq => ?_⟩, repC_one ?_ rfl⟩
    · obtain ⟨i, hi⟩ := List.getElem?_of_mem hq
      exact (hall i q hi).1
    · by_cases h0 : len = 0
      · subst h0
        have : l = [] := List.eq_nil_of_length_eq_zero hll
        subst this
        exact .nilseq false _ cap (fun h => by cases h)
      · obtain ⟨b, off, spot⟩ := a
        cases spot with
        | some s =>
          obtain ⟨q, _, ds, h1, _⟩ := each 0 (by omega)
          have := (cells_get h1).2 0 hsz
          unfold World.cell? at this
          split at this
          · simp [Addr.add] at this
          · cases this
        | none =>
          have hlens : ∀ y, y ∈ l.map enc → y.length = P.cellsOf el := by
            intro y hy
            obtain ⟨q, hq, rfl⟩ := List.mem_map.1 hy
            obtain ⟨i, hi⟩ := List.getElem?_of_mem hq
            obtain ⟨_, ds, h1, h2⟩ := hall i q hi
            rw [h2.1, (cells_get h1).1]
          have e1 : (l.map enc).length = len := by simp [hll]
          have key : ∀ j x, (l.map enc).flatten[j]? = some x → ∃ v, w.cell? ⟨b, off + j, none⟩ = some v ∧ RepP (fun _ => False) w x v ∧ v.oneCell' = true := by
            intro j x hj
            have hjl := (List.getElem?_eq_some_iff.1 hj).1
            rw [flat_len _ _ hlens] at hjl
            have hmod := Nat.mod_lt j hsz
            have hdiv : j / P.cellsOf el < (l.map enc).length := Nat.div_lt_of_lt_mul (by rw [Nat.mul_comm]; exact hjl)
            have hj2 : j = j / P.cellsOf el * P.cellsOf el + j % P.cellsOf el := by rw [Nat.mul_comm]; exact (Nat.div_add_mod j _).symm
            have hd : (l.map enc)[j / P.cellsOf el]? = some (l.map enc)[j / P.cellsOf el] := List.getElem?_eq_getElem hdiv
            have hx : (l.map enc)[j / P.cellsOf el][j % P.cellsOf el]? = some x := by rw [← flat_get _ _ _ _ _ hlens hd hmod, ← hj2]; exact hj
            have hq : l[j / P.cellsOf el]? = some (l[j / P.cellsOf el]'(by simpa using hdiv)) := List.getElem?_eq_getElem _
            obtain ⟨_, ds, h1, h2⟩ := hall _ _ hq
            have hget := (cells_get h1).2 _ hmod
            rw [List.getElem_map] at hx
            have hrep := h2.2 _ x hx
            refine ⟨_, ?_, hrep.1, hrep.2⟩
            rw [← hget]
            congr 1
            simp only [Addr.add_lit, Addr.mk.injEq, true_and, and_true]
            omega
          have := RepP.seq (O := fun _ => False) (w := w) false (l.map enc) (P.cellsOf el) b off cap (fun j => (w.cell? ⟨b, off + j, none⟩).getD undef) hlens (by omega) (fun h => by cases h)
            (fun j hj => by
              obtain ⟨v, h1, _, h3⟩ := key j _ (List.getElem?_eq_getElem hj)
              simp only [h1, Option.getD_some]
              exact ⟨fun h => h, trivial, h3⟩)
            (fun j x hx => by
              obtain ⟨v, h1, h2, _⟩ := key j x hx
              simp only [h1, Option.getD_some]; exact h2)
          rw [e1] at this
          exact this
inductive OpensL (P : Program) : List TypeId → (α : Type) → (α → Prop) → (α → List PV) → Prop
  | nil : OpensL P [] Unit (fun _ => True) (fun _ => [])
  | cons {t : TypeId} {ts : List TypeId} {α β : Type} {ok : α → Prop} {enc : α → List PV} {ok' : β → Prop} {enc' : β → List PV} : Opens P t α ok enc → OpensL P ts β ok' enc' →
      OpensL P (t :: ts) (α × β) (fun p => ok p.1 ∧ ok' p.2) (fun p => enc p.1 ++ enc' p.2)
def offsOf (P : Program) : Nat → List TypeId → List Nat
  | _, [] => []
  | o, t :: ts => o :: offsOf P (o + P.cellsOf t) ts
def sumOf (P : Program) (ts : List TypeId) : Nat := (ts.map P.cellsOf).sum
theorem opensL_use {ts : List TypeId} {α : Type} {ok : α → Prop} {enc : α → List PV} (h : OpensL P ts α ok enc) : ∀ {H : Type} {e : TypeId × Value → H} {w : World} {base : Nat} {spare : Nat → Bool} {held : Bool} {fuel : Nat} (cs : List Value) (o : Nat),
    cs.length = o + sumOf P ts → (∀ (i : Nat) (t : TypeId) (f : Nat), ts[i]? = some t → (offsOf P o ts)[i]? = some f → ∃ x, DataW.trod e P w base spare held fuel t ((cs.drop f).take (P.cellsOf t)) = some x) → ∃ a, ok a ∧ RepC w (enc a) (cs.drop o) := by
  induction h with
  | nil =>
    intro H e w base spare held fuel cs o hl _
    refine ⟨(), trivial, ?_⟩
    have : cs.drop o = [] := List.eq_nil_of_length_eq_zero (by rw [List.length_drop]; simp [sumOf] at hl; omega)
    rw [this]; exact .nil
  | @cons t ts α β ok enc ok' enc' h1 _ ih =>
    intro H e w base spare held fuel cs o hl hall
    obtain ⟨x, hx⟩ := hall 0 t o rfl rfl
    obtain ⟨a, ha, hr⟩ := h1 H e w base spare held fuel _ _ hx
    obtain ⟨b, hb, hr'⟩ := ih (e := e) (w := w) (base := base) (spare := spare) (held := held) (fuel := fuel) cs (o + P.cellsOf t) (by simp [sumOf] at hl ⊢; omega) (fun i t' f hi hf => hall (i + 1) t' f (by simpa using hi) (by simpa [offsOf] using hf))
    refine ⟨(a, b), ⟨ha, hb⟩, ?_⟩
    have e1 : cs.drop o = (cs.drop o).take (P.cellsOf t) ++ cs.drop (o + P.cellsOf t) := by rw [← List.drop_drop, List.take_append_drop]
    rw [e1]
    exact hr.append hr'
def tiled (P : Program) (t : TypeId) (ts : List TypeId) : Bool :=
  match P.underlying t with
  | some (.struct fs) => (fs.toList.map (·.type) == ts) && (fs.toList.map (·.offset) == offsOf P 0 ts) && (P.cellsOf t == sumOf P ts)
  | some (.array n e) => (List.replicate n e == ts) && (P.cellsOf t == sumOf P ts)
  | _ => false
theorem offsOf_rep (e : TypeId) : ∀ (n o i f : Nat), (offsOf P o (List.replicate n e))[i]? = some f → f = o + i * P.cellsOf e
  | 0, o, i, f, h => by simp [offsOf] at h
  | n + 1, o, i, f, h => by
    rw [List.replicate_succ] at h
    cases i with
    | zero => simp [offsOf] at h; omega
    | succ i =>
      simp only [offsOf, List.getElem?_cons_succ] at h
      have := offsOf_rep e n _ i f h
      rw [this, Nat.add_mul]; omega
theorem opens_agg {ts : List TypeId} {α : Type} {ok : α → Prop} {enc : α → List PV} (ht : tiled P t ts = true) (h : OpensL P ts α ok enc) : Opens P t α ok enc := by
  intro H e w base spare held fuel cs x hx
  unfold tiled at ht
  split at ht
  · rename_i fs hu
    simp only [Bool.and_eq_true, beq_iff_eq] at ht
    obtain ⟨⟨h1, h2⟩, h3⟩ := ht
    obtain ⟨xs, n, _, _, hl, hxs, hall⟩ := DataW.trod_struct hu hx
    have := opensL_use h (e := e) (w := w) (base := base) (spare := spare) (held := held) (fuel := n) cs 0 (by rw [hl, h3, Nat.zero_add]) (fun i t' f hi hf => by
      rw [← h1, List.getElem?_map] at hi
      rw [← h2, List.getElem?_map] at hf
      obtain ⟨fd, hfd, rfl⟩ := Option.map_eq_some_iff.1 hi
      rw [hfd] at hf
      simp only [Option.map_some, Option.some.injEq] at hf; subst hf
      have hfd' : fs[i]? = some fd := by simpa using hfd
      have hlt := (Array.getElem?_eq_some_iff.1 hfd').1
      rw [hall i fd hfd']
      exact ⟨xs[i]'(by omega), List.getElem?_eq_getElem _⟩)
    rwa [List.drop_zero] at this
  · rename_i n el hu
    simp only [Bool.and_eq_true, beq_iff_eq] at ht
    obtain ⟨h1, h3⟩ := ht
    obtain ⟨xs, m, _, _, hl, hxs, hall⟩ := DataW.trod_array hu hx
    have := opensL_use h (e := e) (w := w) (base := base) (spare := spare) (held := held) (fuel := m) cs 0 (by rw [hl, h3, Nat.zero_add]) (fun i t' f hi hf => by
      rw [← h1] at hi hf
      have hf' := offsOf_rep el n 0 i f hf
      rw [Nat.zero_add] at hf'
      subst hf'
      have hin : i < n := by have := (List.getElem?_eq_some_iff.1 hi).1; simpa using this
      have : t' = el := by simp [hin] at hi; exact hi.symm
      subst this
      rw [hall i hin]
      exact ⟨xs[i]'(by omega), List.getElem?_eq_getElem _⟩)
    rwa [List.drop_zero] at this
  · cases ht
theorem Opens.map {α β : Type} {ok : α → Prop} {enc : α → List PV} {ok' : β → Prop} {enc' : β → List PV} (h : Opens P t α ok enc) (f : α → β) (hf : ∀ a, ok a → ok' (f a) ∧ enc' (f a) = enc a) : Opens P t β ok' enc' := by
  intro H e w base spare held fuel cs x hx
  obtain ⟨a, ha, hr⟩ := h H e w base spare held fuel cs x hx
  exact ⟨f a, (hf a ha).1, by rw [(hf a ha).2]; exact hr⟩
theorem arg_one {α : Type} {ok : α → Prop} {enc : α → PV} {H : Type} {e : TypeId × Value → H} {w : World} {base : Nat} {spare : Nat → Bool} {held : Bool} {v : Value} {d : DataW H} {ps : List MemPlace}
    (ho : Opens P t α ok (fun a => [enc a])) (hv : v.cells = #[v]) (h : DataW.Trod e P w base spare held t v d ps) : ∃ a, ok a ∧ RepP (fun _ => False) w (enc a) v := by
  obtain ⟨fuel, hf⟩ := h
  obtain ⟨a, ha, hr⟩ := ho H e w base spare held fuel _ _ hf
  refine ⟨a, ha, ?_⟩
  have := (hr.2 0 (enc a) rfl).1
  rw [hv] at this
  simpa using this
theorem okWide_one_s {el : TypeId} {r : Reach} {b0 : Nat} {v : Value} {w : World} (ht : P.underlying t = some (.slice el)) (h : Value.okWide P w r b0 t v) : v.cells = #[v] := by
  obtain ⟨a, l, c, rfl⟩ := okWide_slice ht h; rfl
def isAgg (P : Program) (t : TypeId) : Bool := match P.underlying t with | some (.struct _) | some (.array _ _) => true | _ => false
end
end Go.Am
namespace Go.Am
open Go.RowKit
section
variable {P : Program} {C : Ctx} {K : Exit → LS → Prop} {s : LS}
theorem le_test {s s' : LS} {d : Nat} {b B : Bool} {L : List Nat} (hd : lkp s'.sl d = some (.p (.lit (.bool b)))) (hb : b = B) (hL : keepL s'.sl L = keepL s.sl L) (hh : s'.hp = s.hp) :
    LE s' ⟨(d, .p (.lit (.bool B))) :: keepL s.sl L, s.hp, s'.nx⟩ := by
  intro C a w ⟨ρ, h⟩
  subst hb
  refine ⟨ρ, ?_⟩
  have e : (⟨(d, .p (.lit (.bool b))) :: keepL s.sl L, s.hp, s'.nx⟩ : LS).ps = ⟨lkp ((d, .p (.lit (.bool b))) :: keepL s.sl L), s'.ps.hp⟩ := by simp [LS.ps, hh]
  rw [e]
  refine { h with slots := fun q x hx => ?_ }
  simp only [lkp] at hx
  split at hx
  · rename_i e1; subst e1
    simp only [Option.some.injEq] at hx; subst hx
    exact h.slots _ _ hd
  · rw [← hL] at hx
    exact h.slots q x (lkp_keepL _ _ _ _ hx)
theorem awp_test {id : Nat} {l : List Oper} {y : Code} (H : List Nat) (d : Nat) (B : Bool) (L : List Nat) (hf : inFrame C.n l.toArray = true)
    (h : ∀ gd, gd = gdOf l.toArray → ∀ k : LS → Prop, (∀ s' b, lkp s'.sl d = some (.p (.lit (.bool b))) → keepL s'.sl L = keepL s.sl L → s'.hp = s.hp → s'.nx = s.nx + l.length → b = B → k s') →
      aops P H gd (fun s' => k ⟨s'.sl, s'.hp, s'.nx + l.length⟩) 0 l s)
    (hy : Awp P C y K ⟨(d, .p (.lit (.bool B))) :: keepL s.sl L, s.hp, s.nx + l.length⟩) : Awp P C (.seq (.region id l.toArray false) y) K s :=
  awp_sr H hf fun k hk => h _ rfl k fun s' b hd hL hh hn hb => hk s' (awp_le (le_test hd hb hL hh) (by rw [hn]; exact hy))
theorem awp_testD {id : Nat} {l : List Oper} {y : Code} (H : List Nat) (D : Ord) (d : Nat) (B : Bool) (L : List Nat) (hf : inFrame C.n l.toArray = true) (hm : P.follows .mixedOrders = true) (hD : okD D l.toArray = true)
    (h : ∀ gd, gd = gdOf l.toArray → ∀ k : LS → Prop, (∀ s' b, lkp s'.sl d = some (.p (.lit (.bool b))) → keepL s'.sl L = keepL s.sl L → s'.hp = s.hp → s'.nx = s.nx + l.length → b = B → k s') →
      aopsD P H D gd (fun s' => k ⟨s'.sl, s'.hp, s'.nx + l.length⟩) 0 l s)
    (hy : Awp P C y K ⟨(d, .p (.lit (.bool B))) :: keepL s.sl L, s.hp, s.nx + l.length⟩) : Awp P C (.seq (.region id l.toArray true) y) K s :=
  awp_sd H D hf hm hD fun k hk => h _ rfl k fun s' b hd hL hh hn hb => hk s' (awp_le (le_test hd hb hL hh) (by rw [hn]; exact hy))
end
theorem gcase_undef (b : Bool) (run skip : Bool → Prop) (idle : Prop) : gcase (.p (.lit undef)) b run skip idle = idle := rfl
theorem gsplit {t b : Bool} {run skip : Bool → Prop} {idle : Prop} (h1 : t = b → run b) (h2 : t = (!b) → skip (!b)) : gcase (.p (.lit (.bool t))) b run skip idle := ⟨h1, h2⟩
end Go.Am
namespace Go.Am
open Go.RowKit
mutual
def AV.ren (σ : Nat → Nat) : AV → AV
  | .p x => .p x
  | .own i => .own (σ i)
  | .sub i sz lo n => .sub (σ i) sz lo n
  | .ptr i sz k o => .ptr (σ i) sz k o
  | .pp cs o => .pp cs o
  | .agg cs => .agg (AV.rens σ cs)
  | .tup cs => .tup (AV.rens σ cs)
  | .fn f cs => .fn f (AV.rens σ cs)
  | .mp i => .mp (σ i)
def AV.rens (σ : Nat → Nat) : List AV → List AV
  | [] => []
  | x :: r => x.ren σ :: AV.rens σ r
end
mutual
def AV.names : AV → List Nat
  | .p _ => []
  | .own i => [i]
  | .sub i _ _ _ => [i]
  | .ptr i _ _ _ => [i]
  | .pp _ _ => []
  | .agg cs => AV.namess cs
  | .tup cs => AV.namess cs
  | .fn _ cs => AV.namess cs
  | .mp i => [i]
def AV.namess : List AV → List Nat
  | [] => []
  | x :: r => x.names ++ AV.namess r
end
theorem rens_get (σ : Nat → Nat) : ∀ (l : List AV) (i : Nat), (AV.rens σ l)[i]? = l[i]?.map (AV.ren σ)
  | [], i => by simp [AV.rens]
  | x :: r, 0 => by simp [AV.rens]
  | x :: r, i + 1 => by simp [AV.rens, rens_get σ r i]
theorem rens_length (σ : Nat → Nat) : ∀ l : List AV, (AV.rens σ l).length = l.length
  | [] => rfl
  | x :: r => by simp [AV.rens, rens_length σ r]
theorem namess_mem : ∀ (l : List AV) (i : Nat) (x : AV), l[i]? = some x → ∀ n, n ∈ x.names → n ∈ AV.namess l
  | [], i, x, h, n, hn => by simp at h
  | y :: r, 0, x, h, n, hn => by simp at h; subst h; simp [AV.namess, hn]
  | y :: r, i + 1, x, h, n, hn => by simp only [AV.namess, List.mem_append]; exact .inr (namess_mem r i x (by simpa using h) n hn)
theorem RepA.ren {O : Nat → Prop} {ρ ρ' : Nat → Option Value} {w : World} (σ : Nat → Nat) {x : AV} {v : Value} (h : RepA O ρ w x v) : (∀ i, i ∈ x.names → ∀ u, ρ i = some u → ρ' (σ i) = some u) → RepA O ρ' w (x.ren σ) v := by
  induction h with
  | p x v hx => intro _; exact .p x v hx
  | own id a n c hi => intro hn; exact .own _ a n c (hn id (by simp [AV.names]) _ hi)
  | sub id lo n len cap c sz b hi hc => intro hn; exact .sub _ lo n len cap c sz b (hn id (by simp [AV.names]) _ hi) hc
  | sub0 id sz lo a c => intro _; exact .sub0 _ sz lo a c
  | ptr id sz k off b v hi hv => intro hn; exact .ptr _ sz k off b v (hn id (by simp [AV.names]) _ hi) hv
  | pp cs off b o f h4 h5 => intro _; exact .pp cs off b o f h4 h5
  | agg cs vs hs _ h1 ih =>
    intro hn
    refine .agg _ vs (by rw [rens_length]; exact hs) (fun i y hy => ?_) (fun i hi => h1 i (by rwa [rens_length] at hi))
    rw [rens_get] at hy
    obtain ⟨z, hz, rfl⟩ := Option.map_eq_some_iff.1 hy
    exact ih i z hz (fun j hj => hn j (namess_mem cs i z hz j hj))
  | tup cs vs hs _ ih =>
    intro hn
    refine .tup _ vs (by rw [rens_length]; exact hs) (fun i y hy => ?_)
    rw [rens_get] at hy
    obtain ⟨z, hz, rfl⟩ := Option.map_eq_some_iff.1 hy
    exact ih i z hz (fun j hj => hn j (namess_mem cs i z hz j hj))
  | fn f cs vs hs _ ih =>
    intro hn
    refine .fn f _ vs (by rw [rens_length]; exact hs) (fun i y hy => ?_)
    rw [rens_get] at hy
    obtain ⟨z, hz, rfl⟩ := Option.map_eq_some_iff.1 hy
    exact ih i z hz (fun j hj => hn j (namess_mem cs i z hz j hj))
  | mp id v hi => intro hn; exact .mp _ v (hn id (by simp [AV.names]) _ hi)
theorem RepA.unren {O : Nat → Prop} {ρ ρ' : Nat → Option Value} {w : World} (σ : Nat → Nat) {y : AV} {v : Value} (h : RepA O ρ' w y v) : ∀ x : AV, y = x.ren σ → (∀ i, i ∈ x.names → ∀ u, ρ' (σ i) = some u → ρ i = some u) → RepA O ρ w x v := by
  induction h with
  | p z v hx => intro x e _; cases x <;> simp [AV.ren] at e; subst e; exact .p _ v hx
  | own id a n c hi => intro x e hn; cases x <;> simp [AV.ren] at e; subst e; exact .own _ a n c (hn _ (by simp [AV.names]) _ hi)
  | sub id lo n len cap c sz b hi hc => intro x e hn; cases x <;> simp [AV.ren] at e; obtain ⟨rfl, rfl, rfl, rfl⟩ := e; exact .sub _ _ _ len cap c _ b (hn _ (by simp [AV.names]) _ hi) hc
  | sub0 id sz lo a c => intro x e _; cases x <;> simp [AV.ren] at e; obtain ⟨rfl, rfl, rfl, rfl⟩ := e; exact .sub0 _ _ _ a c
  | ptr id sz k off b v hi hv => intro x e hn; cases x <;> simp [AV.ren] at e; obtain ⟨rfl, rfl, rfl, rfl⟩ := e; exact .ptr _ _ _ _ b v (hn _ (by simp [AV.names]) _ hi) hv
  | pp cs off b o f h4 h5 => intro x e _; cases x <;> simp [AV.ren] at e; obtain ⟨rfl, rfl⟩ := e; exact .pp _ _ b o f h4 h5
  | agg cs vs hs _ h1 ih =>
    intro x e hn
    cases x <;> simp [AV.ren] at e
    subst e
    refine .agg _ vs (by rw [rens_length] at hs; exact hs) (fun i y hy => ?_) (fun i hi => h1 i (by rwa [rens_length]))
    exact ih i _ (by rw [rens_get, hy]; rfl) y rfl (fun j hj => hn j (by simp only [AV.names]; exact namess_mem _ i y hy j hj))
  | tup cs vs hs _ ih =>
    intro x e hn
    cases x <;> simp [AV.ren] at e
    subst e
    refine .tup _ vs (by rw [rens_length] at hs; exact hs) (fun i y hy => ?_)
    exact ih i _ (by rw [rens_get, hy]; rfl) y rfl (fun j hj => hn j (by simp only [AV.names]; exact namess_mem _ i y hy j hj))
  | fn f cs vs hs _ ih =>
    intro x e hn
    cases x <;> simp [AV.ren] at e
    obtain ⟨rfl, rfl⟩ := e
    refine .fn _ _ vs (by rw [rens_length] at hs; exact hs) (fun i y hy => ?_)
    exact ih i _ (by rw [rens_get, hy]; rfl) y rfl (fun j hj => hn j (by simp only [AV.names]; exact namess_mem _ i y hy j hj))
  | mp id v hi => intro x e hn; cases x <;> simp [AV.ren] at e; subst e; exact .mp _ v (hn _ (by simp [AV.names]) _ hi)
def Blk.ren (σ : Nat → Nat) : Blk → Blk
  | .row sz es => .row sz (es.map (AV.rens σ))
  | b => b
def Blk.hasOnly (N : Nat → Prop) : Blk → Prop
  | .row _ es => ∀ cs, cs ∈ es → ∀ n, n ∈ AV.namess cs → N n
  | _ => True
theorem flat_rens (σ : Nat → Nat) : ∀ es : List (List AV), (es.map (AV.rens σ)).flatten = AV.rens σ es.flatten
  | [] => rfl
  | cs :: es => by
    simp only [List.map_cons, List.flatten_cons, flat_rens σ es]
    generalize es.flatten = ds
    induction cs with
    | nil => rfl
    | cons x r ih => simp [AV.rens, ih]
theorem flat_names {N : Nat → Prop} {es : List (List AV)} (h : ∀ cs, cs ∈ es → ∀ n, n ∈ AV.namess cs → N n) {j : Nat} {x : AV} (hx : es.flatten[j]? = some x) : ∀ n, n ∈ x.names → N n := by
  intro n hn
  obtain ⟨cs, hcs, hxc⟩ := List.mem_flatten.1 (List.mem_of_getElem? hx)
  obtain ⟨i, hi⟩ := List.getElem?_of_mem hxc
  exact h cs hcs n (namess_mem cs i x hi n hn)
theorem BlkRep.ren {O : Nat → Prop} {ρ ρ' : Nat → Option Value} {w : World} (σ : Nat → Nat) {N : Nat → Prop} {k : Blk} {v : Value} (h : BlkRep O ρ w v k) (hk : k.hasOnly N) (hN : ∀ i, N i → ∀ u, ρ i = some u → ρ' (σ i) = some u) : BlkRep O ρ' w v (k.ren σ) := by
  cases k with
  | row sz es =>
    rcases h with ⟨rfl, hr⟩ | ⟨b, cap, cur, e, h1, h0, h2, h3, h4, h5, h6, h7⟩
    · exact .inl ⟨rfl, hr⟩
    · refine .inr ⟨b, cap, cur, e, by simpa using h1, h0, h2, by simpa using h3, h4, h5, fun x hx => ?_, fun j x hx => ?_⟩
      · obtain ⟨y, hy, rfl⟩ := List.mem_map.1 hx
        rw [rens_length]; exact h6 y hy
      · rw [flat_rens, rens_get] at hx
        obtain ⟨y, hy, rfl⟩ := Option.map_eq_some_iff.1 hx
        exact ⟨(h7 j y hy).1.ren σ (fun i hi => hN i (flat_names hk hy i hi)), (h7 j y hy).2⟩
  | map len m => exact h
  | mapS len S => exact h
theorem BlkRep.unren {O : Nat → Prop} {ρ ρ' : Nat → Option Value} {w : World} (σ : Nat → Nat) {N : Nat → Prop} {k : Blk} {v : Value} (h : BlkRep O ρ' w v (k.ren σ)) (hk : k.hasOnly N) (hN : ∀ i, N i → ∀ u, ρ' (σ i) = some u → ρ i = some u) : BlkRep O ρ w v k := by
  cases k with
  | row sz es =>
    rcases h with ⟨he, hr⟩ | ⟨b, cap, cur, e, h1, h0, h2, h3, h4, h5, h6, h7⟩
    · exact .inl ⟨by simpa using he, hr⟩
    · refine .inr ⟨b, cap, cur, e, by simpa using h1, h0, h2, by simpa using h3, h4, h5, fun x hx => ?_, fun j x hx => ?_⟩
      · have := h6 (AV.rens σ x) (List.mem_map.2 ⟨x, hx, rfl⟩)
        rwa [rens_length] at this
      · have := h7 j (x.ren σ) (by rw [flat_rens, rens_get, hx]; rfl)
        exact ⟨this.1.unren σ x rfl (fun i hi => hN i (flat_names hk hx i hi)), this.2⟩
  | map len m => exact h
  | mapS len S => exact h
def argA : Nat → List AV → List (Nat × AV)
  | _, [] => []
  | i, x :: r => (i, x) :: argA (i + 1) r
theorem lkp_argA : ∀ (l : List AV) (i d : Nat) (x : AV), lkp (argA i l) d = some x → ∃ j, l[j]? = some x ∧ d = i + j
  | [], i, d, x, h => by simp [argA, lkp] at h
  | y :: l, i, d, x, h => by
    simp only [argA, lkp] at h
    split at h
    · rename_i e
      simp only [Option.some.injEq] at h; subst h
      exact ⟨0, rfl, by omega⟩
    · obtain ⟨j, h2, h3⟩ := lkp_argA l (i + 1) d x h
      exact ⟨j + 1, by simpa using h2, by omega⟩
def resW (P : Program) (s : LS) : ResultVar → AV → Prop
  | .tmp t, r => lkp s.sl t = some r
  | .cell a ty, r => ∃ v, lkp s.sl a = some v ∧ ∃ g n, tSz P ty = some (g, n) ∧ loadR s.ps v g n r
def resWs (P : Program) (s : LS) : List ResultVar → List AV → Prop
  | [], [] => True
  | v :: vs, r :: rs => resW P s v r ∧ resWs P s vs rs
  | _, _ => False
def resWR (P : Program) (s : LS) (rv : List ResultVar) (r : AV) : Prop :=
  match rv with
  | [v] => resW P s v r
  | vs => ∃ rs, r = .tup rs ∧ resWs P s vs rs
def retH (P : Program) (fn : Func) (r : AV) (hp' : List (Nat × Blk)) (e : Exit) (s : LS) : Prop :=
  match e with
  | .ret | .normal => ∃ r0, resWR P s fn.results.toList r0 ∧ LE ⟨[(0, r0)], s.hp, s.nx⟩ ⟨[(0, r)], hp', 1⟩
  | _ => False
def HCall (P : Program) (g : FuncId) (xs : List AV) (hp : List (Nat × Blk)) (r : AV) (hp' : List (Nat × Blk)) : Prop :=
  ∃ fn c, P.funcs[g]? = some fn ∧ fn.body = some c ∧ xs.length ≤ fn.ntmps ∧ ∀ C : Ctx, C.n = fn.ntmps → Awp P C c (retH P fn r hp') ⟨argA 0 xs, hp, 0⟩
def retHX (P : Program) (fn : Func) (ch : Option (List PanicEntry)) (r : AV) (hp' : List (Nat × Blk)) (e : Exit) (s : LS) : Prop :=
  match ch with
  | none => retH P fn r hp' e s
  | some c => e = .panic c ∧ LE ⟨[(0, .p (.lit undef))], s.hp, s.nx⟩ ⟨[(0, r)], hp', 1⟩
def HXCall (P : Program) (g : FuncId) (xs : List AV) (hp : List (Nat × Blk)) (ch : Option (List PanicEntry)) (r : AV) (hp' : List (Nat × Blk)) : Prop :=
  ∃ fn c, P.funcs[g]? = some fn ∧ fn.body = some c ∧ xs.length ≤ fn.ntmps ∧ ∀ C : Ctx, C.n = fn.ntmps → Awp P C c (retHX P fn ch r hp') ⟨argA 0 xs, hp, 0⟩
theorem hxcall_of_awp {P : Program} {g : FuncId} {fn : Func} {c : Code} {xs : List AV} {hp hp' : List (Nat × Blk)} {ch : Option (List PanicEntry)} {r : AV} (hf : P.funcs[g]? = some fn) (hb : fn.body = some c) (hn : xs.length ≤ fn.ntmps)
    (h : ∀ C : Ctx, C.n = fn.ntmps → Awp P C c (retHX P fn ch r hp') ⟨argA 0 xs, hp, 0⟩) : HXCall P g xs hp ch r hp' := ⟨fn, c, hf, hb, hn, h⟩
theorem hcall_of_awp {P : Program} {g : FuncId} {fn : Func} {c : Code} {xs : List AV} {hp hp' : List (Nat × Blk)} {r : AV} (hf : P.funcs[g]? = some fn) (hb : fn.body = some c) (hn : xs.length ≤ fn.ntmps)
    (h : ∀ C : Ctx, C.n = fn.ntmps → Awp P C c (retH P fn r hp') ⟨argA 0 xs, hp, 0⟩) : HCall P g xs hp r hp' := ⟨fn, c, hf, hb, hn, h⟩
theorem run_resW {P : Program} {C : Ctx} {U : Nat → Prop} {s : LS} {ρ : Nat → Option Value} {a : Act} {w : World} (h : SatR C U s.ps ρ a w) {rv : ResultVar} {r : AV} (hr : resW P s rv r) :
    ∃ v, (getR a.tmps rv).run P w = .ok v w ∧ RepA (Own C s.ps ρ) ρ w r v := by
  cases rv with
  | tmp t => exact ⟨_, rfl, h.slots t r hr⟩
  | cell ad ty =>
    obtain ⟨v, hv, g, n, ht, hl⟩ := hr
    have hvr := h.slots ad v hv
    obtain ⟨z, hz, hzr⟩ := load_rep ht hl (fun id k hk => h.heap id k hk) hvr
    refine ⟨z, ?_, hzr⟩
    simp only [getR]
    generalize a.tmps.getD ad undef = y at hvr hz ⊢
    have key : ∃ ad, y = .pointer (some ad) := by
      unfold loadR at hl
      cases hvr with
      | ptr => exact ⟨_, rfl⟩
      | pp => exact ⟨_, rfl⟩
      | p => exact hl.elim
      | own => exact hl.elim
      | sub => exact hl.elim
      | sub0 => exact hl.elim
      | agg => exact hl.elim
      | tup => exact hl.elim
      | fn => exact hl.elim
      | mp => exact hl.elim
    obtain ⟨ad, rfl⟩ := key
    simpa [getR, asAddr, Instr.loadAt, Instr.sureAddr] using hz
theorem run_resultsW {P : Program} {C : Ctx} {U : Nat → Prop} {s : LS} {ρ : Nat → Option Value} {a : Act} {w : World} (h : SatR C U s.ps ρ a w) {fn : Func} {r : AV} (hr : resWR P s fn.results.toList r) :
    ∃ v, (results fn a.tmps).run P w = .ok v w ∧ RepA (Own C s.ps ρ) ρ w r v := by
  have many : ∀ (l : List ResultVar) (rs : List AV), resWs P s l rs → ∃ us : List Value, us.length = rs.length ∧ us.length = l.length ∧ (∀ i x, rs[i]? = some x → RepA (Own C s.ps ρ) ρ w x (us.getD i undef)) ∧
      (l.mapM (getR a.tmps)).run P w = .ok us w := by
    intro l
    induction l with
    | nil =>
      intro rs hrs
      cases rs with
      | nil => exact ⟨[], rfl, rfl, fun i x hx => by simp at hx, by simp⟩
      | cons => exact hrs.elim
    | cons v l ih =>
      intro rs hrs
      cases rs with
      | nil => exact hrs.elim
      | cons r rs =>
        obtain ⟨u, hu, hur⟩ := run_resW h hrs.1
        obtain ⟨us, h1, h2, h3, h4⟩ := ih rs hrs.2
        refine ⟨u :: us, by simp [h1], by simp [h2], fun i x hx => ?_, ?_⟩
        · cases i with
          | zero => simp only [List.getElem?_cons_zero, Option.some.injEq] at hx; subst hx; simpa using hur
          | succ i => simpa using h3 i x (by simpa using hx)
        · rw [List.mapM_cons, Sem.run_bind, hu]
          simp only [Result.andThen_ok, Sem.run_bind, h4, Sem.run_pure]
  have key : ∀ (l : List ResultVar) (us : List Value), fn.results.toList = l → us.length = l.length → (l.mapM (getR a.tmps)).run P w = .ok us w →
      (results fn a.tmps).run P w = .ok (if h : us.toArray.size = 1 then us.toArray[0] else .tuple us.toArray) w := by
    intro l us hl hlen hrun
    have hfn : fn.results = l.toArray := by rw [← hl]
    rw [results_eq, hfn]
    simp only [Sem.run_bind, List.mapM_toArray, Sem.run_map, hrun, Result.andThen_ok, Sem.run_pure]
  generalize hl : fn.results.toList = l at hr key
  unfold resWR at hr
  split at hr
  · rename_i v
    obtain ⟨us, h1, h2, h3, h4⟩ := many [v] [r] ⟨hr, trivial⟩
    have hk := key [v] us rfl h2 h4
    obtain ⟨u, rfl⟩ : ∃ u, us = [u] := by
      cases us with
      | nil => simp at h2
      | cons u us => cases us with | nil => exact ⟨u, rfl⟩ | cons => simp at h2
    refine ⟨u, by simpa using hk, ?_⟩
    simpa using h3 0 r rfl
  · rename_i hne
    obtain ⟨rs, rfl, hrs⟩ := hr
    obtain ⟨us, h1, h2, h3, h4⟩ := many l rs hrs
    have hk := key l us rfl h2 h4
    have hn1 : us.toArray.size ≠ 1 := by
      intro h
      have : l.length = 1 := by rw [← h2]; simpa using h
      match l, this with
      | [v], _ => exact hne v rfl
    rw [dif_neg hn1] at hk
    refine ⟨_, hk, .tup _ _ (by simpa using h1) (fun i x hx => ?_)⟩
    have := h3 i x hx
    rw [List.getD_eq_getElem?_getD] at this
    rw [Array.getD_eq_getD_getElem?, List.getElem?_toArray]; exact this
def sgm (σ : List Nat) (f : Nat) (i : Nat) : Nat := if i % 8 = 7 then σ.getD (i / 8) 0 else f + i
def HpIn (V : PS) (σ : List Nat) (f : Nat) : List (Nat × Blk) → Prop
  | [] => True
  | (i, b) :: r => V.hp (sgm σ f i) = some (b.ren (sgm σ f)) ∧ HpIn V σ f r
theorem HpIn.get {V : PS} {σ : List Nat} {f : Nat} : ∀ {hp : List (Nat × Blk)}, HpIn V σ f hp → ∀ i b, lkp hp i = some b → V.hp (sgm σ f i) = some (b.ren (sgm σ f))
  | [], _, i, b, h => by simp [lkp] at h
  | (j, c) :: r, hi, i, b, h => by
    simp only [lkp] at h
    split at h
    · rename_i e; subst e; simp only [Option.some.injEq] at h; subst h; exact hi.1
    · exact hi.2.get i b h
def Nm (hp : List (Nat × Blk)) (i : Nat) : Prop := (lkp hp i).isSome = true
def BlksOk (hp : List (Nat × Blk)) : List (Nat × Blk) → Prop
  | [] => True
  | (_, b) :: r => b.hasOnly (Nm hp) ∧ BlksOk hp r
theorem BlksOk.get {hp : List (Nat × Blk)} : ∀ {l : List (Nat × Blk)}, BlksOk hp l → ∀ i b, lkp l i = some b → b.hasOnly (Nm hp)
  | [], _, i, b, h => by simp [lkp] at h
  | (j, c) :: r, hi, i, b, h => by
    simp only [lkp] at h
    split at h
    · simp only [Option.some.injEq] at h; subst h; exact hi.1
    · exact hi.2.get i b h
def hpsOf (σ : List Nat) (f : Nat) (same : List Nat) (hp' : List (Nat × Blk)) : List (Nat × Blk) → List (Nat × Option Blk)
  | [] => (hp'.filter fun q => q.1 % 8 != 7).map fun q => (f + q.1, some (q.2.ren (sgm σ f)))
  | (i, _) :: r => if same.contains i = true then hpsOf σ f same hp' r else (sgm σ f i, (lkp hp' i).map (Blk.ren (sgm σ f))) :: hpsOf σ f same hp' r
def namesOk (σ : List Nat) (same : List Nat) (hp hp' : List (Nat × Blk)) : Bool :=
  hp.all (fun q => q.1 % 8 == 7 && decide (q.1 / 8 < σ.length)) && hp'.all (fun q => (q.1 % 8 == 7 && (lkp hp q.1).isSome) || decide (q.1 < 7)) && decide σ.Nodup && same.all (fun i => (lkp hp i).isSome)
def SameIn (hp hp' : List (Nat × Blk)) : List Nat → Prop
  | [] => True
  | i :: r => lkp hp' i = lkp hp i ∧ SameIn hp hp' r
end Go.Am
namespace Go.Am
open Go.RowKit
theorem sgm_inj {σ : List Nat} {f i j : Nat} (hd : σ.Nodup) (hi : i % 8 = 7) (hj : j % 8 = 7) (hi2 : i / 8 < σ.length) (hj2 : j / 8 < σ.length) (h : sgm σ f i = sgm σ f j) : i = j := by
  simp only [sgm, hi, hj, if_true] at h
  have e1 : σ.getD (i / 8) 0 = σ[i / 8] := by simp [hi2]
  have e2 : σ.getD (j / 8) 0 = σ[j / 8] := by simp [hj2]
  rw [e1, e2] at h
  have hp := List.pairwise_iff_getElem.1 hd
  rcases Nat.lt_trichotomy (i / 8) (j / 8) with h1 | h1 | h1
  · exact absurd h (hp _ _ hi2 hj2 h1)
  · omega
  · exact absurd h.symm (hp _ _ hj2 hi2 h1)
theorem setHp_fresh {σ : List Nat} {f : Nat} {h : Nat → Option Blk} (g : Nat × Blk → Option Blk) : ∀ (l : List (Nat × Blk)) (id : Nat), (∀ q, q ∈ l → q.1 < 7) →
    (∀ j, j < 7 → id = f + j → PS.setHp h (l.map fun q => (f + q.1, g q)) id = match l.find? (fun q => q.1 == j) with | some q => g q | none => h id) ∧
    ((∀ j, j < 7 → id ≠ f + j) → PS.setHp h (l.map fun q => (f + q.1, g q)) id = h id)
  | [], id, _ => ⟨fun j _ _ => rfl, fun _ => rfl⟩
  | q :: l, id, hl => by
    have ih := setHp_fresh (σ := σ) (f := f) (h := h) g l id (fun p hp => hl p (by simp [hp]))
    have hq := hl q (by simp)
    refine ⟨fun j hj e => ?_, fun hno => ?_⟩
    · simp only [List.map_cons, PS.setHp, List.find?_cons]
      by_cases e1 : q.1 = j
      · subst e1; simp [e]
      · have : (q.1 == j) = false := by simp [e1]
        rw [if_neg (by omega), this]
        exact ih.1 j hj e
    · simp only [List.map_cons, PS.setHp]
      rw [if_neg (hno q.1 hq)]
      exact ih.2 hno
theorem lkp_find : ∀ (l : List (Nat × Blk)) (j : Nat), lkp l j = (l.find? fun q => q.1 == j).map (·.2)
  | [], j => rfl
  | (k, x) :: l, j => by
    simp only [lkp, List.find?_cons]
    by_cases e : j = k
    · subst e; simp
    · have : (k == j) = false := by simp; exact fun h => e h.symm
      rw [if_neg e, this]; exact lkp_find l j
theorem find_filter (l : List (Nat × Blk)) (j : Nat) (hj : j % 8 ≠ 7) : (l.filter fun q => q.1 % 8 != 7).find? (fun q => q.1 == j) = l.find? fun q => q.1 == j := by
  rw [List.find?_filter]
  congr 1; funext q
  by_cases e : q.1 = j
  · subst e; simp [hj]
  · have : (q.1 == j) = false := by simp [e]
    simp [this]
section
variable {σ same : List Nat} {f : Nat} {hp hp' : List (Nat × Blk)} {h : Nat → Option Blk}
theorem hpsOf_fresh (hl : ∀ q, q ∈ hp' → q.1 % 8 ≠ 7 → q.1 < 7) : ∀ (r : List (Nat × Blk)), (∀ q, q ∈ r → ∀ j, j < 7 → sgm σ f q.1 ≠ f + j) → ∀ j, j < 7 → PS.setHp h (hpsOf σ f same hp' r) (f + j) = match lkp hp' j with | some b => some (b.ren (sgm σ f)) | none => h (f + j)
  | [], _, j, hj => by
    have := (setHp_fresh (σ := σ) (f := f) (h := h) (fun q => some (q.2.ren (sgm σ f))) (hp'.filter fun q => q.1 % 8 != 7) (f + j) (fun q hq => by
      have h1 := List.mem_filter.1 hq
      exact hl q h1.1 (by simpa using h1.2))).1 j hj rfl
    simp only [hpsOf]
    rw [this, find_filter _ _ (by omega), lkp_find]
    cases hp'.find? (fun q => q.1 == j) <;> rfl
  | (i, b) :: r, hr, j, hj => by
    have ih := hpsOf_fresh hl r (fun q hq => hr q (by simp [hq])) j hj
    simp only [hpsOf]
    split
    · exact ih
    · simp only [PS.setHp]
      rw [if_neg (fun e => hr (i, b) (by simp) j hj e.symm)]
      exact ih
theorem hpsOf_other (hl : ∀ q, q ∈ hp' → q.1 % 8 ≠ 7 → q.1 < 7) {id : Nat} (hno : ∀ j, j < 7 → id ≠ f + j) : ∀ (r : List (Nat × Blk)), (∀ q, q ∈ r → same.contains q.1 = false → sgm σ f q.1 ≠ id) → PS.setHp h (hpsOf σ f same hp' r) id = h id
  | [], _ => by
    simp only [hpsOf]
    exact (setHp_fresh (σ := σ) (f := f) (h := h) (fun q => some (q.2.ren (sgm σ f))) (hp'.filter fun q => q.1 % 8 != 7) id (fun q hq => by
      have h1 := List.mem_filter.1 hq
      exact hl q h1.1 (by simpa using h1.2))).2 hno
  | (i, b) :: r, hr => by
    have ih := hpsOf_other hl hno r (fun q hq => hr q (by simp [hq]))
    simp only [hpsOf]
    split
    · exact ih
    · rename_i e
      simp only [PS.setHp]
      rw [if_neg (fun e1 => hr (i, b) (by simp) (by simpa using e) e1.symm)]
      exact ih
theorem hpsOf_old (hl : ∀ q, q ∈ hp' → q.1 % 8 ≠ 7 → q.1 < 7) {i : Nat} (hi : same.contains i = false) (hinj : ∀ q, q ∈ hp → sgm σ f q.1 = sgm σ f i → q.1 = i) : ∀ (r : List (Nat × Blk)), (∀ q, q ∈ r → q ∈ hp) → (∃ b, (i, b) ∈ r) →
    PS.setHp h (hpsOf σ f same hp' r) (sgm σ f i) = (lkp hp' i).map (Blk.ren (sgm σ f))
  | [], _, hm => by obtain ⟨b, hb⟩ := hm; cases hb
  | (j, c) :: r, hr, hm => by
    simp only [hpsOf]
    split
    · rename_i e
      refine hpsOf_old hl hi hinj r (fun q hq => hr q (by simp [hq])) ?_
      obtain ⟨b, hb⟩ := hm
      rcases List.mem_cons.1 hb with hb | hb
      · injection hb with h1 h2; subst h1; rw [hi] at e; cases e
      · exact ⟨b, hb⟩
    · simp only [PS.setHp]
      by_cases e : sgm σ f i = sgm σ f j
      · rw [if_pos e]
        have := hinj (j, c) (hr _ (by simp)) e.symm
        simp only at this
        rw [this]
      · rw [if_neg e]
        refine hpsOf_old hl hi hinj r (fun q hq => hr q (by simp [hq])) ?_
        obtain ⟨b, hb⟩ := hm
        rcases List.mem_cons.1 hb with hb | hb
        · injection hb with h1 h2; subst h1; exact absurd rfl e
        · exact ⟨b, hb⟩
end
theorem SameIn.get {hp hp' : List (Nat × Blk)} : ∀ {l : List Nat}, SameIn hp hp' l → ∀ i, l.contains i = true → lkp hp' i = lkp hp i
  | [], _, i, h => by simp at h
  | j :: r, hs, i, h => by
    simp only [List.contains_cons, Bool.or_eq_true, beq_iff_eq] at h
    rcases h with rfl | h
    · exact hs.1
    · exact hs.2.get i h
theorem lend {xs ys : List AV} {hp hp' : List (Nat × Blk)} {r : AV} {σ same : List Nat} {f : Nat} {V : PS}
    (hn : namesOk σ same hp hp' = true) (hsame : SameIn hp hp' same) (hB : BlksOk hp hp) (hB' : BlksOk hp' hp') (hX : ∀ n, n ∈ AV.namess xs → Nm hp n) (hR : ∀ n, n ∈ r.names → Nm hp' n)
    (hys : ys = AV.rens (sgm σ f) xs) (hV : HpIn V σ f hp) {C : Ctx} {U : Nat → Prop} {s : PS} {ρ : Nat → Option Value} {a : Act} {w : World} {vs : Array Value} (hf : ∀ j, j < 7 → ¬ U (f + j)) (hVs : ∀ id k, V.hp id = some k → s.hp id = some k) (hs : SatR C U s ρ a w)
    (hsz : vs.size = ys.length) (hr : ∀ i x, ys[i]? = some x → RepA (Own C s ρ) ρ w x (vs.getD i undef)) (n : Nat) (hlen : xs.length ≤ n) :
    ∃ C' : Ctx, C'.n = n ∧ C'.ds = [] ∧ Sat C' (fun i => nmPos i ≤ 0) (⟨argA 0 xs, hp, 0⟩ : LS).ps ⟨vs ++ Array.replicate (n - vs.size) undef, []⟩ w ∧
      ∀ (s1 : LS) (ρ1 : Nat → Option Value) (a' : Act) (w' : World), SatR C' (fun i => nmPos i ≤ s1.nx) s1.ps ρ1 a' w' → ∀ (r0 : AV) (v : Value), RepA (Own C' s1.ps ρ1) ρ1 w' r0 v → LE ⟨[(0, r0)], s1.hp, s1.nx⟩ ⟨[(0, r)], hp', 1⟩ →
        ∃ ρ3, SatR C (fun i => U i ∨ (f ≤ i ∧ i < f + 7)) ⟨s.sl, PS.setHp s.hp (hpsOf σ f same hp' hp)⟩ ρ3 a w' ∧ RepA (Own C ⟨s.sl, PS.setHp s.hp (hpsOf σ f same hp' hp)⟩ ρ3) ρ3 w' (r.ren (sgm σ f)) v := by
  subst hys
  simp only [namesOk, Bool.and_eq_true, List.all_eq_true, decide_eq_true_eq, beq_iff_eq, Bool.or_eq_true] at hn
  obtain ⟨⟨⟨hn1, hn2⟩, hnd⟩, hn3⟩ := hn
  let τ := sgm σ f
  -- the caller's names of what is handed over
  have hkey : ∀ i b, lkp hp i = some b → i % 8 = 7 ∧ i / 8 < σ.length ∧ s.hp (τ i) = some (b.ren τ) := fun i b hi => by
    have h1 := hn1 _ (lkp_mem hp i b hi)
    exact ⟨h1.1, h1.2, hVs _ _ (hV.get i b hi)⟩
  have hmem : ∀ q, q ∈ hp → ∃ b, lkp hp q.1 = some b := fun q hq => by
    have : (hp.find? fun p => p.1 == q.1).isSome = true := by rw [List.find?_isSome]; exact ⟨q, hq, by simp⟩
    obtain ⟨z, hz⟩ := Option.isSome_iff_exists.1 this
    exact ⟨z.2, by rw [lkp_find, hz]; rfl⟩
  have hfree : ∀ j, j < 7 → s.hp (f + j) = none := fun j hj => by
    cases hh : s.hp (f + j) with
    | none => rfl
    | some k =>
      obtain ⟨v, hv, _⟩ := hs.heap _ _ hh
      rw [hs.used _ (hf j hj)] at hv; cases hv
  have hτf : ∀ i b, lkp hp i = some b → ∀ j, j < 7 → τ i ≠ f + j := fun i b hi j hj e => by
    have := (hkey i b hi).2.2; rw [e, hfree j hj] at this; cases this
  have hτinj : ∀ i b j b', lkp hp i = some b → lkp hp j = some b' → τ i = τ j → i = j := fun i b j b' hi hj e =>
    sgm_inj hnd (hkey i b hi).1 (hkey j b' hj).1 (hkey i b hi).2.1 (hkey j b' hj).2.1 e
  have hl' : ∀ q, q ∈ hp' → q.1 % 8 ≠ 7 → q.1 < 7 := fun q hq h7 => by
    rcases hn2 q hq with h1 | h1
    · exact absurd h1.1 h7
    · exact h1
  have hpin' : ∀ i b, lkp hp' i = some b → i % 8 = 7 → ∃ b0, lkp hp i = some b0 := fun i b hi h7 => by
    rcases hn2 _ (lkp_mem hp' i b hi) with h1 | h1
    · exact Option.isSome_iff_exists.1 h1.2
    · simp only at h1; omega
  have hnew' : ∀ i b, lkp hp' i = some b → i % 8 ≠ 7 → i < 7 := fun i b hi h7 => hl' _ (lkp_mem hp' i b hi) h7
  -- blocks that are handed over
  let A : Nat → Prop := fun b => ∃ i k v, lkp hp i = some k ∧ ρ (τ i) = some v ∧ oblk v = some b
  have hAown : ∀ b, A b → Own C s ρ b := fun b ⟨i, k, v, h1, h2, h3⟩ => .inr ⟨τ i, _, v, (hkey i k h1).2.2, h2, h3⟩
  have hArange : ∀ b, A b → (C.w0.heap.size ≤ b ∨ C.A b) ∧ ¬ C.Oc b ∧ b < w.heap.size := fun b ⟨i, k, v, h1, h2, h3⟩ => hs.range _ _ v b (hkey i k h1).2.2 h2 h3
  let env : Nat → Option Value := fun j => if (lkp hp (8 * j + 7)).isSome = true then ρ (τ (8 * j + 7)) else none
  let C' : Ctx := ⟨w, fun b => Own C s ρ b ∧ ¬ A b, A, n, env, []⟩
  let ρ0 : Nat → Option Value := fun i => if i % 8 = 7 then env (i / 8) else none
  have hρ0 : ∀ i b, lkp hp i = some b → ρ0 i = ρ (τ i) := fun i b hi => by
    have h7 := (hkey i b hi).1
    have e : 8 * (i / 8) + 7 = i := by omega
    simp only [ρ0, h7, if_true, env, e, hi, Option.isSome_some]
  have hρ0N : ∀ i, Nm hp i → ∀ u, ρ (τ i) = some u → ρ0 i = some u := fun i hi u hu => by
    obtain ⟨b, hb⟩ := Option.isSome_iff_exists.1 hi
    rw [hρ0 i b hb]; exact hu
  have hsub : ∀ v b, oblk v = some b → ∀ i k, lkp hp i = some k → ρ0 i = some v → A b := fun v b hb i k hi hv => ⟨i, k, v, hi, by rw [← hρ0 i k hi]; exact hv, hb⟩
  let s0 : LS := ⟨argA 0 xs, hp, 0⟩
  have hOwn0 : ∀ b, Own C' s0.ps ρ0 b → Own C s ρ b := by
    rintro b (ho | ⟨i, k, v, h1, h2, h3⟩)
    · exact ho.1
    · exact hAown b (hsub v b h3 i k h1 h2)
  have hm0 : Moves (Own C s ρ) w (Own C' s0.ps ρ0) w := ⟨Nat.le_refl _, fun _ _ _ => rfl, fun b _ => hOwn0 b⟩
  have hOc : ∀ b, C'.Oc b → b < w.heap.size := fun b hb => by
    by_cases hlt : b < w.heap.size
    · exact hlt
    · exact absurd hb.1 (hs.notOwn (by omega))
  have hsat0 : SatR C' (fun i => nmPos i ≤ 0) s0.ps ρ0 ⟨vs ++ Array.replicate (n - vs.size) undef, []⟩ w := by
    refine ⟨rfl, by simp only [Array.size_append, Array.size_replicate, C']; rw [hsz, rens_length]; omega, fun d x hx => ?_, fun i k hi => ?_, fun i j k l v u b h1 h2 h3 h4 h5 h6 => ?_, fun i hi => ?_, fun i k v b h1 h2 h3 => ?_, hOc, rfl, rfl, rfl, Nat.le_refl _, fun _ _ _ => rfl, fun j v hj => ?_⟩
    · obtain ⟨j, hj, rfl⟩ := lkp_argA xs 0 d x hx
      have hjl := (List.getElem?_eq_some_iff.1 hj).1
      have h1 := hr j (x.ren τ) (by rw [rens_get, hj]; rfl)
      rw [rens_length] at hsz
      rw [Nat.zero_add, Array.getD_eq_getD_getElem?, Array.getElem?_append_left (by omega), ← Array.getD_eq_getD_getElem?]
      exact (h1.unren τ x rfl (fun i hi u hu => hρ0N i (hX i (namess_mem xs j x hj i hi)) u hu)).mono hm0 (fun _ _ h => h)
    · obtain ⟨h7, _, hsi⟩ := hkey i k hi
      obtain ⟨v, hv, hb⟩ := hs.heap _ _ hsi
      exact ⟨v, by rw [hρ0 i k hi]; exact hv, (hb.unren τ (hB.get i k hi) (fun j hj u hu => hρ0N j hj u hu)).mono hm0 (fun _ _ h => h) (fun _ _ => rfl)⟩
    · have e1 := (hkey i k h1).2.2
      have e2 := (hkey j l h2).2.2
      rw [hρ0 i k h1] at h3
      rw [hρ0 j l h2] at h4
      exact hτinj i k j l h1 h2 (hs.inj _ _ _ _ v u b e1 e2 h3 h4 h5 h6)
    · have : ¬ i % 8 = 7 := fun e => hi (by simp [nmPos, e])
      simp only [ρ0, this, if_false]
    · have hA := hsub v b h3 i k h1 h2
      exact ⟨.inr hA, fun ho => ho.2 hA, (hArange b hA).2.2⟩
    · simp only [ρ0]; rw [if_pos (by omega)]; rw [show (8 * j + 7) / 8 = j by omega]; exact hj
  refine ⟨C', rfl, rfl, ⟨ρ0, hsat0⟩, fun s1 ρ1 a' w' hr1 r0 v hvr0 hle => ?_⟩
  let C2 : Ctx := ⟨w, fun b => Own C s ρ b ∧ ¬ A b, A, 1, env, []⟩
  have hO12 : ∀ sl : List (Nat × AV), Own C2 (⟨sl, s1.hp, s1.nx⟩ : LS).ps ρ1 = Own C' s1.ps ρ1 := fun _ => rfl
  have hone : Sat C2 (fun i => nmPos i ≤ s1.nx) (⟨[(0, r0)], s1.hp, s1.nx⟩ : LS).ps ⟨#[v], []⟩ w' := by
    refine ⟨ρ1, rfl, rfl, fun d x hx => ?_, hr1.heap, hr1.inj, hr1.used, hr1.range, hr1.oc, hr1.os, hr1.tape, hr1.output, hr1.grows, hr1.frame, hr1.pins⟩
    simp only [LS.ps, lkp] at hx
    split at hx
    · rename_i e; subst e
      simp only [Option.some.injEq] at hx; subst hx
      exact hvr0
    · cases hx
  obtain ⟨ρ2, h2⟩ := hle C2 ⟨#[v], []⟩ w' hone
  have hvr : RepA (Own C2 (⟨[(0, r)], hp', 1⟩ : LS).ps ρ2) ρ2 w' r v := h2.slots 0 r rfl
  let s2 : LS := ⟨[(0, r)], hp', 1⟩
  -- names behind the call
  let ρ3 : Nat → Option Value := fun i => if f ≤ i ∧ i < f + 7 then ρ2 (i - f) else ρ i
  have hρ3old : ∀ i, (∃ v, ρ i = some v) → ρ3 i = ρ i := fun i ⟨v, hv⟩ => by
    have : ¬ (f ≤ i ∧ i < f + 7) := fun ⟨e1, e2⟩ => by
      have := hs.used (f + (i - f)) (hf (i - f) (by omega))
      rw [show f + (i - f) = i by omega, hv] at this; cases this
    simp only [ρ3, this, if_false]
  have hρ3ext : ∀ i v, ρ i = some v → ρ3 i = some v := fun i v hv => by rw [hρ3old i ⟨v, hv⟩]; exact hv
  have hpin2 : ∀ i b, lkp hp i = some b → ρ2 i = ρ (τ i) := fun i b hi => by
    obtain ⟨h7, _, hsi⟩ := hkey i b hi
    obtain ⟨u, hu, _⟩ := hs.heap _ _ hsi
    have e : 8 * (i / 8) + 7 = i := by omega
    have := h2.pins (i / 8) u (by simp only [C2, env, e, hi, Option.isSome_some, if_true]; exact hu)
    rw [e] at this
    rw [this, hu]
  have hρ3 : ∀ i, Nm s2.hp i → ∀ u, ρ2 i = some u → ρ3 (τ i) = some u := fun i hi u hu => by
    obtain ⟨b, hb⟩ := Option.isSome_iff_exists.1 hi
    by_cases h7 : i % 8 = 7
    · obtain ⟨b0, hb0⟩ := hpin' i b hb h7
      rw [hpin2 i b0 hb0] at hu
      exact hρ3ext _ _ hu
    · have hlt := hnew' i b hb h7
      have e : τ i = f + i := by simp [τ, sgm, h7]
      simp only [ρ3, e]
      rw [if_pos (by omega), show f + i - f = i by omega]; exact hu
  -- the state behind the call
  let s3 : PS := ⟨s.sl, PS.setHp s.hp (hpsOf σ f same s2.hp hp)⟩
  have hp3old : ∀ i b, lkp hp i = some b → s3.hp (τ i) = (lkp s2.hp i).map (Blk.ren τ) := fun i b hi => by
    have hinj : ∀ q, q ∈ hp → sgm σ f q.1 = sgm σ f i → q.1 = i := fun q hq e => by
      obtain ⟨b', hb'⟩ := hmem q hq
      exact hτinj q.1 b' i b hb' hi e
    cases hc : same.contains i with
    | false => exact hpsOf_old hl' hc hinj hp (fun _ h => h) ⟨b, lkp_mem hp i b hi⟩
    | true =>
      have := hpsOf_other (σ := σ) (f := f) (same := same) (hp' := s2.hp) (h := s.hp) hl' (id := τ i) (fun j hj => hτf i b hi j hj) hp (fun q hq hqs e => by
        have := hinj q hq e
        rw [this, hc] at hqs; cases hqs)
      show PS.setHp s.hp _ (τ i) = _
      rw [this, hsame.get i hc, hi, (hkey i b hi).2.2]; rfl
  have hp3new : ∀ j, j < 7 → s3.hp (f + j) = (lkp s2.hp j).map (Blk.ren τ) := fun j hj => by
    have := hpsOf_fresh (σ := σ) (f := f) (same := same) (hp' := s2.hp) (h := s.hp) hl' hp (fun q hq j hj => by
      obtain ⟨b, hb⟩ := hmem q hq
      exact hτf q.1 b hb j hj) j hj
    show PS.setHp s.hp _ (f + j) = _
    rw [this]
    cases lkp s2.hp j with
    | none => exact hfree j hj
    | some b => rfl
  have hp3oth : ∀ id, (∀ j, j < 7 → id ≠ f + j) → (∀ i b, lkp hp i = some b → τ i ≠ id) → s3.hp id = s.hp id := fun id h1 h2' =>
    hpsOf_other hl' h1 hp (fun q hq _ => by
      obtain ⟨b, hb⟩ := hmem q hq
      exact h2' q.1 b hb)
  -- whose is a block behind the call?
  have hcase : ∀ id k u, s3.hp id = some k → ρ3 id = some u → (∃ i b, lkp s2.hp i = some b ∧ k = b.ren τ ∧ ρ2 i = some u ∧ id = τ i) ∨ (s.hp id = some k ∧ ρ id = some u ∧ ∀ i b, lkp hp i = some b → τ i ≠ id) := fun id k u hk hu => by
    by_cases hnew : ∃ j, j < 7 ∧ id = f + j
    · obtain ⟨j, hj, rfl⟩ := hnew
      rw [hp3new j hj] at hk
      obtain ⟨b, hb, rfl⟩ := Option.map_eq_some_iff.1 hk
      simp only [ρ3] at hu
      rw [if_pos (by omega), show f + j - f = j by omega] at hu
      exact .inl ⟨j, b, hb, rfl, hu, by simp only [τ, sgm]; rw [if_neg (by omega)]⟩
    · have hno : ∀ j, j < 7 → id ≠ f + j := fun j hj e => hnew ⟨j, hj, e⟩
      have hu' : ρ id = some u := by
        have : ¬ (f ≤ id ∧ id < f + 7) := fun ⟨e1, e2⟩ => hno (id - f) (by omega) (by omega)
        simpa only [ρ3, this, if_false] using hu
      by_cases hold : ∃ i b, lkp hp i = some b ∧ τ i = id
      · obtain ⟨i, b, hi, rfl⟩ := hold
        rw [hp3old i b hi] at hk
        obtain ⟨b', hb', rfl⟩ := Option.map_eq_some_iff.1 hk
        exact .inl ⟨i, b', hb', rfl, by rw [hpin2 i b hi]; exact hu', rfl⟩
      · have hno2 : ∀ i b, lkp hp i = some b → τ i ≠ id := fun i b hi e => hold ⟨i, b, hi, e⟩
        rw [hp3oth id hno hno2] at hk
        exact .inr ⟨hk, hu', hno2⟩
  have hrange2 : ∀ i b u x, lkp s2.hp i = some b → ρ2 i = some u → oblk u = some x → (w.heap.size ≤ x ∨ A x) ∧ ¬ (Own C s ρ x ∧ ¬ A x) ∧ x < w'.heap.size := fun i b u x h1 h2' h3 => h2.range i b u x h1 h2' h3
  have hOwn3 : ∀ x, Own C s3 ρ3 x → x < w.heap.size → Own C s ρ x := by
    rintro x (ho | ⟨id, k, u, h1, h2', h3⟩) hlt
    · exact .inl ho
    · rcases hcase id k u h1 h2' with ⟨i, b, g1, _, g2, _⟩ | ⟨g1, g2, _⟩
      · rcases (hrange2 i b u x g1 g2 h3).1 with h | h
        · omega
        · exact hAown x h
      · exact .inr ⟨id, k, u, g1, g2, h3⟩
  have hOwn32 : ∀ x, Own C s3 ρ3 x → Own C2 s2.ps ρ2 x := by
    rintro x (ho | ⟨id, k, u, h1, h2', h3⟩)
    · refine .inl ⟨.inl ho, fun hA => (hArange x hA).2.1 ho⟩
    · rcases hcase id k u h1 h2' with ⟨i, b, g1, _, g2, _⟩ | ⟨g1, g2, g3⟩
      · exact .inr ⟨i, b, u, g1, g2, h3⟩
      · refine .inl ⟨.inr ⟨id, k, u, g1, g2, h3⟩, fun ⟨i, b, v', q1, q2, q3⟩ => ?_⟩
        exact g3 i b q1 (hs.inj (τ i) id _ _ v' u x (hkey i b q1).2.2 g1 q2 g2 q3 h3)
  have hm3 : Moves (Own C s ρ) w (Own C s3 ρ3) w' := ⟨h2.grows, fun x hx hno => h2.frame x hx (fun hA => hno (hAown x hA)), fun x hx ho => hOwn3 x ho hx⟩
  have hm32 : Moves (Own C2 s2.ps ρ2) w' (Own C s3 ρ3) w' := ⟨Nat.le_refl _, fun _ _ _ => rfl, fun x _ ho => hOwn32 x ho⟩
  have hblk : ∀ x, x < w.heap.size → ¬ A x → w'.heap[x]? = w.heap[x]? := fun x hx hA => h2.frame x hx hA
  have hdisj : ∀ id k u, s.hp id = some k → ρ id = some u → (∀ i b, lkp hp i = some b → τ i ≠ id) → ∀ x, oblk u = some x → ¬ A x := fun id k u g1 g2 g3 x hx ⟨i, b, v', q1, q2, q3⟩ =>
    g3 i b q1 (hs.inj (τ i) id _ _ v' u x (hkey i b q1).2.2 g1 q2 g2 q3 hx)
  have hres3 : RepA (Own C s3 ρ3) ρ3 w' (r.ren τ) v := (hvr.ren τ (ρ' := ρ3) (fun i hi u hu => hρ3 i (hR i hi) u hu)).mono hm32 (fun _ _ h => h)
  refine ⟨ρ3, ?_⟩
  have base : SatR C (fun i => U i ∨ (f ≤ i ∧ i < f + 7)) ⟨s.sl, s3.hp⟩ ρ3 a w' := by
    have hOe : Own C ⟨s.sl, s3.hp⟩ ρ3 = Own C s3 ρ3 := rfl
    refine ⟨hs.defers, hs.size, fun d x hx => (hs.slots d x hx).mono hm3 hρ3ext, fun id k hid => ?_, fun i j k l v u x h1 h2' h3 h4 h5 h6 => ?_, fun i hi => ?_, fun id k u x h1 h2' h3 => ?_, hs.oc, h2.os.trans hs.os, h2.tape.trans hs.tape, h2.output.trans hs.output, Nat.le_trans hs.grows h2.grows, fun x hx hA => ?_, fun j u hj => hρ3ext _ _ (hs.pins j u hj)⟩
    · have hid' : s3.hp id = some k := hid
      by_cases hnew : ∃ j, j < 7 ∧ id = f + j
      · obtain ⟨j, hj, rfl⟩ := hnew
        rw [hp3new j hj] at hid'
        obtain ⟨b, hb, rfl⟩ := Option.map_eq_some_iff.1 hid'
        obtain ⟨u, hu, hbr⟩ := h2.heap j b hb
        refine ⟨u, by simp only [ρ3]; rw [if_pos (by omega), show f + j - f = j by omega]; exact hu, ?_⟩
        exact (hbr.ren τ (ρ' := ρ3) (hB'.get j b hb) (fun i hi z hz => hρ3 i hi z hz)).mono hm32 (fun _ _ h => h) (fun _ _ => rfl)
      · have hno : ∀ j, j < 7 → id ≠ f + j := fun j hj e => hnew ⟨j, hj, e⟩
        by_cases hold : ∃ i b, lkp hp i = some b ∧ τ i = id
        · obtain ⟨i, b, hi, rfl⟩ := hold
          rw [hp3old i b hi] at hid'
          obtain ⟨b', hb', rfl⟩ := Option.map_eq_some_iff.1 hid'
          obtain ⟨u, hu, hbr⟩ := h2.heap i b' hb'
          refine ⟨u, hρ3ext _ _ (by rw [← hpin2 i b hi]; exact hu), ?_⟩
          exact (hbr.ren τ (ρ' := ρ3) (hB'.get i b' hb') (fun i hi z hz => hρ3 i hi z hz)).mono hm32 (fun _ _ h => h) (fun _ _ => rfl)
        · have hno2 : ∀ i b, lkp hp i = some b → τ i ≠ id := fun i b hi e => hold ⟨i, b, hi, e⟩
          rw [hp3oth id hno hno2] at hid'
          obtain ⟨u, hu, hbr⟩ := hs.heap id k hid'
          exact ⟨u, hρ3ext _ _ hu, hbr.mono hm3 hρ3ext (fun x hx => hblk x (hs.range id k u x hid' hu hx).2.2 (hdisj id k u hid' hu hno2 x hx))⟩
    · rcases hcase i k v h1 h3 with ⟨i', b, g1, _, g2, rfl⟩ | ⟨g1, g2, g3⟩
      · rcases hcase j l u h2' h4 with ⟨j', b', q1, _, q2, rfl⟩ | ⟨q1, q2, q3⟩
        · rw [h2.inj i' j' b b' v u x g1 q1 g2 q2 h5 h6]
        · exfalso
          rcases (hrange2 i' b v x g1 g2 h5).1 with h | h
          · have := (hs.range j l u x q1 q2 h6).2.2; omega
          · exact hdisj j l u q1 q2 q3 x h6 h
      · rcases hcase j l u h2' h4 with ⟨j', b', q1, _, q2, rfl⟩ | ⟨q1, q2, q3⟩
        · exfalso
          rcases (hrange2 j' b' u x q1 q2 h6).1 with h | h
          · have := (hs.range i k v x g1 g2 h5).2.2; omega
          · exact hdisj i k v g1 g2 g3 x h5 h
        · exact hs.inj i j k l v u x g1 q1 g2 q2 h5 h6
    · have h1 : ¬ (f ≤ i ∧ i < f + 7) := fun e => hi (.inr e)
      simp only [ρ3, h1, if_false]
      exact hs.used i (fun e => hi (.inl e))
    · rcases hcase id k u h1 h2' with ⟨i, b, g1, _, g2, _⟩ | ⟨g1, g2, _⟩
      · obtain ⟨q1, q2, q3⟩ := hrange2 i b u x g1 g2 h3
        rcases q1 with q1 | q1
        · refine ⟨.inl (Nat.le_trans hs.grows q1), fun ho => ?_, q3⟩
          have := hs.oc x ho; have := hs.grows; omega
        · exact ⟨(hArange x q1).1, (hArange x q1).2.1, q3⟩
      · obtain ⟨q1, q2, q3⟩ := hs.range id k u x g1 g2 h3
        exact ⟨q1, q2, Nat.lt_of_lt_of_le q3 h2.grows⟩
    · have hlt := Nat.lt_of_lt_of_le hx hs.grows
      rw [hblk x hlt (fun hAx => by
        rcases (hArange x hAx).1 with h | h
        · omega
        · exact hA h)]
      exact hs.frame x hx hA
  exact ⟨base, hres3⟩
def CallsX (P : Program) (g : FuncId) (xs : List AV) (f : Nat) (V : PS) (dst : Option Nat) (ch : Option (List PanicEntry)) (u : Upd) : Prop :=
  ∀ (C : Ctx) (U : Nat → Prop) (s : PS) (ρ : Nat → Option Value) (a : Act) (w : World) (vs : Array Value), (∀ d, dst = some d → d < C.n) → (∀ j, j < 7 → ¬ U (f + j)) → (∀ id k, V.hp id = some k → s.hp id = some k) → SatR C U s ρ a w →
    vs.size = xs.length → (∀ i x, xs[i]? = some x → RepA (Own C s ρ) ρ w x (vs.getD i undef)) →
    Calls P g vs w fun e w' => match ch with
      | none => ∃ v, e = .returned v ∧ Sat C (fun i => U i ∨ (f ≤ i ∧ i < f + 7)) (s.upd dst u) (a.put dst v) w'
      | some c => e = .panicked c ∧ Sat C (fun i => U i ∨ (f ≤ i ∧ i < f + 7)) ⟨s.sl, PS.setHp s.hp u.hps⟩ a w'
theorem callsX_of_hxcall {P : Program} {g : FuncId} {xs ys : List AV} {hp hp' : List (Nat × Blk)} {ch : Option (List PanicEntry)} {r : AV} (h : HXCall P g xs hp ch r hp') {σ same : List Nat} {f : Nat} {V : PS} {dst : Option Nat}
    (hn : namesOk σ same hp hp' = true) (hsame : SameIn hp hp' same) (hB : BlksOk hp hp) (hB' : BlksOk hp' hp') (hX : ∀ n, n ∈ AV.namess xs → Nm hp n) (hR : ∀ n, n ∈ r.names → Nm hp' n)
    (hys : ys = AV.rens (sgm σ f) xs) (hV : HpIn V σ f hp) : CallsX P g ys f V dst ch ⟨r.ren (sgm σ f), hpsOf σ f same hp' hp⟩ := by
  intro C U s ρ a w vs hd hf hVs hs hsz hr
  obtain ⟨fn, c, hfn, hbody, hlen, hawp⟩ := h
  obtain ⟨C', hCn, hds, hsat0, back⟩ := lend hn hsame hB hB' hX hR hys hV hf hVs hs hsz hr fn.ntmps hlen
  let τ := sgm σ f
  refine calls_of_wp hfn hbody (wp_mono (hawp C' hCn _ w hsat0) fun e a' w' ⟨s1, hk, hsat1⟩ => ?_)
  obtain ⟨ρ1, hr1⟩ := hsat1
  have fin0 := back s1 ρ1 a' w' hr1
  have hdf : a'.defers = [] := hr1.defers.trans hds
  have fin : retH P fn r hp' e s1 → ch = none → bodyPost P fn (fun e w' => match ch with
      | none => ∃ v, e = .returned v ∧ Sat C (fun i => U i ∨ (f ≤ i ∧ i < f + 7)) (s.upd dst ⟨r.ren τ, hpsOf σ f same hp' hp⟩) (a.put dst v) w'
      | some c => e = .panicked c ∧ Sat C (fun i => U i ∨ (f ≤ i ∧ i < f + 7)) ⟨s.sl, PS.setHp s.hp (hpsOf σ f same hp' hp)⟩ a w') e a' w' := by
    rintro hk rfl
    have fin1 : (∃ r0, resWR P s1 fn.results.toList r0 ∧ LE ⟨[(0, r0)], s1.hp, s1.nx⟩ ⟨[(0, r)], hp', 1⟩) → bodyPost P fn (fun e w' => ∃ v, e = .returned v ∧ Sat C (fun i => U i ∨ (f ≤ i ∧ i < f + 7)) (s.upd dst ⟨r.ren τ, hpsOf σ f same hp' hp⟩) (a.put dst v) w') .ret a' w' := by
      rintro ⟨r0, hres, hle⟩
      obtain ⟨v, hv, hvr0⟩ := run_resultsW hr1 hres
      obtain ⟨ρ3, base, hres3⟩ := fin0 r0 v hvr0 hle
      exact ⟨hdf, v, hv, v, rfl, ρ3, base.put hd (x := r.ren τ) (v := v) hres3⟩
    cases e with
    | ret => exact fin1 hk
    | normal => exact fin1 hk
    | exit => exact hk.elim
    | goto => exact hk.elim
    | panic => exact hk.elim
    | outgrown => exact hk.elim
  cases ch with
  | none => exact fin hk rfl
  | some c =>
    obtain ⟨rfl, hle⟩ := hk
    obtain ⟨ρ3, base, _⟩ := fin0 (.p (.lit undef)) undef (.p _ _ (.lit _)) hle
    exact ⟨hdf, rfl, ρ3, base⟩
theorem callsA_of_hcall {P : Program} {g : FuncId} {xs ys : List AV} {hp hp' : List (Nat × Blk)} {r : AV} (h : HCall P g xs hp r hp') {σ same : List Nat} {f : Nat} {V : PS} {dst : Option Nat}
    (hn : namesOk σ same hp hp' = true) (hsame : SameIn hp hp' same) (hB : BlksOk hp hp) (hB' : BlksOk hp' hp') (hX : ∀ n, n ∈ AV.namess xs → Nm hp n) (hR : ∀ n, n ∈ r.names → Nm hp' n)
    (hys : ys = AV.rens (sgm σ f) xs) (hV : HpIn V σ f hp) : CallsA P g ys f V dst ⟨r.ren (sgm σ f), hpsOf σ f same hp' hp⟩ :=
  callsX_of_hxcall (ch := none) h hn hsame hB hB' hX hR hys hV
theorem callK_h {P : Program} {g : FuncId} {xs ys : List AV} {hp hp' : List (Nat × Blk)} {r : AV} {f : Nat} {V : PS} {dst : Option Nat} {K : Upd → Prop} (h : HCall P g xs hp r hp') (σ same : List Nat)
    (hys : ys = AV.rens (sgm σ f) xs) (hn : namesOk σ same hp hp' = true) (hsame : SameIn hp hp' same) (hB : BlksOk hp hp) (hB' : BlksOk hp' hp') (hX : ∀ n, n ∈ AV.namess xs → Nm hp n) (hR : ∀ n, n ∈ r.names → Nm hp' n)
    (hV : HpIn V σ f hp) (hK : K ⟨r.ren (sgm σ f), hpsOf σ f same hp' hp⟩) : callK P g ys f V dst K := ⟨_, callsA_of_hcall h hn hsame hB hB' hX hR hys hV, hK⟩
end Go.Am
namespace Go.Am
open Go.RowKit
theorem rens_p (σ : Nat → Nat) : ∀ xs : List PV, AV.rens σ (xs.map .p) = xs.map .p
  | [] => rfl
  | x :: r => by simp [AV.rens, AV.ren, rens_p σ r]
theorem ren_lift (σ : Nat → Nat) (sz : Nat) (es : List (List PV)) : Blk.ren σ (.row sz (lift es)) = .row sz (lift es) := by
  simp only [Blk.ren, lift, List.map_map, Blk.row.injEq, true_and]
  exact List.map_congr_left fun x _ => rens_p σ x
theorem namess_p : ∀ xs : List PV, AV.namess (xs.map .p) = []
  | [] => rfl
  | x :: r => by simp [AV.namess, AV.names, namess_p r]
theorem only_lift (N : Nat → Prop) (sz : Nat) (es : List (List PV)) : Blk.hasOnly N (.row sz (lift es)) = True := by
  simp only [Blk.hasOnly, lift, List.mem_map, eq_iff_iff, iff_true]
  rintro cs ⟨y, _, rfl⟩ n hn
  rw [namess_p] at hn; cases hn
theorem only_one (N : Nat → Prop) (sz : Nat) (cs : List AV) : Blk.hasOnly N (.row sz [cs]) = ∀ n, n ∈ AV.namess cs → N n := by simp [Blk.hasOnly]
theorem only_map (N : Nat → Prop) (len : Nat) (m : List Int → Option PV) : Blk.hasOnly N (.map len m) = True := rfl
theorem only_mapS (N : Nat → Prop) (len : Nat) (S : List Int → PV → Prop) : Blk.hasOnly N (.mapS len S) = True := rfl
theorem ren_one (σ : Nat → Nat) (sz : Nat) (cs : List AV) : Blk.ren σ (.row sz [cs]) = .row sz [AV.rens σ cs] := rfl
theorem ren_map (σ : Nat → Nat) (len : Nat) (m : List Int → Option PV) : Blk.ren σ (.map len m) = .map len m := rfl
theorem ren_mapS (σ : Nat → Nat) (len : Nat) (S : List Int → PV → Prop) : Blk.ren σ (.mapS len S) = .mapS len S := rfl
section
variable (σ : Nat → Nat)
theorem r01 (x : PV) : AV.ren σ (.p x) = .p x := by simp [AV.ren]
theorem r02 (i : Nat) : AV.ren σ (.own i) = .own (σ i) := by simp [AV.ren]
theorem r03 (i sz k o : Nat) : AV.ren σ (.ptr i sz k o) = .ptr (σ i) sz k o := by simp [AV.ren]
theorem r04 (i : Nat) : AV.ren σ (.mp i) = .mp (σ i) := by simp [AV.ren]
theorem r05 (cs : List AV) : AV.ren σ (.agg cs) = .agg (AV.rens σ cs) := by simp [AV.ren]
theorem r06 (cs : List AV) : AV.ren σ (.tup cs) = .tup (AV.rens σ cs) := by simp [AV.ren]
theorem r07 (f : FuncId) (cs : List AV) : AV.ren σ (.fn f cs) = .fn f (AV.rens σ cs) := by simp [AV.ren]
theorem r08 : AV.rens σ [] = [] := by simp [AV.rens]
theorem r09 (x : AV) (r : List AV) : AV.rens σ (x :: r) = x.ren σ :: AV.rens σ r := by simp [AV.rens]
end
theorem r10 (x : PV) : AV.names (.p x) = [] := by simp [AV.names]
theorem r11 (i : Nat) : AV.names (.own i) = [i] := by simp [AV.names]
theorem r12 (i sz k o : Nat) : AV.names (.ptr i sz k o) = [i] := by simp [AV.names]
theorem r13 (i : Nat) : AV.names (.mp i) = [i] := by simp [AV.names]
theorem r14 (cs : List AV) : AV.names (.agg cs) = AV.namess cs := by simp [AV.names]
theorem r15 (cs : List AV) : AV.names (.tup cs) = AV.namess cs := by simp [AV.names]
theorem r16 (f : FuncId) (cs : List AV) : AV.names (.fn f cs) = AV.namess cs := by simp [AV.names]
theorem r17 : AV.namess [] = [] := by simp [AV.namess]
theorem r18 (x : AV) (r : List AV) : AV.namess (x :: r) = x.names ++ AV.namess r := by simp [AV.namess]
section
variable (s : List Nat) (f : Nat)
theorem s01 (i : Nat) : sgm s f i = if i % 8 = 7 then s.getD (i / 8) 0 else f + i := rfl
theorem s02 (x : Nat) (r : List Nat) : (x :: r).getD 0 0 = x := rfl
theorem s03 (x i : Nat) (r : List Nat) : (x :: r).getD (i + 1) 0 = r.getD i 0 := rfl
theorem s04 (same : List Nat) (hp' : List (Nat × Blk)) : hpsOf s f same hp' [] = (hp'.filter fun q => q.1 % 8 != 7).map fun q => (f + q.1, some (q.2.ren (sgm s f))) := rfl
theorem s05 (same : List Nat) (hp' : List (Nat × Blk)) (i : Nat) (b : Blk) (r : List (Nat × Blk)) : hpsOf s f same hp' ((i, b) :: r) = if same.contains i = true then hpsOf s f same hp' r else (sgm s f i, (lkp hp' i).map (Blk.ren (sgm s f))) :: hpsOf s f same hp' r := rfl
theorem s06 (V : PS) : HpIn V s f [] = True := rfl
theorem s07 (V : PS) (i : Nat) (b : Blk) (r : List (Nat × Blk)) : HpIn V s f ((i, b) :: r) = (V.hp (sgm s f i) = some (b.ren (sgm s f)) ∧ HpIn V s f r) := rfl
theorem s08 (hp : List (Nat × Blk)) : BlksOk hp [] = True := rfl
theorem s09 (hp : List (Nat × Blk)) (i : Nat) (b : Blk) (r : List (Nat × Blk)) : BlksOk hp ((i, b) :: r) = (b.hasOnly (Nm hp) ∧ BlksOk hp r) := rfl
theorem s10 (hp hp' : List (Nat × Blk)) : SameIn hp hp' [] = True := rfl
theorem s11 (hp hp' : List (Nat × Blk)) (i : Nat) (r : List Nat) : SameIn hp hp' (i :: r) = (lkp hp' i = lkp hp i ∧ SameIn hp hp' r) := rfl
theorem s12 (hp : List (Nat × Blk)) (i : Nat) : Nm hp i = ((lkp hp i).isSome = true) := rfl
theorem s13 (n : Nat) (P : Nat → Prop) : (∀ i, i ∈ [n] → P i) = P n := by simp
theorem s14 (P : Nat → Prop) : (∀ i, i ∈ ([] : List Nat) → P i) = True := by simp
theorem s15 (a : Nat) (l : List Nat) (P : Nat → Prop) : (∀ i, i ∈ a :: l → P i) = (P a ∧ ∀ i, i ∈ l → P i) := by simp
end
theorem argA_nil (i : Nat) : argA i [] = [] := rfl
theorem argA_cons (i : Nat) (x : AV) (r : List AV) : argA i (x :: r) = (i, x) :: argA (i + 1) r := rfl
theorem hm : type_of% (And.intro (And.intro (And.intro (And.intro (And.intro @ren_lift @only_lift) (And.intro @only_one (And.intro @only_map @only_mapS))) (And.intro (And.intro @ren_one @ren_map) (And.intro @ren_mapS (And.intro @r01 @r02)))) (And.intro (And.intro (And.intro @r03 @r04) (And.intro @r05 (And.intro @r06 @r07))) (And.intro (And.intro @r08 (And.intro @r09 @r10)) (And.intro @r11 (And.intro @r12 @r13))))) (And.intro (And.intro (And.intro (And.intro @r14 @r15) (And.intro @r16 (And.intro @r17 @r18))) (And.intro (And.intro @s01 (And.intro @s02 @s03)) (And.intro @s04 (And.intro @s05 @s06)))) (And.intro (And.intro (And.intro @s07 @s08) (And.intro @s09 (And.intro @s10 @s11))) (And.intro (And.intro @s12 (And.intro @s13 @s14)) (And.intro @s15 (And.intro @argA_nil @argA_cons)))))) := (And.intro (And.intro (And.intro (And.intro (And.intro @ren_lift @only_lift) (And.intro @only_one (And.intro @only_map @only_mapS))) (And.intro (And.intro @ren_one @ren_map) (And.intro @ren_mapS (And.intro @r01 @r02)))) (And.intro (And.intro (And.intro @r03 @r04) (And.intro @r05 (And.intro @r06 @r07))) (And.intro (And.intro @r08 (And.intro @r09 @r10)) (And.intro @r11 (And.intro @r12 @r13))))) (And.intro (And.intro (And.intro (And.intro @r14 @r15) (And.intro @r16 (And.intro @r17 @r18))) (And.intro (And.intro @s01 (And.intro @s02 @s03)) (And.intro @s04 (And.intro @s05 @s06)))) (And.intro (And.intro (And.intro @s07 @s08) (And.intro @s09 (And.intro @s10 @s11))) (And.intro (And.intro @s12 (And.intro @s13 @s14)) (And.intro @s15 (And.intro @argA_nil @argA_cons))))))
section
variable {P : Program} {s : LS} {fn : Func} {hp' : List (Nat × Blk)}
theorem LE.refl (s : LS) : LE s s := fun _ _ _ h => h
theorem reth1 {t : Nat} {r r0 : AV} (hf : fn.results = #[.tmp t]) (h : lkp s.sl t = some r0) (hle : LE ⟨[(0, r0)], s.hp, s.nx⟩ ⟨[(0, r)], hp', 1⟩) : retH P fn r hp' .ret s := by
  refine ⟨r0, ?_, hle⟩
  rw [hf]; exact h
theorem rethc {a ty : Nat} {r v : AV} {g : Bool} {n : Nat} (hf : fn.results = #[.cell a ty]) (h : lkp s.sl a = some v) (ht : tSz P ty = some (g, n)) (hl : loadK s.ps v g n fun x => LE ⟨[(0, x)], s.hp, s.nx⟩ ⟨[(0, r)], hp', 1⟩) : retH P fn r hp' .ret s := by
  obtain ⟨x, hx, hle⟩ := hl
  refine ⟨x, ?_, hle⟩
  rw [hf]; exact ⟨v, h, g, n, ht, hx⟩
theorem retc {a ty : Nat} {v : AV} {r : PV} {g : Bool} {n : Nat} (h : lkp s.sl a = some v) (ht : tSz P ty = some (g, n)) (hl : loadK s.ps v g n fun y => ResA s.hp y r) : resV P s (.cell a ty) r := by
  obtain ⟨y, hy, hr⟩ := hl
  exact ⟨v, h, g, n, ht, y, hy, hr⟩
theorem rett {t : Nat} {x : AV} {r : PV} (h : lkp s.sl t = some x) (hr : ResA s.hp x r) : resV P s (.tmp t) r := ⟨x, h, hr⟩
theorem retl {rv : List ResultVar} {rs : List PV} {v u : ResultVar} {l : List ResultVar} (hf : fn.results.toList = rv) (hv : rv = v :: u :: l) (h : resVs P s rv rs) : retK P fn (.tup rs) .ret s := by
  show resR P s fn.results.toList _
  rw [hf, hv]; rw [hv] at h; exact ⟨_, rfl, h⟩
theorem retone {v : ResultVar} {r : PV} (hf : fn.results = #[v]) (h : resV P s v r) : retK P fn r .ret s := by
  show resR P s fn.results.toList _
  rw [hf]; exact h
end
end Go.Am
end
section
set_option linter.unusedSimpArgs false
set_option linter.unusedVariables false
namespace Go.Pl
end Go.Pl
namespace Go.Pl
structure Task where
  low : Int
  high : Int
  up : Int
  wait : Int
deriving DecidableEq, Inhabited
structure Work where
  ts : List Task
  grain : Int
  done : List Bool
deriving DecidableEq, Inhabited
def okT (n i : Nat) (t : Task) : Prop := 0 ≤ t.low ∧ t.low < t.high ∧ t.high ≤ n ∧ -1 ≤ t.up ∧ t.up < i ∧ 0 ≤ t.wait ∧ t.wait ≤ 2
instance (n i : Nat) (t : Task) : Decidable (okT n i t) := by unfold okT; infer_instance
def cnt (n g : Int) : Prop := 1 ≤ n ∧ n ≤ 1000 ∧ 1 ≤ g ∧ g ≤ 100
instance (n g : Int) : Decidable (cnt n g) := by unfold cnt; infer_instance
def right (w : Work) : Prop := cnt w.done.length w.grain ∧ 1 ≤ w.ts.length ∧ w.ts.length ≤ 2000 ∧ ∀ i, i < w.ts.length → okT w.done.length i (w.ts.getD i default)
instance (w : Work) : Decidable (right w) := by unfold right; infer_instance
def there (w : Work) (i : Int) : Int := if ¬ right w then 1 else if i < 0 ∨ (w.ts.length : Int) ≤ i then 6 else 0
@[reducible] def task (w : Work) (i : Int) : Task := w.ts.getD i.toNat default
def great (w : Work) (i : Int) : Prop := there w i = 0 ∧ w.grain < (task w i).high - (task w i).low
instance (w : Work) (i : Int) : Decidable (great w i) := by unfold great; infer_instance
theorem ok_of {w : Work} {i : Int} (h : there w i = 0) : right w ∧ 0 ≤ i ∧ i < w.ts.length ∧ okT w.done.length i.toNat (task w i) ∧ w.done.length ≤ 1000 ∧ 1 ≤ w.grain ∧ w.grain ≤ 100 ∧ w.ts.length ≤ 2000 := by
  unfold there at h
  split at h
  · omega
  · rename_i hr
    split at h
    · omega
    · rename_i hi
      have hr := Decidable.not_not.mp hr
      have h1 := hr.1
      have h2 := hr.2.2.1
      have hok := hr.2.2.2 i.toNat (by omega)
      unfold cnt at h1
      exact ⟨hr, by omega, by omega, hok, by omega, by omega, by omega, h2⟩
theorem there_of {w : Work} {i : Int} (h : right w) (h2 : 0 ≤ i ∧ i < w.ts.length) : there w i = 0 := by
  unfold there; rw [if_neg (by simpa using h), if_neg (by omega)]
def mid (t : Task) : Int := t.low + (t.high - t.low) / 2
def parted (w : Work) (i : Int) : Work :=
  ⟨w.ts.set i.toNat { task w i with wait := 2 } ++ [⟨(task w i).low, mid (task w i), i, 0⟩, ⟨mid (task w i), (task w i).high, i, 0⟩], w.grain, w.done⟩
def partE (w : Work) (i : Int) : Int := if there w i ≠ 0 then there w i else if (task w i).high - (task w i).low ≤ w.grain ∨ 0 < (task w i).wait then 5 else if 1998 < w.ts.length then 2 else 0
def partW (w : Work) (i : Int) : Work := if partE w i = 0 then parted w i else w
def partA (w : Work) (i : Int) : Int := if partE w i = 0 then w.ts.length else 0
def partB (w : Work) (i : Int) : Int := if partE w i = 0 then w.ts.length + 1 else 0
def fin : Nat → List Task → Int → List Task × Bool
  | 0, ts, _ => (ts, true)
  | k + 1, ts, up => if up = -1 then (ts, true) else
      let t := ts.getD up.toNat default
      if t.wait = 0 then (ts, false) else
      if 0 < t.wait - 1 then (ts.set up.toNat { t with wait := t.wait - 1 }, false) else fin k (ts.set up.toNat { t with wait := t.wait - 1 }) t.up
def doE (w : Work) (i : Int) : Int := if there w i ≠ 0 then there w i else if w.grain < (task w i).high - (task w i).low ∨ 0 < (task w i).wait ∨ w.done.getD (task w i).low.toNat false = true then 5 else 0
def marked (d : List Bool) (lo hi : Nat) : List Bool := d.take lo ++ List.replicate (hi - lo) true ++ d.drop hi
def did (w : Work) (i : Int) : Work × Bool :=
  let r := fin (w.ts.length + 1) w.ts (task w i).up
  (⟨r.1, w.grain, marked w.done (task w i).low.toNat (task w i).high.toNat⟩, r.2)
def doW (w : Work) (i : Int) : Work := if doE w i = 0 then (did w i).1 else w
def doO (w : Work) (i : Int) : Bool := if doE w i = 0 then (did w i).2 else false
def leaves (g : Nat) : Nat → Nat → Nat
  | 0, _ => 1
  | k + 1, n => if n ≤ g then 1 else leaves g k (n / 2) + leaves g k (n - n / 2)
theorem part_ok {w : Work} {i : Int} (h : partE w i = 0) : partW w i = parted w i ∧ partA w i = w.ts.length ∧ partB w i = w.ts.length + 1 ∧ partE w i = 0 :=
  ⟨by rw [partW, if_pos h], by rw [partA, if_pos h], by rw [partB, if_pos h], h⟩
theorem partE0 {w : Work} {i : Int} (h : there w i = 0) (h2 : ¬ ((task w i).high - (task w i).low ≤ w.grain ∨ 0 < (task w i).wait)) (h3 : ¬ 1998 < w.ts.length) : partE w i = 0 := by unfold partE; rw [if_neg (by simpa using h), if_neg h2, if_neg h3]
theorem do_ok {w : Work} {i : Int} (h : doE w i = 0) : doW w i = (did w i).1 ∧ doO w i = (did w i).2 ∧ doE w i = 0 := ⟨by rw [doW, if_pos h], by rw [doO, if_pos h], h⟩
theorem doE0 {w : Work} {i : Int} (h : there w i = 0) (h2 : ¬ (w.grain < (task w i).high - (task w i).low ∨ 0 < (task w i).wait ∨ w.done.getD (task w i).low.toNat false = true)) : doE w i = 0 := by unfold doE; rw [if_neg (by simpa using h), if_neg h2]
theorem fin_end (k : Nat) (ts : List Task) : fin (k + 1) ts (-1) = (ts, true) := by simp [fin]
theorem fin_stop {k : Nat} {ts : List Task} {up : Int} (h : up ≠ -1) (h0 : (ts.getD up.toNat default).wait ≠ 0) (h1 : 0 < (ts.getD up.toNat default).wait - 1) :
    fin (k + 1) ts up = (ts.set up.toNat { ts.getD up.toNat default with wait := (ts.getD up.toNat default).wait - 1 }, false) := by simp only [fin, h, if_false, h0, h1, if_true]
theorem fin_on {k : Nat} {ts : List Task} {up : Int} (h : up ≠ -1) (h0 : (ts.getD up.toNat default).wait ≠ 0) (h1 : ¬ 0 < (ts.getD up.toNat default).wait - 1) :
    fin (k + 1) ts up = fin k (ts.set up.toNat { ts.getD up.toNat default with wait := (ts.getD up.toNat default).wait - 1 }) (ts.getD up.toNat default).up := by simp only [fin, h, if_false, h0, h1]
theorem marked_len {d : List Bool} {lo hi : Nat} (h : lo ≤ hi) (h2 : hi ≤ d.length) : (marked d lo hi).length = d.length := by simp [marked]; omega
end Go.Pl
namespace Go.Pl
theorem leaves_fuel {g : Nat} (hg : 1 ≤ g) : ∀ (k k' n : Nat), n ≤ k → n ≤ k' → leaves g k n = leaves g k' n
  | 0, 0, n, _, _ => rfl
  | 0, k' + 1, n, h, _ => by
    simp only [leaves]; rw [if_pos (by omega)]
  | k + 1, 0, n, _, h => by
    simp only [leaves]; rw [if_pos (by omega)]
  | k + 1, k' + 1, n, h, h' => by
    simp only [leaves]
    by_cases e : n ≤ g
    · rw [if_pos e, if_pos e]
    · rw [if_neg e, if_neg e, leaves_fuel hg k k' (n / 2) (by omega) (by omega), leaves_fuel hg k k' (n - n / 2) (by omega) (by omega)]
def lv (g n : Nat) : Nat := leaves g n n
theorem lv_base {g n : Nat} (h : n ≤ g) : lv g n = 1 := by
  unfold lv; cases n with
  | zero => rfl
  | succ n => simp only [leaves]; rw [if_pos h]
theorem lv_rec {g n : Nat} (hg : 1 ≤ g) (h : g < n) : lv g n = lv g (n / 2) + lv g (n - n / 2) := by
  unfold lv
  obtain ⟨m, rfl⟩ : ∃ m, n = m + 1 := ⟨n - 1, by omega⟩
  rw [show leaves g (m + 1) (m + 1) = leaves g m ((m + 1) / 2) + leaves g m (m + 1 - (m + 1) / 2) by simp only [leaves]; rw [if_neg (by omega)]]
  rw [leaves_fuel hg m ((m + 1) / 2) _ (by omega) (by omega), leaves_fuel hg m (m + 1 - (m + 1) / 2) _ (by omega) (by omega)]
theorem lv_le {g : Nat} (hg : 1 ≤ g) (n : Nat) : 1 ≤ n → 1 ≤ lv g n ∧ lv g n ≤ n := by
  induction n using Nat.strongRecOn with
  | _ n ih =>
    intro hn
    by_cases h : n ≤ g
    · rw [lv_base h]; omega
    · rw [lv_rec hg (by omega)]
      have h1 := ih (n / 2) (by omega) (by omega)
      have h2 := ih (n - n / 2) (by omega) (by omega)
      omega
def cntL (n g : Int) : Int := if cnt n g then lv g.toNat n.toNat else 0
def cntT (n g : Int) : Int := if cnt n g then 2 * cntL n g - 1 else 0
theorem cntL_le {n g : Int} (h : cnt n g) : 1 ≤ cntL n g ∧ cntL n g ≤ n := by
  have h' := h
  unfold cnt at h'
  have := lv_le (g := g.toNat) (by omega) n.toNat (by omega)
  unfold cntL; rw [if_pos h]; omega
theorem cntL_base {n g : Int} (h : cnt n g) (h2 : n ≤ g) : cntL n g = 1 := by
  unfold cntL; rw [if_pos h, lv_base (by omega)]; rfl
theorem cnt_half {n g : Int} (h : cnt n g) (h2 : g < n) : cnt (n / 2) g ∧ cnt (n - n / 2) g := by unfold cnt at *; omega
theorem cntL_rec {n g : Int} (h : cnt n g) (h2 : g < n) : cntL n g = cntL (n / 2) g + cntL (n - n / 2) g := by
  obtain ⟨h3, h4⟩ := cnt_half h h2
  have h' := h
  unfold cnt at h'
  unfold cntL; rw [if_pos h, if_pos h3, if_pos h4, lv_rec (by omega) (by omega)]
  rw [show (n / 2).toNat = n.toNat / 2 by omega, show (n - n / 2).toNat = n.toNat - n.toNat / 2 by omega]
  omega
theorem cntT_eq {n g : Int} (h : cnt n g) : cntT n g = 2 * cntL n g - 1 := by unfold cntT; rw [if_pos h]
end Go.Pl
namespace Go.Pl
end Go.Pl
namespace Go.Pl
theorem there_do {w : Work} {i : Int} (h : doE w i = 0) : there w i = 0 := by
  unfold doE at h
  split at h
  · exact h
  · rename_i h2; exact Decidable.not_not.mp h2
theorem fin_len : ∀ (k : Nat) (ts : List Task) (up : Int), (fin k ts up).1.length = ts.length
  | 0, ts, up => rfl
  | k + 1, ts, up => by
    simp only [fin]
    split
    · rfl
    · split
      · rfl
      · split
        · simp
        · rw [fin_len k]; simp
theorem doW_len (w : Work) (i : Int) : (doW w i).ts.length = w.ts.length ∧ (doW w i).done.length = w.done.length := by
  unfold doW
  split
  · rename_i h
    obtain ⟨_, h0, h1, h2, _⟩ := ok_of (there_do h)
    unfold okT at h2
    simp only [did]
    exact ⟨fin_len _ _ _, marked_len (by omega) (by omega)⟩
  · exact ⟨rfl, rfl⟩
end Go.Pl
set_option linter.unusedSimpArgs false
set_option linter.unusedVariables false
namespace Go.Pl
theorem getD_set_self {ts : List Task} {p : Nat} {t : Task} (h : p < ts.length) : (ts.set p t).getD p default = t := by
  rw [List.getD_eq_getElem?_getD, List.getElem?_set_self h]; rfl
theorem getD_set_ne {ts : List Task} {p j : Nat} {t : Task} (h : p ≠ j) : (ts.set p t).getD j default = ts.getD j default := by
  rw [List.getD_eq_getElem?_getD, List.getElem?_set_ne h, ← List.getD_eq_getElem?_getD]
def U (ts : List Task) (op : List Nat) (j : Nat) : Int := if j ∈ op ∨ 0 < (ts.getD j default).wait then 1 else 0
theorem U_01 (ts : List Task) (op : List Nat) (j : Nat) : U ts op j = 0 ∨ U ts op j = 1 := by unfold U; split <;> simp
theorem U_one {ts : List Task} {op : List Nat} {j : Nat} : U ts op j = 1 ↔ (j ∈ op ∨ 0 < (ts.getD j default).wait) := by unfold U; split <;> simp_all
structure G (ts : List Task) (op : List Nat) (p : Int) : Prop where
  up : ∀ i, i < ts.length → -1 ≤ (ts.getD i default).up ∧ (ts.getD i default).up < i ∧ 0 ≤ (ts.getD i default).wait
  up0 : ∀ i, i < ts.length → (ts.getD i default).up = -1 → i = 0
  rng : ∀ t, t ∈ op → t < ts.length ∧ (ts.getD t default).wait = 0
  node : ∀ i, i < ts.length → ((∀ j, j < ts.length → (ts.getD j default).up ≠ i) ∧ (ts.getD i default).wait = 0 ∧ (i : Int) ≠ p) ∨
    (i ∉ op ∧ ∃ a, a + 1 < ts.length ∧ (ts.getD a default).up = i ∧ (ts.getD (a + 1) default).up = i ∧ (∀ j, j < ts.length → (ts.getD j default).up = i → j = a ∨ j = a + 1) ∧
      (ts.getD i default).wait = U ts op a + U ts op (a + 1) + (if (i : Int) = p then 1 else 0))
theorem G.some_open {ts : List Task} {op : List Nat} (h : G ts op (-1)) : ∀ (k i : Nat), ts.length ≤ k + i → i < ts.length → U ts op i = 1 → op ≠ []
  | 0, i, hk, hi, _ => by omega
  | k + 1, i, hk, hi, hu => by
    rcases U_one.1 hu with ho | hw
    · intro e; rw [e] at ho; cases ho
    · rcases h.node i hi with ⟨_, hz, _⟩ | ⟨_, a, ha, u1, u2, _, hq⟩
      · omega
      · rw [if_neg (by omega)] at hq
        have l1 := (h.up a (by omega)).2.1
        have l2 := (h.up (a + 1) ha).2.1
        rcases U_01 ts op a with e1 | e1
        · rcases U_01 ts op (a + 1) with e2 | e2
          · omega
          · exact h.some_open k (a + 1) (by omega) ha e2
        · exact h.some_open k a (by omega) (by omega) e1
theorem G.root {ts : List Task} {op : List Nat} (h : G ts op (-1)) (i : Nat) : i < ts.length → U ts op i = 1 → U ts op 0 = 1 := by
  induction i using Nat.strongRecOn with
  | _ i ih =>
    intro hi hu
    by_cases e : i = 0
    · rw [← e]; exact hu
    · obtain ⟨hu0, hu1, _⟩ := h.up i hi
      have hne : (ts.getD i default).up ≠ -1 := fun q => e (h.up0 i hi q)
      obtain ⟨p, hp⟩ : ∃ p : Nat, (ts.getD i default).up = p := ⟨(ts.getD i default).up.toNat, by omega⟩
      have hpi : p < i := by omega
      refine ih p hpi (by omega) ?_
      rcases h.node p (by omega) with ⟨hn, _, _⟩ | ⟨_, a, ha, u1, u2, hall, hq⟩
      · exact absurd hp (hn i hi)
      · rw [if_neg (by omega)] at hq
        have h1 := U_01 ts op a
        have h2 := U_01 ts op (a + 1)
        refine U_one.2 (.inr ?_)
        rcases hall i hi hp with rfl | rfl <;> omega
theorem fin_G : ∀ (k : Nat) (ts : List Task) (op : List Nat) (p : Int), 0 < ts.length → G ts op p → -1 ≤ p → p < ts.length → p + 1 < k → (p = -1 → U ts op 0 = 0) →
    G (fin k ts p).1 op (-1) ∧ (fin k ts p).1.length = ts.length ∧ (∀ i, ((fin k ts p).1.getD i default).low = (ts.getD i default).low ∧ ((fin k ts p).1.getD i default).high = (ts.getD i default).high ∧ ((fin k ts p).1.getD i default).up = (ts.getD i default).up) ∧ ((fin k ts p).2 = true ↔ op = [])
  | 0, ts, op, p, _, _, _, _, hk, _ => by omega
  | k + 1, ts, op, p, hpos, h, hp0, hp1, hk, hroot => by
    by_cases e : p = -1
    · subst e
      rw [fin_end]
      refine ⟨h, rfl, fun i => ⟨rfl, rfl, rfl⟩, fun _ => ?_, fun _ => rfl⟩
      cases op with
      | nil => rfl
      | cons t r =>
        have h1 := h.root t (h.rng t (by simp)).1 (U_one.2 (.inl (by simp)))
        have h2 := hroot rfl
        omega
    · obtain ⟨q, rfl⟩ : ∃ q : Nat, p = q := ⟨p.toNat, by omega⟩
      have hq : q < ts.length := by omega
      rcases h.node q hq with ⟨_, _, hn⟩ | ⟨hno, a, ha, u1, u2, hall, hw⟩
      · exact absurd rfl hn
      rw [if_pos rfl] at hw
      have b1 := U_01 ts op a
      have b2 := U_01 ts op (a + 1)
      have la := (h.up a (by omega)).2.1
      have la' := (h.up (a + 1) ha).2.1
      generalize ht : ({ ts.getD q default with wait := (ts.getD q default).wait - 1 } : Task) = t' at *
      have tw : t'.wait = (ts.getD q default).wait - 1 := by rw [← ht]
      have tu : t'.up = (ts.getD q default).up := by rw [← ht]
      have tl : t'.low = (ts.getD q default).low := by rw [← ht]
      have th : t'.high = (ts.getD q default).high := by rw [← ht]
      have hs : (ts.set q t').getD q default = t' := getD_set_self hq
      have hn : ∀ j, q ≠ j → (ts.set q t').getD j default = ts.getD j default := fun j hj => getD_set_ne hj
      have hup : ∀ j, ((ts.set q t').getD j default).up = (ts.getD j default).up := fun j => by
        by_cases c : q = j
        · subst c; rw [hs, tu]
        · rw [hn j c]
      have hlow : ∀ j, ((ts.set q t').getD j default).low = (ts.getD j default).low ∧ ((ts.set q t').getD j default).high = (ts.getD j default).high := fun j => by
        by_cases c : q = j
        · subst c; rw [hs, tl, th]; exact ⟨rfl, rfl⟩
        · rw [hn j c]; exact ⟨rfl, rfl⟩
      have hU : ∀ j, q ≠ j → U (ts.set q t') op j = U ts op j := fun j hj => by unfold U; rw [hn j hj]
      have huq := h.up q hq
      -- the row behind the step
      have key : ∀ p' : Int, (0 < t'.wait → p' = -1) → (¬ 0 < t'.wait → p' = (ts.getD q default).up) → G (ts.set q t') op p' := by
        intro p' hA hB
        refine ⟨fun i hi => ?_, fun i hi => ?_, fun t ht' => ?_, fun i hi => ?_⟩
        · rw [List.length_set] at hi
          rw [hup]
          have := h.up i hi
          by_cases c : q = i
          · subst c; rw [hs, tw]; omega
          · rw [hn i c]; exact this
        · rw [List.length_set] at hi; rw [hup]; exact h.up0 i hi
        · rw [List.length_set]
          have c : q ≠ t := fun c => hno (c ▸ ht')
          rw [hn t c]; exact h.rng t ht'
        · simp only [List.length_set] at hi ⊢
          by_cases c : q = i
          · subst c
            refine .inr ⟨hno, a, ha, by rw [hup]; exact u1, by rw [hup]; exact u2, fun j hj hj' => hall j hj (by rw [hup] at hj'; exact hj'), ?_⟩
            rw [hs, tw, hU a (by omega), hU (a + 1) (by omega), if_neg, hw]
            · omega
            · by_cases c2 : 0 < t'.wait
              · rw [hA c2]; omega
              · rw [hB c2]; omega
          · rcases h.node i hi with ⟨n1, n2, n3⟩ | ⟨m1, b, hb, v1, v2, hall2, hw2⟩
            · refine .inl ⟨fun j hj => by rw [hup]; exact n1 j hj, by rw [hn i c]; exact n2, ?_⟩
              by_cases c2 : 0 < t'.wait
              · rw [hA c2]; omega
              · rw [hB c2]; exact fun e => n1 q hq e.symm
            · refine .inr ⟨m1, b, hb, by rw [hup]; exact v1, by rw [hup]; exact v2, fun j hj hj' => hall2 j hj (by rw [hup] at hj'; exact hj'), ?_⟩
              rw [hn i c, hw2, if_neg (by omega)]
              have Uq : U ts op q = 1 := U_one.2 (.inr (by omega))
              by_cases c2 : 0 < t'.wait
              · have Uq' : U (ts.set q t') op q = 1 := U_one.2 (.inr (by rw [hs]; exact c2))
                have hx : ∀ j, U (ts.set q t') op j = U ts op j := fun j => by
                  by_cases c3 : q = j
                  · subst c3; omega
                  · exact hU j c3
                rw [hx, hx, hA c2, if_neg (by omega)]
              · have Uq' : U (ts.set q t') op q = 0 := by
                  rcases U_01 (ts.set q t') op q with e0 | e0
                  · exact e0
                  · rcases U_one.1 e0 with o1 | o1
                    · exact absurd o1 hno
                    · rw [hs] at o1; exact absurd o1 c2
                rw [hB c2]
                by_cases c3 : (ts.getD q default).up = i
                · rw [if_pos c3.symm]
                  rcases hall2 q hq c3 with c4 | c4
                  · rw [← c4, hU (q + 1) (by omega)]; omega
                  · rw [← c4]
                    have : q ≠ b := by omega
                    rw [hU b this]; omega
                · rw [if_neg (fun e => c3 e.symm)]
                  have c5 : q ≠ b := fun e => c3 (by rw [e]; exact v1)
                  have c6 : q ≠ b + 1 := fun e => c3 (by rw [e]; exact v2)
                  rw [hU b c5, hU (b + 1) c6]
      by_cases hz : 0 < t'.wait
      · have hg := key (-1) (fun _ => rfl) (fun c => absurd hz c)
        rw [fin_stop (by omega) (by simp only [Int.toNat_natCast]; omega) (by simp only [Int.toNat_natCast]; rw [← tw]; exact hz)]
        simp only [Int.toNat_natCast, ht]
        refine ⟨hg, by simp, fun i => ⟨(hlow i).1, (hlow i).2, hup i⟩, ⟨fun hf => by simp at hf, fun ho => ?_⟩⟩
        exact absurd ho (hg.some_open ts.length q (by simp) (by simpa using hq) (U_one.2 (.inr (by rw [hs]; exact hz))))
      · have hg := key (ts.getD q default).up (fun c => absurd c hz) (fun _ => rfl)
        rw [fin_on (by omega) (by simp only [Int.toNat_natCast]; omega) (by simp only [Int.toNat_natCast]; rw [← tw]; exact hz)]
        simp only [Int.toNat_natCast, ht]
        obtain ⟨r1, r2, r3, r4⟩ := fin_G k (ts.set q t') op (ts.getD q default).up (by simpa using hpos) hg (by omega) (by rw [List.length_set]; omega) (by omega) (fun e => by
          have e0 := h.up0 q hq e
          subst e0
          rcases U_01 (ts.set 0 t') op 0 with e1 | e1
          · exact e1
          · rcases U_one.1 e1 with o1 | o1
            · exact absurd o1 hno
            · rw [hs] at o1; exact absurd o1 hz)
        refine ⟨r1, by rw [r2]; simp, fun i => ?_, r4⟩
        obtain ⟨s1, s2, s3⟩ := r3 i
        exact ⟨s1.trans (hlow i).1, s2.trans (hlow i).2, s3.trans (hup i)⟩
end Go.Pl
set_option linter.unusedSimpArgs false
set_option linter.unusedVariables false
namespace Go.Pl
def tot (f : Nat → Int) : List Nat → Int
  | [] => 0
  | t :: r => f t + tot f r
theorem tot_app (f : Nat → Int) : ∀ a b, tot f (a ++ b) = tot f a + tot f b
  | [], b => by simp [tot]
  | x :: a, b => by simp only [List.cons_append, tot, tot_app f a b]; omega
theorem tot_congr {f h : Nat → Int} : ∀ (l : List Nat), (∀ t, t ∈ l → f t = h t) → tot f l = tot h l
  | [], _ => rfl
  | x :: l, q => by simp only [tot]; rw [q x (by simp), tot_congr l (fun t ht => q t (by simp [ht]))]
theorem tot_nn {f : Nat → Int} : ∀ (l : List Nat), (∀ t, t ∈ l → 0 ≤ f t) → 0 ≤ tot f l
  | [], _ => by simp [tot]
  | x :: l, q => by
    have h1 := q x (by simp)
    have h2 := tot_nn l (fun t ht => q t (by simp [ht]))
    simp only [tot]; omega
theorem tot_perm {f : Nat → Int} {a b : List Nat} (h : a.Perm b) : tot f a = tot f b := by
  induction h with
  | nil => rfl
  | cons x _ ih => simp only [tot, ih]
  | swap x y l => simp only [tot]; omega
  | trans _ _ ih1 ih2 => rw [ih1, ih2]
def szT (w : Work) (t : Nat) : Int := (w.ts.getD t default).high - (w.ts.getD t default).low
structure Inv (n g : Int) (w : Work) (op : List Nat) (units : Int) : Prop where
  c : cnt n g
  gr : w.grain = g
  dl : (w.done.length : Int) = n
  pos : 0 < w.ts.length
  ok : ∀ i, i < w.ts.length → okT w.done.length i (w.ts.getD i default)
  gg : G w.ts op (-1)
  nd : op.Nodup
  fresh : ∀ t, t ∈ op → ∀ u : Nat, (w.ts.getD t default).low ≤ u → u < (w.ts.getD t default).high → w.done.getD u false = false
  disj : ∀ t, t ∈ op → ∀ t', t' ∈ op → t ≠ t' → (w.ts.getD t default).high ≤ (w.ts.getD t' default).low ∨ (w.ts.getD t' default).high ≤ (w.ts.getD t default).low
  cover : ∀ u : Nat, u < w.done.length → w.done.getD u false = true ∨ ∃ t, t ∈ op ∧ (w.ts.getD t default).low ≤ u ∧ u < (w.ts.getD t default).high
  phi : (w.ts.length : Int) + tot (fun t => cntT (szT w t) g - 1) op = cntT n g
  un : units + tot (szT w) op = n
theorem U_perm {ts : List Task} {a b : List Nat} (h : a.Perm b) (j : Nat) : U ts a j = U ts b j := by unfold U; simp only [h.mem_iff]
theorem G.perm {ts : List Task} {a b : List Nat} {p : Int} (h : G ts a p) (q : a.Perm b) : G ts b p :=
  ⟨h.up, h.up0, fun t ht => h.rng t (q.mem_iff.2 ht), fun i hi => by
    have := h.node i hi
    simp only [U_perm q, q.mem_iff] at this
    exact this⟩
theorem Inv.perm {n g : Int} {w : Work} {a b : List Nat} {units : Int} (h : Inv n g w a units) (q : a.Perm b) : Inv n g w b units :=
  ⟨h.c, h.gr, h.dl, h.pos, h.ok, h.gg.perm q, q.nodup_iff.1 h.nd, fun t ht => h.fresh t (q.mem_iff.2 ht), fun t ht t' ht' => h.disj t (q.mem_iff.2 ht) t' (q.mem_iff.2 ht'),
    fun u hu => by have := h.cover u hu; simp only [q.mem_iff] at this; exact this, by rw [← tot_perm q]; exact h.phi, by rw [← tot_perm q]; exact h.un⟩
theorem Inv.sz {n g : Int} {w : Work} {op : List Nat} {units : Int} (h : Inv n g w op units) {t : Nat} (ht : t ∈ op) : 1 ≤ szT w t ∧ szT w t ≤ n ∧ cnt (szT w t) g := by
  have h1 := h.ok t (h.gg.rng t ht).1
  have h2 := h.c
  have h3 := h.dl
  unfold okT at h1; unfold cnt at *; unfold szT
  omega
theorem Inv.len {n g : Int} {w : Work} {op : List Nat} {units : Int} (h : Inv n g w op units) : (w.ts.length : Int) ≤ cntT n g ∧ cntT n g ≤ 1999 := by
  have h1 := tot_nn (f := fun t => cntT (szT w t) g - 1) op (fun t ht => by
    have h2 := (h.sz ht).2.2
    have h3 := cntL_le h2
    have h4 := cntT_eq h2
    show 0 ≤ cntT (szT w t) g - 1
    omega)
  have h2 := h.phi
  have h3 := cntL_le h.c
  have h4 := cntT_eq h.c
  have h5 := h.c
  unfold cnt at h5
  omega
theorem Inv.units {n g : Int} {w : Work} {op : List Nat} {units : Int} (h : Inv n g w op units) : units ≤ n := by
  have h1 := tot_nn (f := szT w) op (fun t ht => by have := (h.sz ht).1; omega)
  have h2 := h.un
  omega
theorem Inv.right {n g : Int} {w : Work} {op : List Nat} {units : Int} (h : Inv n g w op units) : right w := by
  have := h.len
  have := h.pos
  refine ⟨by rw [h.gr, h.dl]; exact h.c, by omega, by omega, h.ok⟩
theorem Inv.there {n g : Int} {w : Work} {op : List Nat} {units : Int} (h : Inv n g w op units) {t : Nat} (ht : t ∈ op) : there w t = 0 :=
  there_of h.right ⟨by omega, by have := (h.gg.rng t ht).1; omega⟩
theorem Inv.great {n g : Int} {w : Work} {op : List Nat} {units : Int} (h : Inv n g w op units) {t : Nat} (ht : t ∈ op) : great w t ↔ g < szT w t := by
  unfold Pl.great szT; rw [h.gr]; simp only [task, Int.toNat_natCast]
  exact ⟨fun q => q.2, fun q => ⟨h.there ht, q⟩⟩
theorem cntT_rec {n g : Int} (h : cnt n g) (h2 : g < n) : cntT n g = 1 + cntT (n / 2) g + cntT (n - n / 2) g := by
  obtain ⟨h3, h4⟩ := cnt_half h h2
  rw [cntT_eq h, cntT_eq h3, cntT_eq h4, cntL_rec h h2]; omega
theorem Inv.part0 {n g : Int} {w : Work} {t : Nat} {r : List Nat} {units : Int} (h : Inv n g w (t :: r) units) (hg : g < szT w t) : partE w t = 0 := by
  have ht : t ∈ t :: r := by simp
  have h1 := (h.gg.rng t ht).2
  have h2 := (h.sz ht).2.2
  have h3 := cntT_rec h2 hg
  obtain ⟨h4, h5⟩ := cnt_half h2 hg
  have l4 := cntL_le h4
  have l5 := cntL_le h5
  have t4 := cntT_eq h4
  have t5 := cntT_eq h5
  have h6 := tot_nn (f := fun t => cntT (szT w t) g - 1) r (fun x hx => by
    have h2 := (h.sz (t := x) (by simp [hx])).2.2
    have h3 := cntL_le h2
    have h4 := cntT_eq h2
    show 0 ≤ cntT (szT w x) g - 1
    omega)
  have h7 := h.phi
  simp only [tot] at h7
  have h8 := h.len.2
  refine partE0 (h.there ht) ?_ (by omega)
  rw [h.gr]; simp only [task, Int.toNat_natCast]
  unfold szT at hg
  omega
theorem Inv.part {n g : Int} {w : Work} {t : Nat} {r : List Nat} {units : Int} (h : Inv n g w (t :: r) units) (hg : g < szT w t) : Inv n g (partW w t) (r ++ [w.ts.length, w.ts.length + 1]) units := by
  have ht : t ∈ t :: r := by simp
  have hE := h.part0 hg
  rw [(part_ok hE).1]
  have htl := (h.gg.rng t ht).1
  have htw := (h.gg.rng t ht).2
  have hsz := h.sz ht
  have hok := h.ok t htl
  have hnd := h.nd
  simp only [List.nodup_cons] at hnd
  -- the rows
  have hts : (parted w t).ts = w.ts.set t { w.ts.getD t default with wait := 2 } ++ [⟨(w.ts.getD t default).low, mid (w.ts.getD t default), t, 0⟩, ⟨mid (w.ts.getD t default), (w.ts.getD t default).high, t, 0⟩] := by simp [parted, task]
  have hdn : (parted w t).done = w.done := rfl
  have hgr : (parted w t).grain = w.grain := rfl
  generalize hTT : (parted w t).ts = ts' at *
  have hl : ts'.length = w.ts.length + 2 := by rw [hts]; simp
  have gt : ts'.getD t default = { w.ts.getD t default with wait := 2 } := by
    rw [hts, List.getD_eq_getElem?_getD, List.getElem?_append_left (by simpa using htl), List.getElem?_set_self htl]; rfl
  have gn : ∀ i, i < w.ts.length → i ≠ t → ts'.getD i default = w.ts.getD i default := fun i hi hne => by
    rw [hts, List.getD_eq_getElem?_getD, List.getElem?_append_left (by simpa using hi), List.getElem?_set_ne (fun e => hne e.symm), ← List.getD_eq_getElem?_getD]
  have ga : ts'.getD w.ts.length default = ⟨(w.ts.getD t default).low, mid (w.ts.getD t default), t, 0⟩ := by
    rw [hts, List.getD_eq_getElem?_getD, List.getElem?_append_right (by simp)]; simp
  have gb : ts'.getD (w.ts.length + 1) default = ⟨mid (w.ts.getD t default), (w.ts.getD t default).high, t, 0⟩ := by
    rw [hts, List.getD_eq_getElem?_getD, List.getElem?_append_right (by simp)]; simp
  have hmid : mid (w.ts.getD t default) = (w.ts.getD t default).low + ((w.ts.getD t default).high - (w.ts.getD t default).low) / 2 := rfl
  have hc := h.c
  have hgs : g < (w.ts.getD t default).high - (w.ts.getD t default).low := hg
  have hc' : 1 ≤ g := by unfold cnt at hc; omega
  unfold okT at hok
  have cases4 : ∀ i, i < w.ts.length + 2 → i = t ∨ (i < w.ts.length ∧ i ≠ t) ∨ i = w.ts.length ∨ i = w.ts.length + 1 := fun i hi => by omega
  have hup : ∀ i, i < w.ts.length → (ts'.getD i default).up = (w.ts.getD i default).up ∧ (ts'.getD i default).low = (w.ts.getD i default).low ∧ (ts'.getD i default).high = (w.ts.getD i default).high := fun i hi => by
    by_cases e : i = t
    · subst e; rw [gt]; exact ⟨rfl, rfl, rfl⟩
    · rw [gn i hi e]; exact ⟨rfl, rfl, rfl⟩
  have hr : ∀ x, x ∈ r → x < w.ts.length ∧ x ≠ t := fun x hx => ⟨(h.gg.rng x (by simp [hx])).1, fun e => hnd.1 (e ▸ hx)⟩
  have hm : ∀ x, x ∈ r ++ [w.ts.length, w.ts.length + 1] ↔ x ∈ r ∨ x = w.ts.length ∨ x = w.ts.length + 1 := fun x => by simp
  have htn : (∀ j, j < w.ts.length → (w.ts.getD j default).up ≠ t) := by
    rcases h.gg.node t htl with ⟨q, _, _⟩ | ⟨q, _⟩
    · exact q
    · exact absurd ht q
  have hU : ∀ x, x < w.ts.length → U ts' (r ++ [w.ts.length, w.ts.length + 1]) x = U w.ts (t :: r) x := fun x hx => by
    by_cases e : x = t
    · subst e
      exact (U_one.2 (.inr (by rw [gt]; exact (by omega : (0:Int) < 2)))).trans (U_one.2 (.inl (by simp))).symm
    · unfold U
      rw [gn x hx e]
      have : (x ∈ r ++ [w.ts.length, w.ts.length + 1]) ↔ x ∈ t :: r := by
        rw [hm]; simp only [List.mem_cons]
        constructor
        · rintro (q | q | q)
          · exact .inr q
          · omega
          · omega
        · rintro (q | q)
          · exact absurd q e
          · exact .inl q
      simp only [this]
  have szr : ∀ x, x ∈ r → szT ⟨ts', w.grain, w.done⟩ x = szT w x := fun x hx => by
    unfold szT; rw [gn x (hr x hx).1 (hr x hx).2]
  have hpw : parted w t = ⟨ts', w.grain, w.done⟩ := by rw [← hTT]; rfl
  rw [hpw]
  refine ⟨h.c, h.gr, h.dl, by show 0 < ts'.length; omega, fun i hi => ?_, ⟨fun i hi => ?_, fun i hi he => ?_, fun x hx => ?_, fun i hi => ?_⟩, ?_, fun x hx u hu1 hu2 => ?_, fun x hx y hy hne => ?_, fun u hu => ?_, ?_, ?_⟩
  · have hi' : i < w.ts.length + 2 := by rw [← hl]; exact hi
    show okT w.done.length i (ts'.getD i default)
    unfold okT
    rcases cases4 i hi' with rfl | ⟨h1, h2⟩ | rfl | rfl
    · rw [gt]; dsimp only; omega
    · rw [gn i h1 h2]; exact h.ok i h1
    · rw [ga]; dsimp only; omega
    · rw [gb]; dsimp only; omega
  · have hi' : i < w.ts.length + 2 := by rw [← hl]; exact hi
    show -1 ≤ (ts'.getD i default).up ∧ (ts'.getD i default).up < i ∧ 0 ≤ (ts'.getD i default).wait
    rcases cases4 i hi' with rfl | ⟨h1, h2⟩ | rfl | rfl
    · rw [gt]; dsimp only; omega
    · rw [gn i h1 h2]; exact h.gg.up i h1
    · rw [ga]; dsimp only; omega
    · rw [gb]; dsimp only; omega
  · have hi' : i < w.ts.length + 2 := by rw [← hl]; exact hi
    change (ts'.getD i default).up = -1 at he
    rcases cases4 i hi' with rfl | ⟨h1, h2⟩ | rfl | rfl
    · rw [gt] at he; exact h.gg.up0 i htl he
    · rw [gn i h1 h2] at he; exact h.gg.up0 i h1 he
    · rw [ga] at he; dsimp only at he; omega
    · rw [gb] at he; dsimp only at he; omega
  · show x < ts'.length ∧ (ts'.getD x default).wait = 0
    rcases (hm x).1 hx with q | q | q
    · obtain ⟨h1, h2⟩ := hr x q
      rw [gn x h1 h2]; exact ⟨by omega, (h.gg.rng x (by simp [q])).2⟩
    · subst q; rw [ga]; exact ⟨by omega, rfl⟩
    · subst q; rw [gb]; exact ⟨by omega, rfl⟩
  · have hi' : i < w.ts.length + 2 := by rw [← hl]; exact hi
    show ((∀ j, j < ts'.length → (ts'.getD j default).up ≠ i) ∧ (ts'.getD i default).wait = 0 ∧ (i : Int) ≠ -1) ∨ (i ∉ r ++ [w.ts.length, w.ts.length + 1] ∧ ∃ a, a + 1 < ts'.length ∧ (ts'.getD a default).up = i ∧ (ts'.getD (a + 1) default).up = i ∧ (∀ j, j < ts'.length → (ts'.getD j default).up = i → j = a ∨ j = a + 1) ∧
      (ts'.getD i default).wait = U ts' (r ++ [w.ts.length, w.ts.length + 1]) a + U ts' (r ++ [w.ts.length, w.ts.length + 1]) (a + 1) + (if (i : Int) = -1 then 1 else 0))
    rw [hl]
    have hold : ∀ j, j < w.ts.length + 2 → j < w.ts.length ∨ (ts'.getD j default).up = t := fun j hj => by
      rcases cases4 j hj with rfl | ⟨h1, h2⟩ | rfl | rfl
      · exact .inl htl
      · exact .inl h1
      · rw [ga]; exact .inr rfl
      · rw [gb]; exact .inr rfl
    rcases cases4 i hi' with rfl | ⟨h1, h2⟩ | q
    · refine .inr ⟨fun q => ?_, w.ts.length, by omega, by rw [ga], by rw [gb], fun j hj hj' => ?_, ?_⟩
      · rcases (hm i).1 q with q | q | q
        · exact (hr i q).2 rfl
        · omega
        · omega
      · rcases cases4 j hj with rfl | ⟨h1, h2⟩ | rfl | rfl
        · rw [(hup j htl).1] at hj'; exact absurd hj' (htn j htl)
        · rw [gn j h1 h2] at hj'; exact absurd hj' (htn j h1)
        · exact .inl rfl
        · exact .inr rfl
      · rw [gt, U_one.2 (.inl (by simp)), U_one.2 (.inl (by simp)), if_neg (by omega)]; rfl
    · rcases h.gg.node i h1 with ⟨n1, n2, n3⟩ | ⟨m1, a, m2, m3, m4, m5, m6⟩
      · refine .inl ⟨fun j hj => ?_, by rw [gn i h1 h2]; exact n2, n3⟩
        rcases hold j hj with q | q
        · rw [(hup j q).1]; exact n1 j q
        · rw [q]; omega
      · refine .inr ⟨fun q => ?_, a, by omega, by rw [(hup a (by omega)).1]; exact m3, by rw [(hup (a + 1) m2).1]; exact m4, fun j hj hj' => ?_, ?_⟩
        · rcases (hm i).1 q with q | q | q
          · exact m1 (by simp [q])
          · omega
          · omega
        · rcases hold j hj with q | q
          · rw [(hup j q).1] at hj'; exact m5 j q hj'
          · rw [q] at hj'; omega
        · rw [gn i h1 h2, hU a (by omega), hU (a + 1) m2]; exact m6
    · refine .inl ⟨fun j hj => ?_, ?_, by omega⟩
      · rcases hold j hj with q' | q'
        · rw [(hup j q').1]
          have := h.gg.up j q'
          omega
        · rw [q']; omega
      · rcases q with rfl | rfl
        · rw [ga]
        · rw [gb]
  · rw [List.nodup_append]
    refine ⟨hnd.2, by simp, fun a ha b hb => ?_⟩
    have := (hr a ha).1
    simp at hb; omega
  · change (ts'.getD x default).low ≤ u at hu1
    change u < (ts'.getD x default).high at hu2
    show w.done.getD u false = false
    rcases (hm x).1 hx with q | q | q
    · rw [gn x (hr x q).1 (hr x q).2] at hu1 hu2; exact h.fresh x (by simp [q]) u hu1 hu2
    · subst q; rw [ga] at hu1 hu2; dsimp only at hu1 hu2; exact h.fresh t ht u (by omega) (by omega)
    · subst q; rw [gb] at hu1 hu2; dsimp only at hu1 hu2; exact h.fresh t ht u (by omega) (by omega)
  · show (ts'.getD x default).high ≤ (ts'.getD y default).low ∨ (ts'.getD y default).high ≤ (ts'.getD x default).low
    rcases (hm x).1 hx with q | q | q
    · rw [gn x (hr x q).1 (hr x q).2]
      have d1 := h.disj x (by simp [q]) t ht (hr x q).2
      rcases (hm y).1 hy with q' | q' | q'
      · rw [gn y (hr y q').1 (hr y q').2]; exact h.disj x (by simp [q]) y (by simp [q']) hne
      · subst q'; rw [ga]; dsimp only; omega
      · subst q'; rw [gb]; dsimp only; omega
    · subst q; rw [ga]; dsimp only
      rcases (hm y).1 hy with q' | q' | q'
      · have d1 := h.disj y (by simp [q']) t ht (hr y q').2
        rw [gn y (hr y q').1 (hr y q').2]; omega
      · exact absurd q'.symm hne
      · subst q'; rw [gb]; dsimp only; omega
    · subst q; rw [gb]; dsimp only
      rcases (hm y).1 hy with q' | q' | q'
      · have d1 := h.disj y (by simp [q']) t ht (hr y q').2
        rw [gn y (hr y q').1 (hr y q').2]; omega
      · subst q'; rw [ga]; dsimp only; omega
      · exact absurd q'.symm hne
  · show w.done.getD u false = true ∨ ∃ x, x ∈ r ++ [w.ts.length, w.ts.length + 1] ∧ (ts'.getD x default).low ≤ u ∧ u < (ts'.getD x default).high
    rcases h.cover u hu with q | ⟨x, hx, q1, q2⟩
    · exact .inl q
    · right
      rcases List.mem_cons.1 hx with rfl | hx
      · by_cases e : (u : Int) < mid (w.ts.getD x default)
        · exact ⟨w.ts.length, by simp, by rw [ga]; exact q1, by rw [ga]; exact e⟩
        · exact ⟨w.ts.length + 1, by simp, by rw [gb]; dsimp only; omega, by rw [gb]; exact q2⟩
      · exact ⟨x, by simp [hx], by rw [gn x (hr x hx).1 (hr x hx).2]; exact q1, by rw [gn x (hr x hx).1 (hr x hx).2]; exact q2⟩
  · show (ts'.length : Int) + tot (fun x => cntT (szT ⟨ts', w.grain, w.done⟩ x) g - 1) (r ++ [w.ts.length, w.ts.length + 1]) = cntT n g
    have e1 := h.phi
    have e2 := cntT_rec hsz.2.2 hg
    simp only [tot] at e1
    rw [tot_app, tot_congr (h := fun x => cntT (szT w x) g - 1) r (fun x hx => by rw [szr x hx]), hl]
    simp only [tot]
    rw [show szT ⟨ts', w.grain, w.done⟩ w.ts.length = szT w t / 2 by simp only [szT]; rw [ga]; dsimp only; omega, show szT ⟨ts', w.grain, w.done⟩ (w.ts.length + 1) = szT w t - szT w t / 2 by simp only [szT]; rw [gb]; dsimp only; omega]
    omega
  · have e1 := h.un
    simp only [tot] at e1
    rw [tot_app, tot_congr (h := szT w) r (fun x hx => szr x hx)]
    simp only [tot]
    rw [show szT ⟨ts', w.grain, w.done⟩ w.ts.length = szT w t / 2 by simp only [szT]; rw [ga]; dsimp only; omega, show szT ⟨ts', w.grain, w.done⟩ (w.ts.length + 1) = szT w t - szT w t / 2 by simp only [szT]; rw [gb]; dsimp only; omega]
    omega
end Go.Pl
set_option linter.unusedSimpArgs false
set_option linter.unusedVariables false
namespace Go.Pl
theorem marked_get {d : List Bool} {lo hi : Nat} (h : lo ≤ hi) (h2 : hi ≤ d.length) (u : Nat) : (marked d lo hi).getD u false = if lo ≤ u ∧ u < hi then true else d.getD u false := by
  unfold marked
  rw [List.getD_eq_getElem?_getD, List.getD_eq_getElem?_getD]
  by_cases a : u < lo
  · rw [if_neg (by omega), List.append_assoc, List.getElem?_append_left (by simp; omega), List.getElem?_take_of_lt a]
  · by_cases b : u < hi
    · rw [if_pos (by omega), List.append_assoc, List.getElem?_append_right (by simp; omega), List.getElem?_append_left (by simp; omega)]
      rw [List.getElem?_replicate_of_lt (by simp; omega)]; rfl
    · rw [if_neg (by omega), List.getElem?_append_right (by simp; omega), List.getElem?_drop]
      congr 2; simp; omega
theorem Inv.do0 {n g : Int} {w : Work} {t : Nat} {r : List Nat} {units : Int} (h : Inv n g w (t :: r) units) (hg : ¬ g < szT w t) : doE w t = 0 := by
  have ht : t ∈ t :: r := by simp
  have h1 := (h.gg.rng t ht).2
  have hok := h.ok t (h.gg.rng t ht).1
  unfold okT at hok
  refine doE0 (h.there ht) ?_
  rw [h.gr]; simp only [task, Int.toNat_natCast]
  unfold szT at hg
  have := h.fresh t ht (w.ts.getD t default).low.toNat (by omega) (by omega)
  rintro (q | q | q)
  · exact hg q
  · omega
  · rw [this] at q; cases q
theorem Inv.did {n g : Int} {w : Work} {t : Nat} {r : List Nat} {units : Int} (h : Inv n g w (t :: r) units) (hg : ¬ g < szT w t) :
    Inv n g (doW w t) r (units + szT w t) ∧ (doO w t = true ↔ r = []) ∧ (doW w t).ts.length = w.ts.length ∧ ((doW w t).ts.getD t default).high = (w.ts.getD t default).high ∧ ((doW w t).ts.getD t default).low = (w.ts.getD t default).low := by
  have ht : t ∈ t :: r := by simp
  have hE := h.do0 hg
  obtain ⟨e1, e2, _⟩ := do_ok hE
  rw [e1, e2]
  obtain ⟨htl, htw⟩ := h.gg.rng t ht
  have hok := h.ok t htl
  have hnd := h.nd
  simp only [List.nodup_cons] at hnd
  unfold okT at hok
  have hup := h.gg.up t htl
  have hr : ∀ x, x ∈ r → x < w.ts.length ∧ x ≠ t := fun x hx => ⟨(h.gg.rng x (by simp [hx])).1, fun e => hnd.1 (e ▸ hx)⟩
  have Ut : U w.ts (t :: r) t = 1 := U_one.2 (.inl (by simp))
  have Ut' : U w.ts r t = 0 := by unfold U; rw [if_neg]; rintro (q | q); exact hnd.1 q; omega
  have hU : ∀ x, x ≠ t → U w.ts r x = U w.ts (t :: r) x := fun x hx => by unfold U; simp only [List.mem_cons, hx, false_or]
  have g0 : G w.ts r (w.ts.getD t default).up := by
    refine ⟨h.gg.up, h.gg.up0, fun x hx => h.gg.rng x (by simp [hx]), fun i hi => ?_⟩
    rcases h.gg.node i hi with ⟨n1, n2, n3⟩ | ⟨m1, a, m2, m3, m4, m5, m6⟩
    · exact .inl ⟨n1, n2, fun e => n1 t htl e.symm⟩
    · refine .inr ⟨fun q => m1 (by simp [q]), a, m2, m3, m4, m5, ?_⟩
      rw [m6, if_neg (by omega)]
      by_cases c : (w.ts.getD t default).up = i
      · rw [if_pos c.symm]
        rcases m5 t htl c with q | q
        · subst q; rw [hU (t + 1) (by omega)]; omega
        · subst q; rw [hU a (by omega)]; omega
      · rw [if_neg (fun e => c e.symm), hU a (fun e => c (by rw [← e]; exact m3)), hU (a + 1) (fun e => c (by rw [← e]; exact m4))]
  obtain ⟨r1, r2, r3, r4⟩ := fin_G (w.ts.length + 1) w.ts r (w.ts.getD t default).up h.pos g0 (by omega) (by omega) (by omega) (fun e => by
    have := h.gg.up0 t htl e; subst this; exact Ut')
  have hd : Pl.did w t = (⟨(fin (w.ts.length + 1) w.ts (w.ts.getD t default).up).1, w.grain, marked w.done (w.ts.getD t default).low.toNat (w.ts.getD t default).high.toNat⟩, (fin (w.ts.length + 1) w.ts (w.ts.getD t default).up).2) := by
    simp only [Pl.did, task, Int.toNat_natCast]
  rw [hd]
  generalize fin (w.ts.length + 1) w.ts (w.ts.getD t default).up = F at *
  obtain ⟨ts', o⟩ := F
  dsimp only at *
  have hml := marked_len (d := w.done) (lo := (w.ts.getD t default).low.toNat) (hi := (w.ts.getD t default).high.toNat) (by omega) (by omega)
  have hmg := marked_get (d := w.done) (lo := (w.ts.getD t default).low.toNat) (hi := (w.ts.getD t default).high.toNat) (by omega) (by omega)
  have hsz : ∀ (d : List Bool) (x : Nat), szT ⟨ts', w.grain, d⟩ x = szT w x := fun d x => by simp only [szT]; rw [(r3 x).1, (r3 x).2.1]
  refine ⟨⟨h.c, h.gr, by dsimp only; rw [hml]; exact h.dl, by have := h.pos; dsimp only; omega, fun i hi => ?_, r1, hnd.2, fun x hx u hu1 hu2 => ?_, fun x hx y hy hne => ?_, fun u hu => ?_, ?_, ?_⟩, r4, r2, (r3 t).2.1, (r3 t).1⟩
  · dsimp only at *
    rw [hml]
    have hi' : i < w.ts.length := by omega
    have o1 := h.ok i hi'
    unfold okT at *
    rw [(r3 i).1, (r3 i).2.1, (r3 i).2.2]
    have u1 := (r1.up i hi).2.2
    have u2 : (ts'.getD i default).wait ≤ 2 := by
      rcases r1.node i hi with ⟨_, q, _⟩ | ⟨_, a, _, _, _, _, q⟩
      · omega
      · rw [if_neg (by omega)] at q
        have b1 := U_01 ts' r a
        have b2 := U_01 ts' r (a + 1)
        omega
    omega
  · dsimp only at *
    rw [(r3 x).1] at hu1
    rw [(r3 x).2.1] at hu2
    have d1 := h.disj x (by simp [hx]) t ht (hr x hx).2
    rw [hmg, if_neg (by omega)]
    exact h.fresh x (by simp [hx]) u hu1 hu2
  · dsimp only
    rw [(r3 x).1, (r3 y).1, (r3 x).2.1, (r3 y).2.1]
    exact h.disj x (by simp [hx]) y (by simp [hy]) hne
  · dsimp only at *
    rw [hml] at hu
    rw [hmg]
    by_cases e : (w.ts.getD t default).low.toNat ≤ u ∧ u < (w.ts.getD t default).high.toNat
    · exact .inl (by rw [if_pos e])
    · rw [if_neg e]
      rcases h.cover u hu with q | ⟨x, hx, q1, q2⟩
      · exact .inl q
      · rcases List.mem_cons.1 hx with rfl | hx
        · exact absurd (by omega) e
        · exact .inr ⟨x, hx, by rw [(r3 x).1]; exact q1, by rw [(r3 x).2.1]; exact q2⟩
  · dsimp only
    rw [tot_congr (h := fun x => cntT (szT w x) g - 1) r (fun x _ => by rw [hsz]), r2]
    have e1 := h.phi
    simp only [tot] at e1
    have c1 := (h.sz ht).2.2
    have c2 := cntL_base c1 (by omega)
    have c3 := cntT_eq c1
    omega
  · rw [tot_congr (h := szT w) r (fun x _ => hsz _ x)]
    have e1 := h.un
    simp only [tot] at e1
    omega
theorem Inv.ends {n g : Int} {w : Work} {units : Int} (h : Inv n g w [] units) : units = n ∧ (w.ts.length : Int) = cntT n g ∧ (∀ u : Nat, u < w.done.length → w.done.getD u false = true) ∧ (∀ i, i < w.ts.length → (w.ts.getD i default).wait = 0) := by
  refine ⟨by have := h.un; simp only [tot] at this; omega, by have := h.phi; simp only [tot] at this; omega, fun u hu => ?_, fun i hi => ?_⟩
  · rcases h.cover u hu with q | ⟨x, hx, _⟩
    · exact q
    · cases hx
  · have h1 := (h.gg.up i hi).2.2
    rcases Int.lt_or_eq_of_le h1 with q | q
    · exact absurd rfl (h.gg.some_open w.ts.length i (by omega) hi (U_one.2 (.inr q)))
    · exact q.symm
end Go.Pl
namespace Go.Pl
end Go.Pl
set_option linter.unusedSimpArgs false
set_option linter.unusedVariables false
namespace Go.Pl
structure Event where
  worker : Int
  src : Int
  task : Int
  parted : Bool
deriving DecidableEq, Inhabited
structure Crew where
  work : Work
  dq : List (List Int)
  over : Bool
  steps : Int
  idle : Int
deriving DecidableEq, Inhabited
def held (d : List (List Int)) : Nat := (d.map List.length).sum
def holds (w : Work) (t : Int) : Prop := 0 ≤ t ∧ t < w.ts.length ∧ (task w t).wait = 0 ∧ (great w t ∨ w.done.getD (task w t).low.toNat default = false)
instance (w : Work) (t : Int) : Decidable (holds w t) := by unfold holds; infer_instance
def crewRight (c : Crew) : Prop := right c.work ∧ 1 ≤ c.dq.length ∧ c.dq.length ≤ 8 ∧ (0 ≤ c.steps ∧ c.steps ≤ 100000) ∧ (0 ≤ c.idle ∧ c.idle ≤ 100000) ∧ c.dq.flatten.Nodup ∧ ∀ t ∈ c.dq.flatten, holds c.work t
instance (c : Crew) : Decidable (crewRight c) := by unfold crewRight; infer_instance
def num (d : List (List Int)) (n : Int) : Int := (n.tmod d.length + d.length) % d.length
def foundB (d : List (List Int)) (p v : Nat) : Bool := decide (0 < (d.getD p default).length ∨ 0 < (d.getD v default).length)
def foundE (d : List (List Int)) (p v : Nat) (e : Event) : Event :=
  if 0 < (d.getD p default).length then { e with src := p, task := (d.getD p default).getD ((d.getD p default).length - 1) 0 }
  else if 0 < (d.getD v default).length then { e with src := v, task := (d.getD v default).getD 0 0 } else e
def foundD (d : List (List Int)) (p v : Nat) : List (List Int) :=
  if 0 < (d.getD p default).length then d.set p ((d.getD p default).take ((d.getD p default).length - 1))
  else if 0 < (d.getD v default).length then d.set v ((d.getD v default).drop 1) else d
end Go.Pl
end
section
set_option linter.unusedSimpArgs false
set_option linter.unusedVariables false
namespace Go.Pl
open Go.Am
theorem take_succ_at (l : List Int) (y : Nat) (h : y < l.length) : l.take (y + 1) = l.take y ++ [l.getD y default] := by
  rw [List.take_add_one, List.getD_eq_getElem?_getD, List.getElem?_eq_getElem h]; simp
theorem getD_mem {α : Type} (l : List α) (i : Nat) (d : α) (h : i < l.length) : l.getD i d ∈ l := by
  rw [List.getD_eq_getElem?_getD, List.getElem?_eq_getElem h]; exact List.getElem_mem _
end Go.Pl
set_option linter.unusedSimpArgs false
set_option linter.unusedVariables false
namespace Go.Pl
def goE (w : Work) (t : Int) : Int := if great w t then partE w t else doE w t
def goW (w : Work) (t : Int) : Work := if great w t then partW w t else doW w t
def goD (d : List (List Int)) (p : Nat) (w : Work) (t : Int) : List (List Int) := if great w t ∧ partE w t = 0 then d.set p (d.getD p default ++ [partB w t, partA w t]) else d
def goO (o : Bool) (w : Work) (t : Int) : Bool := if great w t then o else (o || doO w t)
def goV (e : Event) (w : Work) : Event := if great w e.task ∧ partE w e.task = 0 then { e with parted := true } else e
theorem go_part {w : Work} {t : Int} {d : List (List Int)} {p : Nat} {o : Bool} {e : Event} (ht : e.task = t) (h : great w t) (h2 : partE w t = 0) :
    goE w t = 0 ∧ goW w t = partW w t ∧ goD d p w t = d.set p (d.getD p default ++ [partB w t, partA w t]) ∧ goO o w t = o ∧ goV e w = { e with parted := true } := by
  subst ht
  refine ⟨?_, ?_, ?_, ?_, ?_⟩
  · rw [goE, if_pos h, h2]
  · rw [goW, if_pos h]
  · rw [goD, if_pos ⟨h, h2⟩]
  · rw [goO, if_pos h]
  · rw [goV, if_pos ⟨h, h2⟩]
theorem go_do {w : Work} {t : Int} {d : List (List Int)} {p : Nat} {o : Bool} {e : Event} (ht : e.task = t) (h : ¬ great w t) :
    goE w t = doE w t ∧ goW w t = doW w t ∧ goD d p w t = d ∧ goO o w t = (o || doO w t) ∧ goV e w = e := by
  subst ht
  refine ⟨?_, ?_, ?_, ?_, ?_⟩
  · rw [goE, if_neg h]
  · rw [goW, if_neg h]
  · rw [goD, if_neg (fun q => h q.1)]
  · rw [goO, if_neg h]
  · rw [goV, if_neg (fun q => h q.1)]
end Go.Pl
set_option linter.unusedSimpArgs false
set_option linter.unusedVariables false
namespace Go.Pl
def ev0 : Event := ⟨0, 0, 0, false⟩
@[reducible] def evN (d : List (List Int)) (p : Int) : Event := ⟨num d p, -1, -1, false⟩
@[reducible] def evF (d : List (List Int)) (p v : Int) : Event := foundE d (num d p).toNat (num d v).toNat (evN d p)
@[reducible] def dqF (d : List (List Int)) (p v : Int) : List (List Int) := foundD d (num d p).toNat (num d v).toNat
def step (c : Crew) (p v : Int) : Crew × Event × Int :=
  if ¬ crewRight c then (c, ev0, 1) else if c.steps = 100000 then (c, ev0, 2) else
  if foundB c.dq (num c.dq p).toNat (num c.dq v).toNat = true then
    if goE c.work (evF c.dq p v).task ≠ 0 then (c, ev0, goE c.work (evF c.dq p v).task)
    else (⟨goW c.work (evF c.dq p v).task, goD (dqF c.dq p v) (num c.dq p).toNat c.work (evF c.dq p v).task, goO c.over c.work (evF c.dq p v).task, c.steps + 1, c.idle⟩, goV (evF c.dq p v) c.work, 0)
  else if c.idle = 100000 then (c, ev0, 2) else (⟨c.work, c.dq, c.over, c.steps + 1, c.idle + 1⟩, evN c.dq p, 0)
variable {c : Crew} {p v : Int}
theorem step_1 (h : ¬ crewRight c) : step c p v = (c, ev0, 1) := by rw [step, if_pos h]
theorem step_2 (h : crewRight c) (h2 : c.steps = 100000) : step c p v = (c, ev0, 2) := by rw [step, if_neg (by simpa using h), if_pos h2]
theorem step_3 (h : crewRight c) (h2 : ¬ c.steps = 100000) (h3 : foundB c.dq (num c.dq p).toNat (num c.dq v).toNat = true) (h4 : goE c.work (evF c.dq p v).task ≠ 0) : step c p v = (c, ev0, goE c.work (evF c.dq p v).task) := by
  rw [step, if_neg (by simpa using h), if_neg h2, if_pos h3, if_pos h4]
theorem step_4 (h : crewRight c) (h2 : ¬ c.steps = 100000) (h3 : foundB c.dq (num c.dq p).toNat (num c.dq v).toNat = true) (h4 : goE c.work (evF c.dq p v).task = 0) : step c p v = (⟨goW c.work (evF c.dq p v).task, goD (dqF c.dq p v) (num c.dq p).toNat c.work (evF c.dq p v).task, goO c.over c.work (evF c.dq p v).task, c.steps + 1, c.idle⟩, goV (evF c.dq p v) c.work, 0) := by
  rw [step, if_neg (by simpa using h), if_neg h2, if_pos h3, if_neg (by simpa using h4)]
theorem step_5 (h : crewRight c) (h2 : ¬ c.steps = 100000) (h3 : foundB c.dq (num c.dq p).toNat (num c.dq v).toNat = false) (h4 : c.idle = 100000) : step c p v = (c, ev0, 2) := by
  rw [step, if_neg (by simpa using h), if_neg h2, if_neg (by simp [h3]), if_pos h4]
theorem step_6 (h : crewRight c) (h2 : ¬ c.steps = 100000) (h3 : foundB c.dq (num c.dq p).toNat (num c.dq v).toNat = false) (h4 : ¬ c.idle = 100000) : step c p v = (⟨c.work, c.dq, c.over, c.steps + 1, c.idle + 1⟩, evN c.dq p, 0) := by
  rw [step, if_neg (by simpa using h), if_neg h2, if_neg (by simp [h3]), if_neg h4]
theorem num_bound (d : List (List Int)) (n : Int) (h : 1 ≤ d.length) : 0 ≤ num d n ∧ num d n < d.length :=
  ⟨Int.emod_nonneg _ (by omega), Int.emod_lt_of_pos _ (by omega)⟩
theorem foundD_len (d : List (List Int)) (p v : Nat) : (foundD d p v).length = d.length := by
  unfold foundD; split
  · simp
  · split <;> simp
end Go.Pl
end
section
set_option linter.unusedVariables false
namespace Go.Proofs.Ytjkkjiaeeobnkaa
open Go.Am Go.Proofs
@[reducible] def iV (n : Int) : PV := .lit (.int .i64 n)
@[reducible] def bV (n : Bool) : PV := .lit (.bool n)
@[reducible] def ints (c : Bool) (l : List Int) : PV := .seq c (l.map fun x => [.lit (.int .i64 x)])
def tot (ls : List (Bool × List Int)) : Nat := (ls.map fun p => p.2.length).sum
@[reducible] def taskC (t : Pl.Task) : List PV := [iV t.low, iV t.high, iV t.up, iV t.wait]
@[reducible] def evC (e : Pl.Event) : List PV := [iV e.worker, iV e.src, iV e.task, bV e.parted]
@[reducible] def lV (l : List Int) : List PV := [.seq false (l.map fun n => [iV n])]
end Go.Proofs.Ytjkkjiaeeobnkaa
end
section
set_option linter.unusedSimpArgs false
set_option linter.unusedVariables false
namespace Go.Pl
open Go.Am Go.Proofs.Ytjkkjiaeeobnkaa
end Go.Pl
set_option linter.unusedSimpArgs false
set_option linter.unusedVariables false
namespace Go.Pl
def good (c : Crew) : Prop := 0 ≤ c.steps ∧ c.steps ≤ 100001 ∧ ∀ l, l ∈ c.dq → l.length ≤ 2 * c.steps.toNat + 1 ∧ ∀ t, t ∈ l → 0 ≤ t ∧ t ≤ 1000000
theorem good_hl {c : Crew} (h : good c) : ∀ l, l ∈ c.dq → l.length ≤ 1000000 ∧ ∀ t, t ∈ l → -9223372036854775808 ≤ t ∧ t ≤ 9223372036854775807 := fun l hl => by
  obtain ⟨h1, h2⟩ := h.2.2 l hl
  have := h.2.1
  exact ⟨by omega, fun t ht => by have := h2 t ht; omega⟩
theorem foundD_mem {d : List (List Int)} {p v : Nat} (hp : p < d.length) (hv : v < d.length) : ∀ l, l ∈ foundD d p v → ∃ k, k ∈ d ∧ l.length ≤ k.length ∧ ∀ t, t ∈ l → t ∈ k := by
  intro l hl
  unfold foundD at hl
  split at hl
  · rcases List.mem_or_eq_of_mem_set hl with q | q
    · exact ⟨l, q, Nat.le_refl _, fun _ h => h⟩
    · exact ⟨_, getD_mem d p default hp, by subst q; rw [List.length_take]; omega, fun t ht => by subst q; exact List.mem_of_mem_take ht⟩
  · split at hl
    · rcases List.mem_or_eq_of_mem_set hl with q | q
      · exact ⟨l, q, Nat.le_refl _, fun _ h => h⟩
      · exact ⟨_, getD_mem d v default hv, by subst q; rw [List.length_drop]; omega, fun t ht => by subst q; exact List.mem_of_mem_drop ht⟩
    · exact ⟨l, hl, Nat.le_refl _, fun _ h => h⟩
theorem part_small {w : Work} {t : Int} (h : right w) : 0 ≤ partA w t ∧ partA w t ≤ 1000000 ∧ 0 ≤ partB w t ∧ partB w t ≤ 1000000 := by
  have := h.2.2.1
  unfold partA partB
  split <;> omega
theorem step_cases (c : Crew) (p v : Int) (h : (step c p v).2.2 = 0) : crewRight c ∧ ¬ c.steps = 100000 ∧
    ((foundB c.dq (num c.dq p).toNat (num c.dq v).toNat = true ∧ goE c.work (evF c.dq p v).task = 0 ∧ step c p v = (⟨goW c.work (evF c.dq p v).task, goD (dqF c.dq p v) (num c.dq p).toNat c.work (evF c.dq p v).task, goO c.over c.work (evF c.dq p v).task, c.steps + 1, c.idle⟩, goV (evF c.dq p v) c.work, 0)) ∨
     (foundB c.dq (num c.dq p).toNat (num c.dq v).toNat = false ∧ ¬ c.idle = 100000 ∧ step c p v = (⟨c.work, c.dq, c.over, c.steps + 1, c.idle + 1⟩, evN c.dq p, 0))) := by
  by_cases h1 : crewRight c
  · by_cases h2 : c.steps = 100000
    · rw [step_2 h1 h2] at h; cases h
    · refine ⟨h1, h2, ?_⟩
      cases h3 : foundB c.dq (num c.dq p).toNat (num c.dq v).toNat with
      | true =>
        by_cases h4 : goE c.work (evF c.dq p v).task = 0
        · exact .inl ⟨rfl, h4, step_4 h1 h2 h3 h4⟩
        · rw [step_3 h1 h2 h3 h4] at h; exact absurd h h4
      | false =>
        by_cases h4 : c.idle = 100000
        · rw [step_5 h1 h2 h3 h4] at h; cases h
        · exact .inr ⟨rfl, h4, step_6 h1 h2 h3 h4⟩
  · rw [step_1 h1] at h; cases h
theorem step_good {c : Crew} {p v : Int} (hg : good c) (h : (step c p v).2.2 = 0) : good (step c p v).1 := by
  obtain ⟨hr, hst, hc⟩ := step_cases c p v h
  obtain ⟨hr1, hr2, hr3, hr4, hr5, _⟩ := hr
  have nb1 := num_bound c.dq p hr2
  have nb2 := num_bound c.dq v hr2
  have hs : (c.steps + 1).toNat = c.steps.toNat + 1 := by omega
  rcases hc with ⟨_, _, e⟩ | ⟨_, _, e⟩
  · rw [e]
    have hF : ∀ l, l ∈ dqF c.dq p v → l.length ≤ 2 * c.steps.toNat + 1 ∧ ∀ t, t ∈ l → 0 ≤ t ∧ t ≤ 1000000 := fun l hl => by
      obtain ⟨k, hk, h1, h2⟩ := foundD_mem (by omega) (by omega) l hl
      obtain ⟨g1, g2⟩ := hg.2.2 k hk
      exact ⟨by omega, fun t ht => g2 t (h2 t ht)⟩
    refine ⟨by dsimp only; omega, by dsimp only; omega, fun l hl => ?_⟩
    dsimp only at hl ⊢
    rw [hs]
    unfold goD at hl
    split at hl
    · rcases List.mem_or_eq_of_mem_set hl with q | q
      · obtain ⟨g1, g2⟩ := hF l q; exact ⟨by omega, g2⟩
      · have hm := hF _ (getD_mem (dqF c.dq p v) (num c.dq p).toNat default (by rw [foundD_len]; omega))
        have hp := part_small (t := (evF c.dq p v).task) hr1
        subst q
        refine ⟨by rw [List.length_append]; simp only [List.length_cons, List.length_nil]; omega, fun t ht => ?_⟩
        rcases List.mem_append.1 ht with q | q
        · exact hm.2 t q
        · simp only [List.mem_cons, List.not_mem_nil, or_false] at q
          omega
    · obtain ⟨g1, g2⟩ := hF l hl; exact ⟨by omega, g2⟩
  · rw [e]
    refine ⟨by dsimp only; omega, by dsimp only; omega, fun l hl => ?_⟩
    dsimp only at hl ⊢
    obtain ⟨g1, g2⟩ := hg.2.2 l hl
    exact ⟨by omega, g2⟩
def run : Crew → List (Int × Int) → List Event → Crew × List Event × Int
  | c, [], l => (c, l, 0)
  | c, q :: r, l => if (step c q.1 q.2).2.2 ≠ 0 then (c, l, (step c q.1 q.2).2.2) else run (step c q.1 q.2).1 r (l ++ [(step c q.1 q.2).2.1])
end Go.Pl
set_option linter.unusedSimpArgs false
set_option linter.unusedVariables false
namespace Go.Pl
def fl (d : List (List Int)) : List Nat := d.flatten.map Int.toNat
structure CInv (n g : Int) (c : Crew) (units : Int) : Prop where
  inv : Inv n g c.work (fl c.dq) units
  nn : ∀ t, t ∈ c.dq.flatten → 0 ≤ t
  len1 : 1 ≤ c.dq.length
  len8 : c.dq.length ≤ 8
  st : 0 ≤ c.steps
  idl : 0 ≤ c.idle
  ov : c.over = true ↔ c.dq.flatten = []
theorem CInv.right {n g : Int} {c : Crew} {units : Int} (h : CInv n g c units) (h1 : c.steps ≤ 100000) (h2 : c.idle ≤ 100000) : crewRight c := by
  refine ⟨h.inv.right, h.len1, h.len8, ⟨h.st, h1⟩, ⟨h.idl, h2⟩, ?_, fun t ht => ?_⟩
  · have hn := h.inv.nd
    unfold fl at hn
    exact (List.pairwise_map.1 hn).imp fun hne e => hne (by rw [e])
  · have h0 := h.nn t ht
    have hm : t.toNat ∈ fl c.dq := List.mem_map_of_mem ht
    obtain ⟨r1, r2⟩ := h.inv.gg.rng _ hm
    have hok := h.inv.ok _ r1
    unfold okT at hok
    have hf := h.inv.fresh _ hm (c.work.ts.getD t.toNat default).low.toNat (by omega) (by omega)
    exact ⟨h0, by omega, r2, .inr hf⟩
theorem flat_set (d : List (List Int)) (p : Nat) (h : p < d.length) (X : List Int) : (d.set p X).flatten = (d.take p).flatten ++ (X ++ (d.drop (p + 1)).flatten) := by
  rw [List.set_eq_take_append_cons_drop, if_pos h]; simp
theorem flat_get (d : List (List Int)) (p : Nat) (h : p < d.length) : d.flatten = (d.take p).flatten ++ (d.getD p default ++ (d.drop (p + 1)).flatten) := by
  rw [← flat_set d p h]
  congr 1
  apply List.ext_getElem?
  intro i
  rw [List.getElem?_set]
  by_cases e : p = i
  · subst e; rw [if_pos rfl, if_pos h, List.getD_eq_getElem?_getD, List.getElem?_eq_getElem h]; rfl
  · rw [if_neg e]
theorem found_perm {d : List (List Int)} {p v : Nat} {e : Event} (hp : p < d.length) (hv : v < d.length) (h : foundB d p v = true) : d.flatten.Perm ((foundE d p v e).task :: (foundD d p v).flatten) := by
  have h' := of_decide_eq_true h
  by_cases h1 : 0 < (d.getD p default).length
  · rw [foundE, if_pos h1, foundD, if_pos h1, flat_set d p hp]
    have e1 := flat_get d p hp
    have e2 : d.getD p default = (d.getD p default).take ((d.getD p default).length - 1) ++ [(d.getD p default).getD ((d.getD p default).length - 1) 0] := by
      have := take_succ_at (d.getD p default) ((d.getD p default).length - 1) (by omega)
      rw [show (d.getD p default).length - 1 + 1 = (d.getD p default).length by omega, List.take_length] at this
      exact this
    rw [e1]
    conv => lhs; rw [e2]
    simp only [List.append_assoc, List.singleton_append]
    rw [← List.append_assoc, ← List.append_assoc]
    exact List.perm_middle
  · have h2 : 0 < (d.getD v default).length := by omega
    rw [foundE, if_neg h1, if_pos h2, foundD, if_neg h1, if_pos h2, flat_set d v hv]
    have e1 := flat_get d v hv
    have e2 : d.getD v default = (d.getD v default).getD 0 0 :: (d.getD v default).drop 1 := by
      cases hx : d.getD v default with
      | nil => rw [hx] at h2; cases h2
      | cons a r => rfl
    rw [e1]
    conv => lhs; rw [e2]
    simp only [List.cons_append]
    exact List.perm_middle
theorem goD_perm {d : List (List Int)} {p : Nat} (hp : p < d.length) (b a : Int) : (d.set p (d.getD p default ++ [b, a])).flatten.Perm (d.flatten ++ [a, b]) := by
  rw [flat_set d p hp, flat_get d p hp]
  simp only [List.append_assoc]
  refine List.Perm.append_left _ (List.Perm.append_left _ ?_)
  have h1 : ([b, a] ++ (d.drop (p + 1)).flatten).Perm ((d.drop (p + 1)).flatten ++ [b, a]) := List.perm_append_comm
  exact h1.trans (List.Perm.append_left _ (List.Perm.swap a b []))
end Go.Pl
set_option linter.unusedSimpArgs false
set_option linter.unusedVariables false
namespace Go.Pl
theorem foundE_worker (d : List (List Int)) (p v : Nat) (e : Event) : (foundE d p v e).worker = e.worker ∧ (foundE d p v e).parted = e.parted := by
  unfold foundE; split
  · exact ⟨rfl, rfl⟩
  · split <;> exact ⟨rfl, rfl⟩
theorem CInv.step {n g : Int} {c : Crew} {units : Int} (h : CInv n g c units) (h1 : c.steps < 100000) (h2 : c.idle < 100000) (p v : Int) :
    (step c p v).2.2 = 0 ∧ (step c p v).1.steps = c.steps + 1 ∧
    ((foundB c.dq (num c.dq p).toNat (num c.dq v).toNat = false ∧ (step c p v).2.1 = evN c.dq p ∧ (step c p v).1.work = c.work ∧ (step c p v).1.idle = c.idle + 1 ∧ (step c p v).1.dq = c.dq ∧ CInv n g (step c p v).1 units) ∨
     (foundB c.dq (num c.dq p).toNat (num c.dq v).toNat = true ∧ (step c p v).2.1 = { evF c.dq p v with parted := true } ∧ 0 ≤ (evF c.dq p v).task ∧ (step c p v).1.idle = c.idle ∧ (step c p v).1.work.ts.length = c.work.ts.length + 2 ∧ (step c p v).1.dq = goD (dqF c.dq p v) (num c.dq p).toNat c.work (evF c.dq p v).task ∧ great c.work (evF c.dq p v).task ∧ partE c.work (evF c.dq p v).task = 0 ∧ (step c p v).1.work = partW c.work (evF c.dq p v).task ∧ CInv n g (step c p v).1 units) ∨
     (foundB c.dq (num c.dq p).toNat (num c.dq v).toNat = true ∧ (step c p v).2.1 = evF c.dq p v ∧ 0 ≤ (evF c.dq p v).task ∧ (step c p v).1.idle = c.idle ∧ (step c p v).1.work.ts.length = c.work.ts.length ∧ (step c p v).1.dq = dqF c.dq p v ∧ (evF c.dq p v).task < c.work.ts.length ∧ (step c p v).1.work = doW c.work (evF c.dq p v).task ∧
       ((step c p v).1.work.ts.getD (evF c.dq p v).task.toNat default).high = (c.work.ts.getD (evF c.dq p v).task.toNat default).high ∧ ((step c p v).1.work.ts.getD (evF c.dq p v).task.toNat default).low = (c.work.ts.getD (evF c.dq p v).task.toNat default).low ∧
       CInv n g (step c p v).1 (units + szT c.work (evF c.dq p v).task.toNat))) := by
  have hr := h.right (by omega) (by omega)
  have nb1 := num_bound c.dq p h.len1
  have nb2 := num_bound c.dq v h.len1
  have hst : ¬ c.steps = 100000 := by omega
  have hst0 := h.st
  have hid0 := h.idl
  cases hB : foundB c.dq (num c.dq p).toNat (num c.dq v).toNat with
  | false =>
    rw [step_6 hr hst hB (by omega)]
    exact ⟨rfl, rfl, .inl ⟨rfl, rfl, rfl, rfl, rfl, ⟨h.inv, h.nn, h.len1, h.len8, by dsimp only; omega, by dsimp only; omega, h.ov⟩⟩⟩
  | true =>
    have hp := found_perm (e := evN c.dq p) (by omega) (by omega) hB
    have ht0 : 0 ≤ (evF c.dq p v).task := h.nn _ (hp.mem_iff.2 (by simp))
    have hmem : ∀ x, x ∈ (dqF c.dq p v).flatten → x ∈ c.dq.flatten := fun x hx => hp.mem_iff.2 (by simp [hx])
    have hi : Inv n g c.work ((evF c.dq p v).task.toNat :: fl (dqF c.dq p v)) units := h.inv.perm (hp.map _)
    have hne : ¬ c.over = true := fun e => by
      have e2 := h.ov.1 e
      have := hp.length_eq
      rw [e2] at this; simp at this
    have htn : (((evF c.dq p v).task.toNat : Nat) : Int) = (evF c.dq p v).task := by omega
    have hlt := (hi.gg.rng _ (List.mem_cons_self ..)).1
    have hgr := hi.great (t := (evF c.dq p v).task.toNat) (List.mem_cons_self ..)
    rw [htn] at hgr
    have hdl : (dqF c.dq p v).length = c.dq.length := foundD_len _ _ _
    by_cases hg : great c.work (evF c.dq p v).task
    · have hgs := hgr.1 hg
      have hE := hi.part0 hgs
      have hI := hi.part hgs
      rw [htn] at hE hI
      obtain ⟨e1, e2, e3, e4, e5⟩ := go_part (d := dqF c.dq p v) (p := (num c.dq p).toNat) (o := c.over) (e := evF c.dq p v) rfl hg hE
      rw [step_4 hr hst hB e1, e2, e4, e5]
      obtain ⟨_, a1, a2, _⟩ := part_ok hE
      have hl2 : (partW c.work (evF c.dq p v).task).ts.length = c.work.ts.length + 2 := by rw [(part_ok hE).1]; simp [parted]
      have hpg := goD_perm (d := dqF c.dq p v) (p := (num c.dq p).toNat) (by omega) (partB c.work (evF c.dq p v).task) (partA c.work (evF c.dq p v).task)
      rw [← e3] at hpg
      refine ⟨rfl, rfl, .inr (.inl ⟨rfl, rfl, ht0, rfl, hl2, rfl, hg, hE, rfl, ⟨hI.perm ?_, fun x hx => ?_, ?_, ?_, by dsimp only; omega, by dsimp only; omega, ⟨fun q => absurd q hne, fun q => ?_⟩⟩⟩)⟩
      · have := (hpg.map Int.toNat).symm
        rw [List.map_append, a1, a2] at this
        exact this
      · rcases List.mem_append.1 (hpg.mem_iff.1 hx) with q | q
        · exact h.nn x (hmem x q)
        · rw [a1, a2] at q; simp at q; omega
      · dsimp only; rw [e3, List.length_set]; have := h.len1; omega
      · dsimp only; rw [e3, List.length_set]; have := h.len8; omega
      · have := hpg.length_eq
        dsimp only at q
        rw [q] at this; simp at this
    · have hgs : ¬ g < szT c.work (evF c.dq p v).task.toNat := fun q => hg (hgr.2 q)
      have hE := hi.do0 hgs
      obtain ⟨hI, ho1, ho2, ho3, ho4⟩ := hi.did hgs
      rw [htn] at hE hI ho1 ho2 ho3 ho4
      obtain ⟨e1, e2, e3, e4, e5⟩ := go_do (d := dqF c.dq p v) (p := (num c.dq p).toNat) (o := c.over) (e := evF c.dq p v) rfl hg
      rw [step_4 hr hst hB (e1.trans hE), e2, e3, e4, e5]
      have hov : (c.over || doO c.work (evF c.dq p v).task) = doO c.work (evF c.dq p v).task := by
        cases hc : c.over with
        | true => exact absurd hc hne
        | false => rfl
      rw [hov]
      refine ⟨rfl, rfl, .inr (.inr ⟨rfl, rfl, ht0, rfl, ho2, rfl, by omega, rfl, ho3, ho4, ⟨hI, fun x hx => h.nn x (hmem x hx), ?_, ?_, by dsimp only; omega, by dsimp only; omega, ?_⟩⟩)⟩
      · dsimp only; have := h.len1; omega
      · dsimp only; have := h.len8; omega
      · dsimp only
        rw [ho1]
        unfold fl
        exact List.map_eq_nil_iff
end Go.Pl
set_option linter.unusedSimpArgs false
set_option linter.unusedVariables false
namespace Go.Pl
theorem CInv.over_iff {n g : Int} {c : Crew} {units : Int} (h : CInv n g c units) : (units = n ↔ c.dq.flatten = []) := by
  have hu := h.inv.un
  constructor
  · intro e
    cases hf : c.dq.flatten with
    | nil => rfl
    | cons x r =>
      have e2 : fl c.dq = x.toNat :: r.map Int.toNat := by unfold fl; rw [hf]; rfl
      have s1 := (h.inv.sz (t := x.toNat) (by rw [e2]; simp)).1
      have s2 := tot_nn (f := szT c.work) (r.map Int.toNat) (fun t ht => by have := (h.inv.sz (t := t) (by rw [e2]; simp only [List.mem_cons]; exact .inr ht)).1; omega)
      rw [e2] at hu; simp only [tot] at hu; omega
  · intro e
    have e2 : fl c.dq = [] := by unfold fl; rw [e]; rfl
    rw [e2] at hu; simp only [tot] at hu; omega
theorem held_flat (d : List (List Int)) : held d = d.flatten.length := by
  unfold held; rw [List.length_flatten]
end Go.Pl
set_option linter.unusedSimpArgs false
set_option linter.unusedVariables false
namespace Go.Pl
variable {n g : Int} {c : Crew} {units : Int} {p v : Int}
theorem CInv.s_ok (h : CInv n g c units) (h1 : c.steps < 100000) (h2 : c.idle < 100000) : (Pl.step c p v).2.2 = 0 ∧ (Pl.step c p v).1.steps = c.steps + 1 := by
  obtain ⟨a, b, _⟩ := h.step h1 h2 p v; exact ⟨a, b⟩
theorem CInv.over (h : CInv n g c units) : c.over = decide (units = n) := by
  have h1 := h.ov
  have h2 := h.over_iff
  rw [Bool.eq_iff_iff, decide_eq_true_eq, h1, h2]
theorem CInv.held (h : CInv n g c units) : (Pl.held c.dq = 0 ↔ units = n) := by
  rw [held_flat, h.over_iff, List.length_eq_zero_iff]
end Go.Pl
set_option linter.unusedSimpArgs false
set_option linter.unusedVariables false
namespace Go.Pl
theorem held_le_mul {m : Nat} : ∀ (d : List (List Int)), (∀ l, l ∈ d → l.length ≤ m) → Pl.held d ≤ d.length * m
  | [], _ => by simp [Pl.held]
  | x :: d, h => by
    have h1 := h x (by simp)
    have h2 := held_le_mul d (fun l hl => h l (by simp [hl]))
    have e : Pl.held (x :: d) = x.length + Pl.held d := by simp [Pl.held]
    rw [e, List.length_cons, Nat.add_mul]; omega
theorem CInv.held_small {n g : Int} {c : Crew} {units : Int} (h : CInv n g c units) (hg : good c) : Pl.held c.dq ≤ 1000000000 ∧ c.dq.length ≤ 1000000 := by
  have h1 := held_le_mul c.dq (fun l hl => (good_hl hg l hl).1)
  have h2 := h.len8
  have h3 : c.dq.length * 1000000 ≤ 8 * 1000000 := Nat.mul_le_mul_right _ h2
  omega
end Go.Pl
end
section
set_option linter.unusedSimpArgs false
set_option linter.unusedVariables false
namespace Go.Pl
def gone : List Event → List Int
  | [] => []
  | e :: l => if e.task < 0 then gone l else e.task :: gone l
theorem gone_app (a b : List Event) : gone (a ++ b) = gone a ++ gone b := by
  induction a with
  | nil => rfl
  | cons e a ih => simp only [List.cons_append, gone]; split <;> simp [ih]
theorem gone_take (l : List Event) (i : Nat) (h : i < l.length) : gone (l.take (i + 1)) = gone (l.take i) ++ (if (l.getD i default).task < 0 then [] else [(l.getD i default).task]) := by
  rw [List.take_add_one, gone_app, List.getD_eq_getElem?_getD, List.getElem?_eq_getElem h]
  simp only [Option.toList_some, Option.getD_some, gone]
theorem gone_split (l : List Event) (i : Nat) (h : i < l.length) (ht : ¬ (l.getD i default).task < 0) : ∃ r, gone l = gone (l.take i) ++ (l.getD i default).task :: r := by
  refine ⟨gone (l.drop (i + 1)), ?_⟩
  have e : l = l.take (i + 1) ++ l.drop (i + 1) := (List.take_append_drop _ _).symm
  conv => lhs; rw [e]
  rw [gone_app, gone_take l i h, if_neg ht]; simp
def TInv (c : Crew) (ev : List Event) : Prop := ((gone ev).map Int.toNat ++ fl c.dq).Perm (List.range c.work.ts.length)
theorem TInv.step {n g : Int} {c : Crew} {units : Int} {ev : List Event} (hT : TInv c ev) (h : CInv n g c units) (h1 : c.steps < 100000) (h2 : c.idle < 100000) (p v : Int) :
    TInv (step c p v).1 (ev ++ [(step c p v).2.1]) := by
  have nb1 := num_bound c.dq p h.len1
  have nb2 := num_bound c.dq v h.len1
  obtain ⟨_, _, hc⟩ := h.step h1 h2 p v
  unfold TInv at *
  rcases hc with ⟨_, q0, q1, q2, q3, _⟩ | ⟨qb, q0, q1, q2, q3, q4, q5, q6, q7, _⟩ | ⟨qb, q0, q1, q2, q3, q4, _⟩
  · rw [q0, q1, q3, gone_app]; simp only [gone]; simp only [show (-1 : Int) < 0 by decide, if_true, List.append_nil]; exact hT
  · have hp := found_perm (e := evN c.dq p) (by omega) (by omega) qb
    have hpg := goD_perm (d := dqF c.dq p v) (p := (num c.dq p).toNat) (by rw [foundD_len]; omega) (partB c.work (evF c.dq p v).task) (partA c.work (evF c.dq p v).task)
    obtain ⟨_, a1, a2, _⟩ := part_ok q6
    rw [q0, q3, q4, gone_app]
    simp only [gone]
    rw [if_neg (by omega), goD, if_pos ⟨q5, q6⟩, List.range_succ, List.range_succ]
    have e1 := hpg.map Int.toNat
    rw [List.map_append] at e1
    simp only [List.map_cons, List.map_nil, a1, a2] at e1
    have e2 := hp.map Int.toNat
    unfold fl at *
    simp only [List.map_cons] at e2
    have e3 := (List.Perm.append_left ((gone ev).map Int.toNat) e2).symm.trans hT
    rw [List.map_append]
    simp only [List.map_cons, List.map_nil, a1, a2]
    refine (List.Perm.append_left _ e1).trans ?_
    rw [← List.append_assoc, List.append_assoc (List.range _)]
    refine List.Perm.append (by rw [List.append_assoc]; exact e3) ?_
    rw [show ((c.work.ts.length : Int)).toNat = c.work.ts.length by omega, show ((c.work.ts.length : Int) + 1).toNat = c.work.ts.length + 1 by omega]
    exact List.Perm.refl _
  · have hp := found_perm (e := evN c.dq p) (by omega) (by omega) qb
    rw [q0, q3, q4, gone_app]
    simp only [gone]
    rw [if_neg (by omega)]
    have e2 := hp.map Int.toNat
    unfold fl at *
    simp only [List.map_cons] at e2
    have e3 := (List.Perm.append_left ((gone ev).map Int.toNat) e2).symm.trans hT
    rw [List.map_append, List.append_assoc]
    exact e3
theorem TInv.len {c : Crew} {ev : List Event} (h : TInv c ev) : (gone ev).length + held c.dq = c.work.ts.length := by
  have := h.length_eq
  rw [List.length_append, List.length_map, List.length_range, fl, List.length_map] at this
  rw [held_flat]; exact this
theorem TInv.at {c : Crew} {ev : List Event} (h : TInv c ev) {i : Nat} (hi : i < ev.length) (ht : ¬ (ev.getD i default).task < 0) :
    (ev.getD i default).task < c.work.ts.length ∧ (ev.getD i default).task ∉ gone (ev.take i) := by
  obtain ⟨r, hr⟩ := gone_split ev i hi ht
  unfold TInv at h
  have hn := h.nodup_iff.2 List.nodup_range
  have hm : (ev.getD i default).task.toNat ∈ List.range c.work.ts.length := h.mem_iff.1 (by rw [hr]; simp)
  refine ⟨by have := List.mem_range.1 hm; omega, fun hq => ?_⟩
  rw [hr] at hn
  have hn1 := (List.nodup_append.1 hn).1
  rw [List.map_append] at hn1
  exact (List.nodup_append.1 hn1).2.2 _ (List.mem_map_of_mem hq) (ev.getD i default).task.toNat (by simp) rfl
theorem tasks_end {n g : Int} {c : Crew} {units : Int} {ev : List Event} (h : CInv n g c units) (hT : TInv c ev) :
    (c.work.ts.length : Int) ≤ cntT n g ∧ (c.over = true ↔ ((gone ev).length : Int) = cntT n g) := by
  have h1 := h.inv.len.1
  have h2 := hT.len
  refine ⟨h1, ?_⟩
  rw [h.ov]
  constructor
  · intro e
    have e2 : fl c.dq = [] := by unfold fl; rw [e]; rfl
    have h3 := h.inv
    rw [e2] at h3
    have h4 := h3.ends.2.1
    rw [held_flat, e] at h2
    simp only [List.length_nil] at h2
    omega
  · intro e
    rw [held_flat] at h2
    exact List.eq_nil_of_length_eq_zero (by omega)
def chain (ts : List Task) : Int → List Int → Int → Prop
  | a, [], b => a = b
  | a, t :: l, b => (ts.getD t.toNat default).low = a ∧ chain ts (ts.getD t.toNat default).high l b
theorem chain_congr {ts ts' : List Task} : ∀ (l : List Int) (a b : Int), (∀ t, t ∈ l → (ts'.getD t.toNat default).low = (ts.getD t.toNat default).low ∧ (ts'.getD t.toNat default).high = (ts.getD t.toNat default).high) → chain ts a l b → chain ts' a l b
  | [], a, b, _, h => h
  | t :: l, a, b, hl, h => by
    obtain ⟨e1, e2⟩ := hl t (by simp)
    simp only [chain] at h ⊢
    rw [e1, e2]
    exact ⟨h.1, chain_congr l _ b (fun x hx => hl x (by simp [hx])) h.2⟩
def Own (n : Int) (c : Crew) (at' : Int) : Prop := ∃ l, c.dq = [l] ∧ chain c.work.ts at' l.reverse n
theorem num_one (l : List Int) (p : Int) : num [l] p = 0 := by
  unfold num
  simp only [List.length_cons, List.length_nil]
  rw [show ((0 + 1 : Nat) : Int) = 1 from rfl]
  exact Int.emod_one _
theorem fin_low : ∀ (k : Nat) (ts : List Task) (up : Int) (x : Nat), ((fin k ts up).1.getD x default).low = (ts.getD x default).low ∧ ((fin k ts up).1.getD x default).high = (ts.getD x default).high
  | 0, ts, up, x => ⟨rfl, rfl⟩
  | k + 1, ts, up, x => by
    have hs : ∀ (w : Int), ((ts.set up.toNat { ts.getD up.toNat default with wait := w }).getD x default).low = (ts.getD x default).low ∧ ((ts.set up.toNat { ts.getD up.toNat default with wait := w }).getD x default).high = (ts.getD x default).high := fun w => by
      by_cases e : up.toNat = x
      · subst e
        by_cases hl : up.toNat < ts.length
        · rw [getD_set_self hl]; exact ⟨rfl, rfl⟩
        · rw [List.set_eq_of_length_le (by omega)]; exact ⟨rfl, rfl⟩
      · rw [getD_set_ne e]; exact ⟨rfl, rfl⟩
    simp only [fin]
    split
    · exact ⟨rfl, rfl⟩
    · split
      · exact ⟨rfl, rfl⟩
      · split
        · exact hs _
        · have h1 := fin_low k (ts.set up.toNat { ts.getD up.toNat default with wait := (ts.getD up.toNat default).wait - 1 }) (ts.getD up.toNat default).up x
          have h2 := hs ((ts.getD up.toNat default).wait - 1)
          exact ⟨h1.1.trans h2.1, h1.2.trans h2.2⟩
theorem doW_low (w : Work) (i : Int) (x : Nat) : ((doW w i).ts.getD x default).low = (w.ts.getD x default).low ∧ ((doW w i).ts.getD x default).high = (w.ts.getD x default).high := by
  unfold doW
  split
  · exact fin_low _ _ _ _
  · exact ⟨rfl, rfl⟩
theorem parted_low (w : Work) (i : Int) (x : Nat) (hx : x < w.ts.length) : ((parted w i).ts.getD x default).low = (w.ts.getD x default).low ∧ ((parted w i).ts.getD x default).high = (w.ts.getD x default).high := by
  simp only [parted]
  rw [List.getD_eq_getElem?_getD, List.getElem?_append_left (by simpa using hx), ← List.getD_eq_getElem?_getD]
  by_cases e : i.toNat = x
  · subst e; rw [getD_set_self hx]; exact ⟨rfl, rfl⟩
  · rw [getD_set_ne e]; exact ⟨rfl, rfl⟩
theorem parted_new (w : Work) (i : Int) : ((parted w i).ts.getD w.ts.length default) = ⟨(task w i).low, mid (task w i), i, 0⟩ ∧ ((parted w i).ts.getD (w.ts.length + 1) default) = ⟨mid (task w i), (task w i).high, i, 0⟩ := by
  simp only [parted]
  constructor
  · rw [List.getD_eq_getElem?_getD, List.getElem?_append_right (by simp)]; simp
  · rw [List.getD_eq_getElem?_getD, List.getElem?_append_right (by simp)]; simp
theorem found_one (l : List Int) (e : Event) : (l = [] ∧ foundB [l] 0 0 = false ∧ foundD [l] 0 0 = [l] ∧ foundE [l] 0 0 e = e) ∨
    ∃ k t, l = k ++ [t] ∧ foundB [l] 0 0 = true ∧ foundD [l] 0 0 = [k] ∧ foundE [l] 0 0 e = { e with src := 0, task := t } := by
  rcases List.eq_nil_or_concat l with rfl | ⟨k, t, rfl⟩
  · exact .inl ⟨rfl, rfl, rfl, rfl⟩
  · refine .inr ⟨k, t, by simp, ?_, ?_, ?_⟩
    · simp [foundB]
    · simp [foundD]
    · simp [foundE]
theorem Own.step {n g : Int} {c : Crew} {units a : Int} (hO : Own n c a) (h : CInv n g c units) (h1 : c.steps < 100000) (h2 : c.idle < 100000) (p v : Int) :
    (step c p v).2.1.worker = 0 ∧ (((step c p v).2.1.task = -1 ∧ (step c p v).2.1.src = -1 ∧ held c.dq = 0 ∧ Own n (step c p v).1 a) ∨
      (0 ≤ (step c p v).2.1.task ∧ (step c p v).2.1.src = 0 ∧ 0 < held c.dq ∧ (((step c p v).2.1.parted = true ∧ Own n (step c p v).1 a) ∨
        ((step c p v).2.1.parted = false ∧ (step c p v).2.1.task < (step c p v).1.work.ts.length ∧ ((step c p v).1.work.ts.getD (step c p v).2.1.task.toNat default).low = a ∧ Own n (step c p v).1 ((step c p v).1.work.ts.getD (step c p v).2.1.task.toNat default).high)))) := by
  obtain ⟨l, hd, hch⟩ := hO
  have n1 := num_one l p
  have n2 := num_one l v
  have hF := found_one l (evN [l] p)
  have hmem := h.inv.gg.rng
  have hnn := h.nn
  obtain ⟨_, _, hc⟩ := h.step h1 h2 p v
  simp only [hd, evF, dqF, n1, n2, show (0 : Int).toNat = 0 from rfl] at hc hmem hnn
  rcases hF with ⟨rfl, f1, f2, f3⟩ | ⟨k, t, rfl, f1, f2, f3⟩
  · rw [f1, f2, f3] at hc
    rcases hc with ⟨_, q0, q1, q2, q3, _⟩ | ⟨qb, _⟩ | ⟨qb, _⟩
    · rw [q0, hd]
      exact ⟨num_one [] p, .inl ⟨rfl, rfl, rfl, ⟨[], q3, by rw [q1]; exact hch⟩⟩⟩
    · cases qb
    · cases qb
  · rw [f1, f2, f3] at hc
    dsimp only at hc
    have hheld : 0 < held c.dq := by rw [hd]; simp [held]
    have hrng : ∀ x, x ∈ k → x.toNat < c.work.ts.length := fun x hx => (hmem x.toNat (by unfold fl; simp only [List.flatten_cons, List.flatten_nil, List.append_nil]; exact List.mem_map_of_mem (by simp [hx]))).1
    have ht0 : 0 ≤ t := hnn t (by simp)
    have htl : t.toNat < c.work.ts.length := (hmem t.toNat (by unfold fl; simp only [List.flatten_cons, List.flatten_nil, List.append_nil]; exact List.mem_map_of_mem (by simp))).1
    rw [List.reverse_append, List.reverse_singleton, List.singleton_append] at hch
    obtain ⟨hlow, hch⟩ := hch
    rcases hc with ⟨qb, _⟩ | ⟨_, q0, q1, q2, q3, q4, q5, q6, q7, _⟩ | ⟨_, q0, q1, q2, q3, q4, q5, q6, q7, q8, _⟩
    · cases qb
    · rw [q0]
      refine ⟨num_one _ p, .inr ⟨q1, rfl, hheld, .inl ⟨rfl, ?_⟩⟩⟩
      obtain ⟨e1, e2, e3, _⟩ := part_ok q6
      obtain ⟨g1, g2⟩ := parted_new c.work t
      refine ⟨k ++ [partB c.work t, partA c.work t], by rw [q4, goD, if_pos ⟨q5, q6⟩]; rfl, ?_⟩
      rw [q7, e1, e2, e3, List.reverse_append]
      simp only [List.reverse_cons, List.reverse_nil, List.nil_append, List.singleton_append, List.cons_append, chain]
      rw [show ((c.work.ts.length : Int)).toNat = c.work.ts.length by omega, show ((c.work.ts.length : Int) + 1).toNat = c.work.ts.length + 1 by omega, g1, g2]
      refine ⟨hlow, rfl, ?_⟩
      exact chain_congr _ _ _ (fun x hx => parted_low c.work t x.toNat (hrng x (by simpa using hx))) hch
    · rw [q0]
      refine ⟨num_one _ p, .inr ⟨q1, rfl, hheld, .inr ⟨rfl, by rw [q3]; exact q5, by rw [q8]; exact hlow, ⟨k, q4, ?_⟩⟩⟩⟩
      rw [q7, q6]
      exact chain_congr _ _ _ (fun x hx => doW_low c.work t x.toNat) hch
theorem Own.over {n g : Int} {c : Crew} {units a : Int} (hO : Own n c a) (h : CInv n g c units) : (c.over = true ↔ a = n) := by
  obtain ⟨l, hd, hch⟩ := hO
  rw [h.ov, hd]
  simp only [List.flatten_cons, List.flatten_nil, List.append_nil]
  rcases List.eq_nil_or_concat l with rfl | ⟨k, t, rfl⟩
  · simp only [List.reverse_nil, chain] at hch
    exact ⟨fun _ => hch, fun _ => rfl⟩
  · rw [List.concat_eq_append] at *
    rw [List.reverse_append, List.reverse_singleton, List.singleton_append] at hch
    obtain ⟨hlow, _⟩ := hch
    have hr := (h.inv.gg.rng t.toNat (by unfold fl; rw [hd]; simp)).1
    have hok := h.inv.ok t.toNat hr
    have hdl := h.inv.dl
    unfold okT at hok
    refine ⟨fun e => by simp at e, fun e => by omega⟩
theorem CInv.next {n g : Int} {c : Crew} {units : Int} (h : CInv n g c units) (h1 : c.steps < 100000) (h2 : c.idle < 100000) {p v : Int} : ∃ u', CInv n g (Pl.step c p v).1 u' ∧ (Pl.step c p v).1.idle ≤ c.idle + 1 := by
  obtain ⟨_, _, hc⟩ := h.step h1 h2 p v
  rcases hc with ⟨_, _, _, q2, _, q3⟩ | ⟨_, _, _, q2, _, _, _, _, _, q3⟩ | ⟨_, _, _, q2, _, _, _, _, _, _, q3⟩
  · exact ⟨_, q3, by omega⟩
  · exact ⟨_, q3, by omega⟩
  · exact ⟨_, q3, by omega⟩
end Go.Pl
end
section
set_option linter.unusedSimpArgs false
set_option linter.unusedVariables false
namespace Go.Pl
def isLeaf (ts : List Task) (e : Event) : Bool := !e.parted && (decide (0 ≤ e.task) && decide (e.task < ts.length))
def leaves' (ts : List Task) : List Event → List (Int × Int)
  | [] => []
  | e :: l => if isLeaf ts e = true then ((ts.getD e.task.toNat default).low, (ts.getD e.task.toNat default).high) :: leaves' ts l else leaves' ts l
theorem leaves_app (ts : List Task) (a b : List Event) : leaves' ts (a ++ b) = leaves' ts a ++ leaves' ts b := by
  induction a with
  | nil => rfl
  | cons e a ih => simp only [List.cons_append, leaves']; split <;> simp [ih]
def upto (a b : Int) : List Int := (List.range (b - a).toNat).map fun (k : Nat) => a + k
theorem upto_len (a b : Int) : (upto a b).length = (b - a).toNat := by simp [upto]
theorem mem_upto {a b x : Int} : x ∈ upto a b ↔ a ≤ x ∧ x < b := by
  unfold upto
  simp only [List.mem_map, List.mem_range]
  constructor
  · rintro ⟨k, h1, h2⟩; omega
  · rintro ⟨h1, h2⟩; exact ⟨(x - a).toNat, by omega, by omega⟩
theorem nodup_upto (a b : Int) : (upto a b).Nodup := by
  unfold upto
  exact List.Pairwise.map _ (fun x y h => by omega) List.nodup_range
theorem upto_nil {a b : Int} (h : b ≤ a) : upto a b = [] := by unfold upto; rw [show (b - a).toNat = 0 by omega]; rfl
theorem upto_snoc {a : Int} (k : Nat) : upto a (a + k) ++ [a + k] = upto a (a + (k + 1 : Nat)) := by
  unfold upto
  rw [show (a + (k : Int) - a).toNat = k by omega, show (a + ((k + 1 : Nat) : Int) - a).toNat = k + 1 by omega, List.range_succ, List.map_append]; rfl
def unitsOf (l : List (Int × Int)) : List Int := l.flatMap fun s => upto s.1 s.2
theorem unitsOf_app (a b : List (Int × Int)) : unitsOf (a ++ b) = unitsOf a ++ unitsOf b := by simp [unitsOf]
structure UInv (c : Crew) (ev : List Event) : Prop where
  nd : (unitsOf (leaves' c.work.ts ev)).Nodup
  mem : ∀ u, u ∈ unitsOf (leaves' c.work.ts ev) ↔ (0 ≤ u ∧ c.work.done.getD u.toNat false = true)
  evs : ∀ e, e ∈ ev → e.task < c.work.ts.length
theorem leaves_congr {ts ts' : List Task} (hl : ts.length ≤ ts'.length) (hlow : ∀ x, x < ts.length → (ts'.getD x default).low = (ts.getD x default).low ∧ (ts'.getD x default).high = (ts.getD x default).high) :
    ∀ (ev : List Event), (∀ e, e ∈ ev → e.task < ts.length) → leaves' ts' ev = leaves' ts ev
  | [], _ => rfl
  | e :: l, h => by
    have h1 := h e (by simp)
    have ih := leaves_congr hl hlow l (fun x hx => h x (by simp [hx]))
    simp only [leaves', ih]
    have e1 : isLeaf ts' e = isLeaf ts e := by
      unfold isLeaf
      congr 2
      exact decide_eq_decide.mpr ⟨fun _ => h1, fun _ => by omega⟩
    rw [e1]
    by_cases c : isLeaf ts e = true
    · rw [if_pos c, if_pos c]
      have h0 : 0 ≤ e.task := by
        unfold isLeaf at c; simp at c; exact c.2.1
      obtain ⟨a, b⟩ := hlow e.task.toNat (by omega)
      rw [a, b]
    · rw [if_neg c, if_neg c]
theorem UInv.step {n g : Int} {c : Crew} {units : Int} {ev : List Event} (hU : UInv c ev) (h : CInv n g c units) (h1 : c.steps < 100000) (h2 : c.idle < 100000) (p v : Int) :
    UInv (Pl.step c p v).1 (ev ++ [(Pl.step c p v).2.1]) := by
  have nb1 := num_bound c.dq p h.len1
  have nb2 := num_bound c.dq v h.len1
  obtain ⟨_, _, hc⟩ := h.step h1 h2 p v
  have hpos := h.inv.pos
  rcases hc with ⟨_, q0, q1, _⟩ | ⟨qb, q0, q1, _, q3, _, q5, q6, q7, _⟩ | ⟨qb, q0, q1, _, q3, q4, q5, q6, q7, q8, q9⟩
  · rw [q0]
    refine ⟨?_, ?_, fun e he => ?_⟩
    · rw [leaves_app, q1]; simp only [leaves', isLeaf]; simp; exact hU.nd
    · rw [leaves_app, q1]; simp only [leaves', isLeaf]; simpa using hU.mem
    · rw [q1]
      rcases List.mem_append.1 he with q | q
      · exact hU.evs e q
      · simp at q; subst q; dsimp only; omega
  · have hp := found_perm (e := evN c.dq p) (by omega) (by omega) qb
    have hi : Inv n g c.work ((evF c.dq p v).task.toNat :: fl (dqF c.dq p v)) units := h.inv.perm (hp.map _)
    have hlt := (hi.gg.rng _ (List.mem_cons_self ..)).1
    have hW : (Pl.step c p v).1.work = parted c.work (evF c.dq p v).task := by rw [q7, (part_ok q6).1]
    have hlen : (parted c.work (evF c.dq p v).task).ts.length = c.work.ts.length + 2 := by rw [← hW, q3]
    have hcg := leaves_congr (ts := c.work.ts) (ts' := (parted c.work (evF c.dq p v).task).ts) (by omega) (fun x hx => parted_low c.work _ x hx) ev hU.evs
    rw [q0]
    have e1 : leaves' (Pl.step c p v).1.work.ts (ev ++ [{ evF c.dq p v with parted := true }]) = leaves' c.work.ts ev := by
      rw [hW, leaves_app, hcg]; simp [leaves', isLeaf]
    refine ⟨by rw [e1]; exact hU.nd, by rw [e1, hW]; exact hU.mem, fun e he => ?_⟩
    rw [hW, hlen]
    rcases List.mem_append.1 he with q | q
    · have := hU.evs e q; omega
    · simp at q; subst q; dsimp only; omega
  · have hp := found_perm (e := evN c.dq p) (by omega) (by omega) qb
    have hi : Inv n g c.work ((evF c.dq p v).task.toNat :: fl (dqF c.dq p v)) units := h.inv.perm (hp.map _)
    have hlt := (hi.gg.rng _ (List.mem_cons_self ..)).1
    have hok := hi.ok _ hlt
    have htn : (((evF c.dq p v).task.toNat : Nat) : Int) = (evF c.dq p v).task := by omega
    have hgr := hi.great (t := (evF c.dq p v).task.toNat) (List.mem_cons_self ..)
    rw [htn] at hgr
    have hng : ¬ g < szT c.work (evF c.dq p v).task.toNat := fun q => by
      have hE := hi.part0 q
      rw [htn] at hE
      have hg := hgr.2 q
      have h3 := go_part (d := dqF c.dq p v) (p := (num c.dq p).toNat) (o := c.over) (e := evF c.dq p v) rfl hg hE
      have hr := h.right (by omega) (by omega)
      have : (Pl.step c p v).1.work.ts.length = c.work.ts.length + 2 := by
        rw [step_4 hr (by omega) qb h3.1, h3.2.1, (part_ok hE).1]; simp [parted]
      omega
    have hE := hi.do0 hng
    rw [htn] at hE
    have hdn : (Pl.step c p v).1.work.done = marked c.work.done (c.work.ts.getD (evF c.dq p v).task.toNat default).low.toNat (c.work.ts.getD (evF c.dq p v).task.toNat default).high.toNat := by
      rw [q6, (do_ok hE).1]; rfl
    have hfr := hi.fresh _ (List.mem_cons_self ..)
    unfold okT at hok
    have hcg := leaves_congr (ts := c.work.ts) (ts' := (doW c.work (evF c.dq p v).task).ts) (by rw [(doW_len _ _).1]; exact Nat.le_refl _) (fun x hx => doW_low c.work _ x) ev hU.evs
    have hpt : (evF c.dq p v).parted = false := (foundE_worker _ _ _ _).2
    have e1 : leaves' (Pl.step c p v).1.work.ts (ev ++ [evF c.dq p v]) = leaves' c.work.ts ev ++ [((c.work.ts.getD (evF c.dq p v).task.toNat default).low, (c.work.ts.getD (evF c.dq p v).task.toNat default).high)] := by
      rw [q6, leaves_app, hcg]
      simp only [leaves']
      rw [if_pos, (doW_low _ _ _).1, (doW_low _ _ _).2]
      unfold isLeaf
      rw [hpt, (doW_len _ _).1]; simp; omega
    rw [q0]
    have hmk := marked_get (d := c.work.done) (lo := (c.work.ts.getD (evF c.dq p v).task.toNat default).low.toNat) (hi := (c.work.ts.getD (evF c.dq p v).task.toNat default).high.toNat) (by omega) (by omega)
    have eu : unitsOf [((c.work.ts.getD (evF c.dq p v).task.toNat default).low, (c.work.ts.getD (evF c.dq p v).task.toNat default).high)] = upto (c.work.ts.getD (evF c.dq p v).task.toNat default).low (c.work.ts.getD (evF c.dq p v).task.toNat default).high := by simp [unitsOf]
    refine ⟨?_, fun u => ?_, fun e he => ?_⟩
    · rw [e1, unitsOf_app, eu, List.nodup_append]
      refine ⟨hU.nd, nodup_upto _ _, fun a ha b hb hab => ?_⟩
      subst hab
      obtain ⟨a1, a2⟩ := (hU.mem a).1 ha
      obtain ⟨b1, b2⟩ := mem_upto.1 hb
      have := hfr a.toNat (by omega) (by omega)
      rw [this] at a2; cases a2
    · rw [e1, unitsOf_app, eu, List.mem_append, hU.mem, mem_upto, hdn, hmk]
      constructor
      · rintro (⟨a1, a2⟩ | ⟨b1, b2⟩)
        · refine ⟨a1, ?_⟩
          split
          · rfl
          · exact a2
        · refine ⟨by omega, by rw [if_pos (by omega)]⟩
      · rintro ⟨a1, a2⟩
        split at a2
        · right; omega
        · exact .inl ⟨a1, a2⟩
    · rcases List.mem_append.1 he with q | q
      · have := hU.evs e q; rw [q3]; exact this
      · simp at q; subst q; rw [q3]; exact q5
end Go.Pl
end
section
set_option linter.unusedSimpArgs false
set_option linter.unusedVariables false
namespace Go.Pl
@[reducible] def rv (c : Crew) (k : Nat) : Int := (k % c.dq.length : Nat) + 1 + (k / c.dq.length : Nat)
structure Run (n g : Int) (c : Crew) (ev : List Event) : Prop where
  ci : ∃ units, CInv n g c units
  ti : TInv c ev
  gd : good c
  id : c.idle ≤ c.steps
  st : c.steps = ev.length
  ui : UInv c ev
theorem Run.step {n g : Int} {c : Crew} {ev : List Event} (h : Run n g c ev) (hs : ev.length < 100000) (p v : Int) :
    (step c p v).2.2 = 0 ∧ Run n g (step c p v).1 (ev ++ [(step c p v).2.1]) := by
  obtain ⟨un, hci⟩ := h.ci
  have hst := h.st
  have hid := h.id
  obtain ⟨s1, s2⟩ := hci.s_ok (p := p) (v := v) (by omega) (by omega)
  obtain ⟨u', hI', hid'⟩ := hci.next (p := p) (v := v) (by omega) (by omega)
  exact ⟨s1, ⟨⟨u', hI'⟩, h.ti.step hci (by omega) (by omega) p v, step_good h.gd s1, by omega, by rw [s2, hst]; simp, h.ui.step hci (by omega) (by omega) p v⟩⟩
theorem Run.right {n g : Int} {c : Crew} {ev : List Event} (h : Run n g c ev) (hs : ev.length ≤ 100000) : crewRight c := by
  obtain ⟨un, hci⟩ := h.ci
  have hst := h.st
  have hid := h.id
  exact hci.right (by omega) (by omega)
theorem Run.held {n g : Int} {c : Crew} {ev : List Event} (h : Run n g c ev) : (c.over = true ↔ held c.dq = 0) ∧ held c.dq ≤ 1000000000 := by
  obtain ⟨un, hci⟩ := h.ci
  refine ⟨?_, (hci.held_small h.gd).1⟩
  rw [hci.ov, held_flat, List.length_eq_zero_iff]
def toCome (n g : Int) (ev : List Event) : Int := cntT n g - (gone ev).length
theorem Run.rem {n g : Int} {c : Crew} {ev : List Event} (h : Run n g c ev) : Pl.held c.dq ≤ toCome n g ev ∧ toCome n g ev ≤ 1999 ∧ (c.over = true ↔ toCome n g ev = 0) := by
  obtain ⟨un, hci⟩ := h.ci
  have h1 := h.ti.len
  have h2 := hci.inv.len
  obtain ⟨h3, h4⟩ := tasks_end hci h.ti
  unfold Pl.toCome
  exact ⟨by omega, by omega, by rw [h4]; omega⟩
theorem Run.all {n g : Int} {c : Crew} {ev : List Event} (h : Run n g c ev) (ho : c.over = true) :
    (unitsOf (leaves' c.work.ts ev)).Nodup ∧ (∀ u, u ∈ unitsOf (leaves' c.work.ts ev) ↔ (0 ≤ u ∧ u < n)) ∧ ((gone ev).length : Int) = cntT n g := by
  obtain ⟨un, hci⟩ := h.ci
  have hr := h.rem.2.2.1 ho
  have e := hci.ov.1 ho
  have e2 : fl c.dq = [] := by unfold fl; rw [e]; rfl
  have h3 := hci.inv
  rw [e2] at h3
  have h4 := h3.ends.2.2.1
  have h5 := h3.dl
  refine ⟨h.ui.nd, fun u => ?_, by unfold toCome at hr; omega⟩
  rw [h.ui.mem]
  constructor
  · rintro ⟨a, b⟩
    refine ⟨a, ?_⟩
    by_cases c1 : u.toNat < c.work.done.length
    · omega
    · rw [List.getD_eq_getElem?_getD, List.getElem?_eq_none (by omega)] at b; cases b
  · rintro ⟨a, b⟩
    exact ⟨a, h4 u.toNat (by omega)⟩
structure Plan where
  grain : Int
  workers : Int
  picks : List (Int × Int)
deriving Inhabited
def planRight (p : Plan) : Prop := 1 ≤ p.grain ∧ p.grain ≤ 100 ∧ 1 ≤ p.workers ∧ p.workers ≤ 8 ∧ p.picks.length ≤ 4000
instance (p : Plan) : Decidable (planRight p) := by unfold planRight; infer_instance
def ordOk (n : Int) (p : Plan) : Prop := 0 ≤ n ∧ n ≤ 1000 ∧ planRight p
instance (n : Int) (p : Plan) : Decidable (ordOk n p) := by unfold ordOk; infer_instance
def ordE (n : Int) (p : Plan) : Int := if ordOk n p then 0 else 1
end Go.Pl
end
section
set_option linter.unusedSimpArgs false
set_option linter.unusedVariables false
namespace Go.Pl
def phOk (n : Int) (p : Plan) : Prop := 1 ≤ n ∧ n ≤ 1000 ∧ planRight p
instance (n : Int) (p : Plan) : Decidable (phOk n p) := by unfold phOk; infer_instance
def leB (n : Int) (p : Plan) : Int := if phOk n p then cntT n p.grain else 0
def blkOk' (n b : Int) : Prop := 0 ≤ n ∧ n ≤ 1000 ∧ 1 ≤ b ∧ b ≤ 100
instance (n b : Int) : Decidable (blkOk' n b) := by unfold blkOk'; infer_instance
def blk (n b : Int) : Int := if blkOk' n b then (n + b - 1) / b else 0
structure Way where
  bits : Int
  block : Int
  plan : Plan
deriving Inhabited
theorem blk_up {n m b : Int} (h0 : 0 ≤ n) (h : n ≤ m) (hm : m ≤ 1000) : 0 ≤ blk n b ∧ blk n b ≤ blk m b ∧ blk m b ≤ 1000 := by
  unfold blk
  by_cases h1 : 1 ≤ b ∧ b ≤ 100
  · rw [if_pos ⟨h0, by omega, h1⟩, if_pos ⟨by omega, hm, h1⟩]
    refine ⟨Int.ediv_nonneg (by omega) (by omega), Int.ediv_le_ediv (by omega) (by omega), ?_⟩
    refine Int.le_trans (Int.ediv_le_ediv (by omega) (show m + b - 1 ≤ 1000 * b by have := Int.mul_le_mul_of_nonneg_left h1.1 (show (0 : Int) ≤ 999 by decide); omega)) ?_
    rw [Int.mul_ediv_cancel _ (by omega)]; exact Int.le_refl _
  · rw [if_neg (fun q => h1 q.2.2), if_neg (fun q => h1 q.2.2)]; omega
structure Edge where
  u : Int
  v : Int
deriving DecidableEq, Inhabited
structure Ask where
  kind : Int
  u : Int
  v : Int
deriving DecidableEq, Inhabited
structure Batch where
  kind : Int
  edges : List Edge
  asks : List Ask
deriving DecidableEq, Inhabited
def fits (n : Int) : Prop := 0 ≤ n ∧ n ≤ 65535
instance (n : Int) : Decidable (fits n) := by unfold fits; infer_instance
def okEdge (e : Edge) : Prop := fits e.u ∧ fits e.v
instance (e : Edge) : Decidable (okEdge e) := by unfold okEdge; infer_instance
def okAsk (a : Ask) : Prop := (1 ≤ a.kind ∧ a.kind ≤ 4) ∧ fits a.u ∧ fits a.v
instance (a : Ask) : Decidable (okAsk a) := by unfold okAsk; infer_instance
def batchRight (x : Batch) : Prop := ((x.kind = 1 ∨ x.kind = 2) ∧ x.asks.length = 0 ∧ x.edges.length ≤ 60 ∧ ∀ e ∈ x.edges, okEdge e) ∨ (x.kind = 3 ∧ x.edges.length = 0 ∧ x.asks.length ≤ 60 ∧ ∀ a ∈ x.asks, okAsk a)
instance (x : Batch) : Decidable (batchRight x) := by unfold batchRight; infer_instance
end Go.Pl
end
section
set_option linter.unusedSimpArgs false
set_option linter.unusedVariables false
namespace Go.Am
open Go.RowKit
theorem awp_ownC {P : Program} {C : Ctx} {c : Code} {K : Exit → LS → Prop} {s : LS} (id z sz off : Nat) {cs : List AV} (hid : lkp s.hp id = some (.row z [cs])) (ho : cs[off]? = some (.p (.seq true [])))
    (h : Awp P C c K ⟨s.sl, (id, .row z [cs.set off (.own (8 * s.nx))]) :: del ((8 * s.nx, .row sz []) :: del s.hp (8 * s.nx)) id, s.nx + 1⟩) : Awp P C c K s := by
  intro a w ⟨ρ, hs⟩
  have hU : ¬ nmPos (8 * s.nx) ≤ s.nx := by simp only [nmPos]; split <;> omega
  have hid' : s.ps.hp id = some (.row z [cs]) := hid
  obtain ⟨u, hu, hb⟩ := hs.heap id _ hid'
  have hne : id ≠ 8 * s.nx := fun e => by
    have := hs.used (8 * s.nx) hU
    rw [← e, hu] at this; cases this
  have hcell : ∃ j : Value, RepP (Own C s.ps ρ) w (.seq true []) j ∧ (∀ b cap cur e, u = .slice (some ⟨b, 0, none⟩) 1 cap ∨ u = .pointer (some ⟨b, 0, none⟩) → w.heap[b]? = some (.cells cur e (0, 0)) → cur.getD off undef = j) := by
    rcases hb with ⟨hnil, _⟩ | ⟨b, cap, cur, e, h1, h0, h2, h3, h4, h5, h6, h7⟩
    · cases hnil
    · have h8 := h7 off (.p (.seq true [])) (by simpa using ho)
      refine ⟨cur.getD off undef, h8.1.unP, fun b' cap' cur' e' q1 q2 => ?_⟩
      have : b' = b := by
        rcases h1 with rfl | ⟨rfl, _⟩ <;> rcases q1 with q | q
        · injection q with q; injection q with q; injection q with q; exact q.symm
        · cases q
        · cases q
        · injection q with q; injection q with q; injection q with q; exact q.symm
      subst this
      rw [h2] at q2; injection q2 with q2; injection q2 with q2; rw [q2]
  obtain ⟨jv, hj, hjc⟩ := hcell
  obtain ⟨ad, cap, he, hcap, hcl⟩ := seq_shape hj
  have hc : cap = 0 := by simpa using hcl rfl
  subst hc
  have hnil := hs.newNil (f := 8 * s.nx) hU sz ad
  generalize hρ' : (fun i => if i = 8 * s.nx then some (Value.slice ad 0 0) else ρ i) = ρ' at hnil
  have hρn : ρ' (8 * s.nx) = some (.slice ad 0 0) := by rw [← hρ']; simp
  have hS1 : PS.setHp s.ps.hp [(8 * s.nx, some (.row sz []))] id = some (.row z [cs]) := by
    simp only [PS.setHp, hne, if_false]; exact hid'
  let hp2 : Nat → Option Blk := fun i => if i = id then some (.row z [cs.set off (.own (8 * s.nx))]) else PS.setHp s.ps.hp [(8 * s.nx, some (.row sz []))] i
  have up : ∀ i k, hp2 i = some k → ∃ k', PS.setHp s.ps.hp [(8 * s.nx, some (.row sz []))] i = some k' := fun i k hk => by
    by_cases e : i = id
    · subst e; exact ⟨_, hS1⟩
    · simp only [hp2, e, if_false] at hk; exact ⟨k, hk⟩
  have hm : Moves (Own C ⟨s.ps.sl, PS.setHp s.ps.hp [(8 * s.nx, some (.row sz []))]⟩ ρ') w (Own C ⟨s.ps.sl, hp2⟩ ρ') w := ⟨Nat.le_refl _, fun _ _ _ => rfl, fun b _ hb => by
    rcases hb with hb | ⟨i, k, v, q1, q2, q3⟩
    · exact .inl hb
    · obtain ⟨k', hk'⟩ := up i k q1
      exact .inr ⟨i, k', v, hk', q2, q3⟩⟩
  have key : SatR C (fun i => nmPos i ≤ s.nx ∨ i = 8 * s.nx) ⟨s.ps.sl, hp2⟩ ρ' a w := by
    refine { hnil with slots := fun e x hx => (hnil.slots e x hx).mono hm (fun _ _ h => h), heap := fun i k hk => ?_, inj := fun i j k l v u' b q1 q2 q3 q4 q5 q6 => ?_, range := fun i k v b q1 q2 q3 => ?_ }
    · by_cases e : i = id
      · subst e
        simp only [hp2, if_true, Option.some.injEq] at hk
        subst hk
        obtain ⟨u2, hu2, hb2⟩ := hnil.heap i _ hS1
        refine ⟨u2, hu2, ?_⟩
        have hu3 : u2 = u := by
          rw [← hρ'] at hu2; simp only [hne, if_false] at hu2; rw [hu] at hu2; injection hu2 with hu2; exact hu2.symm
        subst hu3
        rcases hb2 with ⟨q, _⟩ | ⟨b, cap, cur, e, h1, h0, h2, h3, h4, h5, h6, h7⟩
        · cases q
        · refine .inr ⟨b, cap, cur, e, by simpa using h1, h0, h2, by simpa using h3, h4, h5, fun x hx => ?_, fun j x hx => ?_⟩
          · simp only [List.mem_singleton] at hx; subst hx
            rw [List.length_set]; exact h6 cs (by simp)
          · have hfl : ([cs.set off (.own (8 * s.nx))] : List (List AV)).flatten = cs.set off (.own (8 * s.nx)) := by simp
            rw [hfl, List.getElem?_set] at hx
            by_cases eo : off = j
            · subst eo
              rw [if_pos rfl] at hx
              split at hx
              · simp only [Option.some.injEq] at hx; subst hx
                have hg : cur.getD off undef = .slice ad 0 0 := by
                  rw [hjc b cap cur e (by rcases h1 with h1 | ⟨h1, _⟩; exact .inl (by simpa using h1); exact .inr h1) h2, he]; rfl
                rw [hg]
                exact ⟨.own _ _ _ _ hρn, rfl⟩
              · cases hx
            · rw [if_neg eo] at hx
              have := h7 j x (by simpa using hx)
              exact ⟨this.1.mono hm (fun _ _ h => h), this.2⟩
      · simp only [hp2, e, if_false] at hk
        obtain ⟨v, hv, hb⟩ := hnil.heap i k hk
        exact ⟨v, hv, hb.mono hm (fun _ _ h => h) (fun _ _ => rfl)⟩
    · obtain ⟨k', hk'⟩ := up i k q1
      obtain ⟨l', hl'⟩ := up j l q2
      exact hnil.inj i j k' l' v u' b hk' hl' q3 q4 q5 q6
    · obtain ⟨k', hk'⟩ := up i k q1
      exact hnil.range i k' v b hk' q2 q3
  have e2 : (⟨s.sl, (id, .row z [cs.set off (.own (8 * s.nx))]) :: del ((8 * s.nx, .row sz []) :: del s.hp (8 * s.nx)) id, s.nx + 1⟩ : LS).ps = ⟨s.ps.sl, hp2⟩ := by
    simp only [LS.ps, PS.mk.injEq, true_and, hp2]
    funext i
    by_cases e : i = id
    · subst e; simp [lkp]
    · simp only [lkp, lkp_del, PS.setHp, e, if_false]
      by_cases e3 : i = 8 * s.nx
      · subst e3; simp [lkp]
      · simp [lkp, lkp_del, e3]
  have fin := key.widen (U' := fun i => nmPos i ≤ s.nx + 1) (fun i hi => by
    rcases hi with hi | rfl
    · omega
    · simp only [nmPos]; split <;> omega)
  rw [← e2] at fin
  exact h a w ⟨_, fin⟩
end Go.Am
namespace Go.Am
theorem awp_ownCs {P : Program} {C : Ctx} {c : Code} {K : Exit → LS → Prop} {s : LS} (d sz off : Nat) {id z : Nat} {cs : List AV} (hd : lkp s.sl d = some (.ptr id z 0 0)) (hid : lkp s.hp id = some (.row z [cs])) (ho : cs[off]? = some (.p (.seq true [])))
    (h : Awp P C c K ⟨s.sl, (id, .row z [cs.set off (.own (8 * s.nx))]) :: del ((8 * s.nx, .row sz (lift [])) :: del s.hp (8 * s.nx)) id, s.nx + 1⟩) : Awp P C c K s := awp_ownC id z sz off hid ho h
end Go.Am
namespace Go.Am
open Go.RowKit
theorem le_of2 {s s' : LS} (π : List (Nat × Nat)) (h1 : π.all (fun q => decide (nmPos q.1 ≤ s'.nx) && (q.2 % 8 != 7 || (lkp s'.hp q.2).isNone)) = true) (h2 : π.all (fun p => π.all fun q => p.2 != q.2 || p.1 == q.1) = true) (hsl : SlLE s.hp π s.sl s'.sl) (hhp : HpLE s.hp π s'.hp) : LE s s' := by
  intro C a w ⟨ρ, h⟩
  let ρ' : Nat → Option Value := fun j => (lkq π j).bind ρ
  have hinj : ∀ j1 j2 i, (lkp s'.hp j1).isSome = true → (lkp s'.hp j2).isSome = true → lkq π j1 = some i → lkq π j2 = some i → j1 = j2 := by
    intro j1 j2 i d1 d2 e1 e2
    unfold lkq at e1 e2
    have hne : ∀ j i, lkp π j = some i → i % 8 = 7 → lkp s'.hp i = none := by
      intro j i e h7
      have := List.all_eq_true.1 h1 _ (lkp_mem π j i e)
      simp [h7] at this; exact this.2
    split at e1
    · injection e1 with e1; subst e1
      split at e2
      · injection e2 with e2; exact e2.symm
      · have := hne _ _ e2 ‹_›
        rw [this] at d1; cases d1
    split at e2
    · injection e2 with e2; subst e2
      have := hne _ _ e1 ‹_›
      rw [this] at d2; cases d2
    have := List.all_eq_true.1 (List.all_eq_true.1 h2 _ (lkp_mem π j1 i e1)) _ (lkp_mem π j2 i e2)
    simpa using this
  have hdom : ∀ j b', lkp s'.hp j = some b' → ∃ i, lkq π j = some i ∧ ∃ b, lkp s.hp i = some b ∧ LeB s.hp π b b' := fun j b' hj => hhp.get (lkp_mem _ _ _ hj)
  have hO : ∀ x, Own C s'.ps ρ' x → Own C s.ps ρ x := by
    rintro x (ho | ⟨j, k, v, g1, g2, g3⟩)
    · exact .inl ho
    · obtain ⟨i, hi, b, hb, _⟩ := hdom j k g1
      simp only [ρ', hi, Option.bind_some] at g2
      exact .inr ⟨i, b, v, hb, g2, g3⟩
  have hm : Moves (Own C s.ps ρ) w (Own C s'.ps ρ') w := ⟨Nat.le_refl _, fun _ _ _ => rfl, fun x _ => hO x⟩
  have hA : ∀ {x y : AV}, LeA s.hp π x y → ∀ {v}, RepA (Own C s.ps ρ) ρ w x v → RepA (Own C s'.ps ρ') ρ' w y v := by
    intro x y hle
    induction hle with
    | p hp => intro v hv; exact .p _ _ (hp _ _ _ (hv.unP.mono hm))
    | own hπ =>
      intro v hv
      cases hv with
      | own _ ad n c hi => exact .own _ ad n c (by simp [ρ', hπ, hi])
    | ptr hπ =>
      intro v hv
      cases hv with
      | ptr _ _ _ _ b u hi hu => exact .ptr _ _ _ _ b u (by simp [ρ', hπ, hi]) hu
    | mp hπ =>
      intro v hv
      cases hv with
      | mp _ r hi => exact .mp _ r (by simp [ρ', hπ, hi])
    | @frz i sz es hi hno =>
      intro v hv
      obtain ⟨u, hu, hb⟩ := h.heap i _ hi
      cases hv with
      | own _ ad n c hi2 =>
        rw [hu] at hi2; injection hi2 with hi2; subst hi2
        rcases hb with ⟨hnil, a', ha'⟩ | ⟨b, cap, cur, e, g1, g0, g2, g3, g4, g5, g6, g7⟩
        · have : es = [] := by simpa [lift] using hnil
          subst this
          injection ha' with q1 q2 q3; subst q1 q2 q3
          exact .p _ _ (.nilseq _ _ _ (fun h => by cases h))
        · rcases g1 with g1 | ⟨g1, _⟩
          · injection g1 with q1 q2 q3; subst q1 q3
            rw [lift_length] at q2; subst q2
            have hok : BlkOk (Own C s.ps ρ) ρ w sz (lift es) c cur := ⟨g3, g4, g5, g6, g7⟩
            have hob : oblk (.slice (some ⟨b, 0, none⟩) es.length c) = some b := by simp [oblk]; omega
            have hno' : ¬ Own C s'.ps ρ' b := by
              rintro (ho | ⟨j, k, v, e1, e2, e3⟩)
              · exact (h.range i _ _ b hi hu hob).2.1 ho
              · obtain ⟨i', hi', b', hb', _⟩ := hdom j k e1
                simp only [ρ', hi', Option.bind_some] at e2
                have := h.inj i' i b' _ v _ b hb' hi e2 hu e3 hob
                subst this
                simp only [Bool.and_eq_true] at hno
                unfold lkq at hi'
                split at hi'
                · injection hi' with hi'; subst hi'
                  have := hno.2
                  simp at this; omega
                · have := List.all_eq_true.1 hno.1 _ (lkp_mem π j i' hi')
                  simp at this
            refine .p _ _ (.seq false es sz b 0 c (fun j => cur.getD j undef) (lift_len.1 g6) (by rw [lift_length] at g3; exact g3) (fun h => by cases h) (fun j hj => ?_) (fun j y hy => (blk_get hok hy).2.1.mono hm))
            have := blk_get hok (List.getElem?_eq_getElem hj)
            refine ⟨hno', ?_, this.2.2⟩
            rw [Nat.zero_add]; exact cell_row g2 this.1
          · cases g1
    | @agg cs ds hl _ ih =>
      intro v hv
      cases hv with
      | agg _ vs g1 g2 g3 =>
        refine .agg _ _ (g1.trans hl) (fun i y hy => ?_) (fun i hi => g3 i (by rw [hl]; exact hi))
        have hlt := (List.getElem?_eq_some_iff.1 hy).1
        have hx : cs[i]? = some (cs[i]'(by rw [hl]; exact hlt)) := by simp
        exact ih i _ y hx hy (g2 i _ hx)
    | @tup cs ds hl _ ih =>
      intro v hv
      cases hv with
      | tup _ vs g1 g2 =>
        refine .tup _ _ (g1.trans hl) (fun i y hy => ?_)
        have hlt := (List.getElem?_eq_some_iff.1 hy).1
        have hx : cs[i]? = some (cs[i]'(by rw [hl]; exact hlt)) := by simp
        exact ih i _ y hx hy (g2 i _ hx)
    | @fn f cs ds hl _ ih =>
      intro v hv
      cases hv with
      | fn _ _ vs g1 g2 =>
        refine .fn _ _ _ (g1.trans hl) (fun i y hy => ?_)
        have hlt := (List.getElem?_eq_some_iff.1 hy).1
        have hx : cs[i]? = some (cs[i]'(by rw [hl]; exact hlt)) := by simp
        exact ih i _ y hx hy (g2 i _ hx)
  refine ⟨ρ', h.defers, h.size, fun d y hy => ?_, fun j b' hj => ?_, fun i j k l v u b e1 e2 e3 e4 e5 e6 => ?_, fun j hj => ?_, fun j k v b e1 e2 e3 => ?_, h.oc, h.os, h.tape, h.output, h.grows, h.frame, fun j v hj => by simp only [ρ', lkq]; rw [if_pos (by omega)]; exact h.pins j v hj⟩
  · obtain ⟨x, hx, hle⟩ := hsl.get (lkp_mem _ _ _ hy)
    exact hA hle (h.slots d x hx)
  · obtain ⟨i, hi, b, hb, hle⟩ := hdom j b' hj
    obtain ⟨v, hv, hr⟩ := h.heap i b hb
    refine ⟨v, by simp [ρ', hi, hv], ?_⟩
    cases b with
    | map len m =>
      obtain ⟨b, es, clock, rfl, g1, g4⟩ := hr
      cases b' with
      | row => exact hle.elim
      | map len' m' =>
        obtain ⟨rfl, rfl⟩ := hle
        exact ⟨b, es, clock, rfl, g1, g4.mono hm⟩
      | mapS len' S' =>
        obtain ⟨rfl, hS⟩ := hle
        exact ⟨m, ⟨b, es, clock, rfl, g1, g4.mono hm⟩, hS⟩
    | mapS len S =>
      obtain ⟨m, ⟨b, es, clock, rfl, g1, g4⟩, g5⟩ := hr
      cases b' with
      | row => exact hle.elim
      | map => exact hle.elim
      | mapS len' S' =>
        obtain ⟨rfl, hS⟩ := hle
        exact ⟨m, ⟨b, es, clock, rfl, g1, g4.mono hm⟩, fun q x hq => hS q x (g5 q x hq)⟩
    | row sz es =>
      cases b' with
      | map => exact hle.elim
      | mapS => exact hle.elim
      | row sz' es' =>
        obtain ⟨rfl, hlen, hrow⟩ := hle
        have hrl : ∀ i (cs ds : List AV), es[i]? = some cs → es'[i]? = some ds → cs.length = ds.length := fun i cs ds g1 g2 => (hrow i cs ds g1 g2).1
        rcases hr with ⟨rfl, ad, rfl⟩ | ⟨b, cap, cur, e, g1, g0, g2, g3, g4, g5, g6, g7⟩
        · have : es' = [] := List.eq_nil_of_length_eq_zero (by simpa using hlen.symm)
          exact .inl ⟨this, ad, rfl⟩
        · have hall : ∀ x, x ∈ es' → x.length = sz := by
            intro x hx
            obtain ⟨i, hi, rfl⟩ := List.getElem_of_mem hx
            have h3 : es[i]? = some (es[i]'(by rw [hlen]; exact hi)) := by simp
            rw [← hrl i _ _ h3 (List.getElem?_eq_getElem hi)]
            exact g6 _ (List.mem_of_getElem? h3)
          refine .inr ⟨b, cap, cur, e, by rw [← hlen]; exact g1, g0, g2, by rw [← hlen]; exact g3, g4, g5, hall, fun q y hy => ?_⟩
          have hql := (List.getElem?_eq_some_iff.1 hy).1
          rw [flat_len sz _ hall] at hql
          have hsz0 : 0 < sz := Nat.pos_of_ne_zero (fun h => by rw [h] at hql; simp at hql)
          have hmod := Nat.mod_lt q hsz0
          have hdiv : q / sz < es'.length := Nat.div_lt_of_lt_mul (by rw [Nat.mul_comm]; exact hql)
          have hq2 : q = q / sz * sz + q % sz := by rw [Nat.mul_comm]; exact (Nat.div_add_mod q sz).symm
          have hd' : es'[q / sz]? = some es'[q / sz] := List.getElem?_eq_getElem hdiv
          have hc' : es[q / sz]? = some (es[q / sz]'(by rw [hlen]; exact hdiv)) := by simp
          have hy2 : es'[q / sz][q % sz]? = some y := by rw [← flat_get sz _ (q / sz) (q % sz) _ hall hd' hmod, ← hq2]; exact hy
          have hlc := hrl _ _ _ hc' hd'
          have hx2 : (es[q / sz]'(by rw [hlen]; exact hdiv))[q % sz]? = some ((es[q / sz]'(by rw [hlen]; exact hdiv))[q % sz]'(by rw [hlc]; exact (List.getElem?_eq_some_iff.1 hy2).1)) := by simp
          have hxf : es.flatten[q]? = some ((es[q / sz]'(by rw [hlen]; exact hdiv))[q % sz]'(by rw [hlc]; exact (List.getElem?_eq_some_iff.1 hy2).1)) := by
            conv => lhs; rw [hq2]
            rw [flat_get sz es (q / sz) (q % sz) _ g6 hc' hmod]; exact hx2
          exact ⟨hA ((hrow _ _ _ hc' hd').2 _ _ _ hx2 hy2) (g7 q _ hxf).1, (g7 q _ hxf).2⟩
  · obtain ⟨i1, q1, b1, r1, _⟩ := hdom i k e1
    obtain ⟨i2, q2, b2, r2, _⟩ := hdom j l e2
    simp only [ρ', q1, q2, Option.bind_some] at e3 e4
    have := h.inj i1 i2 b1 b2 v u b r1 r2 e3 e4 e5 e6
    subst this
    exact hinj i j i1 (by rw [show lkp s'.hp i = some k from e1]; rfl) (by rw [show lkp s'.hp j = some l from e2]; rfl) q1 q2
  · have h7 : ¬ j % 8 = 7 := fun e => hj (by simp [nmPos, e])
    have e : lkq π j = lkp π j := by unfold lkq; rw [if_neg h7]
    cases hl : lkp π j with
    | none => simp [ρ', e, hl]
    | some i =>
      have := List.all_eq_true.1 h1 _ (lkp_mem π j i hl)
      simp at this
      exact absurd this.1 hj
  · obtain ⟨i1, q1, b1, r1, _⟩ := hdom j k e1
    simp only [ρ', q1, Option.bind_some] at e2
    exact h.range i1 b1 v b r1 e2 e3
end Go.Am
namespace Go.Am
theorem mtk {α β : Type} (f : α → β) (l : List α) (n : Nat) : (l.map f).take n = (l.take n).map f := (List.map_take ..).symm
theorem mdr {α β : Type} (f : α → β) (l : List α) (n : Nat) : (l.map f).drop n = (l.drop n).map f := (List.map_drop ..).symm
theorem map' {α β : Type} (f : α → β) (l m : List α) : l.map f ++ m.map f = (l ++ m).map f := (List.map_append ..).symm
theorem sm : type_of% (And.intro (And.intro (And.intro @argA_nil @argA_cons) (And.intro @mtk @mdr)) (And.intro @map' (And.intro @am (And.intro @aml (And.intro @lo (And.intro (@List.isEmpty_cons.{0}) (@List.isEmpty_nil.{0}))))))) := And.intro (And.intro (And.intro @argA_nil @argA_cons) (And.intro @mtk @mdr)) (And.intro @map' (And.intro @am (And.intro @aml (And.intro @lo (And.intro (@List.isEmpty_cons.{0}) (@List.isEmpty_nil.{0}))))))
theorem hbx : type_of% (And.intro (And.intro (And.intro (And.intro @decide_eq_true_eq @decide_eq_false_iff_not) (And.intro @Int.not_lt @Int.not_le)) (And.intro (And.intro @beq_iff_eq.{0} @bne_iff_ne.{0}) (And.intro @ne_eq.{1} @beq_eq_false_iff_ne.{0}))) (And.intro (And.intro (And.intro @bne_eq_false_iff_eq.{0} @Bool.not_eq_true) (And.intro @Bool.not_eq_false @Bool.not_true)) (And.intro (And.intro @Bool.not_false @Bool.not_eq_false') (And.intro @Bool.not_eq_true' @Decidable.not_not)))) :=
  And.intro (And.intro (And.intro (And.intro @decide_eq_true_eq @decide_eq_false_iff_not) (And.intro @Int.not_lt @Int.not_le)) (And.intro (And.intro @beq_iff_eq.{0} @bne_iff_ne.{0}) (And.intro @ne_eq.{1} @beq_eq_false_iff_ne.{0}))) (And.intro (And.intro (And.intro @bne_eq_false_iff_eq.{0} @Bool.not_eq_true) (And.intro @Bool.not_eq_false @Bool.not_true)) (And.intro (And.intro @Bool.not_false @Bool.not_eq_false') (And.intro @Bool.not_eq_true' @Decidable.not_not)))
theorem kp : type_of% (And.intro (And.intro (And.intro @keepL_nil @keepL_cons) (And.intro @keepM_some @keepM_none)) (And.intro (And.intro @lkp_cons @lkp_nil) (And.intro @Nat.zero_add (And.intro @argA_nil @argA_cons)))) := And.intro (And.intro (And.intro @keepL_nil @keepL_cons) (And.intro @keepM_some @keepM_none)) (And.intro (And.intro @lkp_cons @lkp_nil) (And.intro @Nat.zero_add (And.intro @argA_nil @argA_cons)))
theorem hmx : type_of% (And.intro (And.intro (And.intro @a24 @a26) (And.intro @lkp_cons @lkp_nil)) (And.intro (And.intro (@List.filter_nil.{0}) (@List.map_nil.{0, 0})) (And.intro (And.intro (@List.map_cons.{0, 0}) (@Option.map_some.{0, 0})) (And.intro (@Option.map_none.{0, 0}) @hm)))) := And.intro (And.intro (And.intro @a24 @a26) (And.intro @lkp_cons @lkp_nil)) (And.intro (And.intro (@List.filter_nil.{0}) (@List.map_nil.{0, 0})) (And.intro (And.intro (@List.map_cons.{0, 0}) (@Option.map_some.{0, 0})) (And.intro (@Option.map_none.{0, 0}) @hm)))
end Go.Am
namespace Go.Am
end Go.Am
namespace Go.Am
theorem an {a b : Prop} (h : b) (ha : a := by first | omega | (simp; done) | (unfold maxLen; omega) | (simp [maxLen]; omega) | assumption) : a ∧ b := ⟨ha, h⟩
theorem LeA.oe {hp : List (Nat × Blk)} {π : List (Nat × Nat)} {x y : PV} (h : x = y := by first | rfl | (simp only [PV.lit.injEq, Value.int.injEq, true_and]; omega) | (simp; done) | (simp; omega)) : LeA hp π (.p x) (.p y) := .p (.of_eq h)
end Go.Am
end
section
set_option linter.unusedVariables false
namespace Go.Proofs.Ytjkkjiaeeobnkaa
open Go.Am Go.Proofs
@[reducible] def picksV (c : Bool) (l : List (Int × Int)) : PV := .seq c (l.map fun q => [iV q.1, iV q.2])
@[reducible] def planC (c : Bool) (p : Pl.Plan) : List PV := [iV p.grain, iV p.workers, picksV c p.picks]
@[reducible] def wayC (c : Bool) (w : Pl.Way) : List PV := [iV w.bits, iV w.block, iV w.plan.grain, iV w.plan.workers, picksV c w.plan.picks]
@[reducible] def edgeC (e : Pl.Edge) : List PV := [iV e.u, iV e.v]
@[reducible] def askC (a : Pl.Ask) : List PV := [iV a.kind, iV a.u, iV a.v]
@[reducible] def batchC (c d : Bool) (x : Pl.Batch) : List PV := [iV x.kind, .seq c (x.edges.map edgeC), .seq d (x.asks.map askC)]
theorem wr_u8 (n : Int) : IntKind.u8.wrap n = n % 256 := by simp [IntKind.wrap, IntKind.bits, IntKind.signed]
theorem wr_u16 (n : Int) : IntKind.u16.wrap n = n % 65536 := by simp [IntKind.wrap, IntKind.bits, IntKind.signed]
theorem dx1 (t : Pl.Task) : taskC t = [iV t.low, iV t.high, iV t.up, iV t.wait] := rfl
theorem dx2 (l : List Int) : lV l = [.seq false (l.map fun n => [iV n])] := rfl
theorem dx3 (e : Pl.Event) : evC e = [iV e.worker, iV e.src, iV e.task, bV e.parted] := rfl
theorem dx4 (c : Bool) (p : Pl.Plan) : planC c p = [iV p.grain, iV p.workers, picksV c p.picks] := rfl
theorem dx5 (c : Bool) (l : List (Int × Int)) : picksV c l = .seq c (l.map fun q => [iV q.1, iV q.2]) := rfl
theorem dx6 (c : Bool) (w : Pl.Way) : wayC c w = [iV w.bits, iV w.block, iV w.plan.grain, iV w.plan.workers, picksV c w.plan.picks] := rfl
theorem dx7 (e : Pl.Edge) : edgeC e = [iV e.u, iV e.v] := rfl
theorem dx8 (a : Pl.Ask) : askC a = [iV a.kind, iV a.u, iV a.v] := rfl
theorem dx9 (c d : Bool) (x : Pl.Batch) : batchC c d x = [iV x.kind, .seq c (x.edges.map edgeC), .seq d (x.asks.map askC)] := rfl
theorem dx : type_of% (And.intro (And.intro (And.intro @dx1 @dx2) (And.intro @dx3 @dx4)) (And.intro (And.intro @dx5 @dx6) (And.intro @dx7 (And.intro @dx8 @dx9)))) := And.intro (And.intro (And.intro @dx1 @dx2) (And.intro @dx3 @dx4)) (And.intro (And.intro @dx5 @dx6) (And.intro @dx7 (And.intro @dx8 @dx9)))
end Go.Proofs.Ytjkkjiaeeobnkaa
end
section
set_option linter.unusedSimpArgs false
set_option linter.unusedVariables false
namespace Go.Pl
def firstB {α : Type} (p : α → Bool) (l : List α) : Int := match l.findIdx? p with
  | some i => i
  | none => -1
theorem firstB_at {α : Type} [Inhabited α] {p : α → Bool} {l : List α} {i : Nat} (hi : i < l.length) (h : ∀ j, j < i → p (l.getD j default) = false) (h2 : p (l.getD i default) = true) : firstB p l = i := by
  have : l.findIdx? p = some i := by
    rw [List.findIdx?_eq_some_iff_getElem]
    refine ⟨hi, ?_, fun j hj => ?_⟩
    · rw [List.getD_eq_getElem?_getD, List.getElem?_eq_getElem hi] at h2; exact h2
    · have := h j hj
      rw [List.getD_eq_getElem?_getD, List.getElem?_eq_getElem (by omega)] at this
      simpa using this
  unfold firstB; rw [this]
theorem all_of {α : Type} [Inhabited α] {p : α → Bool} {l : List α} {i : Nat} (hi : l.length ≤ i) (h : ∀ j, j < i → j < l.length → p (l.getD j default) = false) : ∀ x, x ∈ l → p x = false := fun x hx => by
  obtain ⟨k, hk, e⟩ := List.getElem_of_mem hx
  have := h k (by omega) hk
  rw [List.getD_eq_getElem?_getD, List.getElem?_eq_getElem hk] at this
  rw [← e]; exact this
theorem firstB_no {α : Type} [Inhabited α] {p : α → Bool} {l : List α} {i : Nat} (hi : l.length ≤ i) (h : ∀ j, j < i → j < l.length → p (l.getD j default) = false) : firstB p l = -1 := by
  have : l.findIdx? p = none := by
    rw [List.findIdx?_eq_none_iff]
    exact all_of hi h
  unfold firstB; rw [this]
theorem firstB_iff {α : Type} (p : α → Bool) (l : List α) : (0 ≤ firstB p l) ↔ ∃ x, x ∈ l ∧ p x = true := by
  unfold firstB
  split
  · rename_i i h
    rw [List.findIdx?_eq_some_iff_getElem] at h
    obtain ⟨hi, h1, _⟩ := h
    exact ⟨fun _ => ⟨_, List.getElem_mem hi, h1⟩, fun _ => by omega⟩
  · rename_i h
    rw [List.findIdx?_eq_none_iff] at h
    exact ⟨fun q => by omega, fun ⟨x, h1, h2⟩ => by rw [h x h1] at h2; cases h2⟩
theorem contains_eq {α : Type} (p : α → Bool) (q : α → Prop) [DecidablePred q] (l : List α) (h : ∀ x, p x = decide (¬ q x)) : decide (0 ≤ firstB p l) = decide (¬ ∀ x ∈ l, q x) := by
  refine decide_eq_decide.mpr ?_
  rw [firstB_iff]
  constructor
  · rintro ⟨x, h1, h2⟩ h3
    rw [h x, decide_eq_true_eq] at h2
    exact h2 (h3 x h1)
  · intro h3
    refine Decidable.byContradiction fun h4 => h3 fun x hx => Decidable.byContradiction fun h5 => h4 ⟨x, hx, ?_⟩
    rw [h x, decide_eq_true_eq]; exact h5
theorem br_1 {x : Batch} (h : x.kind = 1 ∨ x.kind = 2) : batchRight x ↔ (x.asks.length = 0 ∧ x.edges.length ≤ 60 ∧ ∀ e ∈ x.edges, okEdge e) := by
  unfold batchRight
  constructor
  · rintro (⟨_, q⟩ | ⟨q, _⟩)
    · exact q
    · omega
  · intro q; exact .inl ⟨h, q⟩
theorem br_3 {x : Batch} (h : x.kind = 3) : batchRight x ↔ (x.edges.length = 0 ∧ x.asks.length ≤ 60 ∧ ∀ a ∈ x.asks, okAsk a) := by
  unfold batchRight
  constructor
  · rintro (⟨q, _⟩ | ⟨_, q⟩)
    · omega
    · exact q
  · intro q; exact .inr ⟨h, q⟩
theorem br_no {x : Batch} (h1 : ¬ x.kind = 1) (h2 : ¬ x.kind = 2) (h3 : ¬ x.kind = 3) : ¬ batchRight x := by
  unfold batchRight
  rintro (⟨q, _⟩ | ⟨q, _⟩)
  · omega
  · exact h3 q
def shape (x : Batch) : Prop := 1 ≤ x.kind ∧ x.kind ≤ 3 ∧ (x.kind = 3 → x.edges.length = 0) ∧ (x.kind ≠ 3 → x.asks.length = 0) ∧ x.edges.length ≤ 60 ∧ x.asks.length ≤ 60
instance (x : Batch) : Decidable (shape x) := by unfold shape; infer_instance
theorem br_ref {x : Batch} (h : shape x) (h1 : ∀ e, e ∈ x.edges → okEdge e) (h2 : ∀ a, a ∈ x.asks → okAsk a) : batchRight x := by
  unfold shape at h
  by_cases c : x.kind = 3
  · exact (br_3 c).2 ⟨h.2.2.1 c, h.2.2.2.2.2, h2⟩
  · exact (br_1 (by omega)).2 ⟨h.2.2.2.1 c, h.2.2.2.2.1, h1⟩
theorem br_shape {x : Batch} (h : batchRight x) : shape x ∧ (∀ e, e ∈ x.edges → okEdge e) ∧ ∀ a, a ∈ x.asks → okAsk a := by
  unfold batchRight at h
  rcases h with ⟨h0, h1, h2, h3⟩ | ⟨h0, h1, h2, h3⟩
  · have : x.asks = [] := List.eq_nil_of_length_eq_zero h1
    exact ⟨⟨by omega, by omega, by omega, by omega, h2, by omega⟩, h3, fun a ha => (by rw [this] at ha; cases ha)⟩
  · have : x.edges = [] := List.eq_nil_of_length_eq_zero h1
    exact ⟨⟨by omega, by omega, by omega, by omega, by omega, h2⟩, fun a ha => (by rw [this] at ha; cases ha), h3⟩
def bdOk (n g w : Int) : Prop := cnt n g ∧ 1 ≤ w ∧ w ≤ 8
instance (n g w : Int) : Decidable (bdOk n g w) := by unfold bdOk; infer_instance
end Go.Pl
end
