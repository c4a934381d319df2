/-
  Texts joined: Am26, Am24, Am27, Am28, Am30, Am31, Am32.
-/
import Derived.Test.YthelnccjcbnjfaaF2
import Derived.ProofKit
import Derived.OpenShut
import Derived.Laws.Cover3
/-! 
  The abstract machine, twenty-sixth part: plain rules, under two names.
-/
namespace Go.Am
theorem lo : type_of% (And.intro (And.intro (And.intro (And.intro (And.intro (And.intro @beq_self_eq_true.{0} @bne_self_eq_false.{0}) (And.intro @false_imp_iff @true_imp_iff)) (And.intro (And.intro @cast0 @Int.sub_zero) (And.intro @Int.zero_add (And.intro @Int.add_zero @Bool.true_and)))) (And.intro (And.intro (And.intro @Bool.and_true @List.take_nil.{0}) (And.intro @List.take_zero.{0} (And.intro @lift_length @List.length_replicate.{0}))) (And.intro (And.intro @List.take_length.{0} @List.length_take.{0}) (And.intro @List.length_drop.{0} (And.intro @List.length_append.{0} @Nat.zero_add))))) (And.intro (And.intro (And.intro (And.intro @List.drop_zero.{0} @Int.toNat_natCast) (And.intro @Int.toNat_zero @List.length_map.{0,0})) (And.intro (And.intro @List.getElem?_map.{0,0} @Option.map_some.{0,0}) (And.intro @all1 (And.intro @decide_true @and_true)))) (And.intro (And.intro (And.intro @true_and @and_assoc) (And.intro @List.length_cons.{0} (And.intro @List.length_nil.{0} @List.map_cons.{0,0}))) (And.intro (And.intro @List.map_nil.{0,0} @Bool.false_eq_true) (And.intro @Option.getD_some.{0} (And.intro @Option.getD_none.{0} @Option.isSome_some.{0})))))) (And.intro (And.intro (And.intro (And.intro (And.intro @Option.isSome_none.{0} @forall_const.{1}) (And.intro @List.getElem?_cons_zero.{0} @List.getElem?_cons_succ.{0})) (And.intro (And.intro @List.foldl_cons.{0,0} @List.foldl_nil.{0,0}) (And.intro @List.append_nil.{0} (And.intro @List.nil_append.{0} @List.cons_append.{0})))) (And.intro (And.intro (And.intro @List.contains_cons.{0} @List.contains_nil.{0}) (And.intro @Bool.or_self (And.intro @Bool.or_false @Bool.or_true))) (And.intro (And.intro @Bool.false_or @Bool.true_or) (And.intro @undefA.eq_1 (And.intro @Bool.not_true @Bool.not_false))))) (And.intro (And.intro (And.intro (And.intro @Bool.true_eq_false @Ord.isRW.eq_1) (And.intro @Ord.isW.eq_1 (And.intro @Ord.sees.eq_1 @Option.any_some.{0}))) (And.intro (And.intro @nmPos.eq_1 @true_imp_iff) (And.intro @not_true_eq_false (And.intro @not_false_eq_true @false_and)))) (And.intro (And.intro (And.intro @true_and @and_false) (And.intro @or_false (And.intro @false_or @or_true))) (And.intro (And.intro @true_or @List.take_succ_cons.{0}) (And.intro @List.drop_succ_cons.{0} (And.intro @Nat.min_self @Option.map_none.{0,0}))))))) := (And.intro (And.intro (And.intro (And.intro (And.intro (And.intro @beq_self_eq_true.{0} @bne_self_eq_false.{0}) (And.intro @false_imp_iff @true_imp_iff)) (And.intro (And.intro @cast0 @Int.sub_zero) (And.intro @Int.zero_add (And.intro @Int.add_zero @Bool.true_and)))) (And.intro (And.intro (And.intro @Bool.and_true @List.take_nil.{0}) (And.intro @List.take_zero.{0} (And.intro @lift_length @List.length_replicate.{0}))) (And.intro (And.intro @List.take_length.{0} @List.length_take.{0}) (And.intro @List.length_drop.{0} (And.intro @List.length_append.{0} @Nat.zero_add))))) (And.intro (And.intro (And.intro (And.intro @List.drop_zero.{0} @Int.toNat_natCast) (And.intro @Int.toNat_zero @List.length_map.{0,0})) (And.intro (And.intro @List.getElem?_map.{0,0} @Option.map_some.{0,0}) (And.intro @all1 (And.intro @decide_true @and_true)))) (And.intro (And.intro (And.intro @true_and @and_assoc) (And.intro @List.length_cons.{0} (And.intro @List.length_nil.{0} @List.map_cons.{0,0}))) (And.intro (And.intro @List.map_nil.{0,0} @Bool.false_eq_true) (And.intro @Option.getD_some.{0} (And.intro @Option.getD_none.{0} @Option.isSome_some.{0})))))) (And.intro (And.intro (And.intro (And.intro (And.intro @Option.isSome_none.{0} @forall_const.{1}) (And.intro @List.getElem?_cons_zero.{0} @List.getElem?_cons_succ.{0})) (And.intro (And.intro @List.foldl_cons.{0,0} @List.foldl_nil.{0,0}) (And.intro @List.append_nil.{0} (And.intro @List.nil_append.{0} @List.cons_append.{0})))) (And.intro (And.intro (And.intro @List.contains_cons.{0} @List.contains_nil.{0}) (And.intro @Bool.or_self (And.intro @Bool.or_false @Bool.or_true))) (And.intro (And.intro @Bool.false_or @Bool.true_or) (And.intro @undefA.eq_1 (And.intro @Bool.not_true @Bool.not_false))))) (And.intro (And.intro (And.intro (And.intro @Bool.true_eq_false @Ord.isRW.eq_1) (And.intro @Ord.isW.eq_1 (And.intro @Ord.sees.eq_1 @Option.any_some.{0}))) (And.intro (And.intro @nmPos.eq_1 @true_imp_iff) (And.intro @not_true_eq_false (And.intro @not_false_eq_true @false_and)))) (And.intro (And.intro (And.intro @true_and @and_false) (And.intro @or_false (And.intro @false_or @or_true))) (And.intro (And.intro @true_or @List.take_succ_cons.{0}) (And.intro @List.drop_succ_cons.{0} (And.intro @Nat.min_self @Option.map_none.{0,0})))))))
theorem lens : type_of% (And.intro (And.intro (And.intro @List.length_append.{0} @List.length_take.{0}) (And.intro @List.length_drop.{0} @List.length_cons.{0})) (And.intro (And.intro @List.length_nil.{0} @List.length_dropLast.{0}) (And.intro @List.length_map.{0,0} (And.intro @List.length_replicate.{0} @List.length_set.{0})))) := (And.intro (And.intro (And.intro @List.length_append.{0} @List.length_take.{0}) (And.intro @List.length_drop.{0} @List.length_cons.{0})) (And.intro (And.intro @List.length_nil.{0} @List.length_dropLast.{0}) (And.intro @List.length_map.{0,0} (And.intro @List.length_replicate.{0} @List.length_set.{0}))))
end Go.Am
/-! 
  The abstract machine, twenty-fourth part: from a row's start to a call, and back.
-/
namespace Go.Am
open Go.RowKit Go.ChangeShapes Go.WideShapes

theorem flat1 {α β : Type} (g : α → β) : ∀ l : List α, (l.map fun x => [g x]).flatten = l.map g
  | [] => rfl
  | a :: l => by simp [flat1 g l]

theorem rep_row64 {w : World} {a : Addr} {len cap : Nat} {zs : List Int} {k : IntKind} (hle : len ≤ cap) (hz : len ≤ zs.length) (hc : ∀ i, i < zs.length → w.cell? (a.add i) = some (.int k (zs.getD i 0))) :
    RepP (fun _ => False) w (.seq false ((zs.take len).map fun x => [.lit (.int k x)])) (.slice (some a) len cap) := by
  by_cases h0 : len = 0
  · subst h0; exact .nilseq false _ cap (fun h => by cases h)
  · obtain ⟨b, off, spot⟩ := a
    cases spot with
    | some s =>
      have := hc 0 (by omega)
      unfold World.cell? at this
      split at this
      · simp [Addr.add] at this
      · cases this
    | none =>
      have e : ((zs.take len).map fun x => [PV.lit (.int k x)]).length = len := by simp; omega
      have hfl : ((zs.take len).map fun x => [PV.lit (.int k x)]).flatten = (zs.take len).map fun x => PV.lit (.int k x) := flat1 _ _
      have h := RepP.seq (O := fun _ => False) (w := w) false ((zs.take len).map fun x => [PV.lit (.int k x)]) 1 b off cap (fun j => .int k (zs.getD j 0)) (fun y hy => by
          obtain ⟨x, _, rfl⟩ := List.mem_map.1 hy; rfl) (by rw [e]; exact hle) (fun h => by cases h)
        (fun j hj => ⟨fun h => h, by
          rw [hfl, List.length_map, List.length_take] at hj
          have := hc j (by omega)
          rwa [Addr.add_lit] at this, rfl⟩)
        (fun j x hx => by
          rw [hfl, List.getElem?_map] at hx
          obtain ⟨y, hy, rfl⟩ := Option.map_eq_some_iff.1 hx
          rw [List.getElem?_take] at hy
          split at hy
          · have : zs.getD j 0 = y := by simp [List.getD, hy]
            rw [this]; exact .lit _
          · cases hy)
      rw [e] at h
      exact h

theorem law_calls {P : Program} {f : FuncId} {args : List PV} {vs : Array Value} {W : World} (h : PCall P f args (.lit (.bool true))) (hsz : vs.size = args.length) (hr : ∀ i x, args[i]? = some x → RepP (fun _ => False) W x (vs.getD i undef)) :
    Calls P f vs W fun e W' => e = .returned (.bool true) ∧ Below W.heap.size W W' :=
  (h _ W vs (fun _ h => h.elim) hsz hr).mono fun e W' ⟨v, he, hv, hB⟩ => by cases hv; exact ⟨he, hB⟩

section
variable {H : Type} {enc : TypeId × Value → H} {P : Program}
theorem trod_ints {t e : TypeId} {k : IntKind} {v : Value} {d : DataW H} {ps : List MemPlace} {W : World} {base b0 : Nat} {spare : Nat → Bool} {held : Bool} {r : Reach} (ht : P.underlying t = some (.slice e)) (he : P.underlying e = some (.int k)) (hc : P.cellsOf e = 1)
    (hval : Value.okWide P W r b0 t v) (h : DataW.Trod enc P W base spare held t v d ps) : ∃ l : List Int, (∀ n ∈ l, (Lit.int k n).wf = true) ∧ RepP (fun _ => False) W (.seq false (l.map fun x => [.lit (.int k x)])) v := by
  obtain ⟨a0, len, cap, rfl⟩ := okWide_slice ht hval
  obtain ⟨fuel, hf⟩ := h
  rcases open_ints ht he hc hf with ⟨hcs, hx⟩ | ⟨a, len', cap', zs, hcs, _, hle, hmax, hall, hx, hcell, hwf⟩
  · simp [Value.cells] at hcs
    obtain ⟨rfl, rfl, rfl⟩ := hcs
    exact ⟨[], fun n hn => by simp at hn, .nilseq false none 0 (fun h => by cases h)⟩
  · simp [Value.cells] at hcs
    obtain ⟨rfl, rfl, rfl⟩ := hcs
    have hz : len ≤ zs.length := by rw [hall]; split <;> omega
    exact ⟨zs.take len, fun n hn => hwf n (List.mem_of_mem_take hn), rep_row64 hle hz hcell⟩

theorem law_post {f : Func} {s : ChangeSpec} {apart fresh handsOn again : Bool} {W W' : World} {args : Array Value} {v : Value} {ds gs : List (DataW H)} {before pa pv : List MemPlace}
    (hW : DataW.Whole enc P f.params.toList s.vars apart W args.toList ds gs before)
    (hres : ∀ (b : Nat) (sp : Nat → Bool) (hd : Bool), DataW.TrodAll enc P W' b sp hd f.resultTypes.toList (v.resultList f.resultTypes.size) (s.fn H (ds ++ gs)).results [])
    (hargs : ∀ sp : Nat → Bool, (∀ p ∈ before, sp p.block = true) → DataW.TrodAll enc P W' 0 sp true f.params.toList args.toList (s.fn H (ds ++ gs)).args pa)
    (hvars : ∀ sp : Nat → Bool, (∀ p ∈ before, sp p.block = true) → DataW.TrodVars enc P W' sp s.vars (s.fn H (ds ++ gs)).vars pv)
    (hps : before = pa ++ pv) (hb : Below W.heap.size W W')
    (hok : ∀ (j : Nat) (t : TypeId) (r : Value), f.resultTypes[j]? = some t → (v.resultList f.resultTypes.size)[j]? = some r → Value.okWide P W' .any 0 t r) :
    s.post enc P f apart fresh handsOn again W args v W' := by
  have hlt : ∀ p ∈ before, p.block < W.heap.size := fun p hp => hW.lt p hp
  have hold : ∀ p ∈ before, (fun b => decide (b < W.heap.size)) p.block = true := fun p hp => by simpa using hlt p hp
  refine ⟨ds, gs, before, [], pa, pv, hW, hres _ _ _, hargs _ hold, hvars _ hold, World.keptBut_mono (fun p hp => ⟨hp, ?_⟩) (hb.frame (· ∈ before)), fun _ => ?_⟩
  · rw [hps, List.mem_append] at hp
    exact Or.inr hp
  · obtain ⟨_, _, _, _, _, hz, hn⟩ := hW
    refine ⟨hok, _, _, ([] ++ pa) ++ pv, ⟨[] ++ pa, pv, trodAll_append (hargs _ (fun _ _ => rfl)) (hres _ _ _), hvars _ (fun _ _ => rfl), rfl, ?_, ?_⟩, ?_⟩
    · intro b off hp
      have hin : MemPlace.cell b off ∈ before := by rw [hps]; simpa using hp
      rw [hb.frozen (hlt _ hin)]
      exact hz b off hin
    · intro ha
      have := hn ha
      rw [hps] at this
      simpa using this
    · intro p hp _
      rw [hps]
      simpa using hp
end
end Go.Am
/-! 
  The abstract machine, twenty-seventh part: what comes in, as data: each plain type's values, opened.
-/
namespace Go.Am
open Go.RowKit Go.ChangeShapes Go.WideShapes

/-- cells that read as data -/
def RepC (w : World) (xs : List PV) (cs : List Value) : Prop :=
  xs.length = cs.length ∧ ∀ i x, xs[i]? = some x → RepP (fun _ => False) w x (cs.getD i undef) ∧ (cs.getD i undef).oneCell' = true

/-- what a type's cells are, if they read at all -/
def Opens (P : Program) (t : TypeId) (α : Type) (ok : α → Prop) (enc : α → List PV) : Prop :=
  ∀ (H : Type) (e : TypeId × Value → H) (w : World) (base : Nat) (spare : Nat → Bool) (held : Bool) (fuel : Nat) (cs : List Value) (x : DataW H × List MemPlace),
    DataW.trod e P w base spare held fuel t cs = some x → ∃ a, ok a ∧ RepC w (enc a) cs

theorem repC_one {w : World} {v : Value} {x : PV} (h : RepP (fun _ => False) w x v) (h1 : v.oneCell' = true) : RepC w [x] [v] :=
  ⟨rfl, fun i y hy => by
    cases i with
    | zero => simp only [List.getElem?_cons_zero, Option.some.injEq] at hy; subst hy; exact ⟨h, h1⟩
    | succ i => simp at hy⟩
theorem RepC.nil {w : World} : RepC w [] [] := ⟨rfl, fun i y hy => by simp at hy⟩
theorem RepC.append {w : World} {xs ys : List PV} {cs ds : List Value} (h : RepC w xs cs) (g : RepC w ys ds) : RepC w (xs ++ ys) (cs ++ ds) := by
  refine ⟨by simp [h.1, g.1], fun i x hx => ?_⟩
  by_cases hi : i < xs.length
  · rw [List.getElem?_append_left hi] at hx
    have := h.2 i x hx
    rw [List.getD_eq_getElem?_getD, List.getElem?_append_left (by rw [← h.1]; exact hi), ← List.getD_eq_getElem?_getD]; exact this
  · rw [List.getElem?_append_right (by omega)] at hx
    have := g.2 _ x hx
    rw [List.getD_eq_getElem?_getD, List.getElem?_append_right (by rw [← h.1]; omega), ← List.getD_eq_getElem?_getD, ← h.1]; exact this

section
variable {P : Program} {t : TypeId}
theorem opens_int {k : IntKind} (ht : P.underlying t = some (.int k)) : Opens P t Int (fun n => (Lit.int k n).wf = true) (fun n => [.lit (.int k n)]) := by
  intro H e w base spare held fuel cs x h
  obtain ⟨n, rfl, _, hw⟩ := DataW.trod_int ht h
  exact ⟨n, hw, repC_one (.lit _) rfl⟩
theorem opens_bool (ht : P.underlying t = some .bool) : Opens P t Bool (fun _ => True) (fun b => [.lit (.bool b)]) := by
  intro H e w base spare held fuel cs x h
  obtain ⟨b, rfl, _⟩ := DataW.trod_bool ht h
  exact ⟨b, trivial, repC_one (.lit _) rfl⟩

theorem pick_list {α : Type} (R : Nat → α → Prop) : ∀ n, (∀ i, i < n → ∃ a, R i a) → ∃ l : List α, l.length = n ∧ ∀ i a, l[i]? = some a → R i a
  | 0, _ => ⟨[], rfl, fun i a h => by simp at h⟩
  | n + 1, h => by
    obtain ⟨l, hl, hr⟩ := pick_list R n (fun i hi => h i (by omega))
    obtain ⟨a, ha⟩ := h n (by omega)
    refine ⟨l ++ [a], by simp [hl], fun i b hb => ?_⟩
    by_cases hi : i < n
    · rw [List.getElem?_append_left (by omega)] at hb; exact hr i b hb
    · rw [List.getElem?_append_right (by omega)] at hb
      have hi' : i - l.length = 0 := by
        have := (List.getElem?_eq_some_iff.1 hb).1; simp at this; omega
      rw [hi'] at hb
      simp only [List.getElem?_cons_zero, Option.some.injEq] at hb; subst hb
      rwa [show i = n by omega]

theorem mapM_get2 {β : Type} {f : Nat → Option β} : ∀ (l : List Nat) (r : List β), l.mapM f = some r → r.length = l.length ∧ ∀ (i n : Nat), l[i]? = some n → f n = r[i]?
  | [], r, h => by simp at h; subst h; exact ⟨rfl, fun i n hn => by simp at hn⟩
  | a :: l, r, h => by
    rw [List.mapM_cons] at h
    obtain ⟨b, hb, h⟩ := Option.bind_eq_some_iff.1 h
    obtain ⟨bs, hbs, h⟩ := Option.bind_eq_some_iff.1 h
    simp only [Option.pure_def, Option.some.injEq] at h; subst h
    obtain ⟨h1, h2⟩ := mapM_get2 l bs hbs
    refine ⟨by simp [h1], fun i n hn => ?_⟩
    cases i with
    | zero => simp only [List.getElem?_cons_zero, Option.some.injEq] at hn; subst hn; simpa using hb
    | succ i => simpa using h2 i n (by simpa using hn)

theorem cells_get {w : World} {base : Nat} {a : Addr} {n : Nat} {cs : List Value} (h : w.cells? base a n = some cs) : cs.length = n ∧ ∀ i, i < n → w.cell? (a.add i) = some (cs.getD i undef) := by
  unfold World.cells? at h
  split at h
  · obtain ⟨h1, h2⟩ := mapM_get2 _ _ h
    simp only [List.length_range] at h1
    refine ⟨h1, fun i hi => ?_⟩
    rw [h2 i i (by simp [hi]), List.getD_eq_getElem?_getD, List.getElem?_eq_getElem (by omega)]; rfl
  · cases h

theorem opens_slice {el : TypeId} {α : Type} {ok : α → Prop} {enc : α → List PV} (ht : P.underlying t = some (.slice el)) (hsz : 0 < P.cellsOf el) (he : Opens P el α ok enc) :
    Opens P t (List α) (fun l => l.length ≤ maxLen ∧ ∀ a, a ∈ l → ok a) (fun l => [.seq false (l.map enc)]) := by
  intro H e w base spare held fuel cs x h
  rcases DataW.trod_slice ht h with ⟨rfl, _⟩ | ⟨a, len, cap, elems, rest, n, _, rfl, _, hb, hl, hm, hlen, hel, _, _⟩
  · exact ⟨[], ⟨by simp, fun a ha => by cases ha⟩, repC_one (.nilseq false none 0 (fun h => by cases h)) rfl⟩
  · have each : ∀ i, i < len → ∃ q : α, ok q ∧ ∃ ds, w.cells? base (a.add (i * P.cellsOf el)) (P.cellsOf el) = some ds ∧ RepC w (enc q) ds := by
      intro i hi
      have := hel i hi
      rw [List.getElem?_eq_getElem (by omega)] at this
      obtain ⟨ds, h1, h2⟩ := Option.bind_eq_some_iff.1 this
      obtain ⟨q, hq, hr⟩ := he H e w base spare held n ds _ h2
      exact ⟨q, hq, ds, h1, hr⟩
    obtain ⟨l, hll, hall⟩ := pick_list _ len each
    refine ⟨l, ⟨by omega, fun q hq => ?_⟩, repC_one ?_ rfl⟩
    · obtain ⟨i, hi⟩ := List.getElem?_of_mem hq
      exact (hall i q hi).1
    · by_cases h0 : len = 0
      · subst h0
        have : l = [] := List.eq_nil_of_length_eq_zero hll
        subst this
        exact .nilseq false _ cap (fun h => by cases h)
      · obtain ⟨b, off, spot⟩ := a
        cases spot with
        | some s =>
          obtain ⟨q, _, ds, h1, _⟩ := each 0 (by omega)
          have := (cells_get h1).2 0 hsz
          unfold World.cell? at this
          split at this
          · simp [Addr.add] at this
          · cases this
        | none =>
          have hlens : ∀ y, y ∈ l.map enc → y.length = P.cellsOf el := by
            intro y hy
            obtain ⟨q, hq, rfl⟩ := List.mem_map.1 hy
            obtain ⟨i, hi⟩ := List.getElem?_of_mem hq
            obtain ⟨_, ds, h1, h2⟩ := hall i q hi
            rw [h2.1, (cells_get h1).1]
          have e1 : (l.map enc).length = len := by simp [hll]
          have key : ∀ j x, (l.map enc).flatten[j]? = some x → ∃ v, w.cell? ⟨b, off + j, none⟩ = some v ∧ RepP (fun _ => False) w x v ∧ v.oneCell' = true := by
            intro j x hj
            have hjl := (List.getElem?_eq_some_iff.1 hj).1
            rw [flat_len _ _ hlens] at hjl
            have hmod := Nat.mod_lt j hsz
            have hdiv : j / P.cellsOf el < (l.map enc).length := Nat.div_lt_of_lt_mul (by rw [Nat.mul_comm]; exact hjl)
            have hj2 : j = j / P.cellsOf el * P.cellsOf el + j % P.cellsOf el := by rw [Nat.mul_comm]; exact (Nat.div_add_mod j _).symm
            have hd : (l.map enc)[j / P.cellsOf el]? = some (l.map enc)[j / P.cellsOf el] := List.getElem?_eq_getElem hdiv
            have hx : (l.map enc)[j / P.cellsOf el][j % P.cellsOf el]? = some x := by rw [← flat_get _ _ _ _ _ hlens hd hmod, ← hj2]; exact hj
            have hq : l[j / P.cellsOf el]? = some (l[j / P.cellsOf el]'(by simpa using hdiv)) := List.getElem?_eq_getElem _
            obtain ⟨_, ds, h1, h2⟩ := hall _ _ hq
            have hget := (cells_get h1).2 _ hmod
            rw [List.getElem_map] at hx
            have hrep := h2.2 _ x hx
            refine ⟨_, ?_, hrep.1, hrep.2⟩
            rw [← hget]
            congr 1
            simp only [Addr.add_lit, Addr.mk.injEq, true_and, and_true]
            omega
          have := RepP.seq (O := fun _ => False) (w := w) false (l.map enc) (P.cellsOf el) b off cap (fun j => (w.cell? ⟨b, off + j, none⟩).getD undef) hlens (by omega) (fun h => by cases h)
            (fun j hj => by
              obtain ⟨v, h1, _, h3⟩ := key j _ (List.getElem?_eq_getElem hj)
              simp only [h1, Option.getD_some]
              exact ⟨fun h => h, trivial, h3⟩)
            (fun j x hx => by
              obtain ⟨v, h1, h2, _⟩ := key j x hx
              simp only [h1, Option.getD_some]; exact h2)
          rw [e1] at this
          exact this

/-- types side by side -/
inductive OpensL (P : Program) : List TypeId → (α : Type) → (α → Prop) → (α → List PV) → Prop
  | nil : OpensL P [] Unit (fun _ => True) (fun _ => [])
  | cons {t : TypeId} {ts : List TypeId} {α β : Type} {ok : α → Prop} {enc : α → List PV} {ok' : β → Prop} {enc' : β → List PV} : Opens P t α ok enc → OpensL P ts β ok' enc' →
      OpensL P (t :: ts) (α × β) (fun p => ok p.1 ∧ ok' p.2) (fun p => enc p.1 ++ enc' p.2)

def offsOf (P : Program) : Nat → List TypeId → List Nat
  | _, [] => []
  | o, t :: ts => o :: offsOf P (o + P.cellsOf t) ts
def sumOf (P : Program) (ts : List TypeId) : Nat := (ts.map P.cellsOf).sum

theorem opensL_use {ts : List TypeId} {α : Type} {ok : α → Prop} {enc : α → List PV} (h : OpensL P ts α ok enc) : ∀ {H : Type} {e : TypeId × Value → H} {w : World} {base : Nat} {spare : Nat → Bool} {held : Bool} {fuel : Nat} (cs : List Value) (o : Nat),
    cs.length = o + sumOf P ts → (∀ (i : Nat) (t : TypeId) (f : Nat), ts[i]? = some t → (offsOf P o ts)[i]? = some f → ∃ x, DataW.trod e P w base spare held fuel t ((cs.drop f).take (P.cellsOf t)) = some x) → ∃ a, ok a ∧ RepC w (enc a) (cs.drop o) := by
  induction h with
  | nil =>
    intro H e w base spare held fuel cs o hl _
    refine ⟨(), trivial, ?_⟩
    have : cs.drop o = [] := List.eq_nil_of_length_eq_zero (by rw [List.length_drop]; simp [sumOf] at hl; omega)
    rw [this]; exact .nil
  | @cons t ts α β ok enc ok' enc' h1 _ ih =>
    intro H e w base spare held fuel cs o hl hall
    obtain ⟨x, hx⟩ := hall 0 t o rfl rfl
    obtain ⟨a, ha, hr⟩ := h1 H e w base spare held fuel _ _ hx
    obtain ⟨b, hb, hr'⟩ := ih (e := e) (w := w) (base := base) (spare := spare) (held := held) (fuel := fuel) cs (o + P.cellsOf t) (by simp [sumOf] at hl ⊢; omega) (fun i t' f hi hf => hall (i + 1) t' f (by simpa using hi) (by simpa [offsOf] using hf))
    refine ⟨(a, b), ⟨ha, hb⟩, ?_⟩
    have e1 : cs.drop o = (cs.drop o).take (P.cellsOf t) ++ cs.drop (o + P.cellsOf t) := by rw [← List.drop_drop, List.take_append_drop]
    rw [e1]
    exact hr.append hr'

def tiled (P : Program) (t : TypeId) (ts : List TypeId) : Bool :=
  match P.underlying t with
  | some (.struct fs) => (fs.toList.map (·.type) == ts) && (fs.toList.map (·.offset) == offsOf P 0 ts) && (P.cellsOf t == sumOf P ts)
  | some (.array n e) => (List.replicate n e == ts) && (P.cellsOf t == sumOf P ts)
  | _ => false

theorem offsOf_rep (e : TypeId) : ∀ (n o i f : Nat), (offsOf P o (List.replicate n e))[i]? = some f → f = o + i * P.cellsOf e
  | 0, o, i, f, h => by simp [offsOf] at h
  | n + 1, o, i, f, h => by
    rw [List.replicate_succ] at h
    cases i with
    | zero => simp [offsOf] at h; omega
    | succ i =>
      simp only [offsOf, List.getElem?_cons_succ] at h
      have := offsOf_rep e n _ i f h
      rw [this, Nat.add_mul]; omega

theorem opens_agg {ts : List TypeId} {α : Type} {ok : α → Prop} {enc : α → List PV} (ht : tiled P t ts = true) (h : OpensL P ts α ok enc) : Opens P t α ok enc := by
  intro H e w base spare held fuel cs x hx
  unfold tiled at ht
  split at ht
  · rename_i fs hu
    simp only [Bool.and_eq_true, beq_iff_eq] at ht
    obtain ⟨⟨h1, h2⟩, h3⟩ := ht
    obtain ⟨xs, n, _, _, hl, hxs, hall⟩ := DataW.trod_struct hu hx
    have := opensL_use h (e := e) (w := w) (base := base) (spare := spare) (held := held) (fuel := n) cs 0 (by rw [hl, h3, Nat.zero_add]) (fun i t' f hi hf => by
      rw [← h1, List.getElem?_map] at hi
      rw [← h2, List.getElem?_map] at hf
      obtain ⟨fd, hfd, rfl⟩ := Option.map_eq_some_iff.1 hi
      rw [hfd] at hf
      simp only [Option.map_some, Option.some.injEq] at hf; subst hf
      have hfd' : fs[i]? = some fd := by simpa using hfd
      have hlt := (Array.getElem?_eq_some_iff.1 hfd').1
      rw [hall i fd hfd']
      exact ⟨xs[i]'(by omega), List.getElem?_eq_getElem _⟩)
    rwa [List.drop_zero] at this
  · rename_i n el hu
    simp only [Bool.and_eq_true, beq_iff_eq] at ht
    obtain ⟨h1, h3⟩ := ht
    obtain ⟨xs, m, _, _, hl, hxs, hall⟩ := DataW.trod_array hu hx
    have := opensL_use h (e := e) (w := w) (base := base) (spare := spare) (held := held) (fuel := m) cs 0 (by rw [hl, h3, Nat.zero_add]) (fun i t' f hi hf => by
      rw [← h1] at hi hf
      have hf' := offsOf_rep el n 0 i f hf
      rw [Nat.zero_add] at hf'
      subst hf'
      have hin : i < n := by have := (List.getElem?_eq_some_iff.1 hi).1; simpa using this
      have : t' = el := by simp [hin] at hi; exact hi.symm
      subst this
      rw [hall i hin]
      exact ⟨xs[i]'(by omega), List.getElem?_eq_getElem _⟩)
    rwa [List.drop_zero] at this
  · cases ht

theorem Opens.map {α β : Type} {ok : α → Prop} {enc : α → List PV} {ok' : β → Prop} {enc' : β → List PV} (h : Opens P t α ok enc) (f : α → β) (hf : ∀ a, ok a → ok' (f a) ∧ enc' (f a) = enc a) : Opens P t β ok' enc' := by
  intro H e w base spare held fuel cs x hx
  obtain ⟨a, ha, hr⟩ := h H e w base spare held fuel cs x hx
  exact ⟨f a, (hf a ha).1, by rw [(hf a ha).2]; exact hr⟩

theorem arg_one {α : Type} {ok : α → Prop} {enc : α → PV} {H : Type} {e : TypeId × Value → H} {w : World} {base : Nat} {spare : Nat → Bool} {held : Bool} {v : Value} {d : DataW H} {ps : List MemPlace}
    (ho : Opens P t α ok (fun a => [enc a])) (hv : v.cells = #[v]) (h : DataW.Trod e P w base spare held t v d ps) : ∃ a, ok a ∧ RepP (fun _ => False) w (enc a) v := by
  obtain ⟨fuel, hf⟩ := h
  obtain ⟨a, ha, hr⟩ := ho H e w base spare held fuel _ _ hf
  refine ⟨a, ha, ?_⟩
  have := (hr.2 0 (enc a) rfl).1
  rw [hv] at this
  simpa using this
theorem arg_agg {α : Type} {ok : α → Prop} {enc : α → List PV} {H : Type} {e : TypeId × Value → H} {w : World} {base : Nat} {spare : Nat → Bool} {held : Bool} {cs : Array Value} {d : DataW H} {ps : List MemPlace}
    (ho : Opens P t α ok enc) (h : DataW.Trod e P w base spare held t (.agg cs) d ps) : ∃ a, ok a ∧ RepP (fun _ => False) w (.agg (enc a)) (.agg cs) := by
  obtain ⟨fuel, hf⟩ := h
  obtain ⟨a, ha, hr⟩ := ho H e w base spare held fuel _ _ hf
  simp only [Value.cells] at hr
  have hg : ∀ i, cs.toList.getD i undef = cs.getD i undef := fun i => by rw [List.getD_eq_getElem?_getD, Array.getD_eq_getD_getElem?]; simp
  refine ⟨a, ha, .agg _ _ (by have := hr.1; simp at this; exact this.symm) (fun i x hx => ?_) (fun i hi => ?_)⟩
  · have := (hr.2 i x hx).1; rwa [hg] at this
  · have := (hr.2 i _ (List.getElem?_eq_getElem hi)).2; rwa [hg] at this

theorem okWide_one {k : IntKind} {r : Reach} {b0 : Nat} {v : Value} {w : World} (ht : P.underlying t = some (.int k)) (h : Value.okWide P w r b0 t v) : v.cells = #[v] := by
  obtain ⟨n, rfl⟩ := okWide_int ht h; rfl
theorem okWide_one_b {r : Reach} {b0 : Nat} {v : Value} {w : World} (ht : P.underlying t = some .bool) (h : Value.okWide P w r b0 t v) : v.cells = #[v] := by
  obtain ⟨n, rfl⟩ := okWide_bool ht h; rfl
theorem okWide_one_s {el : TypeId} {r : Reach} {b0 : Nat} {v : Value} {w : World} (ht : P.underlying t = some (.slice el)) (h : Value.okWide P w r b0 t v) : v.cells = #[v] := by
  obtain ⟨a, l, c, rfl⟩ := okWide_slice ht h; rfl
def isAgg (P : Program) (t : TypeId) : Bool := match P.underlying t with | some (.struct _) | some (.array _ _) => true | _ => false
theorem okWide_agg {r : Reach} {b0 : Nat} {v : Value} {w : World} (ht : isAgg P t = true) (h : Value.okWide P w r b0 t v) : ∃ cs, v = .agg cs := by
  unfold isAgg at ht
  unfold Value.okWide at h
  split at ht
  · rename_i hu; rw [hu] at h; obtain ⟨cs, h, _⟩ := h; exact ⟨cs, h⟩
  · rename_i hu; rw [hu] at h; obtain ⟨cs, h, _⟩ := h; exact ⟨cs, h⟩
  · cases ht
end
end Go.Am
/-! 
  The abstract machine, twenty-eighth part: a region that comes to a test, whose ways meet again; states opened by cases.
-/
namespace Go.Am
open Go.RowKit
section
variable {P : Program} {C : Ctx} {K : Exit → LS → Prop} {s : LS}

theorem le_test {s s' : LS} {d : Nat} {b B : Bool} {L : List Nat} (hd : lkp s'.sl d = some (.p (.lit (.bool b)))) (hb : b = B) (hL : keepL s'.sl L = keepL s.sl L) (hh : s'.hp = s.hp) :
    LE s' ⟨(d, .p (.lit (.bool B))) :: keepL s.sl L, s.hp, s'.nx⟩ := by
  intro C a w ⟨ρ, h⟩
  subst hb
  refine ⟨ρ, ?_⟩
  have e : (⟨(d, .p (.lit (.bool b))) :: keepL s.sl L, s.hp, s'.nx⟩ : LS).ps = ⟨lkp ((d, .p (.lit (.bool b))) :: keepL s.sl L), s'.ps.hp⟩ := by simp [LS.ps, hh]
  rw [e]
  refine { h with slots := fun q x hx => ?_ }
  simp only [lkp] at hx
  split at hx
  · rename_i e1; subst e1
    simp only [Option.some.injEq] at hx; subst hx
    exact h.slots _ _ hd
  · rw [← hL] at hx
    exact h.slots q x (lkp_keepL _ _ _ _ hx)

theorem awp_test {id : Nat} {l : List Oper} {y : Code} (H : List Nat) (d : Nat) (B : Bool) (L : List Nat) (hf : inFrame C.n l.toArray = true)
    (h : ∀ gd, gd = gdOf l.toArray → ∀ k : LS → Prop, (∀ s' b, lkp s'.sl d = some (.p (.lit (.bool b))) → keepL s'.sl L = keepL s.sl L → s'.hp = s.hp → s'.nx = s.nx + l.length → b = B → k s') →
      aops P H gd (fun s' => k ⟨s'.sl, s'.hp, s'.nx + l.length⟩) 0 l s)
    (hy : Awp P C y K ⟨(d, .p (.lit (.bool B))) :: keepL s.sl L, s.hp, s.nx + l.length⟩) : Awp P C (.seq (.region id l.toArray false) y) K s :=
  awp_sr H hf fun k hk => h _ rfl k fun s' b hd hL hh hn hb => hk s' (awp_le (le_test hd hb hL hh) (by rw [hn]; exact hy))
theorem awp_testD {id : Nat} {l : List Oper} {y : Code} (H : List Nat) (D : Ord) (d : Nat) (B : Bool) (L : List Nat) (hf : inFrame C.n l.toArray = true) (hm : P.follows .mixedOrders = true) (hD : okD D l.toArray = true)
    (h : ∀ gd, gd = gdOf l.toArray → ∀ k : LS → Prop, (∀ s' b, lkp s'.sl d = some (.p (.lit (.bool b))) → keepL s'.sl L = keepL s.sl L → s'.hp = s.hp → s'.nx = s.nx + l.length → b = B → k s') →
      aopsD P H D gd (fun s' => k ⟨s'.sl, s'.hp, s'.nx + l.length⟩) 0 l s)
    (hy : Awp P C y K ⟨(d, .p (.lit (.bool B))) :: keepL s.sl L, s.hp, s.nx + l.length⟩) : Awp P C (.seq (.region id l.toArray true) y) K s :=
  awp_sd H D hf hm hD fun k hk => h _ rfl k fun s' b hd hL hh hn hb => hk s' (awp_le (le_test hd hb hL hh) (by rw [hn]; exact hy))

/-- is a slice nil? one of no element may be -/
theorem awp_nil {id d1 d2 src T : Nat} {ty1 ty2 T' : TypeId} {p1 p2 : String} {a1 a2 : Array Edge} {y : Code} {c : Bool} {es : List (List PV)} (e : TypeId) (h1 : d1 < C.n) (h2 : d2 < C.n) (hT : tEl P T = some e) (hs : lkp s.sl src = some (.p (.seq c es)))
    (h : ∀ b : Bool, (b = true → es = []) → Awp P C y K ⟨(d2, .p (.lit (.bool b))) :: (d1, .p (.seq c es)) :: s.sl, s.hp, s.nx⟩) :
    Awp P C (.seq (.region id #[⟨some d1, .move (.tmp src), ty1, p1, a1, none⟩, ⟨some d2, .binOp .eql T (.tmp d1) (.const (.slice none 0 0)) T', ty2, p2, a2, none⟩] false) y) K s := by
  refine awp_seq fun k hk => ?_
  intro a w hsat
  refine wp_region_lit ?_
  obtain ⟨ρ, hr⟩ := hsat
  have hv := hr.slots src _ hs
  obtain ⟨ad, cap, he, hcap, hcl⟩ := seq_shape hv.unP
  have hr1 := hr.put (dst := some d1) (fun d hd => by injection hd with hd; subst hd; exact h1) (x := .p (.seq c es)) (v := a.tmps.getD src undef) hv
  have key : ∀ (b : Bool), (b = true → es = []) → (∀ w, (Op.equal T (.slice ad es.length cap) (.slice none 0 0)).run P w = .ok b w) → wpList P
      #[⟨some d1, .move (.tmp src), ty1, p1, a1, none⟩, ⟨some d2, .binOp .eql T (.tmp d1) (.const (.slice none 0 0)) T', ty2, p2, a2, none⟩] (fun e a' w' => ∃ s', (match e with | .normal => k s' | e => K e s') ∧ Sat C (fun i => nmPos i ≤ s'.nx) s'.ps a' w')
      [⟨some d1, .move (.tmp src), ty1, p1, a1, none⟩, ⟨some d2, .binOp .eql T (.tmp d1) (.const (.slice none 0 0)) T', ty2, p2, a2, none⟩] a w := by
    intro b hb hrun
    unfold wpList
    rw [if_pos (by rfl)]
    refine .inl ?_
    have e1 : (execOp a.eval ⟨some d1, .move (.tmp src), ty1, p1, a1, none⟩).run P w = .ok (.value (a.tmps.getD src undef)) w := by simp [execOp, Act.eval]
    refine wp_value e1 ?_
    unfold wpList
    rw [if_pos (by rfl)]
    refine .inl ?_
    have hg : (a.put (some d1) (a.tmps.getD src undef)).tmps.getD d1 undef = .slice ad es.length cap := by
      have hlt : d1 < a.tmps.size := by rw [hr.size]; exact h1
      simp only [Act.put, Array.getD_eq_getD_getElem?, Array.getElem?_setIfInBounds_self_of_lt hlt, Option.getD_some]
      rw [← Array.getD_eq_getD_getElem?]; exact he
    have e2 : (execOp (a.put (some d1) (a.tmps.getD src undef)).eval ⟨some d2, .binOp .eql T (.tmp d1) (.const (.slice none 0 0)) T', ty2, p2, a2, none⟩).run P w = .ok (.value (.bool b)) w := by
      simp only [execOp, Act.eval, hg, eqGuard_at_slice, Sem.run_bind, Sem.run_pure, Result.andThen_ok, binOp, hrun w]
    refine wp_value e2 ?_
    unfold wpList
    have hr2 := hr1.put (dst := some d2) (fun d hd => by injection hd with hd; subst hd; exact h2) (x := .p (.lit (.bool b))) (v := .bool b) (.p _ _ (.lit _))
    refine ⟨⟨(d2, .p (.lit (.bool b))) :: (d1, .p (.seq c es)) :: s.sl, s.hp, s.nx⟩, hk _ (h b hb), ρ, ?_⟩
    have e3 : (⟨(d2, .p (.lit (.bool b))) :: (d1, .p (.seq c es)) :: s.sl, s.hp, s.nx⟩ : LS).ps = ((s.ps.upd (some d1) ⟨.p (.seq c es), []⟩).upd (some d2) ⟨.p (.lit (.bool b)), []⟩) := by
      simp only [LS.ps, PS.upd, PS.setHp, PS.mk.injEq, and_true]
      funext q
      simp only [lkp, Option.some.injEq]
      by_cases q2 : q = d2
      · simp only [q2, if_true]
      · have a2 : ¬ d2 = q := fun h => q2 h.symm
        by_cases q1 : q = d1
        · have a1 : d1 = q := q1.symm
          simp only [q2, a2, if_false]; rw [if_pos q1, if_pos a1]
        · have a1 : ¬ d1 = q := fun h => q1 h.symm
          simp only [q2, a2, q1, a1, if_false]
    rw [e3]; exact hr2
  cases ad with
  | none =>
    refine key true (fun _ => ?_) (fun w => run_equal_slice_nil w T e none es.length cap (el_run hT))
    have hv' := hv.unP
    rw [he] at hv'
    cases hes : es with
    | nil => rfl
    | cons x r => rw [hes] at hv'; cases hv'
  | some ad => exact key false (fun h => by cases h) (fun w => run_equal_slice_nil w T e (some ad) es.length cap (el_run hT))

/-- a map of which a law is known, opened: it is some map -/
theorem awp_openS {c : Code} {sl : List (Nat × AV)} {hp : List (Nat × Blk)} {nx len : Nat} {S : List Int → PV → Prop} (id : Nat) (hid : lkp hp id = some (.mapS len S))
    (h : ∀ m : List Int → Option PV, (∀ q x, m q = some x → S q x) → Awp P C c K ⟨sl, (id, .map len m) :: del hp id, nx⟩) : Awp P C c K ⟨sl, hp, nx⟩ := by
  intro a w ⟨ρ, hs⟩
  obtain ⟨v, hv, m, hm, hS⟩ := hs.heap id _ hid
  refine h m hS a w ⟨ρ, ?_⟩
  have hk : ∀ i k, lkp ((id, Blk.map len m) :: del hp id) i = some k → ∃ k', lkp hp i = some k' := by
    intro i k hi
    simp only [lkp, lkp_del] at hi
    by_cases e : i = id
    · subst e; exact ⟨_, hid⟩
    · simp only [e, if_false] at hi; exact ⟨k, hi⟩
  have hO : ∀ b, Own C (⟨sl, (id, .map len m) :: del hp id, nx⟩ : LS).ps ρ b → Own C (⟨sl, hp, nx⟩ : LS).ps ρ b := by
    rintro b (ho | ⟨i, k, u, h1, h2, h3⟩)
    · exact .inl ho
    · obtain ⟨k', hk'⟩ := hk i k h1; exact .inr ⟨i, k', u, hk', h2, h3⟩
  have hmv : Moves (Own C (⟨sl, hp, nx⟩ : LS).ps ρ) w (Own C (⟨sl, (id, .map len m) :: del hp id, nx⟩ : LS).ps ρ) w := ⟨Nat.le_refl _, fun _ _ _ => rfl, fun b _ => hO b⟩
  refine ⟨hs.defers, hs.size, fun d x hx => (hs.slots d x hx).mono hmv (fun _ _ h => h), fun i k hi => ?_, fun i j k l u u' b h1 h2 h3 h4 => ?_, hs.used, fun i k u b h1 h2 h3 => ?_, hs.oc, hs.os, hs.tape, hs.output, hs.grows, hs.frame, hs.pins⟩
  · simp only [LS.ps, lkp, lkp_del] at hi
    by_cases e : i = id
    · subst e
      simp only [if_true, Option.some.injEq] at hi; subst hi
      exact ⟨v, hv, BlkRep.mono (k := .map len m) hm hmv (fun _ _ h => h) (fun _ _ => rfl)⟩
    · simp only [e, if_false] at hi
      obtain ⟨u, hu, hr⟩ := hs.heap i k hi
      exact ⟨u, hu, hr.mono hmv (fun _ _ h => h) (fun _ _ => rfl)⟩
  · obtain ⟨k', hk'⟩ := hk i k h1
    obtain ⟨l', hl'⟩ := hk j l h2
    exact hs.inj i j k' l' u u' b hk' hl' h3 h4
  · obtain ⟨k', hk'⟩ := hk i k h1
    exact hs.range i k' u b hk' h2 h3
end
/-- a map, of which from here on only a law is known -/
theorem awp_closeS {P : Program} {C : Ctx} {K : Exit → LS → Prop} {c : Code} {sl : List (Nat × AV)} {hp : List (Nat × Blk)} {nx len : Nat} {m : List Int → Option PV} (id : Nat) (S : List Int → PV → Prop) (hid : lkp hp id = some (.map len m)) (hS : ∀ q x, m q = some x → S q x)
    (h : Awp P C c K ⟨sl, (id, .mapS len S) :: del hp id, nx⟩) : Awp P C c K ⟨sl, hp, nx⟩ := by
  intro a w ⟨ρ, hs⟩
  refine h a w ⟨ρ, ?_⟩
  have hk : ∀ i k, lkp ((id, Blk.mapS len S) :: del hp id) i = some k → ∃ k', lkp hp i = some k' := by
    intro i k hi
    simp only [lkp, lkp_del] at hi
    by_cases e : i = id
    · subst e; exact ⟨_, hid⟩
    · simp only [e, if_false] at hi; exact ⟨k, hi⟩
  have hO : ∀ b, Own C (⟨sl, (id, .mapS len S) :: del hp id, nx⟩ : LS).ps ρ b → Own C (⟨sl, hp, nx⟩ : LS).ps ρ b := by
    rintro b (ho | ⟨i, k, u, h1, h2, h3⟩)
    · exact .inl ho
    · obtain ⟨k', hk'⟩ := hk i k h1; exact .inr ⟨i, k', u, hk', h2, h3⟩
  have hmv : Moves (Own C (⟨sl, hp, nx⟩ : LS).ps ρ) w (Own C (⟨sl, (id, .mapS len S) :: del hp id, nx⟩ : LS).ps ρ) w := ⟨Nat.le_refl _, fun _ _ _ => rfl, fun b _ => hO b⟩
  refine ⟨hs.defers, hs.size, fun d x hx => (hs.slots d x hx).mono hmv (fun _ _ h => h), fun i k hi => ?_, fun i j k l u u' b h1 h2 h3 h4 => ?_, hs.used, fun i k u b h1 h2 h3 => ?_, hs.oc, hs.os, hs.tape, hs.output, hs.grows, hs.frame, hs.pins⟩
  · simp only [LS.ps, lkp, lkp_del] at hi
    by_cases e : i = id
    · subst e
      simp only [if_true, Option.some.injEq] at hi; subst hi
      obtain ⟨v, hv, hm⟩ := hs.heap i _ hid
      have hm2 := BlkRep.mono (k := .map len m) hm hmv (fun _ _ h => h) (fun _ _ => rfl)
      exact ⟨v, hv, m, hm2, hS⟩
    · simp only [e, if_false] at hi
      obtain ⟨u, hu, hr⟩ := hs.heap i k hi
      exact ⟨u, hu, hr.mono hmv (fun _ _ h => h) (fun _ _ => rfl)⟩
  · obtain ⟨k', hk'⟩ := hk i k h1
    obtain ⟨l', hl'⟩ := hk j l h2
    exact hs.inj i j k' l' u u' b hk' hl' h3 h4
  · obtain ⟨k', hk'⟩ := hk i k h1
    exact hs.range i k' u b hk' h2 h3
theorem gcase_undef (b : Bool) (run skip : Bool → Prop) (idle : Prop) : gcase (.p (.lit undef)) b run skip idle = idle := rfl
theorem gsplit {t b : Bool} {run skip : Bool → Prop} {idle : Prop} (h1 : t = b → run b) (h2 : t = (!b) → skip (!b)) : gcase (.p (.lit (.bool t))) b run skip idle := ⟨h1, h2⟩
theorem LeB.toS {hp : List (Nat × Blk)} {π : List (Nat × Nat)} {len : Nat} {m : List Int → Option PV} {S : List Int → PV → Prop} (h : ∀ q x, m q = some x → S q x) : LeB hp π (.map len m) (.mapS len S) := ⟨rfl, h⟩
theorem LeB.reflS {hp : List (Nat × Blk)} {π : List (Nat × Nat)} {len : Nat} {S : List Int → PV → Prop} : LeB hp π (.mapS len S) (.mapS len S) := ⟨rfl, fun _ _ h => h⟩
theorem LeB.reflM {hp : List (Nat × Blk)} {π : List (Nat × Nat)} {len : Nat} {m : List Int → Option PV} : LeB hp π (.map len m) (.map len m) := ⟨rfl, rfl⟩
end Go.Am
/-! 
  The abstract machine, thirtieth part: a function that is handed blocks of its caller's own, and may write them, and may hand back new ones.
-/
namespace Go.Am
open Go.RowKit

/-! ### other names -/
mutual
def AV.ren (σ : Nat → Nat) : AV → AV
  | .p x => .p x
  | .own i => .own (σ i)
  | .sub i sz lo n => .sub (σ i) sz lo n
  | .ptr i sz k o => .ptr (σ i) sz k o
  | .pp cs o => .pp cs o
  | .agg cs => .agg (AV.rens σ cs)
  | .tup cs => .tup (AV.rens σ cs)
  | .fn f cs => .fn f (AV.rens σ cs)
  | .mp i => .mp (σ i)
def AV.rens (σ : Nat → Nat) : List AV → List AV
  | [] => []
  | x :: r => x.ren σ :: AV.rens σ r
end
mutual
def AV.names : AV → List Nat
  | .p _ => []
  | .own i => [i]
  | .sub i _ _ _ => [i]
  | .ptr i _ _ _ => [i]
  | .pp _ _ => []
  | .agg cs => AV.namess cs
  | .tup cs => AV.namess cs
  | .fn _ cs => AV.namess cs
  | .mp i => [i]
def AV.namess : List AV → List Nat
  | [] => []
  | x :: r => x.names ++ AV.namess r
end
theorem rens_get (σ : Nat → Nat) : ∀ (l : List AV) (i : Nat), (AV.rens σ l)[i]? = l[i]?.map (AV.ren σ)
  | [], i => by simp [AV.rens]
  | x :: r, 0 => by simp [AV.rens]
  | x :: r, i + 1 => by simp [AV.rens, rens_get σ r i]
theorem rens_length (σ : Nat → Nat) : ∀ l : List AV, (AV.rens σ l).length = l.length
  | [] => rfl
  | x :: r => by simp [AV.rens, rens_length σ r]
theorem namess_mem : ∀ (l : List AV) (i : Nat) (x : AV), l[i]? = some x → ∀ n, n ∈ x.names → n ∈ AV.namess l
  | [], i, x, h, n, hn => by simp at h
  | y :: r, 0, x, h, n, hn => by simp at h; subst h; simp [AV.namess, hn]
  | y :: r, i + 1, x, h, n, hn => by simp only [AV.namess, List.mem_append]; exact .inr (namess_mem r i x (by simpa using h) n hn)

/-- to the new names -/
theorem RepA.ren {O : Nat → Prop} {ρ ρ' : Nat → Option Value} {w : World} (σ : Nat → Nat) {x : AV} {v : Value} (h : RepA O ρ w x v) : (∀ i, i ∈ x.names → ∀ u, ρ i = some u → ρ' (σ i) = some u) → RepA O ρ' w (x.ren σ) v := by
  induction h with
  | p x v hx => intro _; exact .p x v hx
  | own id a n c hi => intro hn; exact .own _ a n c (hn id (by simp [AV.names]) _ hi)
  | sub id lo n len cap c sz b hi hc => intro hn; exact .sub _ lo n len cap c sz b (hn id (by simp [AV.names]) _ hi) hc
  | sub0 id sz lo a c => intro _; exact .sub0 _ sz lo a c
  | ptr id sz k off b v hi hv => intro hn; exact .ptr _ sz k off b v (hn id (by simp [AV.names]) _ hi) hv
  | pp cs off b o f h4 h5 => intro _; exact .pp cs off b o f h4 h5
  | agg cs vs hs _ h1 ih =>
    intro hn
    refine .agg _ vs (by rw [rens_length]; exact hs) (fun i y hy => ?_) (fun i hi => h1 i (by rwa [rens_length] at hi))
    rw [rens_get] at hy
    obtain ⟨z, hz, rfl⟩ := Option.map_eq_some_iff.1 hy
    exact ih i z hz (fun j hj => hn j (namess_mem cs i z hz j hj))
  | tup cs vs hs _ ih =>
    intro hn
    refine .tup _ vs (by rw [rens_length]; exact hs) (fun i y hy => ?_)
    rw [rens_get] at hy
    obtain ⟨z, hz, rfl⟩ := Option.map_eq_some_iff.1 hy
    exact ih i z hz (fun j hj => hn j (namess_mem cs i z hz j hj))
  | fn f cs vs hs _ ih =>
    intro hn
    refine .fn f _ vs (by rw [rens_length]; exact hs) (fun i y hy => ?_)
    rw [rens_get] at hy
    obtain ⟨z, hz, rfl⟩ := Option.map_eq_some_iff.1 hy
    exact ih i z hz (fun j hj => hn j (namess_mem cs i z hz j hj))
  | mp id v hi => intro hn; exact .mp _ v (hn id (by simp [AV.names]) _ hi)

/-- and back -/
theorem RepA.unren {O : Nat → Prop} {ρ ρ' : Nat → Option Value} {w : World} (σ : Nat → Nat) {y : AV} {v : Value} (h : RepA O ρ' w y v) : ∀ x : AV, y = x.ren σ → (∀ i, i ∈ x.names → ∀ u, ρ' (σ i) = some u → ρ i = some u) → RepA O ρ w x v := by
  induction h with
  | p z v hx => intro x e _; cases x <;> simp [AV.ren] at e; subst e; exact .p _ v hx
  | own id a n c hi => intro x e hn; cases x <;> simp [AV.ren] at e; subst e; exact .own _ a n c (hn _ (by simp [AV.names]) _ hi)
  | sub id lo n len cap c sz b hi hc => intro x e hn; cases x <;> simp [AV.ren] at e; obtain ⟨rfl, rfl, rfl, rfl⟩ := e; exact .sub _ _ _ len cap c _ b (hn _ (by simp [AV.names]) _ hi) hc
  | sub0 id sz lo a c => intro x e _; cases x <;> simp [AV.ren] at e; obtain ⟨rfl, rfl, rfl, rfl⟩ := e; exact .sub0 _ _ _ a c
  | ptr id sz k off b v hi hv => intro x e hn; cases x <;> simp [AV.ren] at e; obtain ⟨rfl, rfl, rfl, rfl⟩ := e; exact .ptr _ _ _ _ b v (hn _ (by simp [AV.names]) _ hi) hv
  | pp cs off b o f h4 h5 => intro x e _; cases x <;> simp [AV.ren] at e; obtain ⟨rfl, rfl⟩ := e; exact .pp _ _ b o f h4 h5
  | agg cs vs hs _ h1 ih =>
    intro x e hn
    cases x <;> simp [AV.ren] at e
    subst e
    refine .agg _ vs (by rw [rens_length] at hs; exact hs) (fun i y hy => ?_) (fun i hi => h1 i (by rwa [rens_length]))
    exact ih i _ (by rw [rens_get, hy]; rfl) y rfl (fun j hj => hn j (by simp only [AV.names]; exact namess_mem _ i y hy j hj))
  | tup cs vs hs _ ih =>
    intro x e hn
    cases x <;> simp [AV.ren] at e
    subst e
    refine .tup _ vs (by rw [rens_length] at hs; exact hs) (fun i y hy => ?_)
    exact ih i _ (by rw [rens_get, hy]; rfl) y rfl (fun j hj => hn j (by simp only [AV.names]; exact namess_mem _ i y hy j hj))
  | fn f cs vs hs _ ih =>
    intro x e hn
    cases x <;> simp [AV.ren] at e
    obtain ⟨rfl, rfl⟩ := e
    refine .fn _ _ vs (by rw [rens_length] at hs; exact hs) (fun i y hy => ?_)
    exact ih i _ (by rw [rens_get, hy]; rfl) y rfl (fun j hj => hn j (by simp only [AV.names]; exact namess_mem _ i y hy j hj))
  | mp id v hi => intro x e hn; cases x <;> simp [AV.ren] at e; subst e; exact .mp _ v (hn _ (by simp [AV.names]) _ hi)

def Blk.ren (σ : Nat → Nat) : Blk → Blk
  | .row sz es => .row sz (es.map (AV.rens σ))
  | b => b
def Blk.hasOnly (N : Nat → Prop) : Blk → Prop
  | .row _ es => ∀ cs, cs ∈ es → ∀ n, n ∈ AV.namess cs → N n
  | _ => True

theorem flat_rens (σ : Nat → Nat) : ∀ es : List (List AV), (es.map (AV.rens σ)).flatten = AV.rens σ es.flatten
  | [] => rfl
  | cs :: es => by
    simp only [List.map_cons, List.flatten_cons, flat_rens σ es]
    generalize es.flatten = ds
    induction cs with
    | nil => rfl
    | cons x r ih => simp [AV.rens, ih]
theorem flat_names {N : Nat → Prop} {es : List (List AV)} (h : ∀ cs, cs ∈ es → ∀ n, n ∈ AV.namess cs → N n) {j : Nat} {x : AV} (hx : es.flatten[j]? = some x) : ∀ n, n ∈ x.names → N n := by
  intro n hn
  obtain ⟨cs, hcs, hxc⟩ := List.mem_flatten.1 (List.mem_of_getElem? hx)
  obtain ⟨i, hi⟩ := List.getElem?_of_mem hxc
  exact h cs hcs n (namess_mem cs i x hi n hn)

theorem BlkRep.ren {O : Nat → Prop} {ρ ρ' : Nat → Option Value} {w : World} (σ : Nat → Nat) {N : Nat → Prop} {k : Blk} {v : Value} (h : BlkRep O ρ w v k) (hk : k.hasOnly N) (hN : ∀ i, N i → ∀ u, ρ i = some u → ρ' (σ i) = some u) : BlkRep O ρ' w v (k.ren σ) := by
  cases k with
  | row sz es =>
    rcases h with ⟨rfl, hr⟩ | ⟨b, cap, cur, e, h1, h0, h2, h3, h4, h5, h6, h7⟩
    · exact .inl ⟨rfl, hr⟩
    · refine .inr ⟨b, cap, cur, e, by simpa using h1, h0, h2, by simpa using h3, h4, h5, fun x hx => ?_, fun j x hx => ?_⟩
      · obtain ⟨y, hy, rfl⟩ := List.mem_map.1 hx
        rw [rens_length]; exact h6 y hy
      · rw [flat_rens, rens_get] at hx
        obtain ⟨y, hy, rfl⟩ := Option.map_eq_some_iff.1 hx
        exact ⟨(h7 j y hy).1.ren σ (fun i hi => hN i (flat_names hk hy i hi)), (h7 j y hy).2⟩
  | map len m => exact h
  | mapS len S => exact h
theorem BlkRep.unren {O : Nat → Prop} {ρ ρ' : Nat → Option Value} {w : World} (σ : Nat → Nat) {N : Nat → Prop} {k : Blk} {v : Value} (h : BlkRep O ρ' w v (k.ren σ)) (hk : k.hasOnly N) (hN : ∀ i, N i → ∀ u, ρ' (σ i) = some u → ρ i = some u) : BlkRep O ρ w v k := by
  cases k with
  | row sz es =>
    rcases h with ⟨he, hr⟩ | ⟨b, cap, cur, e, h1, h0, h2, h3, h4, h5, h6, h7⟩
    · exact .inl ⟨by simpa using he, hr⟩
    · refine .inr ⟨b, cap, cur, e, by simpa using h1, h0, h2, by simpa using h3, h4, h5, fun x hx => ?_, fun j x hx => ?_⟩
      · have := h6 (AV.rens σ x) (List.mem_map.2 ⟨x, hx, rfl⟩)
        rwa [rens_length] at this
      · have := h7 j (x.ren σ) (by rw [flat_rens, rens_get, hx]; rfl)
        exact ⟨this.1.unren σ x rfl (fun i hi => hN i (flat_names hk hx i hi)), this.2⟩
  | map len m => exact h
  | mapS len S => exact h

/-! ### the contract -/
def argA : Nat → List AV → List (Nat × AV)
  | _, [] => []
  | i, x :: r => (i, x) :: argA (i + 1) r
theorem lkp_argA : ∀ (l : List AV) (i d : Nat) (x : AV), lkp (argA i l) d = some x → ∃ j, l[j]? = some x ∧ d = i + j
  | [], i, d, x, h => by simp [argA, lkp] at h
  | y :: l, i, d, x, h => by
    simp only [argA, lkp] at h
    split at h
    · rename_i e
      simp only [Option.some.injEq] at h; subst h
      exact ⟨0, rfl, by omega⟩
    · obtain ⟨j, h2, h3⟩ := lkp_argA l (i + 1) d x h
      exact ⟨j + 1, by simpa using h2, by omega⟩

/-- one result variable, as it is -/
def resW (P : Program) (s : LS) : ResultVar → AV → Prop
  | .tmp t, r => lkp s.sl t = some r
  | .cell a ty, r => ∃ v, lkp s.sl a = some v ∧ ∃ g n, tSz P ty = some (g, n) ∧ loadR s.ps v g n r
def resWs (P : Program) (s : LS) : List ResultVar → List AV → Prop
  | [], [] => True
  | v :: vs, r :: rs => resW P s v r ∧ resWs P s vs rs
  | _, _ => False
def resWR (P : Program) (s : LS) (rv : List ResultVar) (r : AV) : Prop :=
  match rv with
  | [v] => resW P s v r
  | vs => ∃ rs, r = .tup rs ∧ resWs P s vs rs
def retH (P : Program) (fn : Func) (r : AV) (hp' : List (Nat × Blk)) (e : Exit) (s : LS) : Prop :=
  match e with
  | .ret | .normal => ∃ r0, resWR P s fn.results.toList r0 ∧ LE ⟨[(0, r0)], s.hp, s.nx⟩ ⟨[(0, r)], hp', 1⟩
  | _ => False

/-- Handed xs, with blocks hp of its caller's (by names that end in 7), it answers r and leaves blocks hp' (new ones by names below 7). -/
def HCall (P : Program) (g : FuncId) (xs : List AV) (hp : List (Nat × Blk)) (r : AV) (hp' : List (Nat × Blk)) : Prop :=
  ∃ fn c, P.funcs[g]? = some fn ∧ fn.body = some c ∧ xs.length ≤ fn.ntmps ∧ ∀ C : Ctx, C.n = fn.ntmps → Awp P C c (retH P fn r hp') ⟨argA 0 xs, hp, 0⟩

theorem hcall_of_awp {P : Program} {g : FuncId} {fn : Func} {c : Code} {xs : List AV} {hp hp' : List (Nat × Blk)} {r : AV} (hf : P.funcs[g]? = some fn) (hb : fn.body = some c) (hn : xs.length ≤ fn.ntmps)
    (h : ∀ C : Ctx, C.n = fn.ntmps → Awp P C c (retH P fn r hp') ⟨argA 0 xs, hp, 0⟩) : HCall P g xs hp r hp' := ⟨fn, c, hf, hb, hn, h⟩

theorem run_resW {P : Program} {C : Ctx} {U : Nat → Prop} {s : LS} {ρ : Nat → Option Value} {a : Act} {w : World} (h : SatR C U s.ps ρ a w) {rv : ResultVar} {r : AV} (hr : resW P s rv r) :
    ∃ v, (getR a.tmps rv).run P w = .ok v w ∧ RepA (Own C s.ps ρ) ρ w r v := by
  cases rv with
  | tmp t => exact ⟨_, rfl, h.slots t r hr⟩
  | cell ad ty =>
    obtain ⟨v, hv, g, n, ht, hl⟩ := hr
    have hvr := h.slots ad v hv
    obtain ⟨z, hz, hzr⟩ := load_rep ht hl (fun id k hk => h.heap id k hk) hvr
    refine ⟨z, ?_, hzr⟩
    simp only [getR]
    generalize a.tmps.getD ad undef = y at hvr hz ⊢
    have key : ∃ ad, y = .pointer (some ad) := by
      unfold loadR at hl
      cases hvr with
      | ptr => exact ⟨_, rfl⟩
      | pp => exact ⟨_, rfl⟩
      | p => exact hl.elim
      | own => exact hl.elim
      | sub => exact hl.elim
      | sub0 => exact hl.elim
      | agg => exact hl.elim
      | tup => exact hl.elim
      | fn => exact hl.elim
      | mp => exact hl.elim
    obtain ⟨ad, rfl⟩ := key
    simpa [getR, asAddr, Instr.loadAt, Instr.sureAddr] using hz

theorem run_resultsW {P : Program} {C : Ctx} {U : Nat → Prop} {s : LS} {ρ : Nat → Option Value} {a : Act} {w : World} (h : SatR C U s.ps ρ a w) {fn : Func} {r : AV} (hr : resWR P s fn.results.toList r) :
    ∃ v, (results fn a.tmps).run P w = .ok v w ∧ RepA (Own C s.ps ρ) ρ w r v := by
  have many : ∀ (l : List ResultVar) (rs : List AV), resWs P s l rs → ∃ us : List Value, us.length = rs.length ∧ us.length = l.length ∧ (∀ i x, rs[i]? = some x → RepA (Own C s.ps ρ) ρ w x (us.getD i undef)) ∧
      (l.mapM (getR a.tmps)).run P w = .ok us w := by
    intro l
    induction l with
    | nil =>
      intro rs hrs
      cases rs with
      | nil => exact ⟨[], rfl, rfl, fun i x hx => by simp at hx, by simp⟩
      | cons => exact hrs.elim
    | cons v l ih =>
      intro rs hrs
      cases rs with
      | nil => exact hrs.elim
      | cons r rs =>
        obtain ⟨u, hu, hur⟩ := run_resW h hrs.1
        obtain ⟨us, h1, h2, h3, h4⟩ := ih rs hrs.2
        refine ⟨u :: us, by simp [h1], by simp [h2], fun i x hx => ?_, ?_⟩
        · cases i with
          | zero => simp only [List.getElem?_cons_zero, Option.some.injEq] at hx; subst hx; simpa using hur
          | succ i => simpa using h3 i x (by simpa using hx)
        · rw [List.mapM_cons, Sem.run_bind, hu]
          simp only [Result.andThen_ok, Sem.run_bind, h4, Sem.run_pure]
  have key : ∀ (l : List ResultVar) (us : List Value), fn.results.toList = l → us.length = l.length → (l.mapM (getR a.tmps)).run P w = .ok us w →
      (results fn a.tmps).run P w = .ok (if h : us.toArray.size = 1 then us.toArray[0] else .tuple us.toArray) w := by
    intro l us hl hlen hrun
    have hfn : fn.results = l.toArray := by rw [← hl]
    rw [results_eq, hfn]
    simp only [Sem.run_bind, List.mapM_toArray, Sem.run_map, hrun, Result.andThen_ok, Sem.run_pure]
  generalize hl : fn.results.toList = l at hr key
  unfold resWR at hr
  split at hr
  · rename_i v
    obtain ⟨us, h1, h2, h3, h4⟩ := many [v] [r] ⟨hr, trivial⟩
    have hk := key [v] us rfl h2 h4
    obtain ⟨u, rfl⟩ : ∃ u, us = [u] := by
      cases us with
      | nil => simp at h2
      | cons u us => cases us with | nil => exact ⟨u, rfl⟩ | cons => simp at h2
    refine ⟨u, by simpa using hk, ?_⟩
    simpa using h3 0 r rfl
  · rename_i hne
    obtain ⟨rs, rfl, hrs⟩ := hr
    obtain ⟨us, h1, h2, h3, h4⟩ := many l rs hrs
    have hk := key l us rfl h2 h4
    have hn1 : us.toArray.size ≠ 1 := by
      intro h
      have : l.length = 1 := by rw [← h2]; simpa using h
      match l, this with
      | [v], _ => exact hne v rfl
    rw [dif_neg hn1] at hk
    refine ⟨_, hk, .tup _ _ (by simpa using h1) (fun i x hx => ?_)⟩
    have := h3 i x hx
    rw [List.getD_eq_getElem?_getD] at this
    rw [Array.getD_eq_getD_getElem?, List.getElem?_toArray]; exact this

/-- the callee's names, as the caller's: 8j+7 is the j-th that is handed over -/
def sgm (σ : List Nat) (f : Nat) (i : Nat) : Nat := if i % 8 = 7 then σ.getD (i / 8) 0 else f + i
/-- blocks that the caller has, by its names -/
def HpIn (V : PS) (σ : List Nat) (f : Nat) : List (Nat × Blk) → Prop
  | [] => True
  | (i, b) :: r => V.hp (sgm σ f i) = some (b.ren (sgm σ f)) ∧ HpIn V σ f r
theorem HpIn.get {V : PS} {σ : List Nat} {f : Nat} : ∀ {hp : List (Nat × Blk)}, HpIn V σ f hp → ∀ i b, lkp hp i = some b → V.hp (sgm σ f i) = some (b.ren (sgm σ f))
  | [], _, i, b, h => by simp [lkp] at h
  | (j, c) :: r, hi, i, b, h => by
    simp only [lkp] at h
    split at h
    · rename_i e; subst e; simp only [Option.some.injEq] at h; subst h; exact hi.1
    · exact hi.2.get i b h
/-- which names a block may lead to -/
def Nm (hp : List (Nat × Blk)) (i : Nat) : Prop := (lkp hp i).isSome = true
def BlksOk (hp : List (Nat × Blk)) : List (Nat × Blk) → Prop
  | [] => True
  | (_, b) :: r => b.hasOnly (Nm hp) ∧ BlksOk hp r
theorem BlksOk.get {hp : List (Nat × Blk)} : ∀ {l : List (Nat × Blk)}, BlksOk hp l → ∀ i b, lkp l i = some b → b.hasOnly (Nm hp)
  | [], _, i, b, h => by simp [lkp] at h
  | (j, c) :: r, hi, i, b, h => by
    simp only [lkp] at h
    split at h
    · simp only [Option.some.injEq] at h; subst h; exact hi.1
    · exact hi.2.get i b h
/-- what the caller's blocks are behind the call: those in 'same' are as they were -/
def hpsOf (σ : List Nat) (f : Nat) (same : List Nat) (hp' : List (Nat × Blk)) : List (Nat × Blk) → List (Nat × Option Blk)
  | [] => (hp'.filter fun q => q.1 % 8 != 7).map fun q => (f + q.1, some (q.2.ren (sgm σ f)))
  | (i, _) :: r => if same.contains i = true then hpsOf σ f same hp' r else (sgm σ f i, (lkp hp' i).map (Blk.ren (sgm σ f))) :: hpsOf σ f same hp' r

/-- names fit: those handed over end in 7 and are other blocks; new ones are below 7 -/
def namesOk (σ : List Nat) (same : List Nat) (hp hp' : List (Nat × Blk)) : Bool :=
  hp.all (fun q => q.1 % 8 == 7 && decide (q.1 / 8 < σ.length)) && hp'.all (fun q => (q.1 % 8 == 7 && (lkp hp q.1).isSome) || decide (q.1 < 7)) && decide σ.Nodup && same.all (fun i => (lkp hp i).isSome)
def SameIn (hp hp' : List (Nat × Blk)) : List Nat → Prop
  | [] => True
  | i :: r => lkp hp' i = lkp hp i ∧ SameIn hp hp' r
end Go.Am
/-! 
  The abstract machine, thirty-first part: such a function, called.
-/
namespace Go.Am
open Go.RowKit

theorem sgm_inj {σ : List Nat} {f i j : Nat} (hd : σ.Nodup) (hi : i % 8 = 7) (hj : j % 8 = 7) (hi2 : i / 8 < σ.length) (hj2 : j / 8 < σ.length) (h : sgm σ f i = sgm σ f j) : i = j := by
  simp only [sgm, hi, hj, if_true] at h
  have e1 : σ.getD (i / 8) 0 = σ[i / 8] := by simp [hi2]
  have e2 : σ.getD (j / 8) 0 = σ[j / 8] := by simp [hj2]
  rw [e1, e2] at h
  have hp := List.pairwise_iff_getElem.1 hd
  rcases Nat.lt_trichotomy (i / 8) (j / 8) with h1 | h1 | h1
  · exact absurd h (hp _ _ hi2 hj2 h1)
  · omega
  · exact absurd h.symm (hp _ _ hj2 hi2 h1)

theorem setHp_fresh {σ : List Nat} {f : Nat} {h : Nat → Option Blk} (g : Nat × Blk → Option Blk) : ∀ (l : List (Nat × Blk)) (id : Nat), (∀ q, q ∈ l → q.1 < 7) →
    (∀ j, j < 7 → id = f + j → PS.setHp h (l.map fun q => (f + q.1, g q)) id = match l.find? (fun q => q.1 == j) with | some q => g q | none => h id) ∧
    ((∀ j, j < 7 → id ≠ f + j) → PS.setHp h (l.map fun q => (f + q.1, g q)) id = h id)
  | [], id, _ => ⟨fun j _ _ => rfl, fun _ => rfl⟩
  | q :: l, id, hl => by
    have ih := setHp_fresh (σ := σ) (f := f) (h := h) g l id (fun p hp => hl p (by simp [hp]))
    have hq := hl q (by simp)
    refine ⟨fun j hj e => ?_, fun hno => ?_⟩
    · simp only [List.map_cons, PS.setHp, List.find?_cons]
      by_cases e1 : q.1 = j
      · subst e1; simp [e]
      · have : (q.1 == j) = false := by simp [e1]
        rw [if_neg (by omega), this]
        exact ih.1 j hj e
    · simp only [List.map_cons, PS.setHp]
      rw [if_neg (hno q.1 hq)]
      exact ih.2 hno

theorem lkp_find : ∀ (l : List (Nat × Blk)) (j : Nat), lkp l j = (l.find? fun q => q.1 == j).map (·.2)
  | [], j => rfl
  | (k, x) :: l, j => by
    simp only [lkp, List.find?_cons]
    by_cases e : j = k
    · subst e; simp
    · have : (k == j) = false := by simp; exact fun h => e h.symm
      rw [if_neg e, this]; exact lkp_find l j

theorem find_filter (l : List (Nat × Blk)) (j : Nat) (hj : j % 8 ≠ 7) : (l.filter fun q => q.1 % 8 != 7).find? (fun q => q.1 == j) = l.find? fun q => q.1 == j := by
  rw [List.find?_filter]
  congr 1; funext q
  by_cases e : q.1 = j
  · subst e; simp [hj]
  · have : (q.1 == j) = false := by simp [e]
    simp [this]

section
variable {σ same : List Nat} {f : Nat} {hp hp' : List (Nat × Blk)} {h : Nat → Option Blk}

theorem hpsOf_fresh (hl : ∀ q, q ∈ hp' → q.1 % 8 ≠ 7 → q.1 < 7) : ∀ (r : List (Nat × Blk)), (∀ q, q ∈ r → ∀ j, j < 7 → sgm σ f q.1 ≠ f + j) → ∀ j, j < 7 → PS.setHp h (hpsOf σ f same hp' r) (f + j) = match lkp hp' j with | some b => some (b.ren (sgm σ f)) | none => h (f + j)
  | [], _, j, hj => by
    have := (setHp_fresh (σ := σ) (f := f) (h := h) (fun q => some (q.2.ren (sgm σ f))) (hp'.filter fun q => q.1 % 8 != 7) (f + j) (fun q hq => by
      have h1 := List.mem_filter.1 hq
      exact hl q h1.1 (by simpa using h1.2))).1 j hj rfl
    simp only [hpsOf]
    rw [this, find_filter _ _ (by omega), lkp_find]
    cases hp'.find? (fun q => q.1 == j) <;> rfl
  | (i, b) :: r, hr, j, hj => by
    have ih := hpsOf_fresh hl r (fun q hq => hr q (by simp [hq])) j hj
    simp only [hpsOf]
    split
    · exact ih
    · simp only [PS.setHp]
      rw [if_neg (fun e => hr (i, b) (by simp) j hj e.symm)]
      exact ih
theorem hpsOf_other (hl : ∀ q, q ∈ hp' → q.1 % 8 ≠ 7 → q.1 < 7) {id : Nat} (hno : ∀ j, j < 7 → id ≠ f + j) : ∀ (r : List (Nat × Blk)), (∀ q, q ∈ r → same.contains q.1 = false → sgm σ f q.1 ≠ id) → PS.setHp h (hpsOf σ f same hp' r) id = h id
  | [], _ => by
    simp only [hpsOf]
    exact (setHp_fresh (σ := σ) (f := f) (h := h) (fun q => some (q.2.ren (sgm σ f))) (hp'.filter fun q => q.1 % 8 != 7) id (fun q hq => by
      have h1 := List.mem_filter.1 hq
      exact hl q h1.1 (by simpa using h1.2))).2 hno
  | (i, b) :: r, hr => by
    have ih := hpsOf_other hl hno r (fun q hq => hr q (by simp [hq]))
    simp only [hpsOf]
    split
    · exact ih
    · rename_i e
      simp only [PS.setHp]
      rw [if_neg (fun e1 => hr (i, b) (by simp) (by simpa using e) e1.symm)]
      exact ih
theorem hpsOf_old (hl : ∀ q, q ∈ hp' → q.1 % 8 ≠ 7 → q.1 < 7) {i : Nat} (hi : same.contains i = false) (hinj : ∀ q, q ∈ hp → sgm σ f q.1 = sgm σ f i → q.1 = i) : ∀ (r : List (Nat × Blk)), (∀ q, q ∈ r → q ∈ hp) → (∃ b, (i, b) ∈ r) →
    PS.setHp h (hpsOf σ f same hp' r) (sgm σ f i) = (lkp hp' i).map (Blk.ren (sgm σ f))
  | [], _, hm => by obtain ⟨b, hb⟩ := hm; cases hb
  | (j, c) :: r, hr, hm => by
    simp only [hpsOf]
    split
    · rename_i e
      refine hpsOf_old hl hi hinj r (fun q hq => hr q (by simp [hq])) ?_
      obtain ⟨b, hb⟩ := hm
      rcases List.mem_cons.1 hb with hb | hb
      · injection hb with h1 h2; subst h1; rw [hi] at e; cases e
      · exact ⟨b, hb⟩
    · simp only [PS.setHp]
      by_cases e : sgm σ f i = sgm σ f j
      · rw [if_pos e]
        have := hinj (j, c) (hr _ (by simp)) e.symm
        simp only at this
        rw [this]
      · rw [if_neg e]
        refine hpsOf_old hl hi hinj r (fun q hq => hr q (by simp [hq])) ?_
        obtain ⟨b, hb⟩ := hm
        rcases List.mem_cons.1 hb with hb | hb
        · injection hb with h1 h2; subst h1; exact absurd rfl e
        · exact ⟨b, hb⟩
end

theorem SameIn.get {hp hp' : List (Nat × Blk)} : ∀ {l : List Nat}, SameIn hp hp' l → ∀ i, l.contains i = true → lkp hp' i = lkp hp i
  | [], _, i, h => by simp at h
  | j :: r, hs, i, h => by
    simp only [List.contains_cons, Bool.or_eq_true, beq_iff_eq] at h
    rcases h with rfl | h
    · exact hs.1
    · exact hs.2.get i h

theorem callsA_of_hcall {P : Program} {g : FuncId} {xs ys : List AV} {hp hp' : List (Nat × Blk)} {r : AV} (h : HCall P g xs hp r hp') {σ same : List Nat} {f : Nat} {V : PS} {dst : Option Nat}
    (hn : namesOk σ same hp hp' = true) (hsame : SameIn hp hp' same) (hB : BlksOk hp hp) (hB' : BlksOk hp' hp') (hX : ∀ n, n ∈ AV.namess xs → Nm hp n) (hR : ∀ n, n ∈ r.names → Nm hp' n)
    (hys : ys = AV.rens (sgm σ f) xs) (hV : HpIn V σ f hp) : CallsA P g ys f V dst ⟨r.ren (sgm σ f), hpsOf σ f same hp' hp⟩ := by
  intro C U s ρ a w vs hd hf hVs hs hsz hr
  subst hys
  obtain ⟨fn, c, hfn, hbody, hlen, hawp⟩ := h
  simp only [namesOk, Bool.and_eq_true, List.all_eq_true, decide_eq_true_eq, beq_iff_eq, Bool.or_eq_true] at hn
  obtain ⟨⟨⟨hn1, hn2⟩, hnd⟩, hn3⟩ := hn
  let τ := sgm σ f
  -- the caller's names of what is handed over
  have hkey : ∀ i b, lkp hp i = some b → i % 8 = 7 ∧ i / 8 < σ.length ∧ s.hp (τ i) = some (b.ren τ) := fun i b hi => by
    have h1 := hn1 _ (lkp_mem hp i b hi)
    exact ⟨h1.1, h1.2, hVs _ _ (hV.get i b hi)⟩
  have hmem : ∀ q, q ∈ hp → ∃ b, lkp hp q.1 = some b := fun q hq => by
    have : (hp.find? fun p => p.1 == q.1).isSome = true := by rw [List.find?_isSome]; exact ⟨q, hq, by simp⟩
    obtain ⟨z, hz⟩ := Option.isSome_iff_exists.1 this
    exact ⟨z.2, by rw [lkp_find, hz]; rfl⟩
  have hfree : ∀ j, j < 7 → s.hp (f + j) = none := fun j hj => by
    cases hh : s.hp (f + j) with
    | none => rfl
    | some k =>
      obtain ⟨v, hv, _⟩ := hs.heap _ _ hh
      rw [hs.used _ (hf j hj)] at hv; cases hv
  have hτf : ∀ i b, lkp hp i = some b → ∀ j, j < 7 → τ i ≠ f + j := fun i b hi j hj e => by
    have := (hkey i b hi).2.2; rw [e, hfree j hj] at this; cases this
  have hτinj : ∀ i b j b', lkp hp i = some b → lkp hp j = some b' → τ i = τ j → i = j := fun i b j b' hi hj e =>
    sgm_inj hnd (hkey i b hi).1 (hkey j b' hj).1 (hkey i b hi).2.1 (hkey j b' hj).2.1 e
  have hl' : ∀ q, q ∈ hp' → q.1 % 8 ≠ 7 → q.1 < 7 := fun q hq h7 => by
    rcases hn2 q hq with h1 | h1
    · exact absurd h1.1 h7
    · exact h1
  have hpin' : ∀ i b, lkp hp' i = some b → i % 8 = 7 → ∃ b0, lkp hp i = some b0 := fun i b hi h7 => by
    rcases hn2 _ (lkp_mem hp' i b hi) with h1 | h1
    · exact Option.isSome_iff_exists.1 h1.2
    · simp only at h1; omega
  have hnew' : ∀ i b, lkp hp' i = some b → i % 8 ≠ 7 → i < 7 := fun i b hi h7 => hl' _ (lkp_mem hp' i b hi) h7
  -- blocks that are handed over
  let A : Nat → Prop := fun b => ∃ i k v, lkp hp i = some k ∧ ρ (τ i) = some v ∧ oblk v = some b
  have hAown : ∀ b, A b → Own C s ρ b := fun b ⟨i, k, v, h1, h2, h3⟩ => .inr ⟨τ i, _, v, (hkey i k h1).2.2, h2, h3⟩
  have hArange : ∀ b, A b → (C.w0.heap.size ≤ b ∨ C.A b) ∧ ¬ C.Oc b ∧ b < w.heap.size := fun b ⟨i, k, v, h1, h2, h3⟩ => hs.range _ _ v b (hkey i k h1).2.2 h2 h3
  let env : Nat → Option Value := fun j => if (lkp hp (8 * j + 7)).isSome = true then ρ (τ (8 * j + 7)) else none
  let C' : Ctx := ⟨w, fun b => Own C s ρ b ∧ ¬ A b, A, fn.ntmps, env⟩
  let ρ0 : Nat → Option Value := fun i => if i % 8 = 7 then env (i / 8) else none
  have hρ0 : ∀ i b, lkp hp i = some b → ρ0 i = ρ (τ i) := fun i b hi => by
    have h7 := (hkey i b hi).1
    have e : 8 * (i / 8) + 7 = i := by omega
    simp only [ρ0, h7, if_true, env, e, hi, Option.isSome_some]
  have hρ0N : ∀ i, Nm hp i → ∀ u, ρ (τ i) = some u → ρ0 i = some u := fun i hi u hu => by
    obtain ⟨b, hb⟩ := Option.isSome_iff_exists.1 hi
    rw [hρ0 i b hb]; exact hu
  have hsub : ∀ v b, oblk v = some b → ∀ i k, lkp hp i = some k → ρ0 i = some v → A b := fun v b hb i k hi hv => ⟨i, k, v, hi, by rw [← hρ0 i k hi]; exact hv, hb⟩
  let s0 : LS := ⟨argA 0 xs, hp, 0⟩
  have hOwn0 : ∀ b, Own C' s0.ps ρ0 b → Own C s ρ b := by
    rintro b (ho | ⟨i, k, v, h1, h2, h3⟩)
    · exact ho.1
    · exact hAown b (hsub v b h3 i k h1 h2)
  have hm0 : Moves (Own C s ρ) w (Own C' s0.ps ρ0) w := ⟨Nat.le_refl _, fun _ _ _ => rfl, fun b _ => hOwn0 b⟩
  have hOc : ∀ b, C'.Oc b → b < w.heap.size := fun b hb => by
    by_cases hlt : b < w.heap.size
    · exact hlt
    · exact absurd hb.1 (hs.notOwn (by omega))
  have hsat0 : SatR C' (fun i => nmPos i ≤ 0) s0.ps ρ0 ⟨vs ++ Array.replicate (fn.ntmps - vs.size) undef, []⟩ w := by
    refine ⟨rfl, by simp only [Array.size_append, Array.size_replicate, C']; rw [hsz, rens_length]; omega, fun d x hx => ?_, fun i k hi => ?_, fun i j k l v u b h1 h2 h3 h4 h5 h6 => ?_, fun i hi => ?_, fun i k v b h1 h2 h3 => ?_, hOc, rfl, rfl, rfl, Nat.le_refl _, fun _ _ _ => rfl, fun j v hj => ?_⟩
    · obtain ⟨j, hj, rfl⟩ := lkp_argA xs 0 d x hx
      have hjl := (List.getElem?_eq_some_iff.1 hj).1
      have h1 := hr j (x.ren τ) (by rw [rens_get, hj]; rfl)
      rw [rens_length] at hsz
      rw [Nat.zero_add, Array.getD_eq_getD_getElem?, Array.getElem?_append_left (by omega), ← Array.getD_eq_getD_getElem?]
      exact (h1.unren τ x rfl (fun i hi u hu => hρ0N i (hX i (namess_mem xs j x hj i hi)) u hu)).mono hm0 (fun _ _ h => h)
    · obtain ⟨h7, _, hsi⟩ := hkey i k hi
      obtain ⟨v, hv, hb⟩ := hs.heap _ _ hsi
      exact ⟨v, by rw [hρ0 i k hi]; exact hv, (hb.unren τ (hB.get i k hi) (fun j hj u hu => hρ0N j hj u hu)).mono hm0 (fun _ _ h => h) (fun _ _ => rfl)⟩
    · have e1 := (hkey i k h1).2.2
      have e2 := (hkey j l h2).2.2
      rw [hρ0 i k h1] at h3
      rw [hρ0 j l h2] at h4
      exact hτinj i k j l h1 h2 (hs.inj _ _ _ _ v u b e1 e2 h3 h4 h5 h6)
    · have : ¬ i % 8 = 7 := fun e => hi (by simp [nmPos, e])
      simp only [ρ0, this, if_false]
    · have hA := hsub v b h3 i k h1 h2
      exact ⟨.inr hA, fun ho => ho.2 hA, (hArange b hA).2.2⟩
    · simp only [ρ0]; rw [if_pos (by omega)]; rw [show (8 * j + 7) / 8 = j by omega]; exact hj
  refine calls_of_wp hfn hbody (wp_mono (hawp C' rfl _ w ⟨ρ0, hsat0⟩) fun e a' w' ⟨s1, hk, hsat1⟩ => ?_)
  have fin : (∃ r0, resWR P s1 fn.results.toList r0 ∧ LE ⟨[(0, r0)], s1.hp, s1.nx⟩ ⟨[(0, r)], hp', 1⟩) → bodyPost P fn (fun e w' => ∃ v, e = .returned v ∧ Sat C (fun i => U i ∨ (f ≤ i ∧ i < f + 7)) (s.upd dst ⟨r.ren τ, hpsOf σ f same hp' hp⟩) (a.put dst v) w') .ret a' w' := by
    rintro ⟨r0, hres, hle⟩
    obtain ⟨ρ1, hr1⟩ := hsat1
    obtain ⟨v, hv, hvr0⟩ := run_resultsW hr1 hres
    refine ⟨hr1.defers, v, hv, v, rfl, ?_⟩
    let C2 : Ctx := ⟨w, fun b => Own C s ρ b ∧ ¬ A b, A, 1, env⟩
    have hO12 : ∀ sl : List (Nat × AV), Own C2 (⟨sl, s1.hp, s1.nx⟩ : LS).ps ρ1 = Own C' s1.ps ρ1 := fun _ => rfl
    have hone : Sat C2 (fun i => nmPos i ≤ s1.nx) (⟨[(0, r0)], s1.hp, s1.nx⟩ : LS).ps ⟨#[v], []⟩ w' := by
      refine ⟨ρ1, rfl, rfl, fun d x hx => ?_, hr1.heap, hr1.inj, hr1.used, hr1.range, hr1.oc, hr1.os, hr1.tape, hr1.output, hr1.grows, hr1.frame, hr1.pins⟩
      simp only [LS.ps, lkp] at hx
      split at hx
      · rename_i e; subst e
        simp only [Option.some.injEq] at hx; subst hx
        exact hvr0
      · cases hx
    obtain ⟨ρ2, h2⟩ := hle C2 ⟨#[v], []⟩ w' hone
    have hvr : RepA (Own C2 (⟨[(0, r)], hp', 1⟩ : LS).ps ρ2) ρ2 w' r v := h2.slots 0 r rfl
    let s2 : LS := ⟨[(0, r)], hp', 1⟩
    -- names behind the call
    let ρ3 : Nat → Option Value := fun i => if f ≤ i ∧ i < f + 7 then ρ2 (i - f) else ρ i
    have hρ3old : ∀ i, (∃ v, ρ i = some v) → ρ3 i = ρ i := fun i ⟨v, hv⟩ => by
      have : ¬ (f ≤ i ∧ i < f + 7) := fun ⟨e1, e2⟩ => by
        have := hs.used (f + (i - f)) (hf (i - f) (by omega))
        rw [show f + (i - f) = i by omega, hv] at this; cases this
      simp only [ρ3, this, if_false]
    have hρ3ext : ∀ i v, ρ i = some v → ρ3 i = some v := fun i v hv => by rw [hρ3old i ⟨v, hv⟩]; exact hv
    have hpin2 : ∀ i b, lkp hp i = some b → ρ2 i = ρ (τ i) := fun i b hi => by
      obtain ⟨h7, _, hsi⟩ := hkey i b hi
      obtain ⟨u, hu, _⟩ := hs.heap _ _ hsi
      have e : 8 * (i / 8) + 7 = i := by omega
      have := h2.pins (i / 8) u (by simp only [C2, env, e, hi, Option.isSome_some, if_true]; exact hu)
      rw [e] at this
      rw [this, hu]
    have hρ3 : ∀ i, Nm s2.hp i → ∀ u, ρ2 i = some u → ρ3 (τ i) = some u := fun i hi u hu => by
      obtain ⟨b, hb⟩ := Option.isSome_iff_exists.1 hi
      by_cases h7 : i % 8 = 7
      · obtain ⟨b0, hb0⟩ := hpin' i b hb h7
        rw [hpin2 i b0 hb0] at hu
        exact hρ3ext _ _ hu
      · have hlt := hnew' i b hb h7
        have e : τ i = f + i := by simp [τ, sgm, h7]
        simp only [ρ3, e]
        rw [if_pos (by omega), show f + i - f = i by omega]; exact hu
    -- the state behind the call
    let s3 : PS := s.upd dst ⟨r.ren τ, hpsOf σ f same s2.hp hp⟩
    have hp3old : ∀ i b, lkp hp i = some b → s3.hp (τ i) = (lkp s2.hp i).map (Blk.ren τ) := fun i b hi => by
      have hinj : ∀ q, q ∈ hp → sgm σ f q.1 = sgm σ f i → q.1 = i := fun q hq e => by
        obtain ⟨b', hb'⟩ := hmem q hq
        exact hτinj q.1 b' i b hb' hi e
      cases hc : same.contains i with
      | false => exact hpsOf_old hl' hc hinj hp (fun _ h => h) ⟨b, lkp_mem hp i b hi⟩
      | true =>
        have := hpsOf_other (σ := σ) (f := f) (same := same) (hp' := s2.hp) (h := s.hp) hl' (id := τ i) (fun j hj => hτf i b hi j hj) hp (fun q hq hqs e => by
          have := hinj q hq e
          rw [this, hc] at hqs; cases hqs)
        show PS.setHp s.hp _ (τ i) = _
        rw [this, hsame.get i hc, hi, (hkey i b hi).2.2]; rfl
    have hp3new : ∀ j, j < 7 → s3.hp (f + j) = (lkp s2.hp j).map (Blk.ren τ) := fun j hj => by
      have := hpsOf_fresh (σ := σ) (f := f) (same := same) (hp' := s2.hp) (h := s.hp) hl' hp (fun q hq j hj => by
        obtain ⟨b, hb⟩ := hmem q hq
        exact hτf q.1 b hb j hj) j hj
      show PS.setHp s.hp _ (f + j) = _
      rw [this]
      cases lkp s2.hp j with
      | none => exact hfree j hj
      | some b => rfl
    have hp3oth : ∀ id, (∀ j, j < 7 → id ≠ f + j) → (∀ i b, lkp hp i = some b → τ i ≠ id) → s3.hp id = s.hp id := fun id h1 h2' =>
      hpsOf_other hl' h1 hp (fun q hq _ => by
        obtain ⟨b, hb⟩ := hmem q hq
        exact h2' q.1 b hb)
    -- whose is a block behind the call?
    have hcase : ∀ id k u, s3.hp id = some k → ρ3 id = some u → (∃ i b, lkp s2.hp i = some b ∧ k = b.ren τ ∧ ρ2 i = some u ∧ id = τ i) ∨ (s.hp id = some k ∧ ρ id = some u ∧ ∀ i b, lkp hp i = some b → τ i ≠ id) := fun id k u hk hu => by
      by_cases hnew : ∃ j, j < 7 ∧ id = f + j
      · obtain ⟨j, hj, rfl⟩ := hnew
        rw [hp3new j hj] at hk
        obtain ⟨b, hb, rfl⟩ := Option.map_eq_some_iff.1 hk
        simp only [ρ3] at hu
        rw [if_pos (by omega), show f + j - f = j by omega] at hu
        exact .inl ⟨j, b, hb, rfl, hu, by simp only [τ, sgm]; rw [if_neg (by omega)]⟩
      · have hno : ∀ j, j < 7 → id ≠ f + j := fun j hj e => hnew ⟨j, hj, e⟩
        have hu' : ρ id = some u := by
          have : ¬ (f ≤ id ∧ id < f + 7) := fun ⟨e1, e2⟩ => hno (id - f) (by omega) (by omega)
          simpa only [ρ3, this, if_false] using hu
        by_cases hold : ∃ i b, lkp hp i = some b ∧ τ i = id
        · obtain ⟨i, b, hi, rfl⟩ := hold
          rw [hp3old i b hi] at hk
          obtain ⟨b', hb', rfl⟩ := Option.map_eq_some_iff.1 hk
          exact .inl ⟨i, b', hb', rfl, by rw [hpin2 i b hi]; exact hu', rfl⟩
        · have hno2 : ∀ i b, lkp hp i = some b → τ i ≠ id := fun i b hi e => hold ⟨i, b, hi, e⟩
          rw [hp3oth id hno hno2] at hk
          exact .inr ⟨hk, hu', hno2⟩
    have hrange2 : ∀ i b u x, lkp s2.hp i = some b → ρ2 i = some u → oblk u = some x → (w.heap.size ≤ x ∨ A x) ∧ ¬ (Own C s ρ x ∧ ¬ A x) ∧ x < w'.heap.size := fun i b u x h1 h2' h3 => h2.range i b u x h1 h2' h3
    have hOwn3 : ∀ x, Own C s3 ρ3 x → x < w.heap.size → Own C s ρ x := by
      rintro x (ho | ⟨id, k, u, h1, h2', h3⟩) hlt
      · exact .inl ho
      · rcases hcase id k u h1 h2' with ⟨i, b, g1, _, g2, _⟩ | ⟨g1, g2, _⟩
        · rcases (hrange2 i b u x g1 g2 h3).1 with h | h
          · omega
          · exact hAown x h
        · exact .inr ⟨id, k, u, g1, g2, h3⟩
    have hOwn32 : ∀ x, Own C s3 ρ3 x → Own C2 s2.ps ρ2 x := by
      rintro x (ho | ⟨id, k, u, h1, h2', h3⟩)
      · refine .inl ⟨.inl ho, fun hA => (hArange x hA).2.1 ho⟩
      · rcases hcase id k u h1 h2' with ⟨i, b, g1, _, g2, _⟩ | ⟨g1, g2, g3⟩
        · exact .inr ⟨i, b, u, g1, g2, h3⟩
        · refine .inl ⟨.inr ⟨id, k, u, g1, g2, h3⟩, fun ⟨i, b, v', q1, q2, q3⟩ => ?_⟩
          exact g3 i b q1 (hs.inj (τ i) id _ _ v' u x (hkey i b q1).2.2 g1 q2 g2 q3 h3)
    have hm3 : Moves (Own C s ρ) w (Own C s3 ρ3) w' := ⟨h2.grows, fun x hx hno => h2.frame x hx (fun hA => hno (hAown x hA)), fun x hx ho => hOwn3 x ho hx⟩
    have hm32 : Moves (Own C2 s2.ps ρ2) w' (Own C s3 ρ3) w' := ⟨Nat.le_refl _, fun _ _ _ => rfl, fun x _ ho => hOwn32 x ho⟩
    have hblk : ∀ x, x < w.heap.size → ¬ A x → w'.heap[x]? = w.heap[x]? := fun x hx hA => h2.frame x hx hA
    have hdisj : ∀ id k u, s.hp id = some k → ρ id = some u → (∀ i b, lkp hp i = some b → τ i ≠ id) → ∀ x, oblk u = some x → ¬ A x := fun id k u g1 g2 g3 x hx ⟨i, b, v', q1, q2, q3⟩ =>
      g3 i b q1 (hs.inj (τ i) id _ _ v' u x (hkey i b q1).2.2 g1 q2 g2 q3 hx)
    have hres3 : RepA (Own C s3 ρ3) ρ3 w' (r.ren τ) v := (hvr.ren τ (ρ' := ρ3) (fun i hi u hu => hρ3 i (hR i hi) u hu)).mono hm32 (fun _ _ h => h)
    refine ⟨ρ3, ?_⟩
    have base : SatR C (fun i => U i ∨ (f ≤ i ∧ i < f + 7)) ⟨s.sl, s3.hp⟩ ρ3 a w' := by
      have hOe : Own C ⟨s.sl, s3.hp⟩ ρ3 = Own C s3 ρ3 := rfl
      refine ⟨hs.defers, hs.size, fun d x hx => (hs.slots d x hx).mono hm3 hρ3ext, fun id k hid => ?_, fun i j k l v u x h1 h2' h3 h4 h5 h6 => ?_, fun i hi => ?_, fun id k u x h1 h2' h3 => ?_, hs.oc, h2.os.trans hs.os, h2.tape.trans hs.tape, h2.output.trans hs.output, Nat.le_trans hs.grows h2.grows, fun x hx hA => ?_, fun j u hj => hρ3ext _ _ (hs.pins j u hj)⟩
      · have hid' : s3.hp id = some k := hid
        by_cases hnew : ∃ j, j < 7 ∧ id = f + j
        · obtain ⟨j, hj, rfl⟩ := hnew
          rw [hp3new j hj] at hid'
          obtain ⟨b, hb, rfl⟩ := Option.map_eq_some_iff.1 hid'
          obtain ⟨u, hu, hbr⟩ := h2.heap j b hb
          refine ⟨u, by simp only [ρ3]; rw [if_pos (by omega), show f + j - f = j by omega]; exact hu, ?_⟩
          exact (hbr.ren τ (ρ' := ρ3) (hB'.get j b hb) (fun i hi z hz => hρ3 i hi z hz)).mono hm32 (fun _ _ h => h) (fun _ _ => rfl)
        · have hno : ∀ j, j < 7 → id ≠ f + j := fun j hj e => hnew ⟨j, hj, e⟩
          by_cases hold : ∃ i b, lkp hp i = some b ∧ τ i = id
          · obtain ⟨i, b, hi, rfl⟩ := hold
            rw [hp3old i b hi] at hid'
            obtain ⟨b', hb', rfl⟩ := Option.map_eq_some_iff.1 hid'
            obtain ⟨u, hu, hbr⟩ := h2.heap i b' hb'
            refine ⟨u, hρ3ext _ _ (by rw [← hpin2 i b hi]; exact hu), ?_⟩
            exact (hbr.ren τ (ρ' := ρ3) (hB'.get i b' hb') (fun i hi z hz => hρ3 i hi z hz)).mono hm32 (fun _ _ h => h) (fun _ _ => rfl)
          · have hno2 : ∀ i b, lkp hp i = some b → τ i ≠ id := fun i b hi e => hold ⟨i, b, hi, e⟩
            rw [hp3oth id hno hno2] at hid'
            obtain ⟨u, hu, hbr⟩ := hs.heap id k hid'
            exact ⟨u, hρ3ext _ _ hu, hbr.mono hm3 hρ3ext (fun x hx => hblk x (hs.range id k u x hid' hu hx).2.2 (hdisj id k u hid' hu hno2 x hx))⟩
      · rcases hcase i k v h1 h3 with ⟨i', b, g1, _, g2, rfl⟩ | ⟨g1, g2, g3⟩
        · rcases hcase j l u h2' h4 with ⟨j', b', q1, _, q2, rfl⟩ | ⟨q1, q2, q3⟩
          · rw [h2.inj i' j' b b' v u x g1 q1 g2 q2 h5 h6]
          · exfalso
            rcases (hrange2 i' b v x g1 g2 h5).1 with h | h
            · have := (hs.range j l u x q1 q2 h6).2.2; omega
            · exact hdisj j l u q1 q2 q3 x h6 h
        · rcases hcase j l u h2' h4 with ⟨j', b', q1, _, q2, rfl⟩ | ⟨q1, q2, q3⟩
          · exfalso
            rcases (hrange2 j' b' u x q1 q2 h6).1 with h | h
            · have := (hs.range i k v x g1 g2 h5).2.2; omega
            · exact hdisj i k v g1 g2 g3 x h5 h
          · exact hs.inj i j k l v u x g1 q1 g2 q2 h5 h6
      · have h1 : ¬ (f ≤ i ∧ i < f + 7) := fun e => hi (.inr e)
        simp only [ρ3, h1, if_false]
        exact hs.used i (fun e => hi (.inl e))
      · rcases hcase id k u h1 h2' with ⟨i, b, g1, _, g2, _⟩ | ⟨g1, g2, _⟩
        · obtain ⟨q1, q2, q3⟩ := hrange2 i b u x g1 g2 h3
          rcases q1 with q1 | q1
          · refine ⟨.inl (Nat.le_trans hs.grows q1), fun ho => ?_, q3⟩
            have := hs.oc x ho; have := hs.grows; omega
          · exact ⟨(hArange x q1).1, (hArange x q1).2.1, q3⟩
        · obtain ⟨q1, q2, q3⟩ := hs.range id k u x g1 g2 h3
          exact ⟨q1, q2, Nat.lt_of_lt_of_le q3 h2.grows⟩
      · have hlt := Nat.lt_of_lt_of_le hx hs.grows
        rw [hblk x hlt (fun hAx => by
          rcases (hArange x hAx).1 with h | h
          · omega
          · exact hA h)]
        exact hs.frame x hx hA
    have := base.put hd (x := r.ren τ) (v := v) hres3
    exact this
  cases e with
  | ret => exact fin hk
  | normal => exact fin hk
  | exit => exact hk.elim
  | goto => exact hk.elim
  | panic => exact hk.elim
  | outgrown => exact hk.elim

theorem callK_h {P : Program} {g : FuncId} {xs ys : List AV} {hp hp' : List (Nat × Blk)} {r : AV} {f : Nat} {V : PS} {dst : Option Nat} {K : Upd → Prop} (h : HCall P g xs hp r hp') (σ same : List Nat)
    (hys : ys = AV.rens (sgm σ f) xs) (hn : namesOk σ same hp hp' = true) (hsame : SameIn hp hp' same) (hB : BlksOk hp hp) (hB' : BlksOk hp' hp') (hX : ∀ n, n ∈ AV.namess xs → Nm hp n) (hR : ∀ n, n ∈ r.names → Nm hp' n)
    (hV : HpIn V σ f hp) (hK : K ⟨r.ren (sgm σ f), hpsOf σ f same hp' hp⟩) : callK P g ys f V dst K := ⟨_, callsA_of_hcall h hn hsame hB hB' hX hR hys hV, hK⟩
end Go.Am
/-! 
  The abstract machine, thirty-second part: how calls that are handed blocks are reckoned with.
-/
namespace Go.Am
open Go.RowKit
theorem rens_p (σ : Nat → Nat) : ∀ xs : List PV, AV.rens σ (xs.map .p) = xs.map .p
  | [] => rfl
  | x :: r => by simp [AV.rens, AV.ren, rens_p σ r]
theorem ren_lift (σ : Nat → Nat) (sz : Nat) (es : List (List PV)) : Blk.ren σ (.row sz (lift es)) = .row sz (lift es) := by
  simp only [Blk.ren, lift, List.map_map, Blk.row.injEq, true_and]
  exact List.map_congr_left fun x _ => rens_p σ x
theorem namess_p : ∀ xs : List PV, AV.namess (xs.map .p) = []
  | [] => rfl
  | x :: r => by simp [AV.namess, AV.names, namess_p r]
theorem only_lift (N : Nat → Prop) (sz : Nat) (es : List (List PV)) : Blk.hasOnly N (.row sz (lift es)) = True := by
  simp only [Blk.hasOnly, lift, List.mem_map, eq_iff_iff, iff_true]
  rintro cs ⟨y, _, rfl⟩ n hn
  rw [namess_p] at hn; cases hn
theorem only_one (N : Nat → Prop) (sz : Nat) (cs : List AV) : Blk.hasOnly N (.row sz [cs]) = ∀ n, n ∈ AV.namess cs → N n := by simp [Blk.hasOnly]
theorem only_map (N : Nat → Prop) (len : Nat) (m : List Int → Option PV) : Blk.hasOnly N (.map len m) = True := rfl
theorem only_mapS (N : Nat → Prop) (len : Nat) (S : List Int → PV → Prop) : Blk.hasOnly N (.mapS len S) = True := rfl
theorem ren_one (σ : Nat → Nat) (sz : Nat) (cs : List AV) : Blk.ren σ (.row sz [cs]) = .row sz [AV.rens σ cs] := rfl
theorem ren_map (σ : Nat → Nat) (len : Nat) (m : List Int → Option PV) : Blk.ren σ (.map len m) = .map len m := rfl
theorem ren_mapS (σ : Nat → Nat) (len : Nat) (S : List Int → PV → Prop) : Blk.ren σ (.mapS len S) = .mapS len S := rfl
section
variable (σ : Nat → Nat)
theorem r01 (x : PV) : AV.ren σ (.p x) = .p x := by simp [AV.ren]
theorem r02 (i : Nat) : AV.ren σ (.own i) = .own (σ i) := by simp [AV.ren]
theorem r03 (i sz k o : Nat) : AV.ren σ (.ptr i sz k o) = .ptr (σ i) sz k o := by simp [AV.ren]
theorem r04 (i : Nat) : AV.ren σ (.mp i) = .mp (σ i) := by simp [AV.ren]
theorem r05 (cs : List AV) : AV.ren σ (.agg cs) = .agg (AV.rens σ cs) := by simp [AV.ren]
theorem r06 (cs : List AV) : AV.ren σ (.tup cs) = .tup (AV.rens σ cs) := by simp [AV.ren]
theorem r07 (f : FuncId) (cs : List AV) : AV.ren σ (.fn f cs) = .fn f (AV.rens σ cs) := by simp [AV.ren]
theorem r08 : AV.rens σ [] = [] := by simp [AV.rens]
theorem r09 (x : AV) (r : List AV) : AV.rens σ (x :: r) = x.ren σ :: AV.rens σ r := by simp [AV.rens]
end
theorem r10 (x : PV) : AV.names (.p x) = [] := by simp [AV.names]
theorem r11 (i : Nat) : AV.names (.own i) = [i] := by simp [AV.names]
theorem r12 (i sz k o : Nat) : AV.names (.ptr i sz k o) = [i] := by simp [AV.names]
theorem r13 (i : Nat) : AV.names (.mp i) = [i] := by simp [AV.names]
theorem r14 (cs : List AV) : AV.names (.agg cs) = AV.namess cs := by simp [AV.names]
theorem r15 (cs : List AV) : AV.names (.tup cs) = AV.namess cs := by simp [AV.names]
theorem r16 (f : FuncId) (cs : List AV) : AV.names (.fn f cs) = AV.namess cs := by simp [AV.names]
theorem r17 : AV.namess [] = [] := by simp [AV.namess]
theorem r18 (x : AV) (r : List AV) : AV.namess (x :: r) = x.names ++ AV.namess r := by simp [AV.namess]
section
variable (s : List Nat) (f : Nat)
theorem s01 (i : Nat) : sgm s f i = if i % 8 = 7 then s.getD (i / 8) 0 else f + i := rfl
theorem s02 (x : Nat) (r : List Nat) : (x :: r).getD 0 0 = x := rfl
theorem s03 (x i : Nat) (r : List Nat) : (x :: r).getD (i + 1) 0 = r.getD i 0 := rfl
theorem s04 (same : List Nat) (hp' : List (Nat × Blk)) : hpsOf s f same hp' [] = (hp'.filter fun q => q.1 % 8 != 7).map fun q => (f + q.1, some (q.2.ren (sgm s f))) := rfl
theorem s05 (same : List Nat) (hp' : List (Nat × Blk)) (i : Nat) (b : Blk) (r : List (Nat × Blk)) : hpsOf s f same hp' ((i, b) :: r) = if same.contains i = true then hpsOf s f same hp' r else (sgm s f i, (lkp hp' i).map (Blk.ren (sgm s f))) :: hpsOf s f same hp' r := rfl
theorem s06 (V : PS) : HpIn V s f [] = True := rfl
theorem s07 (V : PS) (i : Nat) (b : Blk) (r : List (Nat × Blk)) : HpIn V s f ((i, b) :: r) = (V.hp (sgm s f i) = some (b.ren (sgm s f)) ∧ HpIn V s f r) := rfl
theorem s08 (hp : List (Nat × Blk)) : BlksOk hp [] = True := rfl
theorem s09 (hp : List (Nat × Blk)) (i : Nat) (b : Blk) (r : List (Nat × Blk)) : BlksOk hp ((i, b) :: r) = (b.hasOnly (Nm hp) ∧ BlksOk hp r) := rfl
theorem s10 (hp hp' : List (Nat × Blk)) : SameIn hp hp' [] = True := rfl
theorem s11 (hp hp' : List (Nat × Blk)) (i : Nat) (r : List Nat) : SameIn hp hp' (i :: r) = (lkp hp' i = lkp hp i ∧ SameIn hp hp' r) := rfl
theorem s12 (hp : List (Nat × Blk)) (i : Nat) : Nm hp i = ((lkp hp i).isSome = true) := rfl
theorem s13 (n : Nat) (P : Nat → Prop) : (∀ i, i ∈ [n] → P i) = P n := by simp
theorem s14 (P : Nat → Prop) : (∀ i, i ∈ ([] : List Nat) → P i) = True := by simp
theorem s15 (a : Nat) (l : List Nat) (P : Nat → Prop) : (∀ i, i ∈ a :: l → P i) = (P a ∧ ∀ i, i ∈ l → P i) := by simp
end
theorem argA_nil (i : Nat) : argA i [] = [] := rfl
theorem argA_cons (i : Nat) (x : AV) (r : List AV) : argA i (x :: r) = (i, x) :: argA (i + 1) r := rfl
theorem hm : type_of% (And.intro (And.intro (And.intro (And.intro (And.intro @ren_lift @only_lift) (And.intro @only_one (And.intro @only_map @only_mapS))) (And.intro (And.intro @ren_one @ren_map) (And.intro @ren_mapS (And.intro @r01 @r02)))) (And.intro (And.intro (And.intro @r03 @r04) (And.intro @r05 (And.intro @r06 @r07))) (And.intro (And.intro @r08 (And.intro @r09 @r10)) (And.intro @r11 (And.intro @r12 @r13))))) (And.intro (And.intro (And.intro (And.intro @r14 @r15) (And.intro @r16 (And.intro @r17 @r18))) (And.intro (And.intro @s01 (And.intro @s02 @s03)) (And.intro @s04 (And.intro @s05 @s06)))) (And.intro (And.intro (And.intro @s07 @s08) (And.intro @s09 (And.intro @s10 @s11))) (And.intro (And.intro @s12 (And.intro @s13 @s14)) (And.intro @s15 (And.intro @argA_nil @argA_cons)))))) := (And.intro (And.intro (And.intro (And.intro (And.intro @ren_lift @only_lift) (And.intro @only_one (And.intro @only_map @only_mapS))) (And.intro (And.intro @ren_one @ren_map) (And.intro @ren_mapS (And.intro @r01 @r02)))) (And.intro (And.intro (And.intro @r03 @r04) (And.intro @r05 (And.intro @r06 @r07))) (And.intro (And.intro @r08 (And.intro @r09 @r10)) (And.intro @r11 (And.intro @r12 @r13))))) (And.intro (And.intro (And.intro (And.intro @r14 @r15) (And.intro @r16 (And.intro @r17 @r18))) (And.intro (And.intro @s01 (And.intro @s02 @s03)) (And.intro @s04 (And.intro @s05 @s06)))) (And.intro (And.intro (And.intro @s07 @s08) (And.intro @s09 (And.intro @s10 @s11))) (And.intro (And.intro @s12 (And.intro @s13 @s14)) (And.intro @s15 (And.intro @argA_nil @argA_cons))))))
section
variable {P : Program} {s : LS} {fn : Func} {hp' : List (Nat × Blk)}
theorem LE.refl (s : LS) : LE s s := fun _ _ _ h => h
theorem reth1 {t : Nat} {r r0 : AV} (hf : fn.results = #[.tmp t]) (h : lkp s.sl t = some r0) (hle : LE ⟨[(0, r0)], s.hp, s.nx⟩ ⟨[(0, r)], hp', 1⟩) : retH P fn r hp' .ret s := by
  refine ⟨r0, ?_, hle⟩
  rw [hf]; exact h
theorem reth2 {t u : Nat} {r0 q0 r : AV} (hf : fn.results = #[.tmp t, .tmp u]) (h : lkp s.sl t = some r0) (h2 : lkp s.sl u = some q0) (hle : LE ⟨[(0, .tup [r0, q0])], s.hp, s.nx⟩ ⟨[(0, r)], hp', 1⟩) : retH P fn r hp' .ret s := by
  refine ⟨_, ?_, hle⟩
  rw [hf]; exact ⟨_, rfl, h, h2, trivial⟩
theorem reth0 {r : AV} (hf : fn.results = #[]) (hle : LE ⟨[(0, .tup [])], s.hp, s.nx⟩ ⟨[(0, r)], hp', 1⟩) : retH P fn r hp' .ret s := by
  refine ⟨_, ?_, hle⟩
  rw [hf]; exact ⟨_, rfl, trivial⟩
theorem rethc {a ty : Nat} {r v : AV} {g : Bool} {n : Nat} (hf : fn.results = #[.cell a ty]) (h : lkp s.sl a = some v) (ht : tSz P ty = some (g, n)) (hl : loadK s.ps v g n fun x => LE ⟨[(0, x)], s.hp, s.nx⟩ ⟨[(0, r)], hp', 1⟩) : retH P fn r hp' .ret s := by
  obtain ⟨x, hx, hle⟩ := hl
  refine ⟨x, ?_, hle⟩
  rw [hf]; exact ⟨v, h, g, n, ht, hx⟩
theorem normH {r : AV} (h : retH P fn r hp' .ret s) : retH P fn r hp' .normal s := h
/-- a variable's cell that is handed back -/
theorem retc {a ty : Nat} {v : AV} {r : PV} {g : Bool} {n : Nat} (h : lkp s.sl a = some v) (ht : tSz P ty = some (g, n)) (hl : loadK s.ps v g n fun y => ResA s.hp y r) : resV P s (.cell a ty) r := by
  obtain ⟨y, hy, hr⟩ := hl
  exact ⟨v, h, g, n, ht, y, hy, hr⟩
theorem rett {t : Nat} {x : AV} {r : PV} (h : lkp s.sl t = some x) (hr : ResA s.hp x r) : resV P s (.tmp t) r := ⟨x, h, hr⟩
theorem retl {rv : List ResultVar} {rs : List PV} {v u : ResultVar} {l : List ResultVar} (hf : fn.results.toList = rv) (hv : rv = v :: u :: l) (h : resVs P s rv rs) : retK P fn (.tup rs) .ret s := by
  show resR P s fn.results.toList _
  rw [hf, hv]; rw [hv] at h; exact ⟨_, rfl, h⟩
theorem retone {v : ResultVar} {r : PV} (hf : fn.results = #[v]) (h : resV P s v r) : retK P fn r .ret s := by
  show resR P s fn.results.toList _
  rw [hf]; exact h
theorem ResA.agg_nil {hp : List (Nat × Blk)} : ResA hp (.agg []) (.agg []) := .agg rfl (fun i x y h => by simp at h)
theorem ResA.agg_cons {hp : List (Nat × Blk)} {x : AV} {y : PV} {xs : List AV} {ys : List PV} (h : ResA hp x y) (hs : ResA hp (.agg xs) (.agg ys)) : ResA hp (.agg (x :: xs)) (.agg (y :: ys)) := by
  cases hs with
  | agg hl hi =>
    refine .agg (by simp [hl]) (fun i a b ha hb => ?_)
    cases i with
    | zero => simp only [List.getElem?_cons_zero, Option.some.injEq] at ha hb; subst ha hb; exact h
    | succ i => exact hi i a b (by simpa using ha) (by simpa using hb)
end
end Go.Am
