/-
  The abstract machine, twenty-third part: a function that answers a new row, which its caller then owns.
-/
import Derived.Test.YtbdliooaiincdaaAm22
namespace Go.Am
open Go.RowKit

/-- the world went on to w', and a block that is nobody's becomes the call's own -/
theorem SatR.callBlk {C : Ctx} {U : Nat → Prop} {s : PS} {ρ : Nat → Option Value} {a : Act} {w w' : World} (h : SatR C U s ρ a w) {f : Nat} (hf : ¬ U f) (hB : Below w.heap.size w w')
    {b : Nat} (hlb : w.heap.size ≤ b) (e : TypeId) (cur : Array Value) (sz : Nat) (es : List (List AV)) (cap : Nat) (hbl : w'.heap[b]? = some (.cells cur e (0, 0))) (h0 : 0 < cap)
    (hok : BlkOk (fun x => Own C s ρ x ∨ x = b) ρ w' sz es cap cur) :
    SatR C (fun i => U i ∨ i = f) ⟨s.sl, PS.setHp s.hp [(f, some (.row sz es))]⟩ (fun i => if i = f then some (.slice (some ⟨b, 0, none⟩) es.length cap) else ρ i) a w' := by
  have hob : oblk (.slice (some ⟨b, 0, none⟩) es.length cap) = some b := by simp [oblk]; omega
  have hblt : b < w'.heap.size := (Array.getElem?_eq_some_iff.1 hbl).1
  have hρ : ∀ i v', ρ i = some v' → (fun i => if i = f then some (Value.slice (some ⟨b, 0, none⟩) es.length cap) else ρ i) i = some v' := by
    intro i v' hi
    by_cases e : i = f
    · subst e; rw [h.used i hf] at hi; cases hi
    · simp [e, hi]
  have hO : ∀ x, Own C ⟨s.sl, PS.setHp s.hp [(f, some (.row sz es))]⟩ (fun i => if i = f then some (.slice (some ⟨b, 0, none⟩) es.length cap) else ρ i) x → Own C s ρ x ∨ x = b := by
    rintro x (ho | ⟨id, k, u, h1, h2, h3⟩)
    · exact .inl (.inl ho)
    · by_cases e : id = f
      · subst e; simp only [if_true, Option.some.injEq] at h2; subst h2; rw [hob] at h3; injection h3 with h3; exact .inr h3.symm
      · simp only [PS.setHp, e, if_false] at h1 h2; exact .inl (.inr ⟨id, k, u, h1, h2, h3⟩)
  have hm : Moves (Own C s ρ) w (Own C ⟨s.sl, PS.setHp s.hp [(f, some (.row sz es))]⟩ (fun i => if i = f then some (.slice (some ⟨b, 0, none⟩) es.length cap) else ρ i)) w' := by
    refine ⟨hB.size, fun x hx _ => hB.block x hx, fun x hx ho => ?_⟩
    rcases hO x ho with ho | rfl
    · exact ho
    · omega
  have hm2 : Moves (fun x => Own C s ρ x ∨ x = b) w' (Own C ⟨s.sl, PS.setHp s.hp [(f, some (.row sz es))]⟩ (fun i => if i = f then some (.slice (some ⟨b, 0, none⟩) es.length cap) else ρ i)) w' :=
    ⟨Nat.le_refl _, fun _ _ _ => rfl, fun x _ => hO x⟩
  have hlt : ∀ id k v b, s.hp id = some k → ρ id = some v → oblk v = some b → b < w.heap.size := fun id k v b h1 h2 h3 => (h.range id k v b h1 h2 h3).2.2
  refine ⟨h.defers, h.size, fun d x hx => (h.slots d x hx).mono hm hρ, fun id k hid => ?_, ?_, fun id hid => ?_, ?_, h.oc, hB.os.trans h.os, hB.tape.trans h.tape, hB.output.trans h.output, Nat.le_trans h.grows hB.size,
    fun x hx hA => (hB.block x (Nat.lt_of_lt_of_le hx h.grows)).trans (h.frame x hx hA), fun j v hj => hρ _ _ (h.pins j v hj)⟩
  · by_cases e : id = f
    · subst e
      simp only [PS.setHp, if_true, Option.some.injEq] at hid
      subst hid
      exact ⟨_, by simp, .inr ⟨b, cap, cur, _, .inl rfl, h0, hbl, hok.1, hok.2.1, hok.2.2.1, hok.2.2.2.1, fun j x hx => ⟨(hok.2.2.2.2 j x hx).1.mono hm2 hρ, (hok.2.2.2.2 j x hx).2⟩⟩⟩
    · simp only [PS.setHp, e, if_false] at hid
      obtain ⟨v', hv', hr⟩ := h.heap id k hid
      exact ⟨v', by simp [e, hv'], hr.mono hm hρ (fun b hb => hB.block b (h.range id k v' b hid hv' hb).2.2)⟩
  · intro i j k l v' u b' h1 h2 h3 h4 h5 h6
    by_cases ei : i = f
    · by_cases ej : j = f
      · rw [ei, ej]
      · subst ei
        simp only [PS.setHp, ej, if_false] at h2 h4
        simp only [if_true, Option.some.injEq] at h3
        subst h3
        rw [hob] at h5; injection h5 with h5; subst h5
        have := hlt j l u _ h2 h4 h6; omega
    · by_cases ej : j = f
      · subst ej
        simp only [PS.setHp, ei, if_false] at h1 h3
        simp only [if_true, Option.some.injEq] at h4
        subst h4
        rw [hob] at h6; injection h6 with h6; subst h6
        have := hlt i k v' _ h1 h3 h5; omega
      · simp only [PS.setHp, ei, ej, if_false] at h1 h2 h3 h4
        exact h.inj i j k l v' u b' h1 h2 h3 h4 h5 h6
  · have : ¬ id = f := fun e => hid (.inr e)
    simp only [this, if_false]
    exact h.used id (fun x => hid (.inl x))
  · intro id k v' b' h1 h2 h3
    by_cases e : id = f
    · subst e
      simp only [if_true, Option.some.injEq] at h2
      subst h2
      rw [hob] at h3; injection h3 with h3; subst h3
      refine ⟨.inl (Nat.le_trans h.grows hlb), fun ho => ?_, hblt⟩
      have := h.oc _ ho; have := h.grows; omega
    · simp only [PS.setHp, e, if_false] at h1 h2
      obtain ⟨r1, r2, r3⟩ := h.range id k v' b' h1 h2 h3
      exact ⟨r1, r2, Nat.lt_of_lt_of_le r3 hB.size⟩

/-- A function that answers a row of its own making. -/
def OCall (P : Program) (f : FuncId) (args : List PV) (sz : Nat) (es : List (List PV)) : Prop :=
  ∀ (O : Nat → Prop) (w : World) (vs : Array Value), (∀ b, O b → b < w.heap.size) → vs.size = args.length → (∀ i x, args[i]? = some x → RepP O w x (vs.getD i undef)) →
    Calls P f vs w fun e w' => ∃ v, e = .returned v ∧ Below w.heap.size w w' ∧ ((es = [] ∧ ∃ a, v = .slice a 0 0) ∨
      ∃ b cap cur ty, v = .slice (some ⟨b, 0, none⟩) es.length cap ∧ 0 < cap ∧ w.heap.size ≤ b ∧ w'.heap[b]? = some (.cells cur ty (0, 0)) ∧ BlkOk (fun x => O x ∨ x = b) (fun _ => none) w' sz (lift es) cap cur)

theorem Sat.fam {C : Ctx} {U : Nat → Prop} {s : PS} {a : Act} {w : World} {f : Nat} (h : Sat C (fun i => U i ∨ i = f) s a w) : Sat C (fun i => U i ∨ (f ≤ i ∧ i < f + 7)) s a w :=
  h.widen fun i hi => by
    rcases hi with hi | rfl
    · exact .inl hi
    · exact .inr ⟨by omega, by omega⟩
theorem repA_lift {O : Nat → Prop} {ρ ρ' : Nat → Option Value} {w : World} {x : PV} {v : Value} (h : RepA O ρ w (.p x) v) : RepA O ρ' w (.p x) v := .p _ _ h.unP

theorem blkOk_lift {O : Nat → Prop} {ρ ρ' : Nat → Option Value} {w : World} {sz cap : Nat} {es : List (List PV)} {cur : Array Value} (h : BlkOk O ρ w sz (lift es) cap cur) : BlkOk O ρ' w sz (lift es) cap cur :=
  ⟨h.1, h.2.1, h.2.2.1, h.2.2.2.1, fun j x hx => by
    obtain ⟨y, hy, rfl⟩ : ∃ y, es.flatten[j]? = some y ∧ x = .p y := by
      have := hx; rw [lift_flatten, List.getElem?_map] at this
      obtain ⟨y, h1, h2⟩ := Option.map_eq_some_iff.1 this
      exact ⟨y, h1, h2.symm⟩
    exact ⟨repA_lift (h.2.2.2.2 j _ hx).1, (h.2.2.2.2 j _ hx).2⟩⟩

theorem callsA_of_ocall {P : Program} {g : FuncId} {xs : List AV} {args : List PV} {sz : Nat} {es : List (List PV)} {f : Nat} {V : PS} {dst : Option Nat} (hx : pures xs = some args) (h : OCall P g args sz es) :
    CallsA P g xs f V dst ⟨.own f, [(f, some (.row sz (lift es)))]⟩ := by
  intro C U s ρ a w vs hd hf hV hs hsz hr
  have e := pures_spec _ _ hx
  subst e
  refine (h (Own C s ρ) w vs (fun b hb => ?_) (by simpa using hsz) (fun i x hi => (hr i (.p x) (by simp [hi])).unP)).mono fun e w' ⟨v, he, hB, hv⟩ => ⟨v, he, ?_⟩
  · by_cases hlt : b < w.heap.size
    · exact hlt
    · exact absurd hb (hs.notOwn (by omega))
  · rcases hv with ⟨rfl, ad, rfl⟩ | ⟨b, cap, cur, ty, rfl, h0, hb, hbl, hok⟩
    · have hm := hs.move (w' := w') hB.size hB.block hB.os hB.tape hB.output
      exact Sat.fam ⟨_, (hm.newNil (hf 0 (by omega)) sz ad).put hd (x := .own f) (.own f ad 0 0 (by simp))⟩
    · have hl : (lift es).length = es.length := lift_length es
      have := (hs.callBlk (hf 0 (by omega)) hB hb ty cur sz (lift es) cap hbl h0 (blkOk_lift hok)).put hd (x := .own f) (v := .slice (some ⟨b, 0, none⟩) es.length cap) (.own f _ _ _ (by simp [hl]))
      exact Sat.fam ⟨_, this⟩

theorem callK_o {P : Program} {g : FuncId} {xs : List AV} {f : Nat} {V : PS} {dst : Option Nat} {K : Upd → Prop} {args : List PV} {sz : Nat} {es : List (List PV)} (h : OCall P g args sz es) (hx : pures xs = some args)
    (hK : K ⟨.own f, [(f, some (.row sz (lift es)))]⟩) : callK P g xs f V dst K := ⟨_, callsA_of_ocall hx h, hK⟩

/-- a row of one's own is handed back -/
def retO (fn : Func) (sz : Nat) (es : List (List PV)) (e : Exit) (s : LS) : Prop :=
  match e with
  | .ret | .normal => (∃ t id, fn.results = #[.tmp t] ∧ lkp s.sl t = some (.own id) ∧ lkp s.hp id = some (.row sz (lift es))) ∨ (es = [] ∧ ∃ t, fn.results = #[.tmp t] ∧ lkp s.sl t = some (.p (.seq true [])))
  | _ => False

theorem ocall_of_awp {P : Program} {f : FuncId} {fn : Func} {c : Code} {args : List PV} {sz : Nat} {es : List (List PV)} (hf : P.funcs[f]? = some fn) (hb : fn.body = some c) (hn : args.length ≤ fn.ntmps)
    (h : ∀ C : Ctx, C.n = fn.ntmps → Awp P C c (retO fn sz es) ⟨argSl 0 args, [], 0⟩) : OCall P f args sz es := by
  intro O w vs hO hsz hr
  refine calls_of_wp hf hb ?_
  let C : Ctx := ⟨w, O, fun _ => False, fn.ntmps, fun _ => none⟩
  have hs : Sat C (fun i => nmPos i ≤ 0) (⟨argSl 0 args, [], 0⟩ : LS).ps ⟨vs ++ Array.replicate (fn.ntmps - vs.size) undef, []⟩ w := by
    refine ⟨fun _ => none, ⟨rfl, by simp [C]; omega, fun d x hx => ?_, fun id k hk => (by cases hk), fun i j k l v u b hk => (by cases hk), fun _ _ => rfl, fun id k v b hk => (by cases hk), hO, rfl, rfl, rfl, Nat.le_refl _, fun _ _ _ => rfl, fun j v hj => (by cases hj)⟩⟩
    obtain ⟨y, j, rfl, hy, rfl⟩ := lkp_argSl args 0 d x hx
    have hj := (List.getElem?_eq_some_iff.1 hy).1
    have := hr j y hy
    rw [Nat.zero_add, Array.getD_eq_getD_getElem?, Array.getElem?_append_left (by omega), ← Array.getD_eq_getD_getElem?]
    refine .p _ _ (this.mono ⟨Nat.le_refl _, fun _ _ _ => rfl, fun b hb ho => ?_⟩)
    rcases ho with ho | ⟨id, k, v, hk, _⟩
    · exact ho
    · cases hk
  refine wp_mono (h C rfl _ w hs) fun e a' w' ⟨s', hk, ρ, hsat⟩ => ?_
  have fin : ((∃ t id, fn.results = #[.tmp t] ∧ lkp s'.sl t = some (.own id) ∧ lkp s'.hp id = some (.row sz (lift es))) ∨ (es = [] ∧ ∃ t, fn.results = #[.tmp t] ∧ lkp s'.sl t = some (.p (.seq true [])))) → bodyPost P fn (fun e w' => ∃ v, e = .returned v ∧ Below w.heap.size w w' ∧ ((es = [] ∧ ∃ a, v = .slice a 0 0) ∨
      ∃ b cap cur ty, v = .slice (some ⟨b, 0, none⟩) es.length cap ∧ 0 < cap ∧ w.heap.size ≤ b ∧ w'.heap[b]? = some (.cells cur ty (0, 0)) ∧ BlkOk (fun x => O x ∨ x = b) (fun _ => none) w' sz (lift es) cap cur)) .ret a' w' := by
    rintro (⟨t, id, hres, ht, hid⟩ | ⟨rfl, t, hres, ht⟩)
    rotate_left
    · have hv := hsat.slots t _ ht
      have hrun : (results fn a'.tmps).run P w' = .ok (a'.tmps.getD t undef) w' := by
        rw [results_eq, hres]
        simp [getR]
      refine ⟨hsat.defers, _, hrun, _, rfl, ⟨hsat.os, hsat.tape, hsat.output, hsat.grows, fun b hb => hsat.frame b hb (fun h => h)⟩, .inl ⟨rfl, ?_⟩⟩
      obtain ⟨ad, cap, he, _, hcl⟩ := seq_shape hv.unP
      have hc : cap = 0 := by simpa using hcl rfl
      subst hc
      exact ⟨ad, he⟩
    have hv := hsat.slots t _ ht
    obtain ⟨u, hu, hbk⟩ := hsat.heap id _ hid
    have hrun : (results fn a'.tmps).run P w' = .ok (a'.tmps.getD t undef) w' := by
      rw [results_eq, hres]
      simp [getR]
    refine ⟨hsat.defers, _, hrun, _, rfl, ⟨hsat.os, hsat.tape, hsat.output, hsat.grows, fun b hb => hsat.frame b hb (fun h => h)⟩, ?_⟩
    generalize a'.tmps.getD t undef = z at hv
    cases hv with
    | own _ ad n c hi =>
      rw [hu] at hi; injection hi with hi; subst hi
      rcases hbk with ⟨hnil, ad', he⟩ | ⟨b, cap, cur, e', h1, h0, h2, hok⟩
      · injection he with q1 q2 q3; subst q1 q2 q3
        exact .inl ⟨by simpa [lift] using hnil, _, rfl⟩
      · rcases h1 with h1 | ⟨h1, _⟩
        · injection h1 with q1 q2 q3; subst q1 q3
          rw [lift_length] at q2; subst q2
          have hob : oblk (.slice (some ⟨b, 0, none⟩) es.length c) = some b := by simp [oblk]; omega
          have hrg := hsat.range id _ _ b hid hu hob
          refine .inr ⟨b, c, cur, e', rfl, h0, ?_, h2, ?_⟩
          · rcases hrg.1 with hr | hr
            · exact hr
            · exact hr.elim
          · have hm : Moves (Own C s'.ps ρ) w' (fun x => O x ∨ x = b) w' := ⟨Nat.le_refl _, fun _ _ _ => rfl, fun x _ hx => by
              rcases hx with hx | rfl
              · exact .inl hx
              · exact .inr ⟨id, _, _, hid, hu, hob⟩⟩
            have hok' : BlkOk (Own C s'.ps ρ) ρ w' sz (lift es) c cur := hok
            refine ⟨hok'.1, hok'.2.1, hok'.2.2.1, hok'.2.2.2.1, fun j x hx => ?_⟩
            obtain ⟨y, hy, rfl⟩ : ∃ y, es.flatten[j]? = some y ∧ x = .p y := by
              have := hx; rw [lift_flatten, List.getElem?_map] at this
              obtain ⟨y, h1, h2⟩ := Option.map_eq_some_iff.1 this
              exact ⟨y, h1, h2.symm⟩
            exact ⟨.p _ _ ((hok'.2.2.2.2 j _ hx).1.unP.mono hm), (hok'.2.2.2.2 j _ hx).2⟩
        · cases h1
  cases e with
  | ret => exact fin hk
  | normal => exact fin hk
  | exit => exact hk.elim
  | goto => exact hk.elim
  | panic => exact hk.elim
  | outgrown => exact hk.elim

theorem reto1 {fn : Func} {t id sz : Nat} {es : List (List PV)} {s : LS} (hf : fn.results = #[.tmp t]) (h : lkp s.sl t = some (.own id)) (h2 : lkp s.hp id = some (.row sz (lift es))) : retO fn sz es .ret s := .inl ⟨t, id, hf, h, h2⟩
theorem reton {fn : Func} {t sz : Nat} {es : List (List PV)} {s : LS} (he : es = []) (hf : fn.results = #[.tmp t]) (h : lkp s.sl t = some (.p (.seq true []))) : retO fn sz es .ret s := .inr ⟨he, t, hf, h⟩

theorem LeB.liftE {hp : List (Nat × Blk)} {π : List (Nat × Nat)} {sz : Nat} {es es' : List (List PV)} (h : es = es') : LeB hp π (.row sz (Am.lift es)) (.row sz (Am.lift es')) := h ▸ LeB.lift es
theorem awp_own' {P : Program} {C : Ctx} {c : Code} {K : Exit → LS → Prop} {s : LS} (d sz : Nat) (hd : lkp s.sl d = some (.p (.seq true []))) (h : Awp P C c K ⟨(d, .own (8 * s.nx)) :: s.sl, (8 * s.nx, .row sz (lift [])) :: del s.hp (8 * s.nx), s.nx + 1⟩) : Awp P C c K s := awp_own d sz hd h
section
variable {P : Program} {C : Ctx} {K : Exit → LS → Prop} {s : LS}
theorem awp_srg {id : Nat} {l : List Oper} {y : Code} (H : List Nat) (hf : inFrame C.n l.toArray = true)
    (h : ∀ gd, gd = gdOf l.toArray → ∀ k : LS → Prop, (∀ s', Awp P C y K s' → k s') → aops P H gd (fun s' => k ⟨s'.sl, s'.hp, s'.nx + l.length⟩) 0 l s) : Awp P C (.seq (.region id l.toArray false) y) K s := awp_sr H hf (h _ rfl)
theorem awp_sdg {id : Nat} {l : List Oper} {y : Code} (H : List Nat) (D : Ord) (hf : inFrame C.n l.toArray = true) (hm : P.follows .mixedOrders = true) (hD : okD D l.toArray = true)
    (h : ∀ gd, gd = gdOf l.toArray → ∀ k : LS → Prop, (∀ s', Awp P C y K s' → k s') → aopsD P H D gd (fun s' => k ⟨s'.sl, s'.hp, s'.nx + l.length⟩) 0 l s) : Awp P C (.seq (.region id l.toArray true) y) K s := awp_sd H D hf hm hD (h _ rfl)
end
/-! ### slots that nobody asks for any more -/
def keepM (o : Option AV) (d : Nat) (r : List (Nat × AV)) : List (Nat × AV) := match o with | some x => (d, x) :: r | none => r
def keepL (sl : List (Nat × AV)) : List Nat → List (Nat × AV)
  | [] => []
  | d :: r => keepM (lkp sl d) d (keepL sl r)
theorem lkp_keepL (sl : List (Nat × AV)) : ∀ (ds : List Nat) (d : Nat) (x : AV), lkp (keepL sl ds) d = some x → lkp sl d = some x
  | [], d, x, h => by simp [keepL, lkp] at h
  | e :: r, d, x, h => by
    unfold keepL keepM at h
    split at h
    · rename_i y hy
      simp only [lkp] at h
      split at h
      · rename_i e1; subst e1; rw [hy]; exact h
      · exact lkp_keepL sl r d x h
    · exact lkp_keepL sl r d x h
theorem le_keep {s : LS} (ds : List Nat) : LE s ⟨keepL s.sl ds, s.hp, s.nx⟩ := fun _ _ _ ⟨ρ, h⟩ => ⟨ρ, { h with slots := fun d x hx => h.slots d x (lkp_keepL s.sl ds d x hx) }⟩
theorem keepL_nil (sl : List (Nat × AV)) : keepL sl [] = [] := rfl
theorem keepL_cons (sl : List (Nat × AV)) (d : Nat) (r : List Nat) : keepL sl (d :: r) = keepM (lkp sl d) d (keepL sl r) := rfl
theorem keepM_some (x : AV) (d : Nat) (r : List (Nat × AV)) : keepM (some x) d r = (d, x) :: r := rfl
theorem keepM_none (d : Nat) (r : List (Nat × AV)) : keepM none d r = r := rfl
theorem cast0 : ((0 : Nat) : Int) = 0 := rfl
end Go.Am
