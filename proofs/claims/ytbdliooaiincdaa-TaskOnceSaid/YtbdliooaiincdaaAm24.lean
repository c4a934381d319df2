/-
  The abstract machine, twenty-fourth part: from a row's start to a call, and back.
-/
import Derived.Test.YtbdliooaiincdaaAm23
import Derived.ProofKit
namespace Go.Am
open Go.RowKit Go.ChangeShapes Go.WideShapes

theorem flat1 {α β : Type} (g : α → β) : ∀ l : List α, (l.map fun x => [g x]).flatten = l.map g
  | [] => rfl
  | a :: l => by simp [flat1 g l]

theorem rep_row64 {w : World} {a : Addr} {len cap : Nat} {zs : List Int} {k : IntKind} (hle : len ≤ cap) (hz : len ≤ zs.length) (hc : ∀ i, i < zs.length → w.cell? (a.add i) = some (.int k (zs.getD i 0))) :
    RepP (fun _ => False) w (.seq false ((zs.take len).map fun x => [.lit (.int k x)])) (.slice (some a) len cap) := by
  by_cases h0 : len = 0
  · subst h0; exact .nilseq false _ cap (fun h => by cases h)
  · obtain ⟨b, off, spot⟩ := a
    cases spot with
    | some s =>
      have := hc 0 (by omega)
      unfold World.cell? at this
      split at this
      · simp [Addr.add] at this
      · cases this
    | none =>
      have e : ((zs.take len).map fun x => [PV.lit (.int k x)]).length = len := by simp; omega
      have hfl : ((zs.take len).map fun x => [PV.lit (.int k x)]).flatten = (zs.take len).map fun x => PV.lit (.int k x) := flat1 _ _
      have h := RepP.seq (O := fun _ => False) (w := w) false ((zs.take len).map fun x => [PV.lit (.int k x)]) 1 b off cap (fun j => .int k (zs.getD j 0)) (fun y hy => by
          obtain ⟨x, _, rfl⟩ := List.mem_map.1 hy; rfl) (by rw [e]; exact hle) (fun h => by cases h)
        (fun j hj => ⟨fun h => h, by
          rw [hfl, List.length_map, List.length_take] at hj
          have := hc j (by omega)
          rwa [Addr.add_lit] at this, rfl⟩)
        (fun j x hx => by
          rw [hfl, List.getElem?_map] at hx
          obtain ⟨y, hy, rfl⟩ := Option.map_eq_some_iff.1 hx
          rw [List.getElem?_take] at hy
          split at hy
          · have : zs.getD j 0 = y := by simp [List.getD, hy]
            rw [this]; exact .lit _
          · cases hy)
      rw [e] at h
      exact h

theorem law_calls {P : Program} {f : FuncId} {args : List PV} {vs : Array Value} {W : World} (h : PCall P f args (.lit (.bool true))) (hsz : vs.size = args.length) (hr : ∀ i x, args[i]? = some x → RepP (fun _ => False) W x (vs.getD i undef)) :
    Calls P f vs W fun e W' => e = .returned (.bool true) ∧ Below W.heap.size W W' :=
  (h _ W vs (fun _ h => h.elim) hsz hr).mono fun e W' ⟨v, he, hv, hB⟩ => by cases hv; exact ⟨he, hB⟩

section
variable {H : Type} {enc : TypeId × Value → H} {P : Program}
theorem trod_ints {t e : TypeId} {k : IntKind} {v : Value} {d : DataW H} {ps : List MemPlace} {W : World} {base b0 : Nat} {spare : Nat → Bool} {held : Bool} {r : Reach} (ht : P.underlying t = some (.slice e)) (he : P.underlying e = some (.int k)) (hc : P.cellsOf e = 1)
    (hval : Value.okWide P W r b0 t v) (h : DataW.Trod enc P W base spare held t v d ps) : ∃ l : List Int, (∀ n ∈ l, (Lit.int k n).wf = true) ∧ RepP (fun _ => False) W (.seq false (l.map fun x => [.lit (.int k x)])) v := by
  obtain ⟨a0, len, cap, rfl⟩ := okWide_slice ht hval
  obtain ⟨fuel, hf⟩ := h
  rcases open_ints ht he hc hf with ⟨hcs, hx⟩ | ⟨a, len', cap', zs, hcs, _, hle, hmax, hall, hx, hcell, hwf⟩
  · simp [Value.cells] at hcs
    obtain ⟨rfl, rfl, rfl⟩ := hcs
    exact ⟨[], fun n hn => by simp at hn, .nilseq false none 0 (fun h => by cases h)⟩
  · simp [Value.cells] at hcs
    obtain ⟨rfl, rfl, rfl⟩ := hcs
    have hz : len ≤ zs.length := by rw [hall]; split <;> omega
    exact ⟨zs.take len, fun n hn => hwf n (List.mem_of_mem_take hn), rep_row64 hle hz hcell⟩

theorem law_post {f : Func} {s : ChangeSpec} {apart fresh handsOn again : Bool} {W W' : World} {args : Array Value} {v : Value} {ds gs : List (DataW H)} {before pa pv : List MemPlace}
    (hW : DataW.Whole enc P f.params.toList s.vars apart W args.toList ds gs before)
    (hres : ∀ (b : Nat) (sp : Nat → Bool) (hd : Bool), DataW.TrodAll enc P W' b sp hd f.resultTypes.toList (v.resultList f.resultTypes.size) (s.fn H (ds ++ gs)).results [])
    (hargs : ∀ sp : Nat → Bool, (∀ p ∈ before, sp p.block = true) → DataW.TrodAll enc P W' 0 sp true f.params.toList args.toList (s.fn H (ds ++ gs)).args pa)
    (hvars : ∀ sp : Nat → Bool, (∀ p ∈ before, sp p.block = true) → DataW.TrodVars enc P W' sp s.vars (s.fn H (ds ++ gs)).vars pv)
    (hps : before = pa ++ pv) (hb : Below W.heap.size W W')
    (hok : ∀ (j : Nat) (t : TypeId) (r : Value), f.resultTypes[j]? = some t → (v.resultList f.resultTypes.size)[j]? = some r → Value.okWide P W' .any 0 t r) :
    s.post enc P f apart fresh handsOn again W args v W' := by
  have hlt : ∀ p ∈ before, p.block < W.heap.size := fun p hp => hW.lt p hp
  have hold : ∀ p ∈ before, (fun b => decide (b < W.heap.size)) p.block = true := fun p hp => by simpa using hlt p hp
  refine ⟨ds, gs, before, [], pa, pv, hW, hres _ _ _, hargs _ hold, hvars _ hold, World.keptBut_mono (fun p hp => ⟨hp, ?_⟩) (hb.frame (· ∈ before)), fun _ => ?_⟩
  · rw [hps, List.mem_append] at hp
    exact Or.inr hp
  · obtain ⟨_, _, _, _, _, hz, hn⟩ := hW
    refine ⟨hok, _, _, ([] ++ pa) ++ pv, ⟨[] ++ pa, pv, trodAll_append (hargs _ (fun _ _ => rfl)) (hres _ _ _), hvars _ (fun _ _ => rfl), rfl, ?_, ?_⟩, ?_⟩
    · intro b off hp
      have hin : MemPlace.cell b off ∈ before := by rw [hps]; simpa using hp
      rw [hb.frozen (hlt _ hin)]
      exact hz b off hin
    · intro ha
      have := hn ha
      rw [hps] at this
      simpa using this
    · intro p hp _
      rw [hps]
      simpa using hp
end
end Go.Am
