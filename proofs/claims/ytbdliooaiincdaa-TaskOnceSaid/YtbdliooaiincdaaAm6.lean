/-
  The abstract machine, sixth part: append.
-/
import Derived.Test.YtbdliooaiincdaaAm5
namespace Go.Am
open Go.RowKit

def lift (es : List (List PV)) : List (List AV) := es.map (·.map .p)
theorem lift_length (es : List (List PV)) : (lift es).length = es.length := by simp [lift]
theorem p_inj : Function.Injective AV.p := fun a b h => by injection h
theorem lift_inj {a b : List (List PV)} : lift a = lift b ↔ a = b := by
  constructor
  · intro h
    exact (List.map_inj_right (fun x y hxy => (List.map_inj_right (fun _ _ h => p_inj h)).1 hxy)).1 h
  · rintro rfl; rfl
theorem lift_flatten (es : List (List PV)) : (lift es).flatten = es.flatten.map .p := by simp [lift, List.map_flatten]
theorem lift_len {sz : Nat} {es : List (List PV)} : (∀ x, x ∈ lift es → x.length = sz) ↔ ∀ x, x ∈ es → x.length = sz := by simp [lift]
theorem lift_get (es : List (List PV)) (k : Nat) : (lift es)[k]? = (es[k]?).map (·.map .p) := by simp [lift]
theorem lift_append (a b : List (List PV)) : lift (a ++ b) = lift a ++ lift b := by simp [lift]
theorem lift_set (es : List (List PV)) (k : Nat) (cs : List PV) : (lift es).set k (cs.map .p) = lift (es.set k cs) := by simp [lift, List.map_set]
theorem lift_nil : lift [] = [] := rfl

/-- what is appended -/
def srcR (V : PS) (v : AV) (es : List (List PV)) : Prop :=
  match v with
  | .p (.seq _ es') => es = es'
  | .own id => ∃ sz, V.hp id = some (.row sz (lift es))
  | .sub id sz lo n => ∃ es', V.hp id = some (.row sz (lift es')) ∧ lo + n ≤ es'.length ∧ es = (es'.drop lo).take n
  | _ => False

/-- cells that lie in memory -/
structure Lies (O : Nat → Prop) (w : World) (es : List (List PV)) (v : Value) (vs : List Value) : Prop where
  slice : ∃ a c, v = .slice a es.length c ∧ (0 < es.length → ∃ b, a = some b ∧ ∀ j u, vs[j]? = some u → w.cell? (b.add j) = some u)
  len : vs.length = es.flatten.length
  rep : ∀ j x, es.flatten[j]? = some x → RepP O w x (vs.getD j undef) ∧ (vs.getD j undef).oneCell' = true

theorem lies_mk {O : Nat → Prop} {w : World} {es : List (List PV)} {a : Option Addr} {c : Nat} (f : Nat → Value) (b o : Nat) (ha : a = some ⟨b, o, none⟩)
    (hc : ∀ j, j < es.flatten.length → w.cell? ⟨b, o + j, none⟩ = some (f j) ∧ (f j).oneCell' = true) (hr : ∀ j x, es.flatten[j]? = some x → RepP O w x (f j)) :
    Lies O w es (.slice a es.length c) ((List.range es.flatten.length).map f) := by
  subst ha
  refine ⟨⟨_, c, rfl, fun _ => ⟨_, rfl, fun j u hu => ?_⟩⟩, by simp, fun j x hx => ?_⟩
  · simp only [List.getElem?_map, Option.map_eq_some_iff, List.getElem?_eq_some_iff, List.length_range, List.getElem_range] at hu
    obtain ⟨i, ⟨hi, rfl⟩, rfl⟩ := hu
    rw [Addr.add_lit]; exact (hc _ hi).1
  · have hj := (List.getElem?_eq_some_iff.1 hx).1
    have e : ((List.range es.flatten.length).map f).getD j undef = f j := by rw [List.getD_eq_getElem?_getD, List.getElem?_map, List.getElem?_range hj]; rfl
    rw [e]; exact ⟨hr j x hx, (hc j hj).2⟩

theorem lies_seq {O : Nat → Prop} {w : World} {c : Bool} {es : List (List PV)} {v : Value} (h : RepP O w (.seq c es) v) : ∃ vs, Lies O w es v vs := by
  cases h with
  | nilseq c a cap hc => exact ⟨[], ⟨⟨a, cap, rfl, fun h => absurd h (by simp)⟩, rfl, fun j x hx => by simp at hx⟩⟩
  | seq c es sz b off cap f h1 h2 h3 h4 h5 => exact ⟨_, lies_mk f b off rfl (fun j hj => ⟨(h4 j hj).2.1, (h4 j hj).2.2⟩) h5⟩

theorem blk_get {O : Nat → Prop} {ρ : Nat → Option Value} {w : World} {es : List (List PV)} {sz cap : Nat} {cur : Array Value} (h : BlkOk O ρ w sz (lift es) cap cur) {j : Nat} {x : PV}
    (hx : es.flatten[j]? = some x) : j < cur.size ∧ RepP O w x (cur.getD j undef) ∧ (cur.getD j undef).oneCell' = true := by
  have := h.2.2.2.2 j (.p x) (by rw [lift_flatten, List.getElem?_map, hx]; rfl)
  refine ⟨?_, this.1.unP, this.2⟩
  have h1 := (List.getElem?_eq_some_iff.1 hx).1
  rw [flat_len sz es (lift_len.1 h.2.2.2.1)] at h1
  have h2 : es.length * sz ≤ cap * sz := Nat.mul_le_mul_right _ (by rw [← lift_length es]; exact h.1)
  rw [h.2.2.1]; omega

theorem lies_src {O : Nat → Prop} {ρ : Nat → Option Value} {w : World} {V : PS} {x : AV} {es : List (List PV)} {v : Value} (hs : srcR V x es)
    (hV : ∀ id k, V.hp id = some k → ∃ v, ρ id = some v ∧ BlkRep O ρ w v k) (hx : RepA O ρ w x v) : ∃ vs, Lies O w es v vs := by
  unfold srcR at hs
  split at hs
  · subst hs; exact lies_seq hx.unP
  · rename_i id
    obtain ⟨sz, hid⟩ := hs
    obtain ⟨u, hu, hb⟩ := hV id _ hid
    cases hx with
    | own _ a n c hi =>
      rw [hu] at hi; injection hi with hi; subst hi
      rcases hb with ⟨he, a', ha⟩ | ⟨b, cap, cur, e, h1, h0, h2, hok⟩
      · have : es = [] := by simpa [lift] using he
        subst this
        injection ha with h1 h2 h3; subst h1 h2 h3
        exact ⟨[], ⟨⟨_, _, rfl, fun h => absurd h (by simp)⟩, rfl, fun j x hx => by simp at hx⟩⟩
      · rcases h1 with h1 | ⟨h1, _⟩
        · injection h1 with g1 g2 g3; subst g1 g3
          rw [lift_length] at g2; subst g2
          refine ⟨_, lies_mk (fun j => cur.getD j undef) b 0 rfl (fun j hj => ?_) (fun j x hx => (blk_get hok hx).2.1)⟩
          have := blk_get hok (List.getElem?_eq_getElem hj)
          rw [Nat.zero_add]; exact ⟨cell_row h2 this.1, this.2.2⟩
        · cases h1
  · rename_i id sz lo n
    obtain ⟨es', hid, hlo, rfl⟩ := hs
    obtain ⟨u, hu, hb⟩ := hV id _ hid
    have hlen : ((es'.drop lo).take n).length = n := by simp; omega
    cases hx with
    | sub0 _ _ _ ad c => exact ⟨[], ⟨⟨ad, c, by simp, fun h => absurd h (by simp)⟩, by simp, fun j x hx => by simp at hx⟩⟩
    | sub _ _ _ len cap c _ b hi hc =>
      rw [hu] at hi; injection hi with hi; subst hi
      rcases hb with ⟨he, a', ha⟩ | ⟨b', cap', cur, e, h1, h0, h2, hok⟩
      · injection ha with h1 h2 h3; omega
      · rcases h1 with h1 | ⟨h1, _⟩
        · injection h1 with g1 g2 g3; injection g1 with g1; injection g1 with g1; subst g1 g3
          have hl := lift_len.1 hok.2.2.2.1
          have hfl := flat_len sz es' hl
          have hfl2 := flat_len sz ((es'.drop lo).take n) (fun x hx => hl x (List.mem_of_mem_drop (List.mem_of_mem_take hx)))
          have hget : ∀ j x, ((es'.drop lo).take n).flatten[j]? = some x → es'.flatten[lo * sz + j]? = some x := by
            intro j x hx
            have h3 : es' = es'.take lo ++ (((es'.drop lo).take n) ++ (es'.drop lo).drop n) := by rw [List.take_append_drop, List.take_append_drop]
            have h4 : (es'.take lo).flatten.length = lo * sz := by
              rw [flat_len sz _ (fun x hx => hl x (List.mem_of_mem_take hx))]; congr 1; simp; omega
            rw [h3, List.flatten_append, List.flatten_append, List.getElem?_append_right (by omega), h4, Nat.add_sub_cancel_left,
              List.getElem?_append_left (List.getElem?_eq_some_iff.1 hx).1]
            exact hx
          suffices hsuf : ∃ vs, Lies O w ((es'.drop lo).take n) (.slice (some ⟨b, lo * sz, none⟩) ((es'.drop lo).take n).length c) vs by
            rw [hlen] at hsuf; exact hsuf
          refine ⟨_, lies_mk (fun j => cur.getD (lo * sz + j) undef) b (lo * sz) rfl (fun j hj => ?_) (fun j x hx => (blk_get hok (hget j x hx)).2.1)⟩
          have := blk_get hok (hget j _ (List.getElem?_eq_getElem hj))
          exact ⟨cell_row h2 this.1, this.2.2⟩
        · cases h1
  · exact hs.elim


theorem run_append_none {P : Program} (t ty e : TypeId) (i : TypeInfo) (ht : P.underlying t = some (.slice e)) (hi : P.info? e = some i) (a a2 : Option Addr) (n c c2 : Nat) (hn : n ≤ c) (w : World) :
    (Builtin.append_ #[t, t] ty #[.slice a n c, .slice a2 0 c2]).run P w = .ok (.slice a n c) w := by
  have h0 : ∀ x : Value, (∃ b k, x = .slice b 0 k) → (Builtin.firstCells i.size 0 x).run P w = .ok #[] w := by
    rintro x ⟨b, k, rfl⟩
    cases b <;> simp [Builtin.firstCells, loadCells, loadCellsFrom]
  cases a with
  | none => simp [Builtin.append_, run_underlying ht, sizeOf, typeInfo, hi, Builtin.lenOf, hn, h0 _ ⟨a2, c2, rfl⟩]
  | some b => simp [Builtin.append_, run_underlying ht, sizeOf, typeInfo, hi, Builtin.lenOf, hn, h0 _ ⟨a2, c2, rfl⟩, storeCells]

/-- append to a slice that has no room, of at least one element: a new row -/
theorem run_append_more {P : Program} {O : Nat → Prop} {w : World} (t ty e : TypeId) (i : TypeInfo) (z : Value) (ht : P.underlying t = some (.slice e)) (hi : P.info? e = some i) (hz : i.zero = some z)
    (hzs : z.cells.size = i.size) {es1 es2 : List (List PV)} {v1 v2 : Value} {vs1 vs2 : List Value} (l1 : Lies O w es1 v1 vs1) (l2 : Lies O w es2 v2 vs2) (c1 : Nat) (hv1 : ∃ a, v1 = .slice a es1.length c1)
    (hc1 : c1 < es1.length + es2.length) (hnil : v1 = .slice none es1.length c1 → c1 = 0)
    (hl1 : ∀ x, x ∈ es1 → x.length = i.size) (hl2 : ∀ x, x ∈ es2 → x.length = i.size) (hn2 : 0 < es2.length)
    (hmax : es1.length + es2.length ≤ maxLen) (hb : (es1.length + es2.length) * i.bytes ≤ 140737488355328) :
    ∃ cap cur, (Builtin.append_ #[t, t] ty #[v1, v2]).run P w = .ok (.slice (some ⟨w.heap.size, 0, none⟩) (es1 ++ es2).length cap) (w.drew.alloc (.cells cur e)) ∧ (es1 ++ es2).length ≤ cap ∧ cap ≤ maxLen ∧
      cur.size = cap * i.size ∧ ∀ j x, (es1 ++ es2).flatten[j]? = some x → RepP O w x (cur.getD j undef) ∧ (cur.getD j undef).oneCell' = true := by
  obtain ⟨a2, k2, rfl, h2⟩ := l2.slice
  obtain ⟨b2, rfl, hc2⟩ := h2 hn2
  obtain ⟨a1, k1, hv1', h1⟩ := l1.slice
  obtain ⟨a1', rfl⟩ := hv1
  injection hv1' with g1 g2 g3; subst g1 g3
  have hlen2 : vs2.length = es2.length * i.size := by rw [l2.len, flat_len i.size es2 hl2]
  have hlen1 : vs1.length = es1.length * i.size := by rw [l1.len, flat_len i.size es1 hl1]
  have h63 : ((es1.length + es2.length : Nat) : Int) ≤ 9223372036854775807 := by simp only [maxLen] at hmax; omega
  have hfin : ∀ N, (vs1.toArray ++ vs2.toArray ++ Builtin.zeroCells z.cells N).size = (es1.length + es2.length + N) * i.size := by
    intro N
    simp only [Array.size_append, List.size_toArray, size_zeroCells, hzs, hlen1, hlen2, Nat.add_mul]
  have hrep : ∀ N j x, (es1 ++ es2).flatten[j]? = some x → RepP O w x ((vs1.toArray ++ vs2.toArray ++ Builtin.zeroCells z.cells N).getD j undef) ∧ ((vs1.toArray ++ vs2.toArray ++ Builtin.zeroCells z.cells N).getD j undef).oneCell' = true := by
    intro N j x hx
    rw [List.flatten_append] at hx
    have hj := (List.getElem?_eq_some_iff.1 hx).1
    simp only [List.length_append] at hj
    rw [Array.getD_eq_getD_getElem?, Array.getElem?_append_left (by simp; rw [l1.len, l2.len]; simpa using hj)]
    by_cases hlt : j < es1.flatten.length
    · rw [List.getElem?_append_left hlt] at hx
      rw [Array.getElem?_append_left (by simp; rw [l1.len]; exact hlt)]
      have := l1.rep j x hx
      rw [List.getD_eq_getElem?_getD] at this
      simpa using this
    · rw [List.getElem?_append_right (by omega)] at hx
      rw [Array.getElem?_append_right (by simp; rw [l1.len]; omega)]
      have := l2.rep _ x hx
      rw [List.getD_eq_getElem?_getD] at this
      simpa [l1.len] using this
  cases a1' with
  | none =>
    have hc0 : c1 = 0 := hnil rfl
    have h0 : es1.length = 0 := by
      by_cases h : 0 < es1.length
      · obtain ⟨b, hb, _⟩ := h1 h; cases hb
      · omega
    have hes : es1 = [] := List.eq_nil_of_length_eq_zero h0
    subst hes hc0
    have hvs : vs1 = [] := List.eq_nil_of_length_eq_zero (by simpa using l1.len)
    subst hvs
    have hr := run_append_nil (P := P) w t ty e i z ht hi hz b2 es2.length k2 vs2 hlen2 hc2 hn2 (by simp at h63; omega) (by simp only [List.length_nil, Nat.zero_add] at hb; omega)
    refine ⟨_, _, hr, ?_, ?_, ?_, ?_⟩
    · simpa using grownCap_ge w es2.length 0 e
    · exact grownCap_le_maxLen w es2.length 0 e (by simpa using hmax)
    · have := hfin (grownCap w es2.length 0 e - es2.length)
      have hge := grownCap_ge w es2.length 0 e
      simp only [List.length_nil, Nat.zero_add] at this
      rw [show es2.length + (grownCap w es2.length 0 e - es2.length) = grownCap w es2.length 0 e by omega] at this
      simpa using this
    · intro j x hx
      have := hrep (grownCap w es2.length 0 e - es2.length) j x hx
      simpa using this
  | some b1 =>
    have holds : ∀ j u, vs1[j]? = some u → w.cell? (b1.add j) = some u := by
      intro j u hu
      have hp : 0 < es1.length := by
        have := (List.getElem?_eq_some_iff.1 hu).1
        rw [hlen1] at this
        exact Nat.pos_of_ne_zero (fun h => by rw [h] at this; simp at this)
      obtain ⟨b, hb, hc⟩ := h1 hp
      injection hb with hb; subst hb; exact hc j u hu
    have hr := run_append_grow (P := P) w t ty e i z ht hi hz b1 es1.length c1 vs1 hlen1 holds b2 es2.length k2 vs2 hlen2 hc2 hc1 h63 (growslice_fits hc1 hb)
    have hge := grownCap_ge w (es1.length + es2.length) c1 e
    refine ⟨_, _, by rw [hr, List.length_append], by rw [List.length_append]; exact hge, grownCap_le_maxLen w _ c1 e hmax, ?_, hrep _⟩
    rw [hfin]
    congr 1; omega

end Go.Am
