/-
  Plain data: batches that may be; what a bound comes to.
-/
import Derived.Test.YthelnccjcbnjfaaP7
set_option linter.unusedSimpArgs false
set_option linter.unusedVariables false
namespace Go.Pl
def firstB {α : Type} (p : α → Bool) (l : List α) : Int := match l.findIdx? p with
  | some i => i
  | none => -1
theorem firstB_at {α : Type} [Inhabited α] {p : α → Bool} {l : List α} {i : Nat} (hi : i < l.length) (h : ∀ j, j < i → p (l.getD j default) = false) (h2 : p (l.getD i default) = true) : firstB p l = i := by
  have : l.findIdx? p = some i := by
    rw [List.findIdx?_eq_some_iff_getElem]
    refine ⟨hi, ?_, fun j hj => ?_⟩
    · rw [List.getD_eq_getElem?_getD, List.getElem?_eq_getElem hi] at h2; exact h2
    · have := h j hj
      rw [List.getD_eq_getElem?_getD, List.getElem?_eq_getElem (by omega)] at this
      simpa using this
  unfold firstB; rw [this]
theorem all_of {α : Type} [Inhabited α] {p : α → Bool} {l : List α} {i : Nat} (hi : l.length ≤ i) (h : ∀ j, j < i → j < l.length → p (l.getD j default) = false) : ∀ x, x ∈ l → p x = false := fun x hx => by
  obtain ⟨k, hk, e⟩ := List.getElem_of_mem hx
  have := h k (by omega) hk
  rw [List.getD_eq_getElem?_getD, List.getElem?_eq_getElem hk] at this
  rw [← e]; exact this
theorem firstB_no {α : Type} [Inhabited α] {p : α → Bool} {l : List α} {i : Nat} (hi : l.length ≤ i) (h : ∀ j, j < i → j < l.length → p (l.getD j default) = false) : firstB p l = -1 := by
  have : l.findIdx? p = none := by
    rw [List.findIdx?_eq_none_iff]
    exact all_of hi h
  unfold firstB; rw [this]
theorem firstB_iff {α : Type} (p : α → Bool) (l : List α) : (0 ≤ firstB p l) ↔ ∃ x, x ∈ l ∧ p x = true := by
  unfold firstB
  split
  · rename_i i h
    rw [List.findIdx?_eq_some_iff_getElem] at h
    obtain ⟨hi, h1, _⟩ := h
    exact ⟨fun _ => ⟨_, List.getElem_mem hi, h1⟩, fun _ => by omega⟩
  · rename_i h
    rw [List.findIdx?_eq_none_iff] at h
    exact ⟨fun q => by omega, fun ⟨x, h1, h2⟩ => by rw [h x h1] at h2; cases h2⟩
theorem firstB_ge {α : Type} (p : α → Bool) (l : List α) : -1 ≤ firstB p l ∧ firstB p l ≤ l.length := by
  unfold firstB
  split
  · rename_i i h
    rw [List.findIdx?_eq_some_iff_getElem] at h
    obtain ⟨hi, _⟩ := h; omega
  · omega
theorem contains_eq {α : Type} (p : α → Bool) (q : α → Prop) [DecidablePred q] (l : List α) (h : ∀ x, p x = decide (¬ q x)) : decide (0 ≤ firstB p l) = decide (¬ ∀ x ∈ l, q x) := by
  refine decide_eq_decide.mpr ?_
  rw [firstB_iff]
  constructor
  · rintro ⟨x, h1, h2⟩ h3
    rw [h x, decide_eq_true_eq] at h2
    exact h2 (h3 x h1)
  · intro h3
    refine Decidable.byContradiction fun h4 => h3 fun x hx => Decidable.byContradiction fun h5 => h4 ⟨x, hx, ?_⟩
    rw [h x, decide_eq_true_eq]; exact h5
theorem br_1 {x : Batch} (h : x.kind = 1 ∨ x.kind = 2) : batchRight x ↔ (x.asks.length = 0 ∧ x.edges.length ≤ 60 ∧ ∀ e ∈ x.edges, okEdge e) := by
  unfold batchRight
  constructor
  · rintro (⟨_, q⟩ | ⟨q, _⟩)
    · exact q
    · omega
  · intro q; exact .inl ⟨h, q⟩
theorem br_3 {x : Batch} (h : x.kind = 3) : batchRight x ↔ (x.edges.length = 0 ∧ x.asks.length ≤ 60 ∧ ∀ a ∈ x.asks, okAsk a) := by
  unfold batchRight
  constructor
  · rintro (⟨q, _⟩ | ⟨_, q⟩)
    · omega
    · exact q
  · intro q; exact .inr ⟨h, q⟩
theorem br_no {x : Batch} (h1 : ¬ x.kind = 1) (h2 : ¬ x.kind = 2) (h3 : ¬ x.kind = 3) : ¬ batchRight x := by
  unfold batchRight
  rintro (⟨q, _⟩ | ⟨q, _⟩)
  · omega
  · exact h3 q
/-- what the document asks of a batch first -/
def shape (x : Batch) : Prop := 1 ≤ x.kind ∧ x.kind ≤ 3 ∧ (x.kind = 3 → x.edges.length = 0) ∧ (x.kind ≠ 3 → x.asks.length = 0) ∧ x.edges.length ≤ 60 ∧ x.asks.length ≤ 60
instance (x : Batch) : Decidable (shape x) := by unfold shape; infer_instance
theorem br_ref {x : Batch} (h : shape x) (h1 : ∀ e, e ∈ x.edges → okEdge e) (h2 : ∀ a, a ∈ x.asks → okAsk a) : batchRight x := by
  unfold shape at h
  by_cases c : x.kind = 3
  · exact (br_3 c).2 ⟨h.2.2.1 c, h.2.2.2.2.2, h2⟩
  · exact (br_1 (by omega)).2 ⟨h.2.2.2.1 c, h.2.2.2.2.1, h1⟩
theorem br_shape {x : Batch} (h : batchRight x) : shape x ∧ (∀ e, e ∈ x.edges → okEdge e) ∧ ∀ a, a ∈ x.asks → okAsk a := by
  unfold batchRight at h
  rcases h with ⟨h0, h1, h2, h3⟩ | ⟨h0, h1, h2, h3⟩
  · have : x.asks = [] := List.eq_nil_of_length_eq_zero h1
    exact ⟨⟨by omega, by omega, by omega, by omega, h2, by omega⟩, h3, fun a ha => (by rw [this] at ha; cases ha)⟩
  · have : x.edges = [] := List.eq_nil_of_length_eq_zero h1
    exact ⟨⟨by omega, by omega, by omega, by omega, by omega, h2⟩, fun a ha => (by rw [this] at ha; cases ha), h3⟩
def bdOk (n g w : Int) : Prop := cnt n g ∧ 1 ≤ w ∧ w ≤ 8
instance (n g w : Int) : Decidable (bdOk n g w) := by unfold bdOk; infer_instance
def bd (n g w : Int) : Int := if bdOk n g w then w * (cntT n g + 1) else 0
theorem bd_begin (n g w : Int) : (crewBegin n g w).2 = 0 ↔ bdOk n g w := by
  by_cases c1 : w < 1 ∨ 8 < w
  · rw [begin_1 c1]; exact ⟨fun h => absurd h (by decide), fun h => by unfold bdOk at h; omega⟩
  · by_cases c2 : cnt n g
    · have : (crewBegin n g w).2 = 0 := by unfold crewBegin; rw [if_neg c1, if_neg (by simpa using c2)]
      exact ⟨fun _ => ⟨c2, by omega, by omega⟩, fun _ => this⟩
    · have : (crewBegin n g w).2 = 1 := by unfold crewBegin; rw [if_neg c1, if_pos c2]
      exact ⟨fun h => by omega, fun q => absurd q.1 c2⟩
theorem bd_nn {n g w : Int} (h : bdOk n g w) : 0 ≤ w * (cntT n g + 1) ∧ w * (cntT n g + 1) ≤ 16000 ∧ 1 ≤ cntT n g ∧ cntT n g ≤ 1999 := by
  have h1 := cntT_pos h.1
  have h0 := h.2
  have h2 : cntT n g ≤ 1999 := by have := h.1; unfold cnt at this; omega
  refine ⟨Int.mul_nonneg (by omega) (by omega), ?_, h1.1, h2⟩
  have : w * (cntT n g + 1) ≤ 8 * 2000 := mul_up (by omega) (by omega) (by omega) (by omega)
  omega
theorem phB_bd {n : Int} {p : Plan} (h : phOk n p) : phB n p = p.picks.length + bd n p.grain p.workers ∧ 0 ≤ bd n p.grain p.workers ∧ bd n p.grain p.workers ≤ 16000 := by
  have hb : bdOk n p.grain p.workers := ⟨phOk_cnt h, by have := h.2.2; unfold planRight at this; omega, by have := h.2.2; unfold planRight at this; omega⟩
  have h1 := bd_nn hb
  unfold phB bd
  rw [if_pos h, if_pos hb]
  exact ⟨rfl, h1.1, h1.2.1⟩
end Go.Pl
