/-
  The abstract machine, fifteenth part: the region that draws, in whatever order.
-/
import Derived.Test.YtbdliooaiincdaaAm14
namespace Go.Am
open Go.RowKit

theorem okRow_spec {D : Ord} {gd : Nat → Option Nat} {j : Nat} {y : Oper} : ∀ (os : List Oper) (i : Nat), okRow D gd j y i os = true → ∀ k x, os[k]? = some x → okPair D gd (i + k) j x y = true
  | [], i, _, k, x, hk => by simp at hk
  | o :: os, i, h, k, x, hk => by
    simp only [okRow, Bool.and_eq_true] at h
    cases k with
    | zero => simp only [List.getElem?_cons_zero, Option.some.injEq] at hk; subst hk; exact h.1
    | succ k =>
      have := okRow_spec os (i + 1) h.2 k x (by simpa using hk)
      rwa [show i + 1 + k = i + (k + 1) by omega] at this
theorem okRows_spec {D : Ord} {ops : Array Oper} {gd : Nat → Option Nat} : ∀ (os : List Oper) (j : Nat), okRows D ops gd j os = true → ∀ k y, os[k]? = some y →
    (∀ e, e ∈ y.after.toList → Region.binds .any e = true → e.on < j + k) ∧ ∀ i x, ops.toList[i]? = some x → okPair D gd i (j + k) x y = true
  | [], j, _, k, y, hk => by simp at hk
  | o :: os, j, h, k, y, hk => by
    simp only [okRows, Bool.and_eq_true] at h
    cases k with
    | zero =>
      simp only [List.getElem?_cons_zero, Option.some.injEq] at hk; subst hk
      refine ⟨fun e he hb => ?_, fun i x hi => ?_⟩
      · have := List.all_eq_true.1 h.1.1 e he
        simpa [hb] using this
      · have := okRow_spec ops.toList 0 h.1.2 i x hi
        simpa using this
    | succ k =>
      have := okRows_spec os (j + 1) h.2 k y (by simpa using hk)
      rwa [show j + 1 + k = j + (k + 1) by omega] at this

structure OrdOk (D : Ord) (ops : Array Oper) : Prop where
  edge : ∀ j y, ops[j]? = some y → ∀ e, e ∈ y.after.toList → Region.binds .any e = true → e.on < j
  why : ∀ i j x y, ops[i]? = some x → ops[j]? = some y → D.bit i j = true → ∃ e, e ∈ y.after.toList ∧ Region.binds .any e = true ∧ (e.on = i ∨ D.bit i e.on = true)
  conf : ∀ i j x y, ops[i]? = some x → ops[j]? = some y → i < j → (slotConflict (gdOf ops) x y = true ∨ (D.isW i = true ∧ D.isRW j = true) ∨ (D.isRW i = true ∧ D.isW j = true)) → D.bit i j = true
  vis : ∀ i j, D.sees i j = true → i < j ∧ D.bit i j = true
  small : ∀ i j, D.bit i j = true → i < ops.size ∧ j < ops.size

theorem ordOk_of {D : Ord} {ops : Array Oper} (h : okD D ops = true) : OrdOk D ops := by
  unfold okD at h
  simp only [Bool.and_eq_true, decide_eq_true_eq] at h
  obtain ⟨⟨⟨h1, h2⟩, h3⟩, h4⟩ := h
  have hr := okRows_spec (D := D) (ops := ops) ops.toList 0 h1
  simp only [Nat.zero_add] at hr
  refine ⟨fun j y hj => (hr j y (by simpa using hj)).1, fun i j x y hi hj hb => ?_, fun i j x y hi hj hlt hc => ?_, fun i j hs => ?_, fun i j hb => ?_⟩
  · have := (hr j y (by simpa using hj)).2 i x (by simpa using hi)
    simp only [okPair, Bool.and_eq_true, Bool.or_eq_true, hb, Bool.not_true, Bool.false_eq_true, false_or, List.any_eq_true, beq_iff_eq] at this
    obtain ⟨⟨e, he, hbi, hor⟩, _⟩ := this
    exact ⟨e, he, hbi, hor⟩
  · have := (hr j y (by simpa using hj)).2 i x (by simpa using hi)
    simp only [okPair, Bool.and_eq_true] at this
    have h2 := this.2
    simp only [Bool.or_eq_true, Bool.not_eq_true', decide_eq_false_iff_not, Bool.or_eq_false_iff, Bool.and_eq_false_iff] at h2
    rcases h2 with (h2 | h2) | ⟨⟨h2, h3⟩, h4⟩
    · exact absurd hlt h2
    · exact h2
    · rcases hc with hc | ⟨c1, c2⟩ | ⟨c1, c2⟩
      · rw [h2] at hc; cases hc
      · rcases h3 with h3 | h3
        · rw [c1] at h3; cases h3
        · rw [c2] at h3; cases h3
      · rcases h4 with h4 | h4
        · rw [c1] at h4; cases h4
        · rw [c2] at h4; cases h4
  · unfold Ord.sees at hs
    have := List.all_eq_true.1 h2 (i, j) (by simpa using hs)
    simpa using this
  · unfold Ord.bit at hb
    have hj : j < D.B.length := by
      by_cases hj : j < D.B.length
      · exact hj
      · rw [List.getD_eq_getElem?_getD, List.getElem?_eq_none (by omega)] at hb; simp at hb
    refine ⟨?_, by omega⟩
    have := List.all_eq_true.1 h3 (D.B[j], j) (by rw [List.mem_zipIdx_iff_getElem?]; simp [hj])
    simp only [decide_eq_true_eq] at this
    rw [List.getD_eq_getElem?_getD, List.getElem?_eq_getElem hj, Option.getD_some] at hb
    by_cases hi : i < ops.size
    · exact hi
    · have : D.B[j] < 2 ^ i := Nat.lt_of_lt_of_le this (Nat.pow_le_pow_right (by omega) (by omega))
      rw [Nat.testBit_lt_two_pow this] at hb; cases hb

/-! ### the state behind some of the operations -/
def touches (us : Nat → Upd) (j id : Nat) : Bool := (us j).hps.any fun p => p.1 == id
def hval (us : Nat → Upd) (j id : Nat) : Option Blk := PS.setHp (fun _ => none) (us j).hps id
def dstOf (ops : List Oper) (j : Nat) : Option Nat := (ops[j]?).bind (·.dst)
def writes (ops : List Oper) (j d : Nat) : Bool := dstOf ops j == some d

def PSof (ops : List Oper) (us : Nat → Upd) (s0 : PS) (S : Nat → Bool) (n : Nat) : PS :=
  ⟨fun d => match last (fun j => S j && writes ops j d) n with | some j => some (us j).val | none => s0.sl d,
   fun id => match last (fun j => S j && touches us j id) n with | some j => hval us j id | none => s0.hp id⟩

theorem setHp_eq (hp : Nat → Option Blk) : ∀ (l : List (Nat × Option Blk)) (id : Nat), PS.setHp hp l id = if l.any (fun p => p.1 == id) = true then PS.setHp (fun _ => none) l id else hp id
  | [], id => by simp [PS.setHp]
  | (i, k) :: l, id => by
    simp only [PS.setHp, List.any_cons]
    by_cases h : id = i
    · subst h; simp
    · have : (i == id) = false := by simp; exact fun e => h e.symm
      simp only [h, if_false, this, Bool.false_or]
      exact setHp_eq hp l id

theorem stFrom_sl (ops : List Oper) (us : Nat → Upd) (s0 : PS) (d : Nat) : ∀ k, (stFrom ops us s0 k).sl d = match last (fun j => writes ops j d) k with | some j => some (us j).val | none => s0.sl d
  | 0 => rfl
  | k + 1 => by
    simp only [stFrom, last, PS.upd]
    by_cases h : writes ops k d = true
    · have : (ops[k]?).bind (·.dst) = some d := by simpa [writes, dstOf] using h
      rw [if_pos h, if_pos this]
    · have : ¬ (ops[k]?).bind (·.dst) = some d := by simpa [writes, dstOf] using h
      rw [if_neg h, if_neg this]
      exact stFrom_sl ops us s0 d k
theorem stFrom_hp (ops : List Oper) (us : Nat → Upd) (s0 : PS) (id : Nat) : ∀ k, (stFrom ops us s0 k).hp id = match last (fun j => touches us j id) k with | some j => hval us j id | none => s0.hp id
  | 0 => rfl
  | k + 1 => by
    simp only [stFrom, last, PS.upd]
    rw [setHp_eq]
    by_cases h : ((us k).hps.any fun p => p.1 == id) = true
    · rw [if_pos h, if_pos (show touches us k id = true from h)]; rfl
    · rw [if_neg h, if_neg (show ¬ touches us k id = true from h)]; exact stFrom_hp ops us s0 id k

theorem psOf_full (ops : List Oper) (us : Nat → Upd) (s0 : PS) (S : Nat → Bool) (n : Nat) (hS : ∀ j, j < n → S j = true) : PSof ops us s0 S n = stFrom ops us s0 n := by
  have h1 : ∀ d, (PSof ops us s0 S n).sl d = (stFrom ops us s0 n).sl d := by
    intro d
    rw [stFrom_sl]
    simp only [PSof]
    rw [last_eq (p := fun j => writes ops j d) (q := fun j => S j && writes ops j d) (i := n) (fun j hj hp => ⟨hj, by simp [hS j hj, hp]⟩) (fun j hj hq => ⟨hj, by simp at hq; exact hq.2⟩)]
  have h2 : ∀ id, (PSof ops us s0 S n).hp id = (stFrom ops us s0 n).hp id := by
    intro id
    rw [stFrom_hp]
    simp only [PSof]
    rw [last_eq (p := fun j => touches us j id) (q := fun j => S j && touches us j id) (i := n) (fun j hj hp => ⟨hj, by simp [hS j hj, hp]⟩) (fun j hj hq => ⟨hj, by simp at hq; exact hq.2⟩)]
  generalize PSof ops us s0 S n = a at *
  generalize stFrom ops us s0 n = b at *
  cases a; cases b
  simp only [PS.mk.injEq]
  exact ⟨funext h1, funext h2⟩

theorem mem_touches {us : Nat → Upd} {j id : Nat} (h : touches us j id = true) : ∃ p, p ∈ (us j).hps ∧ p.1 = id := by
  simp only [touches, List.any_eq_true, beq_iff_eq] at h
  exact h

end Go.Am
