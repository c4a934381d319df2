/-
  Plain data: how many steps it takes at most.
-/
import Derived.Test.YthelnccjcbnjfaaP6
set_option linter.unusedSimpArgs false
set_option linter.unusedVariables false
namespace Go.Pl
theorem lv_up {g : Nat} (hg : 1 ≤ g) : ∀ (m n : Nat), n ≤ m → 1 ≤ n → lv g n ≤ lv g m := by
  intro m
  induction m using Nat.strongRecOn with
  | _ m ih =>
    intro n hn h1
    by_cases c1 : m ≤ g
    · rw [lv_base c1, lv_base (by omega)]; exact Nat.le_refl _
    · by_cases c2 : n ≤ g
      · rw [lv_base c2]; exact (lv_le hg m (by omega)).1
      · rw [lv_rec hg (n := m) (by omega), lv_rec hg (n := n) (by omega)]
        have a := ih (m / 2) (by omega) (n / 2) (by omega) (by omega)
        have b := ih (m - m / 2) (by omega) (n - n / 2) (by omega) (by omega)
        omega
theorem cntT_up {n m g : Int} (hn : cnt n g) (hm : cnt m g) (h : n ≤ m) : cntT n g ≤ cntT m g := by
  rw [cntT_eq hn, cntT_eq hm]
  unfold cntL
  rw [if_pos hn, if_pos hm]
  unfold cnt at hn hm
  have := lv_up (g := g.toNat) (by omega) m.toNat n.toNat (by omega) (by omega)
  omega
theorem cntT_grain {n g h : Int} (hg : cnt n g) (hh : cnt n h) (hgh : g ≤ h) : cntT n h ≤ cntT n g := by
  rw [cntT_eq hg, cntT_eq hh]
  unfold cntL
  rw [if_pos hg, if_pos hh]
  unfold cnt at hg hh
  have := lv_mono (g := g.toNat) (h := h.toNat) (by omega) (by omega) n.toNat
  omega
theorem cntT_pos {n g : Int} (h : cnt n g) : 1 ≤ cntT n g ∧ cntT n g ≤ 2 * n - 1 := by
  have h1 := cntL_le h
  rw [cntT_eq h]; omega
def phOk (n : Int) (p : Plan) : Prop := 1 ≤ n ∧ n ≤ 1000 ∧ planRight p
instance (n : Int) (p : Plan) : Decidable (phOk n p) := by unfold phOk; infer_instance
def phB (n : Int) (p : Plan) : Int := if phOk n p then p.picks.length + p.workers * (cntT n p.grain + 1) else 0
def leB (n : Int) (p : Plan) : Int := if phOk n p then cntT n p.grain else 0
theorem phOk_cnt {n : Int} {p : Plan} (h : phOk n p) : cnt n p.grain := by unfold phOk planRight at h; unfold cnt; omega
def blkOk' (n b : Int) : Prop := 0 ≤ n ∧ n ≤ 1000 ∧ 1 ≤ b ∧ b ≤ 100
instance (n b : Int) : Decidable (blkOk' n b) := by unfold blkOk'; infer_instance
def blk (n b : Int) : Int := if blkOk' n b then (n + b - 1) / b else 0
def scB (n b : Int) (p : Plan) : Int := 2 * phB (blk n b) p
def pas (b : Int) : Int := if 1 ≤ b ∧ b ≤ 16 then (32 + b - 1) / b else 0
structure Way where
  bits : Int
  block : Int
  plan : Plan
deriving Inhabited
def soB (n : Int) (w : Way) : Int := if pas w.bits = 0 ∨ blk n w.block = 0 then 0 else (pas w.bits + 1) * scB n w.block w.plan + phB n w.plan
theorem mul_up {a b c d : Int} (h1 : a ≤ b) (h2 : c ≤ d) (h3 : 0 ≤ c) (h4 : 0 ≤ b) : a * c ≤ b * d :=
  Int.le_trans (Int.mul_le_mul_of_nonneg_right h1 h3) (Int.mul_le_mul_of_nonneg_left h2 h4)
theorem phB_nn (n : Int) (p : Plan) : 0 ≤ phB n p ∧ phB n p ≤ 20000 := by
  unfold phB
  split
  · rename_i h
    have h1 := cntT_pos (phOk_cnt h)
    unfold phOk planRight at h
    have h2 : 0 ≤ p.workers * (cntT n p.grain + 1) := Int.mul_nonneg (by omega) (by omega)
    have h3 : p.workers * (cntT n p.grain + 1) ≤ 8 * 2000 := mul_up (by omega) (by omega) (by omega) (by omega)
    omega
  · omega
theorem phB_up {n m : Int} (p : Plan) (h0 : 0 ≤ n) (h : n ≤ m) (hm : m ≤ 1000) : phB n p ≤ phB m p := by
  by_cases h1 : phOk n p
  · have h2 : phOk m p := ⟨by have := h1.1; omega, hm, h1.2.2⟩
    unfold phB
    rw [if_pos h1, if_pos h2]
    have := cntT_up (phOk_cnt h1) (phOk_cnt h2) h
    have hw : 0 ≤ p.workers := by have := h1.2.2; unfold planRight at this; omega
    have := Int.mul_le_mul_of_nonneg_left (show cntT n p.grain + 1 ≤ cntT m p.grain + 1 by omega) hw
    omega
  · have := (phB_nn m p).1
    unfold phB at *
    rw [if_neg h1]; exact this
theorem leB_up {n m : Int} (p : Plan) (h0 : 0 ≤ n) (h : n ≤ m) (hm : m ≤ 1000) : leB n p ≤ leB m p := by
  by_cases h1 : phOk n p
  · have h2 : phOk m p := ⟨by have := h1.1; omega, hm, h1.2.2⟩
    unfold leB
    rw [if_pos h1, if_pos h2]
    exact cntT_up (phOk_cnt h1) (phOk_cnt h2) h
  · unfold leB
    rw [if_neg h1]
    split
    · rename_i h2; have := cntT_pos (phOk_cnt h2); omega
    · omega
theorem phB_leB (n : Int) (p : Plan) : leB n p ≤ phB n p := by
  unfold leB phB
  split
  · rename_i h
    have h1 := cntT_pos (phOk_cnt h)
    unfold phOk planRight at h
    have : 1 * (cntT n p.grain + 1) ≤ p.workers * (cntT n p.grain + 1) := Int.mul_le_mul_of_nonneg_right (by omega) (by omega)
    omega
  · omega
theorem phB_grain {n g : Int} {p : Plan} (h : p.grain ≤ g) (hg : 1 ≤ g ∧ g ≤ 100) (hp : planRight p) : phB n { p with grain := g } ≤ phB n p := by
  by_cases h1 : phOk n p
  · have h2 : phOk n { p with grain := g } := ⟨h1.1, h1.2.1, by unfold planRight at *; dsimp only; omega⟩
    unfold phB
    rw [if_pos h1, if_pos h2]
    have := cntT_grain (phOk_cnt h1) (phOk_cnt h2) h
    have hw : 0 ≤ p.workers := by unfold planRight at hp; omega
    have := Int.mul_le_mul_of_nonneg_left (show cntT n g + 1 ≤ cntT n p.grain + 1 by dsimp only at this; omega) hw
    dsimp only; omega
  · have h2 : ¬ phOk n { p with grain := g } := fun q => h1 ⟨q.1, q.2.1, hp⟩
    unfold phB
    rw [if_neg h1, if_neg h2]; exact Int.le_refl _
theorem blk_up {n m b : Int} (h0 : 0 ≤ n) (h : n ≤ m) (hm : m ≤ 1000) : 0 ≤ blk n b ∧ blk n b ≤ blk m b ∧ blk m b ≤ 1000 := by
  unfold blk
  by_cases h1 : 1 ≤ b ∧ b ≤ 100
  · rw [if_pos ⟨h0, by omega, h1⟩, if_pos ⟨by omega, hm, h1⟩]
    refine ⟨Int.ediv_nonneg (by omega) (by omega), Int.ediv_le_ediv (by omega) (by omega), ?_⟩
    refine Int.le_trans (Int.ediv_le_ediv (by omega) (show m + b - 1 ≤ 1000 * b by have := Int.mul_le_mul_of_nonneg_left h1.1 (show (0 : Int) ≤ 999 by decide); omega)) ?_
    rw [Int.mul_ediv_cancel _ (by omega)]; exact Int.le_refl _
  · rw [if_neg (fun q => h1 q.2.2), if_neg (fun q => h1 q.2.2)]; omega
theorem blk_0 (b : Int) : blk 0 b = 0 := by
  unfold blk
  split
  · rename_i h; unfold blkOk' at h; exact Int.ediv_eq_zero_of_lt (by omega) (by omega)
  · rfl
theorem scB_up {n m : Int} (b : Int) (p : Plan) (h0 : 0 ≤ n) (h : n ≤ m) (hm : m ≤ 1000) : scB n b p ≤ scB m b p := by
  obtain ⟨h1, h2, h3⟩ := blk_up (b := b) h0 h hm
  have := phB_up p h1 h2 h3
  unfold scB; omega
theorem scB_nn (n b : Int) (p : Plan) : 0 ≤ scB n b p ∧ scB n b p ≤ 40000 := by
  have := phB_nn (blk n b) p
  unfold scB; omega
theorem pas_nn (b : Int) : 0 ≤ pas b ∧ pas b ≤ 32 := by
  unfold pas
  split
  · rename_i h
    refine ⟨Int.ediv_nonneg (by omega) (by omega), ?_⟩
    have : (32 + b - 1) / b ≤ (32 * b) / b := Int.ediv_le_ediv (by omega) (by omega)
    rwa [Int.mul_ediv_cancel _ (by omega)] at this
  · omega
theorem soB_nn (n : Int) (w : Way) : 0 ≤ soB n w ∧ soB n w ≤ 2000000 := by
  have h1 := pas_nn w.bits
  have h2 := scB_nn n w.block w.plan
  have h3 := phB_nn n w.plan
  unfold soB
  split
  · omega
  · have h4 : 0 ≤ (pas w.bits + 1) * scB n w.block w.plan := Int.mul_nonneg (by omega) h2.1
    have h5 : (pas w.bits + 1) * scB n w.block w.plan ≤ 33 * 40000 := mul_up (by omega) h2.2 h2.1 (by omega)
    omega
theorem soB_up {n m : Int} (w : Way) (h0 : 0 ≤ n) (h : n ≤ m) (hm : m ≤ 1000) : soB n w ≤ soB m w := by
  obtain ⟨h1, h2, h3⟩ := blk_up (b := w.block) h0 h hm
  by_cases c : pas w.bits = 0 ∨ blk n w.block = 0
  · have := (soB_nn m w).1
    unfold soB at *
    rw [if_pos c]; exact this
  · have c2 : ¬ (pas w.bits = 0 ∨ blk m w.block = 0) := by omega
    have a := scB_up w.block w.plan h0 h hm
    have b := phB_up w.plan h0 h hm
    have p0 := (pas_nn w.bits).1
    unfold soB
    rw [if_neg c, if_neg c2]
    have := Int.mul_le_mul_of_nonneg_left a (show 0 ≤ pas w.bits + 1 by omega)
    omega
/-- what the document adds up -/
theorem soB_ref (n : Int) (w : Way) : soB n w = if pas w.bits = 0 ∨ ¬ blkOk' n w.block then 0 else pas w.bits * scB n w.block w.plan + scB n w.block w.plan + phB n w.plan := by
  unfold soB
  by_cases c : pas w.bits = 0
  · rw [if_pos (.inl c), if_pos (.inl c)]
  · by_cases c2 : blkOk' n w.block
    · rw [if_neg (show ¬ (pas w.bits = 0 ∨ ¬ blkOk' n w.block) from fun q => q.elim c (fun e => e c2))]
      by_cases c3 : blk n w.block = 0
      · rw [if_pos (.inr c3)]
        have hn : n = 0 := by
          unfold blk at c3; rw [if_pos c2] at c3
          by_cases h0 : n = 0
          · exact h0
          · have c4 := c2
            unfold blkOk' at c4
            have : 1 ≤ (n + w.block - 1) / w.block := by
              rw [Int.le_ediv_iff_mul_le (by omega)]; omega
            omega
        have e1 : phB n w.plan = 0 := by unfold phB; rw [if_neg (by rintro ⟨q, _⟩; omega)]
        have e2 : scB n w.block w.plan = 0 := by unfold scB phB; rw [if_neg (by rintro ⟨q, _⟩; omega)]; rfl
        rw [e1, e2]; simp
      · rw [if_neg (by omega), Int.add_mul]; omega
    · rw [if_pos (.inr (by unfold blk; rw [if_neg c2])), if_pos (.inr c2)]
theorem soB_bad {n : Int} {w : Way} (h : ¬ (pas w.bits ≠ 0 ∧ (1 ≤ w.block ∧ w.block ≤ 100) ∧ planRight w.plan)) : soB n w = 0 := by
  rw [soB_ref]
  by_cases c : pas w.bits = 0
  · rw [if_pos (.inl c)]
  · by_cases c2 : 1 ≤ w.block ∧ w.block ≤ 100
    · have c3 : ¬ planRight w.plan := fun q => h ⟨c, c2, q⟩
      have e : ∀ m, phB m w.plan = 0 := fun m => by unfold phB; rw [if_neg (fun q => c3 q.2.2)]
      split
      · rfl
      · unfold scB; rw [e, e]; simp
    · rw [if_pos (.inr (fun q => c2 q.2.2))]
structure Edge where
  u : Int
  v : Int
deriving DecidableEq, Inhabited
structure Ask where
  kind : Int
  u : Int
  v : Int
deriving DecidableEq, Inhabited
structure Batch where
  kind : Int
  edges : List Edge
  asks : List Ask
deriving DecidableEq, Inhabited
def fits (n : Int) : Prop := 0 ≤ n ∧ n ≤ 65535
instance (n : Int) : Decidable (fits n) := by unfold fits; infer_instance
def okEdge (e : Edge) : Prop := fits e.u ∧ fits e.v
instance (e : Edge) : Decidable (okEdge e) := by unfold okEdge; infer_instance
def okAsk (a : Ask) : Prop := (1 ≤ a.kind ∧ a.kind ≤ 4) ∧ fits a.u ∧ fits a.v
instance (a : Ask) : Decidable (okAsk a) := by unfold okAsk; infer_instance
def batchRight (x : Batch) : Prop := ((x.kind = 1 ∨ x.kind = 2) ∧ x.asks.length = 0 ∧ x.edges.length ≤ 60 ∧ ∀ e ∈ x.edges, okEdge e) ∨ (x.kind = 3 ∧ x.edges.length = 0 ∧ x.asks.length ≤ 60 ∧ ∀ a ∈ x.asks, okAsk a)
instance (x : Batch) : Decidable (batchRight x) := by unfold batchRight; infer_instance
def baB (x : Batch) (w : Way) : Int := if ¬ batchRight x then 0 else if x.kind = 3 then phB x.asks.length w.plan else if soB 1 w = 0 then 0 else soB x.edges.length w + phB x.edges.length w.plan
def stB (l : List Batch) (w : Way) : Int := (l.map fun x => baB x w).sum
theorem baB_nn (x : Batch) (w : Way) : 0 ≤ baB x w ∧ baB x w ≤ 2100000 := by
  have h1 := phB_nn x.asks.length w.plan
  have h2 := soB_nn x.edges.length w
  have h3 := phB_nn x.edges.length w.plan
  unfold baB
  split
  · omega
  · split
    · omega
    · split <;> omega
theorem stB_take (l : List Batch) (w : Way) (i : Nat) (h : i < l.length) : stB (l.take (i + 1)) w = stB (l.take i) w + baB (l.getD i default) w := by
  unfold stB
  rw [List.take_add_one, List.map_append, List.sum_append, List.getD_eq_getElem?_getD, List.getElem?_eq_getElem h]
  simp
theorem stB_nn (w : Way) : ∀ l : List Batch, 0 ≤ stB l w ∧ stB l w ≤ 2100000 * l.length
  | [] => ⟨Int.le_refl _, by simp [stB]⟩
  | x :: l => by
    have h1 := stB_nn w l
    have h2 := baB_nn x w
    have e : stB (x :: l) w = baB x w + stB l w := by simp [stB]
    rw [e, List.length_cons]; omega
end Go.Pl
