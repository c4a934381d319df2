/-
  The law DequeEnds answers true.
-/
import Derived.Test.YtbdliooaiincdaaD2
import Derived.Test.YtbdliooaiincdaaAm23
namespace Go.Proofs.Ytbdliooaiincdaa
open Go.Am Go.Proofs
theorem en14 : enters Try.prog 14 = true := by kernel_rfl
set_option maxHeartbeats 4000000 in
set_option maxRecDepth 100000 in
theorem c6 (c : Bool) (l : List Int) (n : Int) : PCall Try.prog 6 [ints c l, iV n] (bV true) := by
  refine pcall_of_awp Try.func6 rfl (by simp [Try.ntmps6]) fun C hC => ?_
  refine awp_le (le_keep [0, 1]) ?_
  simp only [keepL_nil, keepL_cons, keepM_some, argSl, lkp_cons, ↓reduceIte, reduceCtorEq, Nat.zero_add]
  refine awp_sr [] (by rw [hC]; rfl) fun k hk => ?_
  simp (maxSteps := 4000000) (disch := first | omega | (simp only [List.length_append, List.length_take, List.length_drop, List.length_cons, List.length_nil, List.length_dropLast]; omega)) only [am, ↓amb, mark_eq, Nat.zero_add, List.length_cons, List.length_nil]
  (repeat (refine ⟨by first | omega | (simp; done) | assumption | (unfold maxLen; omega) | (simp [maxLen]; omega), ?_⟩)); refine hk _ ?_; clear hk; clear k
  refine awp_seq fun k1 h1 => ?_
  refine awp_le (le_keep [0, 1, 4]) ?_
  simp only [keepL_nil, keepL_cons, keepM_some, lkp_cons, Nat.reduceEqDiff, ↓reduceIte, reduceCtorEq]
  refine awp_sr [] (by rw [hC]; rfl) fun k hk => ?_
  simp (maxSteps := 4000000) (disch := first | omega | (simp only [List.length_append, List.length_take, List.length_drop, List.length_cons, List.length_nil, List.length_dropLast]; omega)) only [am, ↓amb, mark_eq, true_and, List.append_nil, en14]
  (repeat (refine ⟨by first | omega | (simp; done) | assumption | (unfold maxLen; omega) | (simp [maxLen]; omega), ?_⟩))
  refine callK_p (c14) rfl ?_
  simp (maxSteps := 4000000) (disch := first | omega | (simp only [List.length_append, List.length_take, List.length_drop, List.length_cons, List.length_nil, List.length_dropLast]; omega)) only [am, ↓amb, mark_eq, Nat.zero_add, Nat.reduceAdd, ↓reduceIte, List.length_cons, List.length_nil, Bool.not_true]
  (repeat (refine ⟨by first | omega | (simp; done) | assumption | (unfold maxLen; omega) | (simp [maxLen]; omega), ?_⟩)); refine hk _ ?_; clear hk; clear k
  refine awp_cond rfl (fun hb => ?_) (fun hb => ?_)
  · -- branch 1
    try simp only [decide_eq_true_eq, decide_eq_false_iff_not, Int.not_lt, Int.not_le, beq_iff_eq, bne_iff_ne, ne_eq, beq_eq_false_iff_ne, bne_eq_false_iff_eq, Bool.not_eq_true, Bool.not_eq_false, Bool.not_true, Bool.not_false, Bool.not_eq_false', Bool.not_eq_true', Decidable.not_not] at hb
    refine awp_le (le_keep []) ?_
    simp only [keepL_nil]
    refine awp_sr [] (by rw [hC]; rfl) fun k hk => ?_
    simp (maxSteps := 4000000) (disch := first | omega | (simp only [List.length_append, List.length_take, List.length_drop, List.length_cons, List.length_nil, List.length_dropLast]; omega)) only [am, ↓amb, mark_eq, Nat.zero_add, Nat.reduceAdd, List.length_cons, List.length_nil]
    (repeat (refine ⟨by first | omega | (simp; done) | assumption | (unfold maxLen; omega) | (simp [maxLen]; omega), ?_⟩)); refine hk _ ?_; clear hk; clear k
    refine awp_ret ?_
    exact absurd hb (by simp)
  · -- branch 2
    try simp only [decide_eq_true_eq] at hb
    refine awp_skip ?_
    refine h1 _ ?_; clear h1; clear k1
    refine awp_seq fun k2 h2 => ?_
    refine awp_le (le_keep [0, 1, 4]) ?_
    simp only [keepL_nil, keepL_cons, keepM_some, lkp_cons, Nat.reduceEqDiff, ↓reduceIte, reduceCtorEq]
    refine awp_sr [] (by rw [hC]; rfl) fun k hk => ?_
    simp (maxSteps := 4000000) (disch := first | omega | (simp only [List.length_append, List.length_take, List.length_drop, List.length_cons, List.length_nil, List.length_dropLast]; omega)) only [am, ↓amb, mark_eq, Nat.zero_add, List.length_map, Nat.reduceAdd, ↓reduceIte, List.length_cons, List.length_nil, el22]
    (repeat (refine ⟨by first | omega | (simp; done) | assumption | (unfold maxLen; omega) | (simp [maxLen]; omega), ?_⟩)); refine hk _ ?_; clear hk; clear k
    refine awp_cond rfl (fun hb => ?_) (fun hb => ?_)
    · -- branch 3
      try simp only [decide_eq_true_eq] at hb
      refine awp_le (le_keep []) ?_
      simp only [keepL_nil]
      refine awp_sr [] (by rw [hC]; rfl) fun k hk => ?_
      simp (maxSteps := 4000000) (disch := first | omega | (simp only [List.length_append, List.length_take, List.length_drop, List.length_cons, List.length_nil, List.length_dropLast]; omega)) only [am, ↓amb, mark_eq, Nat.zero_add, Nat.reduceAdd, List.length_cons, List.length_nil]
      (repeat (refine ⟨by first | omega | (simp; done) | assumption | (unfold maxLen; omega) | (simp [maxLen]; omega), ?_⟩)); refine hk _ ?_; clear hk; clear k
      refine awp_ret ?_
      refine ret1 rfl rfl ?_
      exact .p (LeP.refl _)
    · -- branch 4
      try simp only [decide_eq_false_iff_not, Int.not_lt] at hb
      refine awp_skip ?_
      refine h2 _ ?_; clear h2; clear k2
      refine awp_le (le_keep [0, 1]) ?_
      simp only [keepL_nil, keepL_cons, keepM_some, lkp_cons, Nat.reduceEqDiff, ↓reduceIte, reduceCtorEq]
      have p15 : PCall Try.prog 15 [ints c l, iV n] (.tup [ints false (l ++ [n]), iV 0]) := by have h := c15 c l n (by omega); simpa only [pushS, if_neg (show ¬ 1000 ≤ l.length by omega)] using h
      have p17 : PCall Try.prog 17 [ints false (l ++ [n])] (.tup [ints false l, iV n, iV 0]) := by simpa [popS] using c17 false (l ++ [n]) (by simp; omega)
      have p21 : PCall Try.prog 21 [ints false (l ++ [n])] (.tup [iV n, iV ((l ++ [n]).getD 0 0), bV true]) := by have h := c21 false (l ++ [n]) (by simp; omega); simpa [lookS] using h
      have p23 : PCall Try.prog 23 [ints false l, ints c l] (bV true) := by simpa using c23 false c l l (by omega)
      refine awp_sr [] (by rw [hC]; rfl) fun k hk => ?_
      simp (maxSteps := 4000000) (disch := first | omega | (simp only [List.length_append, List.length_take, List.length_drop, List.length_cons, List.length_nil, List.length_dropLast]; omega)) only [am, ↓amb, mark_eq, true_and, Nat.reduceEqDiff, ↓reduceIte, reduceCtorEq, List.append_nil, en15]
      (repeat (refine ⟨by first | omega | (simp; done) | assumption | (unfold maxLen; omega) | (simp [maxLen]; omega), ?_⟩))
      refine callK_p (p15) rfl ?_
      simp (maxSteps := 4000000) (disch := first | omega | (simp only [List.length_append, List.length_take, List.length_drop, List.length_cons, List.length_nil, List.length_dropLast]; omega)) only [am, ↓amb, mark_eq, Nat.zero_add, Nat.reduceEqDiff, Nat.reduceAdd, ↓reduceIte, List.length_cons, List.length_nil, List.map_cons, List.map_nil, List.getElem?_cons_zero, List.getElem?_cons_succ]
      (repeat (refine ⟨by first | omega | (simp; done) | assumption | (unfold maxLen; omega) | (simp [maxLen]; omega), ?_⟩)); refine hk _ ?_; clear hk; clear k
      refine awp_le (le_keep [0, 1, 5, 6]) ?_
      simp only [keepL_nil, keepL_cons, keepM_some, lkp_cons, Nat.reduceEqDiff, ↓reduceIte, reduceCtorEq]
      refine awp_sr [] (by rw [hC]; rfl) fun k hk => ?_
      simp (maxSteps := 4000000) (disch := first | omega | (simp only [List.length_append, List.length_take, List.length_drop, List.length_cons, List.length_nil, List.length_dropLast]; omega)) only [am, ↓amb, mark_eq, true_and, Nat.reduceEqDiff, ↓reduceIte, reduceCtorEq, List.append_nil, en17]
      (repeat (refine ⟨by first | omega | (simp; done) | assumption | (unfold maxLen; omega) | (simp [maxLen]; omega), ?_⟩))
      refine callK_p (p17) rfl ?_
      simp (maxSteps := 4000000) (disch := first | omega | (simp only [List.length_append, List.length_take, List.length_drop, List.length_cons, List.length_nil, List.length_dropLast]; omega)) only [am, ↓amb, mark_eq, Nat.zero_add, Nat.reduceEqDiff, Nat.reduceAdd, ↓reduceIte, List.length_cons, List.length_nil, List.map_cons, List.map_nil, List.getElem?_cons_zero, List.getElem?_cons_succ]
      (repeat (refine ⟨by first | omega | (simp; done) | assumption | (unfold maxLen; omega) | (simp [maxLen]; omega), ?_⟩)); refine hk _ ?_; clear hk; clear k
      refine awp_le (le_keep [0, 1, 5, 6, 7, 8, 9]) ?_
      simp only [keepL_nil, keepL_cons, keepM_some, lkp_cons, Nat.reduceEqDiff, ↓reduceIte, reduceCtorEq]
      refine awp_sr [] (by rw [hC]; rfl) fun k hk => ?_
      simp (maxSteps := 4000000) (disch := first | omega | (simp only [List.length_append, List.length_take, List.length_drop, List.length_cons, List.length_nil, List.length_dropLast]; omega)) only [am, ↓amb, mark_eq, true_and, Nat.reduceEqDiff, ↓reduceIte, reduceCtorEq, List.append_nil, en21]
      (repeat (refine ⟨by first | omega | (simp; done) | assumption | (unfold maxLen; omega) | (simp [maxLen]; omega), ?_⟩))
      refine callK_p (p21) rfl ?_
      simp (maxSteps := 4000000) (disch := first | omega | (simp only [List.length_append, List.length_take, List.length_drop, List.length_cons, List.length_nil, List.length_dropLast]; omega)) only [am, ↓amb, mark_eq, Nat.zero_add, Nat.reduceEqDiff, Nat.reduceAdd, ↓reduceIte, List.length_cons, List.length_nil, List.map_cons, List.map_nil, List.getElem?_cons_zero, List.getElem?_cons_succ]
      (repeat (refine ⟨by first | omega | (simp; done) | assumption | (unfold maxLen; omega) | (simp [maxLen]; omega), ?_⟩)); refine hk _ ?_; clear hk; clear k
      refine awp_seq fun k3 h3 => ?_
      refine awp_le (le_keep [0, 1, 4, 5, 6, 7, 8, 9, 10, 11, 12]) ?_
      simp only [keepL_nil, keepL_cons, keepM_some, keepM_none, lkp_cons, lkp_nil, Nat.reduceEqDiff, ↓reduceIte, reduceCtorEq]
      refine awp_srg [] (by rw [hC]; rfl) fun gd hgd k hk => ?_
      have g2 : gd 2 = some 47 := by rw [hgd]; rfl
      have g6 : gd 6 = some 51 := by rw [hgd]; rfl
      have g11 : gd 11 = some 56 := by rw [hgd]; rfl
      have g17 : gd 17 = some 62 := by rw [hgd]; rfl
      have g21 : gd 21 = some 66 := by rw [hgd]; rfl
      have g26 : gd 26 = some 71 := by rw [hgd]; rfl
      have g34 : gd 34 = some 79 := by rw [hgd]; rfl
      clear hgd
      simp (maxSteps := 4000000) (disch := first | omega | (simp only [List.length_append, List.length_take, List.length_drop, List.length_cons, List.length_nil, List.length_dropLast]; omega)) only [am, ↓amb, mark_eq, bne_self_eq_false, true_and, Nat.reduceEqDiff, ↓reduceIte, reduceCtorEq, Bool.false_eq_true, List.append_nil, en23, g2, g6, g11]
      (repeat (refine ⟨by first | omega | (simp; done) | assumption | (unfold maxLen; omega) | (simp [maxLen]; omega), ?_⟩))
      refine callK_p (p23) rfl ?_
      simp (maxSteps := 4000000) (disch := first | omega | (simp only [List.length_append, List.length_take, List.length_drop, List.length_cons, List.length_nil, List.length_dropLast]; omega)) only [am, ↓amb, aml, mark_eq, bne_self_eq_false, List.length_append, Nat.zero_add, Int.toNat_zero, List.length_map, List.getElem?_map, true_and, Nat.reduceEqDiff, Nat.reduceAdd, ↓reduceIte, List.length_cons, List.length_nil, reduceCtorEq, Bool.false_eq_true, List.getElem?_cons_zero, Bool.not_true, el22, sz3, g11, g17, g21, g26, g34]
      (repeat (refine ⟨by first | omega | (simp; done) | assumption | (unfold maxLen; omega) | (simp [maxLen]; omega), ?_⟩)); refine hk _ ?_; clear hk; clear k
      refine awp_cond rfl (fun hb => ?_) (fun hb => ?_)
      · -- branch 5
        try simp only [decide_eq_true_eq, decide_eq_false_iff_not, Int.not_lt, Int.not_le, beq_iff_eq, bne_iff_ne, ne_eq, beq_eq_false_iff_ne, bne_eq_false_iff_eq, Bool.not_eq_true, Bool.not_eq_false, Bool.not_true, Bool.not_false, Bool.not_eq_false', Bool.not_eq_true', Decidable.not_not] at hb
        refine awp_le (le_keep []) ?_
        simp only [keepL_nil]
        refine awp_sr [] (by rw [hC]; rfl) fun k hk => ?_
        simp (maxSteps := 4000000) (disch := first | omega | (simp only [List.length_append, List.length_take, List.length_drop, List.length_cons, List.length_nil, List.length_dropLast]; omega)) only [am, ↓amb, mark_eq, Nat.zero_add, Nat.reduceAdd, List.length_cons, List.length_nil]
        (repeat (refine ⟨by first | omega | (simp; done) | assumption | (unfold maxLen; omega) | (simp [maxLen]; omega), ?_⟩)); refine hk _ ?_; clear hk; clear k
        refine awp_ret ?_
        exact absurd hb (by simp)
      · -- branch 6
        try simp only [decide_eq_true_eq] at hb
        refine awp_skip ?_
        refine h3 _ ?_; clear h3; clear k3
        refine awp_seq fun k4 h4 => ?_
        refine awp_le (le_keep [0, 1, 4, 11]) ?_
        simp only [keepL_nil, keepL_cons, keepM_some, keepM_none, lkp_cons, lkp_nil, Nat.reduceEqDiff, ↓reduceIte, reduceCtorEq]
        refine awp_sr [] (by rw [hC]; rfl) fun k hk => ?_
        simp (maxSteps := 4000000) (disch := first | omega | (simp only [List.length_append, List.length_take, List.length_drop, List.length_cons, List.length_nil, List.length_dropLast]; omega)) only [am, ↓amb, mark_eq, Nat.zero_add, List.length_map, Nat.reduceAdd, ↓reduceIte, List.length_cons, List.length_nil, el22]
        (repeat (refine ⟨by first | omega | (simp; done) | assumption | (unfold maxLen; omega) | (simp [maxLen]; omega), ?_⟩)); refine hk _ ?_; clear hk; clear k
        refine awp_cond rfl (fun hb => ?_) (fun hb => ?_)
        · -- branch 7
          try simp only [beq_iff_eq] at hb
          refine awp_le (le_keep [1, 11]) ?_
          simp only [keepL_nil, keepL_cons, keepM_some, lkp_cons, Nat.reduceEqDiff, ↓reduceIte, reduceCtorEq]
          refine awp_sr [] (by rw [hC]; rfl) fun k hk => ?_
          simp (maxSteps := 4000000) (disch := first | omega | (simp only [List.length_append, List.length_take, List.length_drop, List.length_cons, List.length_nil, List.length_dropLast]; omega)) only [am, ↓amb, mark_eq, Nat.zero_add, Nat.reduceEqDiff, Nat.reduceAdd, ↓reduceIte, List.length_cons, List.length_nil]
          (repeat (refine ⟨by first | omega | (simp; done) | assumption | (unfold maxLen; omega) | (simp [maxLen]; omega), ?_⟩)); refine hk _ ?_; clear hk; clear k
          refine awp_ret ?_
          obtain rfl : l = [] := List.eq_nil_of_length_eq_zero (by omega)
          refine ret1 rfl rfl ?_
          exact .p (LeP.of_eq (by simp))
        · -- branch 8
          try simp only [ne_eq, beq_eq_false_iff_ne] at hb
          refine awp_skip ?_
          refine h4 _ ?_; clear h4; clear k4
          refine awp_le (le_keep [0]) ?_
          simp only [keepL_nil, keepL_cons, keepM_some, lkp_cons, ↓reduceIte, reduceCtorEq]
          have q19 : PCall Try.prog 19 [ints c l] (.tup [ints false (l.drop 1), iV (l.getD 0 0), iV 0]) := by have h := c19 c l (by omega); simpa only [stealS, if_neg (show ¬ l.length = 0 by omega)] using h
          have q17 : PCall Try.prog 17 [ints c l] (.tup [ints false l.dropLast, iV (l.getD (l.length - 1) 0), iV 0]) := by have h := c17 c l (by omega); simpa only [popS, if_neg (show ¬ l.length = 0 by omega)] using h
          have q21 : PCall Try.prog 21 [ints c l] (.tup [iV (l.getD (l.length - 1) 0), iV (l.getD 0 0), bV true]) := by have h := c21 c l (by omega); simpa only [lookS, decide_eq_true (show l.length ≠ 0 by omega)] using h
          have e1 : [l.getD 0 0] ++ l.drop 1 = l := by cases l with | nil => exact absurd rfl (by omega) | cons a r => rfl
          have q23 : PCall Try.prog 23 [.seq false ([[.lit (.int .i64 (l.getD 0 0))]] ++ (l.drop 1).map fun x => [.lit (.int .i64 x)]), ints c l] (bV true) := by have h := c23 false c l l (by omega); rw [show (PV.seq false ([[PV.lit (.int .i64 (l.getD 0 0))]] ++ (l.drop 1).map fun x => [.lit (.int .i64 x)])) = ints false ([l.getD 0 0] ++ l.drop 1) by simp, e1]; simpa using h
          refine awp_sr [] (by rw [hC]; rfl) fun k hk => ?_
          simp (maxSteps := 4000000) (disch := first | omega | (simp only [List.length_append, List.length_take, List.length_drop, List.length_cons, List.length_nil, List.length_dropLast]; omega)) only [am, ↓amb, mark_eq, true_and, ↓reduceIte, List.append_nil, en19]
          (repeat (refine ⟨by first | omega | (simp; done) | assumption | (unfold maxLen; omega) | (simp [maxLen]; omega), ?_⟩))
          refine callK_p (q19) rfl ?_
          simp (maxSteps := 4000000) (disch := first | omega | (simp only [List.length_append, List.length_take, List.length_drop, List.length_cons, List.length_nil, List.length_dropLast]; omega)) only [am, ↓amb, mark_eq, Nat.zero_add, Nat.reduceEqDiff, Nat.reduceAdd, ↓reduceIte, List.length_cons, List.length_nil, List.map_cons, List.map_nil, List.getElem?_cons_zero, List.getElem?_cons_succ]
          (repeat (refine ⟨by first | omega | (simp; done) | assumption | (unfold maxLen; omega) | (simp [maxLen]; omega), ?_⟩)); refine hk _ ?_; clear hk; clear k
          refine awp_le (le_keep [0, 13, 14, 15]) ?_
          simp only [keepL_nil, keepL_cons, keepM_some, lkp_cons, Nat.reduceEqDiff, ↓reduceIte, reduceCtorEq]
          refine awp_sr [] (by rw [hC]; rfl) fun k hk => ?_
          simp (maxSteps := 4000000) (disch := first | omega | (simp only [List.length_append, List.length_take, List.length_drop, List.length_cons, List.length_nil, List.length_dropLast]; omega)) only [am, ↓amb, mark_eq, true_and, ↓reduceIte, List.append_nil, en17]
          (repeat (refine ⟨by first | omega | (simp; done) | assumption | (unfold maxLen; omega) | (simp [maxLen]; omega), ?_⟩))
          refine callK_p (q17) rfl ?_
          simp (maxSteps := 4000000) (disch := first | omega | (simp only [List.length_append, List.length_take, List.length_drop, List.length_cons, List.length_nil, List.length_dropLast]; omega)) only [am, ↓amb, mark_eq, Nat.zero_add, Nat.reduceEqDiff, Nat.reduceAdd, ↓reduceIte, List.length_cons, List.length_nil, List.map_cons, List.map_nil, List.getElem?_cons_zero, List.getElem?_cons_succ]
          (repeat (refine ⟨by first | omega | (simp; done) | assumption | (unfold maxLen; omega) | (simp [maxLen]; omega), ?_⟩)); refine hk _ ?_; clear hk; clear k
          refine awp_le (le_keep [0, 13, 14, 15, 17, 18]) ?_
          simp only [keepL_nil, keepL_cons, keepM_some, lkp_cons, Nat.reduceEqDiff, ↓reduceIte, reduceCtorEq]
          refine awp_sr [] (by rw [hC]; rfl) fun k hk => ?_
          simp (maxSteps := 4000000) (disch := first | omega | (simp only [List.length_append, List.length_take, List.length_drop, List.length_cons, List.length_nil, List.length_dropLast]; omega)) only [am, ↓amb, mark_eq, true_and, ↓reduceIte, List.append_nil, en21]
          (repeat (refine ⟨by first | omega | (simp; done) | assumption | (unfold maxLen; omega) | (simp [maxLen]; omega), ?_⟩))
          refine callK_p (q21) rfl ?_
          simp (maxSteps := 4000000) (disch := first | omega | (simp only [List.length_append, List.length_take, List.length_drop, List.length_cons, List.length_nil, List.length_dropLast]; omega)) only [am, ↓amb, mark_eq, Nat.zero_add, Nat.reduceEqDiff, Nat.reduceAdd, ↓reduceIte, List.length_cons, List.length_nil, List.map_cons, List.map_nil, List.getElem?_cons_zero, List.getElem?_cons_succ]
          (repeat (refine ⟨by first | omega | (simp; done) | assumption | (unfold maxLen; omega) | (simp [maxLen]; omega), ?_⟩)); refine hk _ ?_; clear hk; clear k
          refine awp_le (le_keep [0, 13, 14, 15, 17, 18, 19, 20, 21]) ?_
          simp only [keepL_nil, keepL_cons, keepM_some, lkp_cons, Nat.reduceEqDiff, ↓reduceIte, reduceCtorEq]
          refine awp_srg [] (by rw [hC]; rfl) fun gd hgd k hk => ?_
          have g2 : gd 2 = some 112 := by rw [hgd]; rfl
          have g6 : gd 6 = some 116 := by rw [hgd]; rfl
          have g9 : gd 9 = some 119 := by rw [hgd]; rfl
          have g14 : gd 14 = some 124 := by rw [hgd]; rfl
          have g19 : gd 19 = some 129 := by rw [hgd]; rfl
          clear hgd
          simp (maxSteps := 4000000) (disch := first | omega | (simp only [List.length_append, List.length_take, List.length_drop, List.length_cons, List.length_nil, List.length_dropLast]; omega)) only [am, ↓amb, mark_eq, beq_self_eq_true, List.length_drop, Nat.zero_add, List.length_map, Option.map_some, all1, true_and, Nat.reduceEqDiff, Nat.reduceAdd, ↓reduceIte, List.length_cons, List.length_nil, reduceCtorEq, Bool.false_eq_true, List.append_nil, List.nil_append, List.cons_append, List.contains_nil, Option.any_some, el22, vr3, by3, en23, g2, g6, g9, g14, g19]
          (repeat (refine ⟨by first | omega | (simp; done) | assumption | (unfold maxLen; omega) | (simp [maxLen]; omega), ?_⟩))
          refine callK_p (q23) rfl ?_
          simp (maxSteps := 4000000) (disch := first | omega | (simp only [List.length_append, List.length_take, List.length_drop, List.length_cons, List.length_nil, List.length_dropLast]; omega)) only [am, ↓amb, mark_eq, Nat.zero_add, Nat.reduceEqDiff, Nat.reduceAdd, ↓reduceIte, List.length_cons, List.length_nil]
          (repeat (refine ⟨by first | omega | (simp; done) | assumption | (unfold maxLen; omega) | (simp [maxLen]; omega), ?_⟩)); refine hk _ ?_; clear hk; clear k
          refine awp_ret ?_
          refine ret1 rfl rfl ?_
          exact .p (LeP.refl _)
end Go.Proofs.Ytbdliooaiincdaa
