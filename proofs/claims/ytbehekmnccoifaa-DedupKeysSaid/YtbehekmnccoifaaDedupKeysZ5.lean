/-
  DedupKeys, part 5 of 6: what the proof that the law holds at whatever arguments stands on; the last part holds the theorem. No condition.
-/
import Derived.Test.YtbehekmnccoifaaDedupKeysZ4
import Derived.Test.YtbehekmnccoifaaRows
section
set_option linter.unusedSimpArgs false
set_option linter.unusedVariables false
namespace Go.Pl
theorem perm_of : ∀ {m l : List Int}, m.Nodup → (∀ x, x ∈ m → x ∈ l) → l.length ≤ m.length → l.Perm m
  | [], l, _, _, h => by
    have : l = [] := List.eq_nil_of_length_eq_zero (by simpa using h)
    subst this; exact List.Perm.refl _
  | x :: m, l, hn, hs, h => by
    have hx : x ∈ l := hs x (by simp)
    have hn' := List.nodup_cons.1 hn
    have hp := perm_of (m := m) (l := l.erase x) hn'.2 (fun y hy => (List.mem_erase_of_ne (fun e => hn'.1 (by rw [← e]; exact hy))).2 (hs y (by simp [hy]))) (by
      rw [List.length_erase_of_mem hx]; simp only [List.length_cons] at h; omega)
    exact (List.perm_cons_erase hx).trans (hp.cons x)
theorem onceP_nodup {l : List Int} {n : Nat} (h : onceP l n) : l.Nodup := by
  have hp := perm_of (m := upto 0 n) (l := l) (nodup_upto _ _) (fun x hx => by
    have := mem_upto.1 hx
    have h2 := h.2.2 x.toNat (by omega)
    rwa [show ((x.toNat : Nat) : Int) = x by omega] at h2) (by rw [upto_len, h.1]; omega)
  exact hp.nodup_iff.2 (nodup_upto _ _)
theorem once_of {l : List Int} {n : Nat} (h1 : l.length = n) (h2 : ∀ x, x ∈ l → 0 ≤ x ∧ x < n) (h3 : l.Nodup) : onceP l n := by
  have hp := perm_of (m := l) (l := upto 0 n) h3 (fun x hx => mem_upto.2 ⟨(h2 x hx).1, (h2 x hx).2⟩) (by rw [upto_len, h1]; omega)
  exact ⟨h1, h2, fun k hk => hp.mem_iff.1 (mem_upto.2 ⟨by omega, by omega⟩)⟩
theorem once_iff {l : List Int} {n : Nat} (h2 : ∀ x, x ∈ l → 0 ≤ x ∧ x < n) (h3 : l.Nodup) : onceP l n ↔ l.length = n :=
  ⟨fun h => h.1, fun h => once_of h h2 h3⟩
theorem once_upto (n : Nat) : onceP (upto 0 n) n := once_of (by rw [upto_len]; omega) (fun x hx => mem_upto.1 hx) (nodup_upto _ _)
theorem nodup_snoc {l : List Int} {x : Int} (h : l.Nodup) (hc : (l ++ [x]).count x ≤ 1) : (l ++ [x]).Nodup := by
  rw [count_pos_end] at hc
  rw [List.nodup_append]
  refine ⟨h, by simp, fun a ha b hb => ?_⟩
  simp at hb; subst hb
  intro e; subst e
  exact List.count_eq_zero.1 (by omega) ha
theorem take_count {l : List Int} {i : Nat} (hi : i < l.length) (h : l.Nodup) : (l.take i ++ [l.getD i 0]).count (l.getD i 0) ≤ 1 := by
  rw [← take_snoc' l i hi]
  exact List.nodup_iff_count.1 (h.sublist (List.take_sublist _ _)) _
def digW (x t b : Int) : Int := if 0 ≤ t ∧ t < pas b then x / 2 ^ (t * b).toNat % 2 ^ b.toNat else 0
theorem digW_b {x t b : Int} (hx : 0 ≤ x) : 0 ≤ digW x t b ∧ digW x t b < 2 ^ b.toNat := by
  have hp : (0 : Int) < 2 ^ b.toNat := Int.pow_pos (by decide)
  unfold digW
  split
  · exact ⟨Int.emod_nonneg _ (by omega), Int.emod_lt_of_pos _ hp⟩
  · omega
theorem pas_b {t b : Int} (h : 0 ≤ t ∧ t < pas b) : (1 ≤ b ∧ b ≤ 16) ∧ 0 ≤ t * b ∧ t * b ≤ 31 := by
  unfold pas at h
  split at h
  · rename_i hb
    refine ⟨hb, Int.mul_nonneg h.1 (by omega), ?_⟩
    have h1 : (t + 1) * b ≤ (32 + b - 1) / b * b := Int.mul_le_mul_of_nonneg_right (by omega) (by omega)
    have h2 := Int.ediv_mul_le (32 + b - 1) (show b ≠ 0 by omega)
    rw [Int.add_mul, Int.one_mul] at h1
    omega
  · omega
def digA (l : List Int) (t b : Int) (i : Int) : Int := digW (l.getD i.toNat 0) t b
def byP (l o : List Int) (t b : Int) : List Int := bucket (2 ^ b.toNat) (digA l t b) o
theorem digA_b {l : List Int} (hl : ∀ x, x ∈ l → W32 x) (t b i : Int) : 0 ≤ digA l t b i ∧ digA l t b i < ((2 ^ b.toNat : Nat) : Int) := by
  have := digW_b (t := t) (b := b) (getD_w hl i.toNat).1
  unfold digA
  rw [Int.natCast_pow]; exact this
def tabL (n : Nat) (g : Nat → Int) : List Int := (List.range n).map g
theorem tabL_len (n : Nat) (g : Nat → Int) : (tabL n g).length = n := by simp [tabL]
theorem tabL_get {n : Nat} {g : Nat → Int} {i : Nat} (h : i < n) : (tabL n g).getD i 0 = g i := mapR_get h 0
theorem tabL_set {n : Nat} {g g' : Nat → Int} {i : Nat} {x : Int} (h1 : x = g' i) (h2 : ∀ j, j < n → j ≠ i → g j = g' j) : (tabL n g).set i x = tabL n g' := by
  subst h1
  unfold tabL
  apply List.ext_getElem?
  intro j
  rw [List.getElem?_set]
  by_cases hj : j < n
  · rw [List.getElem?_map, List.getElem?_map, List.getElem?_range hj]
    by_cases e : i = j
    · subst e; simp [hj]
    · rw [if_neg e]; simp [h2 j hj (fun q => e q.symm)]
  · have e1 : ((List.range n).map g)[j]? = none := List.getElem?_eq_none (by simp; omega)
    have e2 : ((List.range n).map g')[j]? = none := List.getElem?_eq_none (by simp; omega)
    rw [e1, e2]
    split
    · rw [if_neg (by simp; omega)]
    · rfl
theorem tabL_congr {n : Nat} {g g' : Nat → Int} (h : ∀ j, j < n → g j = g' j) : tabL n g = tabL n g' := List.map_congr_left fun j hj => h j (List.mem_range.1 hj)
theorem tabL_0 (n : Nat) : tabL n (fun _ => 0) = List.replicate n 0 := by
  unfold tabL; rw [List.map_const']; simp
def cntT1 (d : Int → Int) (o : List Int) (k : Nat) (v : Nat) : Int := if v = 0 then 0 else same d (o.take k) ((v : Int) - 1)
def cntT2 (d : Int → Int) (o : List Int) (k : Nat) (v : Nat) : Int := if v ≤ k then less d o v else same d o ((v : Int) - 1)
def cntT3 (B : Nat) (d : Int → Int) (o : List Int) (k : Nat) (v : Nat) : Int := less d o v + (if v < B then (same d (o.take k) v : Int) else 0)
theorem cnt1_0 (d : Int → Int) (o : List Int) (n : Nat) : tabL n (cntT1 d o 0) = List.replicate n 0 := by
  rw [← tabL_0]; exact tabL_congr fun j _ => by unfold cntT1; split <;> simp [same]
theorem cnt1_set {B : Nat} {d : Int → Int} {o : List Int} {k : Nat} (hk : k < o.length) (hd : 0 ≤ d (o.getD k 0) ∧ d (o.getD k 0) < B) :
    (tabL (B + 1) (cntT1 d o k)).set (d (o.getD k 0) + 1).toNat ((tabL (B + 1) (cntT1 d o k)).getD (d (o.getD k 0) + 1).toNat 0 + 1) = tabL (B + 1) (cntT1 d o (k + 1)) := by
  rw [tabL_get (by omega)]
  refine tabL_set ?_ fun j hj hne => ?_
  · unfold cntT1
    rw [if_neg (by omega), if_neg (by omega), same_take d o k hk, if_pos (by omega)]; omega
  · unfold cntT1
    split
    · rfl
    · rw [same_take d o k hk, if_neg (by omega)]; omega
theorem cnt1_2 (d : Int → Int) (o : List Int) (n : Nat) : tabL n (cntT1 d o o.length) = tabL n (cntT2 d o 0) :=
  tabL_congr fun j _ => by
    unfold cntT1 cntT2
    rw [List.take_of_length_le (Nat.le_refl _)]
    by_cases h : j = 0
    · subst h; rw [if_pos rfl, if_pos (by omega), less_zero]; rfl
    · rw [if_neg h, if_neg (by omega)]
theorem cnt2_set {B : Nat} {d : Int → Int} {o : List Int} {k : Nat} (hk : k < B) :
    (tabL (B + 1) (cntT2 d o k)).set (k + 1) ((tabL (B + 1) (cntT2 d o k)).getD (k + 1) 0 + (tabL (B + 1) (cntT2 d o k)).getD k 0) = tabL (B + 1) (cntT2 d o (k + 1)) := by
  rw [tabL_get (by omega), tabL_get (by omega)]
  refine tabL_set ?_ fun j hj hne => ?_
  · unfold cntT2
    rw [if_neg (by omega), if_pos (by omega), if_pos (by omega), less_succ]
    rw [show ((k + 1 : Nat) : Int) - 1 = k by omega]; omega
  · unfold cntT2
    by_cases c : j ≤ k
    · rw [if_pos c, if_pos (by omega)]
    · rw [if_neg c, if_neg (by omega)]
theorem cnt2_3 (B : Nat) (d : Int → Int) (o : List Int) : tabL (B + 1) (cntT2 d o B) = tabL (B + 1) (cntT3 B d o 0) :=
  tabL_congr fun j hj => by
    unfold cntT2 cntT3
    rw [if_pos (by omega)]
    split <;> simp [same]
theorem cnt3_get {B : Nat} {d : Int → Int} {o : List Int} {k : Nat} (hk : k < o.length) (hd : 0 ≤ d (o.getD k 0) ∧ d (o.getD k 0) < B) :
    (tabL (B + 1) (cntT3 B d o k)).getD (d (o.getD k 0)).toNat 0 = posB d o k := by
  rw [tabL_get (by omega)]
  unfold cntT3 posB
  rw [if_pos (by omega), show ((d (o.getD k 0)).toNat : Int) = d (o.getD k 0) by omega]
  omega
theorem cnt3_set {B : Nat} {d : Int → Int} {o : List Int} {k : Nat} (hk : k < o.length) (hd : 0 ≤ d (o.getD k 0) ∧ d (o.getD k 0) < B) :
    (tabL (B + 1) (cntT3 B d o k)).set (d (o.getD k 0)).toNat ((posB d o k : Int) + 1) = tabL (B + 1) (cntT3 B d o (k + 1)) := by
  refine tabL_set ?_ fun j hj hne => ?_
  · unfold cntT3 posB
    rw [if_pos (by omega), show ((d (o.getD k 0)).toNat : Int) = d (o.getD k 0) by omega, same_take d o k hk, if_pos rfl]; omega
  · unfold cntT3
    split
    · rw [same_take d o k hk, if_neg (by omega)]; omega
    · rfl
theorem same_up (d : Int → Int) (o : List Int) (k : Nat) (v : Int) : (same d (o.take k) v : Int) ≤ o.length := by
  have := same_le d (o.take k) v
  rw [List.length_take] at this; omega
theorem less_up {d : Int → Int} {o : List Int} (B : Nat) (hd : ∀ x, x ∈ o → 0 ≤ d x ∧ d x < B) (hn : o.Nodup) {v : Nat} (hv : v ≤ B) : less d o v ≤ o.length := by
  obtain ⟨r, hr, _⟩ := lowB_split B d o hv
  obtain ⟨b1, b2⟩ := bucket_perm hd hn
  have hlen : (bucket B d o).length = o.length := ((List.perm_ext_iff_of_nodup b1 hn).2 b2).length_eq
  rw [hr, List.length_append] at hlen
  unfold less; omega
theorem posB_lt {B : Nat} {d : Int → Int} {o : List Int} {k : Nat} (hk : k < o.length) (hd : ∀ x, x ∈ o → 0 ≤ d x ∧ d x < B) (hn : o.Nodup) : posB d o k < o.length ∧ (bucket B d o).getD (posB d o k) 0 = o.getD k 0 := by
  have h := posB_at (B := B) hk (hd _ (getD_mem o k 0 hk))
  obtain ⟨b1, b2⟩ := bucket_perm hd hn
  have hlen : (bucket B d o).length = o.length := ((List.perm_ext_iff_of_nodup b1 hn).2 b2).length_eq
  obtain ⟨hlt, _⟩ := List.getElem?_eq_some_iff.1 h
  exact ⟨by omega, by rw [List.getD_eq_getElem?_getD, h]; rfl⟩
theorem byP_once {l o : List Int} (hl : ∀ x, x ∈ l → W32 x) (ho : onceP o l.length) (t b : Int) : onceP (byP l o t b) l.length := by
  have hn := onceP_nodup ho
  obtain ⟨b1, b2⟩ := bucket_perm (B := 2 ^ b.toNat) (d := digA l t b) (l := o) (fun x _ => digA_b hl t b x) hn
  have hlen : (byP l o t b).length = o.length := ((List.perm_ext_iff_of_nodup b1 hn).2 b2).length_eq
  exact once_of (by rw [hlen, ho.1]) (fun x hx => ho.2.1 x ((b2 x).1 hx)) b1
def passes (l : List Int) (b : Int) : Nat → List Int
  | 0 => upto 0 l.length
  | k + 1 => byP l (passes l b k) k b
theorem passes_once {l : List Int} (hl : ∀ x, x ∈ l → W32 x) (b : Int) : ∀ k, onceP (passes l b k) l.length
  | 0 => once_upto _
  | k + 1 => byP_once hl (passes_once hl b k) _ _
def raE (n : Nat) (b bl : Int) (p : Plan) : Int := if pas b = 0 then 1 else scE n bl p
def raL (l : List Int) (b bl : Int) (p : Plan) : List Int := if raE l.length b bl p = 0 then passes l b (pas b).toNat else []
def raS (n : Nat) (b bl : Int) (p : Plan) : Int := if raE n b bl p = 0 then scS n bl p * pas b else 0
def sortedL (l o : List Int) : List Int := o.map fun i => l.getD i.toNat 0
theorem pow16 {k : Nat} (h : k ≤ 16) : (1 : Int) ≤ 2 ^ k ∧ (2 : Int) ^ k ≤ 65536 := by
  have : ∀ k : Nat, k < 17 → (1 : Int) ≤ 2 ^ k ∧ (2 : Int) ^ k ≤ 65536 := by decide
  exact this k (by omega)
theorem dig_eq {x t b : Int} (hx : W32 x) (ht : 0 ≤ t ∧ t < pas b) : ((BitVec.ofInt 32 (x / 2 ^ min (t * b % 18446744073709551616).toNat 32) &&& BitVec.ofInt 32 ((1 * 2 ^ min (b % 18446744073709551616).toNat 32 % 4294967296 - 1) % 4294967296)).toNat : Int) % 4294967296 = digW x t b := by
  obtain ⟨p1, p2, p3⟩ := pas_b ht
  have q := pow16 (k := b.toNat) (by omega)
  rw [show (t * b % 18446744073709551616).toNat = (t * b).toNat by congr 1; omega, show (b % 18446744073709551616).toNat = b.toNat by congr 1; omega, Nat.min_eq_left (show (t * b).toNat ≤ 32 by omega), Nat.min_eq_left (show b.toNat ≤ 32 by omega), Int.one_mul]
  rw [show ((2 : Int) ^ b.toNat % 4294967296 - 1) % 4294967296 = 2 ^ b.toNat - 1 by omega]
  have hp : (0 : Int) < 2 ^ (t * b).toNat := Int.pow_pos (by decide)
  have hd : W32 (x / 2 ^ (t * b).toNat) := ⟨Int.ediv_nonneg hx.1 (by omega), Int.le_trans (Int.ediv_le_self _ hx.1) hx.2⟩
  exact (an_mask b.toNat (by omega) hd).trans (by unfold digW; rw [if_pos ht])
theorem pow16n {k : Nat} (h : k ≤ 16) : 1 ≤ 2 ^ k ∧ 2 ^ k ≤ 65536 := by
  have : ∀ k : Nat, k < 17 → 1 ≤ 2 ^ k ∧ 2 ^ k ≤ 65536 := by decide
  exact this k (by omega)
theorem cnt1_up (d : Int → Int) (o : List Int) (k v B : Nat) (h : v < B + 1) : 0 ≤ (tabL (B + 1) (cntT1 d o k)).getD v 0 ∧ (tabL (B + 1) (cntT1 d o k)).getD v 0 ≤ o.length := by
  rw [tabL_get h]
  unfold cntT1
  have := same_up d o k ((v : Int) - 1)
  split <;> omega
theorem cnt2_up {B : Nat} {d : Int → Int} {o : List Int} (hd : ∀ x, x ∈ o → 0 ≤ d x ∧ d x < B) (hn : o.Nodup) (k v : Nat) (h : v < B + 1) : 0 ≤ (tabL (B + 1) (cntT2 d o k)).getD v 0 ∧ (tabL (B + 1) (cntT2 d o k)).getD v 0 ≤ o.length := by
  rw [tabL_get h]
  unfold cntT2
  have h1 := less_up B hd hn (show v ≤ B by omega)
  have h2 := same_le d o ((v : Int) - 1)
  split <;> omega
theorem scS_nn (n : Nat) (b : Int) (p : Plan) : 0 ≤ scS n b p ∧ scS n b p ≤ 40000 := by
  unfold scS
  split
  · rename_i h
    have := ord_steps (sc_iff.1 h).2.2
    have h0 := (sc_iff.1 h).2.2.1
    omega
  · omega
theorem sortedL_len (l o : List Int) : (sortedL l o).length = o.length := by simp [sortedL]
theorem sortedL_snoc (l o : List Int) (x : Int) : sortedL l (o ++ [x]) = sortedL l o ++ [l.getD x.toNat 0] := by simp [sortedL]
end Go.Pl
end
section
set_option linter.unusedSimpArgs false
set_option linter.unusedVariables false
set_option maxRecDepth 100000
namespace Go.Proofs.Ytbehekmnccoifaa
open Go.Am Go.Proofs
theorem en59 : enters Try.prog 59 = true := by kernel_rfl
theorem en92 : enters Try.prog 92 = true := by kernel_rfl
theorem it81 : tInt Try.prog 81 = some .u64 := by kernel_rfl
theorem un3 : (Try.prog.underlying 3).isSome = true := by kernel_rfl
set_option maxHeartbeats 4000000 in
theorem c_radix_there (t b : Int) : PCall Try.prog 92 [iV t, iV b] (bV (decide (0 ≤ t ∧ t < Pl.pas b))) := by
 refine pcall_of_awp Try.func92 rfl (by simp [Try.ntmps92]) fun C hC => ?_
 refine awp_sr [] (by rw [hC]; rfl) fun k hk => ?_
 simp (maxSteps := 9^9) (disch := (try simp only [lens]); omega) only [argSl, sm, ↓amb, mark_eq, simprocAttr, dx]
 repeat refine an ?_
 refine hk _ ?_; clear hk k
 refine awp_test [] 4 (decide (0 ≤ t ∧ t < Pl.pas b)) [] (by rw [hC]; rfl) (fun gd hgd k hk => ?_) ?_
 ·have g2 : gd 2 = some 7 := by rw [hgd]; rfl
  clear hgd
  simp (maxSteps := 9^9) (disch := (try simp only [lens]); omega) only [argSl, sm, ↓amb, mark_eq, simprocAttr, en59, gcase_undef, g2, dx]
  repeat' first | refine hk _ _ rfl rfl rfl rfl ?_ | (refine gsplit (fun hg => ?_) (fun hg => ?_) <;> (try simp only [hbx] at hg) <;> simp (maxSteps := 9^9) (disch := (try simp only [lens]); omega) only [argSl, sm, ↓amb, mark_eq, simprocAttr, en59, gcase_undef, g2, dx]) | apply And.intro | (refine callK_p (c_radix_Passes _) rfl ?_; (try simp (maxSteps := 9^9) (disch := (try simp only [lens]); omega) only [argSl, sm, ↓amb, mark_eq, simprocAttr, en59, gcase_undef, g2, dx])) | fail
  all_goals first | rfl | omega | exact (decide_eq_true (by omega)).symm | exact (decide_eq_false (by omega)).symm | exact decide_eq_decide.mpr (by omega) | (refine Bool.eq_iff_iff.mpr ?_; simp only [beq_iff_eq, bne_iff_ne, ne_eq, decide_eq_true_eq]; omega) | (refine Bool.eq_iff_iff.mpr ?_; simp only [Bool.not_eq_true', Bool.not_eq_false', decide_eq_false_iff_not, decide_eq_true_eq, beq_iff_eq, bne_iff_ne, ne_eq]; omega) | assumption | (simp; done) | (simp [maxLen]; omega) | skip
 simp only [kp, argSl, simprocAttr, List.length_cons, List.length_nil]
 refine awp_ret ?_
 refine ret1 rfl rfl ?_
 exact .p (LeP.refl _)
set_option maxHeartbeats 4000000 in
theorem c_radix_Digit (x t b : Int) (hx : Pl.W32 x) : PCall Try.prog 74 [u32V x, iV t, iV b] (u32V (Pl.digW x t b)) := by
 refine pcall_of_awp Try.func74 rfl (by simp [Try.ntmps74]) fun C hC => ?_
 refine awp_le (le_keep [0, 1, 2]) ?_
 simp only [kp, argSl, simprocAttr]
 refine awp_sr [] (by rw [hC]; rfl) fun k hk => ?_
 simp (maxSteps := 9^9) (disch := (try simp only [lens]); omega) only [argSl, sm, ↓amb, mark_eq, simprocAttr, wr_u32, wr_u64, dx]
 repeat refine an ?_
 refine hk _ ?_; clear hk k
 refine awp_seq fun k1 h1 => ?_
 refine awp_le (le_keep [0, 1, 2, 6]) ?_
 simp only [kp, argSl, simprocAttr]
 refine awp_sr [] (by rw [hC]; rfl) fun k hk => ?_
 simp (maxSteps := 9^9) (disch := (try simp only [lens]); omega) only [argSl, sm, ↓amb, mark_eq, simprocAttr, en92, wr_u32, wr_u64, dx]
 repeat refine an ?_
 refine callK_p (c_radix_there _ _) rfl ?_
 simp (maxSteps := 9^9) (disch := (try simp only [lens]); omega) only [argSl, sm, ↓amb, mark_eq, simprocAttr, en92, wr_u32, wr_u64, dx]
 repeat refine an ?_
 refine hk _ ?_; clear hk k
 refine awp_cond rfl (fun hb => ?_) (fun hb => ?_)
 ·try simp only [hbx] at hb
  refine awp_le (le_keep []) ?_
  simp only [kp, argSl, simprocAttr]
  refine awp_sr [] (by rw [hC]; rfl) fun k hk => ?_
  simp (maxSteps := 9^9) (disch := (try simp only [lens]); omega) only [argSl, sm, ↓amb, mark_eq, simprocAttr, wr_u32, wr_u64, dx]
  repeat refine an ?_
  refine hk _ ?_; clear hk k
  refine awp_ret ?_
  rw [show Pl.digW x t b = 0 from if_neg (by simpa using hb)]
  refine ret1 rfl rfl ?_
  exact .p (LeP.refl _)
 ·try simp only [hbx] at hb
  refine awp_skip ?_
  refine h1 _ ?_; clear h1 k1
  refine awp_le (le_keep [0, 1, 2]) ?_
  simp only [kp, argSl, simprocAttr]
  have ht : 0 ≤ t ∧ t < Pl.pas b := by first | exact hb | simpa using hb
  obtain ⟨p1, p2, p3⟩ := Pl.pas_b ht
  refine awp_sr [] (by rw [hC]; rfl) fun k hk => ?_
  simp (maxSteps := 9^9) (disch := (try simp only [lens]); omega) only [argSl, sm, ↓amb, mark_eq, simprocAttr, it81, un3, wr_u32, wr_u64, dx]
  repeat refine an ?_
  refine hk _ ?_; clear hk k
  refine awp_ret ?_
  rw [← Pl.dig_eq hx ht]
  refine ret1 rfl rfl ?_
  exact .p (LeP.of_eq rfl)
set_option maxHeartbeats 4000000 in
theorem c_radix_once (c : Bool) (l : List Int) (n : Nat) (hl : ∀ x, x ∈ l → -9223372036854775808 ≤ x ∧ x ≤ 9223372036854775807) (hn : l.length ≤ 1000000) : PCall Try.prog 61 [ints c l, iV n] (bV (decide (Pl.onceP l n))) := by
 refine pcall_of_awp Try.func61 rfl (by simp [Try.ntmps61]) fun C hC => ?_
 refine awp_le (le_keep [0, 1]) ?_
 simp only [kp, argSl, simprocAttr]
 refine awp_sr [] (by rw [hC]; rfl) fun k hk => ?_
 simp (maxSteps := 9^9) (disch := (try simp only [lens]); omega) only [argSl, sm, ↓amb, mark_eq, simprocAttr, Pl.metM_get, Pl.metM_set, dx]
 repeat refine an ?_
 refine hk _ ?_; clear hk k
 refine awp_le (le_keep [0, 1]) ?_
 simp only [kp, argSl, simprocAttr]
 refine awp_sr [] (by rw [hC]; rfl) fun k hk => ?_
 simp (maxSteps := 9^9) (disch := (try simp only [lens]); omega) only [argSl, sm, ↓amb, mark_eq, simprocAttr, mt120, Pl.metM_get, Pl.metM_set, dx]
 repeat refine an ?_
 refine hk _ ?_; clear hk k
 refine awp_seq fun k1 h1 => ?_
 refine awp_le (le_keep [0, 1, 4, 5]) ?_
 simp only [kp, argSl, simprocAttr]
 refine awp_sr [] (by rw [hC]; rfl) fun k hk => ?_
 simp (maxSteps := 9^9) (disch := (try simp only [lens]); omega) only [argSl, sm, ↓amb, mark_eq, simprocAttr, el33, Pl.metM_get, Pl.metM_set, dx]
 repeat refine an ?_
 refine hk _ ?_; clear hk k
 refine awp_block ?_
 refine awp_loop (σ := Nat) (fun i => i ≤ l.length ∧ (∀ x, x ∈ l.take i → 0 ≤ x ∧ x < n) ∧ (l.take i).Nodup) (fun (i : Nat) => ⟨[(0, (.p (ints c l))), (1, (.p (iV n))), (5, (.mp 0)), (9, (.p (ints c l))), (10, (.p (iV l.length))), (11, (.p (iV (i : Int))))], [(0, (.map 1 (Pl.metM (l.take i))))], 1⟩) (fun i => l.length - i) 0 ?_ ?_ fun i hi => ?_
 ·exact ⟨Nat.zero_le _, fun x hx => absurd hx (by simp), by simp⟩
 ·exact le_of [(0, _)] (by rfl) (by rfl) ⟨⟨_, rfl, .oe⟩, ⟨_, rfl, .oe⟩, ⟨_, rfl, .mp rfl⟩, ⟨_, rfl, .oe⟩, ⟨_, rfl, .oe⟩, ⟨_, rfl, .oe⟩, trivial⟩ ⟨⟨_, rfl, _, rfl, ⟨rfl, by first | exact Pl.metM_nil | (rw [Pl.take_snoc' l i (by omega)]; done)⟩⟩, trivial⟩
 obtain ⟨hi1, hi2, hi3⟩ := hi
 refine awp_le (le_keep [0, 1, 4, 5, 9, 10, 11]) ?_
 simp only [kp, argSl, simprocAttr]
 refine awp_sr [] (by rw [hC]; rfl) fun k hk => ?_
 simp (maxSteps := 9^9) (disch := (try simp only [lens]); omega) only [argSl, sm, ↓amb, mark_eq, simprocAttr, Pl.metM_get, Pl.metM_set, dx]
 repeat refine an ?_
 refine hk _ ?_; clear hk k
 refine awp_seq fun k3 h3 => ?_
 refine awp_cond rfl (fun hb => ?_) (fun hb => ?_)
 ·try simp only [hbx] at hb
  refine awp_skip ?_
  refine h3 _ ?_; clear h3 k3
  refine awp_seq fun k4 h4 => ?_
  refine awp_block ?_
  refine awp_le (le_keep [0, 1, 4, 5, 9, 10, 11]) ?_
  simp only [kp, argSl, simprocAttr]
  refine awp_sr [] (by rw [hC]; rfl) fun k hk => ?_
  simp (maxSteps := 9^9) (disch := (try simp only [lens]); omega) only [argSl, sm, ↓amb, mark_eq, simprocAttr, el33, sz3, Pl.metM_get, Pl.metM_set, dx]
  repeat refine an ?_
  refine hk _ ?_; clear hk k
  refine awp_le (le_keep [0, 1, 4, 5, 7, 9, 10, 11]) ?_
  simp only [kp, argSl, simprocAttr]
  have hki := hl (l.getD i 0) (Pl.getD_mem l i 0 (by omega))
  have hcl : (l.take i).count (l.getD i 0) ≤ 1 := List.nodup_iff_count.1 hi3 _
  refine awp_sr [] (by rw [hC]; rfl) fun k hk => ?_
  simp (maxSteps := 9^9) (disch := (try simp only [lens]); omega) only [argSl, sm, ↓amb, mark_eq, simprocAttr, mt120, tz3, Pl.metM_get, Pl.metM_set, dx]
  repeat refine an ?_
  refine hk _ ?_; clear hk k
  refine awp_test [] 31 (decide (¬ ((0 ≤ l.getD i 0 ∧ l.getD i 0 < n) ∧ (l.take i ++ [l.getD i 0]).count (l.getD i 0) ≤ 1))) [0, 1, 4, 5, 9, 10, 11] (by rw [hC]; rfl) (fun gd hgd k hk => ?_) ?_
  ·have g2 : gd 2 = some 21 := by rw [hgd]; rfl
   have g7 : gd 7 = some 26 := by rw [hgd]; rfl
   clear hgd
   simp (maxSteps := 9^9) (disch := (try simp only [lens]); omega) only [argSl, sm, ↓amb, mark_eq, simprocAttr, mt120, tz3, gcase_undef, g2, g7, Pl.metM_get, Pl.metM_set, dx]
   repeat' first | refine hk _ _ rfl rfl rfl rfl ?_ | (refine gsplit (fun hg => ?_) (fun hg => ?_) <;> (try simp only [hbx] at hg) <;> simp (maxSteps := 9^9) (disch := (try simp only [lens]); omega) only [argSl, sm, ↓amb, mark_eq, simprocAttr, mt120, tz3, gcase_undef, g2, g7, Pl.metM_get, Pl.metM_set, dx]) | apply And.intro | fail
   all_goals first | rfl | omega | exact (decide_eq_true (by omega)).symm | exact (decide_eq_false (by omega)).symm | exact decide_eq_decide.mpr (by omega) | (refine Bool.eq_iff_iff.mpr ?_; simp only [beq_iff_eq, bne_iff_ne, ne_eq, decide_eq_true_eq]; omega) | (refine Bool.eq_iff_iff.mpr ?_; simp only [Bool.not_eq_true', Bool.not_eq_false', decide_eq_false_iff_not, decide_eq_true_eq, beq_iff_eq, bne_iff_ne, ne_eq]; omega) | assumption | (simp; done) | (simp [maxLen]; omega) | skip
  simp only [kp, argSl, simprocAttr, List.length_cons, List.length_nil]
  refine awp_cond rfl (fun hb => ?_) (fun hb => ?_)
  ·try simp only [hbx] at hb
   refine awp_le (le_keep []) ?_
   simp only [kp, argSl, simprocAttr]
   refine awp_sr [] (by rw [hC]; rfl) fun k hk => ?_
   simp (maxSteps := 9^9) (disch := (try simp only [lens]); omega) only [argSl, sm, ↓amb, mark_eq, simprocAttr, Pl.metM_get, Pl.metM_set, dx]
   repeat refine an ?_
   refine hk _ ?_; clear hk k
   refine awp_ret ?_
   have hno : ¬ Pl.onceP l n := fun q => hb ⟨q.2.1 _ (Pl.getD_mem l i 0 (by omega)), Pl.take_count (by omega) (Pl.onceP_nodup q)⟩
   refine ret1 rfl rfl ?_
   exact .p (LeP.of_eq (by rw [decide_eq_false hno]))
  ·try simp only [hbx] at hb
   refine awp_skip ?_
   refine h4 _ ?_; clear h4 k4
   refine awp_region [] (by rw [hC]; rfl) fun k hk => ?_
   simp (maxSteps := 9^9) (disch := (try simp only [lens]); omega) only [argSl, sm, ↓amb, mark_eq, simprocAttr, Pl.metM_get, Pl.metM_set, dx]
   repeat refine an ?_
   refine hk _ ?_; clear hk k
   have hcc : (0 ≤ l.getD i 0 ∧ l.getD i 0 < n) ∧ (l.take i ++ [l.getD i 0]).count (l.getD i 0) ≤ 1 := by first | exact hb | exact Decidable.not_not.1 hb
   refine ⟨i + 1, ⟨by omega, Pl.all_take (by omega) hi2 hcc.1, by rw [Pl.take_snoc' l i (by omega)]; exact Pl.nodup_snoc hi3 hcc.2⟩, le_of [(0, _)] (by rfl) (by rfl) ⟨⟨_, rfl, .oe⟩, ⟨_, rfl, .oe⟩, ⟨_, rfl, .mp rfl⟩, ⟨_, rfl, .oe⟩, ⟨_, rfl, .oe⟩, ⟨_, rfl, .oe⟩, trivial⟩ ⟨⟨_, rfl, _, rfl, ⟨rfl, by first | exact Pl.metM_nil | (rw [Pl.take_snoc' l i (by omega)]; done)⟩⟩, trivial⟩, by omega⟩
 ·try simp only [hbx] at hb
  refine awp_exit ((if_pos rfl).mpr ?_)
  refine h1 _ ?_; clear h3 k3; clear h1 k1
  refine awp_le (le_keep [0, 1]) ?_
  simp only [kp, argSl, simprocAttr]
  have htk : l.take i = l := List.take_of_length_le (by omega)
  rw [htk] at hi2 hi3
  have hoi := Pl.once_iff hi2 hi3
  refine awp_sr [] (by rw [hC]; rfl) fun k hk => ?_
  simp (maxSteps := 9^9) (disch := (try simp only [lens]); omega) only [argSl, sm, ↓amb, mark_eq, simprocAttr, el33, Pl.metM_get, Pl.metM_set, dx]
  repeat refine an ?_
  refine hk _ ?_; clear hk k
  refine awp_ret ?_
  refine ret1 rfl rfl ?_
  exact .p (LeP.of_eq (by rw [show decide (Pl.onceP l n) = decide (l.length = n) from decide_eq_decide.mpr hoi]; show PV.lit (Value.bool _) = PV.lit (Value.bool _); congr 2; rw [Bool.eq_iff_iff]; simp only [beq_iff_eq, decide_eq_true_eq]; omega))
end Go.Proofs.Ytbehekmnccoifaa
end
section
set_option linter.unusedSimpArgs false
set_option linter.unusedVariables false
set_option maxRecDepth 100000
namespace Go.Proofs.Ytbehekmnccoifaa
open Go.Am Go.Proofs
theorem el22 : tEl Try.prog 22 = some 41 := by kernel_rfl
theorem en74 : enters Try.prog 74 = true := by kernel_rfl
theorem sz41 : tSz Try.prog 41 = some (false, 1) := by kernel_rfl
set_option maxHeartbeats 4000000 in
theorem c_radix_by (c d : Bool) (l o : List Int) (t b : Int) (hl : ∀ x, x ∈ l → Pl.W32 x) (ho : Pl.onceP o l.length) (ht : 0 ≤ t ∧ t < Pl.pas b) (hn : l.length ≤ 1000000) : PCall Try.prog 60 [words c l, ints d o, iV t, iV b] (ints false (Pl.byP l o t b)) := by
 have hol := ho.1
 obtain ⟨p1, p2, p3⟩ := Pl.pas_b ht
 obtain ⟨B, hB⟩ : ∃ B : Nat, B = 2 ^ b.toNat := ⟨_, rfl⟩
 have hBN : 1 ≤ B ∧ B ≤ 65536 := by rw [hB]; exact Pl.pow16n (by omega)
 have hoN := Pl.onceP_nodup ho
 have hdA : ∀ x : Int, 0 ≤ Pl.digA l t b x ∧ Pl.digA l t b x < B := fun x => by rw [hB]; exact Pl.digA_b hl t b x
 have hdB := fun (x : Int) (_ : x ∈ o) => hdA x
 have hby : Pl.byP l o t b = Pl.bucket B (Pl.digA l t b) o := by rw [hB]; rfl
 have hwb : IntKind.i64.wrap (IntKind.i64.wrap (1 * 2 ^ min (b % 18446744073709551616).toNat IntKind.i64.bits) + 1) = ((B + 1 : Nat) : Int) := by
  rw [show (b % 18446744073709551616).toNat = b.toNat by congr 1; omega, Nat.min_eq_left (show b.toNat ≤ IntKind.i64.bits by show b.toNat ≤ 64; omega), Int.one_mul, show (2 : Int) ^ b.toNat = (B : Int) from by rw [hB, Int.natCast_pow]; rfl]
  rw [wrap64_of (x := (B : Int)) (by omega) (by omega), wrap64_of (x := (B : Int) + 1) (by omega) (by omega)]; rfl
 have hmL : B + 1 ≤ maxLen ∧ o.length ≤ maxLen := by unfold maxLen; omega
 rw [hby]
 clear hB hby
 refine pcall_of_awp Try.func60 rfl (by simp [Try.ntmps60]) fun C hC => ?_
 refine awp_le (le_keep [0, 1, 2, 3]) ?_
 simp only [kp, argSl, simprocAttr]
 refine awp_sr [] (by rw [hC]; rfl) fun k hk => ?_
 simp (maxSteps := 9^9) (disch := (try simp only [lens]); omega) only [argSl, sm, ↓amb, mark_eq, simprocAttr, wr_u64, wr_u32, hwb, Int.toNat_natCast, dx]
 repeat refine an ?_
 refine hk _ ?_; clear hk k
 refine awp_le (le_keep [0, 1, 2, 3]) ?_
 simp only [kp, argSl, simprocAttr]
 refine awp_sr [] (by rw [hC]; rfl) fun k hk => ?_
 simp (maxSteps := 9^9) (disch := (try simp only [lens]); omega) only [argSl, sm, ↓amb, mark_eq, simprocAttr, it81, un3, el33, by3, vr3, wr_u64, wr_u32, hwb, Int.toNat_natCast, dx]
 repeat refine an ?_
 refine hk _ ?_; clear hk k
 refine awp_seq fun k1 h1 => ?_
 refine awp_le (le_keep [0, 1, 2, 3, 8, 9]) ?_
 simp only [kp, argSl, simprocAttr]
 refine awp_sr [] (by rw [hC]; rfl) fun k hk => ?_
 simp (maxSteps := 9^9) (disch := (try simp only [lens]); omega) only [argSl, sm, ↓amb, mark_eq, simprocAttr, el33, wr_u64, wr_u32, hwb, Int.toNat_natCast, dx]
 repeat refine an ?_
 refine hk _ ?_; clear hk k
 refine awp_block ?_
 refine awp_loop (σ := Nat) (fun i => i ≤ o.length) (fun (i : Nat) => ⟨[(0, (.p (words c l))), (1, (.p (ints d o))), (2, (.p (iV t))), (3, (.p (iV b))), (9, (.own 0)), (22, (.p (ints d o))), (23, (.p (iV o.length))), (24, (.p (iV (i : Int))))], [(0, (.row 1 (lift ((Pl.tabL (B + 1) (Pl.cntT1 (Pl.digA l t b) o i)).map fun x => [iV x]))))], 1⟩) (fun i => o.length - i) 0 ?_ ?_ fun i hi => ?_
 ·exact Nat.zero_le _
 ·exact le_of [(0, _)] (by rfl) (by rfl) ⟨⟨_, rfl, .oe⟩, ⟨_, rfl, .oe⟩, ⟨_, rfl, .oe⟩, ⟨_, rfl, .oe⟩, ⟨_, rfl, .own rfl⟩, ⟨_, rfl, .oe⟩, ⟨_, rfl, .oe⟩, ⟨_, rfl, .oe⟩, trivial⟩ ⟨⟨_, rfl, _, rfl, .liftE (by first | (rw [Pl.cnt1_0, List.map_replicate]; done) | (rw [hdw, ← Pl.cnt1_set (show i < o.length by omega) hdi, List.map_set]; first | done | rfl) | trace_state)⟩, trivial⟩
 refine awp_le (le_keep [0, 1, 2, 3, 8, 9, 22, 23, 24]) ?_
 simp only [kp, argSl, simprocAttr]
 refine awp_sr [] (by rw [hC]; rfl) fun k hk => ?_
 simp (maxSteps := 9^9) (disch := (try simp only [lens]); omega) only [argSl, sm, ↓amb, mark_eq, simprocAttr, wr_u64, wr_u32, hwb, Int.toNat_natCast, dx]
 repeat refine an ?_
 refine hk _ ?_; clear hk k
 refine awp_seq fun k3 h3 => ?_
 refine awp_cond rfl (fun hb => ?_) (fun hb => ?_)
 ·try simp only [hbx] at hb
  refine awp_skip ?_
  refine h3 _ ?_; clear h3 k3
  refine awp_seq fun k4 h4 => ?_
  refine awp_block ?_
  refine awp_le (le_keep [0, 1, 2, 3, 8, 9, 22, 23, 24]) ?_
  simp only [kp, argSl, simprocAttr]
  refine awp_sr [] (by rw [hC]; rfl) fun k hk => ?_
  simp (maxSteps := 9^9) (disch := (try simp only [lens]); omega) only [argSl, sm, ↓amb, mark_eq, simprocAttr, el33, sz3, wr_u64, wr_u32, hwb, Int.toNat_natCast, dx]
  repeat refine an ?_
  refine hk _ ?_; clear hk k
  have hdi := hdA (o.getD i 0)
  have hdj : 0 ≤ (Pl.digW (l.getD (o.getD i 0).toNat 0) t b) ∧ (Pl.digW (l.getD (o.getD i 0).toNat 0) t b) < B := hdi
  have hdw : (((Pl.digW (l.getD (o.getD i 0).toNat 0) t b) + 1) % 4294967296).toNat = ((Pl.digA l t b) (o.getD i 0) + 1).toNat := by show (((Pl.digA l t b) (o.getD i 0) + 1) % 4294967296).toNat = _; omega
  have hoi := ho.2.1 _ (Pl.getD_mem o i 0 (by omega))
  have hwi := Pl.getD_w hl (o.getD i 0).toNat
  have htl := Pl.tabL_len (B + 1) (Pl.cntT1 (Pl.digA l t b) o i)
  have hgt := Pl.cnt1_up (Pl.digA l t b) o i (((Pl.digW (l.getD (o.getD i 0).toNat 0) t b) + 1) % 4294967296).toNat B (by omega)
  refine awp_region [] (by rw [hC]; rfl) fun k hk => ?_
  simp (maxSteps := 9^9) (disch := (try simp only [lens]); omega) only [argSl, sm, ↓amb, mark_eq, simprocAttr, el22, sz41, en74, el33, sz3, wr_u64, wr_u32, hwb, Int.toNat_natCast, dx]
  repeat refine an ?_
  refine callK_p (c_radix_Digit _ _ _ hwi) rfl ?_
  simp (maxSteps := 9^9) (disch := (try simp only [lens]); omega) only [argSl, sm, ↓amb, mark_eq, simprocAttr, el22, sz41, en74, el33, sz3, wr_u64, wr_u32, hwb, Int.toNat_natCast, dx]
  repeat refine an ?_
  refine hk _ ?_; clear hk k
  refine h4 _ ?_; clear h4 k4
  refine awp_region [] (by rw [hC]; rfl) fun k hk => ?_
  simp (maxSteps := 9^9) (disch := (try simp only [lens]); omega) only [argSl, sm, ↓amb, mark_eq, simprocAttr, wr_u64, wr_u32, hwb, Int.toNat_natCast, dx]
  repeat refine an ?_
  refine hk _ ?_; clear hk k
  refine ⟨i + 1, by omega, le_of [(0, _)] (by rfl) (by rfl) ⟨⟨_, rfl, .oe⟩, ⟨_, rfl, .oe⟩, ⟨_, rfl, .oe⟩, ⟨_, rfl, .oe⟩, ⟨_, rfl, .own rfl⟩, ⟨_, rfl, .oe⟩, ⟨_, rfl, .oe⟩, ⟨_, rfl, .oe⟩, trivial⟩ ⟨⟨_, rfl, _, rfl, .liftE (by first | (rw [Pl.cnt1_0, List.map_replicate]; done) | (rw [hdw, ← Pl.cnt1_set (show i < o.length by omega) hdi, List.map_set]; first | done | rfl) | trace_state)⟩, trivial⟩, by omega⟩
 ·try simp only [hbx] at hb
  refine awp_exit ((if_pos rfl).mpr ?_)
  refine h1 _ ?_; clear h3 k3; clear h1 k1
  refine awp_seq fun k5 h5 => ?_
  refine awp_le (le_keep [0, 1, 2, 3, 8, 9]) ?_
  simp only [kp, argSl, simprocAttr]
  obtain rfl : i = o.length := by omega
  rw [Pl.cnt1_2]
  have htl := Pl.tabL_len (B + 1) (Pl.cntT2 (Pl.digA l t b) o 0)
  refine awp_sr [] (by rw [hC]; rfl) fun k hk => ?_
  simp (maxSteps := 9^9) (disch := (try simp only [lens]); omega) only [argSl, sm, ↓amb, mark_eq, simprocAttr, el33, wr_u64, wr_u32, hwb, Int.toNat_natCast, dx]
  repeat refine an ?_
  refine hk _ ?_; clear hk k
  refine awp_block ?_
  refine awp_loop (σ := Nat) (fun v => v ≤ B) (fun (v : Nat) => ⟨[(0, (.p (words c l))), (1, (.p (ints d o))), (2, (.p (iV t))), (3, (.p (iV b))), (9, (.own 0)), (44, (.p (iV ((B : Nat) : Int)))), (45, (.p (iV (v : Int))))], [(0, (.row 1 (lift ((Pl.tabL (B + 1) (Pl.cntT2 (Pl.digA l t b) o v)).map fun x => [iV x]))))], 1⟩) (fun v => B - v) 0 ?_ ?_ fun v hv => ?_
  ·exact Nat.zero_le _
  ·exact le_of [(0, _)] (by rfl) (by rfl) ⟨⟨_, rfl, .oe⟩, ⟨_, rfl, .oe⟩, ⟨_, rfl, .oe⟩, ⟨_, rfl, .oe⟩, ⟨_, rfl, .own rfl⟩, ⟨_, rfl, .oe⟩, ⟨_, rfl, .oe⟩, trivial⟩ ⟨⟨_, rfl, _, rfl, .liftE (by first | rfl | (rw [← Pl.cnt2_set (by omega), List.map_set]; first | done | rfl) | trace_state)⟩, trivial⟩
  refine awp_le (le_keep [0, 1, 2, 3, 8, 9, 44, 45]) ?_
  simp only [kp, argSl, simprocAttr]
  refine awp_sr [] (by rw [hC]; rfl) fun k hk => ?_
  simp (maxSteps := 9^9) (disch := (try simp only [lens]); omega) only [argSl, sm, ↓amb, mark_eq, simprocAttr, wr_u64, wr_u32, hwb, Int.toNat_natCast, dx]
  repeat refine an ?_
  refine hk _ ?_; clear hk k
  refine awp_seq fun k7 h7 => ?_
  refine awp_cond rfl (fun hb => ?_) (fun hb => ?_)
  ·try simp only [hbx] at hb
   refine awp_skip ?_
   refine h7 _ ?_; clear h7 k7
   refine awp_seq fun k8 h8 => ?_
   refine awp_block ?_
   refine awp_le (le_keep [0, 1, 2, 3, 8, 9, 44, 45]) ?_
   simp only [kp, argSl, simprocAttr]
   refine awp_sr [] (by rw [hC]; rfl) fun k hk => ?_
   simp (maxSteps := 9^9) (disch := (try simp only [lens]); omega) only [argSl, sm, ↓amb, mark_eq, simprocAttr, wr_u64, wr_u32, hwb, Int.toNat_natCast, dx]
   repeat refine an ?_
   refine hk _ ?_; clear hk k
   have htl := Pl.tabL_len (B + 1) (Pl.cntT2 (Pl.digA l t b) o v)
   have hg1 := Pl.cnt2_up hdB hoN v v (by omega)
   have hg2 := Pl.cnt2_up hdB hoN v (v + 1) (by omega)
   refine awp_draw [] ⟨[0, 0, 2, 7, 15, 0, 0, 96, 224, 511, 1023, 2047], [3, 4, 7, 8, 10], [11], [], some [0]⟩ (by rw [hC]; rfl) (by kernel_rfl) (by kernel_rfl) fun k hk => ?_
   simp (maxSteps := 9^9) (disch := (try simp only [lens]); omega) only [argSl, sm, ↓amb, mark_eq, simprocAttr, el33, sz3, wr_u64, wr_u32, hwb, Int.toNat_natCast, dx]
   repeat refine an ?_
   refine hk _ ?_; clear hk k
   refine h8 _ ?_; clear h8 k8
   refine awp_region [] (by rw [hC]; rfl) fun k hk => ?_
   simp (maxSteps := 9^9) (disch := (try simp only [lens]); omega) only [argSl, sm, ↓amb, mark_eq, simprocAttr, wr_u64, wr_u32, hwb, Int.toNat_natCast, dx]
   repeat refine an ?_
   refine hk _ ?_; clear hk k
   refine ⟨v + 1, by omega, le_of [(0, _)] (by rfl) (by rfl) ⟨⟨_, rfl, .oe⟩, ⟨_, rfl, .oe⟩, ⟨_, rfl, .oe⟩, ⟨_, rfl, .oe⟩, ⟨_, rfl, .own rfl⟩, ⟨_, rfl, .oe⟩, ⟨_, rfl, .oe⟩, trivial⟩ ⟨⟨_, rfl, _, rfl, .liftE (by first | rfl | (rw [← Pl.cnt2_set (by omega), List.map_set]; first | done | rfl) | trace_state)⟩, trivial⟩, by omega⟩
  ·try simp only [hbx] at hb
   refine awp_exit ((if_pos rfl).mpr ?_)
   refine h5 _ ?_; clear h7 k7; clear h5 k5
   refine awp_le (le_keep [0, 1, 2, 3, 9]) ?_
   simp only [kp, argSl, simprocAttr]
   obtain rfl : B = v := by omega
   rw [Pl.cnt2_3]
   refine awp_sr [] (by rw [hC]; rfl) fun k hk => ?_
   simp (maxSteps := 9^9) (disch := (try simp only [lens]); omega) only [argSl, sm, ↓amb, mark_eq, simprocAttr, el33, by3, vr3, wr_u64, wr_u32, hwb, Int.toNat_natCast, dx]
   repeat refine an ?_
   refine hk _ ?_; clear hk k
   refine awp_seq fun k9 h9 => ?_
   refine awp_le (le_keep [0, 1, 2, 3, 8, 9, 13]) ?_
   simp only [kp, argSl, simprocAttr]
   refine awp_sr [] (by rw [hC]; rfl) fun k hk => ?_
   simp (maxSteps := 9^9) (disch := (try simp only [lens]); omega) only [argSl, sm, ↓amb, mark_eq, simprocAttr, el33, wr_u64, wr_u32, hwb, Int.toNat_natCast, dx]
   repeat refine an ?_
   refine hk _ ?_; clear hk k
   refine awp_block ?_
   refine awp_loop (σ := Nat) (fun i => i ≤ o.length) (fun (i : Nat) => ⟨[(0, (.p (words c l))), (1, (.p (ints d o))), (2, (.p (iV t))), (3, (.p (iV b))), (9, (.own 0)), (13, (.own 1)), (63, (.p (ints d o))), (64, (.p (iV o.length))), (65, (.p (iV (i : Int))))], [(0, (.row 1 (lift ((Pl.tabL (B + 1) (Pl.cntT3 B (Pl.digA l t b) o i)).map fun x => [iV x])))), (1, (.row 1 (lift ((Pl.fillL o.length (Pl.posL (Pl.digA l t b) o i) (fun j => (Pl.bucket B (Pl.digA l t b) o).getD j 0)).map fun x => [iV x]))))], 1⟩) (fun i => o.length - i) 0 ?_ ?_ fun i hi => ?_
   ·exact Nat.zero_le _
   ·exact le_of [(0, _), (1, _)] (by rfl) (by rfl) ⟨⟨_, rfl, .oe⟩, ⟨_, rfl, .oe⟩, ⟨_, rfl, .oe⟩, ⟨_, rfl, .oe⟩, ⟨_, rfl, .own rfl⟩, ⟨_, rfl, .own rfl⟩, ⟨_, rfl, .oe⟩, ⟨_, rfl, .oe⟩, ⟨_, rfl, .oe⟩, trivial⟩ ⟨⟨_, rfl, _, rfl, .liftE (by first | rfl | (rw [hcg, ← Pl.cnt3_set (show i < o.length by omega) hdi, List.map_set]; first | done | rfl) | trace_state)⟩, ⟨_, rfl, _, rfl, .liftE (by first | (rw [show Pl.posL (Pl.digA l t b) o 0 = [] from rfl, Pl.fillL_nil, List.map_replicate]; done) | (rw [hcg, Pl.posL_succ, ← Pl.fillL_set (Int.natCast_nonneg _) (x := o.getD i 0) hpl.2.symm, List.map_set]; first | done | rfl) | trace_state)⟩, trivial⟩
   refine awp_le (le_keep [0, 1, 2, 3, 8, 9, 13, 63, 64, 65]) ?_
   simp only [kp, argSl, simprocAttr]
   refine awp_sr [] (by rw [hC]; rfl) fun k hk => ?_
   simp (maxSteps := 9^9) (disch := (try simp only [lens]); omega) only [argSl, sm, ↓amb, mark_eq, simprocAttr, wr_u64, wr_u32, hwb, Int.toNat_natCast, dx]
   repeat refine an ?_
   refine hk _ ?_; clear hk k
   refine awp_seq fun k11 h11 => ?_
   refine awp_cond rfl (fun hb => ?_) (fun hb => ?_)
   ·try simp only [hbx] at hb
    refine awp_skip ?_
    refine h11 _ ?_; clear h11 k11
    refine awp_seq fun k12 h12 => ?_
    refine awp_block ?_
    refine awp_le (le_keep [0, 1, 2, 3, 8, 9, 13, 63, 64, 65]) ?_
    simp only [kp, argSl, simprocAttr]
    refine awp_sr [] (by rw [hC]; rfl) fun k hk => ?_
    simp (maxSteps := 9^9) (disch := (try simp only [lens]); omega) only [argSl, sm, ↓amb, mark_eq, simprocAttr, el33, sz3, wr_u64, wr_u32, hwb, Int.toNat_natCast, dx]
    repeat refine an ?_
    refine hk _ ?_; clear hk k
    refine awp_le (le_keep [0, 1, 2, 3, 8, 9, 13, 15, 63, 64, 65]) ?_
    simp only [kp, argSl, simprocAttr]
    have hdi := hdA (o.getD i 0)
    have hdj : 0 ≤ (Pl.digW (l.getD (o.getD i 0).toNat 0) t b) ∧ (Pl.digW (l.getD (o.getD i 0).toNat 0) t b) < B := hdi
    have hdw : (((Pl.digW (l.getD (o.getD i 0).toNat 0) t b) + 1) % 4294967296).toNat = ((Pl.digA l t b) (o.getD i 0) + 1).toNat := by show (((Pl.digA l t b) (o.getD i 0) + 1) % 4294967296).toNat = _; omega
    have hoi := ho.2.1 _ (Pl.getD_mem o i 0 (by omega))
    have hwi := Pl.getD_w hl (o.getD i 0).toNat
    refine awp_sr [] (by rw [hC]; rfl) fun k hk => ?_
    simp (maxSteps := 9^9) (disch := (try simp only [lens]); omega) only [argSl, sm, ↓amb, mark_eq, simprocAttr, el22, sz41, en74, wr_u64, wr_u32, hwb, Int.toNat_natCast, dx]
    repeat refine an ?_
    refine callK_p (c_radix_Digit _ _ _ hwi) rfl ?_
    simp (maxSteps := 9^9) (disch := (try simp only [lens]); omega) only [argSl, sm, ↓amb, mark_eq, simprocAttr, el22, sz41, en74, wr_u64, wr_u32, hwb, Int.toNat_natCast, dx]
    repeat refine an ?_
    refine hk _ ?_; clear hk k
    refine awp_le (le_keep [0, 1, 2, 3, 8, 9, 13, 15, 16, 63, 64, 65]) ?_
    simp only [kp, argSl, simprocAttr]
    have htl := Pl.tabL_len (B + 1) (Pl.cntT3 B (Pl.digA l t b) o i)
    have hfl := Pl.fillL_len o.length (Pl.posL (Pl.digA l t b) o i) (fun j => (Pl.bucket B (Pl.digA l t b) o).getD j 0)
    have hcg : (Pl.tabL (B + 1) (Pl.cntT3 B (Pl.digA l t b) o i)).getD (Pl.digW (l.getD (o.getD i 0).toNat 0) t b).toNat 0 = (Pl.posB (Pl.digA l t b) o i : Int) := Pl.cnt3_get (B := B) (show i < o.length by omega) hdi
    have hpl := Pl.posB_lt (show i < o.length by omega) hdB hoN
    refine awp_sr [] (by rw [hC]; rfl) fun k hk => ?_
    simp (maxSteps := 9^9) (disch := (try simp only [lens]); omega) only [argSl, sm, ↓amb, mark_eq, simprocAttr, el33, sz3, wr_u64, wr_u32, hwb, Int.toNat_natCast, dx]
    repeat refine an ?_
    refine hk _ ?_; clear hk k
    refine awp_region [] (by rw [hC]; rfl) fun k hk => ?_
    simp (maxSteps := 9^9) (disch := (try simp only [lens]); omega) only [argSl, sm, ↓amb, mark_eq, simprocAttr, el33, sz3, wr_u64, wr_u32, hwb, Int.toNat_natCast, dx]
    repeat refine an ?_
    refine hk _ ?_; clear hk k
    refine h12 _ ?_; clear h12 k12
    refine awp_region [] (by rw [hC]; rfl) fun k hk => ?_
    simp (maxSteps := 9^9) (disch := (try simp only [lens]); omega) only [argSl, sm, ↓amb, mark_eq, simprocAttr, wr_u64, wr_u32, hwb, Int.toNat_natCast, dx]
    repeat refine an ?_
    refine hk _ ?_; clear hk k
    refine ⟨i + 1, by omega, le_of [(0, _), (1, _)] (by rfl) (by rfl) ⟨⟨_, rfl, .oe⟩, ⟨_, rfl, .oe⟩, ⟨_, rfl, .oe⟩, ⟨_, rfl, .oe⟩, ⟨_, rfl, .own rfl⟩, ⟨_, rfl, .own rfl⟩, ⟨_, rfl, .oe⟩, ⟨_, rfl, .oe⟩, ⟨_, rfl, .oe⟩, trivial⟩ ⟨⟨_, rfl, _, rfl, .liftE (by first | rfl | (rw [hcg, ← Pl.cnt3_set (show i < o.length by omega) hdi, List.map_set]; first | done | rfl) | trace_state)⟩, ⟨_, rfl, _, rfl, .liftE (by first | (rw [show Pl.posL (Pl.digA l t b) o 0 = [] from rfl, Pl.fillL_nil, List.map_replicate]; done) | (rw [hcg, Pl.posL_succ, ← Pl.fillL_set (Int.natCast_nonneg _) (x := o.getD i 0) hpl.2.symm, List.map_set]; first | done | rfl) | trace_state)⟩, trivial⟩, by omega⟩
   ·try simp only [hbx] at hb
    refine awp_exit ((if_pos rfl).mpr ?_)
    refine h9 _ ?_; clear h11 k11; clear h9 k9
    refine awp_le (le_keep [13]) ?_
    simp only [kp, argSl, simprocAttr]
    obtain rfl : i = o.length := by omega
    rw [show Pl.fillL o.length (Pl.posL (Pl.digA l t b) o o.length) (fun j => (Pl.bucket B (Pl.digA l t b) o).getD j 0) = (Pl.bucket B (Pl.digA l t b) o) from Pl.filled hdB hoN]
    refine awp_sr [] (by rw [hC]; rfl) fun k hk => ?_
    simp (maxSteps := 9^9) (disch := (try simp only [lens]); omega) only [argSl, sm, ↓amb, mark_eq, simprocAttr, wr_u64, wr_u32, hwb, Int.toNat_natCast, dx]
    repeat refine an ?_
    refine hk _ ?_; clear hk k
    refine awp_ret ?_
    refine ret1 rfl rfl ?_
    exact .ownE rfl rfl
end Go.Proofs.Ytbehekmnccoifaa
end
section
set_option linter.unusedSimpArgs false
set_option linter.unusedVariables false
set_option maxRecDepth 100000
namespace Go.Proofs.Ytbehekmnccoifaa
open Go.Am Go.Proofs
theorem by41 : tBytes Try.prog 41 = some 4 := by kernel_rfl
theorem vr41 : tVar Try.prog 41 = some (false, [.lit (.int .u32 0)]) := by kernel_rfl
set_option maxHeartbeats 4000000 in
theorem c_scan_Sums_1 (a b : Int) (ha : Pl.W32 a) (hb' : Pl.W32 b) : PCall Try.prog 66 [u32V a, u32V b] (u32V (Pl.add32 a b)) := by
 refine pcall_of_awp Try.func66 rfl (by simp [Try.ntmps66]) fun C hC => ?_
 refine awp_sr [] (by rw [hC]; rfl) fun k hk => ?_
 simp (maxSteps := 9^9) (disch := (try simp only [lens]); omega) only [argSl, sm, ↓amb, mark_eq, simprocAttr, wr_u32, dx]
 repeat refine an ?_
 refine hk _ ?_; clear hk k
 refine awp_sr [] (by rw [hC]; rfl) fun k hk => ?_
 simp (maxSteps := 9^9) (disch := (try simp only [lens]); omega) only [argSl, sm, ↓amb, mark_eq, simprocAttr, wr_u32, dx]
 repeat refine an ?_
 refine hk _ ?_; clear hk k
 refine awp_ret ?_
 refine ret1 rfl rfl ?_
 exact .p (LeP.of_eq (by rfl))
set_option maxHeartbeats 4000000 in
theorem c_scan_part (c : Bool) (l : List Int) (u b : Nat) (h : u * b ≤ l.length) (hu : u ≤ 1000) (hb' : b ≤ 100) (hn : l.length ≤ 1000) : PCall Try.prog 78 [words c l, iV u, iV b] (words false (Pl.part l b u)) := by
 refine pcall_of_awp Try.func78 rfl (by simp [Try.ntmps78]) fun C hC => ?_
 refine awp_le (le_keep [0, 1, 2]) ?_
 simp only [kp, argSl, simprocAttr]
 refine awp_sr [] (by rw [hC]; rfl) fun k hk => ?_
 simp (maxSteps := 9^9) (disch := (try simp only [lens]); omega) only [argSl, sm, ↓amb, mark_eq, simprocAttr, dx]
 repeat refine an ?_
 refine hk _ ?_; clear hk k
 refine awp_le (le_keep [0, 1, 2]) ?_
 simp only [kp, argSl, simprocAttr]
 have h1 : (u + 1) * b = u * b + b := by rw [Nat.add_mul, Nat.one_mul]
 have e1 : (u : Int) * (b : Int) = ((u * b : Nat) : Int) := by rw [Int.natCast_mul]
 have e2 : ((u : Int) + 1) * (b : Int) = ((u * b + b : Nat) : Int) := by rw [← h1, Int.natCast_mul]; rfl
 refine awp_sr [] (by rw [hC]; rfl) fun k hk => ?_
 simp (maxSteps := 9^9) (disch := (try simp only [lens]); omega) only [argSl, sm, ↓amb, mark_eq, simprocAttr, el22, sz41, dx]
 repeat refine an ?_
 refine hk _ ?_; clear hk k
 refine awp_ret ?_
 have e3 : (List.take (min (l.length : Int) ((u * b + b : Nat) : Int)).toNat l).drop ((u * b : Nat) : Int).toNat = Pl.part l b u := by unfold Pl.part; rw [h1, Int.toNat_natCast]; congr 2; omega
 refine ret1 rfl rfl ?_
 rw [e1, e2, e3]
 exact .p (LeP.seq _ _)
set_option maxHeartbeats 4000000 in
theorem c_scan_ahead (c : Bool) (l : List Int) (hl : ∀ x, x ∈ l → Pl.W32 x) (hn : l.length ≤ 1000000) (F : FuncId) (hen : enters Try.prog F = true) (f : Int → Int → Int) (hf : Pl.Rule f) (hF : ∀ a b : Int, Pl.W32 a → Pl.W32 b → PCall Try.prog F [u32V a, u32V b] (u32V (f a b))) : HCall Try.prog 77 [.p (words c l), .fn F []] [] (.tup [.p (words false (Pl.aheadF f l)), .p (u32V (Pl.allF f l))]) [] := by
 refine hcall_of_awp Try.func77 rfl (by simp [Try.ntmps77]) fun C hC => ?_
 refine awp_le (le_keep [0, 1]) ?_
 simp only [kp, argSl, simprocAttr]
 refine awp_sr [] (by rw [hC]; rfl) fun k hk => ?_
 simp (maxSteps := 9^9) (disch := (try simp only [lens]); omega) only [argSl, sm, ↓amb, mark_eq, simprocAttr, hen, dx]
 repeat refine an ?_
 refine hk _ ?_; clear hk k
 refine awp_le (le_keep [0, 1]) ?_
 simp only [kp, argSl, simprocAttr]
 refine awp_sr [] (by rw [hC]; rfl) fun k hk => ?_
 simp (maxSteps := 9^9) (disch := (try simp only [lens]); omega) only [argSl, sm, ↓amb, mark_eq, simprocAttr, el22, by41, vr41, hen, dx]
 repeat refine an ?_
 refine hk _ ?_; clear hk k
 refine awp_le (le_keep [0, 1, 6]) ?_
 simp only [kp, argSl, simprocAttr]
 refine awp_sr [] (by rw [hC]; rfl) fun k hk => ?_
 simp (maxSteps := 9^9) (disch := (try simp only [lens]); omega) only [argSl, sm, ↓amb, mark_eq, simprocAttr, hen, dx]
 repeat refine an ?_
 refine hk _ ?_; clear hk k
 refine awp_seq fun k1 h1 => ?_
 refine awp_le (le_keep [0, 1, 4, 5, 6, 7]) ?_
 simp only [kp, argSl, simprocAttr]
 refine awp_sr [] (by rw [hC]; rfl) fun k hk => ?_
 simp (maxSteps := 9^9) (disch := (try simp only [lens]); omega) only [argSl, sm, ↓amb, mark_eq, simprocAttr, el22, hen, dx]
 repeat refine an ?_
 refine hk _ ?_; clear hk k
 refine awp_block ?_
 refine awp_loop (σ := Nat) (fun i => i ≤ l.length) (fun (i : Nat) => ⟨[(1, (.fn F [])), (6, (.own 0)), (7, (.p (u32V (Pl.allF f (l.take i))))), (13, (.p (words c l))), (14, (.p (iV l.length))), (15, (.p (iV (i : Int))))], [(0, (.row 1 (lift ((Pl.fillL l.length (Pl.upto 0 ((i : Nat) : Int)) (fun j => Pl.allF f (l.take j))).map fun x => [u32V x]))))], 1⟩) (fun i => l.length - i) 0 ?_ ?_ fun i hi => ?_
 ·exact Nat.zero_le _
 ·exact le_of [(0, _)] (by rfl) (by rfl) ⟨⟨_, rfl, .fn rfl LeRow.nil.2⟩, ⟨_, rfl, .own rfl⟩, ⟨_, rfl, .p (.of_eq (by first | rfl | (rw [Pl.allF_take f l i (by omega)]; done) | trace_state))⟩, ⟨_, rfl, .oe⟩, ⟨_, rfl, .oe⟩, ⟨_, rfl, .oe⟩, trivial⟩ ⟨⟨_, rfl, _, rfl, .liftE (by first | (rw [Pl.upto_nil (by simp), Pl.fillL_nil, List.map_replicate]; done) | (rw [← Pl.upto_snoc' i, ← Pl.fillL_set (by omega) (x := Pl.allF f (l.take i)) rfl, List.map_set]; rfl) | trace_state)⟩, trivial⟩
 refine awp_le (le_keep [0, 1, 4, 5, 6, 7, 13, 14, 15]) ?_
 simp only [kp, argSl, simprocAttr]
 refine awp_sr [] (by rw [hC]; rfl) fun k hk => ?_
 simp (maxSteps := 9^9) (disch := (try simp only [lens]); omega) only [argSl, sm, ↓amb, mark_eq, simprocAttr, hen, dx]
 repeat refine an ?_
 refine hk _ ?_; clear hk k
 refine awp_seq fun k3 h3 => ?_
 refine awp_cond rfl (fun hb => ?_) (fun hb => ?_)
 ·try simp only [hbx] at hb
  refine awp_skip ?_
  refine h3 _ ?_; clear h3 k3
  refine awp_seq fun k4 h4 => ?_
  refine awp_block ?_
  refine awp_le (le_keep [0, 1, 4, 5, 6, 7, 13, 14, 15]) ?_
  simp only [kp, argSl, simprocAttr]
  refine awp_sr [] (by rw [hC]; rfl) fun k hk => ?_
  simp (maxSteps := 9^9) (disch := (try simp only [lens]); omega) only [argSl, sm, ↓amb, mark_eq, simprocAttr, el22, sz41, hen, dx]
  repeat refine an ?_
  refine hk _ ?_; clear hk k
  refine awp_le (le_keep [0, 1, 4, 5, 6, 7, 8, 9, 13, 14, 15]) ?_
  simp only [kp, argSl, simprocAttr]
  have hfl := Pl.fillL_len l.length (Pl.upto 0 ((i : Nat) : Int)) (fun j => Pl.allF f (l.take j))
  refine awp_sr [] (by rw [hC]; rfl) fun k hk => ?_
  simp (maxSteps := 9^9) (disch := (try simp only [lens]); omega) only [argSl, sm, ↓amb, mark_eq, simprocAttr, el22, sz41, hen, dx]
  repeat refine an ?_
  refine hk _ ?_; clear hk k
  have hw1 := hl _ (Pl.getD_mem l i 0 (by omega))
  have hw2 : Pl.W32 (Pl.allF f (l.take i)) := Pl.allF_w hf (Pl.take_w hl)
  refine awp_region [] (by rw [hC]; rfl) fun k hk => ?_
  simp (maxSteps := 9^9) (disch := (try simp only [lens]); omega) only [argSl, sm, ↓amb, mark_eq, simprocAttr, hen, dx]
  repeat refine an ?_
  refine callK_p (hF _ _ hw2 hw1) rfl ?_
  simp (maxSteps := 9^9) (disch := (try simp only [lens]); omega) only [argSl, sm, ↓amb, mark_eq, simprocAttr, hen, dx]
  repeat refine an ?_
  refine hk _ ?_; clear hk k
  refine h4 _ ?_; clear h4 k4
  refine awp_region [] (by rw [hC]; rfl) fun k hk => ?_
  simp (maxSteps := 9^9) (disch := (try simp only [lens]); omega) only [argSl, sm, ↓amb, mark_eq, simprocAttr, hen, dx]
  repeat refine an ?_
  refine hk _ ?_; clear hk k
  refine ⟨i + 1, by omega, le_of [(0, _)] (by rfl) (by rfl) ⟨⟨_, rfl, .fn rfl LeRow.nil.2⟩, ⟨_, rfl, .own rfl⟩, ⟨_, rfl, .p (.of_eq (by first | rfl | (rw [Pl.allF_take f l i (by omega)]; done) | trace_state))⟩, ⟨_, rfl, .oe⟩, ⟨_, rfl, .oe⟩, ⟨_, rfl, .oe⟩, trivial⟩ ⟨⟨_, rfl, _, rfl, .liftE (by first | (rw [Pl.upto_nil (by simp), Pl.fillL_nil, List.map_replicate]; done) | (rw [← Pl.upto_snoc' i, ← Pl.fillL_set (by omega) (x := Pl.allF f (l.take i)) rfl, List.map_set]; rfl) | trace_state)⟩, trivial⟩, by omega⟩
 ·try simp only [hbx] at hb
  refine awp_exit ((if_pos rfl).mpr ?_)
  refine h1 _ ?_; clear h3 k3; clear h1 k1
  refine awp_le (le_keep [6, 7]) ?_
  simp only [kp, argSl, simprocAttr]
  have htk : l.take i = l := List.take_of_length_le (by omega)
  rw [htk, Pl.fill_upto (fun j => Pl.allF f (l.take j)) (show l.length ≤ i by omega)]
  refine awp_sr [] (by rw [hC]; rfl) fun k hk => ?_
  simp (maxSteps := 9^9) (disch := (try simp only [lens]); omega) only [argSl, sm, ↓amb, mark_eq, simprocAttr, hen, dx]
  repeat refine an ?_
  refine hk _ ?_; clear hk k
  refine awp_ret ?_
  refine reth2 rfl rfl rfl ?_
  exact le_of [] (by rfl) (by rfl) ⟨⟨_, rfl, leTup (LeRow.cons (.frz rfl (by rfl)) (LeRow.cons (.p (.refl _)) .nil))⟩, trivial⟩ trivial
end Go.Proofs.Ytbehekmnccoifaa
end
section
namespace Go.Am
theorem ret4 {P : Program} {s : LS} {fn : Func} {t u v w : Nat} {x y z a : AV} {r q p o : PV} (hf : fn.results = #[.tmp t, .tmp u, .tmp v, .tmp w]) (h : lkp s.sl t = some x) (h2 : lkp s.sl u = some y) (h3 : lkp s.sl v = some z) (h4 : lkp s.sl w = some a)
    (hr : ResA s.hp x r) (hr2 : ResA s.hp y q) (hr3 : ResA s.hp z p) (hr4 : ResA s.hp a o) : retK P fn (.tup [r, q, p, o]) .ret s := by
  show resR P s fn.results.toList _
  rw [hf]; exact ⟨_, rfl, ⟨x, h, hr⟩, ⟨y, h2, hr2⟩, ⟨z, h3, hr3⟩, ⟨a, h4, hr4⟩, trivial⟩
theorem reth4 {P : Program} {s : LS} {fn : Func} {hp' : List (Nat × Blk)} {t u x w : Nat} {r0 q0 z0 w0 r : AV} (hf : fn.results = #[.tmp t, .tmp u, .tmp x, .tmp w]) (h : lkp s.sl t = some r0) (h2 : lkp s.sl u = some q0) (h3 : lkp s.sl x = some z0) (h4 : lkp s.sl w = some w0) (hle : LE ⟨[(0, .tup [r0, q0, z0, w0])], s.hp, s.nx⟩ ⟨[(0, r)], hp', 1⟩) : retH P fn r hp' .ret s := by
  refine ⟨_, ?_, hle⟩
  rw [hf]; exact ⟨_, rfl, h, h2, h3, h4, trivial⟩
end Go.Am
end
section
set_option linter.unusedSimpArgs false
set_option linter.unusedVariables false
set_option maxRecDepth 100000
namespace Go.Proofs.Ytbehekmnccoifaa
open Go.Am Go.Proofs
theorem en53 : enters Try.prog 53 = true := by kernel_rfl
theorem en65 : enters Try.prog 65 = true := by kernel_rfl
theorem en66 : enters Try.prog 66 = true := by kernel_rfl
theorem en76 : enters Try.prog 76 = true := by kernel_rfl
theorem en77 : enters Try.prog 77 = true := by kernel_rfl
theorem en78 : enters Try.prog 78 = true := by kernel_rfl
set_option maxHeartbeats 4000000 in
theorem c_scan_phases (c d : Bool) (l : List Int) (b : Int) (p : Pl.Plan) (hl : ∀ x, x ∈ l → Pl.W32 x) (F : FuncId) (hen : enters Try.prog F = true) (f : Int → Int → Int) (hf : Pl.Rule f) (hF : ∀ a b : Int, Pl.W32 a → Pl.W32 b → PCall Try.prog F [u32V a, u32V b] (u32V (f a b))) : HCall Try.prog 65 [.p (words c l), .p (iV b), .p (.agg (planC d p)), .fn F []] [] (.tup [.p (words false (Pl.scL f l b p)), .p (u32V (Pl.scT f l b p)), .p (iV (Pl.scS l.length b p)), .p (iV (Pl.scE l.length b p))]) [] := by
 refine hcall_of_awp Try.func65 rfl (by simp [Try.ntmps65]) fun C hC => ?_
 refine awp_le (le_keep [0, 1, 2, 3]) ?_
 simp only [kp, argSl, simprocAttr]
 refine awp_sr [] (by rw [hC]; rfl) fun k hk => ?_
 simp (maxSteps := 9^9) (disch := (try simp only [lens]); omega) only [argSl, sm, ↓amb, mark_eq, simprocAttr, hen, dx]
 repeat refine an ?_
 refine hk _ ?_; clear hk k
 refine awp_seq fun k1 h1 => ?_
 refine awp_test [] 31 (decide (¬ ((1 ≤ b ∧ b ≤ 100) ∧ l.length ≤ 1000))) [0, 1, 3, 6, 8, 9, 10, 11] (by rw [hC]; rfl) (fun gd hgd k hk => ?_) ?_
 ·have g3 : gd 3 = some 27 := by rw [hgd]; rfl
  clear hgd
  simp (maxSteps := 9^9) (disch := (try simp only [lens]); omega) only [argSl, sm, ↓amb, mark_eq, simprocAttr, en75, el22, gcase_undef, g3, hen, dx]
  repeat' first | refine hk _ _ rfl rfl rfl rfl ?_ | (refine gsplit (fun hg => ?_) (fun hg => ?_) <;> (try simp only [hbx] at hg) <;> simp (maxSteps := 9^9) (disch := (try simp only [lens]); omega) only [argSl, sm, ↓amb, mark_eq, simprocAttr, en75, el22, gcase_undef, g3, hen, dx]) | apply And.intro | (refine callK_p (c_scan_sized _) rfl ?_; (try simp (maxSteps := 9^9) (disch := (try simp only [lens]); omega) only [argSl, sm, ↓amb, mark_eq, simprocAttr, en75, el22, gcase_undef, g3, hen, dx])) | fail
  all_goals first | rfl | omega | exact (decide_eq_true (by omega)).symm | exact (decide_eq_false (by omega)).symm | exact decide_eq_decide.mpr (by omega) | (refine Bool.eq_iff_iff.mpr ?_; simp only [beq_iff_eq, bne_iff_ne, ne_eq, decide_eq_true_eq]; omega) | (refine Bool.eq_iff_iff.mpr ?_; simp only [Bool.not_eq_true', Bool.not_eq_false', decide_eq_false_iff_not, decide_eq_true_eq, beq_iff_eq, bne_iff_ne, ne_eq]; omega) | assumption | (simp; done) | (simp [maxLen]; omega) | skip
 simp only [kp, argSl, simprocAttr, List.length_cons, List.length_nil]
 refine awp_cond rfl (fun hb => ?_) (fun hb => ?_)
 ·try simp only [hbx] at hb
  refine awp_le (le_keep []) ?_
  simp only [kp, argSl, simprocAttr]
  refine awp_sr [] (by rw [hC]; rfl) fun k hk => ?_
  simp (maxSteps := 9^9) (disch := (try simp only [lens]); omega) only [argSl, sm, ↓amb, mark_eq, simprocAttr, hen, dx]
  repeat refine an ?_
  refine hk _ ?_; clear hk k
  refine awp_ret ?_
  have hse : ¬ Pl.scE l.length b p = 0 := by unfold Pl.scE; rw [if_neg (by first | exact hb | simpa using hb)]; decide
  have hs1 : Pl.scE l.length b p = 1 := (Pl.scE_01 _ _ _).resolve_left hse
  rw [(Pl.sc_no hse).1, (Pl.sc_no (f := f) hse).2.1, (Pl.sc_no (f := f) hse).2.2, hs1]
  refine reth4 rfl rfl rfl rfl rfl ?_
  exact le_of [] (by rfl) (by rfl) ⟨⟨_, rfl, leTup (LeRow.cons (.p (LeP.seq _ _)) (LeRow.cons (.p (.refl _)) (LeRow.cons (.p (.refl _)) (LeRow.cons (.p (.refl _)) .nil))))⟩, trivial⟩ trivial
 ·try simp only [hbx] at hb
  refine awp_skip ?_
  refine h1 _ ?_; clear h1 k1
  refine awp_le (le_keep [0, 1, 3, 6]) ?_
  simp only [kp, argSl, simprocAttr]
  have hq : (1 ≤ b ∧ b ≤ 100) ∧ l.length ≤ 1000 := by first | exact hb | exact Decidable.not_not.1 hb
  obtain ⟨B, rfl⟩ := Int.eq_ofNat_of_zero_le (show 0 ≤ b by omega)
  have hB : 1 ≤ B ∧ B ≤ 100 := by omega
  have hn := hq.2
  refine awp_sr [] (by rw [hC]; rfl) fun k hk => ?_
  simp (maxSteps := 9^9) (disch := (try simp only [lens]); omega) only [argSl, sm, ↓amb, mark_eq, simprocAttr, el22, en76, hen, dx]
  repeat refine an ?_
  refine callK_p (c_scan_Blocks _ _) rfl ?_
  simp (maxSteps := 9^9) (disch := (try simp only [lens]); omega) only [argSl, sm, ↓amb, mark_eq, simprocAttr, el22, en76, hen, dx]
  repeat refine an ?_
  refine hk _ ?_; clear hk k
  refine awp_le (le_keep [0, 1, 3, 6, 12]) ?_
  simp only [kp, argSl, simprocAttr]
  rw [Pl.blk_nat hB hn]
  have hNu := Pl.blkN_up hB hn
  refine awp_sr [] (by rw [hC]; rfl) fun k hk => ?_
  simp (maxSteps := 9^9) (disch := (try simp only [lens]); omega) only [argSl, sm, ↓amb, mark_eq, simprocAttr, sz26, en53, hen, dx]
  repeat refine an ?_
  refine callK_p (c_fill_Order _ _ p) rfl ?_
  simp (maxSteps := 9^9) (disch := (try simp only [lens]); omega) only [argSl, sm, ↓amb, mark_eq, simprocAttr, sz26, en53, hen, dx]
  repeat refine an ?_
  refine hk _ ?_; clear hk k
  refine awp_seq fun k2 h2 => ?_
  refine awp_le (le_keep [0, 1, 3, 8, 9, 10, 11, 12, 13]) ?_
  simp only [kp, argSl, simprocAttr]
  refine awp_sr [] (by rw [hC]; rfl) fun k hk => ?_
  simp (maxSteps := 9^9) (disch := (try simp only [lens]); omega) only [argSl, sm, ↓amb, mark_eq, simprocAttr, hen, dx]
  repeat refine an ?_
  refine hk _ ?_; clear hk k
  refine awp_cond rfl (fun hb => ?_) (fun hb => ?_)
  ·try simp only [hbx] at hb
   refine awp_le (le_keep [11]) ?_
   simp only [kp, argSl, simprocAttr]
   have hse : ¬ Pl.scE l.length B p = 0 := by unfold Pl.scE; rw [if_pos hq, Pl.blk_nat hB hn]; exact hb
   refine awp_sr [] (by rw [hC]; rfl) fun k hk => ?_
   simp (maxSteps := 9^9) (disch := (try simp only [lens]); omega) only [argSl, sm, ↓amb, mark_eq, simprocAttr, hen, dx]
   repeat refine an ?_
   refine hk _ ?_; clear hk k
   refine awp_ret ?_
   have hs1 : Pl.scE l.length B p = Pl.ordE (Pl.blkN l.length B : Nat) p := by unfold Pl.scE; rw [if_pos hq, Pl.blk_nat hB hn]
   rw [(Pl.sc_no hse).1, (Pl.sc_no (f := f) hse).2.1, (Pl.sc_no (f := f) hse).2.2, hs1]
   refine reth4 rfl rfl rfl rfl rfl ?_
   exact le_of [] (by rfl) (by rfl) ⟨⟨_, rfl, leTup (LeRow.cons (.p (LeP.seq _ _)) (LeRow.cons (.p (.refl _)) (LeRow.cons (.p (.refl _)) (LeRow.cons (.p (.refl _)) .nil))))⟩, trivial⟩ trivial
  ·try simp only [hbx] at hb
   refine awp_skip ?_
   refine h2 _ ?_; clear h2 k2
   refine awp_le (le_keep [0, 1, 3, 10, 12, 13]) ?_
   simp only [kp, argSl, simprocAttr]
   have hse : Pl.scE l.length B p = 0 := by unfold Pl.scE; rw [if_pos hq, Pl.blk_nat hB hn]; exact hb
   have hoo := Pl.ordE_iff.1 hb
   have hU : ∀ u, u ∈ (Pl.ordU (Pl.blkN l.length B : Nat) p) → 0 ≤ u ∧ u < ((Pl.blkN l.length B) : Nat) := fun u h => ((Pl.ordU_ok hoo).2.1 u).1 h
   have hUl := (Pl.ordU_ok hoo).2.2
   have hos := (Pl.ord_steps hoo).2.2.2.2.2
   have hos2 : 0 ≤ Pl.ordS (Pl.blkN l.length B : Nat) p := by have := Pl.ord_steps hoo; omega
   refine awp_sr [] (by rw [hC]; rfl) fun k hk => ?_
   simp (maxSteps := 9^9) (disch := (try simp only [lens]); omega) only [argSl, sm, ↓amb, mark_eq, simprocAttr, el22, by41, vr41, hen, dx]
   repeat refine an ?_
   refine hk _ ?_; clear hk k
   refine awp_seq fun k3 h3 => ?_
   refine awp_le (le_keep [0, 1, 3, 8, 9, 10, 11, 13, 14]) ?_
   simp only [kp, argSl, simprocAttr]
   refine awp_sr [] (by rw [hC]; rfl) fun k hk => ?_
   simp (maxSteps := 9^9) (disch := (try simp only [lens]); omega) only [argSl, sm, ↓amb, mark_eq, simprocAttr, el33, hen, dx]
   repeat refine an ?_
   refine hk _ ?_; clear hk k
   refine awp_block ?_
   refine awp_loop (σ := Nat) (fun z => z ≤ (Pl.ordU (Pl.blkN l.length B : Nat) p).length) (fun (z : Nat) => ⟨[(0, (.p (words c l))), (1, (.p (iV B))), (3, (.fn F [])), (10, (.p (iV (Pl.ordS (Pl.blkN l.length B) p)))), (13, (.p (ints false (Pl.ordU (Pl.blkN l.length B : Nat) p)))), (14, (.own 0)), (48, (.p (ints false (Pl.ordU (Pl.blkN l.length B : Nat) p)))), (49, (.p (iV (Pl.ordU (Pl.blkN l.length B : Nat) p).length))), (50, (.p (iV (z : Int))))], [(0, (.row 1 (lift ((Pl.fillL (Pl.blkN l.length B) ((Pl.ordU (Pl.blkN l.length B : Nat) p).take z) (fun j => Pl.allF f (Pl.part l B j))).map fun x => [u32V x]))))], 1⟩) (fun z => (Pl.ordU (Pl.blkN l.length B : Nat) p).length - z) 0 ?_ ?_ fun z hz => ?_
   ·exact Nat.zero_le _
   ·exact le_of [(0, _)] (by rfl) (by rfl) ⟨⟨_, rfl, .oe⟩, ⟨_, rfl, .oe⟩, ⟨_, rfl, .fn rfl LeRow.nil.2⟩, ⟨_, rfl, .oe⟩, ⟨_, rfl, .oe⟩, ⟨_, rfl, .own rfl⟩, ⟨_, rfl, .oe⟩, ⟨_, rfl, .oe⟩, ⟨_, rfl, .oe⟩, trivial⟩ ⟨⟨_, rfl, _, rfl, .liftE (by first | (rw [List.take_zero, Pl.fillL_nil, List.map_replicate]; done) | (rw [Pl.take_snoc' (Pl.ordU (Pl.blkN l.length B : Nat) p) z (by omega), hu, ← Pl.fillL_set (i := (u : Int)) (Int.natCast_nonneg u) (x := Pl.allF f (Pl.part l B u)) rfl, Int.toNat_natCast, List.map_set]; first | done | rfl) | trace_state)⟩, trivial⟩
   refine awp_le (le_keep [0, 1, 3, 8, 9, 10, 11, 13, 14, 48, 49, 50]) ?_
   simp only [kp, argSl, simprocAttr]
   refine awp_sr [] (by rw [hC]; rfl) fun k hk => ?_
   simp (maxSteps := 9^9) (disch := (try simp only [lens]); omega) only [argSl, sm, ↓amb, mark_eq, simprocAttr, hen, dx]
   repeat refine an ?_
   refine hk _ ?_; clear hk k
   refine awp_seq fun k5 h5 => ?_
   refine awp_cond rfl (fun hb => ?_) (fun hb => ?_)
   ·try simp only [hbx] at hb
    refine awp_skip ?_
    refine h5 _ ?_; clear h5 k5
    refine awp_seq fun k6 h6 => ?_
    refine awp_block ?_
    refine awp_le (le_keep [0, 1, 3, 8, 9, 10, 11, 13, 14, 48, 49, 50]) ?_
    simp only [kp, argSl, simprocAttr]
    refine awp_sr [] (by rw [hC]; rfl) fun k hk => ?_
    simp (maxSteps := 9^9) (disch := (try simp only [lens]); omega) only [argSl, sm, ↓amb, mark_eq, simprocAttr, el33, sz3, hen, dx]
    repeat refine an ?_
    refine hk _ ?_; clear hk k
    obtain ⟨u, hu⟩ := Int.eq_ofNat_of_zero_le (hU ((Pl.ordU (Pl.blkN l.length B : Nat) p).getD z 0) (Pl.getD_mem (Pl.ordU (Pl.blkN l.length B : Nat) p) z 0 (by omega))).1
    have hu2 := hU ((Pl.ordU (Pl.blkN l.length B : Nat) p).getD z 0) (Pl.getD_mem (Pl.ordU (Pl.blkN l.length B : Nat) p) z 0 (by omega))
    rw [hu] at hu2
    obtain ⟨u1, u2, u3⟩ := Pl.blk_at hB hn (show u < (Pl.blkN l.length B) by omega)
    rw [hu]
    have hfl := Pl.fillL_len (Pl.blkN l.length B) ((Pl.ordU (Pl.blkN l.length B : Nat) p).take z) (fun j => Pl.allF f (Pl.part l B j))
    refine awp_region [] (by rw [hC]; rfl) fun k hk => ?_
    simp (maxSteps := 9^9) (disch := (try simp only [lens]); omega) only [argSl, sm, ↓amb, mark_eq, simprocAttr, en78, en77, el22, sz41, hen, dx]
    repeat refine an ?_
    refine callK_p (c_scan_part c l u B (by omega) (by omega) (by omega) hn) rfl ?_
    simp (maxSteps := 9^9) (disch := (try simp only [lens]); omega) only [argSl, sm, ↓amb, mark_eq, simprocAttr, en78, en77, el22, sz41, hen, dx]
    repeat refine an ?_
    refine callK_h (c_scan_ahead false (Pl.part l B u) (Pl.part_w hl) (by rw [Pl.part_len]; omega) F hen f hf hF) [] [] (by first | rfl | (simp only [hm]; done)) (by first | rfl | (simp [namesOk, lkp]; done)) ?_ ?_ ?_ ?_ ?_ ?_ ?_
    (iterate 6 (focus (first | trivial | (intro n hn; cases hn; done) | (simp (maxSteps := 9^9) (disch := (try simp only [lens]); omega) only [argSl, sm, ↓amb, mark_eq, simprocAttr, en78, en77, el22, sz41, hen, dx, hmx, List.filter_cons, Nat.reduceBNe, imp_self, implies_true]; done))))
    simp (maxSteps := 9^9) (disch := (try simp only [lens]); omega) only [argSl, sm, ↓amb, mark_eq, simprocAttr, en78, en77, el22, sz41, hen, dx, hm, List.filter_cons, List.filter_nil, Nat.reduceBNe, Option.map_none]
    repeat refine an ?_
    refine hk _ ?_; clear hk k
    refine h6 _ ?_; clear h6 k6
    refine awp_region [] (by rw [hC]; rfl) fun k hk => ?_
    simp (maxSteps := 9^9) (disch := (try simp only [lens]); omega) only [argSl, sm, ↓amb, mark_eq, simprocAttr, hen, dx]
    repeat refine an ?_
    refine hk _ ?_; clear hk k
    refine ⟨z + 1, by omega, le_of [(0, _)] (by rfl) (by rfl) ⟨⟨_, rfl, .oe⟩, ⟨_, rfl, .oe⟩, ⟨_, rfl, .fn rfl LeRow.nil.2⟩, ⟨_, rfl, .oe⟩, ⟨_, rfl, .oe⟩, ⟨_, rfl, .own rfl⟩, ⟨_, rfl, .oe⟩, ⟨_, rfl, .oe⟩, ⟨_, rfl, .oe⟩, trivial⟩ ⟨⟨_, rfl, _, rfl, .liftE (by first | (rw [List.take_zero, Pl.fillL_nil, List.map_replicate]; done) | (rw [Pl.take_snoc' (Pl.ordU (Pl.blkN l.length B : Nat) p) z (by omega), hu, ← Pl.fillL_set (i := (u : Int)) (Int.natCast_nonneg u) (x := Pl.allF f (Pl.part l B u)) rfl, Int.toNat_natCast, List.map_set]; first | done | rfl) | trace_state)⟩, trivial⟩, by omega⟩
   ·try simp only [hbx] at hb
    refine awp_exit ((if_pos rfl).mpr ?_)
    refine h3 _ ?_; clear h5 k5; clear h3 k3
    refine awp_le (le_keep [0, 1, 3, 10, 13, 14]) ?_
    simp only [kp, argSl, simprocAttr]
    have htk : (Pl.ordU (Pl.blkN l.length B : Nat) p).take z = (Pl.ordU (Pl.blkN l.length B : Nat) p) := List.take_of_length_le (by omega)
    refine awp_le (show LE _ (⟨[(0, (.p (words c l))), (1, (.p (iV B))), (3, (.fn F [])), (10, (.p (iV (Pl.ordS (Pl.blkN l.length B) p)))), (13, (.p (ints false (Pl.ordU (Pl.blkN l.length B : Nat) p)))), (14, (.p (words false (Pl.totF f l B (Pl.blkN l.length B)))))], [], 1⟩ : LS) from le_of [] (by rfl) (by rfl) ⟨⟨_, rfl, .oe⟩, ⟨_, rfl, .oe⟩, ⟨_, rfl, .fn rfl LeRow.nil.2⟩, ⟨_, rfl, .oe⟩, ⟨_, rfl, .oe⟩, ⟨_, rfl, .frz (es := (Pl.totF f l B (Pl.blkN l.length B)).map fun x => [u32V x]) (by rw [htk, Pl.fill_ord hoo]; rfl) (by rfl)⟩, trivial⟩ trivial) ?_
    refine awp_sr [] (by rw [hC]; rfl) fun k hk => ?_
    simp (maxSteps := 9^9) (disch := (try simp only [lens]); omega) only [argSl, sm, ↓amb, mark_eq, simprocAttr, en77, hen, dx]
    repeat refine an ?_
    refine callK_h (c_scan_ahead false (Pl.totF f l B (Pl.blkN l.length B)) (Pl.totF_w hf hl B (Pl.blkN l.length B)) (by rw [Pl.totF_len]; omega) F hen f hf hF) [] [] (by first | rfl | (simp only [hm]; done)) (by first | rfl | (simp [namesOk, lkp]; done)) ?_ ?_ ?_ ?_ ?_ ?_ ?_
    (iterate 6 (focus (first | trivial | (intro n hn; cases hn; done) | (simp (maxSteps := 9^9) (disch := (try simp only [lens]); omega) only [argSl, sm, ↓amb, mark_eq, simprocAttr, en77, hen, dx, hmx, List.filter_cons, Nat.reduceBNe, imp_self, implies_true]; done))))
    simp (maxSteps := 9^9) (disch := (try simp only [lens]); omega) only [argSl, sm, ↓amb, mark_eq, simprocAttr, en77, hen, dx, hm, List.filter_cons, List.filter_nil, Nat.reduceBNe, Option.map_none]
    repeat refine an ?_
    refine hk _ ?_; clear hk k
    refine awp_le (le_keep [0, 1, 3, 9, 10, 13, 17]) ?_
    simp only [kp, argSl, simprocAttr]
    refine awp_sr [] (by rw [hC]; rfl) fun k hk => ?_
    simp (maxSteps := 9^9) (disch := (try simp only [lens]); omega) only [argSl, sm, ↓amb, mark_eq, simprocAttr, el22, by41, vr41, hen, dx]
    repeat refine an ?_
    refine hk _ ?_; clear hk k
    refine awp_seq fun k7 h7 => ?_
    refine awp_le (le_keep [0, 1, 3, 8, 9, 10, 11, 13, 17]) ?_
    simp only [kp, argSl, simprocAttr]
    refine awp_sr [] (by rw [hC]; rfl) fun k hk => ?_
    simp (maxSteps := 9^9) (disch := (try simp only [lens]); omega) only [argSl, sm, ↓amb, mark_eq, simprocAttr, el33, hen, dx]
    repeat refine an ?_
    refine hk _ ?_; clear hk k
    refine awp_block ?_
    refine awp_loop (σ := Nat) (fun z => z ≤ (Pl.ordU (Pl.blkN l.length B : Nat) p).length) (fun (z : Nat) => ⟨[(0, (.p (words c l))), (1, (.p (iV B))), (3, (.fn F [])), (8, (.own 0)), (9, (.p (u32V (Pl.allF f l)))), (10, (.p (iV (Pl.ordS (Pl.blkN l.length B) p)))), (17, (.p (words false (Pl.aheadF f (Pl.totF f l B (Pl.blkN l.length B)))))), (76, (.p (ints false (Pl.ordU (Pl.blkN l.length B : Nat) p)))), (77, (.p (iV (Pl.ordU (Pl.blkN l.length B : Nat) p).length))), (78, (.p (iV (z : Int))))], [(0, (.row 1 (lift ((Pl.fillL l.length (((Pl.ordU (Pl.blkN l.length B : Nat) p).take z).flatMap (Pl.blockPl l.length B)) (fun j => Pl.allF f (l.take j))).map fun x => [u32V x]))))], 1⟩) (fun z => (Pl.ordU (Pl.blkN l.length B : Nat) p).length - z) 0 ?_ ?_ fun z hz => ?_
    ·exact Nat.zero_le _
    ·exact le_of [(0, _)] (by rfl) (by rfl) ⟨⟨_, rfl, .oe⟩, ⟨_, rfl, .oe⟩, ⟨_, rfl, .fn rfl LeRow.nil.2⟩, ⟨_, rfl, .own rfl⟩, ⟨_, rfl, .p (.of_eq (by first | rfl | rw [Pl.allF_tots hf hl hB.1]))⟩, ⟨_, rfl, .oe⟩, ⟨_, rfl, .oe⟩, ⟨_, rfl, .oe⟩, ⟨_, rfl, .oe⟩, ⟨_, rfl, .oe⟩, trivial⟩ ⟨⟨_, rfl, _, rfl, .liftE (by first | (rw [List.take_zero, List.flatMap_nil, Pl.fillL_nil, List.map_replicate]; done) | (rw [Pl.block_snoc (L := (Pl.ordU (Pl.blkN l.length B : Nat) p)) (z := z) (by omega) hu u1, show y = (Pl.part l B u).length by omega]; done) | trace_state)⟩, trivial⟩
    refine awp_le (le_keep [0, 1, 3, 8, 9, 10, 11, 17, 76, 77, 78]) ?_
    simp only [kp, argSl, simprocAttr]
    refine awp_sr [] (by rw [hC]; rfl) fun k hk => ?_
    simp (maxSteps := 9^9) (disch := (try simp only [lens]); omega) only [argSl, sm, ↓amb, mark_eq, simprocAttr, hen, dx]
    repeat refine an ?_
    refine hk _ ?_; clear hk k
    refine awp_seq fun k9 h9 => ?_
    refine awp_cond rfl (fun hb => ?_) (fun hb => ?_)
    ·try simp only [hbx] at hb
     refine awp_skip ?_
     refine h9 _ ?_; clear h9 k9
     refine awp_seq fun k10 h10 => ?_
     refine awp_block ?_
     refine awp_le (le_keep [0, 1, 3, 8, 9, 10, 11, 17, 76, 77, 78]) ?_
     simp only [kp, argSl, simprocAttr]
     refine awp_sr [] (by rw [hC]; rfl) fun k hk => ?_
     simp (maxSteps := 9^9) (disch := (try simp only [lens]); omega) only [argSl, sm, ↓amb, mark_eq, simprocAttr, el33, sz3, hen, dx]
     repeat refine an ?_
     refine hk _ ?_; clear hk k
     refine awp_le (le_keep [0, 1, 3, 8, 9, 10, 11, 17, 19, 76, 77, 78]) ?_
     simp only [kp, argSl, simprocAttr]
     obtain ⟨u, hu⟩ := Int.eq_ofNat_of_zero_le (hU ((Pl.ordU (Pl.blkN l.length B : Nat) p).getD z 0) (Pl.getD_mem (Pl.ordU (Pl.blkN l.length B : Nat) p) z 0 (by omega))).1
     have hu2 := hU ((Pl.ordU (Pl.blkN l.length B : Nat) p).getD z 0) (Pl.getD_mem (Pl.ordU (Pl.blkN l.length B : Nat) p) z 0 (by omega))
     rw [hu] at hu2
     obtain ⟨u1, u2, u3⟩ := Pl.blk_at hB hn (show u < (Pl.blkN l.length B) by omega)
     rw [hu]
     refine awp_sr [] (by rw [hC]; rfl) fun k hk => ?_
     simp (maxSteps := 9^9) (disch := (try simp only [lens]); omega) only [argSl, sm, ↓amb, mark_eq, simprocAttr, en78, en77, hen, dx]
     repeat refine an ?_
     refine callK_p (c_scan_part c l u B (by omega) (by omega) (by omega) hn) rfl ?_
     simp (maxSteps := 9^9) (disch := (try simp only [lens]); omega) only [argSl, sm, ↓amb, mark_eq, simprocAttr, en78, en77, hen, dx]
     repeat refine an ?_
     refine callK_h (c_scan_ahead false (Pl.part l B u) (Pl.part_w hl) (by rw [Pl.part_len]; omega) F hen f hf hF) [] [] (by first | rfl | (simp only [hm]; done)) (by first | rfl | (simp [namesOk, lkp]; done)) ?_ ?_ ?_ ?_ ?_ ?_ ?_
     (iterate 6 (focus (first | trivial | (intro n hn; cases hn; done) | (simp (maxSteps := 9^9) (disch := (try simp only [lens]); omega) only [argSl, sm, ↓amb, mark_eq, simprocAttr, en78, en77, hen, dx, hmx, List.filter_cons, Nat.reduceBNe, imp_self, implies_true]; done))))
     simp (maxSteps := 9^9) (disch := (try simp only [lens]); omega) only [argSl, sm, ↓amb, mark_eq, simprocAttr, en78, en77, hen, dx, hm, List.filter_cons, List.filter_nil, Nat.reduceBNe, Option.map_none]
     repeat refine an ?_
     refine hk _ ?_; clear hk k
     refine awp_le (le_keep [0, 1, 3, 8, 9, 10, 11, 17, 19, 20, 76, 77, 78]) ?_
     simp only [kp, argSl, simprocAttr]
     refine awp_sr [] (by rw [hC]; rfl) fun k hk => ?_
     simp (maxSteps := 9^9) (disch := (try simp only [lens]); omega) only [argSl, sm, ↓amb, mark_eq, simprocAttr, el22, hen, dx]
     repeat refine an ?_
     refine hk _ ?_; clear hk k
     refine awp_block ?_
     refine awp_loop (σ := Nat) (fun y => y ≤ (Pl.part l B u).length) (fun (y : Nat) => ⟨[(0, (.p (words c l))), (1, (.p (iV B))), (3, (.fn F [])), (8, (.own 0)), (9, (.p (u32V (Pl.allF f l)))), (10, (.p (iV (Pl.ordS (Pl.blkN l.length B) p)))), (17, (.p (words false (Pl.aheadF f (Pl.totF f l B (Pl.blkN l.length B)))))), (19, (.p (iV ((u : Nat) : Int)))), (76, (.p (ints false (Pl.ordU (Pl.blkN l.length B : Nat) p)))), (77, (.p (iV (Pl.ordU (Pl.blkN l.length B : Nat) p).length))), (78, (.p (iV (z : Int)))), (91, (.p (words false (Pl.aheadF f (Pl.part l B u))))), (92, (.p (iV (Pl.part l B u).length))), (93, (.p (iV (y : Int))))], [(0, (.row 1 (lift ((Pl.fillL l.length ((((Pl.ordU (Pl.blkN l.length B : Nat) p).take z).flatMap (Pl.blockPl l.length B)) ++ Pl.upto (((u : Nat) : Int) * B) (((u : Nat) : Int) * B + ((y : Nat) : Int))) (fun j => Pl.allF f (l.take j))).map fun x => [u32V x]))))], 1⟩) (fun y => (Pl.part l B u).length - y) 0 ?_ ?_ fun y hy => ?_
     ·exact Nat.zero_le _
     ·exact le_of [(0, _)] (by rfl) (by rfl) ⟨⟨_, rfl, .oe⟩, ⟨_, rfl, .oe⟩, ⟨_, rfl, .fn rfl LeRow.nil.2⟩, ⟨_, rfl, .own rfl⟩, ⟨_, rfl, .oe⟩, ⟨_, rfl, .oe⟩, ⟨_, rfl, .oe⟩, ⟨_, rfl, .oe⟩, ⟨_, rfl, .oe⟩, ⟨_, rfl, .oe⟩, ⟨_, rfl, .oe⟩, ⟨_, rfl, .oe⟩, ⟨_, rfl, .p (.of_eq (by first | rfl | rw [Pl.aheadF_len]))⟩, ⟨_, rfl, .oe⟩, trivial⟩ ⟨⟨_, rfl, _, rfl, .liftE (by first | (rw [Pl.upto_nil (by simp), List.append_nil]; done) | (rw [← Pl.upto_snoc, ← List.append_assoc, ← Pl.fillL_set hnn hpl', List.map_set]; first | done | rfl) | trace_state)⟩, trivial⟩
     refine awp_le (le_keep [0, 1, 3, 8, 9, 10, 11, 17, 19, 76, 77, 78, 91, 92, 93]) ?_
     simp only [kp, argSl, simprocAttr]
     refine awp_sr [] (by rw [hC]; rfl) fun k hk => ?_
     simp (maxSteps := 9^9) (disch := (try simp only [lens]); omega) only [argSl, sm, ↓amb, mark_eq, simprocAttr, hen, dx]
     repeat refine an ?_
     refine hk _ ?_; clear hk k
     refine awp_seq fun k12 h12 => ?_
     refine awp_cond rfl (fun hb => ?_) (fun hb => ?_)
     ·try simp only [hbx] at hb
      refine awp_skip ?_
      refine h12 _ ?_; clear h12 k12
      refine awp_seq fun k13 h13 => ?_
      refine awp_block ?_
      refine awp_le (le_keep [0, 1, 3, 8, 9, 10, 11, 17, 19, 76, 77, 78, 91, 92, 93]) ?_
      simp only [kp, argSl, simprocAttr]
      have hal := Pl.aheadF_len f (Pl.part l B u)
      refine awp_sr [] (by rw [hC]; rfl) fun k hk => ?_
      simp (maxSteps := 9^9) (disch := (try simp only [lens]); omega) only [argSl, sm, ↓amb, mark_eq, simprocAttr, el22, sz41, hen, dx]
      repeat refine an ?_
      refine hk _ ?_; clear hk k
      have hal2 := Pl.aheadF_len f (Pl.totF f l B (Pl.blkN l.length B))
      have hal3 := Pl.totF_len f l B (Pl.blkN l.length B)
      have hfl := Pl.fillL_len l.length ((((Pl.ordU (Pl.blkN l.length B : Nat) p).take z).flatMap (Pl.blockPl l.length B)) ++ Pl.upto (((u : Nat) : Int) * B) (((u : Nat) : Int) * B + ((y : Nat) : Int))) (fun j => Pl.allF f (l.take j))
      obtain ⟨hpl, hpl2⟩ := Pl.ahead_cell hf hl (show u < (Pl.blkN l.length B) by omega) u1 (show y < (Pl.part l B u).length by omega)
      have hw1 := Pl.getD_w (Pl.aheadF_w hf (Pl.part_w (b := B) (i := u) hl)) y
      have hw2 := Pl.getD_w (Pl.aheadF_w hf (Pl.totF_w hf hl B (Pl.blkN l.length B))) u
      have e1 : (u : Int) * (B : Int) = ((u * B : Nat) : Int) := by rw [Int.natCast_mul]
      have hnn : 0 ≤ (u : Int) * (B : Int) + (y : Int) := by rw [e1]; omega
      have hpl' : f ((Pl.aheadF f (Pl.totF f l B (Pl.blkN l.length B))).getD u 0) ((Pl.aheadF f (Pl.part l B u)).getD y 0) = (fun j => Pl.allF f (l.take j)) ((u : Int) * (B : Int) + (y : Int)).toNat := by rw [hpl, e1]; show Pl.allF f (l.take _) = Pl.allF f (l.take _); congr 2
      refine awp_region [] (by rw [hC]; rfl) fun k hk => ?_
      simp (maxSteps := 9^9) (disch := (try simp only [lens]); omega) only [argSl, sm, ↓amb, mark_eq, simprocAttr, el22, sz41, hen, dx]
      repeat refine an ?_
      refine callK_p (hF _ _ hw2 hw1) rfl ?_
      simp (maxSteps := 9^9) (disch := (try simp only [lens]); omega) only [argSl, sm, ↓amb, mark_eq, simprocAttr, el22, sz41, hen, dx]
      repeat refine an ?_
      refine hk _ ?_; clear hk k
      refine h13 _ ?_; clear h13 k13
      refine awp_region [] (by rw [hC]; rfl) fun k hk => ?_
      simp (maxSteps := 9^9) (disch := (try simp only [lens]); omega) only [argSl, sm, ↓amb, mark_eq, simprocAttr, hen, dx]
      repeat refine an ?_
      refine hk _ ?_; clear hk k
      refine ⟨y + 1, by omega, le_of [(0, _)] (by rfl) (by rfl) ⟨⟨_, rfl, .oe⟩, ⟨_, rfl, .oe⟩, ⟨_, rfl, .fn rfl LeRow.nil.2⟩, ⟨_, rfl, .own rfl⟩, ⟨_, rfl, .oe⟩, ⟨_, rfl, .oe⟩, ⟨_, rfl, .oe⟩, ⟨_, rfl, .oe⟩, ⟨_, rfl, .oe⟩, ⟨_, rfl, .oe⟩, ⟨_, rfl, .oe⟩, ⟨_, rfl, .oe⟩, ⟨_, rfl, .p (.of_eq (by first | rfl | rw [Pl.aheadF_len]))⟩, ⟨_, rfl, .oe⟩, trivial⟩ ⟨⟨_, rfl, _, rfl, .liftE (by first | (rw [Pl.upto_nil (by simp), List.append_nil]; done) | (rw [← Pl.upto_snoc, ← List.append_assoc, ← Pl.fillL_set hnn hpl', List.map_set]; first | done | rfl) | trace_state)⟩, trivial⟩, by omega⟩
     ·try simp only [hbx] at hb
      refine awp_exit ((if_pos rfl).mpr ?_)
      refine h10 _ ?_; clear h12 k12; clear h10 k10
      refine awp_region [] (by rw [hC]; rfl) fun k hk => ?_
      simp (maxSteps := 9^9) (disch := (try simp only [lens]); omega) only [argSl, sm, ↓amb, mark_eq, simprocAttr, hen, dx]
      repeat refine an ?_
      refine hk _ ?_; clear hk k
      refine ⟨z + 1, by omega, le_of [(0, _)] (by rfl) (by rfl) ⟨⟨_, rfl, .oe⟩, ⟨_, rfl, .oe⟩, ⟨_, rfl, .fn rfl LeRow.nil.2⟩, ⟨_, rfl, .own rfl⟩, ⟨_, rfl, .p (.of_eq (by first | rfl | rw [Pl.allF_tots hf hl hB.1]))⟩, ⟨_, rfl, .oe⟩, ⟨_, rfl, .oe⟩, ⟨_, rfl, .oe⟩, ⟨_, rfl, .oe⟩, ⟨_, rfl, .oe⟩, trivial⟩ ⟨⟨_, rfl, _, rfl, .liftE (by first | (rw [List.take_zero, List.flatMap_nil, Pl.fillL_nil, List.map_replicate]; done) | (rw [Pl.block_snoc (L := (Pl.ordU (Pl.blkN l.length B : Nat) p)) (z := z) (by omega) hu u1, show y = (Pl.part l B u).length by omega]; done) | trace_state)⟩, trivial⟩, by omega⟩
    ·try simp only [hbx] at hb
     refine awp_exit ((if_pos rfl).mpr ?_)
     refine h7 _ ?_; clear h9 k9; clear h7 k7
     refine awp_le (le_keep [8, 9, 10]) ?_
     simp only [kp, argSl, simprocAttr]
     have htk : (Pl.ordU (Pl.blkN l.length B : Nat) p).take z = (Pl.ordU (Pl.blkN l.length B : Nat) p) := List.take_of_length_le (by omega)
     rw [htk, Pl.fill_blocks hB hn hoo (fun j => Pl.allF f (l.take j))]
     refine awp_sr [] (by rw [hC]; rfl) fun k hk => ?_
     simp (maxSteps := 9^9) (disch := (try simp only [lens]); omega) only [argSl, sm, ↓amb, mark_eq, simprocAttr, hen, dx]
     repeat refine an ?_
     refine hk _ ?_; clear hk k
     refine awp_ret ?_
     rw [(Pl.sc_yes hse).1, (Pl.sc_yes (f := f) hse).2.1, (Pl.sc_yes (f := f) hse).2.2, hse, Pl.blk_nat hB hn]
     refine reth4 rfl rfl rfl rfl rfl ?_
     exact le_of [] (by rfl) (by rfl) ⟨⟨_, rfl, leTup (LeRow.cons (.frz rfl (by rfl)) (LeRow.cons (.p (.refl _)) (LeRow.cons (.p (.refl _)) (LeRow.cons (.p (.refl _)) .nil))))⟩, trivial⟩ trivial
set_option maxHeartbeats 4000000 in
theorem c_scan_Sums (c d : Bool) (l : List Int) (b : Int) (p : Pl.Plan) (hl : ∀ x, x ∈ l → Pl.W32 x) : PCall Try.prog 52 [words c l, iV b, .agg (planC d p)] (.tup [words false (Pl.scL Pl.add32 l b p), u32V (Pl.scT Pl.add32 l b p), iV (Pl.scS l.length b p), iV (Pl.scE l.length b p)]) := by
 refine pcall_of_awp Try.func52 rfl (by simp [Try.ntmps52]) fun C hC => ?_
 refine awp_le (le_keep [0, 1, 2]) ?_
 simp only [kp, argSl, simprocAttr]
 refine awp_sr [] (by rw [hC]; rfl) fun k hk => ?_
 simp (maxSteps := 9^9) (disch := (try simp only [lens]); omega) only [argSl, sm, ↓amb, mark_eq, simprocAttr, dx, en66]
 repeat refine an ?_
 refine hk _ ?_; clear hk k
 refine awp_le (le_keep [0, 1, 5]) ?_
 simp only [kp, argSl, simprocAttr]
 refine awp_sr [] (by rw [hC]; rfl) fun k hk => ?_
 simp (maxSteps := 9^9) (disch := (try simp only [lens]); omega) only [argSl, sm, ↓amb, mark_eq, simprocAttr, sz26, en65, dx, en66]
 repeat refine an ?_
 refine callK_h (c_scan_phases c d l b p hl 66 en66 Pl.add32 Pl.rule_add (fun a b ha hb => c_scan_Sums_1 a b ha hb)) [] [] (by first | rfl | (simp only [hm]; done)) (by first | rfl | (simp [namesOk, lkp]; done)) ?_ ?_ ?_ ?_ ?_ ?_ ?_
 (iterate 6 (focus (first | trivial | (intro n hn; cases hn; done) | (simp (maxSteps := 9^9) (disch := (try simp only [lens]); omega) only [argSl, sm, ↓amb, mark_eq, simprocAttr, sz26, en65, dx, en66, hmx, List.filter_cons, Nat.reduceBNe, imp_self, implies_true]; done))))
 simp (maxSteps := 9^9) (disch := (try simp only [lens]); omega) only [argSl, sm, ↓amb, mark_eq, simprocAttr, sz26, en65, dx, en66, hm, List.filter_cons, List.filter_nil, Nat.reduceBNe, Option.map_none]
 repeat refine an ?_
 refine hk _ ?_; clear hk k
 refine awp_ret ?_
 refine ret4 rfl rfl rfl rfl rfl ?_ ?_ ?_ ?_
 ·exact .p (LeP.refl _)
 ·exact .p (LeP.refl _)
 ·exact .p (LeP.refl _)
 ·exact .p (LeP.refl _)
end Go.Proofs.Ytbehekmnccoifaa
end
section
set_option linter.unusedSimpArgs false
set_option linter.unusedVariables false
set_option maxRecDepth 100000
namespace Go.Proofs.Ytbehekmnccoifaa
open Go.Am Go.Proofs
set_option maxHeartbeats 4000000 in
theorem c_ref07_Words (c d : Bool) (a b : List Int) (ha : a.length ≤ 1000000) : PCall Try.prog 18 [words c a, words d b] (bV (decide (a = b))) := by
 refine pcall_of_awp Try.func18 rfl (by simp [Try.ntmps18]) fun C hC => ?_
 refine awp_le (le_keep [0, 1]) ?_
 simp only [kp, argSl, simprocAttr]
 refine awp_sr [] (by rw [hC]; rfl) fun k hk => ?_
 simp (maxSteps := 9^9) (disch := (try simp only [lens]); omega) only [argSl, sm, ↓amb, mark_eq, simprocAttr, dx]
 repeat refine an ?_
 refine hk _ ?_; clear hk k
 refine awp_seq fun k1 h1 => ?_
 refine awp_le (le_keep [0, 1, 4]) ?_
 simp only [kp, argSl, simprocAttr]
 refine awp_sr [] (by rw [hC]; rfl) fun k hk => ?_
 simp (maxSteps := 9^9) (disch := (try simp only [lens]); omega) only [argSl, sm, ↓amb, mark_eq, simprocAttr, el22, dx]
 repeat refine an ?_
 refine hk _ ?_; clear hk k
 refine awp_cond rfl (fun hb => ?_) (fun hb => ?_)
 ·try simp only [hbx] at hb
  refine awp_le (le_keep []) ?_
  simp only [kp, argSl, simprocAttr]
  refine awp_sr [] (by rw [hC]; rfl) fun k hk => ?_
  simp (maxSteps := 9^9) (disch := (try simp only [lens]); omega) only [argSl, sm, ↓amb, mark_eq, simprocAttr, dx]
  repeat refine an ?_
  refine hk _ ?_; clear hk k
  refine awp_ret ?_
  refine ret1 rfl rfl ?_
  exact .p (LeP.of_eq (by rw [decide_eq_false (fun e => hb (by rw [e]))]))
 ·try simp only [hbx] at hb
  refine awp_skip ?_
  refine h1 _ ?_; clear h1 k1
  refine awp_seq fun k2 h2 => ?_
  refine awp_le (le_keep [0, 1, 4]) ?_
  simp only [kp, argSl, simprocAttr]
  have hab : a.length = b.length := by omega
  refine awp_sr [] (by rw [hC]; rfl) fun k hk => ?_
  simp (maxSteps := 9^9) (disch := (try simp only [lens]); omega) only [argSl, sm, ↓amb, mark_eq, simprocAttr, dx]
  repeat refine an ?_
  refine hk _ ?_; clear hk k
  refine awp_block ?_
  refine awp_loop (σ := Nat) (fun i => i ≤ a.length ∧ ∀ j, j < i → a.getD j 0 = b.getD j 0) (fun (i : Nat) => ⟨[(0, (.p (words c a))), (1, (.p (words d b))), (5, (.p (iV i)))], [], 1⟩) (fun i => a.length - i) 0 ?_ ?_ fun i hi => ?_
  ·exact ⟨Nat.zero_le _, fun j hj => by omega⟩
  ·exact le_of [] (by rfl) (by rfl) ⟨⟨_, rfl, .oe⟩, ⟨_, rfl, .oe⟩, ⟨_, rfl, .oe⟩, trivial⟩ trivial
  obtain ⟨hi1, hi2⟩ := hi
  refine awp_seq fun k4 h4 => ?_
  refine awp_le (le_keep [0, 1, 4, 5]) ?_
  simp only [kp, argSl, simprocAttr]
  refine awp_sr [] (by rw [hC]; rfl) fun k hk => ?_
  simp (maxSteps := 9^9) (disch := (try simp only [lens]); omega) only [argSl, sm, ↓amb, mark_eq, simprocAttr, el22, dx]
  repeat refine an ?_
  refine hk _ ?_; clear hk k
  refine awp_cond rfl (fun hb => ?_) (fun hb => ?_)
  ·try simp only [hbx] at hb
   refine awp_skip ?_
   refine h4 _ ?_; clear h4 k4
   refine awp_seq fun k5 h5 => ?_
   refine awp_block ?_
   refine awp_le (le_keep [0, 1, 4, 5]) ?_
   simp only [kp, argSl, simprocAttr]
   refine awp_sd [] ⟨[0, 0, 3, 7, 0, 0, 48, 112, 255], [3, 7], [], [], some []⟩ (by rw [hC]; rfl) (by kernel_rfl) (by kernel_rfl) fun k hk => ?_
   simp (maxSteps := 9^9) (disch := (try simp only [lens]); omega) only [argSl, sm, ↓amb, mark_eq, simprocAttr, el22, sz41, dx]
   repeat refine an ?_
   refine hk _ ?_; clear hk k
   refine awp_cond rfl (fun hb => ?_) (fun hb => ?_)
   ·try simp only [hbx] at hb
    refine awp_le (le_keep []) ?_
    simp only [kp, argSl, simprocAttr]
    refine awp_sr [] (by rw [hC]; rfl) fun k hk => ?_
    simp (maxSteps := 9^9) (disch := (try simp only [lens]); omega) only [argSl, sm, ↓amb, mark_eq, simprocAttr, dx]
    repeat refine an ?_
    refine hk _ ?_; clear hk k
    refine awp_ret ?_
    refine ret1 rfl rfl ?_
    exact .p (LeP.of_eq (by rw [decide_eq_false (fun e => hb (by rw [e]))]))
   ·try simp only [hbx] at hb
    refine awp_skip ?_
    refine h5 _ ?_; clear h5 k5
    refine awp_region [] (by rw [hC]; rfl) fun k hk => ?_
    simp (maxSteps := 9^9) (disch := (try simp only [lens]); omega) only [argSl, sm, ↓amb, mark_eq, simprocAttr, dx]
    repeat refine an ?_
    refine hk _ ?_; clear hk k
    refine ⟨i + 1, ⟨by omega, fun j hj => by by_cases e : j = i; subst e; exact hb; exact hi2 j (by omega)⟩, le_of [] (by rfl) (by rfl) ⟨⟨_, rfl, .oe⟩, ⟨_, rfl, .oe⟩, ⟨_, rfl, .oe⟩, trivial⟩ trivial, by omega⟩
  ·try simp only [hbx] at hb
   refine awp_exit ((if_pos rfl).mpr ?_)
   refine h2 _ ?_; clear h4 k4; clear h2 k2
   refine awp_le (le_keep []) ?_
   simp only [kp, argSl, simprocAttr]
   refine awp_sr [] (by rw [hC]; rfl) fun k hk => ?_
   simp (maxSteps := 9^9) (disch := (try simp only [lens]); omega) only [argSl, sm, ↓amb, mark_eq, simprocAttr, dx]
   repeat refine an ?_
   refine hk _ ?_; clear hk k
   refine awp_ret ?_
   refine ret1 rfl rfl ?_
   exact .p (LeP.of_eq (by rw [decide_eq_true (Pl.list_of hab (by omega) hi2)]))
end Go.Proofs.Ytbehekmnccoifaa
end
section
set_option linter.unusedSimpArgs false
set_option linter.unusedVariables false
set_option maxRecDepth 100000
namespace Go.Proofs.Ytbehekmnccoifaa
open Go.Am Go.Proofs
set_option maxHeartbeats 4000000 in
theorem c23 (c d : Bool) (a b : List Int) (ha : a.length ≤ 1000000) : PCall Try.prog 19 [ints c a, ints d b] (bV (decide (a = b))) := by
 refine pcall_of_awp Try.func19 rfl (by simp [Try.ntmps19]) fun C hC => ?_
 refine awp_sr [] (by rw [hC]; rfl) fun k hk => ?_
 simp (maxSteps := 9^9) (disch := (try simp only [lens]); omega) only [argSl, sm, ↓amb, mark_eq, simprocAttr, dx]
 repeat refine an ?_
 refine hk _ ?_; clear hk k
 refine awp_seq fun k1 h1 => ?_
 refine awp_sr [] (by rw [hC]; rfl) fun k hk => ?_
 simp (maxSteps := 9^9) (disch := (try simp only [lens]); omega) only [argSl, sm, ↓amb, mark_eq, simprocAttr, el33, dx]
 repeat refine an ?_
 refine hk _ ?_; clear hk k
 refine awp_cond rfl (fun hb => ?_) (fun hb => ?_)
 ·try simp only [hbx] at hb
  refine awp_sr [] (by rw [hC]; rfl) fun k hk => ?_
  simp (maxSteps := 9^9) (disch := (try simp only [lens]); omega) only [argSl, sm, ↓amb, mark_eq, simprocAttr, dx]
  repeat refine an ?_
  refine hk _ ?_; clear hk k
  refine awp_ret ?_
  refine ret1 rfl rfl ?_
  exact .p (LeP.of_eq (by rw [decide_eq_false (fun e => hb (by rw [e]))]))
 ·try simp only [hbx] at hb
  refine awp_skip ?_
  refine h1 _ ?_; clear h1 k1
  refine awp_seq fun k2 h2 => ?_
  refine awp_sr [] (by rw [hC]; rfl) fun k hk => ?_
  simp (maxSteps := 9^9) (disch := (try simp only [lens]); omega) only [argSl, sm, ↓amb, mark_eq, simprocAttr, dx]
  repeat refine an ?_
  refine hk _ ?_; clear hk k
  refine awp_block ?_
  refine awp_loop (σ := Nat) (fun i => i ≤ a.length ∧ a.take i = b.take i) (fun (i : Nat) => ⟨[(0, (.p (ints c a))), (1, (.p (ints d b))), (5, (.p (iV i)))], [], 1⟩) (fun i => a.length - i) 0 ?_ ?_ fun x hx => ?_
  ·exact ⟨Nat.zero_le _, rfl⟩
  ·exact le_of [] (by rfl) (by rfl) ⟨⟨_, rfl, .oe⟩, ⟨_, rfl, .oe⟩, ⟨_, rfl, .oe⟩, trivial⟩ trivial
  obtain ⟨hx1, hx2⟩ := hx
  refine awp_seq fun k4 h4 => ?_
  refine awp_sr [] (by rw [hC]; rfl) fun k hk => ?_
  simp (maxSteps := 9^9) (disch := (try simp only [lens]); omega) only [argSl, sm, ↓amb, mark_eq, simprocAttr, el33, dx]
  repeat refine an ?_
  refine hk _ ?_; clear hk k
  refine awp_cond rfl (fun hb => ?_) (fun hb => ?_)
  ·try simp only [hbx] at hb
   refine awp_skip ?_
   refine h4 _ ?_; clear h4 k4
   refine awp_seq fun k5 h5 => ?_
   refine awp_block ?_
   refine awp_sd [] ⟨[0, 0, 3, 7, 0, 0, 48, 112, 255], [3, 7], [], [], some []⟩ (by rw [hC]; rfl) (by kernel_rfl) (by kernel_rfl) fun k hk => ?_
   simp (maxSteps := 9^9) (disch := (try simp only [lens]); omega) only [argSl, sm, ↓amb, mark_eq, simprocAttr, el33, sz3, dx]
   repeat refine an ?_
   refine hk _ ?_; clear hk k
   refine awp_cond rfl (fun hb => ?_) (fun hb => ?_)
   ·try simp only [hbx] at hb
    refine awp_sr [] (by rw [hC]; rfl) fun k hk => ?_
    simp (maxSteps := 9^9) (disch := (try simp only [lens]); omega) only [argSl, sm, ↓amb, mark_eq, simprocAttr, dx]
    repeat refine an ?_
    refine hk _ ?_; clear hk k
    refine awp_ret ?_
    refine ret1 rfl rfl ?_
    exact .p (LeP.of_eq (by rw [decide_eq_false (fun e => hb (by rw [e]))]))
   ·try simp only [hbx] at hb
    refine awp_skip ?_
    refine h5 _ ?_; clear h5 k5
    refine awp_region [] (by rw [hC]; rfl) fun k hk => ?_
    simp (maxSteps := 9^9) (disch := (try simp only [lens]); omega) only [argSl, sm, ↓amb, mark_eq, simprocAttr, dx]
    repeat refine an ?_
    refine hk _ ?_; clear hk k
    refine ⟨x + 1, ⟨by omega, take_next hx2 (by omega) (by omega) hb⟩, le_of [] (by rfl) (by rfl) ⟨⟨_, rfl, .oe⟩, ⟨_, rfl, .oe⟩, ⟨_, rfl, .oe⟩, trivial⟩ trivial, by omega⟩
  ·try simp only [hbx] at hb
   refine awp_exit ((if_pos rfl).mpr ?_)
   refine h2 _ ?_; clear h4 k4; clear h2 k2
   refine awp_sr [] (by rw [hC]; rfl) fun k hk => ?_
   simp (maxSteps := 9^9) (disch := (try simp only [lens]); omega) only [argSl, sm, ↓amb, mark_eq, simprocAttr, dx]
   repeat refine an ?_
   refine hk _ ?_; clear hk k
   refine awp_ret ?_
   refine ret1 rfl rfl ?_
   exact .p (LeP.of_eq (by rw [decide_eq_true (by rwa [List.take_of_length_le (by omega), List.take_of_length_le (by omega)] at hx2)]))
end Go.Proofs.Ytbehekmnccoifaa
end
section
set_option linter.unusedSimpArgs false
set_option linter.unusedVariables false
set_option maxRecDepth 100000
namespace Go.Proofs.Ytbehekmnccoifaa
open Go.Am Go.Proofs
theorem en52 : enters Try.prog 52 = true := by kernel_rfl
theorem en60 : enters Try.prog 60 = true := by kernel_rfl
theorem en61 : enters Try.prog 61 = true := by kernel_rfl
set_option maxHeartbeats 4000000 in
theorem c_radix_Sort (c d : Bool) (l : List Int) (b bl : Int) (p : Pl.Plan) (hl : ∀ x, x ∈ l → Pl.W32 x) (hn : l.length ≤ 1000000) : PCall Try.prog 41 [words c l, iV b, iV bl, .agg (planC d p)] (.tup [ints false (Pl.raL l b bl p), iV (Pl.raS l.length b bl p), iV (Pl.raE l.length b bl p)]) := by
 refine pcall_of_awp Try.func41 rfl (by simp [Try.ntmps41]) fun C hC => ?_
 refine awp_le (le_keep [0, 1, 2, 3]) ?_
 simp only [kp, argSl, simprocAttr]
 refine awp_sr [43] (by rw [hC]; rfl) fun k hk => ?_
 simp (maxSteps := 9^9) (disch := (try simp only [lens]); omega) only [argSl, sm, ↓amb, mark_eq, simprocAttr, dx]
 repeat refine an ?_
 refine hk _ ?_; clear hk k
 refine awp_le (le_keep [0, 1, 2, 7]) ?_
 simp only [kp, argSl, simprocAttr]
 have hp1 := Pl.pas_nn b
 refine awp_sr [43] (by rw [hC]; rfl) fun k hk => ?_
 simp (maxSteps := 9^9) (disch := (try simp only [lens]); omega) only [argSl, sm, ↓amb, mark_eq, simprocAttr, en59, dx]
 repeat refine an ?_
 refine callK_p (c_radix_Passes _) rfl ?_
 simp (maxSteps := 9^9) (disch := (try simp only [lens]); omega) only [argSl, sm, ↓amb, mark_eq, simprocAttr, en59, dx]
 repeat refine an ?_
 refine hk _ ?_; clear hk k
 refine awp_seq fun k1 h1 => ?_
 refine awp_le (le_keep [0, 1, 2, 7, 8, 9, 10, 11]) ?_
 simp only [kp, argSl, simprocAttr]
 refine awp_sr [43] (by rw [hC]; rfl) fun k hk => ?_
 simp (maxSteps := 9^9) (disch := (try simp only [lens]); omega) only [argSl, sm, ↓amb, mark_eq, simprocAttr, dx]
 repeat refine an ?_
 refine hk _ ?_; clear hk k
 refine awp_cond rfl (fun hb => ?_) (fun hb => ?_)
 ·try simp only [hbx] at hb
  refine awp_le (le_keep []) ?_
  simp only [kp, argSl, simprocAttr]
  refine awp_sr [43] (by rw [hC]; rfl) fun k hk => ?_
  simp (maxSteps := 9^9) (disch := (try simp only [lens]); omega) only [argSl, sm, ↓amb, mark_eq, simprocAttr, dx]
  repeat refine an ?_
  refine hk _ ?_; clear hk k
  refine awp_ret ?_
  have e1 : (Pl.raE l.length b bl p) = 1 := if_pos hb
  have e2 : Pl.raL l b bl p = [] := if_neg (by rw [e1]; decide)
  have e3 : Pl.raS l.length b bl p = 0 := if_neg (by rw [e1]; decide)
  rw [e1, e2, e3]
  refine ret3 rfl rfl rfl rfl ?_ ?_ ?_
  ·exact .p (LeP.seq _ _)
  ·exact .p (LeP.refl _)
  ·exact .p (LeP.refl _)
 ·try simp only [hbx] at hb
  refine awp_skip ?_
  refine h1 _ ?_; clear h1 k1
  refine awp_le (le_keep [0, 1, 2, 7, 11]) ?_
  simp only [kp, argSl, simprocAttr]
  have hp0 := hb
  refine awp_sr [43] (by rw [hC]; rfl) fun k hk => ?_
  simp (maxSteps := 9^9) (disch := (try simp only [lens]); omega) only [argSl, sm, ↓amb, mark_eq, simprocAttr, sz26, en52, dx]
  repeat refine an ?_
  refine callK_p (c_scan_Sums c d l bl p hl) rfl ?_
  simp (maxSteps := 9^9) (disch := (try simp only [lens]); omega) only [argSl, sm, ↓amb, mark_eq, simprocAttr, sz26, en52, dx]
  repeat refine an ?_
  refine hk _ ?_; clear hk k
  refine awp_seq fun k2 h2 => ?_
  refine awp_le (le_keep [0, 1, 8, 9, 10, 11, 14, 15]) ?_
  simp only [kp, argSl, simprocAttr]
  refine awp_sr [43] (by rw [hC]; rfl) fun k hk => ?_
  simp (maxSteps := 9^9) (disch := (try simp only [lens]); omega) only [argSl, sm, ↓amb, mark_eq, simprocAttr, dx]
  repeat refine an ?_
  refine hk _ ?_; clear hk k
  refine awp_cond rfl (fun hb => ?_) (fun hb => ?_)
  ·try simp only [hbx] at hb
   refine awp_le (le_keep [15]) ?_
   simp only [kp, argSl, simprocAttr]
   have hse := hb
   refine awp_sr [43] (by rw [hC]; rfl) fun k hk => ?_
   simp (maxSteps := 9^9) (disch := (try simp only [lens]); omega) only [argSl, sm, ↓amb, mark_eq, simprocAttr, dx]
   repeat refine an ?_
   refine hk _ ?_; clear hk k
   refine awp_ret ?_
   have e1 : (Pl.raE l.length b bl p) = Pl.scE l.length bl p := if_neg hp0
   have e2 : Pl.raL l b bl p = [] := if_neg (by rw [e1]; exact hse)
   have e3 : Pl.raS l.length b bl p = 0 := if_neg (by rw [e1]; exact hse)
   rw [e1, e2, e3]
   refine ret3 rfl rfl rfl rfl ?_ ?_ ?_
   ·exact .p (LeP.seq _ _)
   ·exact .p (LeP.refl _)
   ·exact .p (LeP.refl _)
  ·try simp only [hbx] at hb
   refine awp_skip ?_
   refine h2 _ ?_; clear h2 k2
   refine awp_le (le_keep [0, 1, 11, 14]) ?_
   simp only [kp, argSl, simprocAttr]
   refine awp_sr [43] (by rw [hC]; rfl) fun k hk => ?_
   simp (maxSteps := 9^9) (disch := (try simp only [lens]); omega) only [argSl, sm, ↓amb, mark_eq, simprocAttr, dx]
   repeat refine an ?_
   refine hk _ ?_; clear hk k
   refine awp_seq fun k3 h3 => ?_
   refine awp_le (le_keep [0, 1, 8, 9, 10, 11, 14, 16]) ?_
   simp only [kp, argSl, simprocAttr]
   have hse := hb
   refine awp_own' 16 1 rfl ?_
   refine awp_sr [43] (by rw [hC]; rfl) fun k hk => ?_
   simp (maxSteps := 9^9) (disch := (try simp only [lens]); omega) only [argSl, sm, ↓amb, mark_eq, simprocAttr, el22, dx]
   repeat refine an ?_
   refine hk _ ?_; clear hk k
   refine awp_block ?_
   refine awp_loop (σ := Nat) (fun i => i ≤ l.length) (fun (i : Nat) => ⟨[(0, (.p (words c l))), (1, (.p (iV b))), (11, (.p (iV (Pl.pas b)))), (14, (.p (iV (Pl.scS l.length bl p)))), (16, (.own 0)), (36, (.p (iV l.length))), (37, (.p (iV (i : Int))))], [(0, (.row 1 (lift ((Pl.upto 0 ((i : Nat) : Int)).map fun x => [iV x]))))], 1⟩) (fun i => l.length - i) 0 ?_ ?_ fun i hi => ?_
   ·exact Nat.zero_le _
   ·exact le_of [(0, _)] (by rfl) (by rfl) ⟨⟨_, rfl, .oe⟩, ⟨_, rfl, .oe⟩, ⟨_, rfl, .oe⟩, ⟨_, rfl, .oe⟩, ⟨_, rfl, .own rfl⟩, ⟨_, rfl, .oe⟩, ⟨_, rfl, .oe⟩, trivial⟩ ⟨⟨_, rfl, _, rfl, .liftE (by first | (rw [Pl.upto_nil (by simp)]; rfl) | (rw [← Pl.upto_snoc' i, List.map_append]; rfl) | trace_state)⟩, trivial⟩
   refine awp_le (le_keep [0, 1, 8, 9, 10, 11, 14, 16, 36, 37]) ?_
   simp only [kp, argSl, simprocAttr]
   refine awp_sr [43] (by rw [hC]; rfl) fun k hk => ?_
   simp (maxSteps := 9^9) (disch := (try simp only [lens]); omega) only [argSl, sm, ↓amb, mark_eq, simprocAttr, dx]
   repeat refine an ?_
   refine hk _ ?_; clear hk k
   refine awp_seq fun k5 h5 => ?_
   refine awp_cond rfl (fun hb => ?_) (fun hb => ?_)
   ·try simp only [hbx] at hb
    refine awp_skip ?_
    refine h5 _ ?_; clear h5 k5
    refine awp_seq fun k6 h6 => ?_
    refine awp_block ?_
    refine awp_le (le_keep [0, 1, 8, 9, 10, 11, 14, 16, 36, 37]) ?_
    simp only [kp, argSl, simprocAttr]
    refine awp_sr [43] (by rw [hC]; rfl) fun k hk => ?_
    simp (maxSteps := 9^9) (disch := (try simp only [lens]); omega) only [argSl, sm, ↓amb, mark_eq, simprocAttr, dx]
    repeat refine an ?_
    refine hk _ ?_; clear hk k
    have hul : (Pl.upto 0 (i : Int)).length = i := by rw [Pl.upto_len]; omega
    refine awp_region [43] (by rw [hC]; rfl) fun k hk => ?_
    simp (maxSteps := 9^9) (disch := (try simp only [lens]); omega) only [argSl, sm, ↓amb, mark_eq, simprocAttr, el33, vr3, by3, dx]
    repeat refine an ?_
    refine hk _ ?_; clear hk k
    refine h6 _ ?_; clear h6 k6
    refine awp_region [43] (by rw [hC]; rfl) fun k hk => ?_
    simp (maxSteps := 9^9) (disch := (try simp only [lens]); omega) only [argSl, sm, ↓amb, mark_eq, simprocAttr, dx]
    repeat refine an ?_
    refine hk _ ?_; clear hk k
    refine ⟨i + 1, by omega, le_of [(0, _)] (by rfl) (by rfl) ⟨⟨_, rfl, .oe⟩, ⟨_, rfl, .oe⟩, ⟨_, rfl, .oe⟩, ⟨_, rfl, .oe⟩, ⟨_, rfl, .own rfl⟩, ⟨_, rfl, .oe⟩, ⟨_, rfl, .oe⟩, trivial⟩ ⟨⟨_, rfl, _, rfl, .liftE (by first | (rw [Pl.upto_nil (by simp)]; rfl) | (rw [← Pl.upto_snoc' i, List.map_append]; rfl) | trace_state)⟩, trivial⟩, by omega⟩
   ·try simp only [hbx] at hb
    refine awp_exit ((if_pos rfl).mpr ?_)
    refine h3 _ ?_; clear h5 k5; clear h3 k3
    refine awp_seq fun k7 h7 => ?_
    refine awp_le (le_keep [0, 1, 8, 9, 10, 11, 14, 16]) ?_
    simp only [kp, argSl, simprocAttr]
    obtain rfl : i = l.length := by omega
    refine awp_sr [43] (by rw [hC]; rfl) fun k hk => ?_
    simp (maxSteps := 9^9) (disch := (try simp only [lens]); omega) only [argSl, sm, ↓amb, mark_eq, simprocAttr, dx]
    repeat refine an ?_
    refine hk _ ?_; clear hk k
    refine awp_block ?_
    refine awp_loop (σ := Nat) (fun v => (v : Int) ≤ Pl.pas b) (fun (v : Nat) => ⟨[(0, (.p (words c l))), (1, (.p (iV b))), (11, (.p (iV (Pl.pas b)))), (14, (.p (iV (Pl.scS l.length bl p)))), (16, (.p (ints false (Pl.passes l b v)))), (45, (.p (iV (Pl.pas b)))), (46, (.p (iV (v : Int))))], [], 1⟩) (fun v => (Pl.pas b).toNat - v) 0 ?_ ?_ fun v hv => ?_
    ·show ((0 : Nat) : Int) ≤ _; omega
    ·exact le_of [] (by rfl) (by rfl) ⟨⟨_, rfl, .oe⟩, ⟨_, rfl, .oe⟩, ⟨_, rfl, .oe⟩, ⟨_, rfl, .oe⟩, ⟨_, rfl, (by first | exact LeA.frz rfl (by rfl) | exact LeA.p (LeP.refl _))⟩, ⟨_, rfl, .oe⟩, ⟨_, rfl, .oe⟩, trivial⟩ trivial
    refine awp_le (le_keep [0, 1, 8, 9, 10, 11, 14, 16, 45, 46]) ?_
    simp only [kp, argSl, simprocAttr]
    refine awp_sr [43] (by rw [hC]; rfl) fun k hk => ?_
    simp (maxSteps := 9^9) (disch := (try simp only [lens]); omega) only [argSl, sm, ↓amb, mark_eq, simprocAttr, dx]
    repeat refine an ?_
    refine hk _ ?_; clear hk k
    refine awp_seq fun k9 h9 => ?_
    refine awp_cond rfl (fun hb => ?_) (fun hb => ?_)
    ·try simp only [hbx] at hb
     refine awp_skip ?_
     refine h9 _ ?_; clear h9 k9
     refine awp_seq fun k10 h10 => ?_
     refine awp_block ?_
     refine awp_le (le_keep [0, 1, 8, 9, 10, 11, 14, 16, 45, 46]) ?_
     simp only [kp, argSl, simprocAttr]
     refine awp_sr [43] (by rw [hC]; rfl) fun k hk => ?_
     simp (maxSteps := 9^9) (disch := (try simp only [lens]); omega) only [argSl, sm, ↓amb, mark_eq, simprocAttr, dx]
     repeat refine an ?_
     refine hk _ ?_; clear hk k
     refine awp_region [43] (by rw [hC]; rfl) fun k hk => ?_
     simp (maxSteps := 9^9) (disch := (try simp only [lens]); omega) only [argSl, sm, ↓amb, mark_eq, simprocAttr, en60, dx]
     repeat refine an ?_
     refine callK_p (c_radix_by c false l (Pl.passes l b v) v b hl (Pl.passes_once hl b v) ⟨by omega, by omega⟩ hn) rfl ?_
     simp (maxSteps := 9^9) (disch := (try simp only [lens]); omega) only [argSl, sm, ↓amb, mark_eq, simprocAttr, en60, dx]
     repeat refine an ?_
     refine hk _ ?_; clear hk k
     refine h10 _ ?_; clear h10 k10
     refine awp_region [43] (by rw [hC]; rfl) fun k hk => ?_
     simp (maxSteps := 9^9) (disch := (try simp only [lens]); omega) only [argSl, sm, ↓amb, mark_eq, simprocAttr, dx]
     repeat refine an ?_
     refine hk _ ?_; clear hk k
     refine ⟨v + 1, by omega, le_of [] (by rfl) (by rfl) ⟨⟨_, rfl, .oe⟩, ⟨_, rfl, .oe⟩, ⟨_, rfl, .oe⟩, ⟨_, rfl, .oe⟩, ⟨_, rfl, (by first | exact LeA.frz rfl (by rfl) | exact LeA.p (LeP.refl _))⟩, ⟨_, rfl, .oe⟩, ⟨_, rfl, .oe⟩, trivial⟩ trivial, by omega⟩
    ·try simp only [hbx] at hb
     refine awp_exit ((if_pos rfl).mpr ?_)
     refine h7 _ ?_; clear h9 k9; clear h7 k7
     refine awp_le (le_keep [11, 14, 16]) ?_
     simp only [kp, argSl, simprocAttr]
     obtain rfl : v = (Pl.pas b).toNat := by omega
     have hs1 := Pl.scS_nn l.length bl p
     have hs2 : 0 ≤ Pl.scS l.length bl p * Pl.pas b := Int.mul_nonneg hs1.1 (by omega)
     have hs3 : Pl.scS l.length bl p * Pl.pas b ≤ 40000 * 33 := Pl.mul_up hs1.2 (by omega) (by omega) (by omega)
     refine awp_sr [43] (by rw [hC]; rfl) fun k hk => ?_
     simp (maxSteps := 9^9) (disch := (try simp only [lens]); omega) only [argSl, sm, ↓amb, mark_eq, simprocAttr, dx]
     repeat refine an ?_
     refine hk _ ?_; clear hk k
     refine awp_ret ?_
     have e1 : (Pl.raE l.length b bl p) = 0 := (if_neg hp0).trans hse
     have e2 : Pl.raL l b bl p = Pl.passes l b (Pl.pas b).toNat := if_pos e1
     have e3 : Pl.raS l.length b bl p = Pl.scS l.length bl p * Pl.pas b := if_pos e1
     rw [e1, e2, e3]
     refine ret3 rfl rfl rfl rfl ?_ ?_ ?_
     ·exact .p (LeP.refl _)
     ·exact .p (LeP.refl _)
     ·exact .p (LeP.refl _)
set_option maxHeartbeats 4000000 in
theorem c_radix_Sorted (c d : Bool) (l o : List Int) (hl : ∀ x, x ∈ l → Pl.W32 x) (hol : ∀ x, x ∈ o → -9223372036854775808 ≤ x ∧ x ≤ 9223372036854775807) (hn : l.length ≤ 1000000) (hn2 : o.length ≤ 1000000) : PCall Try.prog 42 [words c l, ints d o] (.tup [words false (if Pl.onceP o l.length then Pl.sortedL l o else []), bV (decide (Pl.onceP o l.length))]) := by
 refine pcall_of_awp Try.func42 rfl (by simp [Try.ntmps42]) fun C hC => ?_
 refine awp_le (le_keep [0, 1]) ?_
 simp only [kp, argSl, simprocAttr]
 refine awp_sr [26] (by rw [hC]; rfl) fun k hk => ?_
 simp (maxSteps := 9^9) (disch := (try simp only [lens]); omega) only [argSl, sm, ↓amb, mark_eq, simprocAttr, dx]
 repeat refine an ?_
 refine hk _ ?_; clear hk k
 refine awp_seq fun k1 h1 => ?_
 refine awp_le (le_keep [0, 1, 4, 5]) ?_
 simp only [kp, argSl, simprocAttr]
 refine awp_sr [26] (by rw [hC]; rfl) fun k hk => ?_
 simp (maxSteps := 9^9) (disch := (try simp only [lens]); omega) only [argSl, sm, ↓amb, mark_eq, simprocAttr, el22, en61, dx]
 repeat refine an ?_
 refine callK_p (c_radix_once _ _ _ hol hn2) rfl ?_
 simp (maxSteps := 9^9) (disch := (try simp only [lens]); omega) only [argSl, sm, ↓amb, mark_eq, simprocAttr, el22, en61, dx]
 repeat refine an ?_
 refine hk _ ?_; clear hk k
 refine awp_cond rfl (fun hb => ?_) (fun hb => ?_)
 ·try simp only [hbx] at hb
  refine awp_le (le_keep []) ?_
  simp only [kp, argSl, simprocAttr]
  refine awp_sr [26] (by rw [hC]; rfl) fun k hk => ?_
  simp (maxSteps := 9^9) (disch := (try simp only [lens]); omega) only [argSl, sm, ↓amb, mark_eq, simprocAttr, dx]
  repeat refine an ?_
  refine hk _ ?_; clear hk k
  refine awp_ret ?_
  have ho : ¬ Pl.onceP o l.length := by first | exact hb | simpa using hb
  rw [if_neg ho, decide_eq_false ho]
  refine ret2 rfl rfl rfl ?_ ?_
  ·exact .p (LeP.seq _ _)
  ·exact .p (LeP.refl _)
 ·try simp only [hbx] at hb
  refine awp_skip ?_
  refine h1 _ ?_; clear h1 k1
  refine awp_le (le_keep [0, 1]) ?_
  simp only [kp, argSl, simprocAttr]
  have ho : Pl.onceP o l.length := by first | exact hb | simpa using hb
  refine awp_sr [26] (by rw [hC]; rfl) fun k hk => ?_
  simp (maxSteps := 9^9) (disch := (try simp only [lens]); omega) only [argSl, sm, ↓amb, mark_eq, simprocAttr, dx]
  repeat refine an ?_
  refine hk _ ?_; clear hk k
  refine awp_seq fun k2 h2 => ?_
  refine awp_le (le_keep [0, 1, 4, 5, 6]) ?_
  simp only [kp, argSl, simprocAttr]
  refine awp_own' 6 1 rfl ?_
  refine awp_sr [26] (by rw [hC]; rfl) fun k hk => ?_
  simp (maxSteps := 9^9) (disch := (try simp only [lens]); omega) only [argSl, sm, ↓amb, mark_eq, simprocAttr, el33, dx]
  repeat refine an ?_
  refine hk _ ?_; clear hk k
  refine awp_block ?_
  refine awp_loop (σ := Nat) (fun i => i ≤ o.length) (fun (i : Nat) => ⟨[(0, (.p (words c l))), (6, (.own 0)), (14, (.p (ints d o))), (15, (.p (iV o.length))), (16, (.p (iV (i : Int))))], [(0, (.row 1 (lift ((Pl.sortedL l (o.take i)).map fun x => [u32V x]))))], 1⟩) (fun i => o.length - i) 0 ?_ ?_ fun i hi => ?_
  ·exact Nat.zero_le _
  ·exact le_of [(0, _)] (by rfl) (by rfl) ⟨⟨_, rfl, .oe⟩, ⟨_, rfl, .own rfl⟩, ⟨_, rfl, .oe⟩, ⟨_, rfl, .oe⟩, ⟨_, rfl, .oe⟩, trivial⟩ ⟨⟨_, rfl, _, rfl, .liftE (by first | rfl | (rw [Pl.take_snoc' o i (by omega), Pl.sortedL_snoc, List.map_append]; first | done | rfl) | trace_state)⟩, trivial⟩
  refine awp_le (le_keep [0, 4, 5, 6, 14, 15, 16]) ?_
  simp only [kp, argSl, simprocAttr]
  refine awp_sr [26] (by rw [hC]; rfl) fun k hk => ?_
  simp (maxSteps := 9^9) (disch := (try simp only [lens]); omega) only [argSl, sm, ↓amb, mark_eq, simprocAttr, dx]
  repeat refine an ?_
  refine hk _ ?_; clear hk k
  refine awp_seq fun k4 h4 => ?_
  refine awp_cond rfl (fun hb => ?_) (fun hb => ?_)
  ·try simp only [hbx] at hb
   refine awp_skip ?_
   refine h4 _ ?_; clear h4 k4
   refine awp_seq fun k5 h5 => ?_
   refine awp_block ?_
   refine awp_le (le_keep [0, 4, 5, 6, 14, 15, 16]) ?_
   simp only [kp, argSl, simprocAttr]
   refine awp_sr [26] (by rw [hC]; rfl) fun k hk => ?_
   simp (maxSteps := 9^9) (disch := (try simp only [lens]); omega) only [argSl, sm, ↓amb, mark_eq, simprocAttr, el33, sz3, dx]
   repeat refine an ?_
   refine hk _ ?_; clear hk k
   have hoi := ho.2.1 _ (Pl.getD_mem o i 0 (by omega))
   have hsl : (Pl.sortedL l (o.take i)).length = i := by rw [Pl.sortedL_len, List.length_take]; omega
   refine awp_region [26] (by rw [hC]; rfl) fun k hk => ?_
   simp (maxSteps := 9^9) (disch := (try simp only [lens]); omega) only [argSl, sm, ↓amb, mark_eq, simprocAttr, el22, sz41, vr41, by41, dx]
   repeat refine an ?_
   refine hk _ ?_; clear hk k
   refine h5 _ ?_; clear h5 k5
   refine awp_region [26] (by rw [hC]; rfl) fun k hk => ?_
   simp (maxSteps := 9^9) (disch := (try simp only [lens]); omega) only [argSl, sm, ↓amb, mark_eq, simprocAttr, dx]
   repeat refine an ?_
   refine hk _ ?_; clear hk k
   refine ⟨i + 1, by omega, le_of [(0, _)] (by rfl) (by rfl) ⟨⟨_, rfl, .oe⟩, ⟨_, rfl, .own rfl⟩, ⟨_, rfl, .oe⟩, ⟨_, rfl, .oe⟩, ⟨_, rfl, .oe⟩, trivial⟩ ⟨⟨_, rfl, _, rfl, .liftE (by first | rfl | (rw [Pl.take_snoc' o i (by omega), Pl.sortedL_snoc, List.map_append]; first | done | rfl) | trace_state)⟩, trivial⟩, by omega⟩
  ·try simp only [hbx] at hb
   refine awp_exit ((if_pos rfl).mpr ?_)
   refine h2 _ ?_; clear h4 k4; clear h2 k2
   refine awp_le (le_keep [6]) ?_
   simp only [kp, argSl, simprocAttr]
   have htk : o.take i = o := List.take_of_length_le (by omega)
   rw [htk]
   refine awp_sr [26] (by rw [hC]; rfl) fun k hk => ?_
   simp (maxSteps := 9^9) (disch := (try simp only [lens]); omega) only [argSl, sm, ↓amb, mark_eq, simprocAttr, dx]
   repeat refine an ?_
   refine hk _ ?_; clear hk k
   refine awp_ret ?_
   rw [if_pos ho, decide_eq_true ho]
   refine ret2 rfl rfl rfl ?_ ?_
   ·exact .ownE rfl rfl
   ·exact .p (LeP.refl _)
end Go.Proofs.Ytbehekmnccoifaa
end
section
set_option linter.unusedSimpArgs false
set_option linter.unusedVariables false
namespace Go.Pl
def marksL (fl : List Bool) (w : Bool) : List Int := tabL fl.length fun j => if fl.getD j false = w then 0 else 1
def marksT (fl : List Bool) (w : Bool) (i : Nat) : List Int := tabL fl.length fun j => if j < i then (if fl.getD j false = w then 0 else 1) else 0
theorem marks_0 (fl : List Bool) (w : Bool) : marksT fl w 0 = List.replicate fl.length 0 := by
  rw [← tabL_0]; exact tabL_congr fun j _ => by simp
theorem marks_set {fl : List Bool} {w : Bool} {i : Nat} (h : fl.getD i false ≠ w) : (marksT fl w i).set i 1 = marksT fl w (i + 1) :=
  tabL_set (by rw [if_pos (by omega), if_neg h]) fun j _ hne => by
    by_cases c : j < i
    · rw [if_pos c, if_pos (show j < i + 1 by omega)]
    · rw [if_neg c, if_neg (show ¬ j < i + 1 by omega)]
theorem marks_keep {fl : List Bool} {w : Bool} {i : Nat} (h : fl.getD i false = w) : marksT fl w i = marksT fl w (i + 1) :=
  tabL_congr fun j _ => by
    by_cases c : j < i
    · rw [if_pos c, if_pos (show j < i + 1 by omega)]
    · by_cases e : j = i
      · subst e; rw [if_neg c, if_pos (show j < j + 1 by omega), if_pos h]
      · rw [if_neg c, if_neg (show ¬ j < i + 1 by omega)]
theorem marks_end (fl : List Bool) (w : Bool) : marksT fl w fl.length = marksL fl w := tabL_congr fun j hj => by rw [if_pos hj]
theorem marksL_len (fl : List Bool) (w : Bool) : (marksL fl w).length = fl.length := tabL_len _ _
theorem marksL_get {fl : List Bool} {w : Bool} {i : Nat} (h : i < fl.length) : (marksL fl w).getD i 0 = if fl.getD i false = w then 0 else 1 := tabL_get h
def onesP (m : List Int) (x : Int) : Bool := decide (m.getD x.toNat 0 = 1)
def onesL (m : List Int) : List Int := (upto 0 m.length).filter (onesP m)
def onesN (m : List Int) (i : Nat) : Nat := ((upto 0 (i : Int)).filter (onesP m)).length
def bits (m : List Int) : Prop := ∀ x, x ∈ m → x = 0 ∨ x = 1
theorem bits_w {m : List Int} (h : bits m) : ∀ x, x ∈ m → W32 x := fun x hx => by rcases h x hx with q | q <;> subst q <;> decide
theorem marks_bits (fl : List Bool) (w : Bool) : bits (marksL fl w) := fun x hx => by
  unfold marksL tabL at hx
  obtain ⟨j, _, rfl⟩ := List.mem_map.1 hx
  split <;> simp
theorem onesN_s {m : List Int} {i : Nat} : onesN m (i + 1) = onesN m i + if m.getD i 0 = 1 then 1 else 0 := by
  unfold onesN
  rw [← upto_snoc', List.filter_append, List.length_append]
  congr 1
  by_cases h : m.getD i 0 = 1
  · rw [if_pos h, List.filter_cons_of_pos (by unfold onesP; simpa using h)]; rfl
  · rw [if_neg h, List.filter_cons_of_neg (by unfold onesP; simpa using h)]; rfl
theorem onesN_le (m : List Int) : ∀ i, onesN m i ≤ i
  | 0 => by unfold onesN; rw [upto_nil (by simp)]; exact Nat.le_refl _
  | i + 1 => by rw [onesN_s]; have := onesN_le m i; split <;> omega
theorem all_ones {m : List Int} (h : bits m) (hn : m.length ≤ 1000000) : ∀ i, i ≤ m.length → allF add32 (m.take i) = onesN m i
  | 0, _ => by unfold onesN; rw [List.take_zero, upto_nil (by simp)]; rfl
  | i + 1, hi => by
    rw [allF_take add32 m i (by omega), all_ones h hn i (by omega), onesN_s]
    have h1 := onesN_le m i
    have h2 := h _ (getD_mem m i 0 (by omega))
    unfold add32
    rcases h2 with q | q
    · rw [q, if_neg (by decide)]; omega
    · rw [q, if_pos rfl]; omega
theorem onesL_len (m : List Int) : (onesL m).length = onesN m m.length := rfl
theorem upto_get {n u : Nat} (h : u < n) : (upto 0 (n : Int)).getD u 0 = u := by
  unfold upto
  rw [List.getD_eq_getElem?_getD, List.getElem?_map, List.getElem?_range (by omega)]
  simp
theorem upto_take {n u : Nat} (h : u ≤ n) : (upto 0 (n : Int)).take u = upto 0 (u : Int) := by
  unfold upto
  rw [← List.map_take, List.take_range]
  congr 2; omega
theorem onesL_at {m : List Int} {u : Nat} (h : u < m.length) (h1 : m.getD u 0 = 1) : (onesL m).getD (onesN m u) 0 = u ∧ onesN m u < (onesL m).length := by
  have hl : (upto 0 (m.length : Int)).length = m.length := by rw [upto_len]; omega
  have q := filter_at (onesP m) (upto 0 m.length) u (by omega) (by rw [upto_get h]; unfold onesP; simpa using h1)
  rw [upto_take (by omega), upto_get h] at q
  obtain ⟨hlt, _⟩ := List.getElem?_eq_some_iff.1 q
  exact ⟨by unfold onesL onesN; rw [List.getD_eq_getElem?_getD, q]; rfl, hlt⟩
def onesS (m U : List Int) : List Int := (U.filter (onesP m)).map fun u => (onesN m u.toNat : Int)
theorem onesS_yes {m U : List Int} {z : Nat} (hz : z < U.length) (h : m.getD (U.getD z 0).toNat 0 = 1) : onesS m (U.take (z + 1)) = onesS m (U.take z) ++ [(onesN m (U.getD z 0).toNat : Int)] := by
  unfold onesS
  rw [take_snoc' U z hz, List.filter_append, List.filter_cons_of_pos (by unfold onesP; simpa using h), List.map_append]; rfl
theorem onesS_no {m U : List Int} {z : Nat} (hz : z < U.length) (h : ¬ m.getD (U.getD z 0).toNat 0 = 1) : onesS m (U.take (z + 1)) = onesS m (U.take z) := by
  unfold onesS
  rw [take_snoc' U z hz, List.filter_append, List.filter_cons_of_neg (by unfold onesP; simpa using h), List.filter_nil, List.append_nil]
theorem ones_fill {m U : List Int} (hU : ∀ u, u ∈ U ↔ (0 ≤ u ∧ u < m.length)) : fillL (onesL m).length (onesS m U) (fun j => (onesL m).getD j 0) = onesL m := by
  rw [fillL_all, range_getD]
  intro j hj
  have hx : (onesL m)[j] ∈ onesL m := List.getElem_mem _
  have hx2 := List.mem_filter.1 hx
  have hr := mem_upto.1 hx2.1
  have h1 : m.getD ((onesL m)[j]).toNat 0 = 1 := by have := hx2.2; unfold onesP at this; simpa using this
  refine List.mem_map.2 ⟨(onesL m)[j], List.mem_filter.2 ⟨(hU _).2 ⟨hr.1, hr.2⟩, hx2.2⟩, ?_⟩
  have q := onesL_at (u := ((onesL m)[j]).toNat) (by omega) h1
  have hd : (onesL m).Nodup := (nodup_upto _ _).filter _
  have e : (onesL m)[onesN m ((onesL m)[j]).toNat]'q.2 = (onesL m)[j] := by
    have := q.1
    rw [List.getD_eq_getElem?_getD, List.getElem?_eq_getElem q.2] at this
    simp only [Option.getD_some] at this
    omega
  have := nodup_inj hd q.2 hj e
  omega
def whL (fl : List Bool) (w : Bool) (bl : Int) (p : Plan) : List Int := if scE fl.length bl p = 0 then onesL (marksL fl w) else []
def whS (n : Nat) (bl : Int) (p : Plan) : Int := if scE n bl p = 0 then scS n bl p + ordS n p else 0
theorem wh_mem {fl : List Bool} {w : Bool} {bl : Int} {p : Plan} : ∀ x, x ∈ whL fl w bl p → 0 ≤ x ∧ x < fl.length := fun x hx => by
  unfold whL at hx
  split at hx
  · have := mem_upto.1 (List.mem_filter.1 hx).1
    rw [marksL_len] at this; exact this
  · cases hx
theorem wh_len (fl : List Bool) (w : Bool) (bl : Int) (p : Plan) : (whL fl w bl p).length ≤ fl.length := by
  unfold whL
  split
  · rw [onesL_len]; have := onesN_le (marksL fl w) (marksL fl w).length; rw [marksL_len] at this ⊢; exact this
  · exact Nat.zero_le _
def paE (l : List Int) (fl : List Bool) (bl : Int) (p : Plan) : Int := if l.length = fl.length then scE fl.length bl p else 1
def paL (l : List Int) (fl : List Bool) (w : Bool) (bl : Int) (p : Plan) : List Int := if l.length = fl.length then sortedL l (whL fl w bl p) else []
def ptL (l : List Int) (fl : List Bool) (bl : Int) (p : Plan) : List Int := if paE l fl bl p = 0 then paL l fl false bl p ++ sortedL l (whL fl true bl p) else []
def ptN (l : List Int) (fl : List Bool) (bl : Int) (p : Plan) : Int := if paE l fl bl p = 0 then (paL l fl false bl p).length else 0
def cntB (fl : List Bool) (i : Nat) : Nat := (fl.take i).count true
theorem cntB_s {fl : List Bool} {i : Nat} (h : i < fl.length) : cntB fl (i + 1) = cntB fl i + if fl.getD i false = true then 1 else 0 := by
  unfold cntB
  rw [List.take_add_one, List.count_append, List.getD_eq_getElem?_getD, List.getElem?_eq_getElem h]
  cases fl[i] <;> simp
theorem cntB_end (fl : List Bool) : cntB fl fl.length = fl.count true := by unfold cntB; rw [List.take_of_length_le (Nat.le_refl _)]
def spOk (l : List Int) (fl : List Bool) : Prop := fl.count true = l.length
instance (l : List Int) (fl : List Bool) : Decidable (spOk l fl) := by unfold spOk; infer_instance
end Go.Pl
end
section
set_option linter.unusedSimpArgs false
set_option linter.unusedVariables false
set_option maxRecDepth 100000
namespace Go.Proofs.Ytbehekmnccoifaa
open Go.Am Go.Proofs
set_option maxHeartbeats 4000000 in
theorem c_pack_marks (c : Bool) (fl : List Bool) (w : Bool) (hn : fl.length ≤ 1000000) : PCall Try.prog 37 [.seq c (fl.map fun q => [bV q]), bV w] (words false (Pl.marksL fl w)) := by
 refine pcall_of_awp Try.func37 rfl (by simp [Try.ntmps37]) fun C hC => ?_
 refine awp_le (le_keep [0, 1]) ?_
 simp only [kp, argSl, simprocAttr]
 refine awp_sr [] (by rw [hC]; rfl) fun k hk => ?_
 simp (maxSteps := 9^9) (disch := (try simp only [lens]); omega) only [argSl, sm, ↓amb, mark_eq, simprocAttr, dx]
 repeat refine an ?_
 refine hk _ ?_; clear hk k
 refine awp_le (le_keep [0, 1]) ?_
 simp only [kp, argSl, simprocAttr]
 refine awp_sr [] (by rw [hC]; rfl) fun k hk => ?_
 simp (maxSteps := 9^9) (disch := (try simp only [lens]); omega) only [argSl, sm, ↓amb, mark_eq, simprocAttr, el23, el22, by41, vr41, dx]
 repeat refine an ?_
 refine hk _ ?_; clear hk k
 refine awp_seq fun k1 h1 => ?_
 refine awp_le (le_keep [0, 1, 4, 5]) ?_
 simp only [kp, argSl, simprocAttr]
 refine awp_sr [] (by rw [hC]; rfl) fun k hk => ?_
 simp (maxSteps := 9^9) (disch := (try simp only [lens]); omega) only [argSl, sm, ↓amb, mark_eq, simprocAttr, el23, dx]
 repeat refine an ?_
 refine hk _ ?_; clear hk k
 refine awp_block ?_
 refine awp_loop (σ := Nat) (fun i => i ≤ fl.length) (fun (i : Nat) => ⟨[(1, (.p (bV w))), (5, (.own 0)), (11, (.p (.seq c (fl.map fun q => [bV q])))), (12, (.p (iV fl.length))), (13, (.p (iV (i : Int))))], [(0, (.row 1 (lift ((Pl.marksT fl w i).map fun x => [u32V x]))))], 1⟩) (fun i => fl.length - i) 0 ?_ ?_ fun i hi => ?_
 ·exact Nat.zero_le _
 ·exact le_of [(0, _)] (by rfl) (by rfl) ⟨⟨_, rfl, .oe⟩, ⟨_, rfl, .own rfl⟩, ⟨_, rfl, .oe⟩, ⟨_, rfl, .oe⟩, ⟨_, rfl, .oe⟩, trivial⟩ ⟨⟨_, rfl, _, rfl, .liftE (by first | (rw [Pl.marks_0, List.map_replicate]; done) | (rw [← Pl.marks_set (by simpa using hb), List.map_set]; first | done | rfl) | (rw [Pl.marks_keep (by simpa using hb)]; done) | trace_state)⟩, trivial⟩
 refine awp_le (le_keep [0, 1, 4, 5, 11, 12, 13]) ?_
 simp only [kp, argSl, simprocAttr]
 refine awp_sr [] (by rw [hC]; rfl) fun k hk => ?_
 simp (maxSteps := 9^9) (disch := (try simp only [lens]); omega) only [argSl, sm, ↓amb, mark_eq, simprocAttr, dx]
 repeat refine an ?_
 refine hk _ ?_; clear hk k
 refine awp_seq fun k3 h3 => ?_
 refine awp_cond rfl (fun hb => ?_) (fun hb => ?_)
 ·try simp only [hbx] at hb
  refine awp_skip ?_
  refine h3 _ ?_; clear h3 k3
  refine awp_seq fun k4 h4 => ?_
  refine awp_block ?_
  refine awp_le (le_keep [0, 1, 4, 5, 11, 12, 13]) ?_
  simp only [kp, argSl, simprocAttr]
  refine awp_sr [] (by rw [hC]; rfl) fun k hk => ?_
  simp (maxSteps := 9^9) (disch := (try simp only [lens]); omega) only [argSl, sm, ↓amb, mark_eq, simprocAttr, el23, sz4, dx]
  repeat refine an ?_
  refine hk _ ?_; clear hk k
  refine awp_le (le_keep [0, 1, 4, 5, 6, 7, 11, 12, 13]) ?_
  simp only [kp, argSl, simprocAttr]
  refine awp_sr [] (by rw [hC]; rfl) fun k hk => ?_
  simp (maxSteps := 9^9) (disch := (try simp only [lens]); omega) only [argSl, sm, ↓amb, mark_eq, simprocAttr, dx]
  repeat refine an ?_
  refine hk _ ?_; clear hk k
  refine awp_cond rfl (fun hb => ?_) (fun hb => ?_)
  ·try simp only [hbx] at hb
   have hfl := Pl.tabL_len fl.length (fun j => if j < i then (if fl.getD j false = w then 0 else 1) else 0)
   have hfl2 : (Pl.marksT fl w i).length = fl.length := hfl
   refine awp_region [] (by rw [hC]; rfl) fun k hk => ?_
   simp (maxSteps := 9^9) (disch := (try simp only [lens]); omega) only [argSl, sm, ↓amb, mark_eq, simprocAttr, el22, sz41, dx]
   repeat refine an ?_
   refine hk _ ?_; clear hk k
   refine h4 _ ?_; clear h4 k4
   refine awp_region [] (by rw [hC]; rfl) fun k hk => ?_
   simp (maxSteps := 9^9) (disch := (try simp only [lens]); omega) only [argSl, sm, ↓amb, mark_eq, simprocAttr, dx]
   repeat refine an ?_
   refine hk _ ?_; clear hk k
   refine ⟨i + 1, by omega, le_of [(0, _)] (by rfl) (by rfl) ⟨⟨_, rfl, .oe⟩, ⟨_, rfl, .own rfl⟩, ⟨_, rfl, .oe⟩, ⟨_, rfl, .oe⟩, ⟨_, rfl, .oe⟩, trivial⟩ ⟨⟨_, rfl, _, rfl, .liftE (by first | (rw [Pl.marks_0, List.map_replicate]; done) | (rw [← Pl.marks_set (by simpa using hb), List.map_set]; first | done | rfl) | (rw [Pl.marks_keep (by simpa using hb)]; done) | trace_state)⟩, trivial⟩, by omega⟩
  ·try simp only [hbx] at hb
   refine awp_skip ?_
   refine h4 _ ?_; clear h4 k4
   refine awp_region [] (by rw [hC]; rfl) fun k hk => ?_
   simp (maxSteps := 9^9) (disch := (try simp only [lens]); omega) only [argSl, sm, ↓amb, mark_eq, simprocAttr, dx]
   repeat refine an ?_
   refine hk _ ?_; clear hk k
   refine ⟨i + 1, by omega, le_of [(0, _)] (by rfl) (by rfl) ⟨⟨_, rfl, .oe⟩, ⟨_, rfl, .own rfl⟩, ⟨_, rfl, .oe⟩, ⟨_, rfl, .oe⟩, ⟨_, rfl, .oe⟩, trivial⟩ ⟨⟨_, rfl, _, rfl, .liftE (by first | (rw [Pl.marks_0, List.map_replicate]; done) | (rw [← Pl.marks_set (by simpa using hb), List.map_set]; first | done | rfl) | (rw [Pl.marks_keep (by simpa using hb)]; done) | trace_state)⟩, trivial⟩, by omega⟩
 ·try simp only [hbx] at hb
  refine awp_exit ((if_pos rfl).mpr ?_)
  refine h1 _ ?_; clear h3 k3; clear h1 k1
  refine awp_le (le_keep [5]) ?_
  simp only [kp, argSl, simprocAttr]
  obtain rfl : i = fl.length := by omega
  rw [Pl.marks_end]
  refine awp_sr [] (by rw [hC]; rfl) fun k hk => ?_
  simp (maxSteps := 9^9) (disch := (try simp only [lens]); omega) only [argSl, sm, ↓amb, mark_eq, simprocAttr, dx]
  repeat refine an ?_
  refine hk _ ?_; clear hk k
  refine awp_ret ?_
  refine ret1 rfl rfl ?_
  exact .ownE rfl rfl
end Go.Proofs.Ytbehekmnccoifaa
end
section
set_option linter.unusedSimpArgs false
set_option linter.unusedVariables false
set_option maxRecDepth 100000
namespace Go.Proofs.Ytbehekmnccoifaa
open Go.Am Go.Proofs
set_option maxHeartbeats 4000000 in
theorem c_pack_places (c d : Bool) (m : List Int) (bl : Int) (p : Pl.Plan) (h01 : Pl.bits m) (hn : m.length ≤ 1000000) : PCall Try.prog 36 [words c m, iV bl, .agg (planC d p)] (.tup [ints false (if (Pl.scE m.length bl p) = 0 then Pl.onesL m else []), iV (if (Pl.scE m.length bl p) = 0 then Pl.scS m.length bl p + Pl.ordS m.length p else 0), iV (Pl.scE m.length bl p)]) := by
 refine pcall_of_awp Try.func36 rfl (by simp [Try.ntmps36]) fun C hC => ?_
 refine awp_le (le_keep [0, 1, 2]) ?_
 simp only [kp, argSl, simprocAttr]
 refine awp_sr [] (by rw [hC]; rfl) fun k hk => ?_
 simp (maxSteps := 9^9) (disch := (try simp only [lens]); omega) only [argSl, sm, ↓amb, mark_eq, simprocAttr, dx]
 repeat refine an ?_
 refine hk _ ?_; clear hk k
 refine awp_le (le_keep [0, 1, 5]) ?_
 simp only [kp, argSl, simprocAttr]
 refine awp_sr [] (by rw [hC]; rfl) fun k hk => ?_
 simp (maxSteps := 9^9) (disch := (try simp only [lens]); omega) only [argSl, sm, ↓amb, mark_eq, simprocAttr, sz26, en52, dx]
 repeat refine an ?_
 refine callK_p (c_scan_Sums c d m bl p (Pl.bits_w h01)) rfl ?_
 simp (maxSteps := 9^9) (disch := (try simp only [lens]); omega) only [argSl, sm, ↓amb, mark_eq, simprocAttr, sz26, en52, dx]
 repeat refine an ?_
 refine hk _ ?_; clear hk k
 refine awp_seq fun k1 h1 => ?_
 refine awp_le (le_keep [0, 5, 6, 7, 8, 9, 10, 11, 12]) ?_
 simp only [kp, argSl, simprocAttr]
 refine awp_sr [] (by rw [hC]; rfl) fun k hk => ?_
 simp (maxSteps := 9^9) (disch := (try simp only [lens]); omega) only [argSl, sm, ↓amb, mark_eq, simprocAttr, dx]
 repeat refine an ?_
 refine hk _ ?_; clear hk k
 refine awp_cond rfl (fun hb => ?_) (fun hb => ?_)
 ·try simp only [hbx] at hb
  refine awp_le (le_keep [12]) ?_
  simp only [kp, argSl, simprocAttr]
  have hse := hb
  refine awp_sr [] (by rw [hC]; rfl) fun k hk => ?_
  simp (maxSteps := 9^9) (disch := (try simp only [lens]); omega) only [argSl, sm, ↓amb, mark_eq, simprocAttr, dx]
  repeat refine an ?_
  refine hk _ ?_; clear hk k
  refine awp_ret ?_
  rw [if_neg hse, if_neg hse]
  refine ret3 rfl rfl rfl rfl ?_ ?_ ?_
  ·exact .p (LeP.seq _ _)
  ·exact .p (LeP.refl _)
  ·exact .p (LeP.refl _)
 ·try simp only [hbx] at hb
  refine awp_skip ?_
  refine h1 _ ?_; clear h1 k1
  refine awp_le (le_keep [0, 5, 9, 10, 11]) ?_
  simp only [kp, argSl, simprocAttr]
  have hse : (Pl.scE m.length bl p) = 0 := hb
  obtain ⟨q1, q2, q3⟩ := Pl.sc_iff.1 hse
  have hoo : Pl.ordOk m.length p := ⟨by omega, by omega, q3.2.2⟩
  have hoe := Pl.ordE0 hoo
  rw [(Pl.sc_yes (f := Pl.add32) hse).1, (Pl.sc_yes (f := Pl.add32) hse).2.1]
  have ht : Pl.allF Pl.add32 m = (Pl.onesL m).length := by
   have := Pl.all_ones h01 hn m.length (Nat.le_refl _)
   rw [List.take_of_length_le (Nat.le_refl _)] at this; rw [this, Pl.onesL_len]
  have hon := Pl.onesN_le m m.length
  rw [← Pl.onesL_len] at hon
  rw [ht]
  have hul := (Pl.ordU_ok hoo).2.2
  have hal := Pl.aheadF_len Pl.add32 m
  have hsn := Pl.scS_nn m.length bl p
  have hos := Pl.ord_steps hoo
  refine awp_sr [] (by rw [hC]; rfl) fun k hk => ?_
  simp (maxSteps := 9^9) (disch := (try simp only [lens]); omega) only [argSl, sm, ↓amb, mark_eq, simprocAttr, el22, sz26, en53, dx]
  repeat refine an ?_
  refine callK_p (c_fill_Order _ _ p) rfl ?_
  simp (maxSteps := 9^9) (disch := (try simp only [lens]); omega) only [argSl, sm, ↓amb, mark_eq, simprocAttr, el22, sz26, en53, dx]
  repeat refine an ?_
  refine hk _ ?_; clear hk k
  refine awp_seq fun k2 h2 => ?_
  refine awp_le (le_keep [0, 6, 7, 8, 9, 10, 11, 12, 13, 14]) ?_
  simp only [kp, argSl, simprocAttr]
  refine awp_sr [] (by rw [hC]; rfl) fun k hk => ?_
  simp (maxSteps := 9^9) (disch := (try simp only [lens]); omega) only [argSl, sm, ↓amb, mark_eq, simprocAttr, dx]
  repeat refine an ?_
  refine hk _ ?_; clear hk k
  refine awp_cond rfl (fun hb => ?_) (fun hb => ?_)
  ·try simp only [hbx] at hb
   refine awp_le (le_keep [12]) ?_
   simp only [kp, argSl, simprocAttr]
   refine awp_sr [] (by rw [hC]; rfl) fun k hk => ?_
   simp (maxSteps := 9^9) (disch := (try simp only [lens]); omega) only [argSl, sm, ↓amb, mark_eq, simprocAttr, dx]
   repeat refine an ?_
   refine hk _ ?_; clear hk k
   refine awp_ret ?_
   exact absurd hoe hb
  ·try simp only [hbx] at hb
   refine awp_skip ?_
   refine h2 _ ?_; clear h2 k2
   refine awp_le (le_keep [0, 9, 10, 11, 13, 14]) ?_
   simp only [kp, argSl, simprocAttr]
   refine awp_sr [] (by rw [hC]; rfl) fun k hk => ?_
   simp (maxSteps := 9^9) (disch := (try simp only [lens]); omega) only [argSl, sm, ↓amb, mark_eq, simprocAttr, el33, by3, vr3, dx]
   repeat refine an ?_
   refine hk _ ?_; clear hk k
   refine awp_seq fun k3 h3 => ?_
   refine awp_le (le_keep [0, 6, 7, 8, 9, 11, 13, 14, 15]) ?_
   simp only [kp, argSl, simprocAttr]
   refine awp_sr [] (by rw [hC]; rfl) fun k hk => ?_
   simp (maxSteps := 9^9) (disch := (try simp only [lens]); omega) only [argSl, sm, ↓amb, mark_eq, simprocAttr, el33, dx]
   repeat refine an ?_
   refine hk _ ?_; clear hk k
   refine awp_block ?_
   refine awp_loop (σ := Nat) (fun z => z ≤ (Pl.ordU m.length p).length) (fun (z : Nat) => ⟨[(0, (.p (words c m))), (9, (.p (words false (Pl.aheadF Pl.add32 m)))), (11, (.p (iV (Pl.scS m.length bl p)))), (14, (.p (iV (Pl.ordS m.length p)))), (15, (.own 0)), (43, (.p (ints false (Pl.ordU m.length p)))), (44, (.p (iV (Pl.ordU m.length p).length))), (45, (.p (iV (z : Int))))], [(0, (.row 1 (lift ((Pl.fillL (Pl.onesL m).length (Pl.onesS m ((Pl.ordU m.length p).take z)) (fun j => (Pl.onesL m).getD j 0)).map fun x => [iV x]))))], 1⟩) (fun z => (Pl.ordU m.length p).length - z) 0 ?_ ?_ fun z hz => ?_
   ·exact Nat.zero_le _
   ·exact le_of [(0, _)] (by rfl) (by rfl) ⟨⟨_, rfl, .oe⟩, ⟨_, rfl, .oe⟩, ⟨_, rfl, .oe⟩, ⟨_, rfl, .oe⟩, ⟨_, rfl, .own rfl⟩, ⟨_, rfl, .oe⟩, ⟨_, rfl, .oe⟩, ⟨_, rfl, .oe⟩, trivial⟩ ⟨⟨_, rfl, _, rfl, .liftE (by first | (rw [List.take_zero, show Pl.onesS m [] = [] from rfl, Pl.fillL_nil, List.map_replicate]; done) | (rw [Pl.onesS_yes (by omega) hb, hag, ← Pl.fillL_set (Int.natCast_nonneg _) (x := (Pl.ordU m.length p).getD z 0) (by rw [Int.toNat_natCast, w1]; omega), List.map_set]; first | done | rfl) | (rw [Pl.onesS_no (by omega) hb]; done) | trace_state)⟩, trivial⟩
   refine awp_le (le_keep [0, 6, 7, 8, 9, 11, 14, 15, 43, 44, 45]) ?_
   simp only [kp, argSl, simprocAttr]
   refine awp_sr [] (by rw [hC]; rfl) fun k hk => ?_
   simp (maxSteps := 9^9) (disch := (try simp only [lens]); omega) only [argSl, sm, ↓amb, mark_eq, simprocAttr, dx]
   repeat refine an ?_
   refine hk _ ?_; clear hk k
   refine awp_seq fun k5 h5 => ?_
   refine awp_cond rfl (fun hb => ?_) (fun hb => ?_)
   ·try simp only [hbx] at hb
    refine awp_skip ?_
    refine h5 _ ?_; clear h5 k5
    refine awp_seq fun k6 h6 => ?_
    refine awp_block ?_
    refine awp_le (le_keep [0, 6, 7, 8, 9, 11, 14, 15, 43, 44, 45]) ?_
    simp only [kp, argSl, simprocAttr]
    refine awp_sr [] (by rw [hC]; rfl) fun k hk => ?_
    simp (maxSteps := 9^9) (disch := (try simp only [lens]); omega) only [argSl, sm, ↓amb, mark_eq, simprocAttr, el33, sz3, dx]
    repeat refine an ?_
    refine hk _ ?_; clear hk k
    refine awp_le (le_keep [0, 6, 7, 8, 9, 11, 14, 15, 17, 43, 44, 45]) ?_
    simp only [kp, argSl, simprocAttr]
    have hki := ((Pl.ordU_ok hoo).2.1 _).1 (Pl.getD_mem (Pl.ordU m.length p) z 0 (by omega))
    refine awp_sr [] (by rw [hC]; rfl) fun k hk => ?_
    simp (maxSteps := 9^9) (disch := (try simp only [lens]); omega) only [argSl, sm, ↓amb, mark_eq, simprocAttr, el22, sz41, dx]
    repeat refine an ?_
    refine hk _ ?_; clear hk k
    refine awp_cond rfl (fun hb => ?_) (fun hb => ?_)
    ·try simp only [hbx] at hb
     obtain ⟨w1, w2⟩ := Pl.onesL_at (m := m) (u := ((Pl.ordU m.length p).getD z 0).toNat) (by omega) hb
     have hag : (Pl.aheadF Pl.add32 m).getD ((Pl.ordU m.length p).getD z 0).toNat 0 = (Pl.onesN m ((Pl.ordU m.length p).getD z 0).toNat : Int) := (Pl.aheadF_get _ m (by omega)).trans (Pl.all_ones h01 hn _ (by omega))
     have hfl := Pl.fillL_len (Pl.onesL m).length (Pl.onesS m ((Pl.ordU m.length p).take z)) (fun j => (Pl.onesL m).getD j 0)
     refine awp_region [] (by rw [hC]; rfl) fun k hk => ?_
     simp (maxSteps := 9^9) (disch := (try simp only [lens]); omega) only [argSl, sm, ↓amb, mark_eq, simprocAttr, el22, sz41, el33, sz3, dx]
     repeat refine an ?_
     refine hk _ ?_; clear hk k
     refine h6 _ ?_; clear h6 k6
     refine awp_region [] (by rw [hC]; rfl) fun k hk => ?_
     simp (maxSteps := 9^9) (disch := (try simp only [lens]); omega) only [argSl, sm, ↓amb, mark_eq, simprocAttr, dx]
     repeat refine an ?_
     refine hk _ ?_; clear hk k
     refine ⟨z + 1, by omega, le_of [(0, _)] (by rfl) (by rfl) ⟨⟨_, rfl, .oe⟩, ⟨_, rfl, .oe⟩, ⟨_, rfl, .oe⟩, ⟨_, rfl, .oe⟩, ⟨_, rfl, .own rfl⟩, ⟨_, rfl, .oe⟩, ⟨_, rfl, .oe⟩, ⟨_, rfl, .oe⟩, trivial⟩ ⟨⟨_, rfl, _, rfl, .liftE (by first | (rw [List.take_zero, show Pl.onesS m [] = [] from rfl, Pl.fillL_nil, List.map_replicate]; done) | (rw [Pl.onesS_yes (by omega) hb, hag, ← Pl.fillL_set (Int.natCast_nonneg _) (x := (Pl.ordU m.length p).getD z 0) (by rw [Int.toNat_natCast, w1]; omega), List.map_set]; first | done | rfl) | (rw [Pl.onesS_no (by omega) hb]; done) | trace_state)⟩, trivial⟩, by omega⟩
    ·try simp only [hbx] at hb
     refine awp_skip ?_
     refine h6 _ ?_; clear h6 k6
     refine awp_region [] (by rw [hC]; rfl) fun k hk => ?_
     simp (maxSteps := 9^9) (disch := (try simp only [lens]); omega) only [argSl, sm, ↓amb, mark_eq, simprocAttr, dx]
     repeat refine an ?_
     refine hk _ ?_; clear hk k
     refine ⟨z + 1, by omega, le_of [(0, _)] (by rfl) (by rfl) ⟨⟨_, rfl, .oe⟩, ⟨_, rfl, .oe⟩, ⟨_, rfl, .oe⟩, ⟨_, rfl, .oe⟩, ⟨_, rfl, .own rfl⟩, ⟨_, rfl, .oe⟩, ⟨_, rfl, .oe⟩, ⟨_, rfl, .oe⟩, trivial⟩ ⟨⟨_, rfl, _, rfl, .liftE (by first | (rw [List.take_zero, show Pl.onesS m [] = [] from rfl, Pl.fillL_nil, List.map_replicate]; done) | (rw [Pl.onesS_yes (by omega) hb, hag, ← Pl.fillL_set (Int.natCast_nonneg _) (x := (Pl.ordU m.length p).getD z 0) (by rw [Int.toNat_natCast, w1]; omega), List.map_set]; first | done | rfl) | (rw [Pl.onesS_no (by omega) hb]; done) | trace_state)⟩, trivial⟩, by omega⟩
   ·try simp only [hbx] at hb
    refine awp_exit ((if_pos rfl).mpr ?_)
    refine h3 _ ?_; clear h5 k5; clear h3 k3
    refine awp_le (le_keep [11, 14, 15]) ?_
    simp only [kp, argSl, simprocAttr]
    have htk : (Pl.ordU m.length p).take z = (Pl.ordU m.length p) := List.take_of_length_le (by omega)
    rw [htk, Pl.ones_fill (fun u => (Pl.ordU_ok hoo).2.1 u)]
    refine awp_sr [] (by rw [hC]; rfl) fun k hk => ?_
    simp (maxSteps := 9^9) (disch := (try simp only [lens]); omega) only [argSl, sm, ↓amb, mark_eq, simprocAttr, dx]
    repeat refine an ?_
    refine hk _ ?_; clear hk k
    refine awp_ret ?_
    rw [if_pos hse, if_pos hse, hse]
    refine ret3 rfl rfl rfl rfl ?_ ?_ ?_
    ·exact .ownE rfl rfl
    ·exact .p (LeP.refl _)
    ·exact .p (LeP.refl _)
end Go.Proofs.Ytbehekmnccoifaa
end
section
set_option linter.unusedSimpArgs false
set_option linter.unusedVariables false
set_option maxRecDepth 100000
namespace Go.Proofs.Ytbehekmnccoifaa
open Go.Am Go.Proofs
theorem en14 : enters Try.prog 14 = true := by kernel_rfl
theorem en36 : enters Try.prog 36 = true := by kernel_rfl
theorem en37 : enters Try.prog 37 = true := by kernel_rfl
set_option maxHeartbeats 4000000 in
theorem c_pack_Where (c d : Bool) (fl : List Bool) (bl : Int) (p : Pl.Plan) (hn : fl.length ≤ 1000000) : PCall Try.prog 14 [.seq c (fl.map fun q => [bV q]), iV bl, .agg (planC d p)] (.tup [ints false (Pl.whL fl false bl p), iV (Pl.whS fl.length bl p), iV (Pl.scE fl.length bl p)]) := by
 have hpl := fun (c d : Bool) => c_pack_places c d (Pl.marksL fl false) bl p (Pl.marks_bits fl false) (by rw [Pl.marksL_len]; exact hn)
 rw [Pl.marksL_len] at hpl
 refine pcall_of_awp Try.func14 rfl (by simp [Try.ntmps14]) fun C hC => ?_
 refine awp_le (le_keep [0, 1, 2]) ?_
 simp only [kp, argSl, simprocAttr]
 refine awp_sr [] (by rw [hC]; rfl) fun k hk => ?_
 simp (maxSteps := 9^9) (disch := (try simp only [lens]); omega) only [argSl, sm, ↓amb, mark_eq, simprocAttr, dx]
 repeat refine an ?_
 refine hk _ ?_; clear hk k
 refine awp_le (le_keep [0, 1, 5]) ?_
 simp only [kp, argSl, simprocAttr]
 refine awp_sd [] ⟨[0, 1, 0, 0, 15, 31, 31, 31, 255, 511, 1023], [3], [], [], some []⟩ (by rw [hC]; rfl) (by kernel_rfl) (by kernel_rfl) fun k hk => ?_
 simp (maxSteps := 9^9) (disch := (try simp only [lens]); omega) only [argSl, sm, ↓amb, mark_eq, simprocAttr, en37, sz26, en36, dx]
 repeat refine an ?_
 refine callK_p (c_pack_marks _ _ _ hn) rfl ?_
 simp (maxSteps := 9^9) (disch := (try simp only [lens]); omega) only [argSl, sm, ↓amb, mark_eq, simprocAttr, en37, sz26, en36, dx]
 repeat refine an ?_
 refine callK_p (hpl _ _) rfl ?_
 simp (maxSteps := 9^9) (disch := (try simp only [lens]); omega) only [argSl, sm, ↓amb, mark_eq, simprocAttr, en37, sz26, en36, dx]
 repeat refine an ?_
 refine hk _ ?_; clear hk k
 refine awp_ret ?_
 refine ret3 rfl rfl rfl rfl ?_ ?_ ?_
 ·exact .p (LeP.refl _)
 ·exact .p (LeP.refl _)
 ·exact .p (LeP.refl _)
end Go.Proofs.Ytbehekmnccoifaa
end
section
set_option linter.unusedSimpArgs false
set_option linter.unusedVariables false
namespace Go.Pl
theorem ordS_up (n : Int) (p : Plan) : 0 ≤ ordS n p ∧ ordS n p ≤ 20000 := by
  by_cases h : ordOk n p
  · have := ord_steps h
    have := h.1
    have h2 : 0 ≤ leB n p := by unfold leB; split; have := cntT_pos (phOk_cnt ‹_›); omega; exact Int.le_refl _
    omega
  · rw [(ord_no h).2.2]; omega
theorem raL_len {l : List Int} (hl : ∀ x, x ∈ l → W32 x) (b bl : Int) (p : Plan) : (raL l b bl p).length ≤ l.length := by
  unfold raL
  split
  · have := (passes_once hl b (pas b).toNat).1; omega
  · exact Nat.zero_le _
def onesT (m : List Int) (i : Nat) : List Int := (upto 0 (i : Int)).filter (onesP m)
end Go.Pl
end
section
set_option linter.unusedSimpArgs false
set_option linter.unusedVariables false
namespace Go.Pl
theorem onesN_at {m : List Int} {j : Nat} (hj : j < (onesL m).length) : onesN m ((onesL m).getD j 0).toNat = j ∧ m.getD ((onesL m).getD j 0).toNat 0 = 1 ∧ 0 ≤ (onesL m).getD j 0 ∧ (onesL m).getD j 0 < m.length := by
  have hx : (onesL m).getD j 0 ∈ onesL m := getD_mem _ _ _ hj
  have hx2 := List.mem_filter.1 hx
  have hr := mem_upto.1 hx2.1
  have h1 : m.getD ((onesL m).getD j 0).toNat 0 = 1 := by have := hx2.2; unfold onesP at this; simpa using this
  have q := onesL_at (u := ((onesL m).getD j 0).toNat) (by omega) h1
  have hd : (onesL m).Nodup := (nodup_upto _ _).filter _
  refine ⟨?_, h1, hr.1, hr.2⟩
  have e : (onesL m)[onesN m ((onesL m).getD j 0).toNat]'q.2 = (onesL m)[j] := by
    have q1 := q.1
    rw [List.getD_eq_getElem?_getD, List.getElem?_eq_getElem q.2] at q1
    simp only [Option.getD_some] at q1
    rw [q1]
    rw [List.getD_eq_getElem?_getD, List.getElem?_eq_getElem hj] at hr ⊢
    simp only [Option.getD_some] at hr ⊢
    omega
  exact nodup_inj hd q.2 hj e
theorem cntB_ones {fl : List Bool} : ∀ i, i ≤ fl.length → onesN (marksL fl false) i = cntB fl i
  | 0, _ => by unfold onesN cntB; rw [upto_nil (by simp)]; rfl
  | i + 1, h => by
    rw [onesN_s, cntB_ones i (by omega), cntB_s (by omega), marksL_get (by omega)]
    congr 1
    cases fl.getD i false <;> simp
theorem ones_len (fl : List Bool) : (onesL (marksL fl false)).length = fl.count true := by
  rw [onesL_len, marksL_len, cntB_ones _ (Nat.le_refl _), cntB_end]
theorem sortedL_get {l o : List Int} {j : Nat} (h : j < o.length) : (sortedL l o).getD j 0 = l.getD (o.getD j 0).toNat 0 := by
  unfold sortedL
  rw [List.getD_eq_getElem?_getD, List.getElem?_map, List.getElem?_eq_getElem h, List.getD_eq_getElem?_getD (l := o), List.getElem?_eq_getElem h]; rfl
theorem scE_ok {n : Nat} {bl : Int} {p : Plan} (h1 : 1 ≤ bl ∧ bl ≤ 100) (hn : n ≤ 1000) (hp : planRight p) : scE n bl p = 0 := by
  have hbk := blk_up (b := bl) (show (0 : Int) ≤ n by omega) (Int.le_refl _) (by omega)
  exact sc_iff.2 ⟨h1, hn, by omega, by omega, hp⟩
def notL (fl : List Bool) (i : Nat) : List Bool := (fl.take i).map fun q => !q
theorem notL_len (fl : List Bool) {i : Nat} (h : i ≤ fl.length) : (notL fl i).length = i := by unfold notL; rw [List.length_map, List.length_take]; omega
theorem cnt_not : ∀ fl : List Bool, fl.count true + (fl.map fun q => !q).count true = fl.length
  | [] => rfl
  | b :: fl => by
    have := cnt_not fl
    cases b <;> simp only [List.map_cons, List.count_cons, List.length_cons] <;> simp <;> omega
theorem marks_not (fl : List Bool) : marksL (notL fl fl.length) false = marksL fl true := by
  unfold marksL
  rw [notL_len fl (Nat.le_refl _)]
  refine tabL_congr fun j hj => ?_
  have e : (notL fl fl.length).getD j false = !(fl.getD j false) := by
    unfold notL
    rw [List.take_of_length_le (Nat.le_refl _), List.getD_eq_getElem?_getD, List.getElem?_map, List.getElem?_eq_getElem hj, List.getD_eq_getElem?_getD, List.getElem?_eq_getElem hj]; rfl
  rw [e]
  cases fl.getD j false <;> simp
theorem parts {l : List Int} {fl : List Bool} {bl : Int} {p : Plan} (hl : l.length = fl.length) (h1 : 1 ≤ bl ∧ bl ≤ 100) (hn : fl.length ≤ 1000) (hp : planRight p) :
    paE l fl bl p = 0 ∧ paE l (notL fl fl.length) bl p = 0 ∧ scE fl.length bl p = 0 ∧ ptL l fl bl p = paL l fl false bl p ++ paL l (notL fl fl.length) false bl p ∧
    ptN l fl bl p = (paL l fl false bl p).length ∧ (whL fl false bl p).length = (paL l fl false bl p).length ∧ (paL l fl false bl p).length + (paL l (notL fl fl.length) false bl p).length = l.length ∧
    ∀ i, i < (whL fl false bl p).length → (0 ≤ (whL fl false bl p).getD i 0 ∧ (whL fl false bl p).getD i 0 < fl.length) ∧ fl.getD ((whL fl false bl p).getD i 0).toNat false = true ∧ (paL l fl false bl p).getD i 0 = l.getD ((whL fl false bl p).getD i 0).toNat 0 ∧ (1 ≤ i → (whL fl false bl p).getD (i - 1) 0 < (whL fl false bl p).getD i 0) := by
  have e3 := scE_ok (p := p) h1 hn hp
  have hnl := notL_len fl (Nat.le_refl _)
  have e3' : scE (notL fl fl.length).length bl p = 0 := by rw [hnl]; exact e3
  have hl' : l.length = (notL fl fl.length).length := by rw [hnl]; exact hl
  have w1 : whL fl false bl p = onesL (marksL fl false) := if_pos e3
  have w2 : whL fl true bl p = onesL (marksL fl true) := if_pos e3
  have w3 : whL (notL fl fl.length) false bl p = onesL (marksL fl true) := by rw [← marks_not]; exact if_pos e3'
  have p1 : paL l fl false bl p = sortedL l (onesL (marksL fl false)) := by rw [← w1]; exact if_pos hl
  have p2 : paL l (notL fl fl.length) false bl p = sortedL l (onesL (marksL fl true)) := by rw [← w3]; exact if_pos hl'
  have pe : paE l fl bl p = 0 := (if_pos hl).trans e3
  refine ⟨pe, (if_pos hl').trans e3', e3, ?_, if_pos pe, by rw [w1, p1, sortedL_len], ?_, fun i hi => ?_⟩
  · rw [p2, ← w2]; exact if_pos pe
  · rw [p1, p2, sortedL_len, sortedL_len, ← marks_not, ones_len, ones_len]
    have := cnt_not fl
    unfold notL
    rw [List.take_of_length_le (Nat.le_refl _)]; omega
  · rw [w1] at hi ⊢
    obtain ⟨a, b, c, d⟩ := onesN_at hi
    rw [marksL_len] at d
    refine ⟨⟨c, d⟩, ?_, by rw [p1, sortedL_get hi], fun h1 => ?_⟩
    · rw [marksL_get (by omega)] at b
      cases hq : fl.getD ((onesL (marksL fl false)).getD i 0).toNat false
      · rw [hq] at b; simp at b
      · rfl
    · have hs : (onesL (marksL fl false)).Pairwise fun x y => x < y := by
        have hu : (upto 0 ((marksL fl false).length : Int)).Pairwise fun x y => x < y := by
          unfold upto
          rw [List.pairwise_map]
          exact List.pairwise_lt_range.imp fun {x y} h => by omega
        exact hu.filter _
      rw [List.getD_eq_getElem?_getD, List.getElem?_eq_getElem (show i - 1 < (onesL (marksL fl false)).length by omega), List.getD_eq_getElem?_getD, List.getElem?_eq_getElem hi]
      exact List.pairwise_iff_getElem.1 hs (i - 1) i (by omega) hi (by omega)
end Go.Pl
end
section
set_option linter.unusedSimpArgs false
set_option linter.unusedVariables false
namespace Go.Pl
def tabB (n : Nat) (g : Nat → Bool) : List Bool := (List.range n).map g
theorem tabB_len (n : Nat) (g : Nat → Bool) : (tabB n g).length = n := by simp [tabB]
theorem tabB_set {n : Nat} {g g' : Nat → Bool} {i : Nat} {x : Bool} (h1 : x = g' i) (h2 : ∀ j, j < n → j ≠ i → g j = g' j) : (tabB n g).set i x = tabB n g' := by
  subst h1
  refine List.ext_getElem (by simp [tabB]) fun j p q => ?_
  simp only [tabB, List.getElem_set, List.getElem_map, List.getElem_range]
  split
  · rename_i e; rw [e]
  · rename_i e; exact h2 j (by simpa [tabB] using q) (fun z => e z.symm)
def firB (l : List Int) (j : Nat) : Bool := decide (j = 0) || (l.getD (j - 1) 0 != l.getD j 0)
def firstsL (l : List Int) : List Bool := tabB l.length (firB l)
def firT (l : List Int) (i : Nat) : List Bool := tabB l.length (fun j => decide (j < i) && firB l j)
theorem firstsL_len (l : List Int) : (firstsL l).length = l.length := tabB_len _ _
theorem firT_len (l : List Int) (i : Nat) : (firT l i).length = l.length := tabB_len _ _
theorem firT_0 (l : List Int) : firT l 0 = List.replicate l.length false := by
  unfold firT tabB
  simp only [Nat.not_lt_zero, decide_false, Bool.false_and]
  rw [List.map_const']; simp
theorem firT_end (l : List Int) : firT l l.length = firstsL l := by
  unfold firT firstsL tabB
  refine List.map_congr_left fun j hj => ?_
  have := List.mem_range.1 hj
  simp [this]
theorem firT_set {l : List Int} {i : Nat} : (firT l i).set i (firB l i) = firT l (i + 1) := by
  refine tabB_set (by simp) fun j _ hj => ?_
  congr 1
  exact decide_eq_decide.mpr ⟨fun _ => by omega, fun _ => by omega⟩
theorem firB_0 {l : List Int} {i : Nat} (h : i = 0) : firB l i = true := by unfold firB; simp [h]
theorem firB_1 {l : List Int} {i : Nat} (h : i ≠ 0) : firB l i = (l.getD (i - 1) 0 != l.getD i 0) := by unfold firB; simp [h]
def grS (l : List Int) (w : Way) : List Int := sortedL l (raL l w.bits w.block w.plan)
def grW (l : List Int) (w : Way) : List Int := whL (firstsL (grS l w)) false w.block w.plan
def cntG (n : Nat) (W : List Int) (i : Nat) : List Int := (List.range i).map fun j => (if j + 1 < W.length then W.getD (j + 1) 0 else (n : Int)) - W.getD j 0
theorem cntG_snoc (n : Nat) (W : List Int) (i : Nat) : cntG n W (i + 1) = cntG n W i ++ [(if i + 1 < W.length then W.getD (i + 1) 0 else (n : Int)) - W.getD i 0] := by
  unfold cntG; rw [List.range_succ, List.map_append]; rfl
theorem cntG_len (n : Nat) (W : List Int) (i : Nat) : (cntG n W i).length = i := by simp [cntG]
def grE (n : Nat) (w : Way) : Int := raE n w.bits w.block w.plan
def grK (l : List Int) (w : Way) : List Int := if grE l.length w = 0 then sortedL (grS l w) (grW l w) else []
def grC (l : List Int) (w : Way) : List Int := if grE l.length w = 0 then cntG l.length (grW l w) (grW l w).length else []
def grT (n : Nat) (w : Way) : Int := if grE n w = 0 then raS n w.bits w.block w.plan + whS n w.block w.plan else 0
end Go.Pl
end
section
set_option linter.unusedSimpArgs false
set_option linter.unusedVariables false
namespace Go.Pl
def keyE (e : Edge) : Int := if (0 ≤ e.u ∧ e.u < 65536) ∧ 0 ≤ e.v ∧ e.v < 65536 then min e.u e.v * 65536 + max e.u e.v else 0
def unkey (k : Int) : Edge := ⟨k / 65536, k % 65536⟩
theorem or_key {a b : Int} (ha : 0 ≤ a ∧ a < 65536) (hb : 0 ≤ b ∧ b < 65536) : ((BitVec.ofInt 32 (a % 4294967296 * 2 ^ min 16 32 % 4294967296) ||| BitVec.ofInt 32 (b % 4294967296)).toNat : Int) % 4294967296 = a * 65536 + b := by
  obtain ⟨A, rfl⟩ := Int.eq_ofNat_of_zero_le ha.1
  obtain ⟨B, rfl⟩ := Int.eq_ofNat_of_zero_le hb.1
  have e0 : ((A : Int) % 4294967296 * 2 ^ min 16 32 % 4294967296) = ((65536 * A : Nat) : Int) := by
    have : (2 : Int) ^ min 16 32 = 65536 := by decide
    rw [this]; omega
  have e1 : ((B : Int) % 4294967296) = ((B : Nat) : Int) := by omega
  rw [e0, e1, BitVec.toNat_or, BitVec.toNat_ofInt, BitVec.toNat_ofInt]
  have e2 : (((65536 * A : Nat) : Int) % ((2 ^ 32 : Nat) : Int)).toNat = 2 ^ 16 * A := by omega
  have e3 : (((B : Nat) : Int) % ((2 ^ 32 : Nat) : Int)).toNat = B := by omega
  rw [e2, e3, ← Nat.two_pow_add_eq_or_of_lt (by omega)]
  omega
theorem edges_of {a b : List Edge} (h : a.length = b.length) {i : Nat} (hi : a.length ≤ i) (h2 : ∀ j, j < i → a.getD j default = b.getD j default) : a = b := by
  refine List.ext_getElem h fun j h1 h3 => ?_
  have := h2 j (by omega)
  simpa [List.getD_eq_getElem?_getD, List.getElem?_eq_getElem h1, List.getElem?_eq_getElem h3] using this
theorem edge_ne (a b : Edge) : (!(a.u == b.u && a.v == b.v)) = decide ¬ a = b := by
  rw [Bool.eq_iff_iff]
  cases a; cases b
  simp
def fitE (e : Edge) : Prop := (0 ≤ e.u ∧ e.u < 65536) ∧ 0 ≤ e.v ∧ e.v < 65536
instance (e : Edge) : Decidable (fitE e) := by unfold fitE; infer_instance
theorem take_snocE {α : Type} [Inhabited α] (l : List α) (i : Nat) (h : i < l.length) : l.take (i + 1) = l.take i ++ [l.getD i default] := by
  rw [List.take_add_one, List.getD_eq_getElem?_getD, List.getElem?_eq_getElem h]; rfl
def ksE (l : List Edge) : List Int := (l.filter fun e => e.u != e.v).map keyE
theorem ksE_yes {l : List Edge} {i : Nat} (h : i < l.length) (hn : (l.getD i default).u ≠ (l.getD i default).v) : ksE (l.take (i + 1)) = ksE (l.take i) ++ [keyE (l.getD i default)] := by
  unfold ksE
  rw [take_snocE l i h, List.filter_append, List.map_append, List.filter_cons_of_pos (by simpa using hn)]; rfl
theorem ksE_no {l : List Edge} {i : Nat} (h : i < l.length) (hn : (l.getD i default).u = (l.getD i default).v) : ksE (l.take (i + 1)) = ksE (l.take i) := by
  unfold ksE
  rw [take_snocE l i h, List.filter_append, List.filter_cons_of_neg (by simpa using hn), List.filter_nil, List.append_nil]
theorem ksE_len (l : List Edge) : (ksE l).length ≤ l.length := by unfold ksE; rw [List.length_map]; exact List.length_filter_le _ _
theorem keyE_w (e : Edge) : W32 (keyE e) := by unfold keyE; split <;> unfold W32 <;> omega
theorem ksE_w (l : List Edge) : ∀ x, x ∈ ksE l → W32 x := fun x hx => by
  unfold ksE at hx
  obtain ⟨e, _, rfl⟩ := List.mem_map.1 hx
  exact keyE_w e
theorem grK_w {l : List Int} (hl : ∀ x, x ∈ l → W32 x) (w : Way) : ∀ x, x ∈ grK l w → W32 x := by
  unfold grK
  split
  · intro x hx
    unfold sortedL at hx
    obtain ⟨j, _, rfl⟩ := List.mem_map.1 hx
    refine getD_w ?_ _
    intro y hy
    unfold grS sortedL at hy
    obtain ⟨k, _, rfl⟩ := List.mem_map.1 hy
    exact getD_w hl _
  · intro x hx; cases hx
theorem grK_len {l : List Int} (hl : ∀ x, x ∈ l → W32 x) (w : Way) : (grK l w).length ≤ l.length := by
  unfold grK
  split
  · rw [sortedL_len]
    have h1 := wh_len (firstsL (grS l w)) false w.block w.plan
    rw [firstsL_len] at h1
    unfold grW
    refine Nat.le_trans h1 ?_
    unfold grS
    rw [sortedL_len]
    exact raL_len hl _ _ _
  · exact Nat.zero_le _
def hasL (l : List Int) (x : Int) : Bool := decide (x ∈ l)
def woL (l ban : List Int) : List Int := l.filter fun x => !hasL ban x
end Go.Pl
end
section
set_option linter.unusedSimpArgs false
set_option linter.unusedVariables false
set_option maxRecDepth 100000
namespace Go.Proofs.Ytbehekmnccoifaa
open Go.Am Go.Proofs
theorem en51 : enters Try.prog 51 = true := by kernel_rfl
theorem fl59_0 : tFld Try.prog 59 0 = some (0, 1, false) := by kernel_rfl
theorem fl59_1 : tFld Try.prog 59 1 = some (1, 1, false) := by kernel_rfl
theorem it41 : tInt Try.prog 41 = some .u32 := by kernel_rfl
set_option maxHeartbeats 4000000 in
theorem c_dedup_fits (n : Int) : PCall Try.prog 51 [iV n] (bV (decide (0 ≤ n ∧ n < 65536))) := by
 refine pcall_of_awp Try.func51 rfl (by simp [Try.ntmps51]) fun C hC => ?_
 refine awp_le (le_keep [0]) ?_
 simp only [kp, argSl, simprocAttr]
 refine awp_sr [] (by rw [hC]; rfl) fun k hk => ?_
 simp (maxSteps := 9^9) (disch := (try simp only [lens]); omega) only [argSl, sm, ↓amb, mark_eq, simprocAttr, dx]
 repeat refine an ?_
 refine hk _ ?_; clear hk k
 refine awp_test [] 2 (decide (0 ≤ n ∧ n < 65536)) [] (by rw [hC]; rfl) (fun gd hgd k hk => ?_) ?_
 ·have g2 : gd 2 = some 5 := by rw [hgd]; rfl
  clear hgd
  simp (maxSteps := 9^9) (disch := (try simp only [lens]); omega) only [argSl, sm, ↓amb, mark_eq, simprocAttr, gcase_undef, g2, dx]
  repeat' first | refine hk _ _ rfl rfl rfl rfl ?_ | (refine gsplit (fun hg => ?_) (fun hg => ?_) <;> (try simp only [hbx] at hg) <;> simp (maxSteps := 9^9) (disch := (try simp only [lens]); omega) only [argSl, sm, ↓amb, mark_eq, simprocAttr, gcase_undef, g2, dx]) | apply And.intro | fail
  all_goals first | rfl | omega | exact (decide_eq_true (by omega)).symm | exact (decide_eq_false (by omega)).symm | exact decide_eq_decide.mpr (by omega) | (refine Bool.eq_iff_iff.mpr ?_; simp only [beq_iff_eq, bne_iff_ne, ne_eq, decide_eq_true_eq]; omega) | (refine Bool.eq_iff_iff.mpr ?_; simp only [Bool.not_eq_true', Bool.not_eq_false', decide_eq_false_iff_not, decide_eq_true_eq, beq_iff_eq, bne_iff_ne, ne_eq]; omega) | assumption | (simp; done) | (simp [maxLen]; omega) | skip
 simp only [kp, argSl, simprocAttr, List.length_cons, List.length_nil]
 refine awp_ret ?_
 refine ret1 rfl rfl ?_
 exact .p (LeP.refl _)
set_option maxHeartbeats 4000000 in
theorem c_dedup_Key (e : Pl.Edge) : PCall Try.prog 30 [.agg (edgeC e)] (.tup [u32V (Pl.keyE e), bV (decide ((0 ≤ e.u ∧ e.u < 65536) ∧ 0 ≤ e.v ∧ e.v < 65536))]) := by
 refine pcall_of_awp Try.func30 rfl (by simp [Try.ntmps30]) fun C hC => ?_
 refine awp_le (le_keep [0]) ?_
 simp only [kp, argSl, simprocAttr]
 refine awp_sr [] (by rw [hC]; rfl) fun k hk => ?_
 simp (maxSteps := 9^9) (disch := (try simp only [lens]); omega) only [argSl, sm, ↓amb, mark_eq, simprocAttr, wr_u32, dx]
 repeat refine an ?_
 refine hk _ ?_; clear hk k
 refine awp_seq fun k1 h1 => ?_
 refine awp_test [] 13 (decide (¬ ((0 ≤ e.u ∧ e.u < 65536) ∧ 0 ≤ e.v ∧ e.v < 65536))) [1, 2, 3] (by rw [hC]; rfl) (fun gd hgd k hk => ?_) ?_
 ·have g4 : gd 4 = some 8 := by rw [hgd]; rfl
  clear hgd
  simp (maxSteps := 9^9) (disch := (try simp only [lens]); omega) only [argSl, sm, ↓amb, mark_eq, simprocAttr, fl59_0, sz3, en51, fl59_1, gcase_undef, g4, wr_u32, dx]
  repeat' first | refine hk _ _ rfl rfl rfl rfl ?_ | (refine gsplit (fun hg => ?_) (fun hg => ?_) <;> (try simp only [hbx] at hg) <;> simp (maxSteps := 9^9) (disch := (try simp only [lens]); omega) only [argSl, sm, ↓amb, mark_eq, simprocAttr, fl59_0, sz3, en51, fl59_1, gcase_undef, g4, wr_u32, dx]) | apply And.intro | (refine callK_p (c_dedup_fits _) rfl ?_; (try simp (maxSteps := 9^9) (disch := (try simp only [lens]); omega) only [argSl, sm, ↓amb, mark_eq, simprocAttr, fl59_0, sz3, en51, fl59_1, gcase_undef, g4, wr_u32, dx])) | (refine callK_p (c_dedup_fits _) rfl ?_; (try simp (maxSteps := 9^9) (disch := (try simp only [lens]); omega) only [argSl, sm, ↓amb, mark_eq, simprocAttr, fl59_0, sz3, en51, fl59_1, gcase_undef, g4, wr_u32, dx])) | fail
  all_goals first | rfl | omega | exact (decide_eq_true (by omega)).symm | exact (decide_eq_false (by omega)).symm | exact decide_eq_decide.mpr (by omega) | (refine Bool.eq_iff_iff.mpr ?_; simp only [beq_iff_eq, bne_iff_ne, ne_eq, decide_eq_true_eq]; omega) | (refine Bool.eq_iff_iff.mpr ?_; simp only [Bool.not_eq_true', Bool.not_eq_false', decide_eq_false_iff_not, decide_eq_true_eq, beq_iff_eq, bne_iff_ne, ne_eq]; omega) | assumption | (simp; done) | (simp [maxLen]; omega) | skip
 simp only [kp, argSl, simprocAttr, List.length_cons, List.length_nil]
 refine awp_cond rfl (fun hb => ?_) (fun hb => ?_)
 ·try simp only [hbx] at hb
  refine awp_le (le_keep []) ?_
  simp only [kp, argSl, simprocAttr]
  refine awp_sr [] (by rw [hC]; rfl) fun k hk => ?_
  simp (maxSteps := 9^9) (disch := (try simp only [lens]); omega) only [argSl, sm, ↓amb, mark_eq, simprocAttr, wr_u32, dx]
  repeat refine an ?_
  refine hk _ ?_; clear hk k
  refine awp_ret ?_
  have hk0 : ¬ ((0 ≤ e.u ∧ e.u < 65536) ∧ 0 ≤ e.v ∧ e.v < 65536) := by first | exact hb | simpa using hb
  rw [show Pl.keyE e = 0 from if_neg hk0, decide_eq_false hk0]
  refine ret2 rfl rfl rfl ?_ ?_
  ·exact .p (LeP.refl _)
  ·exact .p (LeP.refl _)
 ·try simp only [hbx] at hb
  refine awp_skip ?_
  refine h1 _ ?_; clear h1 k1
  refine awp_le (le_keep [1]) ?_
  simp only [kp, argSl, simprocAttr]
  have hk0 : ((0 ≤ e.u ∧ e.u < 65536) ∧ 0 ≤ e.v ∧ e.v < 65536) := by first | exact hb | exact Decidable.not_not.1 hb
  refine awp_sr [] (by rw [hC]; rfl) fun k hk => ?_
  simp (maxSteps := 9^9) (disch := (try simp only [lens]); omega) only [argSl, sm, ↓amb, mark_eq, simprocAttr, fl59_0, sz3, fl59_1, it41, un3, wr_u32, dx]
  repeat refine an ?_
  refine hk _ ?_; clear hk k
  refine awp_ret ?_
  rw [show Pl.keyE e = min e.u e.v * 65536 + max e.u e.v from if_pos hk0, decide_eq_true hk0]
  refine ret2 rfl rfl rfl ?_ ?_
  ·exact .p (LeP.of_eq (by show PV.lit (.int .u32 _) = PV.lit (.int .u32 _); congr 2; exact Pl.or_key (by omega) (by omega)))
  ·exact .p (LeP.refl _)
end Go.Proofs.Ytbehekmnccoifaa
end
section
set_option linter.unusedSimpArgs false
set_option linter.unusedVariables false
namespace Go.Pl
section
variable {α : Type}
def cntD (p : α → Bool) (l : List α) (j : Nat) : Nat := ((l.take j).filter fun x => !p x).length
structure DelI (p : α → Bool) (l r : List α) (j : Nat) : Prop where
  len : r.length = l.length
  pre : r.take (cntD p l j) = (l.take j).filter fun x => !p x
  suf : r.drop j = l.drop j
  lt : cntD p l j < j
theorem cntD_yes [Inhabited α] {p : α → Bool} {l : List α} {j : Nat} (hj : j < l.length) (hp : p (l.getD j default) = false) : (l.take (j + 1)).filter (fun x => !p x) = (l.take j).filter (fun x => !p x) ++ [l.getD j default] := by
  rw [take_snocE l j hj, List.filter_append, List.filter_cons_of_pos (by rw [hp]; rfl), List.filter_nil]
theorem cntD_no [Inhabited α] {p : α → Bool} {l : List α} {j : Nat} (hj : j < l.length) (hp : p (l.getD j default) = true) : (l.take (j + 1)).filter (fun x => !p x) = (l.take j).filter (fun x => !p x) := by
  rw [take_snocE l j hj, List.filter_append, List.filter_cons_of_neg (by rw [hp]; decide), List.filter_nil, List.append_nil]
theorem firstB_spec [Inhabited α] {p : α → Bool} {l : List α} {i : Nat} (h : firstB p l = (i : Int)) : i < l.length ∧ p (l.getD i default) = true ∧ ∀ j, j < i → p (l.getD j default) = false := by
  unfold firstB at h
  split at h
  · rename_i k hk
    rw [List.findIdx?_eq_some_iff_getElem] at hk
    obtain ⟨h1, h2, h3⟩ := hk
    obtain rfl : k = i := by omega
    refine ⟨h1, by rw [List.getD_eq_getElem?_getD, List.getElem?_eq_getElem h1]; exact h2, fun j hj => ?_⟩
    have := h3 j hj
    rw [List.getD_eq_getElem?_getD, List.getElem?_eq_getElem (by omega)]
    simpa using this
  · omega
theorem filter_take [Inhabited α] {p : α → Bool} {l : List α} {i : Nat} (hi : i ≤ l.length) (h : ∀ j, j < i → p (l.getD j default) = false) : (l.take i).filter (fun x => !p x) = l.take i := by
  rw [List.filter_eq_self]
  intro x hx
  obtain ⟨k, hk, rfl⟩ := List.getElem_of_mem hx
  rw [List.length_take] at hk
  have := h k (by omega)
  rw [List.getD_eq_getElem?_getD, List.getElem?_eq_getElem (by omega)] at this
  rw [List.getElem_take]
  simpa using this
theorem del_start [Inhabited α] {p : α → Bool} {l : List α} {i : Nat} (h : firstB p l = (i : Int)) : DelI p l l (i + 1) ∧ cntD p l (i + 1) = i := by
  obtain ⟨h1, h2, h3⟩ := firstB_spec h
  have e := cntD_no h1 h2
  have e2 := filter_take (Nat.le_of_lt h1) h3
  have e3 : cntD p l (i + 1) = i := by unfold cntD; rw [e, e2, List.length_take]; omega
  exact ⟨⟨rfl, by rw [e3, e, e2], rfl, by omega⟩, e3⟩
theorem del_none {p : α → Bool} {l : List α} (h : firstB p l = -1) : l.filter (fun x => !p x) = l := by
  rw [List.filter_eq_self]
  intro x hx
  have := mt (firstB_iff p l).mpr (by omega)
  cases hp : p x with
  | false => rfl
  | true => exact absurd ⟨x, hx, hp⟩ this
variable {p : α → Bool} {l r : List α} {j : Nat}
theorem DelI.get [Inhabited α] (h : DelI p l r j) (hj : j < l.length) : r.getD j default = l.getD j default := by
  have e : (r.drop j)[0]? = (l.drop j)[0]? := by rw [h.suf]
  rw [List.getElem?_drop, List.getElem?_drop] at e
  rw [List.getD_eq_getElem?_getD, List.getD_eq_getElem?_getD]
  simpa using congrArg (fun o => o.getD default) e
theorem DelI.keep [Inhabited α] (h : DelI p l r j) (hj : j < l.length) (hp : p (l.getD j default) = false) : DelI p l (r.set (cntD p l j) (l.getD j default)) (j + 1) ∧ cntD p l (j + 1) = cntD p l j + 1 := by
  have e := cntD_yes hj hp
  have e2 : cntD p l (j + 1) = cntD p l j + 1 := by unfold cntD; rw [e, List.length_append]; rfl
  have hl := h.len
  have hlt := h.lt
  refine ⟨⟨by rw [List.length_set]; exact h.len, ?_, ?_, by omega⟩, e2⟩
  · rw [e2, e, ← h.pre, List.take_set, List.take_add_one, List.getElem?_eq_getElem (by omega)]
    rw [List.set_append_right _ _ (by rw [List.length_take]; omega), List.length_take, Nat.min_eq_left (by omega), Nat.sub_self]
    rfl
  · rw [List.drop_set_of_lt (by omega)]
    have := congrArg (List.drop 1) h.suf
    rwa [List.drop_drop, List.drop_drop] at this
theorem DelI.skip [Inhabited α] (h : DelI p l r j) (hj : j < l.length) (hp : p (l.getD j default) = true) : DelI p l r (j + 1) ∧ cntD p l (j + 1) = cntD p l j := by
  have e := cntD_no hj hp
  have e2 : cntD p l (j + 1) = cntD p l j := by unfold cntD; rw [e]
  have hlt := h.lt
  refine ⟨⟨h.len, by rw [e2, e]; exact h.pre, ?_, by omega⟩, e2⟩
  have := congrArg (List.drop 1) h.suf
  rwa [List.drop_drop, List.drop_drop] at this
theorem DelI.all (h : DelI p l r l.length) : r.take (cntD p l l.length) = l.filter fun x => !p x := by
  have := h.pre
  rwa [List.take_length] at this
theorem cntD_le (p : α → Bool) (l : List α) (j : Nat) : cntD p l j ≤ l.length := by
  unfold cntD
  refine Nat.le_trans (List.length_filter_le _ _) ?_
  rw [List.length_take]; omega
end
theorem DelI.keepI {p : Int → Bool} {l r : List Int} {j : Nat} (h : DelI p l r j) (hj : j < l.length) (hp : p (r.getD j 0) = false) : DelI p l (r.set (cntD p l j) (r.getD j 0)) (j + 1) ∧ cntD p l (j + 1) = cntD p l j + 1 := by
  have e := h.get hj
  have e2 : r.getD j 0 = l.getD j default := e
  rw [e2] at hp ⊢
  exact h.keep hj hp
theorem DelI.skipI {p : Int → Bool} {l r : List Int} {j : Nat} (h : DelI p l r j) (hj : j < l.length) (hp : p (r.getD j 0) = true) : DelI p l r (j + 1) ∧ cntD p l (j + 1) = cntD p l j := by
  have e := h.get hj
  have e2 : r.getD j 0 = l.getD j default := e
  rw [e2] at hp
  exact h.skip hj hp
theorem hasL_first (l : List Int) (x : Int) : decide (0 ≤ firstB (fun y => decide (x = y)) l) = hasL l x := by
  unfold hasL
  refine decide_eq_decide.mpr ?_
  rw [firstB_iff]
  constructor
  · rintro ⟨y, h1, h2⟩
    rw [decide_eq_true_eq] at h2
    exact h2 ▸ h1
  · exact fun h => ⟨x, h, decide_eq_true rfl⟩
end Go.Pl
end
section
set_option linter.unusedSimpArgs false
set_option linter.unusedVariables false
set_option maxRecDepth 100000
namespace Go.Proofs.Ytbehekmnccoifaa
open Go.Am Go.Proofs
theorem take_liftA {n : Nat} {A B : List (List PV)} (h : A.length = n) : List.take n (lift (A ++ B)) = lift A := by
  subst h
  simp [lift]
theorem en45 : enters Try.prog 45 = true := by kernel_rfl
theorem en46 : enters Try.prog 46 = true := by kernel_rfl
theorem en47 : enters Try.prog 47 = true := by kernel_rfl
theorem en48 : enters Try.prog 48 = true := by kernel_rfl
theorem en63 : enters Try.prog 63 = true := by kernel_rfl
theorem en64 : enters Try.prog 64 = true := by kernel_rfl
theorem sz22 : tSz Try.prog 22 = some (false, 1) := by kernel_rfl
set_option maxHeartbeats 4000000 in
theorem c_IndexW (c : Bool) (l : List Int) (x : Int) (hn : l.length ≤ 1000000) : PCall Try.prog 64 [words c l, u32V x] (iV (Pl.firstB (fun y => decide (x = y)) l)) := by
 refine pcall_of_awp Try.func64 rfl (by simp [Try.ntmps64]) fun C hC => ?_
 refine awp_le (le_keep [0, 1]) ?_
 simp only [kp, argSl, simprocAttr]
 refine awp_sr [] (by rw [hC]; rfl) fun k hk => ?_
 simp (maxSteps := 9^9) (disch := (try simp only [lens]); omega) only [argSl, sm, ↓amb, mark_eq, simprocAttr, dx]
 repeat refine an ?_
 refine hk _ ?_; clear hk k
 refine awp_seq fun k1 h1 => ?_
 refine awp_le (le_keep [0, 1, 4]) ?_
 simp only [kp, argSl, simprocAttr]
 refine awp_sr [] (by rw [hC]; rfl) fun k hk => ?_
 simp (maxSteps := 9^9) (disch := (try simp only [lens]); omega) only [argSl, sm, ↓amb, mark_eq, simprocAttr, el22, dx]
 repeat refine an ?_
 refine hk _ ?_; clear hk k
 refine awp_block ?_
 refine awp_loop (σ := Nat) (fun i => i ≤ l.length ∧ ∀ j, j < i → ¬ x = l.getD j 0) (fun (i : Nat) => ⟨[(0, (.p (words c l))), (1, (.p (u32V x))), (7, (.p (iV l.length))), (8, (.p (iV (i : Int))))], [], 1⟩) (fun i => l.length - i) 0 ?_ ?_ fun i hi => ?_
 ·exact ⟨Nat.zero_le _, fun j hj => by omega⟩
 ·exact le_of [] (by rfl) (by rfl) ⟨⟨_, rfl, .oe⟩, ⟨_, rfl, .oe⟩, ⟨_, rfl, .oe⟩, ⟨_, rfl, .oe⟩, trivial⟩ trivial
 obtain ⟨hi1, hi2⟩ := hi
 refine awp_le (le_keep [0, 1, 4, 7, 8]) ?_
 simp only [kp, argSl, simprocAttr]
 refine awp_sr [] (by rw [hC]; rfl) fun k hk => ?_
 simp (maxSteps := 9^9) (disch := (try simp only [lens]); omega) only [argSl, sm, ↓amb, mark_eq, simprocAttr, dx]
 repeat refine an ?_
 refine hk _ ?_; clear hk k
 refine awp_seq fun k3 h3 => ?_
 refine awp_cond rfl (fun hb => ?_) (fun hb => ?_)
 ·try simp only [hbx] at hb
  refine awp_skip ?_
  refine h3 _ ?_; clear h3 k3
  refine awp_seq fun k4 h4 => ?_
  refine awp_block ?_
  refine awp_le (le_keep [0, 1, 4, 7, 8]) ?_
  simp only [kp, argSl, simprocAttr]
  refine awp_sr [] (by rw [hC]; rfl) fun k hk => ?_
  simp (maxSteps := 9^9) (disch := (try simp only [lens]); omega) only [argSl, sm, ↓amb, mark_eq, simprocAttr, dx]
  repeat refine an ?_
  refine hk _ ?_; clear hk k
  refine awp_le (le_keep [0, 1, 4, 5, 7, 8]) ?_
  simp only [kp, argSl, simprocAttr]
  refine awp_sr [] (by rw [hC]; rfl) fun k hk => ?_
  simp (maxSteps := 9^9) (disch := (try simp only [lens]); omega) only [argSl, sm, ↓amb, mark_eq, simprocAttr, el22, sz41, dx]
  repeat refine an ?_
  refine hk _ ?_; clear hk k
  refine awp_cond rfl (fun hb => ?_) (fun hb => ?_)
  ·try simp only [hbx] at hb
   refine awp_le (le_keep [5]) ?_
   simp only [kp, argSl, simprocAttr]
   refine awp_sr [] (by rw [hC]; rfl) fun k hk => ?_
   simp (maxSteps := 9^9) (disch := (try simp only [lens]); omega) only [argSl, sm, ↓amb, mark_eq, simprocAttr, dx]
   repeat refine an ?_
   refine hk _ ?_; clear hk k
   refine awp_ret ?_
   rw [Pl.firstB_at (p := (fun y => decide (x = y))) (i := i) (by omega) (fun j hj => decide_eq_false (hi2 j hj)) (decide_eq_true hb)]
   refine ret1 rfl rfl ?_
   exact .p (LeP.refl _)
  ·try simp only [hbx] at hb
   refine awp_skip ?_
   refine h4 _ ?_; clear h4 k4
   refine awp_region [] (by rw [hC]; rfl) fun k hk => ?_
   simp (maxSteps := 9^9) (disch := (try simp only [lens]); omega) only [argSl, sm, ↓amb, mark_eq, simprocAttr, dx]
   repeat refine an ?_
   refine hk _ ?_; clear hk k
   refine ⟨i + 1, ⟨by omega, fun j hj => by by_cases e : j = i; (subst e; exact hb); exact hi2 j (by omega)⟩, le_of [] (by rfl) (by rfl) ⟨⟨_, rfl, .oe⟩, ⟨_, rfl, .oe⟩, ⟨_, rfl, .oe⟩, ⟨_, rfl, .oe⟩, trivial⟩ trivial, by omega⟩
 ·try simp only [hbx] at hb
  refine awp_exit ((if_pos rfl).mpr ?_)
  refine h1 _ ?_; clear h3 k3; clear h1 k1
  refine awp_le (le_keep []) ?_
  simp only [kp, argSl, simprocAttr]
  refine awp_sr [] (by rw [hC]; rfl) fun k hk => ?_
  simp (maxSteps := 9^9) (disch := (try simp only [lens]); omega) only [argSl, sm, ↓amb, mark_eq, simprocAttr, dx]
  repeat refine an ?_
  refine hk _ ?_; clear hk k
  refine awp_ret ?_
  rw [Pl.firstB_no (p := (fun y => decide (x = y))) (i := i) (by omega) (fun j hj _ => decide_eq_false (hi2 j hj))]
  refine ret1 rfl rfl ?_
  exact .p (LeP.refl _)
set_option maxHeartbeats 4000000 in
theorem c_ContainsW (c : Bool) (l : List Int) (x : Int) (hn : l.length ≤ 1000000) : PCall Try.prog 48 [words c l, u32V x] (bV (Pl.hasL l x)) := by
 refine pcall_of_awp Try.func48 rfl (by simp [Try.ntmps48]) fun C hC => ?_
 refine awp_le (le_keep [0, 1]) ?_
 simp only [kp, argSl, simprocAttr]
 refine awp_sr [] (by rw [hC]; rfl) fun k hk => ?_
 simp (maxSteps := 9^9) (disch := (try simp only [lens]); omega) only [argSl, sm, ↓amb, mark_eq, simprocAttr, dx]
 repeat refine an ?_
 refine hk _ ?_; clear hk k
 refine awp_le (le_keep [0, 1]) ?_
 simp only [kp, argSl, simprocAttr]
 refine awp_sr [] (by rw [hC]; rfl) fun k hk => ?_
 simp (maxSteps := 9^9) (disch := (try simp only [lens]); omega) only [argSl, sm, ↓amb, mark_eq, simprocAttr, en64, dx]
 repeat refine an ?_
 refine callK_p (c_IndexW _ _ _ hn) rfl ?_
 simp (maxSteps := 9^9) (disch := (try simp only [lens]); omega) only [argSl, sm, ↓amb, mark_eq, simprocAttr, en64, dx]
 repeat refine an ?_
 refine hk _ ?_; clear hk k
 refine awp_ret ?_
 rw [← Pl.hasL_first]
 refine ret1 rfl rfl ?_
 exact .p (LeP.refl _)
set_option maxHeartbeats 4000000 in
theorem c_Without1 (d : Bool) (ban : List Int) (x : Int) (hn : ban.length ≤ 1000000) : HCall Try.prog 47 [.p (u32V x), .ptr 7 1 0 0] [(7, (.row 1 [[.p (words d ban)]]))] (.p (bV (Pl.hasL ban x))) [(7, (.row 1 [[.p (words d ban)]]))] := by
 refine hcall_of_awp Try.func47 rfl (by simp [Try.ntmps47]) fun C hC => ?_
 refine awp_le (le_keep [0, 1]) ?_
 simp only [kp, argSl, simprocAttr]
 refine awp_sr [] (by rw [hC]; rfl) fun k hk => ?_
 simp (maxSteps := 9^9) (disch := (try simp only [lens]); omega) only [argSl, sm, ↓amb, mark_eq, simprocAttr, dx]
 repeat refine an ?_
 refine hk _ ?_; clear hk k
 refine awp_le (le_keep [0, 1]) ?_
 simp only [kp, argSl, simprocAttr]
 refine awp_sr [] (by rw [hC]; rfl) fun k hk => ?_
 simp (maxSteps := 9^9) (disch := (try simp only [lens]); omega) only [argSl, sm, ↓amb, mark_eq, simprocAttr, sz22, en48, dx]
 repeat refine an ?_
 refine callK_p (c_ContainsW _ _ _ hn) rfl ?_
 simp (maxSteps := 9^9) (disch := (try simp only [lens]); omega) only [argSl, sm, ↓amb, mark_eq, simprocAttr, sz22, en48, dx]
 repeat refine an ?_
 refine hk _ ?_; clear hk k
 refine awp_ret ?_
 refine reth1 rfl rfl ?_
 exact le_of [] (by rfl) (by rfl) ⟨⟨_, rfl, .p (.refl _)⟩, trivial⟩ ⟨⟨_, rfl, _, rfl, .one (.cons (.p (.refl _)) (.nil))⟩, trivial⟩
set_option maxHeartbeats 4000000 in
theorem c_IndexFuncW (d : Bool) (l ban : List Int) (hl : l.length ≤ 1000000) (hn : ban.length ≤ 1000000) : HCall Try.prog 63 [.own 7, (.fn 47 [.ptr 15 1 0 0])] [(7, (.row 1 (lift (l.map fun x => [u32V x])))), (15, (.row 1 [[.p (words d ban)]]))] (.p (iV (Pl.firstB (Pl.hasL ban) l))) [(7, (.row 1 (lift (l.map fun x => [u32V x])))), (15, (.row 1 [[.p (words d ban)]]))] := by
 refine hcall_of_awp Try.func63 rfl (by simp [Try.ntmps63]) fun C hC => ?_
 refine awp_le (le_keep [0, 1]) ?_
 simp only [kp, argSl, simprocAttr]
 refine awp_sr [] (by rw [hC]; rfl) fun k hk => ?_
 simp (maxSteps := 9^9) (disch := (try simp only [lens]); omega) only [argSl, sm, ↓amb, mark_eq, simprocAttr, dx, en47]
 repeat refine an ?_
 refine hk _ ?_; clear hk k
 refine awp_seq fun k1 h1 => ?_
 refine awp_le (le_keep [0, 1, 4]) ?_
 simp only [kp, argSl, simprocAttr]
 refine awp_sr [] (by rw [hC]; rfl) fun k hk => ?_
 simp (maxSteps := 9^9) (disch := (try simp only [lens]); omega) only [argSl, sm, ↓amb, mark_eq, simprocAttr, el22, dx, en47]
 repeat refine an ?_
 refine hk _ ?_; clear hk k
 refine awp_block ?_
 refine awp_loop (σ := Nat) (fun i => i ≤ l.length ∧ ∀ j, j < i → Pl.hasL ban (l.getD j 0) = false) (fun (i : Nat) => ⟨[(0, (.own 7)), (1, (.fn 47 [.ptr 15 1 0 0])), (7, (.p (iV l.length))), (8, (.p (iV (i : Int))))], [(7, (.row 1 (lift (l.map fun x => [u32V x])))), (15, (.row 1 [[.p (words d ban)]]))], 1⟩) (fun i => l.length - i) 0 ?_ ?_ fun i hi => ?_
 ·exact ⟨Nat.zero_le _, fun j hj => by omega⟩
 ·exact le_of [] (by rfl) (by rfl) ⟨⟨_, rfl, .own rfl⟩, ⟨_, rfl, .fn rfl (LeRow.cons (.ptr rfl) .nil).2⟩, ⟨_, rfl, .oe⟩, ⟨_, rfl, .oe⟩, trivial⟩ ⟨⟨_, rfl, _, rfl, .liftE rfl⟩, ⟨_, rfl, _, rfl, .one (.cons (.p (.refl _)) (.nil))⟩, trivial⟩
 obtain ⟨hi1, hi2⟩ := hi
 refine awp_le (le_keep [0, 1, 4, 7, 8, 15]) ?_
 simp only [kp, argSl, simprocAttr]
 refine awp_sr [] (by rw [hC]; rfl) fun k hk => ?_
 simp (maxSteps := 9^9) (disch := (try simp only [lens]); omega) only [argSl, sm, ↓amb, mark_eq, simprocAttr, dx, en47]
 repeat refine an ?_
 refine hk _ ?_; clear hk k
 refine awp_seq fun k3 h3 => ?_
 refine awp_cond rfl (fun hb => ?_) (fun hb => ?_)
 ·try simp only [hbx] at hb
  refine awp_skip ?_
  refine h3 _ ?_; clear h3 k3
  refine awp_seq fun k4 h4 => ?_
  refine awp_block ?_
  refine awp_le (le_keep [0, 1, 4, 7, 8]) ?_
  simp only [kp, argSl, simprocAttr]
  refine awp_sr [] (by rw [hC]; rfl) fun k hk => ?_
  simp (maxSteps := 9^9) (disch := (try simp only [lens]); omega) only [argSl, sm, ↓amb, mark_eq, simprocAttr, dx, en47]
  repeat refine an ?_
  refine hk _ ?_; clear hk k
  refine awp_le (le_keep [0, 1, 4, 5, 7, 8]) ?_
  simp only [kp, argSl, simprocAttr]
  refine awp_sr [] (by rw [hC]; rfl) fun k hk => ?_
  simp (maxSteps := 9^9) (disch := (try simp only [lens]); omega) only [argSl, sm, ↓amb, mark_eq, simprocAttr, el22, sz41, dx, en47]
  repeat refine an ?_
  refine callK_h (c_Without1 d ban _ hn) [15] [7] (by first | rfl | (simp only [hm]; done)) (by first | rfl | (simp [namesOk, lkp]; done)) ?_ ?_ ?_ ?_ ?_ ?_ ?_
  (iterate 6 (focus (first | trivial | (intro n hn; cases hn; done) | (simp (maxSteps := 9^9) (disch := (try simp only [lens]); omega) only [argSl, sm, ↓amb, mark_eq, simprocAttr, el22, sz41, dx, en47, hmx, List.filter_cons, Nat.reduceBNe, imp_self, implies_true]; done))))
  simp (maxSteps := 9^9) (disch := (try simp only [lens]); omega) only [argSl, sm, ↓amb, mark_eq, simprocAttr, el22, sz41, dx, en47, hm, List.filter_cons, List.filter_nil, Nat.reduceBNe, Option.map_none]
  repeat refine an ?_
  refine hk _ ?_; clear hk k
  refine awp_cond rfl (fun hb => ?_) (fun hb => ?_)
  ·try simp only [hbx] at hb
   refine awp_le (le_keep [5]) ?_
   simp only [kp, argSl, simprocAttr]
   refine awp_sr [] (by rw [hC]; rfl) fun k hk => ?_
   simp (maxSteps := 9^9) (disch := (try simp only [lens]); omega) only [argSl, sm, ↓amb, mark_eq, simprocAttr, dx, en47]
   repeat refine an ?_
   refine hk _ ?_; clear hk k
   refine awp_ret ?_
   rw [Pl.firstB_at (p := Pl.hasL ban) (i := i) (by omega) hi2 hb]
   refine reth1 rfl rfl ?_
   exact le_of [] (by rfl) (by rfl) ⟨⟨_, rfl, .p (.refl _)⟩, trivial⟩ ⟨⟨_, rfl, _, rfl, .liftE (rfl)⟩, ⟨_, rfl, _, rfl, .one (.cons (.p (.refl _)) (.nil))⟩, trivial⟩
  ·try simp only [hbx] at hb
   refine awp_skip ?_
   refine h4 _ ?_; clear h4 k4
   refine awp_region [] (by rw [hC]; rfl) fun k hk => ?_
   simp (maxSteps := 9^9) (disch := (try simp only [lens]); omega) only [argSl, sm, ↓amb, mark_eq, simprocAttr, dx, en47]
   repeat refine an ?_
   refine hk _ ?_; clear hk k
   refine ⟨i + 1, ⟨by omega, fun j hj => by by_cases e : j = i; (subst e; exact hb); exact hi2 j (by omega)⟩, le_of [] (by rfl) (by rfl) ⟨⟨_, rfl, .own rfl⟩, ⟨_, rfl, .fn rfl (LeRow.cons (.ptr rfl) .nil).2⟩, ⟨_, rfl, .oe⟩, ⟨_, rfl, .oe⟩, trivial⟩ ⟨⟨_, rfl, _, rfl, .liftE rfl⟩, ⟨_, rfl, _, rfl, .one (.cons (.p (.refl _)) (.nil))⟩, trivial⟩, by omega⟩
 ·try simp only [hbx] at hb
  refine awp_exit ((if_pos rfl).mpr ?_)
  refine h1 _ ?_; clear h3 k3; clear h1 k1
  refine awp_le (le_keep []) ?_
  simp only [kp, argSl, simprocAttr]
  refine awp_sr [] (by rw [hC]; rfl) fun k hk => ?_
  simp (maxSteps := 9^9) (disch := (try simp only [lens]); omega) only [argSl, sm, ↓amb, mark_eq, simprocAttr, dx, en47]
  repeat refine an ?_
  refine hk _ ?_; clear hk k
  refine awp_ret ?_
  rw [Pl.firstB_no (p := Pl.hasL ban) (i := i) (by omega) (fun j hj _ => hi2 j hj)]
  refine reth1 rfl rfl ?_
  exact le_of [] (by rfl) (by rfl) ⟨⟨_, rfl, .p (.refl _)⟩, trivial⟩ ⟨⟨_, rfl, _, rfl, .liftE (rfl)⟩, ⟨_, rfl, _, rfl, .one (.cons (.p (.refl _)) (.nil))⟩, trivial⟩
set_option maxHeartbeats 4000000 in
theorem c_DeleteFuncW (d : Bool) (l ban : List Int) (hl : l.length ≤ 1000000) (hn : ban.length ≤ 1000000) : HCall Try.prog 45 [.own 7, (.fn 47 [.ptr 15 1 0 0])] [(7, (.row 1 (lift (l.map fun x => [u32V x])))), (15, (.row 1 [[.p (words d ban)]]))] (.own 0) [(0, (.row 1 (lift ((Pl.woL l ban).map fun x => [u32V x])))), (15, (.row 1 [[.p (words d ban)]]))] := by
 refine hcall_of_awp Try.func45 rfl (by simp [Try.ntmps45]) fun C hC => ?_
 refine awp_le (le_keep [0, 1]) ?_
 simp only [kp, argSl, simprocAttr]
 refine awp_sr [41] (by rw [hC]; rfl) fun k hk => ?_
 simp (maxSteps := 9^9) (disch := (try simp only [lens]); omega) only [argSl, sm, ↓amb, mark_eq, simprocAttr, dx, en47]
 repeat refine an ?_
 refine hk _ ?_; clear hk k
 refine awp_le (le_keep [0, 1]) ?_
 simp only [kp, argSl, simprocAttr]
 refine awp_sr [41] (by rw [hC]; rfl) fun k hk => ?_
 simp (maxSteps := 9^9) (disch := (try simp only [lens]); omega) only [argSl, sm, ↓amb, mark_eq, simprocAttr, en63, dx, en47]
 repeat refine an ?_
 refine callK_h (c_IndexFuncW d l ban hl hn) [7, 15] [7, 15] (by first | rfl | (simp only [hm]; done)) (by first | rfl | (simp [namesOk, lkp]; done)) ?_ ?_ ?_ ?_ ?_ ?_ ?_
 (iterate 6 (focus (first | trivial | (intro n hn; cases hn; done) | (simp (maxSteps := 9^9) (disch := (try simp only [lens]); omega) only [argSl, sm, ↓amb, mark_eq, simprocAttr, en63, dx, en47, hmx, List.filter_cons, Nat.reduceBNe, imp_self, implies_true]; done))))
 simp (maxSteps := 9^9) (disch := (try simp only [lens]); omega) only [argSl, sm, ↓amb, mark_eq, simprocAttr, en63, dx, en47, hm, List.filter_cons, List.filter_nil, Nat.reduceBNe, Option.map_none]
 repeat refine an ?_
 refine hk _ ?_; clear hk k
 refine awp_seq fun k1 h1 => ?_
 refine awp_le (le_keep [0, 1, 4, 5]) ?_
 simp only [kp, argSl, simprocAttr]
 refine awp_sr [41] (by rw [hC]; rfl) fun k hk => ?_
 simp (maxSteps := 9^9) (disch := (try simp only [lens]); omega) only [argSl, sm, ↓amb, mark_eq, simprocAttr, dx, en47]
 repeat refine an ?_
 refine hk _ ?_; clear hk k
 refine awp_cond rfl (fun hb => ?_) (fun hb => ?_)
 ·try simp only [hbx] at hb
  refine awp_le (le_keep [0]) ?_
  simp only [kp, argSl, simprocAttr]
  refine awp_sr [41] (by rw [hC]; rfl) fun k hk => ?_
  simp (maxSteps := 9^9) (disch := (try simp only [lens]); omega) only [argSl, sm, ↓amb, mark_eq, simprocAttr, dx, en47]
  repeat refine an ?_
  refine hk _ ?_; clear hk k
  refine awp_ret ?_
  have he : Pl.woL l ban = l := Pl.del_none hb
  rw [he]
  refine reth1 rfl rfl ?_
  exact le_of2 [(0, 7)] (by rfl) (by rfl) ⟨⟨_, rfl, .own rfl⟩, trivial⟩ ⟨⟨_, rfl, _, rfl, .liftE (rfl)⟩, ⟨_, rfl, _, rfl, .one (.cons (.p (.refl _)) (.nil))⟩, trivial⟩
 ·try simp only [hbx] at hb
  refine awp_skip ?_
  refine h1 _ ?_; clear h1 k1
  refine awp_seq fun k2 h2 => ?_
  refine awp_le (le_keep [0, 1, 4, 5]) ?_
  simp only [kp, argSl, simprocAttr]
  have hg := Pl.firstB_ge (Pl.hasL ban) l
  obtain ⟨i, hi⟩ : ∃ i : Nat, (Pl.firstB (Pl.hasL ban) l) = i := ⟨(Pl.firstB (Pl.hasL ban) l).toNat, by omega⟩
  obtain ⟨hs1, hs2⟩ := Pl.del_start hi
  rw [hi]
  refine awp_sr [41] (by rw [hC]; rfl) fun k hk => ?_
  simp (maxSteps := 9^9) (disch := (try simp only [lens]); omega) only [argSl, sm, ↓amb, mark_eq, simprocAttr, dx, en47]
  repeat refine an ?_
  refine hk _ ?_; clear hk k
  refine awp_block ?_
  refine awp_loop (σ := Nat × List Int) (fun x => x.1 ≤ l.length ∧ Pl.DelI (Pl.hasL ban) l x.2 x.1) (fun x => ⟨[(0, (.own 7)), (1, (.fn 47 [.ptr 15 1 0 0])), (5, (.p (iV ((Pl.cntD (Pl.hasL ban) l x.1) : Nat)))), (6, (.p (iV (x.1 : Nat))))], [(7, (.row 1 (lift (x.2.map fun x => [u32V x])))), (15, (.row 1 [[.p (words d ban)]]))], 1⟩) (fun x => l.length - x.1) (i + 1, l) ?_ ?_ fun x hx => ?_
  ·exact ⟨by have := (Pl.firstB_spec hi).1; dsimp only; omega, hs1⟩
  ·exact le_of [] (by rfl) (by rfl) ⟨⟨_, rfl, .own rfl⟩, ⟨_, rfl, .fn rfl (LeRow.cons (.ptr rfl) .nil).2⟩, ⟨_, rfl, .oe⟩, ⟨_, rfl, .oe⟩, trivial⟩ ⟨⟨_, rfl, _, rfl, .liftE (by first | rfl | (dsimp only; rw [List.map_set]; done) | trace_state)⟩, ⟨_, rfl, _, rfl, .one (.cons (.p (.refl _)) (.nil))⟩, trivial⟩
  obtain ⟨j, r⟩ := x
  obtain ⟨hx1, hx2⟩ := hx
  dsimp only at hx1 hx2 ⊢
  refine awp_seq fun k4 h4 => ?_
  refine awp_le (le_keep [0, 1, 4, 5, 6, 7, 15]) ?_
  simp only [kp, argSl, simprocAttr]
  refine awp_sr [41] (by rw [hC]; rfl) fun k hk => ?_
  simp (maxSteps := 9^9) (disch := (try simp only [lens]); omega) only [argSl, sm, ↓amb, mark_eq, simprocAttr, el22, dx, en47]
  repeat refine an ?_
  refine hk _ ?_; clear hk k
  refine awp_cond rfl (fun hb => ?_) (fun hb => ?_)
  ·try simp only [hbx] at hb
   refine awp_skip ?_
   refine h4 _ ?_; clear h4 k4
   refine awp_seq fun k5 h5 => ?_
   refine awp_block ?_
   refine awp_le (le_keep [0, 1, 4, 5, 6, 15]) ?_
   simp only [kp, argSl, simprocAttr]
   have hlt := hx2.lt
   have hlen := hx2.len
   refine awp_sr [41] (by rw [hC]; rfl) fun k hk => ?_
   simp (maxSteps := 9^9) (disch := (try simp only [lens]); omega) only [argSl, sm, ↓amb, mark_eq, simprocAttr, el22, sz41, dx, en47]
   repeat refine an ?_
   refine hk _ ?_; clear hk k
   refine awp_le (le_keep [0, 1, 4, 5, 6, 7, 15]) ?_
   simp only [kp, argSl, simprocAttr]
   refine awp_sr [41] (by rw [hC]; rfl) fun k hk => ?_
   simp (maxSteps := 9^9) (disch := (try simp only [lens]); omega) only [argSl, sm, ↓amb, mark_eq, simprocAttr, dx, en47]
   repeat refine an ?_
   refine callK_h (c_Without1 d ban _ hn) [15] [7] (by first | rfl | (simp only [hm]; done)) (by first | rfl | (simp [namesOk, lkp]; done)) ?_ ?_ ?_ ?_ ?_ ?_ ?_
   (iterate 6 (focus (first | trivial | (intro n hn; cases hn; done) | (simp (maxSteps := 9^9) (disch := (try simp only [lens]); omega) only [argSl, sm, ↓amb, mark_eq, simprocAttr, dx, en47, hmx, List.filter_cons, Nat.reduceBNe, imp_self, implies_true]; done))))
   simp (maxSteps := 9^9) (disch := (try simp only [lens]); omega) only [argSl, sm, ↓amb, mark_eq, simprocAttr, dx, en47, hm, List.filter_cons, List.filter_nil, Nat.reduceBNe, Option.map_none]
   repeat refine an ?_
   refine hk _ ?_; clear hk k
   refine awp_cond rfl (fun hb => ?_) (fun hb => ?_)
   ·try simp only [hbx] at hb
    refine awp_le (le_keep [0, 1, 4, 5, 6, 7, 15]) ?_
    simp only [kp, argSl, simprocAttr]
    have hlt := hx2.lt
    have hlen := hx2.len
    refine awp_sr [41] (by rw [hC]; rfl) fun k hk => ?_
    simp (maxSteps := 9^9) (disch := (try simp only [lens]); omega) only [argSl, sm, ↓amb, mark_eq, simprocAttr, el22, sz41, dx, en47]
    repeat refine an ?_
    refine hk _ ?_; clear hk k
    refine awp_region [41] (by rw [hC]; rfl) fun k hk => ?_
    simp (maxSteps := 9^9) (disch := (try simp only [lens]); omega) only [argSl, sm, ↓amb, mark_eq, simprocAttr, dx, en47]
    repeat refine an ?_
    refine hk _ ?_; clear hk k
    refine h5 _ ?_; clear h5 k5
    obtain ⟨hk1, hk2⟩ := hx2.keepI (by omega) hb
    refine awp_region [41] (by rw [hC]; rfl) fun k hk => ?_
    simp (maxSteps := 9^9) (disch := (try simp only [lens]); omega) only [argSl, sm, ↓amb, mark_eq, simprocAttr, dx, en47]
    repeat refine an ?_
    refine hk _ ?_; clear hk k
    refine ⟨(j + 1, r.set (Pl.cntD (Pl.hasL ban) l j) (r.getD j 0)), ⟨by dsimp only; omega, hk1⟩, le_of [] (by rfl) (by rfl) ⟨⟨_, rfl, .own rfl⟩, ⟨_, rfl, .fn rfl (LeRow.cons (.ptr rfl) .nil).2⟩, ⟨_, rfl, .oe⟩, ⟨_, rfl, .oe⟩, trivial⟩ ⟨⟨_, rfl, _, rfl, .liftE (by first | rfl | (dsimp only; rw [List.map_set]; done) | trace_state)⟩, ⟨_, rfl, _, rfl, .one (.cons (.p (.refl _)) (.nil))⟩, trivial⟩, (by dsimp only; omega)⟩
   ·try simp only [hbx] at hb
    refine awp_skip ?_
    refine h5 _ ?_; clear h5 k5
    obtain ⟨hk1, hk2⟩ := hx2.skipI (by omega) hb
    refine awp_region [41] (by rw [hC]; rfl) fun k hk => ?_
    simp (maxSteps := 9^9) (disch := (try simp only [lens]); omega) only [argSl, sm, ↓amb, mark_eq, simprocAttr, dx, en47]
    repeat refine an ?_
    refine hk _ ?_; clear hk k
    refine ⟨(j + 1, r), ⟨by dsimp only; omega, hk1⟩, le_of [] (by rfl) (by rfl) ⟨⟨_, rfl, .own rfl⟩, ⟨_, rfl, .fn rfl (LeRow.cons (.ptr rfl) .nil).2⟩, ⟨_, rfl, .oe⟩, ⟨_, rfl, .oe⟩, trivial⟩ ⟨⟨_, rfl, _, rfl, .liftE (by first | rfl | (dsimp only; rw [List.map_set]; done) | trace_state)⟩, ⟨_, rfl, _, rfl, .one (.cons (.p (.refl _)) (.nil))⟩, trivial⟩, (by dsimp only; omega)⟩
  ·try simp only [hbx] at hb
   refine awp_exit ((if_pos rfl).mpr ?_)
   refine h2 _ ?_; clear h4 k4; clear h2 k2
   refine awp_le (le_keep [0, 5]) ?_
   simp only [kp, argSl, simprocAttr]
   have hlen := hx2.len
   obtain rfl : j = l.length := by omega
   have hcl := Pl.cntD_le (Pl.hasL ban) l l.length
   refine awp_sr [41] (by rw [hC]; rfl) fun k hk => ?_
   simp (maxSteps := 9^9) (disch := (try simp only [lens]); omega) only [argSl, sm, ↓amb, mark_eq, simprocAttr, el22, sz41, vr41, dx, en47]
   repeat refine an ?_
   refine hk _ ?_; clear hk k
   refine awp_le (le_keep [0, 5]) ?_
   simp only [kp, argSl, simprocAttr]
   refine awp_sr [41] (by rw [hC]; rfl) fun k hk => ?_
   simp (maxSteps := 9^9) (disch := (try simp only [lens]); omega) only [argSl, sm, ↓amb, mark_eq, simprocAttr, el22, sz41, dx, en47]
   repeat refine an ?_
   refine hk _ ?_; clear hk k
   refine awp_ret ?_
   have he := hx2.all
   rw [show Pl.woL l ban = _ from he.symm]
   refine reth1 rfl rfl ?_
   exact le_of2 [(0, _)] (by rfl) (by rfl) ⟨⟨_, rfl, .own rfl⟩, trivial⟩ ⟨⟨_, rfl, _, rfl, (by rw [take_liftA (by rw [List.length_map, List.length_take]; omega)]; exact .liftE rfl)⟩, ⟨_, rfl, _, rfl, .one (.cons (.p (.refl _)) (.nil))⟩, trivial⟩
set_option maxHeartbeats 4000000 in
theorem c_CloneW (c : Bool) (l : List Int) (hl : l.length ≤ 1000000) : OCall Try.prog 46 [words c l] 1 (l.map fun x => [u32V x]) := by
 refine ocall_of_awp Try.func46 rfl (by simp [Try.ntmps46]) fun C hC => ?_
 refine awp_sr [7] (by rw [hC]; rfl) fun k hk => ?_
 simp (maxSteps := 9^9) (disch := (try simp only [lens]); omega) only [argSl, sm, ↓amb, mark_eq, simprocAttr, dx]
 repeat refine an ?_
 refine hk _ ?_; clear hk k
 refine awp_seq fun k1 h1 => ?_
 refine awp_nil 41 (of_decide_eq_true (by rw [hC]; rfl)) (of_decide_eq_true (by rw [hC]; rfl)) el22 rfl fun bq1 hq1 => ?_
 refine awp_cond rfl (fun hb => ?_) (fun hb => ?_)
 ·try simp only [hbx] at hb
  have he := hq1 hb
  refine awp_sr [7] (by rw [hC]; rfl) fun k hk => ?_
  simp (maxSteps := 9^9) (disch := (try simp only [lens]); omega) only [argSl, sm, ↓amb, mark_eq, simprocAttr, dx]
  repeat refine an ?_
  refine hk _ ?_; clear hk k
  refine awp_ret ?_
  exact reton (by rw [he]) rfl rfl
 ·try simp only [hbx] at hb
  refine awp_skip ?_
  refine h1 _ ?_; clear h1 k1
  refine awp_sr [7] (by rw [hC]; rfl) fun k hk => ?_
  simp (maxSteps := 9^9) (disch := (try simp only [lens]); omega) only [argSl, sm, ↓amb, mark_eq, simprocAttr, el22, vr41, by41, dx]
  repeat refine an ?_
  refine hk _ ?_; clear hk k
  refine awp_ret ?_
  refine reto1 rfl rfl ?_
  rfl
set_option maxHeartbeats 4000000 in
theorem c_dedup_Without (c d : Bool) (l ban : List Int) (hl : l.length ≤ 1000000) (hn : ban.length ≤ 1000000) : PCall Try.prog 26 [words c l, words d ban] (words false (Pl.woL l ban)) := by
 refine pcall_of_awp Try.func26 rfl (by simp [Try.ntmps26]) fun C hC => ?_
 refine awp_le (le_keep [0, 1]) ?_
 simp only [kp, argSl, simprocAttr]
 refine awp_sr [] (by rw [hC]; rfl) fun k hk => ?_
 simp (maxSteps := 9^9) (disch := (try simp only [lens]); omega) only [argSl, sm, ↓amb, mark_eq, simprocAttr, dx]
 repeat refine an ?_
 refine hk _ ?_; clear hk k
 refine awp_le (le_keep [0, 3]) ?_
 simp only [kp, argSl, simprocAttr]
 refine awp_sr [] (by rw [hC]; rfl) fun k hk => ?_
 simp (maxSteps := 9^9) (disch := (try simp only [lens]); omega) only [argSl, sm, ↓amb, mark_eq, simprocAttr, en46, en45, dx]
 repeat refine an ?_
 refine callK_o (c_CloneW c l hl) rfl ?_
 simp (maxSteps := 9^9) (disch := (try simp only [lens]); omega) only [argSl, sm, ↓amb, mark_eq, simprocAttr, en46, en45, dx]
 repeat refine an ?_
 refine callK_h (c_DeleteFuncW d l ban hl hn) [24, 0] [15] (by first | rfl | (simp only [hm]; done)) (by first | rfl | (simp [namesOk, lkp]; done)) ?_ ?_ ?_ ?_ ?_ ?_ ?_
 (iterate 6 (focus (first | trivial | (intro n hn; cases hn; done) | (simp (maxSteps := 9^9) (disch := (try simp only [lens]); omega) only [argSl, sm, ↓amb, mark_eq, simprocAttr, en46, en45, dx, hmx, List.filter_cons, Nat.reduceBNe, imp_self, implies_true]; done))))
 simp (maxSteps := 9^9) (disch := (try simp only [lens]); omega) only [argSl, sm, ↓amb, mark_eq, simprocAttr, en46, en45, dx, hm, List.filter_cons, List.filter_nil, Nat.reduceBNe, Option.map_none]
 repeat refine an ?_
 refine hk _ ?_; clear hk k
 refine awp_ret ?_
 refine ret1 rfl rfl ?_
 exact .ownE rfl rfl
end Go.Proofs.Ytbehekmnccoifaa
end
section
set_option linter.unusedSimpArgs false
set_option linter.unusedVariables false
set_option maxRecDepth 100000
namespace Go.Proofs.Ytbehekmnccoifaa
open Go.Am Go.Proofs
theorem bt59 : tBuilt Try.prog 59 = true := by kernel_rfl
theorem it3 : tInt Try.prog 3 = some .i64 := by kernel_rfl
theorem it82 : tInt Try.prog 82 = some .u16 := by kernel_rfl
theorem pl59_0 : tPlace Try.prog 59 0 = some (0, 1) := by kernel_rfl
theorem pl59_1 : tPlace Try.prog 59 1 = some (1, 1) := by kernel_rfl
theorem sz59 : tSz Try.prog 59 = some (true, 2) := by kernel_rfl
theorem un41 : (Try.prog.underlying 41).isSome = true := by kernel_rfl
theorem un82 : (Try.prog.underlying 82).isSome = true := by kernel_rfl
theorem vr59 : tVar Try.prog 59 = some (true, [.lit (.int .i64 0), .lit (.int .i64 0)]) := by kernel_rfl
set_option maxHeartbeats 4000000 in
theorem c_dedup_Edge (k : Int) (hk' : Pl.W32 k) : PCall Try.prog 32 [u32V k] (.agg (edgeC (Pl.unkey k))) := by
 refine pcall_of_awp Try.func32 rfl (by simp [Try.ntmps32]) fun C hC => ?_
 refine awp_le (le_keep [0]) ?_
 simp only [kp, argSl, simprocAttr]
 refine awp_sr [] (by rw [hC]; rfl) fun k hk => ?_
 simp (maxSteps := 9^9) (disch := (try simp only [lens]); omega) only [argSl, sm, ↓amb, mark_eq, simprocAttr, vr59, wr_u32, dx]
 repeat refine an ?_
 refine hk _ ?_; clear hk k
 refine awp_le (le_keep [0, 2]) ?_
 simp only [kp, argSl, simprocAttr]
 refine awp_sr [] (by rw [hC]; rfl) fun k hk => ?_
 simp (maxSteps := 9^9) (disch := (try simp only [lens]); omega) only [argSl, sm, ↓amb, mark_eq, simprocAttr, it3, un41, it82, un82, vr59, bt59, pl59_0, pl59_1, sz59, wr_u32, dx]
 repeat refine an ?_
 refine hk _ ?_; clear hk k
 refine awp_ret ?_
 have u1 : (2 : Int) ^ min 16 IntKind.u32.bits = 65536 := by decide
 have u2 := wrap64_of (x := k / 65536) (by omega) (by omega)
 have u3 := wrap64_of (x := k % 65536) (by omega) (by omega)
 refine retone rfl (retc rfl sz59 ?_)
 simp (maxSteps := 9^9) (disch := (try simp only [lens]); omega) only [argSl, sm, ↓amb, mark_eq, simprocAttr, sz59, wr_u32, dx]
 refine .p (LeP.of_eq ?_)
 first | (rw [u1, u2]; first | done | rfl | (rw [wr_u16, u3]; rfl)) | (show PV.agg [iV _, iV _] = PV.agg [iV (k / 65536), iV (k % 65536)]; rw [show k / 65536 % 4294967296 = k / 65536 from by omega]) | trace_state
end Go.Proofs.Ytbehekmnccoifaa
end
section
set_option linter.unusedSimpArgs false
set_option linter.unusedVariables false
set_option maxRecDepth 100000
namespace Go.Proofs.Ytbehekmnccoifaa
open Go.Am Go.Proofs
theorem el53 : tEl Try.prog 53 = some 59 := by kernel_rfl
theorem ff59 : tFlat Try.prog 59 = some [some .i64, some .i64] := by kernel_rfl
set_option maxHeartbeats 4000000 in
theorem c_ref11_Same (c d : Bool) (a b : List Pl.Edge) (ha : a.length ≤ 1000000) : PCall Try.prog 34 [.seq c (a.map edgeC), .seq d (b.map edgeC)] (bV (decide (a = b))) := by
 refine pcall_of_awp Try.func34 rfl (by simp [Try.ntmps34]) fun C hC => ?_
 refine awp_le (le_keep [0, 1]) ?_
 simp only [kp, argSl, simprocAttr]
 refine awp_sr [] (by rw [hC]; rfl) fun k hk => ?_
 simp (maxSteps := 9^9) (disch := (try simp only [lens]); omega) only [argSl, sm, ↓amb, mark_eq, simprocAttr, dx]
 repeat refine an ?_
 refine hk _ ?_; clear hk k
 refine awp_seq fun k1 h1 => ?_
 refine awp_le (le_keep [0, 1, 4]) ?_
 simp only [kp, argSl, simprocAttr]
 refine awp_sr [] (by rw [hC]; rfl) fun k hk => ?_
 simp (maxSteps := 9^9) (disch := (try simp only [lens]); omega) only [argSl, sm, ↓amb, mark_eq, simprocAttr, el53, dx]
 repeat refine an ?_
 refine hk _ ?_; clear hk k
 refine awp_cond rfl (fun hb => ?_) (fun hb => ?_)
 ·try simp only [hbx] at hb
  refine awp_le (le_keep []) ?_
  simp only [kp, argSl, simprocAttr]
  refine awp_sr [] (by rw [hC]; rfl) fun k hk => ?_
  simp (maxSteps := 9^9) (disch := (try simp only [lens]); omega) only [argSl, sm, ↓amb, mark_eq, simprocAttr, dx]
  repeat refine an ?_
  refine hk _ ?_; clear hk k
  refine awp_ret ?_
  refine ret1 rfl rfl ?_
  exact .p (LeP.of_eq (by rw [decide_eq_false (fun e => hb (by rw [e]))]))
 ·try simp only [hbx] at hb
  refine awp_skip ?_
  refine h1 _ ?_; clear h1 k1
  refine awp_seq fun k2 h2 => ?_
  refine awp_le (le_keep [0, 1, 4]) ?_
  simp only [kp, argSl, simprocAttr]
  have hab : a.length = b.length := by omega
  refine awp_sr [] (by rw [hC]; rfl) fun k hk => ?_
  simp (maxSteps := 9^9) (disch := (try simp only [lens]); omega) only [argSl, sm, ↓amb, mark_eq, simprocAttr, dx]
  repeat refine an ?_
  refine hk _ ?_; clear hk k
  refine awp_block ?_
  refine awp_loop (σ := Nat) (fun i => i ≤ a.length ∧ ∀ j, j < i → a.getD j default = b.getD j default) (fun (i : Nat) => ⟨[(0, (.p (.seq c (a.map edgeC)))), (1, (.p (.seq d (b.map edgeC)))), (5, (.p (iV i)))], [], 1⟩) (fun i => a.length - i) 0 ?_ ?_ fun i hi => ?_
  ·exact ⟨Nat.zero_le _, fun j hj => by omega⟩
  ·exact le_of [] (by rfl) (by rfl) ⟨⟨_, rfl, .oe⟩, ⟨_, rfl, .oe⟩, ⟨_, rfl, .oe⟩, trivial⟩ trivial
  obtain ⟨hi1, hi2⟩ := hi
  refine awp_seq fun k4 h4 => ?_
  refine awp_le (le_keep [0, 1, 4, 5]) ?_
  simp only [kp, argSl, simprocAttr]
  refine awp_sr [] (by rw [hC]; rfl) fun k hk => ?_
  simp (maxSteps := 9^9) (disch := (try simp only [lens]); omega) only [argSl, sm, ↓amb, mark_eq, simprocAttr, el53, dx]
  repeat refine an ?_
  refine hk _ ?_; clear hk k
  refine awp_cond rfl (fun hb => ?_) (fun hb => ?_)
  ·try simp only [hbx] at hb
   refine awp_skip ?_
   refine h4 _ ?_; clear h4 k4
   refine awp_seq fun k5 h5 => ?_
   refine awp_block ?_
   refine awp_testD [] ⟨[0, 0, 3, 7, 0, 0, 48, 112, 255], [3, 7], [], [], some []⟩ 25 (decide (¬ a.getD i default = b.getD i default)) [0, 1, 4, 5] (by rw [hC]; rfl) (by kernel_rfl) (by kernel_rfl) (fun gd hgd k hk => ?_) ?_
   ·clear hgd
    simp (maxSteps := 9^9) (disch := (try simp only [lens]); omega) only [argSl, sm, ↓amb, mark_eq, simprocAttr, el53, sz59, ff59, gcase_undef, dx]
    repeat' first | refine hk _ _ rfl rfl rfl rfl ?_ | (refine gsplit (fun hg => ?_) (fun hg => ?_) <;> (try simp only [hbx] at hg) <;> simp (maxSteps := 9^9) (disch := (try simp only [lens]); omega) only [argSl, sm, ↓amb, mark_eq, simprocAttr, el53, sz59, ff59, gcase_undef, dx]) | apply And.intro | fail
    all_goals first | rfl | omega | exact (decide_eq_true (by omega)).symm | exact (decide_eq_false (by omega)).symm | exact decide_eq_decide.mpr (by omega) | (refine Bool.eq_iff_iff.mpr ?_; simp only [beq_iff_eq, bne_iff_ne, ne_eq, decide_eq_true_eq]; omega) | (refine Bool.eq_iff_iff.mpr ?_; simp only [Bool.not_eq_true', Bool.not_eq_false', decide_eq_false_iff_not, decide_eq_true_eq, beq_iff_eq, bne_iff_ne, ne_eq]; omega) | assumption | (simp; done) | (simp [maxLen]; omega) | skip
    all_goals exact Pl.edge_ne _ _
   simp only [kp, argSl, simprocAttr, List.length_cons, List.length_nil]
   refine awp_cond rfl (fun hb => ?_) (fun hb => ?_)
   ·try simp only [hbx] at hb
    refine awp_le (le_keep []) ?_
    simp only [kp, argSl, simprocAttr]
    refine awp_sr [] (by rw [hC]; rfl) fun k hk => ?_
    simp (maxSteps := 9^9) (disch := (try simp only [lens]); omega) only [argSl, sm, ↓amb, mark_eq, simprocAttr, dx]
    repeat refine an ?_
    refine hk _ ?_; clear hk k
    refine awp_ret ?_
    refine ret1 rfl rfl ?_
    exact .p (LeP.of_eq (by rw [decide_eq_false (fun e => hb (by rw [e]))]))
   ·try simp only [hbx] at hb
    refine awp_skip ?_
    refine h5 _ ?_; clear h5 k5
    refine awp_region [] (by rw [hC]; rfl) fun k hk => ?_
    simp (maxSteps := 9^9) (disch := (try simp only [lens]); omega) only [argSl, sm, ↓amb, mark_eq, simprocAttr, dx]
    repeat refine an ?_
    refine hk _ ?_; clear hk k
    refine ⟨i + 1, ⟨by omega, fun j hj => by by_cases e : j = i; (subst e; first | exact hb | exact Decidable.not_not.1 hb); exact hi2 j (by omega)⟩, le_of [] (by rfl) (by rfl) ⟨⟨_, rfl, .oe⟩, ⟨_, rfl, .oe⟩, ⟨_, rfl, .oe⟩, trivial⟩ trivial, by omega⟩
  ·try simp only [hbx] at hb
   refine awp_exit ((if_pos rfl).mpr ?_)
   refine h2 _ ?_; clear h4 k4; clear h2 k2
   refine awp_le (le_keep []) ?_
   simp only [kp, argSl, simprocAttr]
   refine awp_sr [] (by rw [hC]; rfl) fun k hk => ?_
   simp (maxSteps := 9^9) (disch := (try simp only [lens]); omega) only [argSl, sm, ↓amb, mark_eq, simprocAttr, dx]
   repeat refine an ?_
   refine hk _ ?_; clear hk k
   refine awp_ret ?_
   refine ret1 rfl rfl ?_
   exact .p (LeP.of_eq (by rw [decide_eq_true (Pl.edges_of hab (by omega) hi2)]))
end Go.Proofs.Ytbehekmnccoifaa
end
section
set_option linter.unusedSimpArgs false
set_option linter.unusedVariables false
set_option maxRecDepth 100000
namespace Go.Proofs.Ytbehekmnccoifaa
open Go.Am Go.Proofs
theorem awp_regiong {P : Program} {C : Ctx} {K : Exit → LS → Prop} {s : LS} {id : Nat} {l : List Oper} (H : List Nat) (hf : inFrame C.n l.toArray = true)
    (h : ∀ gd, gd = gdOf l.toArray → ∀ k : LS → Prop, (∀ s', K .normal s' → k s') → aops P H gd (fun s' => k ⟨s'.sl, s'.hp, s'.nx + l.length⟩) 0 l s) : Awp P C (.region id l.toArray false) K s := awp_region H hf (h _ rfl)
set_option maxHeartbeats 4000000 in
theorem c_dedup_firsts (c : Bool) (l : List Int) (hl : ∀ x, x ∈ l → Pl.W32 x) (hn : l.length ≤ 1000000) : PCall Try.prog 43 [words c l] (.seq false ((Pl.firstsL l).map fun q => [bV q])) := by
 refine pcall_of_awp Try.func43 rfl (by simp [Try.ntmps43]) fun C hC => ?_
 refine awp_le (le_keep [0]) ?_
 simp only [kp, argSl, simprocAttr]
 refine awp_sr [] (by rw [hC]; rfl) fun k hk => ?_
 simp (maxSteps := 9^9) (disch := (try simp only [lens]); omega) only [argSl, sm, ↓amb, mark_eq, simprocAttr, dx]
 repeat refine an ?_
 refine hk _ ?_; clear hk k
 refine awp_le (le_keep [0]) ?_
 simp only [kp, argSl, simprocAttr]
 refine awp_sr [] (by rw [hC]; rfl) fun k hk => ?_
 simp (maxSteps := 9^9) (disch := (try simp only [lens]); omega) only [argSl, sm, ↓amb, mark_eq, simprocAttr, el22, el23, by4, vr4, dx]
 repeat refine an ?_
 refine hk _ ?_; clear hk k
 refine awp_seq fun k1 h1 => ?_
 refine awp_le (le_keep [0, 2, 3]) ?_
 simp only [kp, argSl, simprocAttr]
 refine awp_sr [] (by rw [hC]; rfl) fun k hk => ?_
 simp (maxSteps := 9^9) (disch := (try simp only [lens]); omega) only [argSl, sm, ↓amb, mark_eq, simprocAttr, el22, dx]
 repeat refine an ?_
 refine hk _ ?_; clear hk k
 refine awp_block ?_
 refine awp_loop (σ := Nat) (fun i => i ≤ l.length) (fun (i : Nat) => ⟨[(0, (.p (words c l))), (3, (.own 0)), (9, (.p (words c l))), (10, (.p (iV l.length))), (11, (.p (iV (i : Int))))], [(0, (.row 1 (lift ((Pl.firT l i).map fun q => [bV q]))))], 1⟩) (fun i => l.length - i) 0 ?_ ?_ fun i hi => ?_
 ·exact Nat.zero_le _
 ·exact le_of [(0, _)] (by rfl) (by rfl) ⟨⟨_, rfl, .oe⟩, ⟨_, rfl, .own rfl⟩, ⟨_, rfl, .oe⟩, ⟨_, rfl, .oe⟩, ⟨_, rfl, .oe⟩, trivial⟩ ⟨⟨_, rfl, _, rfl, .liftE (by first | (rw [Pl.firT_0, List.map_replicate]; done) | (rw [← Pl.firT_set, List.map_set, z1 (by omega)]; first | done | rfl) | (rw [← Pl.firT_set, List.map_set, z2 (by omega), ← z3]; first | done | rfl) | trace_state)⟩, trivial⟩
 refine awp_le (le_keep [0, 2, 3, 9, 10, 11]) ?_
 simp only [kp, argSl, simprocAttr]
 refine awp_sr [] (by rw [hC]; rfl) fun k hk => ?_
 simp (maxSteps := 9^9) (disch := (try simp only [lens]); omega) only [argSl, sm, ↓amb, mark_eq, simprocAttr, dx]
 repeat refine an ?_
 refine hk _ ?_; clear hk k
 refine awp_seq fun k3 h3 => ?_
 refine awp_cond rfl (fun hb => ?_) (fun hb => ?_)
 ·try simp only [hbx] at hb
  refine awp_skip ?_
  refine h3 _ ?_; clear h3 k3
  refine awp_seq fun k4 h4 => ?_
  refine awp_block ?_
  refine awp_le (le_keep [0, 2, 3, 9, 10, 11]) ?_
  simp only [kp, argSl, simprocAttr]
  refine awp_sr [] (by rw [hC]; rfl) fun k hk => ?_
  simp (maxSteps := 9^9) (disch := (try simp only [lens]); omega) only [argSl, sm, ↓amb, mark_eq, simprocAttr, el22, sz41, dx]
  repeat refine an ?_
  refine hk _ ?_; clear hk k
  have zl := Pl.firT_len l i
  have z1 := fun h => Pl.firB_0 (l := l) (i := i) h
  have z2 := fun h => Pl.firB_1 (l := l) (i := i) h
  have z3 : ((i : Int) - 1).toNat = i - 1 := by omega
  refine awp_regiong [] (by rw [hC]; rfl) fun gd hgd k hk => ?_
  have g4 : gd 4 = some 20 := by rw [hgd]; rfl
  clear hgd
  simp (maxSteps := 9^9) (disch := (try simp only [lens]); omega) only [argSl, sm, ↓amb, mark_eq, simprocAttr, el22, sz41, el23, sz4, g4, a07, dx]
  repeat refine an ?_
  refine ⟨fun hg => ?_, fun hg => ?_⟩
  ·try simp only [hbx] at hg
   repeat refine an ?_
   refine hk _ ?_; clear hk k
   refine h4 _ ?_; clear h4 k4
   refine awp_region [] (by rw [hC]; rfl) fun k hk => ?_
   simp (maxSteps := 9^9) (disch := (try simp only [lens]); omega) only [argSl, sm, ↓amb, mark_eq, simprocAttr, dx]
   repeat refine an ?_
   refine hk _ ?_; clear hk k
   refine ⟨i + 1, by omega, le_of [(0, _)] (by rfl) (by rfl) ⟨⟨_, rfl, .oe⟩, ⟨_, rfl, .own rfl⟩, ⟨_, rfl, .oe⟩, ⟨_, rfl, .oe⟩, ⟨_, rfl, .oe⟩, trivial⟩ ⟨⟨_, rfl, _, rfl, .liftE (by first | (rw [Pl.firT_0, List.map_replicate]; done) | (rw [← Pl.firT_set, List.map_set, z1 (by omega)]; first | done | rfl) | (rw [← Pl.firT_set, List.map_set, z2 (by omega), ← z3]; first | done | rfl) | trace_state)⟩, trivial⟩, by omega⟩
  ·try simp only [hbx] at hg
   repeat refine an ?_
   refine hk _ ?_; clear hk k
   refine h4 _ ?_; clear h4 k4
   refine awp_region [] (by rw [hC]; rfl) fun k hk => ?_
   simp (maxSteps := 9^9) (disch := (try simp only [lens]); omega) only [argSl, sm, ↓amb, mark_eq, simprocAttr, dx]
   repeat refine an ?_
   refine hk _ ?_; clear hk k
   refine ⟨i + 1, by omega, le_of [(0, _)] (by rfl) (by rfl) ⟨⟨_, rfl, .oe⟩, ⟨_, rfl, .own rfl⟩, ⟨_, rfl, .oe⟩, ⟨_, rfl, .oe⟩, ⟨_, rfl, .oe⟩, trivial⟩ ⟨⟨_, rfl, _, rfl, .liftE (by first | (rw [Pl.firT_0, List.map_replicate]; done) | (rw [← Pl.firT_set, List.map_set, z1 (by omega)]; first | done | rfl) | (rw [← Pl.firT_set, List.map_set, z2 (by omega), ← z3]; first | done | rfl) | trace_state)⟩, trivial⟩, by omega⟩
 ·try simp only [hbx] at hb
  refine awp_exit ((if_pos rfl).mpr ?_)
  refine h1 _ ?_; clear h3 k3; clear h1 k1
  refine awp_le (le_keep [3]) ?_
  simp only [kp, argSl, simprocAttr]
  obtain rfl : i = l.length := by omega
  rw [Pl.firT_end]
  refine awp_sr [] (by rw [hC]; rfl) fun k hk => ?_
  simp (maxSteps := 9^9) (disch := (try simp only [lens]); omega) only [argSl, sm, ↓amb, mark_eq, simprocAttr, dx]
  repeat refine an ?_
  refine hk _ ?_; clear hk k
  refine awp_ret ?_
  refine ret1 rfl rfl ?_
  exact .ownE rfl rfl
end Go.Proofs.Ytbehekmnccoifaa
end
section
set_option linter.unusedSimpArgs false
set_option linter.unusedVariables false
set_option maxRecDepth 100000
namespace Go.Proofs.Ytbehekmnccoifaa
open Go.Am Go.Proofs
theorem en23 : enters Try.prog 23 = true := by kernel_rfl
theorem en41 : enters Try.prog 41 = true := by kernel_rfl
theorem en42 : enters Try.prog 42 = true := by kernel_rfl
theorem en43 : enters Try.prog 43 = true := by kernel_rfl
theorem fl47_0 : tFld Try.prog 47 0 = some (0, 1, false) := by kernel_rfl
theorem fl47_1 : tFld Try.prog 47 1 = some (1, 1, false) := by kernel_rfl
theorem fl47_2 : tFld Try.prog 47 2 = some (2, 3, true) := by kernel_rfl
theorem sz47 : tSz Try.prog 47 = some (true, 5) := by kernel_rfl
set_option maxHeartbeats 4000000 in
theorem c_dedup_Groups (c d : Bool) (l : List Int) (w : Pl.Way) (hl : ∀ x, x ∈ l → Pl.W32 x) (hn : l.length ≤ 1000000) : PCall Try.prog 23 [words c l, .agg (wayC d w)] (.tup [words false (Pl.grK l w), ints false (Pl.grC l w), iV (Pl.grT l.length w), iV (Pl.grE l.length w)]) := by
 have f1 := c_radix_Sort c d l w.bits w.block w.plan hl hn
 refine pcall_of_awp Try.func23 rfl (by simp [Try.ntmps23]) fun C hC => ?_
 refine awp_le (le_keep [0, 1]) ?_
 simp only [kp, argSl, simprocAttr]
 refine awp_sr [80, 86] (by rw [hC]; rfl) fun k hk => ?_
 simp (maxSteps := 9^9) (disch := (try simp only [lens]); omega) only [argSl, sm, ↓amb, mark_eq, simprocAttr, dx]
 repeat refine an ?_
 refine hk _ ?_; clear hk k
 refine awp_le (le_keep [0, 3]) ?_
 simp only [kp, argSl, simprocAttr]
 refine awp_sr [80, 86] (by rw [hC]; rfl) fun k hk => ?_
 simp (maxSteps := 9^9) (disch := (try simp only [lens]); omega) only [argSl, sm, ↓amb, mark_eq, simprocAttr, fl47_0, sz3, fl47_1, fl47_2, sz26, en41, dx]
 repeat refine an ?_
 refine callK_p (f1) rfl ?_
 simp (maxSteps := 9^9) (disch := (try simp only [lens]); omega) only [argSl, sm, ↓amb, mark_eq, simprocAttr, fl47_0, sz3, fl47_1, fl47_2, sz26, en41, dx]
 repeat refine an ?_
 refine hk _ ?_; clear hk k
 refine awp_seq fun k1 h1 => ?_
 refine awp_le (le_keep [0, 3, 4, 5, 6, 7, 8, 9, 10]) ?_
 simp only [kp, argSl, simprocAttr]
 refine awp_sr [80, 86] (by rw [hC]; rfl) fun k hk => ?_
 simp (maxSteps := 9^9) (disch := (try simp only [lens]); omega) only [argSl, sm, ↓amb, mark_eq, simprocAttr, dx]
 repeat refine an ?_
 refine hk _ ?_; clear hk k
 refine awp_cond rfl (fun hb => ?_) (fun hb => ?_)
 ·try simp only [hbx] at hb
  refine awp_le (le_keep [10]) ?_
  simp only [kp, argSl, simprocAttr]
  refine awp_sr [80, 86] (by rw [hC]; rfl) fun k hk => ?_
  simp (maxSteps := 9^9) (disch := (try simp only [lens]); omega) only [argSl, sm, ↓amb, mark_eq, simprocAttr, dx]
  repeat refine an ?_
  refine hk _ ?_; clear hk k
  refine awp_ret ?_
  rw [show Pl.grK l w = [] from if_neg hb, show Pl.grC l w = [] from if_neg hb, show Pl.grT l.length w = 0 from if_neg hb]
  refine ret4 rfl rfl rfl rfl rfl ?_ ?_ ?_ ?_
  ·exact .p (LeP.seq _ _)
  ·exact .p (LeP.seq _ _)
  ·exact .p (LeP.refl _)
  ·exact .p (LeP.refl _)
 ·try simp only [hbx] at hb
  refine awp_skip ?_
  refine h1 _ ?_; clear h1 k1
  refine awp_le (le_keep [0, 3, 8, 9]) ?_
  simp only [kp, argSl, simprocAttr]
  have he0 : Pl.grE l.length w = 0 := hb
  have hra : Pl.raE l.length w.bits w.block w.plan = 0 := he0
  have hs0 : Pl.scE l.length w.block w.plan = 0 := by
   unfold Pl.raE at hra; split at hra
   ·exact absurd hra (by decide)
   ·exact hra
  have ho : Pl.onceP (Pl.raL l w.bits w.block w.plan) l.length := by unfold Pl.raL; rw [if_pos hra]; exact Pl.passes_once hl _ _
  have f2 := c_radix_Sorted c false l (Pl.raL l w.bits w.block w.plan) hl (fun x hx => by have := ho.2.1 x hx; omega) hn (by have := ho.1; omega)
  rw [if_pos ho, decide_eq_true ho, show Pl.sortedL l (Pl.raL l w.bits w.block w.plan) = Pl.grS l w from rfl] at f2
  have hsl : (Pl.grS l w).length = l.length := by unfold Pl.grS; rw [Pl.sortedL_len]; exact ho.1
  have hgs : ∀ x, x ∈ Pl.grS l w → Pl.W32 x := fun x hx => by
   unfold Pl.grS Pl.sortedL at hx
   obtain ⟨j, _, rfl⟩ := List.mem_map.1 hx
   exact Pl.getD_w hl _
  have hfl := Pl.firstsL_len (Pl.grS l w)
  have f3 := c_pack_Where false d (Pl.firstsL (Pl.grS l w)) w.block w.plan (by omega)
  rw [show Pl.whL (Pl.firstsL (Pl.grS l w)) false w.block w.plan = Pl.grW l w from rfl, hfl, hsl, hs0] at f3
  have hwm : ∀ x, x ∈ Pl.grW l w → 0 ≤ x ∧ x < l.length := fun x hx => by have := Pl.wh_mem x hx; rwa [hfl, hsl] at this
  have hwn : (Pl.grW l w).length ≤ l.length := by have := Pl.wh_len (Pl.firstsL (Pl.grS l w)) false w.block w.plan; rwa [hfl, hsl] at this
  refine awp_sr [80, 86] (by rw [hC]; rfl) fun k hk => ?_
  simp (maxSteps := 9^9) (disch := (try simp only [lens]); omega) only [argSl, sm, ↓amb, mark_eq, simprocAttr, en42, dx]
  repeat refine an ?_
  refine callK_p (f2) rfl ?_
  simp (maxSteps := 9^9) (disch := (try simp only [lens]); omega) only [argSl, sm, ↓amb, mark_eq, simprocAttr, en42, dx]
  repeat refine an ?_
  refine hk _ ?_; clear hk k
  refine awp_le (le_keep [3, 9, 11]) ?_
  simp only [kp, argSl, simprocAttr]
  refine awp_sd [80, 86] ⟨[0, 1, 0, 4, 0, 16, 63, 127, 255, 255, 255, 511, 3071, 8191], [3, 5], [], [], some []⟩ (by rw [hC]; rfl) (by kernel_rfl) (by kernel_rfl) fun k hk => ?_
  simp (maxSteps := 9^9) (disch := (try simp only [lens]); omega) only [argSl, sm, ↓amb, mark_eq, simprocAttr, en43, fl47_1, sz3, fl47_2, sz26, en14, dx]
  repeat refine an ?_
  refine callK_p (c_dedup_firsts false (Pl.grS l w) hgs (by omega)) rfl ?_
  simp (maxSteps := 9^9) (disch := (try simp only [lens]); omega) only [argSl, sm, ↓amb, mark_eq, simprocAttr, en43, fl47_1, sz3, fl47_2, sz26, en14, dx]
  repeat refine an ?_
  refine callK_p (f3) rfl ?_
  simp (maxSteps := 9^9) (disch := (try simp only [lens]); omega) only [argSl, sm, ↓amb, mark_eq, simprocAttr, en43, fl47_1, sz3, fl47_2, sz26, en14, dx]
  repeat refine an ?_
  refine hk _ ?_; clear hk k
  refine awp_seq fun k2 h2 => ?_
  refine awp_le (le_keep [4, 5, 6, 7, 9, 10, 11, 13, 14]) ?_
  simp only [kp, argSl, simprocAttr]
  refine awp_sr [80, 86] (by rw [hC]; rfl) fun k hk => ?_
  simp (maxSteps := 9^9) (disch := (try simp only [lens]); omega) only [argSl, sm, ↓amb, mark_eq, simprocAttr, dx]
  repeat refine an ?_
  refine hk _ ?_; clear hk k
  refine awp_cond rfl (fun hb => ?_) (fun hb => ?_)
  ·exact absurd hb (by simp)
  ·try simp only [hbx] at hb
   refine awp_skip ?_
   refine h2 _ ?_; clear h2 k2
   refine awp_le (le_keep [9, 11, 13, 14]) ?_
   simp only [kp, argSl, simprocAttr]
   refine awp_sr [80, 86] (by rw [hC]; rfl) fun k hk => ?_
   simp (maxSteps := 9^9) (disch := (try simp only [lens]); omega) only [argSl, sm, ↓amb, mark_eq, simprocAttr, dx]
   repeat refine an ?_
   refine hk _ ?_; clear hk k
   refine awp_le (le_keep [9, 11, 13, 14, 15]) ?_
   simp only [kp, argSl, simprocAttr]
   refine awp_sr [80, 86] (by rw [hC]; rfl) fun k hk => ?_
   simp (maxSteps := 9^9) (disch := (try simp only [lens]); omega) only [argSl, sm, ↓amb, mark_eq, simprocAttr, dx]
   repeat refine an ?_
   refine hk _ ?_; clear hk k
   refine awp_seq fun k3 h3 => ?_
   refine awp_le (le_keep [4, 5, 6, 7, 9, 11, 13, 14, 15, 16]) ?_
   simp only [kp, argSl, simprocAttr]
   refine awp_own' 15 1 rfl ?_
   simp only [am, List.set_cons_succ, List.set_cons_zero, Nat.reduceEqDiff, ↓reduceIte, reduceCtorEq, Nat.reduceAdd, Nat.reduceMul]
   refine awp_own' 16 1 rfl ?_
   refine awp_sr [80, 86] (by rw [hC]; rfl) fun k hk => ?_
   simp (maxSteps := 9^9) (disch := (try simp only [lens]); omega) only [argSl, sm, ↓amb, mark_eq, simprocAttr, el33, dx]
   repeat refine an ?_
   refine hk _ ?_; clear hk k
   refine awp_block ?_
   refine awp_loop (σ := Nat) (fun i => i ≤ (Pl.grW l w).length) (fun (i : Nat) => ⟨[(9, (.p (iV (Pl.raS l.length w.bits w.block w.plan)))), (11, (.p (words false (Pl.grS l w)))), (13, (.p (ints false (Pl.grW l w)))), (14, (.p (iV (Pl.whS l.length w.block w.plan)))), (15, (.own 0)), (16, (.own 1)), (55, (.p (ints false (Pl.grW l w)))), (56, (.p (iV (Pl.grW l w).length))), (57, (.p (iV (i : Int))))], [(0, (.row 1 (lift ((Pl.sortedL (Pl.grS l w) ((Pl.grW l w).take i)).map fun x => [u32V x])))), (1, (.row 1 (lift ((Pl.cntG l.length (Pl.grW l w) i).map fun x => [iV x]))))], 1⟩) (fun i => (Pl.grW l w).length - i) 0 ?_ ?_ fun i hi => ?_
   ·exact Nat.zero_le _
   ·exact le_of [(0, _), (1, _)] (by rfl) (by rfl) ⟨⟨_, rfl, .oe⟩, ⟨_, rfl, .oe⟩, ⟨_, rfl, .oe⟩, ⟨_, rfl, .oe⟩, ⟨_, rfl, .own rfl⟩, ⟨_, rfl, .own rfl⟩, ⟨_, rfl, .oe⟩, ⟨_, rfl, .oe⟩, ⟨_, rfl, .oe⟩, trivial⟩ ⟨⟨_, rfl, _, rfl, .liftE (by first | rfl | (rw [Pl.take_snoc' (Pl.grW l w) i (by omega), Pl.sortedL_snoc, List.map_append]; first | done | rfl) | trace_state)⟩, ⟨_, rfl, _, rfl, .liftE (by first | rfl | (rw [Pl.cntG_snoc, List.map_append, if_pos (by omega)]; first | done | rfl) | (rw [Pl.cntG_snoc, List.map_append, if_neg (by omega)]; first | done | rfl | (rw [hsl]; rfl)) | trace_state)⟩, trivial⟩
   refine awp_le (le_keep [0, 1, 4, 5, 6, 7, 9, 11, 13, 14, 15, 16, 55, 56, 57]) ?_
   simp only [kp, argSl, simprocAttr]
   refine awp_sr [80, 86] (by rw [hC]; rfl) fun k hk => ?_
   simp (maxSteps := 9^9) (disch := (try simp only [lens]); omega) only [argSl, sm, ↓amb, mark_eq, simprocAttr, dx]
   repeat refine an ?_
   refine hk _ ?_; clear hk k
   refine awp_seq fun k5 h5 => ?_
   refine awp_cond rfl (fun hb => ?_) (fun hb => ?_)
   ·try simp only [hbx] at hb
    refine awp_skip ?_
    refine h5 _ ?_; clear h5 k5
    refine awp_seq fun k6 h6 => ?_
    refine awp_block ?_
    refine awp_le (le_keep [0, 1, 4, 5, 6, 7, 9, 11, 13, 14, 15, 16, 55, 56, 57]) ?_
    simp only [kp, argSl, simprocAttr]
    have hx := hwm _ (Pl.getD_mem (Pl.grW l w) i 0 (by omega))
    refine awp_sr [80, 86] (by rw [hC]; rfl) fun k hk => ?_
    simp (maxSteps := 9^9) (disch := (try simp only [lens]); omega) only [argSl, sm, ↓amb, mark_eq, simprocAttr, el33, sz3, dx]
    repeat refine an ?_
    refine hk _ ?_; clear hk k
    refine awp_le (le_keep [0, 1, 4, 5, 6, 7, 9, 11, 13, 14, 15, 16, 17, 18, 55, 56, 57]) ?_
    simp only [kp, argSl, simprocAttr]
    refine awp_sr [80, 86] (by rw [hC]; rfl) fun k hk => ?_
    simp (maxSteps := 9^9) (disch := (try simp only [lens]); omega) only [argSl, sm, ↓amb, mark_eq, simprocAttr, el22, dx]
    repeat refine an ?_
    refine hk _ ?_; clear hk k
    refine awp_seq fun k7 h7 => ?_
    refine awp_le (le_keep [0, 1, 4, 5, 6, 7, 9, 11, 13, 14, 15, 16, 17, 18, 19, 55, 56, 57]) ?_
    simp only [kp, argSl, simprocAttr]
    have hcl := Pl.cntG_len l.length (Pl.grW l w) i
    have hkl : (Pl.sortedL (Pl.grS l w) ((Pl.grW l w).take i)).length = i := by rw [Pl.sortedL_len, List.length_take]; omega
    refine awp_sr [80, 86] (by rw [hC]; rfl) fun k hk => ?_
    simp (maxSteps := 9^9) (disch := (try simp only [lens]); omega) only [argSl, sm, ↓amb, mark_eq, simprocAttr, el33, dx]
    repeat refine an ?_
    refine hk _ ?_; clear hk k
    refine awp_cond rfl (fun hb => ?_) (fun hb => ?_)
    ·try simp only [hbx] at hb
     have hy := hwm _ (Pl.getD_mem (Pl.grW l w) (i + 1) 0 (by omega))
     refine awp_region [80, 86] (by rw [hC]; rfl) fun k hk => ?_
     simp (maxSteps := 9^9) (disch := (try simp only [lens]); omega) only [argSl, sm, ↓amb, mark_eq, simprocAttr, el33, sz3, dx]
     repeat refine an ?_
     refine hk _ ?_; clear hk k
     refine h7 _ ?_; clear h7 k7
     refine awp_region [80, 86] (by rw [hC]; rfl) fun k hk => ?_
     simp (maxSteps := 9^9) (disch := (try simp only [lens]); omega) only [argSl, sm, ↓amb, mark_eq, simprocAttr, el22, sz41, vr41, by41, el33, vr3, by3, dx]
     repeat refine an ?_
     refine hk _ ?_; clear hk k
     refine h6 _ ?_; clear h6 k6
     refine awp_region [80, 86] (by rw [hC]; rfl) fun k hk => ?_
     simp (maxSteps := 9^9) (disch := (try simp only [lens]); omega) only [argSl, sm, ↓amb, mark_eq, simprocAttr, dx]
     repeat refine an ?_
     refine hk _ ?_; clear hk k
     refine ⟨i + 1, by omega, le_of [(0, _), (1, _)] (by rfl) (by rfl) ⟨⟨_, rfl, .oe⟩, ⟨_, rfl, .oe⟩, ⟨_, rfl, .oe⟩, ⟨_, rfl, .oe⟩, ⟨_, rfl, .own rfl⟩, ⟨_, rfl, .own rfl⟩, ⟨_, rfl, .oe⟩, ⟨_, rfl, .oe⟩, ⟨_, rfl, .oe⟩, trivial⟩ ⟨⟨_, rfl, _, rfl, .liftE (by first | rfl | (rw [Pl.take_snoc' (Pl.grW l w) i (by omega), Pl.sortedL_snoc, List.map_append]; first | done | rfl) | trace_state)⟩, ⟨_, rfl, _, rfl, .liftE (by first | rfl | (rw [Pl.cntG_snoc, List.map_append, if_pos (by omega)]; first | done | rfl) | (rw [Pl.cntG_snoc, List.map_append, if_neg (by omega)]; first | done | rfl | (rw [hsl]; rfl)) | trace_state)⟩, trivial⟩, by omega⟩
    ·try simp only [hbx] at hb
     refine awp_skip ?_
     refine h7 _ ?_; clear h7 k7
     refine awp_region [80, 86] (by rw [hC]; rfl) fun k hk => ?_
     simp (maxSteps := 9^9) (disch := (try simp only [lens]); omega) only [argSl, sm, ↓amb, mark_eq, simprocAttr, el22, sz41, vr41, by41, el33, vr3, by3, dx]
     repeat refine an ?_
     refine hk _ ?_; clear hk k
     refine h6 _ ?_; clear h6 k6
     refine awp_region [80, 86] (by rw [hC]; rfl) fun k hk => ?_
     simp (maxSteps := 9^9) (disch := (try simp only [lens]); omega) only [argSl, sm, ↓amb, mark_eq, simprocAttr, dx]
     repeat refine an ?_
     refine hk _ ?_; clear hk k
     refine ⟨i + 1, by omega, le_of [(0, _), (1, _)] (by rfl) (by rfl) ⟨⟨_, rfl, .oe⟩, ⟨_, rfl, .oe⟩, ⟨_, rfl, .oe⟩, ⟨_, rfl, .oe⟩, ⟨_, rfl, .own rfl⟩, ⟨_, rfl, .own rfl⟩, ⟨_, rfl, .oe⟩, ⟨_, rfl, .oe⟩, ⟨_, rfl, .oe⟩, trivial⟩ ⟨⟨_, rfl, _, rfl, .liftE (by first | rfl | (rw [Pl.take_snoc' (Pl.grW l w) i (by omega), Pl.sortedL_snoc, List.map_append]; first | done | rfl) | trace_state)⟩, ⟨_, rfl, _, rfl, .liftE (by first | rfl | (rw [Pl.cntG_snoc, List.map_append, if_pos (by omega)]; first | done | rfl) | (rw [Pl.cntG_snoc, List.map_append, if_neg (by omega)]; first | done | rfl | (rw [hsl]; rfl)) | trace_state)⟩, trivial⟩, by omega⟩
   ·try simp only [hbx] at hb
    refine awp_exit ((if_pos rfl).mpr ?_)
    refine h3 _ ?_; clear h5 k5; clear h3 k3
    refine awp_le (le_keep [9, 14, 15, 16]) ?_
    simp only [kp, argSl, simprocAttr]
    obtain rfl : i = (Pl.grW l w).length := by omega
    rw [List.take_of_length_le (Nat.le_refl _)]
    have r1 := Pl.scS_nn l.length w.block w.plan
    have r2 := Pl.pas_nn w.bits
    have r3 : 0 ≤ Pl.raS l.length w.bits w.block w.plan ∧ Pl.raS l.length w.bits w.block w.plan ≤ 40000 * 33 := by
     unfold Pl.raS; split
     ·exact ⟨Int.mul_nonneg r1.1 r2.1, Pl.mul_up r1.2 (by omega) r2.1 (by omega)⟩
     ·omega
    have r4 := Pl.ordS_up l.length w.plan
    have r5 : 0 ≤ Pl.whS l.length w.block w.plan ∧ Pl.whS l.length w.block w.plan ≤ 60000 := by unfold Pl.whS; split <;> omega
    refine awp_sr [80, 86] (by rw [hC]; rfl) fun k hk => ?_
    simp (maxSteps := 9^9) (disch := (try simp only [lens]); omega) only [argSl, sm, ↓amb, mark_eq, simprocAttr, dx]
    repeat refine an ?_
    refine hk _ ?_; clear hk k
    refine awp_ret ?_
    rw [show Pl.grK l w = Pl.sortedL (Pl.grS l w) (Pl.grW l w) from if_pos he0, show Pl.grC l w = Pl.cntG l.length (Pl.grW l w) (Pl.grW l w).length from if_pos he0, show Pl.grT l.length w = Pl.raS l.length w.bits w.block w.plan + Pl.whS l.length w.block w.plan from if_pos he0, he0]
    refine ret4 rfl rfl rfl rfl rfl ?_ ?_ ?_ ?_
    ·exact .ownE rfl rfl
    ·exact .ownE rfl rfl
    ·exact .p (LeP.refl _)
    ·exact .p (LeP.refl _)
set_option maxHeartbeats 4000000 in
theorem c_dedup_Once (c d : Bool) (l : List Int) (w : Pl.Way) (hl : ∀ x, x ∈ l → Pl.W32 x) (hn : l.length ≤ 1000000) : PCall Try.prog 25 [words c l, .agg (wayC d w)] (.tup [words false (Pl.grK l w), iV (Pl.grT l.length w), iV (Pl.grE l.length w)]) := by
 refine pcall_of_awp Try.func25 rfl (by simp [Try.ntmps25]) fun C hC => ?_
 refine awp_le (le_keep [0, 1]) ?_
 simp only [kp, argSl, simprocAttr]
 refine awp_sr [] (by rw [hC]; rfl) fun k hk => ?_
 simp (maxSteps := 9^9) (disch := (try simp only [lens]); omega) only [argSl, sm, ↓amb, mark_eq, simprocAttr, dx]
 repeat refine an ?_
 refine hk _ ?_; clear hk k
 refine awp_le (le_keep [0, 3]) ?_
 simp only [kp, argSl, simprocAttr]
 refine awp_sr [] (by rw [hC]; rfl) fun k hk => ?_
 simp (maxSteps := 9^9) (disch := (try simp only [lens]); omega) only [argSl, sm, ↓amb, mark_eq, simprocAttr, sz47, en23, dx]
 repeat refine an ?_
 refine callK_p (c_dedup_Groups c d l w hl hn) rfl ?_
 simp (maxSteps := 9^9) (disch := (try simp only [lens]); omega) only [argSl, sm, ↓amb, mark_eq, simprocAttr, sz47, en23, dx]
 repeat refine an ?_
 refine hk _ ?_; clear hk k
 refine awp_le (le_keep [7, 9, 10]) ?_
 simp only [kp, argSl, simprocAttr]
 refine awp_sr [] (by rw [hC]; rfl) fun k hk => ?_
 simp (maxSteps := 9^9) (disch := (try simp only [lens]); omega) only [argSl, sm, ↓amb, mark_eq, simprocAttr, dx]
 repeat refine an ?_
 refine hk _ ?_; clear hk k
 refine awp_ret ?_
 refine ret3 rfl rfl rfl rfl ?_ ?_ ?_
 ·exact .p (LeP.refl _)
 ·exact .p (LeP.refl _)
 ·exact .p (LeP.refl _)
end Go.Proofs.Ytbehekmnccoifaa
end
