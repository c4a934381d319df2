/-
  Cells, each for itself.
-/
import Derived.Test.YthelnccjcbnjfaaXB
import Derived.Test.YthelnccjcbnjfaaPC
set_option linter.unusedSimpArgs false
set_option linter.unusedVariables false
set_option maxRecDepth 100000
namespace Go.Proofs.Ythelnccjcbnjfaa
open Go.Am Go.Proofs
theorem by28 : tBytes Try.prog 28 = some 4 := by kernel_rfl
theorem el22 : tEl Try.prog 22 = some 28 := by kernel_rfl
theorem en18 : enters Try.prog 18 = true := by kernel_rfl
theorem en20 : enters Try.prog 20 = true := by kernel_rfl
theorem en52 : enters Try.prog 52 = true := by kernel_rfl
theorem en53 : enters Try.prog 53 = true := by kernel_rfl
theorem en60 : enters Try.prog 60 = true := by kernel_rfl
theorem en73 : enters Try.prog 73 = true := by kernel_rfl
theorem en74 : enters Try.prog 74 = true := by kernel_rfl
theorem sz22 : tSz Try.prog 22 = some (false, 1) := by kernel_rfl
theorem sz28 : tSz Try.prog 28 = some (false, 1) := by kernel_rfl
theorem sz73 : tSz Try.prog 73 = some (false, 1) := by kernel_rfl
theorem vr22 : tVar Try.prog 22 = some (false, [.seq true []]) := by kernel_rfl
theorem vr28 : tVar Try.prog 28 = some (false, [.lit (.int .u32 0)]) := by kernel_rfl
set_option maxHeartbeats 4000000 in
theorem c_fill_One (x op y : Int) (hx : Pl.W32 x) (hy : Pl.W32 y) : PCall Try.prog 20 [u32V x, iV op, u32V y] (u32V (Pl.one x op y)) := by
 refine pcall_of_awp Try.func20 rfl (by simp [Try.ntmps20]) fun C hC => ?_
 refine awp_sr [] (by rw [hC]; rfl) fun k hk => ?_
 simp (maxSteps := 9^9) (disch := (try simp only [lens]); omega) only [argSl, sm, ↓amb, mark_eq, simprocAttr, wr_u32, dx]
 repeat refine ⟨by first | omega | (simp; done) | (unfold maxLen; omega) | (simp [maxLen]; omega) | assumption, ?_⟩
 refine hk _ ?_; clear hk k
 refine awp_seq fun k1 h1 => ?_
 refine awp_sr [] (by rw [hC]; rfl) fun k hk => ?_
 simp (maxSteps := 9^9) (disch := (try simp only [lens]); omega) only [argSl, sm, ↓amb, mark_eq, simprocAttr, wr_u32, dx]
 repeat refine ⟨by first | omega | (simp; done) | (unfold maxLen; omega) | (simp [maxLen]; omega) | assumption, ?_⟩
 refine hk _ ?_; clear hk k
 refine awp_block ?_
 refine awp_sr [] (by rw [hC]; rfl) fun k hk => ?_
 simp (maxSteps := 9^9) (disch := (try simp only [lens]); omega) only [argSl, sm, ↓amb, mark_eq, simprocAttr, wr_u32, dx]
 repeat refine ⟨by first | omega | (simp; done) | (unfold maxLen; omega) | (simp [maxLen]; omega) | assumption, ?_⟩
 refine hk _ ?_; clear hk k
 refine awp_cond rfl (fun hb => ?_) (fun hb => ?_)
 ·try simp only [hbx] at hb
  refine awp_sr [] (by rw [hC]; rfl) fun k hk => ?_
  simp (maxSteps := 9^9) (disch := (try simp only [lens]); omega) only [argSl, sm, ↓amb, mark_eq, simprocAttr, wr_u32, dx]
  repeat refine ⟨by first | omega | (simp; done) | (unfold maxLen; omega) | (simp [maxLen]; omega) | assumption, ?_⟩
  refine hk _ ?_; clear hk k
  refine awp_ret ?_
  rw [Pl.one_1 hb]
  refine ret1 rfl rfl ?_
  exact .p (LeP.of_eq (by rfl))
 ·try simp only [hbx] at hb
  have n1 := hb
  refine awp_sr [] (by rw [hC]; rfl) fun k hk => ?_
  simp (maxSteps := 9^9) (disch := (try simp only [lens]); omega) only [argSl, sm, ↓amb, mark_eq, simprocAttr, wr_u32, dx]
  repeat refine ⟨by first | omega | (simp; done) | (unfold maxLen; omega) | (simp [maxLen]; omega) | assumption, ?_⟩
  refine hk _ ?_; clear hk k
  refine awp_cond rfl (fun hb => ?_) (fun hb => ?_)
  ·try simp only [hbx] at hb
   refine awp_sr [] (by rw [hC]; rfl) fun k hk => ?_
   simp (maxSteps := 9^9) (disch := (try simp only [lens]); omega) only [argSl, sm, ↓amb, mark_eq, simprocAttr, wr_u32, dx]
   repeat refine ⟨by first | omega | (simp; done) | (unfold maxLen; omega) | (simp [maxLen]; omega) | assumption, ?_⟩
   refine hk _ ?_; clear hk k
   refine awp_ret ?_
   rw [Pl.one_2 hb]
   refine ret1 rfl rfl ?_
   exact .p (LeP.of_eq (by rfl))
  ·try simp only [hbx] at hb
   have n2 := hb
   refine awp_sr [] (by rw [hC]; rfl) fun k hk => ?_
   simp (maxSteps := 9^9) (disch := (try simp only [lens]); omega) only [argSl, sm, ↓amb, mark_eq, simprocAttr, wr_u32, dx]
   repeat refine ⟨by first | omega | (simp; done) | (unfold maxLen; omega) | (simp [maxLen]; omega) | assumption, ?_⟩
   refine hk _ ?_; clear hk k
   refine awp_cond rfl (fun hb => ?_) (fun hb => ?_)
   ·try simp only [hbx] at hb
    refine awp_sr [] (by rw [hC]; rfl) fun k hk => ?_
    simp (maxSteps := 9^9) (disch := (try simp only [lens]); omega) only [argSl, sm, ↓amb, mark_eq, simprocAttr, wr_u32, dx]
    repeat refine ⟨by first | omega | (simp; done) | (unfold maxLen; omega) | (simp [maxLen]; omega) | assumption, ?_⟩
    refine hk _ ?_; clear hk k
    refine awp_ret ?_
    rw [Pl.one_3 hb]
    refine ret1 rfl rfl ?_
    exact .p (LeP.of_eq (by rfl))
   ·try simp only [hbx] at hb
    have n3 := hb
    refine awp_sr [] (by rw [hC]; rfl) fun k hk => ?_
    simp (maxSteps := 9^9) (disch := (try simp only [lens]); omega) only [argSl, sm, ↓amb, mark_eq, simprocAttr, wr_u32, dx]
    repeat refine ⟨by first | omega | (simp; done) | (unfold maxLen; omega) | (simp [maxLen]; omega) | assumption, ?_⟩
    refine hk _ ?_; clear hk k
    refine awp_cond rfl (fun hb => ?_) (fun hb => ?_)
    ·try simp only [hbx] at hb
     refine awp_sr [] (by rw [hC]; rfl) fun k hk => ?_
     simp (maxSteps := 9^9) (disch := (try simp only [lens]); omega) only [argSl, sm, ↓amb, mark_eq, simprocAttr, wr_u32, dx]
     repeat refine ⟨by first | omega | (simp; done) | (unfold maxLen; omega) | (simp [maxLen]; omega) | assumption, ?_⟩
     refine hk _ ?_; clear hk k
     refine awp_ret ?_
     rw [Pl.one_4 hb]
     refine ret1 rfl rfl ?_
     exact .p (LeP.of_eq (by rfl))
    ·try simp only [hbx] at hb
     have n4 := hb
     refine awp_sr [] (by rw [hC]; rfl) fun k hk => ?_
     simp (maxSteps := 9^9) (disch := (try simp only [lens]); omega) only [argSl, sm, ↓amb, mark_eq, simprocAttr, wr_u32, dx]
     repeat refine ⟨by first | omega | (simp; done) | (unfold maxLen; omega) | (simp [maxLen]; omega) | assumption, ?_⟩
     refine hk _ ?_; clear hk k
     refine awp_cond rfl (fun hb => ?_) (fun hb => ?_)
     ·try simp only [hbx] at hb
      refine awp_sr [] (by rw [hC]; rfl) fun k hk => ?_
      simp (maxSteps := 9^9) (disch := (try simp only [lens]); omega) only [argSl, sm, ↓amb, mark_eq, simprocAttr, wr_u32, dx]
      repeat refine ⟨by first | omega | (simp; done) | (unfold maxLen; omega) | (simp [maxLen]; omega) | assumption, ?_⟩
      refine hk _ ?_; clear hk k
      refine awp_ret ?_
      rw [Pl.one_5 hb]
      refine ret1 rfl rfl ?_
      exact .p (LeP.of_eq (by rfl))
     ·try simp only [hbx] at hb
      have n5 := hb
      refine awp_sr [] (by rw [hC]; rfl) fun k hk => ?_
      simp (maxSteps := 9^9) (disch := (try simp only [lens]); omega) only [argSl, sm, ↓amb, mark_eq, simprocAttr, wr_u32, dx]
      repeat refine ⟨by first | omega | (simp; done) | (unfold maxLen; omega) | (simp [maxLen]; omega) | assumption, ?_⟩
      refine hk _ ?_; clear hk k
      refine awp_cond rfl (fun hb => ?_) (fun hb => ?_)
      ·try simp only [hbx] at hb
       have n6 := hb
       refine awp_sr [] (by rw [hC]; rfl) fun k hk => ?_
       simp (maxSteps := 9^9) (disch := (try simp only [lens]); omega) only [argSl, sm, ↓amb, mark_eq, simprocAttr, wr_u32, dx]
       repeat refine ⟨by first | omega | (simp; done) | (unfold maxLen; omega) | (simp [maxLen]; omega) | assumption, ?_⟩
       refine hk _ ?_; clear hk k
       refine awp_cond rfl (fun hb => ?_) (fun hb => ?_)
       ·try simp only [hbx] at hb
        refine awp_sr [] (by rw [hC]; rfl) fun k hk => ?_
        simp (maxSteps := 9^9) (disch := (try simp only [lens]); omega) only [argSl, sm, ↓amb, mark_eq, simprocAttr, wr_u32, dx]
        repeat refine ⟨by first | omega | (simp; done) | (unfold maxLen; omega) | (simp [maxLen]; omega) | assumption, ?_⟩
        refine hk _ ?_; clear hk k
        refine awp_ret ?_
        rw [Pl.one_6 n6, if_pos hb]
        refine ret1 rfl rfl ?_
        exact .p (LeP.of_eq (by rfl))
       ·try simp only [hbx] at hb
        refine awp_skip ?_
        refine h1 _ ?_; clear h1 k1
        try have n7 := hb
        refine awp_sr [] (by rw [hC]; rfl) fun k hk => ?_
        simp (maxSteps := 9^9) (disch := (try simp only [lens]); omega) only [argSl, sm, ↓amb, mark_eq, simprocAttr, wr_u32, dx]
        repeat refine ⟨by first | omega | (simp; done) | (unfold maxLen; omega) | (simp [maxLen]; omega) | assumption, ?_⟩
        refine hk _ ?_; clear hk k
        refine awp_ret ?_
        rw [Pl.one_6 n6, if_neg (by omega)]
        refine ret1 rfl rfl ?_
        exact .p (LeP.of_eq (by rfl))
      ·try simp only [hbx] at hb
       refine awp_skip ?_
       refine h1 _ ?_; clear h1 k1
       have n6 := hb
       refine awp_sr [] (by rw [hC]; rfl) fun k hk => ?_
       simp (maxSteps := 9^9) (disch := (try simp only [lens]); omega) only [argSl, sm, ↓amb, mark_eq, simprocAttr, wr_u32, dx]
       repeat refine ⟨by first | omega | (simp; done) | (unfold maxLen; omega) | (simp [maxLen]; omega) | assumption, ?_⟩
       refine hk _ ?_; clear hk k
       refine awp_ret ?_
       rw [Pl.one_no n1 n2 n3 n4 n5 n6]
       refine ret1 rfl rfl ?_
       exact .p (LeP.of_eq (by rfl))
set_option maxHeartbeats 4000000 in
theorem c_fill_Fill_1 (l : List Int) (op y i : Int) (hl : ∀ x, x ∈ l → Pl.W32 x) (hy : Pl.W32 y) (c : Bool) (hi : 0 ≤ i ∧ i < l.length) : HCall Try.prog 53 [.p (iV i), .ptr 7 1 0 0, .ptr 15 1 0 0, .ptr 23 1 0 0] [(7, .row 1 [[.p (words c l)]]), (15, .row 1 [[.p (iV op)]]), (23, .row 1 [[.p (u32V y)]])] (.p (u32V (Pl.one (l.getD i.toNat 0) op y))) [(7, .row 1 [[.p (words c l)]]), (15, .row 1 [[.p (iV op)]]), (23, .row 1 [[.p (u32V y)]])] := by
 refine hcall_of_awp Try.func53 rfl (by simp [Try.ntmps53]) fun C hC => ?_
 refine awp_sr [] (by rw [hC]; rfl) fun k hk => ?_
 simp (maxSteps := 9^9) (disch := (try simp only [lens]); omega) only [argSl, sm, ↓amb, mark_eq, simprocAttr, dx]
 repeat refine ⟨by first | omega | (simp; done) | (unfold maxLen; omega) | (simp [maxLen]; omega) | assumption, ?_⟩
 refine hk _ ?_; clear hk k
 have hw := hl _ (Pl.getD_mem l i.toNat 0 (by omega))
 refine awp_sd [] ⟨[0, 0, 3, 7, 0, 0, 63, 127], [0, 3, 4, 5], [], [], some []⟩ (by rw [hC]; rfl) (by kernel_rfl) (by kernel_rfl) fun k hk => ?_
 simp (maxSteps := 9^9) (disch := (try simp only [lens]); omega) only [argSl, sm, ↓amb, mark_eq, simprocAttr, sz22, el22, sz28, sz3, en20, dx]
 repeat refine ⟨by first | omega | (simp; done) | (unfold maxLen; omega) | (simp [maxLen]; omega) | assumption, ?_⟩
 refine callK_p (c_fill_One _ _ _ hw hy) rfl ?_
 simp (maxSteps := 9^9) (disch := (try simp only [lens]); omega) only [argSl, sm, ↓amb, mark_eq, simprocAttr, sz22, el22, sz28, sz3, en20, dx]
 repeat refine ⟨by first | omega | (simp; done) | (unfold maxLen; omega) | (simp [maxLen]; omega) | assumption, ?_⟩
 refine hk _ ?_; clear hk k
 refine awp_ret ?_
 refine reth1 rfl rfl ?_
 exact le_of [] (by rfl) (by rfl) ⟨⟨_, rfl, .p (.refl _)⟩, trivial⟩ ⟨⟨_, rfl, _, rfl, .one (.cons (.p (.refl _)) .nil)⟩, ⟨_, rfl, _, rfl, .one (.cons (.p (.refl _)) .nil)⟩, ⟨_, rfl, _, rfl, .one (.cons (.p (.refl _)) .nil)⟩, trivial⟩
set_option maxHeartbeats 4000000 in
theorem c_fill_Zip_1 (a b : List Int) (op i : Int) (ha : ∀ x, x ∈ a → Pl.W32 x) (hb' : ∀ x, x ∈ b → Pl.W32 x) (c d : Bool) (hi : 0 ≤ i ∧ i < a.length) (hab : a.length = b.length) : HCall Try.prog 60 [.p (iV i), .ptr 7 1 0 0, .ptr 15 1 0 0, .ptr 23 1 0 0] [(7, .row 1 [[.p (words c a)]]), (15, .row 1 [[.p (iV op)]]), (23, .row 1 [[.p (words d b)]])] (.p (u32V (Pl.one (a.getD i.toNat 0) op (b.getD i.toNat 0)))) [(7, .row 1 [[.p (words c a)]]), (15, .row 1 [[.p (iV op)]]), (23, .row 1 [[.p (words d b)]])] := by
 refine hcall_of_awp Try.func60 rfl (by simp [Try.ntmps60]) fun C hC => ?_
 refine awp_sr [] (by rw [hC]; rfl) fun k hk => ?_
 simp (maxSteps := 9^9) (disch := (try simp only [lens]); omega) only [argSl, sm, ↓amb, mark_eq, simprocAttr, dx]
 repeat refine ⟨by first | omega | (simp; done) | (unfold maxLen; omega) | (simp [maxLen]; omega) | assumption, ?_⟩
 refine hk _ ?_; clear hk k
 have hw := ha _ (Pl.getD_mem a i.toNat 0 (by omega))
 have hz := hb' _ (Pl.getD_mem b i.toNat 0 (by omega))
 refine awp_sd [] ⟨[0, 0, 3, 7, 0, 0, 0, 96, 224, 511, 1023], [0, 3, 4, 5, 8], [], [], some []⟩ (by rw [hC]; rfl) (by kernel_rfl) (by kernel_rfl) fun k hk => ?_
 simp (maxSteps := 9^9) (disch := (try simp only [lens]); omega) only [argSl, sm, ↓amb, mark_eq, simprocAttr, sz22, el22, sz28, sz3, en20, dx]
 repeat refine ⟨by first | omega | (simp; done) | (unfold maxLen; omega) | (simp [maxLen]; omega) | assumption, ?_⟩
 refine callK_p (c_fill_One _ _ _ hw hz) rfl ?_
 simp (maxSteps := 9^9) (disch := (try simp only [lens]); omega) only [argSl, sm, ↓amb, mark_eq, simprocAttr, sz22, el22, sz28, sz3, en20, dx]
 repeat refine ⟨by first | omega | (simp; done) | (unfold maxLen; omega) | (simp [maxLen]; omega) | assumption, ?_⟩
 refine hk _ ?_; clear hk k
 refine awp_ret ?_
 refine reth1 rfl rfl ?_
 exact le_of [] (by rfl) (by rfl) ⟨⟨_, rfl, .p (.refl _)⟩, trivial⟩ ⟨⟨_, rfl, _, rfl, .one (.cons (.p (.refl _)) .nil)⟩, ⟨_, rfl, _, rfl, .one (.cons (.p (.refl _)) .nil)⟩, ⟨_, rfl, _, rfl, .one (.cons (.p (.refl _)) .nil)⟩, trivial⟩
set_option maxHeartbeats 4000000 in
theorem c_fill_cells_1 (F : FuncId) (hen : enters Try.prog F = true) (r1 r2 r3 : PV) (n : Nat) (v : Nat → Int) (S : List Int) (i : Int) (hi : 0 ≤ i ∧ i < n) (hd : ∀ i : Int, 0 ≤ i ∧ i < n → HCall Try.prog F [.p (iV i), .ptr 7 1 0 0, .ptr 15 1 0 0, .ptr 23 1 0 0] [(7, .row 1 [[.p (r1)]]), (15, .row 1 [[.p (r2)]]), (23, .row 1 [[.p (r3)]])] (.p (u32V (v i.toNat))) [(7, .row 1 [[.p (r1)]]), (15, .row 1 [[.p (r2)]]), (23, .row 1 [[.p (r3)]])]) : HCall Try.prog 74 [.p (iV i), .ptr 7 1 0 0, .ptr 15 1 0 0] [(7, .row 1 [[.fn F [.ptr 31 1 0 0, .ptr 39 1 0 0, .ptr 47 1 0 0]]]), (15, .row 1 [[.own 23]]), (23, .row 1 (lift ((Pl.fillL n S v).map fun x => [u32V x]))), (31, .row 1 [[.p r1]]), (39, .row 1 [[.p r2]]), (47, .row 1 [[.p r3]])] (.tup []) [(7, .row 1 [[.fn F [.ptr 31 1 0 0, .ptr 39 1 0 0, .ptr 47 1 0 0]]]), (15, .row 1 [[.own 23]]), (23, .row 1 (lift ((Pl.fillL n (S ++ [i]) v).map fun x => [u32V x]))), (31, .row 1 [[.p r1]]), (39, .row 1 [[.p r2]]), (47, .row 1 [[.p r3]])] := by
 refine hcall_of_awp Try.func74 rfl (by simp [Try.ntmps74]) fun C hC => ?_
 have hfl := Pl.fillL_len n S v
 refine awp_draw [] ⟨[0, 0, 0, 0, 12, 31, 63], [5], [6], [(4, 6)], some [23]⟩ (by rw [hC]; rfl) (by kernel_rfl) (by kernel_rfl) fun k hk => ?_
 simp (maxSteps := 9^9) (disch := (try simp only [lens]); omega) only [argSl, sm, ↓amb, mark_eq, simprocAttr, sz22, sz73, el22, sz28, hen, dx]
 repeat refine ⟨by first | omega | (simp; done) | (unfold maxLen; omega) | (simp [maxLen]; omega) | assumption, ?_⟩
 refine callK_h (hd i hi) [31, 39, 47] [7, 15, 23] (by first | rfl | (simp only [hm]; done)) (by first | rfl | (simp [namesOk, lkp]; done)) ?_ ?_ ?_ ?_ ?_ ?_ ?_
 (iterate 6 (focus (first | trivial | (intro n hn; cases hn; done) | (simp (maxSteps := 9^9) (disch := (try simp only [lens]); omega) only [argSl, sm, ↓amb, mark_eq, simprocAttr, sz22, sz73, el22, sz28, hen, dx, hmx, List.filter_cons, Nat.reduceBNe, imp_self, implies_true]; done))))
 simp (maxSteps := 9^9) (disch := (try simp only [lens]); omega) only [argSl, sm, ↓amb, mark_eq, simprocAttr, sz22, sz73, el22, sz28, hen, dx, hm, List.filter_cons, List.filter_nil, Nat.reduceBNe, Option.map_none]
 repeat refine ⟨by first | omega | (simp; done) | (unfold maxLen; omega) | (simp [maxLen]; omega) | assumption, ?_⟩
 refine hk _ ?_; clear hk k
 refine normH ?_
 refine reth0 rfl ?_
 exact le_of [] (by rfl) (by rfl) ⟨⟨_, rfl, leTup .nil⟩, trivial⟩ ⟨⟨_, rfl, _, rfl, .one (.cons (.fn rfl (LeRow.cons (.ptr rfl) (LeRow.cons (.ptr rfl) (LeRow.cons (.ptr rfl) .nil))).2) .nil)⟩, ⟨_, rfl, _, rfl, .one (.cons (.own rfl) .nil)⟩, ⟨_, rfl, _, rfl, .liftE (by rw [← Pl.fillL_set hi.1 rfl, List.map_set])⟩, ⟨_, rfl, _, rfl, .one (.cons (.p (.refl _)) .nil)⟩, ⟨_, rfl, _, rfl, .one (.cons (.p (.refl _)) .nil)⟩, ⟨_, rfl, _, rfl, .one (.cons (.p (.refl _)) .nil)⟩, trivial⟩
set_option maxHeartbeats 4000000 in
theorem c_fill_phase (c : Bool) (p : Pl.Plan) (F : FuncId) (hen : enters Try.prog F = true) (r1 r2 r3 : PV) (n : Nat) (v : Nat → Int) (hd : ∀ i : Int, 0 ≤ i ∧ i < n → HCall Try.prog F [.p (iV i), .ptr 7 1 0 0, .ptr 15 1 0 0, .ptr 23 1 0 0] [(7, .row 1 [[.p (r1)]]), (15, .row 1 [[.p (r2)]]), (23, .row 1 [[.p (r3)]])] (.p (u32V (v i.toNat))) [(7, .row 1 [[.p (r1)]]), (15, .row 1 [[.p (r2)]]), (23, .row 1 [[.p (r3)]])]) : HCall Try.prog 73 [.p (iV n), .p (.agg (planC c p)), .fn 74 [.ptr 7 1 0 0, .ptr 15 1 0 0]] [(7, .row 1 [[.fn F [.ptr 31 1 0 0, .ptr 39 1 0 0, .ptr 47 1 0 0]]]), (15, .row 1 [[.own 23]]), (23, .row 1 (lift ((Pl.fillL n [] v).map fun x => [u32V x]))), (31, .row 1 [[.p r1]]), (39, .row 1 [[.p r2]]), (47, .row 1 [[.p r3]])] (.tup [.p (iV (Pl.ordS n p)), .p (iV (Pl.ordE n p))]) [(7, .row 1 [[.fn F [.ptr 31 1 0 0, .ptr 39 1 0 0, .ptr 47 1 0 0]]]), (15, .row 1 [[.own 23]]), (23, .row 1 (lift ((Pl.fillL n (Pl.ordU n p) v).map fun x => [u32V x]))), (31, .row 1 [[.p r1]]), (39, .row 1 [[.p r2]]), (47, .row 1 [[.p r3]])] := by
 refine hcall_of_awp Try.func73 rfl (by simp [Try.ntmps73]) fun C hC => ?_
 refine awp_le (le_keep [0, 1, 2]) ?_
 simp only [kp, argSl, simprocAttr]
 refine awp_sr [] (by rw [hC]; rfl) fun k hk => ?_
 simp (maxSteps := 9^9) (disch := (try simp only [lens]); omega) only [argSl, sm, ↓amb, mark_eq, simprocAttr, dx, en74]
 repeat refine ⟨by first | omega | (simp; done) | (unfold maxLen; omega) | (simp [maxLen]; omega) | assumption, ?_⟩
 refine hk _ ?_; clear hk k
 refine awp_le (le_keep [0, 2, 4]) ?_
 simp only [kp, argSl, simprocAttr]
 refine awp_sr [] (by rw [hC]; rfl) fun k hk => ?_
 simp (maxSteps := 9^9) (disch := (try simp only [lens]); omega) only [argSl, sm, ↓amb, mark_eq, simprocAttr, sz26, en18, dx, en74]
 repeat refine ⟨by first | omega | (simp; done) | (unfold maxLen; omega) | (simp [maxLen]; omega) | assumption, ?_⟩
 refine callK_p (c_fill_Order _ _ _) rfl ?_
 simp (maxSteps := 9^9) (disch := (try simp only [lens]); omega) only [argSl, sm, ↓amb, mark_eq, simprocAttr, sz26, en18, dx, en74]
 repeat refine ⟨by first | omega | (simp; done) | (unfold maxLen; omega) | (simp [maxLen]; omega) | assumption, ?_⟩
 refine hk _ ?_; clear hk k
 refine awp_seq fun k1 h1 => ?_
 refine awp_le (le_keep [2, 6, 7, 8, 9, 10]) ?_
 simp only [kp, argSl, simprocAttr]
 have hul := Pl.ordU_len n p
 refine awp_sr [] (by rw [hC]; rfl) fun k hk => ?_
 simp (maxSteps := 9^9) (disch := (try simp only [lens]); omega) only [argSl, sm, ↓amb, mark_eq, simprocAttr, el32, dx, en74]
 repeat refine ⟨by first | omega | (simp; done) | (unfold maxLen; omega) | (simp [maxLen]; omega) | assumption, ?_⟩
 refine hk _ ?_; clear hk k
 refine awp_block ?_
 refine awp_loop (σ := Nat) (fun z => z ≤ (Pl.ordU n p).length) (fun (z : Nat) => ⟨[(2, (.fn 74 [.ptr 7 1 0 0, .ptr 15 1 0 0])), (9, (.p (iV (Pl.ordS n p)))), (10, (.p (iV (Pl.ordE n p)))), (20, (.p (ints false (Pl.ordU n p)))), (21, (.p (iV (Pl.ordU n p).length))), (22, (.p (iV z)))], [(7, (.row 1 [[.fn F [.ptr 31 1 0 0, .ptr 39 1 0 0, .ptr 47 1 0 0]]])), (15, (.row 1 [[.own 23]])), (23, (.row 1 (lift ((Pl.fillL n ((Pl.ordU n p).take z) v).map fun x => [u32V x])))), (31, (.row 1 [[.p r1]])), (39, (.row 1 [[.p r2]])), (47, (.row 1 [[.p r3]]))], 1⟩) (fun z => (Pl.ordU n p).length - z) 0 ?_ ?_ fun z hz => ?_
 ·exact Nat.zero_le _
 ·exact le_of [] (by rfl) (by rfl) ⟨⟨_, rfl, .fn rfl (LeRow.cons (.ptr rfl) (LeRow.cons (.ptr rfl) .nil)).2⟩, ⟨_, rfl, .p (.of_eq (by first | rfl | (simp only [PV.lit.injEq, Value.int.injEq, true_and]; omega) | (simp; done) | (simp; omega)))⟩, ⟨_, rfl, .p (.of_eq (by first | rfl | (simp only [PV.lit.injEq, Value.int.injEq, true_and]; omega) | (simp; done) | (simp; omega)))⟩, ⟨_, rfl, .p (.of_eq (by first | rfl | (simp only [PV.lit.injEq, Value.int.injEq, true_and]; omega) | (simp; done) | (simp; omega)))⟩, ⟨_, rfl, .p (.of_eq (by first | rfl | (simp only [PV.lit.injEq, Value.int.injEq, true_and]; omega) | (simp; done) | (simp; omega)))⟩, ⟨_, rfl, .p (.of_eq (by first | rfl | (simp only [PV.lit.injEq, Value.int.injEq, true_and]; omega) | (simp; done) | (simp; omega)))⟩, trivial⟩ ⟨⟨_, rfl, _, rfl, .one (.cons (.fn rfl (LeRow.cons (.ptr rfl) (LeRow.cons (.ptr rfl) (LeRow.cons (.ptr rfl) .nil))).2) .nil)⟩, ⟨_, rfl, _, rfl, .one (.cons (.own rfl) .nil)⟩, ⟨_, rfl, _, rfl, .liftE (by first | (rw [List.take_zero]; done) | (rw [Pl.take_snoc' _ z (by omega)]))⟩, ⟨_, rfl, _, rfl, .one (.cons (.p (.refl _)) .nil)⟩, ⟨_, rfl, _, rfl, .one (.cons (.p (.refl _)) .nil)⟩, ⟨_, rfl, _, rfl, .one (.cons (.p (.refl _)) .nil)⟩, trivial⟩
 refine awp_le (le_keep [2, 6, 7, 9, 10, 15, 20, 21, 22, 31, 39, 47]) ?_
 simp only [kp, argSl, simprocAttr]
 refine awp_sr [] (by rw [hC]; rfl) fun k hk => ?_
 simp (maxSteps := 9^9) (disch := (try simp only [lens]); omega) only [argSl, sm, ↓amb, mark_eq, simprocAttr, dx, en74]
 repeat refine ⟨by first | omega | (simp; done) | (unfold maxLen; omega) | (simp [maxLen]; omega) | assumption, ?_⟩
 refine hk _ ?_; clear hk k
 refine awp_seq fun k3 h3 => ?_
 refine awp_cond rfl (fun hb => ?_) (fun hb => ?_)
 ·try simp only [hbx] at hb
  refine awp_skip ?_
  refine h3 _ ?_; clear h3 k3
  refine awp_seq fun k4 h4 => ?_
  refine awp_block ?_
  refine awp_le (le_keep [2, 6, 7, 9, 10, 15, 20, 21, 22, 23, 31, 39, 47]) ?_
  simp only [kp, argSl, simprocAttr]
  refine awp_sr [] (by rw [hC]; rfl) fun k hk => ?_
  simp (maxSteps := 9^9) (disch := (try simp only [lens]); omega) only [argSl, sm, ↓amb, mark_eq, simprocAttr, el32, sz3, dx, en74]
  repeat refine ⟨by first | omega | (simp; done) | (unfold maxLen; omega) | (simp [maxLen]; omega) | assumption, ?_⟩
  refine hk _ ?_; clear hk k
  have hki := Pl.ordU_mem (Pl.getD_mem (Pl.ordU n p) z 0 (by omega))
  refine awp_region [] (by rw [hC]; rfl) fun k hk => ?_
  simp (maxSteps := 9^9) (disch := (try simp only [lens]); omega) only [argSl, sm, ↓amb, mark_eq, simprocAttr, dx, en74]
  repeat refine ⟨by first | omega | (simp; done) | (unfold maxLen; omega) | (simp [maxLen]; omega) | assumption, ?_⟩
  refine callK_h (c_fill_cells_1 F hen r1 r2 r3 n v ((Pl.ordU n p).take z) _ hki hd) [7, 15, 23, 31, 39, 47] [7, 15, 31, 39, 47] (by first | rfl | (simp only [hm]; done)) (by first | rfl | (simp [namesOk, lkp]; done)) ?_ ?_ ?_ ?_ ?_ ?_ ?_
  (iterate 6 (focus (first | trivial | (intro n hn; cases hn; done) | (simp (maxSteps := 9^9) (disch := (try simp only [lens]); omega) only [argSl, sm, ↓amb, mark_eq, simprocAttr, dx, en74, hmx, List.filter_cons, Nat.reduceBNe, imp_self, implies_true]; done))))
  simp (maxSteps := 9^9) (disch := (try simp only [lens]); omega) only [argSl, sm, ↓amb, mark_eq, simprocAttr, dx, en74, hm, List.filter_cons, List.filter_nil, Nat.reduceBNe, Option.map_none]
  repeat refine ⟨by first | omega | (simp; done) | (unfold maxLen; omega) | (simp [maxLen]; omega) | assumption, ?_⟩
  refine hk _ ?_; clear hk k
  refine h4 _ ?_; clear h4 k4
  refine awp_region [] (by rw [hC]; rfl) fun k hk => ?_
  simp (maxSteps := 9^9) (disch := (try simp only [lens]); omega) only [argSl, sm, ↓amb, mark_eq, simprocAttr, dx, en74]
  repeat refine ⟨by first | omega | (simp; done) | (unfold maxLen; omega) | (simp [maxLen]; omega) | assumption, ?_⟩
  refine hk _ ?_; clear hk k
  refine ⟨z + 1, by omega, le_of [] (by rfl) (by rfl) ⟨⟨_, rfl, .fn rfl (LeRow.cons (.ptr rfl) (LeRow.cons (.ptr rfl) .nil)).2⟩, ⟨_, rfl, .p (.of_eq (by first | rfl | (simp only [PV.lit.injEq, Value.int.injEq, true_and]; omega) | (simp; done) | (simp; omega)))⟩, ⟨_, rfl, .p (.of_eq (by first | rfl | (simp only [PV.lit.injEq, Value.int.injEq, true_and]; omega) | (simp; done) | (simp; omega)))⟩, ⟨_, rfl, .p (.of_eq (by first | rfl | (simp only [PV.lit.injEq, Value.int.injEq, true_and]; omega) | (simp; done) | (simp; omega)))⟩, ⟨_, rfl, .p (.of_eq (by first | rfl | (simp only [PV.lit.injEq, Value.int.injEq, true_and]; omega) | (simp; done) | (simp; omega)))⟩, ⟨_, rfl, .p (.of_eq (by first | rfl | (simp only [PV.lit.injEq, Value.int.injEq, true_and]; omega) | (simp; done) | (simp; omega)))⟩, trivial⟩ ⟨⟨_, rfl, _, rfl, .one (.cons (.fn rfl (LeRow.cons (.ptr rfl) (LeRow.cons (.ptr rfl) (LeRow.cons (.ptr rfl) .nil))).2) .nil)⟩, ⟨_, rfl, _, rfl, .one (.cons (.own rfl) .nil)⟩, ⟨_, rfl, _, rfl, .liftE (by first | (rw [List.take_zero]; done) | (rw [Pl.take_snoc' _ z (by omega)]))⟩, ⟨_, rfl, _, rfl, .one (.cons (.p (.refl _)) .nil)⟩, ⟨_, rfl, _, rfl, .one (.cons (.p (.refl _)) .nil)⟩, ⟨_, rfl, _, rfl, .one (.cons (.p (.refl _)) .nil)⟩, trivial⟩, by omega⟩
 ·try simp only [hbx] at hb
  refine awp_exit ((if_pos rfl).mpr ?_)
  refine h1 _ ?_; clear h3 k3; clear h1 k1
  refine awp_le (le_keep [9, 10]) ?_
  simp only [kp, argSl, simprocAttr]
  have htk : (Pl.ordU n p).take z = (Pl.ordU n p) := List.take_of_length_le (by omega)
  rw [htk]
  refine awp_sr [] (by rw [hC]; rfl) fun k hk => ?_
  simp (maxSteps := 9^9) (disch := (try simp only [lens]); omega) only [argSl, sm, ↓amb, mark_eq, simprocAttr, dx, en74]
  repeat refine ⟨by first | omega | (simp; done) | (unfold maxLen; omega) | (simp [maxLen]; omega) | assumption, ?_⟩
  refine hk _ ?_; clear hk k
  refine awp_ret ?_
  refine reth2 rfl rfl rfl ?_
  exact le_of [] (by rfl) (by rfl) ⟨⟨_, rfl, leTup (LeRow.cons (.p (.refl _)) (LeRow.cons (.p (.refl _)) .nil))⟩, trivial⟩ ⟨⟨_, rfl, _, rfl, .one (.cons (.fn rfl (LeRow.cons (.ptr rfl) (LeRow.cons (.ptr rfl) (LeRow.cons (.ptr rfl) .nil))).2) .nil)⟩, ⟨_, rfl, _, rfl, .one (.cons (.own rfl) .nil)⟩, ⟨_, rfl, _, rfl, .liftE rfl⟩, ⟨_, rfl, _, rfl, .one (.cons (.p (.refl _)) .nil)⟩, ⟨_, rfl, _, rfl, .one (.cons (.p (.refl _)) .nil)⟩, ⟨_, rfl, _, rfl, .one (.cons (.p (.refl _)) .nil)⟩, trivial⟩
set_option maxHeartbeats 4000000 in
theorem c_fill_cells (c : Bool) (op : Int) (p : Pl.Plan) (F : FuncId) (hen : enters Try.prog F = true) (r1 r2 r3 : PV) (n : Nat) (v : Nat → Int) (hn : n ≤ 1000000) (hd : ∀ i : Int, 0 ≤ i ∧ i < n → HCall Try.prog F [.p (iV i), .ptr 7 1 0 0, .ptr 15 1 0 0, .ptr 23 1 0 0] [(7, .row 1 [[.p (r1)]]), (15, .row 1 [[.p (r2)]]), (23, .row 1 [[.p (r3)]])] (.p (u32V (v i.toNat))) [(7, .row 1 [[.p (r1)]]), (15, .row 1 [[.p (r2)]]), (23, .row 1 [[.p (r3)]])]) : HCall Try.prog 52 [.p (iV n), .p (iV op), .p (.agg (planC c p)), .fn F [.ptr 7 1 0 0, .ptr 15 1 0 0, .ptr 23 1 0 0]] [(7, .row 1 [[.p (r1)]]), (15, .row 1 [[.p (r2)]]), (23, .row 1 [[.p (r3)]])] (.tup [.p (words false (Pl.celL n v op p)), .p (iV (Pl.celS n op p)), .p (iV (Pl.celE n op p))]) [(7, .row 1 [[.p (r1)]]), (15, .row 1 [[.p (r2)]]), (23, .row 1 [[.p (r3)]])] := by
 refine hcall_of_awp Try.func52 rfl (by simp [Try.ntmps52]) fun C hC => ?_
 refine awp_le (le_keep [0, 1, 2, 3]) ?_
 simp only [kp, argSl, simprocAttr]
 refine awp_sr [] (by rw [hC]; rfl) fun k hk => ?_
 simp (maxSteps := 9^9) (disch := (try simp only [lens]); omega) only [argSl, sm, ↓amb, mark_eq, simprocAttr, hen, dx, en74, en73]
 repeat refine ⟨by first | omega | (simp; done) | (unfold maxLen; omega) | (simp [maxLen]; omega) | assumption, ?_⟩
 refine hk _ ?_; clear hk k
 refine awp_seq fun k1 h1 => ?_
 refine awp_test [] 19 (decide (¬ Pl.opOk op)) [0, 6, 7, 8, 9, 10] (by rw [hC]; rfl) (fun gd hgd k hk => ?_) ?_
 ·have g2 : gd 2 = some 16 := by rw [hgd]; rfl
  clear hgd
  simp (maxSteps := 9^9) (disch := (try simp only [lens]); omega) only [argSl, sm, ↓amb, mark_eq, simprocAttr, gcase_undef, g2, hen, dx, en74, en73]
  repeat' first | refine hk _ _ rfl rfl rfl rfl ?_ | (refine gsplit (fun hg => ?_) (fun hg => ?_) <;> (try simp only [hbx] at hg) <;> simp (maxSteps := 9^9) (disch := (try simp only [lens]); omega) only [argSl, sm, ↓amb, mark_eq, simprocAttr, gcase_undef, g2, hen, dx, en74, en73]) | apply And.intro | fail
  all_goals first | rfl | omega | exact (decide_eq_true (by (try simp only [Pl.opOk] at *); omega)).symm | exact (decide_eq_false (by (try simp only [Pl.opOk] at *); omega)).symm | exact decide_eq_decide.mpr (by (try simp only [Pl.opOk] at *); omega) | (refine Bool.eq_iff_iff.mpr ?_; (try simp only [Pl.opOk] at *); simp only [beq_iff_eq, bne_iff_ne, ne_eq, decide_eq_true_eq]; omega) | (refine Bool.eq_iff_iff.mpr ?_; simp only [Bool.not_eq_true', Bool.not_eq_false', decide_eq_false_iff_not, decide_eq_true_eq, beq_iff_eq, bne_iff_ne, ne_eq]; (try simp only [Pl.opOk] at *); omega) | assumption | (simp; done) | (simp [maxLen]; omega) | skip
 simp only [kp, argSl, simprocAttr, List.length_cons, List.length_nil]
 refine awp_cond rfl (fun hb => ?_) (fun hb => ?_)
 ·try simp only [hbx] at hb
  refine awp_le (le_keep []) ?_
  simp only [kp, argSl, simprocAttr]
  refine awp_sr [] (by rw [hC]; rfl) fun k hk => ?_
  simp (maxSteps := 9^9) (disch := (try simp only [lens]); omega) only [argSl, sm, ↓amb, mark_eq, simprocAttr, hen, dx, en74, en73]
  repeat refine ⟨by first | omega | (simp; done) | (unfold maxLen; omega) | (simp [maxLen]; omega) | assumption, ?_⟩
  refine hk _ ?_; clear hk k
  refine awp_ret ?_
  have e1 : Pl.celE n op p = 1 := if_neg (by first | exact hb | simpa using hb)
  have e2 : Pl.celL n v op p = [] := if_neg (by rw [e1]; decide)
  have e3 : Pl.celS n op p = 0 := if_neg (by rw [e1]; decide)
  rw [e1, e2, e3]
  refine reth3 rfl rfl rfl rfl ?_
  exact le_of [] (by rfl) (by rfl) ⟨⟨_, rfl, leTup (LeRow.cons (.p (LeP.seq _ _)) (LeRow.cons (.p (.refl _)) (LeRow.cons (.p (.refl _)) .nil)))⟩, trivial⟩ ⟨⟨_, rfl, _, rfl, .one (.cons (.p (.refl _)) .nil)⟩, ⟨_, rfl, _, rfl, .one (.cons (.p (.refl _)) .nil)⟩, ⟨_, rfl, _, rfl, .one (.cons (.p (.refl _)) .nil)⟩, trivial⟩
 ·try simp only [hbx] at hb
  refine awp_skip ?_
  refine h1 _ ?_; clear h1 k1
  refine awp_le (le_keep [0, 6, 7]) ?_
  simp only [kp, argSl, simprocAttr]
  have hop : Pl.opOk op := by first | exact hb | (simpa using hb)
  refine awp_sr [] (by rw [hC]; rfl) fun k hk => ?_
  simp (maxSteps := 9^9) (disch := (try simp only [lens]); omega) only [argSl, sm, ↓amb, mark_eq, simprocAttr, el22, by28, vr28, vr22, sz22, hen, dx, en74, en73]
  repeat refine ⟨by first | omega | (simp; done) | (unfold maxLen; omega) | (simp [maxLen]; omega) | assumption, ?_⟩
  refine hk _ ?_; clear hk k
  refine awp_le (le_keep [0, 6, 7, 11]) ?_
  simp only [kp, argSl, simprocAttr]
  rw [show List.replicate n [(PV.lit (.int .u32 0))] = (Pl.fillL n [] v).map (fun x => [u32V x]) from by rw [Pl.fillL_nil, List.map_replicate]]
  refine awp_sr [] (by rw [hC]; rfl) fun k hk => ?_
  simp (maxSteps := 9^9) (disch := (try simp only [lens]); omega) only [argSl, sm, ↓amb, mark_eq, simprocAttr, sz26, en73, hen, dx, en74, en73]
  repeat refine ⟨by first | omega | (simp; done) | (unfold maxLen; omega) | (simp [maxLen]; omega) | assumption, ?_⟩
  refine callK_h (c_fill_phase c p F hen r1 r2 r3 n v hd) [8, 104, 96, 7, 15, 23] [7, 15, 31, 39, 47] (by first | rfl | (simp only [hm]; done)) (by first | rfl | (simp [namesOk, lkp]; done)) ?_ ?_ ?_ ?_ ?_ ?_ ?_
  (iterate 6 (focus (first | trivial | (intro n hn; cases hn; done) | (simp (maxSteps := 9^9) (disch := (try simp only [lens]); omega) only [argSl, sm, ↓amb, mark_eq, simprocAttr, sz26, en73, hen, dx, en74, en73, hmx, List.filter_cons, Nat.reduceBNe, imp_self, implies_true]; done))))
  simp (maxSteps := 9^9) (disch := (try simp only [lens]); omega) only [argSl, sm, ↓amb, mark_eq, simprocAttr, sz26, en73, hen, dx, en74, en73, hm, List.filter_cons, List.filter_nil, Nat.reduceBNe, Option.map_none]
  repeat refine ⟨by first | omega | (simp; done) | (unfold maxLen; omega) | (simp [maxLen]; omega) | assumption, ?_⟩
  refine hk _ ?_; clear hk k
  refine awp_seq fun k2 h2 => ?_
  refine awp_le (le_keep [8, 9, 10, 11, 12, 13]) ?_
  simp only [kp, argSl, simprocAttr]
  refine awp_sr [] (by rw [hC]; rfl) fun k hk => ?_
  simp (maxSteps := 9^9) (disch := (try simp only [lens]); omega) only [argSl, sm, ↓amb, mark_eq, simprocAttr, hen, dx, en74, en73]
  repeat refine ⟨by first | omega | (simp; done) | (unfold maxLen; omega) | (simp [maxLen]; omega) | assumption, ?_⟩
  refine hk _ ?_; clear hk k
  refine awp_cond rfl (fun hb => ?_) (fun hb => ?_)
  ·try simp only [hbx] at hb
   refine awp_le (le_keep [13]) ?_
   simp only [kp, argSl, simprocAttr]
   have he : Pl.celE n op p ≠ 0 := by unfold Pl.celE; rw [if_pos hop]; exact hb
   refine awp_sr [] (by rw [hC]; rfl) fun k hk => ?_
   simp (maxSteps := 9^9) (disch := (try simp only [lens]); omega) only [argSl, sm, ↓amb, mark_eq, simprocAttr, hen, dx, en74, en73]
   repeat refine ⟨by first | omega | (simp; done) | (unfold maxLen; omega) | (simp [maxLen]; omega) | assumption, ?_⟩
   refine hk _ ?_; clear hk k
   refine awp_ret ?_
   have e1 : Pl.celE n op p = Pl.ordE n p := if_pos hop
   have e2 : Pl.celL n v op p = [] := if_neg he
   have e3 : Pl.celS n op p = 0 := if_neg he
   rw [e1, e2, e3]
   refine reth3 rfl rfl rfl rfl ?_
   exact le_of [] (by rfl) (by rfl) ⟨⟨_, rfl, leTup (LeRow.cons (.p (LeP.seq _ _)) (LeRow.cons (.p (.refl _)) (LeRow.cons (.p (.refl _)) .nil)))⟩, trivial⟩ ⟨⟨_, rfl, _, rfl, .one (.cons (.p (.refl _)) .nil)⟩, ⟨_, rfl, _, rfl, .one (.cons (.p (.refl _)) .nil)⟩, ⟨_, rfl, _, rfl, .one (.cons (.p (.refl _)) .nil)⟩, trivial⟩
  ·try simp only [hbx] at hb
   refine awp_skip ?_
   refine h2 _ ?_; clear h2 k2
   refine awp_le (le_keep [11, 12]) ?_
   simp only [kp, argSl, simprocAttr]
   have he0 := hb
   refine awp_sr [] (by rw [hC]; rfl) fun k hk => ?_
   simp (maxSteps := 9^9) (disch := (try simp only [lens]); omega) only [argSl, sm, ↓amb, mark_eq, simprocAttr, sz22, hen, dx, en74, en73]
   repeat refine ⟨by first | omega | (simp; done) | (unfold maxLen; omega) | (simp [maxLen]; omega) | assumption, ?_⟩
   refine hk _ ?_; clear hk k
   refine awp_ret ?_
   have e1 : Pl.celE n op p = 0 := by unfold Pl.celE; rw [if_pos hop]; exact he0
   have e2 : Pl.celL n v op p = (List.range n).map v := if_pos e1
   have e3 : Pl.celS n op p = Pl.ordS n p := if_pos e1
   rw [e1, e2, e3, ← Pl.fill_ord (Pl.ordE_iff.1 he0) v]
   refine reth3 rfl rfl rfl rfl ?_
   exact le_of [] (by rfl) (by rfl) ⟨⟨_, rfl, leTup (LeRow.cons (.frz rfl (by rfl)) (LeRow.cons (.p (.refl _)) (LeRow.cons (.p (.refl _)) .nil)))⟩, trivial⟩ ⟨⟨_, rfl, _, rfl, .one (.cons (.p (.refl _)) .nil)⟩, ⟨_, rfl, _, rfl, .one (.cons (.p (.refl _)) .nil)⟩, ⟨_, rfl, _, rfl, .one (.cons (.p (.refl _)) .nil)⟩, trivial⟩
set_option maxHeartbeats 4000000 in
theorem c_fill_Fill (c d : Bool) (l : List Int) (op y : Int) (p : Pl.Plan) (hl : ∀ x, x ∈ l → Pl.W32 x) (hy : Pl.W32 y) (hn : l.length ≤ 1000000) : PCall Try.prog 16 [words c l, iV op, u32V y, .agg (planC d p)] (.tup [words false (Pl.celL l.length (fun j => Pl.one (l.getD j 0) op y) op p), iV (Pl.celS l.length op p), iV (Pl.celE l.length op p)]) := by
 refine pcall_of_awp Try.func16 rfl (by simp [Try.ntmps16]) fun C hC => ?_
 refine awp_le (le_keep [0, 1, 2, 3]) ?_
 simp only [kp, argSl, simprocAttr]
 refine awp_sr [] (by rw [hC]; rfl) fun k hk => ?_
 simp (maxSteps := 9^9) (disch := (try simp only [lens]); omega) only [argSl, sm, ↓amb, mark_eq, simprocAttr, dx, en52, en53]
 repeat refine ⟨by first | omega | (simp; done) | (unfold maxLen; omega) | (simp [maxLen]; omega) | assumption, ?_⟩
 refine hk _ ?_; clear hk k
 refine awp_le (le_keep [4, 5, 6, 7]) ?_
 simp only [kp, argSl, simprocAttr]
 refine awp_sr [] (by rw [hC]; rfl) fun k hk => ?_
 simp (maxSteps := 9^9) (disch := (try simp only [lens]); omega) only [argSl, sm, ↓amb, mark_eq, simprocAttr, sz22, el22, sz3, sz26, en52, dx, en52, en53]
 repeat refine ⟨by first | omega | (simp; done) | (unfold maxLen; omega) | (simp [maxLen]; omega) | assumption, ?_⟩
 refine callK_h (c_fill_cells d op p 53 en53 (words c l) (iV op) (u32V y) l.length (fun j => Pl.one (l.getD j 0) op y) hn (fun i hi => c_fill_Fill_1 l op y i hl hy c hi)) [0, 8, 16] [7, 15, 23] (by first | rfl | (simp only [hm]; done)) (by first | rfl | (simp [namesOk, lkp]; done)) ?_ ?_ ?_ ?_ ?_ ?_ ?_
 (iterate 6 (focus (first | trivial | (intro n hn; cases hn; done) | (simp (maxSteps := 9^9) (disch := (try simp only [lens]); omega) only [argSl, sm, ↓amb, mark_eq, simprocAttr, sz22, el22, sz3, sz26, en52, dx, en52, en53, hmx, List.filter_cons, Nat.reduceBNe, imp_self, implies_true]; done))))
 simp (maxSteps := 9^9) (disch := (try simp only [lens]); omega) only [argSl, sm, ↓amb, mark_eq, simprocAttr, sz22, el22, sz3, sz26, en52, dx, en52, en53, hm, List.filter_cons, List.filter_nil, Nat.reduceBNe, Option.map_none]
 repeat refine ⟨by first | omega | (simp; done) | (unfold maxLen; omega) | (simp [maxLen]; omega) | assumption, ?_⟩
 refine hk _ ?_; clear hk k
 refine awp_ret ?_
 refine ret3 rfl rfl rfl rfl ?_ ?_ ?_
 ·exact .p (LeP.refl _)
 ·exact .p (LeP.refl _)
 ·exact .p (LeP.refl _)
set_option maxHeartbeats 4000000 in
theorem c_fill_Zip (c d e : Bool) (a b : List Int) (op : Int) (p : Pl.Plan) (ha : ∀ x, x ∈ a → Pl.W32 x) (hb' : ∀ x, x ∈ b → Pl.W32 x) (hn : a.length ≤ 1000000) : PCall Try.prog 26 [words c a, words d b, iV op, .agg (planC e p)] (.tup [words false (if a.length = b.length then Pl.celL a.length (fun j => Pl.one (a.getD j 0) op (b.getD j 0)) op p else []), iV (if a.length = b.length then Pl.celS a.length op p else 0), iV (if a.length = b.length then Pl.celE a.length op p else 1)]) := by
 refine pcall_of_awp Try.func26 rfl (by simp [Try.ntmps26]) fun C hC => ?_
 refine awp_le (le_keep [0, 1, 2, 3]) ?_
 simp only [kp, argSl, simprocAttr]
 refine awp_sr [] (by rw [hC]; rfl) fun k hk => ?_
 simp (maxSteps := 9^9) (disch := (try simp only [lens]); omega) only [argSl, sm, ↓amb, mark_eq, simprocAttr, dx, en52, en60]
 repeat refine ⟨by first | omega | (simp; done) | (unfold maxLen; omega) | (simp [maxLen]; omega) | assumption, ?_⟩
 refine hk _ ?_; clear hk k
 refine awp_seq fun k1 h1 => ?_
 refine awp_le (le_keep [4, 5, 6, 7, 8, 9, 10]) ?_
 simp only [kp, argSl, simprocAttr]
 refine awp_sr [] (by rw [hC]; rfl) fun k hk => ?_
 simp (maxSteps := 9^9) (disch := (try simp only [lens]); omega) only [argSl, sm, ↓amb, mark_eq, simprocAttr, sz22, el22, dx, en52, en60]
 repeat refine ⟨by first | omega | (simp; done) | (unfold maxLen; omega) | (simp [maxLen]; omega) | assumption, ?_⟩
 refine hk _ ?_; clear hk k
 refine awp_cond rfl (fun hb => ?_) (fun hb => ?_)
 ·try simp only [hbx] at hb
  refine awp_le (le_keep []) ?_
  simp only [kp, argSl, simprocAttr]
  refine awp_sr [] (by rw [hC]; rfl) fun k hk => ?_
  simp (maxSteps := 9^9) (disch := (try simp only [lens]); omega) only [argSl, sm, ↓amb, mark_eq, simprocAttr, dx, en52, en60]
  repeat refine ⟨by first | omega | (simp; done) | (unfold maxLen; omega) | (simp [maxLen]; omega) | assumption, ?_⟩
  refine hk _ ?_; clear hk k
  refine awp_ret ?_
  have hab : ¬ a.length = b.length := by omega
  rw [if_neg hab, if_neg hab, if_neg hab]
  refine ret3 rfl rfl rfl rfl ?_ ?_ ?_
  ·exact .p (LeP.seq _ _)
  ·exact .p (LeP.refl _)
  ·exact .p (LeP.refl _)
 ·try simp only [hbx] at hb
  refine awp_skip ?_
  refine h1 _ ?_; clear h1 k1
  refine awp_le (le_keep [4, 5, 6, 7]) ?_
  simp only [kp, argSl, simprocAttr]
  have hab : a.length = b.length := by omega
  refine awp_sr [] (by rw [hC]; rfl) fun k hk => ?_
  simp (maxSteps := 9^9) (disch := (try simp only [lens]); omega) only [argSl, sm, ↓amb, mark_eq, simprocAttr, sz22, el22, sz3, sz26, en52, dx, en52, en60]
  repeat refine ⟨by first | omega | (simp; done) | (unfold maxLen; omega) | (simp [maxLen]; omega) | assumption, ?_⟩
  refine callK_h (c_fill_cells e op p 60 en60 (words c a) (iV op) (words d b) a.length (fun j => Pl.one (a.getD j 0) op (b.getD j 0)) hn (fun i hi => c_fill_Zip_1 a b op i ha hb' c d hi hab)) [0, 16, 8] [7, 15, 23] (by first | rfl | (simp only [hm]; done)) (by first | rfl | (simp [namesOk, lkp]; done)) ?_ ?_ ?_ ?_ ?_ ?_ ?_
  (iterate 6 (focus (first | trivial | (intro n hn; cases hn; done) | (simp (maxSteps := 9^9) (disch := (try simp only [lens]); omega) only [argSl, sm, ↓amb, mark_eq, simprocAttr, sz22, el22, sz3, sz26, en52, dx, en52, en60, hmx, List.filter_cons, Nat.reduceBNe, imp_self, implies_true]; done))))
  simp (maxSteps := 9^9) (disch := (try simp only [lens]); omega) only [argSl, sm, ↓amb, mark_eq, simprocAttr, sz22, el22, sz3, sz26, en52, dx, en52, en60, hm, List.filter_cons, List.filter_nil, Nat.reduceBNe, Option.map_none]
  repeat refine ⟨by first | omega | (simp; done) | (unfold maxLen; omega) | (simp [maxLen]; omega) | assumption, ?_⟩
  refine hk _ ?_; clear hk k
  refine awp_ret ?_
  rw [if_pos hab, if_pos hab, if_pos hab]
  refine ret3 rfl rfl rfl rfl ?_ ?_ ?_
  ·exact .p (LeP.refl _)
  ·exact .p (LeP.refl _)
  ·exact .p (LeP.refl _)
set_option maxHeartbeats 4000000 in
theorem c_ref07_Words (c d : Bool) (a b : List Int) (ha : a.length ≤ 1000000) : PCall Try.prog 22 [words c a, words d b] (bV (decide (a = b))) := by
 refine pcall_of_awp Try.func22 rfl (by simp [Try.ntmps22]) fun C hC => ?_
 refine awp_le (le_keep [0, 1]) ?_
 simp only [kp, argSl, simprocAttr]
 refine awp_sr [] (by rw [hC]; rfl) fun k hk => ?_
 simp (maxSteps := 9^9) (disch := (try simp only [lens]); omega) only [argSl, sm, ↓amb, mark_eq, simprocAttr, dx]
 repeat refine ⟨by first | omega | (simp; done) | (unfold maxLen; omega) | (simp [maxLen]; omega) | assumption, ?_⟩
 refine hk _ ?_; clear hk k
 refine awp_seq fun k1 h1 => ?_
 refine awp_le (le_keep [0, 1, 4]) ?_
 simp only [kp, argSl, simprocAttr]
 refine awp_sr [] (by rw [hC]; rfl) fun k hk => ?_
 simp (maxSteps := 9^9) (disch := (try simp only [lens]); omega) only [argSl, sm, ↓amb, mark_eq, simprocAttr, el22, dx]
 repeat refine ⟨by first | omega | (simp; done) | (unfold maxLen; omega) | (simp [maxLen]; omega) | assumption, ?_⟩
 refine hk _ ?_; clear hk k
 refine awp_cond rfl (fun hb => ?_) (fun hb => ?_)
 ·try simp only [hbx] at hb
  refine awp_le (le_keep []) ?_
  simp only [kp, argSl, simprocAttr]
  refine awp_sr [] (by rw [hC]; rfl) fun k hk => ?_
  simp (maxSteps := 9^9) (disch := (try simp only [lens]); omega) only [argSl, sm, ↓amb, mark_eq, simprocAttr, dx]
  repeat refine ⟨by first | omega | (simp; done) | (unfold maxLen; omega) | (simp [maxLen]; omega) | assumption, ?_⟩
  refine hk _ ?_; clear hk k
  refine awp_ret ?_
  refine ret1 rfl rfl ?_
  exact .p (LeP.of_eq (by rw [decide_eq_false (fun e => hb (by rw [e]))]))
 ·try simp only [hbx] at hb
  refine awp_skip ?_
  refine h1 _ ?_; clear h1 k1
  refine awp_seq fun k2 h2 => ?_
  refine awp_le (le_keep [0, 1, 4]) ?_
  simp only [kp, argSl, simprocAttr]
  have hab : a.length = b.length := by omega
  refine awp_sr [] (by rw [hC]; rfl) fun k hk => ?_
  simp (maxSteps := 9^9) (disch := (try simp only [lens]); omega) only [argSl, sm, ↓amb, mark_eq, simprocAttr, dx]
  repeat refine ⟨by first | omega | (simp; done) | (unfold maxLen; omega) | (simp [maxLen]; omega) | assumption, ?_⟩
  refine hk _ ?_; clear hk k
  refine awp_block ?_
  refine awp_loop (σ := Nat) (fun i => i ≤ a.length ∧ ∀ j, j < i → a.getD j 0 = b.getD j 0) (fun (i : Nat) => ⟨[(0, (.p (words c a))), (1, (.p (words d b))), (5, (.p (iV i)))], [], 1⟩) (fun i => a.length - i) 0 ?_ ?_ fun i hi => ?_
  ·exact ⟨Nat.zero_le _, fun j hj => by omega⟩
  ·exact le_of [] (by rfl) (by rfl) ⟨⟨_, rfl, .p (.of_eq (by first | rfl | (simp only [PV.lit.injEq, Value.int.injEq, true_and]; omega) | (simp; done) | (simp; omega)))⟩, ⟨_, rfl, .p (.of_eq (by first | rfl | (simp only [PV.lit.injEq, Value.int.injEq, true_and]; omega) | (simp; done) | (simp; omega)))⟩, ⟨_, rfl, .p (.of_eq (by first | rfl | (simp only [PV.lit.injEq, Value.int.injEq, true_and]; omega) | (simp; done) | (simp; omega)))⟩, trivial⟩ trivial
  obtain ⟨hi1, hi2⟩ := hi
  refine awp_seq fun k4 h4 => ?_
  refine awp_le (le_keep [0, 1, 4, 5]) ?_
  simp only [kp, argSl, simprocAttr]
  refine awp_sr [] (by rw [hC]; rfl) fun k hk => ?_
  simp (maxSteps := 9^9) (disch := (try simp only [lens]); omega) only [argSl, sm, ↓amb, mark_eq, simprocAttr, el22, dx]
  repeat refine ⟨by first | omega | (simp; done) | (unfold maxLen; omega) | (simp [maxLen]; omega) | assumption, ?_⟩
  refine hk _ ?_; clear hk k
  refine awp_cond rfl (fun hb => ?_) (fun hb => ?_)
  ·try simp only [hbx] at hb
   refine awp_skip ?_
   refine h4 _ ?_; clear h4 k4
   refine awp_seq fun k5 h5 => ?_
   refine awp_block ?_
   refine awp_le (le_keep [0, 1, 4, 5]) ?_
   simp only [kp, argSl, simprocAttr]
   refine awp_sd [] ⟨[0, 0, 3, 7, 0, 0, 48, 112, 255], [3, 7], [], [], some []⟩ (by rw [hC]; rfl) (by kernel_rfl) (by kernel_rfl) fun k hk => ?_
   simp (maxSteps := 9^9) (disch := (try simp only [lens]); omega) only [argSl, sm, ↓amb, mark_eq, simprocAttr, el22, sz28, dx]
   repeat refine ⟨by first | omega | (simp; done) | (unfold maxLen; omega) | (simp [maxLen]; omega) | assumption, ?_⟩
   refine hk _ ?_; clear hk k
   refine awp_cond rfl (fun hb => ?_) (fun hb => ?_)
   ·try simp only [hbx] at hb
    refine awp_le (le_keep []) ?_
    simp only [kp, argSl, simprocAttr]
    refine awp_sr [] (by rw [hC]; rfl) fun k hk => ?_
    simp (maxSteps := 9^9) (disch := (try simp only [lens]); omega) only [argSl, sm, ↓amb, mark_eq, simprocAttr, dx]
    repeat refine ⟨by first | omega | (simp; done) | (unfold maxLen; omega) | (simp [maxLen]; omega) | assumption, ?_⟩
    refine hk _ ?_; clear hk k
    refine awp_ret ?_
    refine ret1 rfl rfl ?_
    exact .p (LeP.of_eq (by rw [decide_eq_false (fun e => hb (by rw [e]))]))
   ·try simp only [hbx] at hb
    refine awp_skip ?_
    refine h5 _ ?_; clear h5 k5
    refine awp_region [] (by rw [hC]; rfl) fun k hk => ?_
    simp (maxSteps := 9^9) (disch := (try simp only [lens]); omega) only [argSl, sm, ↓amb, mark_eq, simprocAttr, dx]
    repeat refine ⟨by first | omega | (simp; done) | (unfold maxLen; omega) | (simp [maxLen]; omega) | assumption, ?_⟩
    refine hk _ ?_; clear hk k
    refine ⟨i + 1, ⟨by omega, fun j hj => by by_cases e : j = i; subst e; exact hb; exact hi2 j (by omega)⟩, le_of [] (by rfl) (by rfl) ⟨⟨_, rfl, .p (.of_eq (by first | rfl | (simp only [PV.lit.injEq, Value.int.injEq, true_and]; omega) | (simp; done) | (simp; omega)))⟩, ⟨_, rfl, .p (.of_eq (by first | rfl | (simp only [PV.lit.injEq, Value.int.injEq, true_and]; omega) | (simp; done) | (simp; omega)))⟩, ⟨_, rfl, .p (.of_eq (by first | rfl | (simp only [PV.lit.injEq, Value.int.injEq, true_and]; omega) | (simp; done) | (simp; omega)))⟩, trivial⟩ trivial, by omega⟩
  ·try simp only [hbx] at hb
   refine awp_exit ((if_pos rfl).mpr ?_)
   refine h2 _ ?_; clear h4 k4; clear h2 k2
   refine awp_le (le_keep []) ?_
   simp only [kp, argSl, simprocAttr]
   refine awp_sr [] (by rw [hC]; rfl) fun k hk => ?_
   simp (maxSteps := 9^9) (disch := (try simp only [lens]); omega) only [argSl, sm, ↓amb, mark_eq, simprocAttr, dx]
   repeat refine ⟨by first | omega | (simp; done) | (unfold maxLen; omega) | (simp [maxLen]; omega) | assumption, ?_⟩
   refine hk _ ?_; clear hk k
   refine awp_ret ?_
   refine ret1 rfl rfl ?_
   exact .p (LeP.of_eq (by rw [decide_eq_true (Pl.list_of hab (by omega) hi2)]))
end Go.Proofs.Ythelnccjcbnjfaa
