/-
  FillAnswers: at whatever arguments the law returns true, and each argument reads behind the call as it read before. No condition.
-/
import Derived.Test.YthelnccjcbnjfaaRows
import Derived.Test.YthelnccjcbnjfaaRC
import Derived.Test.YthelnccjcbnjfaaOB
namespace Go.Proofs.Ythelnccjcbnjfaa
open Go.ChangeShapes Go.WideShapes Go.ChangeAt Go.RowKit Go.Am
set_option maxRecDepth 100000 in
theorem fillAnswers_lifted (os : Os) (started : os.Started) (H : Type) (enc : TypeId × Value → H) :
    ReturnsInHanded {} Try.checked os 3 .any (Rows.fillAnswersSpec.pre6 enc Try.prog Try.f3 Rows.fillAnswersRow.domain false) (Rows.fillAnswersSpec.post enc Try.prog Try.f3 false true false false) := by
  refine returnsInHanded_of_change (C := Try.checked) Try.own started (by kernel_rfl) Try.func3
    (ChangeSpec.witness6 (enc := enc) (C := Try.checked) false ⟨#[], #[.slice none 0 0, .agg #[.int .i64 0, .int .i64 0], .agg #[.int .i64 0, .int .i64 0, .slice none 0 0]], []⟩ 20 (by kernel_rfl) (by kernel_rfl) (by kernel_rfl) (by kernel_rfl)) ?_
  intro W base args ds gs before hval0 hW hcnd _
  have hval : ∀ (j : Nat) t v, Try.f3.params[j]? = some t → args[j]? = some v → Value.okWide Try.prog W .any base t v := hval0
  have hW' := hW
  have hlt := hW.lt
  obtain ⟨p, q, hA0, hV, rfl, hfz, hnd⟩ := hW
  have hA : DataW.TrodAll enc Try.prog W 0 (fun _ => true) true Try.f3.params.toList args.toList ds p := hA0
  rw [Try.params3] at hA hval
  obtain ⟨v0, v1, v2, d0, d1, d2, p0, p1, p2, rfl, rfl, rfl, h0, h1, h2⟩ := trodAll_three hA
  obtain ⟨rfl, rfl⟩ := trodVars_none hV
  obtain ⟨a0, k0, r0⟩ := arg_one op_words (okWide_one_s Try.underlying22 (hval 0 22 _ rfl rfl)) h0
  obtain ⟨cs1, rfl⟩ := okWide_agg (by kernel_rfl) (hval 1 23 _ rfl rfl)
  obtain ⟨a1, k1, r1⟩ := arg_agg op_pair h1
  obtain ⟨cs2, rfl⟩ := okWide_agg (by kernel_rfl) (hval 2 26 _ rfl rfl)
  obtain ⟨a2, k2, r2⟩ := arg_agg op_plan h2
  clear hA0 hval0
  simp only [List.append_nil] at hW' hlt
  refine (law_calls (c_law07_FillAnswers a0 a1.1 a1.2 a2 (fun x hx => wf32 (k0.2 x hx))) rfl ?_).mono fun e W' ⟨he, hB⟩ => ?_
  · intro i x hx
    match i, hx with
    | 0, hx => simp only [List.getElem?_cons_zero, Option.some.injEq] at hx; subst hx; exact r0
    | 1, hx => simp only [List.getElem?_cons_succ, List.getElem?_cons_zero, Option.some.injEq] at hx; subst hx; exact r1
    | 2, hx => simp only [List.getElem?_cons_succ, List.getElem?_cons_zero, Option.some.injEq] at hx; subst hx; exact r2
    | i + 3, hx => simp at hx
  subst he
  exact ⟨_, rfl, law_post (pv := []) hW' (fun _ _ _ => trodAll_mk1 (shut_bool Try.underlying4 _))
    (fun sp hs => trodAll_mk3 (WideElems.Trod_stays Try.laidOut (by kernel_rfl) (of_decide_eq_true (by kernel_rfl)) h0 (fun x hx => hB.same (hlt x (by simp [hx]))) (fun x hx => hs x (by simp [hx]))) (WideElems.Trod_stays Try.laidOut (by kernel_rfl) (of_decide_eq_true (by kernel_rfl)) h1 (fun x hx => hB.same (hlt x (by simp [hx]))) (fun x hx => hs x (by simp [hx]))) (WideElems.Trod_stays Try.laidOut (by kernel_rfl) (of_decide_eq_true (by kernel_rfl)) h2 (fun x hx => hB.same (hlt x (by simp [hx]))) (fun x hx => hs x (by simp [hx]))))
    (fun _ _ => rfl) (by simp) hB (ok_one (by kernel_rfl) rfl (okWide_bool_mk Try.underlying4 _))⟩

theorem fillAnswers_holds : Rows.FillAnswersSaid :=
  OpenClaim.holds_of_wide 3 Try.f3 rfl rfl rfl rfl rfl rfl rfl ⟨rfl, rfl, rfl, rfl, rfl⟩ rfl rfl rfl rfl rfl (by kernel_rfl) Try.func3 (by kernel_rfl)
    (of_decide_eq_true (by kernel_rfl)) (by unfold Func.isWrapper; first | (rw [if_pos (by decide +kernel)]; kernel_rfl) | (rw [if_neg (by decide +kernel)]; exact ⟨rfl, rfl⟩))
    (fun os started H enc _ => fillAnswers_lifted os started H enc)
#print axioms fillAnswers_holds
end Go.Proofs.Ythelnccjcbnjfaa
