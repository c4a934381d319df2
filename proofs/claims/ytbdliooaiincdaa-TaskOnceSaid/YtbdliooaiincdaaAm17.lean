/-
  The abstract machine, seventeenth part: regions as code.
-/
import Derived.Test.YtbdliooaiincdaaAm16
namespace Go.Am
open Go.RowKit

def SU (nx0 : Nat) (n : Nat) (S : Nat → Bool) (id : Nat) : Prop := nmPos id ≤ nx0 ∨ ∃ j, j < n ∧ S j = true ∧ nmPos id = nx0 + j + 1

theorem ready_mem {ops : Array Oper} {listed : Array Bool} {i : Nat} (h : i ∈ Region.ready .any ops listed) : ∃ o, ops[i]? = some o ∧ listed.getD i true = false ∧ ∀ e, e ∈ o.after.toList → Region.binds .any e = true → listed.getD e.on false = true := by
  simp only [Region.ready, List.mem_filter, List.mem_range, Bool.and_eq_true, Bool.not_eq_true'] at h
  obtain ⟨h1, h2, h3⟩ := h
  refine ⟨ops[i], by simp [h1], h2, fun e he hb => ?_⟩
  rw [Array.getElem?_eq_getElem h1] at h3
  simp only [Option.map_some, Option.getD_some] at h3
  have := (Array.all_eq_true'.1 h3) e (by simpa using he)
  simpa [hb] using this

theorem draw_any {P : Program} {D : Ord} {ops : Array Oper} {us : Nat → Upd} {rn : Nat → Bool} {s0 : PS} {nx0 : Nat} {C : Ctx} {Q : Exit → Act → World → Prop} (hO : OrdOk D ops)
    (hg : ∀ k o, ops[k]? = some o → Good P D (gdOf ops) nx0 k o (stFrom ops.toList us s0 k) (us k) (rn k)) (hd : ∀ o, o ∈ ops.toList → ∀ d, o.dst = some d → d < C.n)
    (hQ : ∀ a w, Sat C (fun id => nmPos id ≤ nx0 + ops.size) (stFrom ops.toList us s0 ops.size) a w → Q .normal a w) : ∀ (fuel : Nat) (listed : Array Bool) (a : Act) (w : World), listed.size = ops.size →
      (∀ j, listed.getD j false = true → ∀ i, D.bit i j = true → listed.getD i false = true) → ((List.range ops.size).filter fun j => !listed.getD j false).length ≤ fuel →
      Sat C (SU nx0 ops.size fun j => listed.getD j false) (PSof ops.toList us s0 (fun j => listed.getD j false) ops.size) a w → wpAny P .any ops Q fuel listed a w := by
  have hu : ∀ j, j < ops.size → okU D nx0 j (us j) := by
    intro j hj
    have := hg j ops[j] (by simp [hj])
    cases h : rn j with
    | true => exact (this.step h).2
    | false => rw [this.idle h]; exact trivial
  have alls : ∀ (listed : Array Bool) (a : Act) (w : World), (∀ j, j < ops.size → listed.getD j false = true) → Sat C (SU nx0 ops.size fun j => listed.getD j false) (PSof ops.toList us s0 (fun j => listed.getD j false) ops.size) a w → Q .normal a w := by
    intro listed a w hall hs
    rw [psOf_full _ _ _ _ _ hall] at hs
    refine hQ a w (hs.widen (fun id h => ?_))
    rcases h with h | ⟨j, hj, _, h⟩ <;> omega
  have hreadyAll : ∀ (listed : Array Bool), listed.size = ops.size → Region.ready .any ops listed = [] → ∀ j, j < ops.size → listed.getD j false = true := by
    intro listed hsz hr j
    induction j using Nat.strongRecOn with
    | _ j ih =>
      intro hj
      by_cases h : listed.getD j false = true
      · exact h
      · exfalso
        have hf : listed.getD j false = false := by simpa using h
        have hft : listed.getD j true = false := by
          rw [Array.getD_eq_getD_getElem?] at hf ⊢
          have : listed[j]? = some listed[j] := by simp [show j < listed.size by omega]
          rw [this] at hf ⊢; exact hf
        have hmem : j ∈ Region.ready .any ops listed := by
          simp only [Region.ready, List.mem_filter, List.mem_range, Bool.and_eq_true, Bool.not_eq_true']
          refine ⟨hj, hft, ?_⟩
          rw [Array.getElem?_eq_getElem hj]
          simp only [Option.map_some, Option.getD_some]
          rw [Array.all_eq_true']
          intro e he
          by_cases hb : Region.binds .any e = true
          · have hlt := hO.edge j ops[j] (by simp [hj]) e (by simpa using he) hb
            simp [ih e.on hlt (by omega)]
          · simp [hb]
        rw [hr] at hmem; cases hmem
  intro fuel
  induction fuel with
  | zero =>
    intro listed a w hsz hdown hcount hs
    have hall : ∀ j, j < ops.size → listed.getD j false = true := by
      intro j hj
      have hnil := List.eq_nil_of_length_eq_zero (Nat.le_zero.1 hcount)
      by_cases h : listed.getD j false = true
      · exact h
      · have : j ∈ (List.range ops.size).filter fun j => !listed.getD j false := by
          simp only [List.mem_filter, List.mem_range, hj, true_and]; simpa using h
        rw [hnil] at this; cases this
    refine ⟨?_, alls listed a w hall hs⟩
    simp only [Region.ready, List.filter_eq_nil_iff, List.mem_range, Bool.and_eq_true, Bool.not_eq_true', not_and]
    intro i hi hf
    have := hall i hi
    rw [Array.getD_eq_getD_getElem?] at this hf
    have h2 : listed[i]? = some listed[i] := by simp [show i < listed.size by omega]
    rw [h2] at this hf
    simp only [Option.getD_some] at this hf
    rw [this] at hf; cases hf
  | succ fuel ih =>
    intro listed a w hsz hdown hcount hs
    refine ⟨fun hr => alls listed a w (hreadyAll listed hsz hr) hs, fun k hk => ?_⟩
    obtain ⟨o, ho, hlk, hedge⟩ := ready_mem hk
    have hkn : k < ops.size := (Array.getElem?_eq_some_iff.1 ho).1
    have hSk : listed.getD k false = false := by
      rw [Array.getD_eq_getD_getElem?] at hlk ⊢
      have h2 : listed[k]? = some listed[k] := by simp [show k < listed.size by omega]
      rw [h2] at hlk ⊢; exact hlk
    have hpre : ∀ i, D.bit i k = true → listed.getD i false = true := by
      intro i hb
      have hin := (hO.small i k hb).1
      obtain ⟨e, he, hbi, hor⟩ := hO.why i k ops[i] o (by simp [hin]) ho hb
      rcases hor with rfl | hor
      · exact hedge e he hbi
      · exact hdown e.on (hedge e he hbi) i hor
    have hlisted : ∀ j, (listed.setIfInBounds k true).getD j false = (listed.getD j false || j == k) := by
      intro j
      rw [Array.getD_eq_getD_getElem?, Array.getD_eq_getD_getElem?]
      by_cases e : j = k
      · subst e; rw [Array.getElem?_setIfInBounds_self_of_lt (by omega)]; simp
      · rw [Array.getElem?_setIfInBounds_ne (fun h => e h.symm)]; simp [e]
    have good := hg k o ho
    have hdk : ∀ d, o.dst = some d → d < C.n := hd o (by rw [Array.mem_toList_iff]; exact Array.mem_of_getElem? ho)
    have hnext := next_agree (S := fun j => listed.getD j false) (s0 := s0) hO hu hdown ho hSk
    have hstep : ∀ (a' : Act) (w' : World), Sat C (fun id => SU nx0 ops.size (fun j => listed.getD j false) id ∨ (8 * (nx0 + k) ≤ id ∧ id < 8 * (nx0 + k) + 7)) ((PSof ops.toList us s0 (fun j => listed.getD j false) ops.size).upd o.dst (us k)) a' w' → wpAny P .any ops Q fuel (listed.setIfInBounds k true) a' w' := by
      intro a' w' hs'
      refine ih _ a' w' (by simpa using hsz) (fun j hj i hb => ?_) ?_ ?_
      · rw [hlisted] at hj ⊢
        simp only [Bool.or_eq_true, beq_iff_eq] at hj ⊢
        rcases hj with hj | rfl
        · exact .inl (hdown j hj i hb)
        · exact .inl (hpre i hb)
      · have hlt : ((List.range ops.size).filter fun j => !(listed.setIfInBounds k true).getD j false).length < ((List.range ops.size).filter fun j => !listed.getD j false).length := by
          have e1 : ((List.range ops.size).filter fun j => !(listed.setIfInBounds k true).getD j false) = (((List.range ops.size).filter fun j => !listed.getD j false).filter fun j => !(j == k)) := by
            rw [List.filter_filter]
            refine List.filter_congr (fun j _ => ?_)
            rw [hlisted, Bool.not_or, Bool.and_comm]
          rw [e1]
          refine List.length_filter_lt_length_iff_exists.2 ⟨k, ?_, by simp⟩
          simp only [List.mem_filter, List.mem_range, hkn, true_and]
          simp [hSk]
        omega
      · have e1 : PSof ops.toList us s0 (fun j => (listed.setIfInBounds k true).getD j false) ops.size = PSof ops.toList us s0 (fun j => listed.getD j false || j == k) ops.size := by
          congr 1; funext j; exact hlisted j
        rw [e1, ← hnext]
        refine hs'.widen (fun id hid => ?_)
        rcases hid with (h | ⟨j, hj, hSj, h⟩) | h
        · exact .inl h
        · exact .inr ⟨j, hj, (hlisted j).trans (by simp only at hSj; rw [hSj]; rfl), h⟩
        · exact .inr ⟨k, hkn, (hlisted k).trans (by simp), by simp only [nmPos]; split <;> omega⟩
    unfold wpOp
    rw [ho]
    simp only
    -- the guard
    have hwant : Region.wanted o (yielded ops a.tmps) = rn k := by
      rcases good.guard with ⟨h1, h2⟩ | ⟨g, b, d, v, h1, h2, h3, h4⟩
      · rw [h2]; simp [Region.wanted, h1]
      · have hmem : d ∈ looksAt (gdOf ops) o := by simp [looksAt, h1, h2]
        have hag := slot_agree (S := fun j => listed.getD j false) (s0 := s0) (us := us) hO hdown ho hSk hpre hmem
        rw [h3] at hag
        have hv := hs.getBool hag
        have hdn : d < a.tmps.size := by
          obtain ⟨ρ, hr⟩ := hs
          rw [hr.size]
          simp only [gdOf] at h2
          obtain ⟨x, hx, hxd⟩ := Option.bind_eq_some_iff.1 h2
          exact hd x (by rw [Array.mem_toList_iff]; exact Array.mem_of_getElem? hx) d hxd
        rw [h4]
        simp only [Region.wanted, h1, yielded_of h2 hdn, hv]
        cases v <;> simp [yv] <;> first | rfl | (rename_i q; cases q <;> cases b <;> rfl)
    rw [hwant]
    cases hr : rn k with
    | true =>
      simp only [if_true]
      left
      obtain ⟨hst, _⟩ := good.step hr
      refine Oper.wp_mono hstep (hst C (SU nx0 ops.size fun j => listed.getD j false) _ a w hdk ?_ (fun x hx v hv => ?_) (fun id b hb => ?_) hs Q)
      · intro j' hj'
        have hpos : nmPos (8 * (nx0 + k) + j') = nx0 + k + 1 := by simp only [nmPos]; split <;> omega
        rintro (h | ⟨j, hj, hSj, he⟩)
        · omega
        · have : j = k := by omega
          subst this; simp only at hSj; rw [hSk] at hSj; cases hSj
      · cases x with
        | tmp t =>
          have hmem : t ∈ looksAt (gdOf ops) o := by
            simp only [looksAt, List.mem_append, List.mem_filterMap]
            exact .inl ⟨.tmp t, by simpa using hx, rfl⟩
          have := slot_agree (S := fun j => listed.getD j false) (s0 := s0) (us := us) hO hdown ho hSk hpre hmem
          simp only [PS.eval] at hv ⊢
          rw [this]; exact hv
        | const c => exact hv
        | global g => exact hv
        | func g => exact hv
      · exact heap_agree hO hu hdown ho hSk hpre hb
    | false =>
      simp only [Bool.false_eq_true, if_false]
      refine hstep _ w ?_
      rw [good.idle hr]
      exact (hs.skip hdk).widen (fun _ h => .inl h)

end Go.Am
