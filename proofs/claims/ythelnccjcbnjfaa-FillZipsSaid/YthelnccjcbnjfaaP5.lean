/-
  Plain data: which units are done, and in which order.
-/
import Derived.Test.YthelnccjcbnjfaaP4
set_option linter.unusedSimpArgs false
set_option linter.unusedVariables false
namespace Go.Pl
/-- does an event tell a leaf? -/
def isLeaf (ts : List Task) (e : Event) : Bool := !e.parted && (decide (0 ≤ e.task) && decide (e.task < ts.length))
def leaves' (ts : List Task) : List Event → List (Int × Int)
  | [] => []
  | e :: l => if isLeaf ts e = true then ((ts.getD e.task.toNat default).low, (ts.getD e.task.toNat default).high) :: leaves' ts l else leaves' ts l
theorem leaves_app (ts : List Task) (a b : List Event) : leaves' ts (a ++ b) = leaves' ts a ++ leaves' ts b := by
  induction a with
  | nil => rfl
  | cons e a ih => simp only [List.cons_append, leaves']; split <;> simp [ih]
theorem leaves_take (ts : List Task) (l : List Event) (i : Nat) (h : i < l.length) : leaves' ts (l.take (i + 1)) = leaves' ts (l.take i) ++ (if isLeaf ts (l.getD i default) = true then [((ts.getD (l.getD i default).task.toNat default).low, (ts.getD (l.getD i default).task.toNat default).high)] else []) := by
  rw [List.take_add_one, leaves_app, List.getD_eq_getElem?_getD, List.getElem?_eq_getElem h]
  simp only [Option.toList_some, Option.getD_some, leaves']
/-- numbers from a place up to another one -/
def upto (a b : Int) : List Int := (List.range (b - a).toNat).map fun (k : Nat) => a + k
theorem upto_len (a b : Int) : (upto a b).length = (b - a).toNat := by simp [upto]
theorem mem_upto {a b x : Int} : x ∈ upto a b ↔ a ≤ x ∧ x < b := by
  unfold upto
  simp only [List.mem_map, List.mem_range]
  constructor
  · rintro ⟨k, h1, h2⟩; omega
  · rintro ⟨h1, h2⟩; exact ⟨(x - a).toNat, by omega, by omega⟩
theorem nodup_upto (a b : Int) : (upto a b).Nodup := by
  unfold upto
  exact List.Pairwise.map _ (fun x y h => by omega) List.nodup_range
theorem upto_nil {a b : Int} (h : b ≤ a) : upto a b = [] := by unfold upto; rw [show (b - a).toNat = 0 by omega]; rfl
theorem upto_snoc {a : Int} (k : Nat) : upto a (a + k) ++ [a + k] = upto a (a + (k + 1 : Nat)) := by
  unfold upto
  rw [show (a + (k : Int) - a).toNat = k by omega, show (a + ((k + 1 : Nat) : Int) - a).toNat = k + 1 by omega, List.range_succ, List.map_append]; rfl
def unitsOf (l : List (Int × Int)) : List Int := l.flatMap fun s => upto s.1 s.2
theorem unitsOf_app (a b : List (Int × Int)) : unitsOf (a ++ b) = unitsOf a ++ unitsOf b := by simp [unitsOf]
theorem unitsOf_take (l : List (Int × Int)) (i : Nat) (h : i < l.length) : unitsOf (l.take (i + 1)) = unitsOf (l.take i) ++ upto (l.getD i default).1 (l.getD i default).2 := by
  rw [List.take_add_one, unitsOf_app, List.getD_eq_getElem?_getD, List.getElem?_eq_getElem h]
  simp [unitsOf]
/-- just those units were told that are done, each once -/
structure UInv (c : Crew) (ev : List Event) : Prop where
  nd : (unitsOf (leaves' c.work.ts ev)).Nodup
  mem : ∀ u, u ∈ unitsOf (leaves' c.work.ts ev) ↔ (0 ≤ u ∧ c.work.done.getD u.toNat false = true)
  evs : ∀ e, e ∈ ev → e.task < c.work.ts.length
theorem leaves_congr {ts ts' : List Task} (hl : ts.length ≤ ts'.length) (hlow : ∀ x, x < ts.length → (ts'.getD x default).low = (ts.getD x default).low ∧ (ts'.getD x default).high = (ts.getD x default).high) :
    ∀ (ev : List Event), (∀ e, e ∈ ev → e.task < ts.length) → leaves' ts' ev = leaves' ts ev
  | [], _ => rfl
  | e :: l, h => by
    have h1 := h e (by simp)
    have ih := leaves_congr hl hlow l (fun x hx => h x (by simp [hx]))
    simp only [leaves', ih]
    have e1 : isLeaf ts' e = isLeaf ts e := by
      unfold isLeaf
      congr 2
      exact decide_eq_decide.mpr ⟨fun _ => h1, fun _ => by omega⟩
    rw [e1]
    by_cases c : isLeaf ts e = true
    · rw [if_pos c, if_pos c]
      have h0 : 0 ≤ e.task := by
        unfold isLeaf at c; simp at c; exact c.2.1
      obtain ⟨a, b⟩ := hlow e.task.toNat (by omega)
      rw [a, b]
    · rw [if_neg c, if_neg c]
theorem UInv.step {n g : Int} {c : Crew} {units : Int} {ev : List Event} (hU : UInv c ev) (h : CInv n g c units) (h1 : c.steps < 100000) (h2 : c.idle < 100000) (p v : Int) :
    UInv (Pl.step c p v).1 (ev ++ [(Pl.step c p v).2.1]) := by
  have nb1 := num_bound c.dq p h.len1
  have nb2 := num_bound c.dq v h.len1
  obtain ⟨_, _, hc⟩ := h.step h1 h2 p v
  have hpos := h.inv.pos
  rcases hc with ⟨_, q0, q1, _⟩ | ⟨qb, q0, q1, _, q3, _, q5, q6, q7, _⟩ | ⟨qb, q0, q1, _, q3, q4, q5, q6, q7, q8, q9⟩
  · rw [q0]
    refine ⟨?_, ?_, fun e he => ?_⟩
    · rw [leaves_app, q1]; simp only [leaves', isLeaf]; simp; exact hU.nd
    · rw [leaves_app, q1]; simp only [leaves', isLeaf]; simpa using hU.mem
    · rw [q1]
      rcases List.mem_append.1 he with q | q
      · exact hU.evs e q
      · simp at q; subst q; dsimp only; omega
  · have hp := found_perm (e := evN c.dq p) (by omega) (by omega) qb
    have hi : Inv n g c.work ((evF c.dq p v).task.toNat :: fl (dqF c.dq p v)) units := h.inv.perm (hp.map _)
    have hlt := (hi.gg.rng _ (List.mem_cons_self ..)).1
    have hW : (Pl.step c p v).1.work = parted c.work (evF c.dq p v).task := by rw [q7, (part_ok q6).1]
    have hlen : (parted c.work (evF c.dq p v).task).ts.length = c.work.ts.length + 2 := by rw [← hW, q3]
    have hcg := leaves_congr (ts := c.work.ts) (ts' := (parted c.work (evF c.dq p v).task).ts) (by omega) (fun x hx => parted_low c.work _ x hx) ev hU.evs
    rw [q0]
    have e1 : leaves' (Pl.step c p v).1.work.ts (ev ++ [{ evF c.dq p v with parted := true }]) = leaves' c.work.ts ev := by
      rw [hW, leaves_app, hcg]; simp [leaves', isLeaf]
    refine ⟨by rw [e1]; exact hU.nd, by rw [e1, hW]; exact hU.mem, fun e he => ?_⟩
    rw [hW, hlen]
    rcases List.mem_append.1 he with q | q
    · have := hU.evs e q; omega
    · simp at q; subst q; dsimp only; omega
  · have hp := found_perm (e := evN c.dq p) (by omega) (by omega) qb
    have hi : Inv n g c.work ((evF c.dq p v).task.toNat :: fl (dqF c.dq p v)) units := h.inv.perm (hp.map _)
    have hlt := (hi.gg.rng _ (List.mem_cons_self ..)).1
    have hok := hi.ok _ hlt
    have htn : (((evF c.dq p v).task.toNat : Nat) : Int) = (evF c.dq p v).task := by omega
    have hgr := hi.great (t := (evF c.dq p v).task.toNat) (List.mem_cons_self ..)
    rw [htn] at hgr
    have hng : ¬ g < szT c.work (evF c.dq p v).task.toNat := fun q => by
      have hE := hi.part0 q
      rw [htn] at hE
      have hg := hgr.2 q
      have h3 := go_part (d := dqF c.dq p v) (p := (num c.dq p).toNat) (o := c.over) (e := evF c.dq p v) rfl hg hE
      have hr := h.right (by omega) (by omega)
      have : (Pl.step c p v).1.work.ts.length = c.work.ts.length + 2 := by
        rw [step_4 hr (by omega) qb h3.1, h3.2.1, (part_ok hE).1]; simp [parted]
      omega
    have hE := hi.do0 hng
    rw [htn] at hE
    have hdn : (Pl.step c p v).1.work.done = marked c.work.done (c.work.ts.getD (evF c.dq p v).task.toNat default).low.toNat (c.work.ts.getD (evF c.dq p v).task.toNat default).high.toNat := by
      rw [q6, (do_ok hE).1]; rfl
    have hfr := hi.fresh _ (List.mem_cons_self ..)
    unfold okT at hok
    have hcg := leaves_congr (ts := c.work.ts) (ts' := (doW c.work (evF c.dq p v).task).ts) (by rw [(doW_len _ _).1]; exact Nat.le_refl _) (fun x hx => doW_low c.work _ x) ev hU.evs
    have hpt : (evF c.dq p v).parted = false := (foundE_worker _ _ _ _).2
    have e1 : leaves' (Pl.step c p v).1.work.ts (ev ++ [evF c.dq p v]) = leaves' c.work.ts ev ++ [((c.work.ts.getD (evF c.dq p v).task.toNat default).low, (c.work.ts.getD (evF c.dq p v).task.toNat default).high)] := by
      rw [q6, leaves_app, hcg]
      simp only [leaves']
      rw [if_pos, (doW_low _ _ _).1, (doW_low _ _ _).2]
      unfold isLeaf
      rw [hpt, (doW_len _ _).1]; simp; omega
    rw [q0]
    have hmk := marked_get (d := c.work.done) (lo := (c.work.ts.getD (evF c.dq p v).task.toNat default).low.toNat) (hi := (c.work.ts.getD (evF c.dq p v).task.toNat default).high.toNat) (by omega) (by omega)
    have eu : unitsOf [((c.work.ts.getD (evF c.dq p v).task.toNat default).low, (c.work.ts.getD (evF c.dq p v).task.toNat default).high)] = upto (c.work.ts.getD (evF c.dq p v).task.toNat default).low (c.work.ts.getD (evF c.dq p v).task.toNat default).high := by simp [unitsOf]
    refine ⟨?_, fun u => ?_, fun e he => ?_⟩
    · rw [e1, unitsOf_app, eu, List.nodup_append]
      refine ⟨hU.nd, nodup_upto _ _, fun a ha b hb hab => ?_⟩
      subst hab
      obtain ⟨a1, a2⟩ := (hU.mem a).1 ha
      obtain ⟨b1, b2⟩ := mem_upto.1 hb
      have := hfr a.toNat (by omega) (by omega)
      rw [this] at a2; cases a2
    · rw [e1, unitsOf_app, eu, List.mem_append, hU.mem, mem_upto, hdn, hmk]
      constructor
      · rintro (⟨a1, a2⟩ | ⟨b1, b2⟩)
        · refine ⟨a1, ?_⟩
          split
          · rfl
          · exact a2
        · refine ⟨by omega, by rw [if_pos (by omega)]⟩
      · rintro ⟨a1, a2⟩
        split at a2
        · right; omega
        · exact .inl ⟨a1, a2⟩
    · rcases List.mem_append.1 he with q | q
      · have := hU.evs e q; rw [q3]; exact this
      · simp at q; subst q; rw [q3]; exact q5
theorem UInv.begins {n g p : Int} (hc : cnt n g) (hp : 1 ≤ p ∧ p ≤ 8) : UInv (crewBegin n g p).1 [] := by
  have e : crewBegin n g p = (⟨beginW n g, dq0 p, false, 0, 0⟩, 0) := by rw [crewBegin, if_neg (by omega), if_neg (by simpa using hc)]
  rw [e, beginW, if_pos hc]
  refine ⟨List.nodup_nil, fun u => ?_, fun e he => by cases he⟩
  simp only [leaves', unitsOf, List.flatMap_nil, List.not_mem_nil, false_iff, not_and]
  intro _
  rw [List.getD_eq_getElem?_getD, List.getElem?_replicate]
  split <;> simp
end Go.Pl
