/-
  The abstract machine, twenty-first part: what a proof types.
-/
import Derived.Test.YtbdliooaiincdaaAm20
import Derived.KernelRfl
namespace Go.Am
open Go.RowKit

section
variable {P : Program} {C : Ctx} {K : Exit → LS → Prop} {s : LS}
theorem ret1 {fn : Func} {t : Nat} {x : AV} {r : PV} (hf : fn.results = #[.tmp t]) (h : lkp s.sl t = some x) (hr : ResA s.hp x r) : retK P fn r .ret s := by
  show resR P s fn.results.toList r
  rw [hf]; exact ⟨x, h, hr⟩
theorem ret2 {fn : Func} {t u : Nat} {x y : AV} {r q : PV} (hf : fn.results = #[.tmp t, .tmp u]) (h : lkp s.sl t = some x) (h2 : lkp s.sl u = some y) (hr : ResA s.hp x r) (hr2 : ResA s.hp y q) : retK P fn (.tup [r, q]) .ret s := by
  show resR P s fn.results.toList _
  rw [hf]; exact ⟨_, rfl, ⟨x, h, hr⟩, ⟨y, h2, hr2⟩, trivial⟩
theorem ret3 {fn : Func} {t u v : Nat} {x y z : AV} {r q p : PV} (hf : fn.results = #[.tmp t, .tmp u, .tmp v]) (h : lkp s.sl t = some x) (h2 : lkp s.sl u = some y) (h3 : lkp s.sl v = some z)
    (hr : ResA s.hp x r) (hr2 : ResA s.hp y q) (hr3 : ResA s.hp z p) : retK P fn (.tup [r, q, p]) .ret s := by
  show resR P s fn.results.toList _
  rw [hf]; exact ⟨_, rfl, ⟨x, h, hr⟩, ⟨y, h2, hr2⟩, ⟨z, h3, hr3⟩, trivial⟩
theorem awp_sr {id : Nat} {l : List Oper} {y : Code} (H : List Nat) (hf : inFrame C.n l.toArray = true)
    (h : ∀ k : LS → Prop, (∀ s', Awp P C y K s' → k s') → aops P H (gdOf l.toArray) (fun s' => k ⟨s'.sl, s'.hp, s'.nx + l.length⟩) 0 l s) : Awp P C (.seq (.region id l.toArray false) y) K s :=
  awp_seq fun _ hk => awp_region H hf fun k' hk' => h k' fun s' ha => hk' s' (hk s' ha)
theorem awp_sd {id : Nat} {l : List Oper} {y : Code} (H : List Nat) (D : Ord) (hf : inFrame C.n l.toArray = true) (hm : P.follows .mixedOrders = true) (hD : okD D l.toArray = true)
    (h : ∀ k : LS → Prop, (∀ s', Awp P C y K s' → k s') → aopsD P H D (gdOf l.toArray) (fun s' => k ⟨s'.sl, s'.hp, s'.nx + l.length⟩) 0 l s) : Awp P C (.seq (.region id l.toArray true) y) K s :=
  awp_seq fun _ hk => awp_draw H D hf hm hD fun k' hk' => h k' fun s' ha => hk' s' (hk s' ha)
theorem awp_seq_skip {y : Code} (h : Awp P C y K s) : Awp P C (.seq .skip y) K s := awp_seq fun _ hk => awp_skip (hk _ h)
theorem awp_seq_ret {y : Code} (h : K .ret s) : Awp P C (.seq .ret y) K s := awp_seq fun _ _ => awp_ret h
theorem awp_seq_exit {y : Code} {id : Nat} (h : K (.exit id) s) : Awp P C (.seq (.exit id) y) K s := awp_seq fun _ _ => awp_exit h
/-- one of two ways, and what comes behind shut away -/
theorem awp_sc {d : Nat} {x z y : Code} {b : Bool} (hb : lkp s.sl d = some (.p (.lit (.bool b))))
    (h : ∀ k : LS → Prop, (∀ s', Awp P C y K s' → k s') → (b = true → Awp P C x (fun e s' => match e with | .normal => k s' | e => K e s') s) ∧ (b = false → Awp P C z (fun e s' => match e with | .normal => k s' | e => K e s') s)) :
    Awp P C (.seq (.cond (.tmp d) x z) y) K s := awp_seq fun k hk => awp_cond hb (h k hk).1 (h k hk).2

theorem ev_tmp (s : LS) (t : Nat) : PS.eval s.ps (.tmp t) = lkp s.sl t := rfl
theorem ev_const (V : PS) (v : Value) : PS.eval V (.const v) = some (constAV v) := rfl
theorem ev_func (V : PS) (f : FuncId) : PS.eval V (.func f) = some (.fn f []) := rfl
theorem hp_ps (s : LS) (id : Nat) : s.ps.hp id = lkp s.hp id := rfl
theorem ev_tmpD (D : Ord) (nx i : Nat) (s : LS) (t : Nat) : PS.eval (viewD D nx i s) (.tmp t) = lkp s.sl t := rfl
theorem hp_view (D : Ord) (nx i : Nat) (s : LS) (id : Nat) : (viewD D nx i s).hp id = if nmPos id ≤ nx ∧ D.isHot id = false then lkp s.hp id else if D.isRW i = true then (if nmPos id ≤ nx then lkp s.hp id else if D.sees (nmPos id - 1 - nx) i = true then lkp s.hp id else none) else none := rfl
theorem wrap64_in {x : Int} (h : -9223372036854775808 ≤ x ∧ x ≤ 9223372036854775807) : IntKind.i64.wrap x = x := by
  rw [IntKind.wrap_i64]; omega
theorem wrap64_of {x : Int} (h1 : -9223372036854775808 ≤ x) (h2 : x ≤ 9223372036854775807) : IntKind.i64.wrap x = x := wrap64_in ⟨h1, h2⟩
theorem toNat_sub_n (n m : Nat) : ((n : Int) - (m : Int)).toNat = n - m := by omega
theorem toNat_sub_1 (n : Nat) : ((n : Int) - 1).toNat = n - 1 := by omega
theorem toNat_add_1 (n : Nat) : ((n : Int) + 1).toNat = n + 1 := by omega
theorem all1 {α : Type} (f : α → PV) (l : List α) : (∀ y, y ∈ l.map (fun x => [f x]) → y.length = 1) = True := by simp
end
end Go.Am
