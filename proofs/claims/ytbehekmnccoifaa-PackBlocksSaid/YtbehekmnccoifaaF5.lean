/-
  Four answers.
-/
import Derived.Test.YtbehekmnccoifaaF4
namespace Go.Am
theorem ret4 {P : Program} {s : LS} {fn : Func} {t u v w : Nat} {x y z a : AV} {r q p o : PV} (hf : fn.results = #[.tmp t, .tmp u, .tmp v, .tmp w]) (h : lkp s.sl t = some x) (h2 : lkp s.sl u = some y) (h3 : lkp s.sl v = some z) (h4 : lkp s.sl w = some a)
    (hr : ResA s.hp x r) (hr2 : ResA s.hp y q) (hr3 : ResA s.hp z p) (hr4 : ResA s.hp a o) : retK P fn (.tup [r, q, p, o]) .ret s := by
  show resR P s fn.results.toList _
  rw [hf]; exact ⟨_, rfl, ⟨x, h, hr⟩, ⟨y, h2, hr2⟩, ⟨z, h3, hr3⟩, ⟨a, h4, hr4⟩, trivial⟩
theorem reth4 {P : Program} {s : LS} {fn : Func} {hp' : List (Nat × Blk)} {t u x w : Nat} {r0 q0 z0 w0 r : AV} (hf : fn.results = #[.tmp t, .tmp u, .tmp x, .tmp w]) (h : lkp s.sl t = some r0) (h2 : lkp s.sl u = some q0) (h3 : lkp s.sl x = some z0) (h4 : lkp s.sl w = some w0) (hle : LE ⟨[(0, .tup [r0, q0, z0, w0])], s.hp, s.nx⟩ ⟨[(0, r)], hp', 1⟩) : retH P fn r hp' .ret s := by
  refine ⟨_, ?_, hle⟩
  rw [hf]; exact ⟨_, rfl, h, h2, h3, h4, trivial⟩
end Go.Am
