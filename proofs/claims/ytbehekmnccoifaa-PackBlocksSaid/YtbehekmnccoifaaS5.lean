/-
  A pass.
-/
import Derived.Test.YtbehekmnccoifaaS4
set_option linter.unusedSimpArgs false
set_option linter.unusedVariables false
set_option maxRecDepth 100000
namespace Go.Proofs.Ytbehekmnccoifaa
open Go.Am Go.Proofs


end Go.Proofs.Ytbehekmnccoifaa
