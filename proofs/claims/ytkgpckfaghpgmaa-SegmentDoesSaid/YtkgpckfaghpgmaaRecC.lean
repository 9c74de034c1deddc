/-
  Layer 3: whether a batch may be: contracts.
-/
import Derived.Test.YtkgpckfaghpgmaaRecB
import Derived.Test.YtkgpckfaghpgmaaRecM
set_option linter.unusedVariables false
set_option linter.unusedSimpArgs false
namespace Go.Proofs.Ytkgpckfaghpgmaa
open Go.RowKit
end Go.Proofs.Ytkgpckfaghpgmaa
