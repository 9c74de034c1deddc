/-
  Layer 1: contracts of package varint's functions.
-/
import Derived.Test.YtkgpckfaghpgmaaProg
import Derived.Test.YtkgpckfaghpgmaaVarP
import Derived.Outline
import Derived.Lib.Hide
import Derived.IntWalk
set_option linter.unusedVariables false
set_option linter.unusedSimpArgs false
namespace Go.Proofs.Ytkgpckfaghpgmaa
open Go.RowKit
end Go.Proofs.Ytkgpckfaghpgmaa
