/-
  Layer 3: the reader reads a batch's numbers: contract.
-/
import Derived.Test.YtkgpckfaghpgmaaRecH
import Derived.Test.YtkgpckfaghpgmaaRecO
set_option linter.unusedVariables false
set_option linter.unusedSimpArgs false
namespace Go.Proofs.Ytkgpckfaghpgmaa
open Go.RowKit
attribute [local go_sem] ByteArray.extract_mk ByteArray.mk_append_mk

def natCells (l : List Nat) : Array Value := (l.map fun n => Value.int .i64 (n : Nat)).toArray
theorem natCells_set (l : List Nat) (k n : Nat) : (natCells l).setIfInBounds k (.int .i64 (n : Nat)) = natCells (l.set k n) := by
  unfold natCells; simp [List.map_set]

end Go.Proofs.Ytkgpckfaghpgmaa
