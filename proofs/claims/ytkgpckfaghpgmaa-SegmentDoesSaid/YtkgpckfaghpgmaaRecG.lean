/-
  Layer 3: the reader's methods: contracts.
-/
import Derived.Test.YtkgpckfaghpgmaaRecN
import Derived.Test.YtkgpckfaghpgmaaText1
import Derived.Deep.RegionHeld3
import Derived.Deep.QuietTactic
import Derived.BigQuiet
set_option linter.unusedVariables false
set_option linter.unusedSimpArgs false
namespace Go.Proofs.Ytkgpckfaghpgmaa
open Go.RowKit
attribute [local go_sem] ByteArray.extract_mk ByteArray.mk_append_mk

theorem Blk.dN {w : World} {b n : Nat} {cs : Array Value} {T : TypeId} (h : Blk w b cs T) : Blk (w.drewN n) b cs T := h
theorem grown_dN {a w : World} {n : Nat} {row : Option Nat} (h : a.grownBy w row) : a.grownBy (w.drewN n) row := ⟨h.os, h.tape, h.output, h.size, h.block⟩
end Go.Proofs.Ytkgpckfaghpgmaa
