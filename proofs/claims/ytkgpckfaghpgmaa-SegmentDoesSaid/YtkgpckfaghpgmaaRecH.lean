/-
  Layer 3: the reader reads a record, and a record is got: contracts.
-/
import Derived.Test.YtkgpckfaghpgmaaRecG
set_option linter.unusedVariables false
set_option linter.unusedSimpArgs false
namespace Go.Proofs.Ytkgpckfaghpgmaa
open Go.RowKit
attribute [local go_sem] ByteArray.extract_mk ByteArray.mk_append_mk

theorem grown_own {a w : World} {row : Option Nat} (h : a.grownBy w row) {c : Nat} (hc : a.heap.size ≤ c) (i : Nat) (v : Value) : a.grownBy (w.setCell ⟨c, i, none⟩ v) row :=
  ⟨h.os, h.tape, h.output, by have := h.size; simpa [World.setCell] using this, fun k hk hne => (heap_setCell_other _ _ _ _ (by simp; omega)).trans (h.block k hk hne)⟩
theorem results_cell3 {P : Program} {fn : Func} {p u1 u2 : Tmp} {ty : TypeId} (h : fn.results = #[.cell p ty, .tmp u1, .tmp u2]) (tmps : Array Value) (w : World) (g : Nat) (t : TypeId) (cs : Array Value) (fr : Nat × Nat) (d : TypeDesc) (x1 x2 : Value)
    (hp : tmps.getD p undef = .pointer (some ⟨g, 0, none⟩)) (h1 : tmps.getD u1 undef = x1) (h2 : tmps.getD u2 undef = x2) (hg : w.heap[g]? = some (.cells cs t fr))
    (hu : P.underlying ty = some d) (hd : (match d with | .struct _ | .array _ _ => true | _ => false) = true) (hi : (P.info? ty).map (·.size) = some cs.size) :
    (results fn tmps).run P w = .ok (.tuple #[.agg cs, x1, x2]) w := by
  have hp' : tmps[p]?.getD undef = .pointer (some ⟨g, 0, none⟩) := by simpa using hp
  have h1' : tmps[u1]?.getD undef = x1 := by simpa using h1
  have h2' : tmps[u2]?.getD undef = x2 := by simpa using h2
  simp [results, h, hp', h1', h2', asAddr, run_loadVar_row w g t ty cs fr d hg hu hd hi]

end Go.Proofs.Ytkgpckfaghpgmaa
