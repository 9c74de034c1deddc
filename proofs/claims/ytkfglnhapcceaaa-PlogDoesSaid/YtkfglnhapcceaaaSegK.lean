import Derived.Test.YtkfglnhapcceaaaSegV
/-
  Layer 5: the document's segment, as it lies in memory; a new one, one loaded, its bytes and its index.
-/
set_option linter.unusedVariables false
set_option linter.unusedSimpArgs false
namespace Go.Proofs.Ytkfglnhapcceaaa
open Go.RowKit
attribute [local go_sem] ByteArray.extract_mk ByteArray.mk_append_mk

/-- The document's segment, as it lies in memory. -/
def RSegAt (w : World) (p : Nat) (base next : Int) (l : List Fnd) : Prop := ∃ lv, Blk w p #[.int .i64 base, .int .i64 next, lv] 100 ∧ FndsIn w lv l
theorem RSegAt.below {w W : World} {p : Nat} {base next : Int} {l : List Fnd} (h : RSegAt w p base next l) (hb : Below w.heap.size w W) : RSegAt W p base next l := by
  obtain ⟨lv, h1, h2⟩ := h
  exact ⟨lv, h1.below hb, h2.below hb⟩

end Go.Proofs.Ytkfglnhapcceaaa
