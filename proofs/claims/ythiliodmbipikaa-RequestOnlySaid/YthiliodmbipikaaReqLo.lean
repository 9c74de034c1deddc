/-
  Layer 4's statements: three copies of a command, laid in new blocks.
-/
import Derived.Test.YthiliodmbipikaaReqLw
import Derived.Laws.CopyOwn
set_option linter.unusedVariables false
set_option linter.unusedSimpArgs false
namespace Go.Proofs.Ythiliodmbipikaa
open Go.RowKit

section
variable {w2 W3 : World} {T : TypeId} {z A : Array Value} {x3 x4 x5 : Nat}
theorem three_new (w2 : World) (z : Array Value) (T : TypeId) : Below w2.heap.size w2 (((w2.alloc (.cells z T)).alloc (.cells z T)).alloc (.cells z T)).drew ∧
    Blk (((w2.alloc (.cells z T)).alloc (.cells z T)).alloc (.cells z T)).drew w2.heap.size z T ∧ Blk (((w2.alloc (.cells z T)).alloc (.cells z T)).alloc (.cells z T)).drew (w2.heap.size + 1) z T ∧
    Blk (((w2.alloc (.cells z T)).alloc (.cells z T)).alloc (.cells z T)).drew (w2.heap.size + 1 + 1) z T := by
  obtain ⟨W, e, B, X, Y, Z, _⟩ := start3 w2 z z z T T T
  rw [e]
  exact ⟨B.drew, X, Y, Z⟩
theorem Blk.row (h : Blk W3 x3 z T) (A : Array Value) : Blk (W3.setRow x3 A) x3 A T := setRow_heap W3 x3 z A T (0, 0) h
theorem Blk.rowOther (h : Blk W3 x4 z T) (hn : x4 ≠ x3) (A : Array Value) : Blk (W3.setRow x3 A) x4 z T := (setRow_other W3 x3 x4 A hn).trans h
theorem stores3 (B : Below w2.heap.size w2 W3) (h3 : Blk W3 x3 z T) (h4 : Blk W3 x4 z T) (h5 : Blk W3 x5 z T) (n1 : x3 ≠ x4) (n2 : x3 ≠ x5) (n3 : x4 ≠ x5) (l3 : w2.heap.size ≤ x3) (l4 : w2.heap.size ≤ x4) (l5 : w2.heap.size ≤ x5) (A : Array Value) :
    (Below w2.heap.size w2 (W3.setRow x3 A) ∧ Blk (W3.setRow x3 A) x4 z T) ∧ (Below w2.heap.size w2 ((W3.setRow x3 A).setRow x4 A) ∧ Blk ((W3.setRow x3 A).setRow x4 A) x5 z T) ∧
    Below w2.heap.size w2 (((W3.setRow x3 A).setRow x4 A).setRow x5 A) ∧ Blk (((W3.setRow x3 A).setRow x4 A).setRow x5 A) x3 A T ∧ Blk (((W3.setRow x3 A).setRow x4 A).setRow x5 A) x4 A T ∧ Blk (((W3.setRow x3 A).setRow x4 A).setRow x5 A) x5 A T := by
  have B1 := below_setRow B l3 A
  have B2 := below_setRow B1 l4 A
  have B3 := below_setRow B2 l5 A
  have a4 := h4.rowOther (Ne.symm n1) A
  have a5 := (h5.rowOther (Ne.symm n2) A).rowOther (Ne.symm n3) A
  exact ⟨⟨B1, a4⟩, ⟨B2, a5⟩, B3, (((h3.row A).rowOther n1 A).rowOther n2 A), ((a4.row A).rowOther n3 A), a5.row A⟩
/-- One thing turned in each of three copies. -/
theorem turn3 {c : Cmd} {rv tv : Value} {W : World} (B : Below w2.heap.size w2 W) (h3 : Blk W x3 (c.arr rv tv) 29) (h4 : Blk W x4 (c.arr rv tv) 29) (h5 : Blk W x5 (c.arr rv tv) 29) (n1 : x3 ≠ x4) (n2 : x3 ≠ x5) (n3 : x4 ≠ x5)
    (l3 : w2.heap.size ≤ x3) (l4 : w2.heap.size ≤ x4) (l5 : w2.heap.size ≤ x5) (k G : Int) (b : Bool) :
    ∃ V, ((W.setCell ⟨x3, 0, none⟩ (.int .i64 k)).setCell ⟨x4, 11, none⟩ (.int .i64 G)).setCell ⟨x5, 12, none⟩ (.bool b) = V ∧ Below w2.heap.size w2 V ∧
      Blk V x3 (({ c with kind := k } : Cmd).arr rv tv) 29 ∧ Blk V x4 (({ c with gen := G } : Cmd).arr rv tv) 29 ∧ Blk V x5 (({ c with robin := b } : Cmd).arr rv tv) 29 := by
  refine ⟨_, rfl, ((B.setCell (p := ⟨x3, 0, none⟩) l3 _).setCell (p := ⟨x4, 11, none⟩) l4 _).setCell (p := ⟨x5, 12, none⟩) l5 _, ?_, ?_, ?_⟩
  · exact ((h3.set 0 (.int .i64 k)).setOther (a := ⟨x4, 11, none⟩) n1 _).setOther (a := ⟨x5, 12, none⟩) n2 _
  · exact ((h4.setOther (a := ⟨x3, 0, none⟩) (Ne.symm n1) _).set 11 (.int .i64 G)).setOther (a := ⟨x5, 12, none⟩) n3 _
  · exact ((h5.setOther (a := ⟨x3, 0, none⟩) (Ne.symm n2) _).setOther (a := ⟨x4, 11, none⟩) (Ne.symm n3) _).set 12 (.bool b)
theorem arr_one (c : Cmd) (ra ta : Option Addr) (n1 c1 n2 c2 : Nat) : (c.arr (.slice ra n1 c1) (.slice ta n2 c2)).all (·.oneCell') = true := by simp [Cmd.arr, Value.oneCell']
end
end Go.Proofs.Ythiliodmbipikaa
