/-
  Blocks of memory that are known whole, and how they stay. No program in sight.
-/
import Derived.Test.YtkgpckfaghpgmaaVarQ
import Derived.WalkKit
import Derived.Laws.Rows
import Derived.Maps.AppendAt
import Derived.Maps.Range
import Derived.Deep.Draws
set_option linter.unusedVariables false
set_option linter.unusedSimpArgs false
namespace Go.Proofs.Ytkgpckfaghpgmaa
open Go.RowKit

theorem bcell {W w1 : World} (hb : Below W.heap.size W w1) : (∀ b o, b < W.heap.size → w1.cell? ⟨b, o, none⟩ = W.cell? ⟨b, o, none⟩) ∧ (∀ b o, b < W.heap.size → w1.frozen? ⟨b, o, none⟩ = W.frozen? ⟨b, o, none⟩) :=
  ⟨fun b o h => hb.cell (p := ⟨b, o, none⟩) h, fun b o h => hb.frozen (p := ⟨b, o, none⟩) h⟩
theorem below_all {w W : World} {o : Obj} (h : Below w.heap.size w W) : Below w.heap.size w (W.alloc o) := h.alloc h.size o

theorem belowN {B : Nat} {a w : World} (h : Below B a w) (n : Nat) : Below B a (w.drewN n) := h.trans ⟨rfl, rfl, rfl, Nat.le_refl _, fun _ _ => rfl⟩

/-- Block b is just these cells, none of them frozen. -/
def Blk (w : World) (b : Nat) (cs : Array Value) (T : TypeId) : Prop := w.heap[b]? = some (.cells cs T (0, 0))
section
variable {w W : World} {b : Nat} {cs : Array Value} {T : TypeId}
theorem Blk.lt (h : Blk w b cs T) : b < w.heap.size := (Array.getElem?_eq_some_iff.1 h).1
theorem Blk.old (w : World) (o : Obj) (b : Nat) (h : b < w.heap.size) : (w.alloc o).heap[b]? = w.heap[b]? := ((Below.refl w.heap.size w).alloc (Nat.le_refl _) o).block b h
theorem Blk.new (w : World) (cs : Array Value) (T : TypeId) : Blk (w.alloc (.cells cs T)) w.heap.size cs T := by unfold Blk; exact heap_alloc_new w _
theorem Blk.below (h : Blk w b cs T) (hb : Below w.heap.size w W) : Blk W b cs T := (hb.block _ h.lt).trans h
theorem Blk.alloc (h : Blk w b cs T) (o : Obj) : Blk (w.alloc o) b cs T := (Blk.old w o b h.lt).trans h
theorem Blk.drew (h : Blk w b cs T) : Blk w.drew b cs T := h
theorem Blk.grown {row : Option Nat} (h : Blk w b cs T) (hg : w.grownBy W row) (hne : some b ≠ row) : Blk W b cs T := (hg.block b h.lt hne).trans h
theorem Blk.set (h : Blk w b cs T) (i : Nat) (v : Value) : Blk (w.setCell ⟨b, i, none⟩ v) b (cs.setIfInBounds i v) T := heap_setCell_same w b i cs T v h
theorem Blk.setOther {a : Addr} (h : Blk w b cs T) (hne : b ≠ a.block) (v : Value) : Blk (w.setCell a v) b cs T := (heap_setCell_other w a b v hne).trans h
theorem Blk.cell (h : Blk w b cs T) (i : Nat) : w.cell? ⟨b, i, none⟩ = cs[i]? := cell_of_row w b i cs T (0, 0) h
theorem Blk.frozen (h : Blk w b cs T) (i : Nat) : w.frozen? ⟨b, i, none⟩ = false := frozen_of_row w b i cs T h
end
theorem grown_set {a w : World} {b : Nat} (h : a.grownBy w (some b)) (i : Nat) (v : Value) : a.grownBy (w.setCell ⟨b, i, none⟩ v) (some b) :=
  h.trans ⟨rfl, rfl, rfl, by simp [World.setCell], fun k _ hk => heap_setCell_other _ _ _ _ (fun e => hk (by rw [e]))⟩
theorem grown_drew {a w : World} {row : Option Nat} (h : a.grownBy w row) : a.grownBy w.drew row := ⟨h.os, h.tape, h.output, h.size, h.block⟩
theorem grown_alloc {a w : World} {row : Option Nat} (h : a.grownBy w row) (o : Obj) : a.grownBy (w.alloc o) row := h.trans (World.grownBy_alloc w o row)
theorem grown_refl (w : World) (row : Option Nat) : w.grownBy w row := ⟨rfl, rfl, rfl, Nat.le_refl _, fun _ _ _ => rfl⟩
theorem grown_below {a w W : World} {row : Option Nat} (h : a.grownBy w row) (hb : Below w.heap.size w W) : a.grownBy W row := h.trans ⟨hb.os, hb.tape, hb.output, hb.size, fun i hi _ => hb.block i hi⟩
/-- A block that the call has laid itself may be written. -/
theorem below_own {B : Nat} {a w W : World} {b : Nat} (h : Below B a w) (hB : B ≤ b) (hBw : B ≤ w.heap.size) (hg : w.grownBy W (some b)) : Below B a W :=
  ⟨hg.os.trans h.os, hg.tape.trans h.tape, hg.output.trans h.output, Nat.le_trans h.size hg.size, fun k hk => (hg.block k (by omega) (fun e => by cases e; omega)).trans (h.block k hk)⟩
theorem Blk.c1 {w : World} {b : Nat} {T : TypeId} {x0 : Value} (h : Blk w b #[x0] T) : b < w.heap.size ∧ w.cell? ⟨b, 0, none⟩ = some x0 := ⟨h.lt, h.cell 0⟩
theorem Blk.c2 {w : World} {b : Nat} {T : TypeId} {x0 x1 : Value} (h : Blk w b #[x0, x1] T) : b < w.heap.size ∧ w.cell? ⟨b, 0, none⟩ = some x0 ∧ w.cell? ⟨b, 1, none⟩ = some x1 := ⟨h.lt, h.cell 0, h.cell 1⟩
theorem Blk.c3 {w : World} {b : Nat} {T : TypeId} {x0 x1 x2 : Value} (h : Blk w b #[x0, x1, x2] T) : b < w.heap.size ∧ w.cell? ⟨b, 0, none⟩ = some x0 ∧ w.cell? ⟨b, 1, none⟩ = some x1 ∧ w.cell? ⟨b, 2, none⟩ = some x2 := ⟨h.lt, h.cell 0, h.cell 1, h.cell 2⟩
theorem Blk.c4 {w : World} {b : Nat} {T : TypeId} {x0 x1 x2 x3 : Value} (h : Blk w b #[x0, x1, x2, x3] T) : b < w.heap.size ∧ w.cell? ⟨b, 0, none⟩ = some x0 ∧ w.cell? ⟨b, 1, none⟩ = some x1 ∧ w.cell? ⟨b, 2, none⟩ = some x2 ∧ w.cell? ⟨b, 3, none⟩ = some x3 := ⟨h.lt, h.cell 0, h.cell 1, h.cell 2, h.cell 3⟩
end Go.Proofs.Ytkgpckfaghpgmaa
