/-
  strings.Builder, as the program's dump has it: copyCheck and WriteString, walked here; String by the shelf.
  (Turned from the kit's worked proofs of the same methods: this dump's copyCheck refuses where theirs panics.)
-/
import Derived.Test.YthiliodmbipikaaGreatVarX
import Derived.Test.YthiliodmbipikaaGreatBase
import Derived.Test.YthiliodmbipikaaGreatShelf
import Derived.Shelf.Strings.BuilderK
set_option linter.unusedVariables false
set_option linter.unusedSimpArgs false
namespace Go.Proofs.YthiliodmbipikaaGreat
open Go.RowKit

theorem bInfo : (Tryz.prog.info? 88).map (·.size) = some 2 := by kernel_rfl
theorem u8Info : (Tryz.prog.info? 5).map (fun i => (i.zero, i.size, i.bytes)) = some (some (.int .u8 0), 1, 1) := by kernel_rfl

set_option maxHeartbeats 1000000 in
set_option maxRecDepth 100000 in
theorem copyCheck_used (b : Nat) (w : World) (h0 : w.cell? ⟨b, 0, none⟩ = some (.pointer (some ⟨b, 0, none⟩))) :
    Calls Tryz.prog 65 #[.pointer (some ⟨b, 0, none⟩)] w fun e w' => e = .returned (.tuple #[]) ∧ w' = w := by
  obtain ⟨j, hj, _⟩ := Option.map_eq_some_iff.1 bInfo
  go_enter Tryz.func65, Tryz.ntmps65
  go_wp2
  rw [Lib.run_neq_ptr_same w _ Tryz.underlying85 hj]
  go_wp2
  go_end0
  exact ⟨rfl, rfl⟩

set_option maxHeartbeats 1000000 in
set_option maxRecDepth 100000 in
theorem copyCheck_fresh (T : TypeId) (b : Nat) (w : World) (h0 : w.cell? ⟨b, 0, none⟩ = some (.pointer none)) (hsh : w.shape? b = some (T, 2)) (hfz : w.frozen? ⟨b, 0, none⟩ = false)
    (hlies : liesAt Tryz.prog Tryz.prog.depth T (2 / Tryz.prog.cellsOf T) 0 88 1 = true) :
    Calls Tryz.prog 65 #[.pointer (some ⟨b, 0, none⟩)] w fun e w' => e = .returned (.tuple #[]) ∧ w' = w.setCell ⟨b, 0, none⟩ (.pointer (some ⟨b, 0, none⟩)) := by
  obtain ⟨j, hj, hjs⟩ := Option.map_eq_some_iff.1 bInfo
  have r1 := Lib.run_to_unsafe (P := Tryz.prog) w (src := 85) (dst := 136) ⟨b, 0, none⟩ Tryz.underlying85 Tryz.underlying136 hj (by rw [hjs]; decide) hsh (Nat.zero_lt_succ 1)
  have r2 : ∀ x, (callFunc 75 #[x]).run Tryz.prog w = .ok (.value x) w := fun x => by
    rw [run_callFunc_extern Tryz.func75 (by kernel_rfl) (by kernel_rfl) (by kernel_rfl) (e := Extern.AbiNoEscape.same) (by kernel_rfl), Lib.run_noEscape]
    rfl
  have r3 := Lib.run_from_unsafe (P := Tryz.prog) w (src := 136) (dst := 85) ⟨b, 0, none⟩ Tryz.underlying136 Tryz.underlying85 hj hsh hlies
  go_enter Tryz.func65, Tryz.ntmps65
  go_wp2
  go_end0
  exact ⟨rfl, rfl⟩

theorem copyCheck_k (T : TypeId) (B b : Nat) (bs : List Value) (w : World) (h : Lib.IsBuilderF T 5 B b bs w) (hlies : liesAt Tryz.prog Tryz.prog.depth T (2 / Tryz.prog.cellsOf T) 0 88 1 = true) :
    Calls Tryz.prog 65 #[.pointer (some ⟨b, 0, none⟩)] w fun e w' => e = .returned (.tuple #[]) ∧ (Lib.BuilderAtF T 5 B b (.pointer (some ⟨b, 0, none⟩)) bs w' ∧ Below B w w' ∧ Lib.OthersKept 5 (some b) w w') := by
  rcases h with h | h
  · refine (copyCheck_fresh T b w h.cell0 h.shape h.frozen0 hlies).mono ?_
    rintro e w' ⟨rfl, rfl⟩
    exact ⟨rfl, h.used _, (Below.refl B w).setCell (p := ⟨b, 0, none⟩) h.1 _, (Lib.OthersKept.refl _ _ w).setCell ⟨b, 0, none⟩ rfl _⟩
  · refine (copyCheck_used b w h.cell0).mono ?_
    rintro e w' ⟨rfl, rfl⟩
    exact ⟨rfl, h, Below.refl B _, Lib.OthersKept.refl _ _ _⟩

set_option maxHeartbeats 2000000 in
set_option maxRecDepth 100000 in
theorem writeString_k (T : TypeId) (hT : T ≠ 5) (hlies : liesAt Tryz.prog Tryz.prog.depth T (2 / Tryz.prog.cellsOf T) 0 88 1 = true) (B b : Nat) (bs : List Value) (s : ByteArray) (w : World) (h : Lib.IsBuilderF T 5 B b bs w) (hlen : bs.length + s.size ≤ 140737488355328) (hBw : B ≤ w.heap.size) :
    Calls Tryz.prog 39 #[.pointer (some ⟨b, 0, none⟩), .string s] w fun e w' => e = .returned (.tuple #[.int .i64 s.size, .nilIface]) ∧ (Lib.BuilderAtF T 5 B b (.pointer (some ⟨b, 0, none⟩)) (bs ++ Lib.strCells s) w' ∧ Below B w w' ∧ Lib.OthersKept 5 (some b) w w') := by
  obtain ⟨i0, hi, hz0, hz1, hz2⟩ := info_parts u8Info
  go_enter Tryz.func39, Tryz.ntmps39
  go_wp2_with (go_at_call 65; refine (copyCheck_k T B b bs _ h hlies).mono ?_)
  rintro e w1 ⟨rfl, h1, hb1, hk1⟩
  obtain ⟨hB, v, hbk, hown, hne⟩ := h1
  have c0 : w1.cell? ⟨b, 0, none⟩ = some (.pointer (some ⟨b, 0, none⟩)) := by rw [Lib.cell_of_heap hbk]; rfl
  have c1 : w1.cell? ⟨b, 1, none⟩ = some v := by rw [Lib.cell_of_heap hbk]; rfl
  go_wp2_with (at_builtin; refine Lib.wpList_append_own_stringF _ rfl _ _ 86 9 rfl B 5 i0 Tryz.underlying86 Tryz.underlying9 hi hz0 hz1 hz2 _ _ _ rfl hown s rfl ?c3 ?c4 ?c5 ?_)
  case c3 => unfold maxLen; omega
  case c4 => omega
  case c5 => have := hb1.size; omega
  intro v' w2 hown' hgrow _
  have hlt : b < w1.heap.size := by
    rcases Nat.lt_or_ge b w1.heap.size with h' | h'
    · exact h'
    · simp [Array.getElem?_eq_none h'] at hbk
  have hb2 : w2.heap[b]? = some (.cells #[.pointer (some ⟨b, 0, none⟩), v] T (0, 0)) := by
    rw [hgrow.block b hlt (fun e => hne e.symm)]
    exact hbk
  have d0 : w2.cell? ⟨b, 0, none⟩ = some (.pointer (some ⟨b, 0, none⟩)) := by rw [Lib.cell_of_heap hb2]; rfl
  have d1 : w2.cell? ⟨b, 1, none⟩ = some v := by rw [Lib.cell_of_heap hb2]; rfl
  have f1 : w2.frozen? ⟨b, 1, none⟩ = false := Lib.frozen_of_heap hb2 1
  obtain ⟨ao, n', cap, rfl⟩ : ∃ ao n' cap, v' = .slice ao n' cap := by
    rcases hown'.2 with ⟨hv, _⟩ | ⟨g, cap, cur, fz, hv, _⟩
    · exact ⟨_, _, _, hv⟩
    · exact ⟨_, _, _, hv⟩
  go_wp2
  go_ret2
  refine ⟨rfl, ?_, ?_, (hk1.grown hgrow (Lib.ownsRowF_kind hown)).setCell ⟨b, 1, none⟩ rfl _⟩
  · exact Lib.BuilderAtF.put (T := T) (e := 5) hB hb2 (bs' := bs ++ Lib.strCells s) (by simpa [Lib.strCells_length] using hown') hT
  · exact (hb1.grown hgrow (by have := hb1.size; omega) (fun k hk => (hown.lt k hk).1)).setCell (p := ⟨b, 1, none⟩) hB _

/-- A builder of the call's own, of blocks from B on, that holds these bytes. -/
def Bld (T : TypeId) (B b : Nat) (l : List UInt8) (w : World) : Prop := Lib.IsBuilderF T 5 B b (Lib.byteCells l) w
/-- What the builder's methods keep: all blocks but the builder's own, and rows of bytes. -/
def BKept (b : Nat) (w w' : World) : Prop := Lib.OthersKept 5 (some b) w w'
theorem Blk.kept {w w' : World} {b c : Nat} {cs : Array Value} {T : TypeId} (h : Blk w c cs T) (hk : BKept b w w') (hne : c ≠ b) (hT : T ≠ 5) : Blk w' c cs T :=
  hk c _ h (fun e => hne (Option.some.inj e)) (fun c' fz e => by cases e; exact hT rfl)
theorem Bld.fresh (T : TypeId) (B : Nat) (w : World) (hB : B ≤ w.heap.size) : Bld T B w.heap.size [] (w.alloc (.cells #[.pointer none, .slice none 0 0] T)) := by
  refine .inl (Lib.BuilderAtF.of ⟨hB, .slice none 0 0, heap_alloc_new w _, World.ownsRow_nil _ _ _ _, by simp [Value.ownBlock]⟩)
theorem Bld.alloc {T : TypeId} {B b : Nat} {l : List UInt8} {w : World} (h : Bld T B b l w) (o : Obj) : Bld T B b l (w.alloc o) := Lib.IsBuilderF.alloc h o
theorem grown_of_below {w W : World} (hb : Below w.heap.size w W) : w.grownBy W none := ⟨hb.os, hb.tape, hb.output, hb.size, fun i hi _ => hb.block i hi⟩
theorem bldAt_below {T : TypeId} {B b : Nat} {p : Value} {bs : List Value} {w W : World} (h : Lib.BuilderAtF T 5 B b p bs w) (hb : Below w.heap.size w W) : Lib.BuilderAtF T 5 B b p bs W := by
  have hlt := h.lt
  obtain ⟨hB, v, hbk, hown, hne⟩ := h
  exact ⟨hB, v, (hb.block b hlt).trans hbk, hown.kept (grown_of_below hb) (by cases hv : v.ownBlock <;> simp), hne⟩
theorem Bld.below {T : TypeId} {B b : Nat} {l : List UInt8} {w W : World} (h : Bld T B b l w) (hb : Below w.heap.size w W) : Bld T B b l W :=
  h.elim (fun x => .inl (bldAt_below x hb)) (fun x => .inr (bldAt_below x hb))
theorem Bld.lt {T : TypeId} {B b : Nat} {l : List UInt8} {w : World} (h : Bld T B b l w) : b < w.heap.size := h.elim (·.lt) (·.lt)
theorem strCells_S (l : List UInt8) : Lib.strCells (S l) = Lib.byteCells l := rfl
/-- WriteString: what is behind is behind what was there. -/
theorem bwrite (T : TypeId) (hT : T ≠ 5) (hlies : liesAt Tryz.prog Tryz.prog.depth T (2 / Tryz.prog.cellsOf T) 0 88 1 = true) {B b : Nat} {l : List UInt8} (m : List UInt8) {w : World} (h : Bld T B b l w) (hlen : l.length + m.length ≤ 140737488355328) (hBw : B ≤ w.heap.size) {R : Ending → World → Prop}
    (k : ∀ w', Bld T B b (l ++ m) w' → Below B w w' → BKept b w w' → R (.returned (.tuple #[.int .i64 m.length, .nilIface])) w') :
    Calls Tryz.prog 39 #[.pointer (some ⟨b, 0, none⟩), .string (S m)] w R := by
  refine (writeString_k T hT hlies B b _ (S m) w h (by rw [Lib.byteCells_length, S_size]; exact hlen) hBw).mono ?_
  rintro e w' ⟨rfl, h1, h2, h3⟩
  rw [S_size]
  refine k w' (.inr ?_) h2 h3
  rw [strCells_S, ← Lib.byteCells_append] at h1
  exact h1
end Go.Proofs.YthiliodmbipikaaGreat
