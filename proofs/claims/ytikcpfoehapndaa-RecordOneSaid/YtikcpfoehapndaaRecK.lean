/-
  Layer 3: rows of records that a call owns; what holds between two rounds of Parse's loop.
-/
import Derived.Test.YtikcpfoehapndaaRecJ
import Derived.Deep.AppendLies
import Derived.Deep.RegionLaw
set_option linter.unusedVariables false
set_option linter.unusedSimpArgs false
namespace Go.Proofs.Ytikcpfoehapndaa
open Go.RowKit

theorem flat_get : ∀ (l : List Rec) (i j : Nat) (h : i < l.length), j < 4 → (l.flatMap Rec.cells)[i * 4 + j]? = (l[i].cells)[j]?
  | [], i, j, h, _ => by simp at h
  | r :: l, 0, j, h, hj => by
    simp only [List.flatMap_cons, Nat.zero_mul, Nat.zero_add, List.getElem_cons_zero]
    rw [List.getElem?_append_left (by simpa [Rec.cells] using hj)]
  | r :: l, i + 1, j, h, hj => by
    simp only [List.flatMap_cons, List.getElem_cons_succ]
    rw [List.getElem?_append_right (by simp [Rec.cells]; omega)]
    rw [← flat_get l i j (by simpa using h) hj]
    congr 1
    simp [Rec.cells]
    omega
theorem recs_own {w : World} {B : Nat} {v : Value} {l : List Rec} (h : w.ownsRow B 23 4 v l.length (l.flatMap Rec.cells)) : RecsIn w v l := by
  rcases id h.2 with ⟨rfl, h0⟩ | ⟨g, cap, cur, rfl, hbg, hg, rest⟩
  · exact .inl ⟨List.eq_nil_of_length_eq_zero h0, _, _, rfl⟩
  · by_cases hl : l = []
    · subst hl; exact .inl ⟨rfl, _, _, rfl⟩
    · refine .inr ⟨g, 0, cap, rfl, hl, (Array.getElem?_eq_some_iff.1 hg).1, fun i hi => ?_⟩
      have hc := h.cells (g := g) rfl
      have at_ : ∀ j u, j < 4 → (l[i].cells)[j]? = some u → w.cell? ⟨g, 0 + i * 4 + j, none⟩ = some u := fun j u hj hu => by
        have := hc (i * 4 + j) u (by rw [flat_get l i j hi hj]; exact hu)
        have hadd : ∀ j, (⟨g, 0, none⟩ : Addr).add j = ⟨g, j, none⟩ := fun j => by unfold Addr.add; split <;> simp_all
        rw [hadd] at this
        rw [Nat.zero_add]
        exact this
      exact ⟨at_ 0 _ (by omega) rfl, at_ 1 _ (by omega) rfl, at_ 2 _ (by omega) rfl, at_ 3 _ (by omega) rfl⟩
theorem own_ne {w : World} {B size n b : Nat} {e T : TypeId} {v : Value} {xs : List Value} {cs : Array Value} (h : w.ownsRow B e size v n xs) (hb : Blk w b cs T) (hT : T ≠ e) : some b ≠ v.ownBlock := by
  rcases h.2 with ⟨rfl, _⟩ | ⟨g, cap, cur, rfl, _, hg, _⟩
  · simp [Value.ownBlock]
  · intro e1
    simp only [Value.ownBlock, Option.some.injEq] at e1
    subst e1
    unfold Blk at hb
    rw [hg] at hb
    simp only [Option.some.injEq, Obj.cells.injEq] at hb
    exact hT hb.2.1.symm
theorem recInfo : (Try.prog.info? 23).map (fun i => (i.zero, i.size, i.bytes)) = some (some (.agg #[.bool false, .string (S []), .bool false, .string (S [])]), 4, 48) := by kernel_rfl

/-- The blocks of Parse: the result, the reader, the numbers, the batch; the batch's records lie in a row of its own. -/
structure PInv (w0 : World) (rb ab ob : Nat) (s : List UInt8) (x0 x1 x2 x3 : Nat) (a e : Int) (v : Value) (l : List Rec) (W : World) : Prop where
  rd : Rd W rb s a e
  ar : Blk W ab #[.int .i64 x0, .int .i64 x1, .int .i64 x2, .int .i64 x3] 68
  bt : Blk W ob #[.int .i64 x0, .int .i64 x1, .int .i64 x2, v] 26
  rs : Blk W w0.heap.size #[.int .i64 0, .int .i64 0, .int .i64 0, .slice none 0 0] 26
  own : W.ownsRow w0.heap.size 23 4 v l.length (l.flatMap Rec.cells)
  below : Below w0.heap.size w0 W
  h1 : w0.heap.size < rb
  h2 : rb < ab
  h3 : ab < ob

section
variable {w0 W W' : World} {rb ab ob : Nat} {s : List UInt8} {x0 x1 x2 x3 : Nat} {a e a' e' : Int} {v v' : Value} {l l' : List Rec}
theorem PInv.drew (h : PInv w0 rb ab ob s x0 x1 x2 x3 a e v l W) : PInv w0 rb ab ob s x0 x1 x2 x3 a e v l W.drew :=
  ⟨h.rd, h.ar, h.bt, h.rs, h.own, h.below.drew, h.h1, h.h2, h.h3⟩
theorem PInv.alloc (h : PInv w0 rb ab ob s x0 x1 x2 x3 a e v l W) (o : Obj) : PInv w0 rb ab ob s x0 x1 x2 x3 a e v l (W.alloc o) :=
  ⟨Blk.alloc h.rd o, h.ar.alloc o, h.bt.alloc o, h.rs.alloc o, h.own.alloc o, h.below.alloc h.below.size o, h.h1, h.h2, h.h3⟩
theorem PInv.call (h : PInv w0 rb ab ob s x0 x1 x2 x3 a e v l W) (hr : Rd W' rb s a' e') (hg : W.grownBy W' (some rb)) : PInv w0 rb ab ob s x0 x1 x2 x3 a' e' v l W' :=
  have k1 := h.h1
  have k2 := h.h2
  have k3 := h.h3
  ⟨hr, h.ar.grown hg (by simp; omega), h.bt.grown hg (by simp; omega), h.rs.grown hg (by simp; omega), h.own.kept hg (.inr (Ne.symm (own_ne h.own h.rd (by decide)))),
    below_own h.below (Nat.le_of_lt h.h1) h.below.size hg, h.h1, h.h2, h.h3⟩
theorem PInv.app (h : PInv w0 rb ab ob s x0 x1 x2 x3 a e v l W) (hg : W.grownBy W' v.ownBlock) (ho : W'.ownsRow w0.heap.size 23 4 v' l'.length (l'.flatMap Rec.cells)) :
    PInv w0 rb ab ob s x0 x1 x2 x3 a e v' l' (W'.setCell ⟨ob, 3, none⟩ v') := by
  have n1 := own_ne h.own h.rd (by decide)
  have n2 := own_ne h.own h.ar (by decide)
  have n3 := own_ne h.own h.bt (by decide)
  have n4 := own_ne h.own h.rs (by decide)
  have k1 := h.h1
  have k2 := h.h2
  have k3 := h.h3
  have B1 : Below w0.heap.size w0 W' := ⟨hg.os.trans h.below.os, hg.tape.trans h.below.tape, hg.output.trans h.below.output, Nat.le_trans h.below.size hg.size, fun k hk => (hg.block k (Nat.lt_of_lt_of_le hk h.below.size) (fun e1 => by have := (h.own.lt k e1.symm).1; omega)).trans (h.below.block k hk)⟩
  have hbt := h.bt.grown hg n3
  refine ⟨Blk.setOther (h.rd.grown hg n1) (by simp; omega) _, (h.ar.grown hg n2).setOther (by simp; omega) _, hbt.set 3 v', (h.rs.grown hg n4).setOther (by simp; omega) _, ?_, B1.setCell (p := ⟨ob, 3, none⟩) (by simp; omega) _, h.h1, h.h2, h.h3⟩
  exact ho.kept (row := some ob) (grown_set (grown_refl _ _) 3 v') (.inr (Ne.symm (own_ne ho hbt (by decide))))
end
end Go.Proofs.Ytikcpfoehapndaa
