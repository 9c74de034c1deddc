import Derived.Test.YtkfglnhapcceaaaRecP1
import Derived.Test.YtkfglnhapcceaaaVarX
import Derived.Deep.RegionHeld3
import Derived.Deep.QuietTactic
import Derived.BigQuiet
import Derived.Deep.AppendLies
import Derived.Deep.RegionLaw
/-
  Several texts in one: RecG, RecH, RecJ, RecK.
-/
set_option linter.unusedVariables false
set_option linter.unusedSimpArgs false
namespace Go.Proofs.Ytkfglnhapcceaaa
open Go.RowKit
attribute [local go_sem] ByteArray.extract_mk ByteArray.mk_append_mk

theorem Blk.dN {w : World} {b n : Nat} {cs : Array Value} {T : TypeId} (h : Blk w b cs T) : Blk (w.drewN n) b cs T := h
theorem grown_dN {a w : World} {n : Nat} {row : Option Nat} (h : a.grownBy w row) : a.grownBy (w.drewN n) row := ⟨h.os, h.tape, h.output, h.size, h.block⟩
end Go.Proofs.Ytkfglnhapcceaaa

set_option linter.unusedVariables false
set_option linter.unusedSimpArgs false
namespace Go.Proofs.Ytkfglnhapcceaaa
open Go.RowKit
attribute [local go_sem] ByteArray.extract_mk ByteArray.mk_append_mk

theorem grown_own {a w : World} {row : Option Nat} (h : a.grownBy w row) {c : Nat} (hc : a.heap.size ≤ c) (i : Nat) (v : Value) : a.grownBy (w.setCell ⟨c, i, none⟩ v) row :=
  ⟨h.os, h.tape, h.output, by have := h.size; simpa [World.setCell] using this, fun k hk hne => (heap_setCell_other _ _ _ _ (by simp; omega)).trans (h.block k hk hne)⟩
theorem results_cell3 {P : Program} {fn : Func} {p u1 u2 : Tmp} {ty : TypeId} (h : fn.results = #[.cell p ty, .tmp u1, .tmp u2]) (tmps : Array Value) (w : World) (g : Nat) (t : TypeId) (cs : Array Value) (fr : Nat × Nat) (d : TypeDesc) (x1 x2 : Value)
    (hp : tmps.getD p undef = .pointer (some ⟨g, 0, none⟩)) (h1 : tmps.getD u1 undef = x1) (h2 : tmps.getD u2 undef = x2) (hg : w.heap[g]? = some (.cells cs t fr))
    (hu : P.underlying ty = some d) (hd : (match d with | .struct _ | .array _ _ => true | _ => false) = true) (hi : (P.info? ty).map (·.size) = some cs.size) :
    (results fn tmps).run P w = .ok (.tuple #[.agg cs, x1, x2]) w := by
  have hp' : tmps[p]?.getD undef = .pointer (some ⟨g, 0, none⟩) := by simpa using hp
  have h1' : tmps[u1]?.getD undef = x1 := by simpa using h1
  have h2' : tmps[u2]?.getD undef = x2 := by simpa using h2
  simp [results, h, hp', h1', h2', asAddr, run_loadVar_row w g t ty cs fr d hg hu hd hi]

end Go.Proofs.Ytkfglnhapcceaaa

set_option linter.unusedVariables false
set_option linter.unusedSimpArgs false
namespace Go.Proofs.Ytkfglnhapcceaaa
open Go.RowKit
attribute [local go_sem] ByteArray.extract_mk ByteArray.mk_append_mk

def natCells (l : List Nat) : Array Value := (l.map fun n => Value.int .i64 (n : Nat)).toArray
theorem natCells_set (l : List Nat) (k n : Nat) : (natCells l).setIfInBounds k (.int .i64 (n : Nat)) = natCells (l.set k n) := by
  unfold natCells; simp [List.map_set]

end Go.Proofs.Ytkfglnhapcceaaa

set_option linter.unusedVariables false
set_option linter.unusedSimpArgs false
namespace Go.Proofs.Ytkfglnhapcceaaa
open Go.RowKit

theorem flat_get : ∀ (l : List Rec) (i j : Nat) (h : i < l.length), j < 4 → (l.flatMap Rec.cells)[i * 4 + j]? = (l[i].cells)[j]?
  | [], i, j, h, _ => by simp at h
  | r :: l, 0, j, h, hj => by
    simp only [List.flatMap_cons, Nat.zero_mul, Nat.zero_add, List.getElem_cons_zero]
    rw [List.getElem?_append_left (by simpa [Rec.cells] using hj)]
  | r :: l, i + 1, j, h, hj => by
    simp only [List.flatMap_cons, List.getElem_cons_succ]
    rw [List.getElem?_append_right (by simp [Rec.cells]; omega)]
    rw [← flat_get l i j (by simpa using h) hj]
    congr 1
    simp [Rec.cells]
    omega
theorem recs_own {w : World} {B : Nat} {v : Value} {l : List Rec} (h : w.ownsRow B 29 4 v l.length (l.flatMap Rec.cells)) : RecsIn w v l := by
  rcases id h.2 with ⟨rfl, h0⟩ | ⟨g, cap, cur, rfl, hbg, hg, rest⟩
  · exact .inl ⟨List.eq_nil_of_length_eq_zero h0, _, _, rfl⟩
  · by_cases hl : l = []
    · subst hl; exact .inl ⟨rfl, _, _, rfl⟩
    · refine .inr ⟨g, 0, cap, rfl, hl, (Array.getElem?_eq_some_iff.1 hg).1, fun i hi => ?_⟩
      have hc := h.cells (g := g) rfl
      have at_ : ∀ j u, j < 4 → (l[i].cells)[j]? = some u → w.cell? ⟨g, 0 + i * 4 + j, none⟩ = some u := fun j u hj hu => by
        have := hc (i * 4 + j) u (by rw [flat_get l i j hi hj]; exact hu)
        have hadd : ∀ j, (⟨g, 0, none⟩ : Addr).add j = ⟨g, j, none⟩ := fun j => by unfold Addr.add; split <;> simp_all
        rw [hadd] at this
        rw [Nat.zero_add]
        exact this
      exact ⟨at_ 0 _ (by omega) rfl, at_ 1 _ (by omega) rfl, at_ 2 _ (by omega) rfl, at_ 3 _ (by omega) rfl⟩
theorem own_ne {w : World} {B size n b : Nat} {e T : TypeId} {v : Value} {xs : List Value} {cs : Array Value} (h : w.ownsRow B e size v n xs) (hb : Blk w b cs T) (hT : T ≠ e) : some b ≠ v.ownBlock := by
  rcases h.2 with ⟨rfl, _⟩ | ⟨g, cap, cur, rfl, _, hg, _⟩
  · simp [Value.ownBlock]
  · intro e1
    simp only [Value.ownBlock, Option.some.injEq] at e1
    subst e1
    unfold Blk at hb
    rw [hg] at hb
    simp only [Option.some.injEq, Obj.cells.injEq] at hb
    exact hT hb.2.1.symm
theorem recInfo : (Try.prog.info? 29).map (fun i => (i.zero, i.size, i.bytes)) = some (some (.agg #[.bool false, .string (S []), .bool false, .string (S [])]), 4, 48) := by kernel_rfl

section
end
end Go.Proofs.Ytkfglnhapcceaaa
