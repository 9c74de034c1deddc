import Derived.Test.YtkfglnhapcceaaaLogRA
import Derived.Test.YtkfglnhapcceaaaLogE
/-
  Layer 6: the document's log, segments let go.
-/
set_option linter.unusedVariables false
set_option linter.unusedSimpArgs false
namespace Go.Proofs.Ytkfglnhapcceaaa
open Go.RowKit
attribute [local go_sem] ByteArray.extract_mk ByteArray.mk_append_mk

section
variable {w W : World} {k : Nat} {bs cs : List Nat} {room : Int} {D D' : List Sd} {sv v : Value} {lvs lvs' : List Value}
theorem SegsOwn.apart (h : SegsOwn w 0 v D lvs) (hb : Blk w k #[.int .i64 room, sv] 75) : ∀ x ∈ v.ownBlock.toList ++ vBs lvs, x ≠ k := by
  obtain ⟨h1, h2, h3⟩ := h
  intro x hx e
  simp only [vBs, List.mem_append, List.mem_flatMap, Option.mem_toList] at hx
  rcases hx with hx | ⟨l, hl, hx⟩
  · exact own_ne h1 hb (by decide) (by rw [← e]; exact hx.symm)
  · obtain ⟨i, hi, rfl⟩ := List.getElem_of_mem hl
    exact own_ne (h3 i (by omega) hi) hb (by decide) (by rw [← e]; exact hx.symm)
/-- Another row of segments. -/
theorem RLogAt.reset (hb : Blk w k #[.int .i64 room, sv] 75) (ho : SegsOwn w 0 v D' lvs') :
    RLogAt (w.setCell ⟨k, 1, none⟩ v) k (k :: (v.ownBlock.toList ++ vBs lvs')) room D' ∧ Kept [k] w (w.setCell ⟨k, 1, none⟩ v) :=
  ⟨⟨v, lvs', hb.set 1 v, ho.kept (kept_set 1 v) (fun x hx => by simpa using ho.apart hb x hx), rfl⟩, kept_set 1 v⟩
theorem SegsOwn.base {B C : Nat} (h : SegsOwn w B v D lvs) (hC : C ≤ B) : SegsOwn w C v D lvs := ⟨own_base h.1 hC, h.2.1, fun i h1 h2 => own_base (h.2.2 i h1 h2) hC⟩
end
theorem sdsCells_drop1 {D : List Sd} {lvs : List Value} (h : lvs.length = D.length) (hD : D ≠ []) : sdsCells D lvs = sdCells (D.head hD) (lvs.head (by intro e; rw [e] at h; exact hD (List.eq_nil_of_length_eq_zero h.symm))) ++ sdsCells D.tail lvs.tail := by
  cases D with
  | nil => exact absurd rfl hD
  | cons s D => cases lvs with
    | nil => simp at h
    | cons v lvs => simp [sdsCells]
theorem vBs_tail (lvs : List Value) : ∀ x ∈ vBs lvs.tail, x ∈ vBs lvs := by
  intro x hx
  cases lvs with
  | nil => exact hx
  | cons v lvs => simp only [vBs, List.tail_cons, List.flatMap_cons, List.mem_append] at hx ⊢; exact .inr hx
end Go.Proofs.Ytkfglnhapcceaaa
