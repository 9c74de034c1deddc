/-
  Layer 3: rows of records that a call owns; what holds between two rounds of Parse's loop.
-/
import Derived.Test.YtkgpckfaghpgmaaRecJ
import Derived.Deep.AppendLies
import Derived.Deep.RegionLaw
set_option linter.unusedVariables false
set_option linter.unusedSimpArgs false
namespace Go.Proofs.Ytkgpckfaghpgmaa
open Go.RowKit

theorem flat_get : ∀ (l : List Rec) (i j : Nat) (h : i < l.length), j < 4 → (l.flatMap Rec.cells)[i * 4 + j]? = (l[i].cells)[j]?
  | [], i, j, h, _ => by simp at h
  | r :: l, 0, j, h, hj => by
    simp only [List.flatMap_cons, Nat.zero_mul, Nat.zero_add, List.getElem_cons_zero]
    rw [List.getElem?_append_left (by simpa [Rec.cells] using hj)]
  | r :: l, i + 1, j, h, hj => by
    simp only [List.flatMap_cons, List.getElem_cons_succ]
    rw [List.getElem?_append_right (by simp [Rec.cells]; omega)]
    rw [← flat_get l i j (by simpa using h) hj]
    congr 1
    simp [Rec.cells]
    omega
theorem recs_own {w : World} {B : Nat} {v : Value} {l : List Rec} (h : w.ownsRow B 24 4 v l.length (l.flatMap Rec.cells)) : RecsIn w v l := by
  rcases id h.2 with ⟨rfl, h0⟩ | ⟨g, cap, cur, rfl, hbg, hg, rest⟩
  · exact .inl ⟨List.eq_nil_of_length_eq_zero h0, _, _, rfl⟩
  · by_cases hl : l = []
    · subst hl; exact .inl ⟨rfl, _, _, rfl⟩
    · refine .inr ⟨g, 0, cap, rfl, hl, (Array.getElem?_eq_some_iff.1 hg).1, fun i hi => ?_⟩
      have hc := h.cells (g := g) rfl
      have at_ : ∀ j u, j < 4 → (l[i].cells)[j]? = some u → w.cell? ⟨g, 0 + i * 4 + j, none⟩ = some u := fun j u hj hu => by
        have := hc (i * 4 + j) u (by rw [flat_get l i j hi hj]; exact hu)
        have hadd : ∀ j, (⟨g, 0, none⟩ : Addr).add j = ⟨g, j, none⟩ := fun j => by unfold Addr.add; split <;> simp_all
        rw [hadd] at this
        rw [Nat.zero_add]
        exact this
      exact ⟨at_ 0 _ (by omega) rfl, at_ 1 _ (by omega) rfl, at_ 2 _ (by omega) rfl, at_ 3 _ (by omega) rfl⟩
theorem own_ne {w : World} {B size n b : Nat} {e T : TypeId} {v : Value} {xs : List Value} {cs : Array Value} (h : w.ownsRow B e size v n xs) (hb : Blk w b cs T) (hT : T ≠ e) : some b ≠ v.ownBlock := by
  rcases h.2 with ⟨rfl, _⟩ | ⟨g, cap, cur, rfl, _, hg, _⟩
  · simp [Value.ownBlock]
  · intro e1
    simp only [Value.ownBlock, Option.some.injEq] at e1
    subst e1
    unfold Blk at hb
    rw [hg] at hb
    simp only [Option.some.injEq, Obj.cells.injEq] at hb
    exact hT hb.2.1.symm
theorem recInfo : (Try.prog.info? 24).map (fun i => (i.zero, i.size, i.bytes)) = some (some (.agg #[.bool false, .string (S []), .bool false, .string (S [])]), 4, 48) := by kernel_rfl

section
end
end Go.Proofs.Ytkgpckfaghpgmaa
