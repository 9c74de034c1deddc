import Derived.Test.YtkfglnhapcceaaaLogRC
/-
  Layer 6: the document's log with one segment more.
-/
set_option linter.unusedVariables false
set_option linter.unusedSimpArgs false
namespace Go.Proofs.Ytkfglnhapcceaaa
open Go.RowKit

theorem vBs_snoc (lvs : List Value) (v : Value) : vBs (lvs ++ [v]) = vBs lvs ++ v.ownBlock.toList := by simp [vBs]
theorem RLogAt.push {w W : World} {k : Nat} {room : Int} {D : List Sd} {s : Sd} {sv lv v5 : Value} {lvs : List Value} (hb : Blk w k #[.int .i64 room, sv] 75) (ho : SegsOwn w 0 sv D lvs)
    (ov : w.ownsRow 0 31 5 lv s.l.length (s.l.flatMap Fnd.cells)) (o5 : W.ownsRow 0 26 3 v5 (D.length + 1) (sdsCells D lvs ++ sdCells s lv)) (g5 : w.grownBy W sv.ownBlock) (at5 : v5.ownBlock = sv.ownBlock ∨ v5.ownBlock = some w.heap.size) :
    ∃ cs, RLogAt (W.setCell ⟨k, 1, none⟩ v5) k cs room (D ++ [s]) ∧ Kept (k :: (sv.ownBlock.toList ++ vBs lvs)) w (W.setCell ⟨k, 1, none⟩ v5) ∧ ∀ x ∈ cs, x ∈ k :: (sv.ownBlock.toList ++ vBs lvs) ∨ x ∈ lv.ownBlock.toList ∨ w.heap.size ≤ x := by
  have KG := Kept.ofGrown g5
  have far : ∀ (l : List Fnd) (v : Value), w.ownsRow 0 31 5 v l.length (l.flatMap Fnd.cells) → W.ownsRow 0 31 5 v l.length (l.flatMap Fnd.cells) := fun l v h => own_keptBy h KG (fun x hx hm => by
    simp only [Option.mem_toList] at hm
    exact (own_apart ho.1 h (by decide)).elim (fun e => by rw [hm] at e; cases e) (fun e => e (hm.trans hx.symm)))
  have hS : SegsOwn W 0 v5 (D ++ [s]) (lvs ++ [lv]) := by
    refine ⟨by rw [sdsCells_snoc ho.2.1, List.length_append]; exact o5, by simp [ho.2.1], fun i h h' => ?_⟩
    by_cases e : i < D.length
    · rw [List.getElem_append_left (by rw [ho.2.1]; exact e)]
      have e2 : (D ++ [s])[i] = D[i] := List.getElem_append_left e
      rw [e2]
      exact far _ _ (ho.2.2 i e (by rw [ho.2.1]; exact e))
    · have e2 : i = D.length := by simp at h; omega
      subst e2
      have e3 : (D ++ [s])[D.length] = s := by simp
      have e4 : (lvs ++ [lv])[D.length]'h' = lv := by
        rw [List.getElem_append_right (Nat.le_of_eq ho.2.1)]
        simp [ho.2.1]
      rw [e3, e4]
      exact far _ _ ov
  have b5 := hb.grown g5 (own_ne ho.1 hb (by decide))
  obtain ⟨r1, r2⟩ := RLogAt.reset b5 hS
  refine ⟨_, r1, (KG.mono (fun x hx => by simp only [List.mem_cons, List.mem_append]; exact .inr (.inl hx))).trans r2 (by simp), fun x hx => ?_⟩
  rw [vBs_snoc] at hx
  simp only [List.mem_cons, List.mem_append] at hx ⊢
  rcases hx with h | h | h | h
  · exact .inl (.inl h)
  · rcases at5 with e | e
    · rw [e] at h; exact .inl (.inr (.inl h))
    · rw [e] at h; simp at h; right; right; omega
  · exact .inl (.inr (.inr h))
  · exact .inr (.inl h)
end Go.Proofs.Ytkfglnhapcceaaa
