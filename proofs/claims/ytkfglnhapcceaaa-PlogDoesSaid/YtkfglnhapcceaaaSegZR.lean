import Derived.Test.YtkfglnhapcceaaaSegT
/-
  Records and numbers in a struct that comes in.
-/
set_option linter.unusedVariables false
set_option linter.unusedSimpArgs false
namespace Go.Proofs.Ytkfglnhapcceaaa
open Go.ChangeShapes Go.WideShapes Go.ChangeAt Go.RowKit Go.Deep Go.Joins

theorem recsAt {H : Type} {enc : TypeId × Value → H} {W : World} {n : Nat} {v : Value} {x : DataW H × List MemPlace} (h : DataW.trod enc Try.prog W 0 (fun _ => true) true n 23 [v] = some x) : ∃ (l : List Rec) (a : Option Addr) (cap : Nat), v = .slice a l.length cap ∧ RecsIn W v l ∧ RecsBd l ∧ l.length ≤ cap := by
  obtain ⟨l, h1, h2⟩ := recs_of h
  obtain ⟨a, cap, hv⟩ := h1.form
  refine ⟨l, a, cap, hv, h1, h2, ?_⟩
  rcases open_slice Try.underlying23 h with ⟨h0, _⟩ | ⟨a', len', cap', m, n, D, Pl, hcs, hb, hl, _⟩
  · simp only [List.cons.injEq, and_true] at h0
    rw [hv] at h0
    simp only [Value.slice.injEq] at h0
    omega
  · simp only [List.cons.injEq, and_true] at hcs
    rw [hv] at hcs
    simp only [Value.slice.injEq] at hcs
    omega
theorem numsAt {H : Type} {enc : TypeId × Value → H} {W : World} {fuel : Nat} {v : Value} {x : DataW H × List MemPlace} (hf : DataW.trod enc Try.prog W 0 (fun _ => true) true fuel 59 [v] = some x) :
    ∃ (l : List Int) (a : Option Addr) (cap : Nat), v = .slice a l.length cap ∧ NumsIn W v l ∧ l.length ≤ cap ∧ l.length ≤ maxLen ∧ ∀ n ∈ l, (Lit.int .i64 n).wf = true := by
  rcases open_ints Try.underlying59 Try.underlying3 (show Try.prog.cellsOf 3 = 1 by kernel_rfl) hf with ⟨hcs, _⟩ | ⟨a', len, cap, zs, hcs, hlc, hl, hm, hz, _, hcell, hwz⟩
  · simp only [List.cons.injEq, and_true] at hcs
    exact ⟨[], none, 0, hcs, .inl ⟨rfl, _, _, hcs⟩, by simp, by simp, by simp⟩
  · simp only [List.cons.injEq, and_true] at hcs
    subst hcs
    simp only [if_true] at hz
    by_cases h0 : len = 0
    · subst h0; exact ⟨[], some a', cap, rfl, .inl ⟨rfl, _, _, rfl⟩, by simp, by simp, by simp⟩
    · obtain ⟨b, off, rfl, hgood⟩ := ints_at hcell (by omega)
      have hlen : (zs.take len).length = len := by rw [List.length_take]; omega
      refine ⟨zs.take len, _, cap, by rw [hlen], .inr ⟨b, off, cap, by rw [hlen], by omega, fun e => by rw [e] at hlen; simp at hlen; omega, cell_lt (hgood 0 (by omega)), fun i hi => ?_⟩, by omega, by omega, fun n hn => hwz n (List.mem_of_mem_take hn)⟩
      refine (hgood i (by omega)).trans ?_
      simp [List.getD_eq_getElem?_getD, show i < zs.length by omega]

end Go.Proofs.Ytkfglnhapcceaaa
