import Derived.Test.YtkfglnhapcceaaaLogZ
import Derived.Test.YtkfglnhapcceaaaLogG
/-
  Segments that come in, as they lie in memory.
-/
set_option linter.unusedVariables false
set_option linter.unusedSimpArgs false
namespace Go.Proofs.Ytkfglnhapcceaaa
open Go.ChangeShapes Go.WideShapes Go.ChangeAt Go.RowKit Go.Deep Go.Joins

theorem fndsAt {H : Type} {enc : TypeId × Value → H} {W : World} {fuel : Nat} {v : Value} {x : DataW H × List MemPlace} (h : DataW.trod enc Try.prog W 0 (fun _ => true) true fuel 24 [v] = some x) :
    ∃ l : List Fnd, FndsIn W v l ∧ l.length ≤ maxLen ∧ ∀ f ∈ l, RecBd f.r ∧ (Lit.int .i64 f.off).wf = true := by
  obtain ⟨d, p⟩ := x
  have hv : ∃ a len cap, v = .slice a len cap := by
    rcases open_slice Try.underlying24 h with ⟨h0, _⟩ | ⟨a', len', cap', m, n, D, Pl, hcs, _⟩
    · simp only [List.cons.injEq, and_true] at h0
      exact ⟨_, _, _, h0⟩
    · simp only [List.cons.injEq, and_true] at hcs
      exact ⟨_, _, _, hcs⟩
  obtain ⟨a, len, cap, rfl⟩ := hv
  exact fnds_of h

set_option maxRecDepth 100000 in
theorem segs6Of {H : Type} {enc : TypeId × Value → H} {W : World} {base : Nat} {v : Value} {d : DataW H} {p : List MemPlace} (hval : Value.okWide Try.prog W .any base 22 v) (h : DataW.Trod enc Try.prog W 0 (fun _ => true) true 22 v d p) :
    ∃ l : List Sd, (∃ bs, SegsIn W v bs l) ∧ l.length ≤ maxLen ∧ ∀ s ∈ l, s.l.length ≤ maxLen ∧ (Lit.int .i64 s.base).wf = true ∧ (Lit.int .i64 s.next).wf = true ∧ ∀ f ∈ s.l, RecBd f.r ∧ (Lit.int .i64 f.off).wf = true := by
  obtain ⟨a, len, cap, rfl⟩ := okWide_slice Try.underlying22 hval
  obtain ⟨fuel, hf⟩ := h
  rcases open_slice_fields Try.underlying22 Try.underlying26 (by kernel_rfl) (by kernel_rfl) hf with h0 | ⟨a', len', cap', m, hcs, hl, hm, hmm, hi⟩
  · simp [Value.cells] at h0
    obtain ⟨rfl, rfl, rfl⟩ := h0
    exact ⟨[], ⟨[], .inl ⟨rfl, _, _, rfl⟩⟩, by simp, by simp⟩
  · simp [Value.cells] at hcs
    obtain ⟨rfl, rfl, rfl⟩ := hcs
    simp only [if_true] at hmm
    subst hmm
    have hcell : ∀ i, i < m → ∃ q : Sd × Value, (FndsIn W q.2 q.1.l ∧ q.1.l.length ≤ maxLen ∧ (Lit.int .i64 q.1.base).wf = true ∧ (Lit.int .i64 q.1.next).wf = true ∧ ∀ f ∈ q.1.l, RecBd f.r ∧ (Lit.int .i64 f.off).wf = true) ∧ W.cell? (a'.add (i * 3)) = some (.int .i64 q.1.base) ∧ W.cell? (a'.add (i * 3 + 1)) = some (.int .i64 q.1.next) ∧ W.cell? (a'.add (i * 3 + 2)) = some q.2 := by
      intro i him
      obtain ⟨n', hF⟩ := hi i him
      obtain ⟨v0, y0, c0, h0⟩ := hF 0 _ rfl
      obtain ⟨v1, y1, c1, h1⟩ := hF 1 _ rfl
      obtain ⟨v2, y2, c2, h2⟩ := hF 2 _ rfl
      obtain ⟨x0, e0, _, w0⟩ := DataW.trod_int Try.underlying3 h0
      obtain ⟨x1, e1, _, w1⟩ := DataW.trod_int Try.underlying3 h1
      obtain ⟨fl, r1, r2, r3⟩ := fndsAt h2
      simp only [List.cons.injEq, and_true] at e0 e1
      subst e0 e1
      exact ⟨(⟨x0, x1, fl⟩, v2), ⟨r1, r2, w0, w1, r3⟩, c0, c1, c2⟩
    by_cases h0 : len = 0
    · subst h0; exact ⟨[], ⟨[], .inl ⟨rfl, _, _, rfl⟩⟩, by simp, by simp⟩
    · obtain ⟨b, off, spot⟩ := a'
      have hspot : spot = none := by
        obtain ⟨r, _, hr, _⟩ := hcell 0 (by omega)
        simpa [Addr.add] using World.cell?_spot hr
      subst hspot
      have hall : ∀ i, ∃ q : Sd × Value, i < m → (FndsIn W q.2 q.1.l ∧ q.1.l.length ≤ maxLen ∧ (Lit.int .i64 q.1.base).wf = true ∧ (Lit.int .i64 q.1.next).wf = true ∧ ∀ f ∈ q.1.l, RecBd f.r ∧ (Lit.int .i64 f.off).wf = true) ∧ SdAt W b (off + i * 3) q.1 q.2 := by
        intro i
        by_cases hic : i < m
        · obtain ⟨q, hq, hr⟩ := hcell i hic
          simp only [addr_add, ← Nat.add_assoc] at hr
          exact ⟨q, fun _ => ⟨hq, hr.1, hr.2.1, hr.2.2, hq.1⟩⟩
        · exact ⟨(⟨0, 0, []⟩, .slice none 0 0), fun h => absurd h hic⟩
      obtain ⟨g, hg⟩ := Classical.axiomOfChoice hall
      have hlt : b < W.heap.size := cell_lt (hg 0 (by omega)).2.1
      refine ⟨(List.range len).map fun i => (g i).1, ⟨b :: ((List.range len).map fun i => (g i).2).flatMap fun l => l.ownBlock.toList, .inr ⟨b, off, m, (List.range len).map fun i => (g i).2, by simp, by simp; omega, by simp; omega, hlt, by simp, by simp, fun i hi h' => ?_⟩⟩, by simp; omega, fun s hs => ?_⟩
      · simp only [List.length_map, List.length_range] at hi
        have := (hg i (by omega)).2
        refine ⟨by simpa using this, fun x hx => ?_⟩
        simp only [List.mem_cons, List.mem_flatMap]
        exact .inr ⟨_, List.getElem_mem h', by rw [Option.mem_toList]; exact hx⟩
      · simp only [List.mem_map, List.mem_range] at hs
        obtain ⟨i, hi, rfl⟩ := hs
        have := (hg i (by omega)).1
        exact ⟨this.2.1, this.2.2.1, this.2.2.2.1, this.2.2.2.2⟩
set_option maxRecDepth 100000 in
/-- Records that come in, and that they have room. -/
theorem recs6Of {H : Type} {enc : TypeId × Value → H} {W : World} {base : Nat} {v : Value} {d : DataW H} {p : List MemPlace} (hval : Value.okWide Try.prog W .any base 23 v) (h : DataW.Trod enc Try.prog W 0 (fun _ => true) true 23 v d p) :
    ∃ l : List Rec, (RecsIn W v l ∧ ∃ a cap, v = .slice a l.length cap ∧ l.length ≤ cap) ∧ RecsBd l := by
  obtain ⟨a, len, cap, rfl⟩ := okWide_slice Try.underlying23 hval
  obtain ⟨fuel, hf⟩ := h
  obtain ⟨l, a', cap', h1, h2, h3, h4⟩ := recsAt (v := .slice a len cap) (by simpa [Value.cells] using hf)
  exact ⟨l, ⟨h2, a', cap', h1, h4⟩, h3⟩
end Go.Proofs.Ytkfglnhapcceaaa
