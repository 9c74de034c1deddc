import Derived.Test.YtkfglnhapcceaaaSegT
import Derived.Test.YtkfglnhapcceaaaSegY
import Derived.Test.YtkfglnhapcceaaaSegZR
/-
  The scripts of layer 6, as they lie in memory.
-/
set_option linter.unusedVariables false
set_option linter.unusedSimpArgs false
namespace Go.Proofs.Ytkfglnhapcceaaa
open Go.ChangeShapes Go.WideShapes Go.ChangeAt Go.RowKit Go.Deep Go.Joins

/-- A call of a script. -/
structure Op6 where
  kind : Int
  fr : Int
  n : Int
  la : Option Addr
  lc : Nat
  rs : List Rec
/-- A call is sound: its records lie in memory. -/
def Op6In (w : World) (q : Op6) : Prop := RecsIn w (.slice q.la q.rs.length q.lc) q.rs ∧ RecsBd q.rs ∧ q.rs.length ≤ q.lc ∧ (Lit.int .i64 q.fr).wf = true ∧ (Lit.int .i64 q.n).wf = true
/-- Its four cells lie there. -/
def Op6At (w : World) (b o : Nat) (q : Op6) : Prop :=
  w.cell? ⟨b, o, none⟩ = some (.int .i64 q.kind) ∧ w.cell? ⟨b, o + 1, none⟩ = some (.int .i64 q.fr) ∧ w.cell? ⟨b, o + 2, none⟩ = some (.int .i64 q.n) ∧ w.cell? ⟨b, o + 3, none⟩ = some (.slice q.la q.rs.length q.lc)
/-- A script, as it lies in memory. -/
def Ops6In (w : World) (v : Value) (l : List Op6) : Prop :=
  (l = [] ∧ ∃ a cap, v = .slice a 0 cap) ∨ ∃ b off cap, v = .slice (some ⟨b, off, none⟩) l.length cap ∧ l ≠ [] ∧ b < w.heap.size ∧ (∀ i, (h : i < l.length) → Op6At w b (off + i * 4) l[i]) ∧ ∀ q ∈ l, Op6In w q
theorem Ops6In.form {w : World} {v : Value} {l : List Op6} (h : Ops6In w v l) : ∃ a cap, v = .slice a l.length cap := by
  rcases h with ⟨rfl, a, cap, rfl⟩ | ⟨b, off, cap, rfl, _⟩
  · exact ⟨_, _, rfl⟩
  · exact ⟨_, _, rfl⟩
theorem Op6In.below {w W : World} {q : Op6} (h : Op6In w q) (hb : Below w.heap.size w W) : Op6In W q := ⟨h.1.below hb, h.2⟩
theorem Ops6In.below {w W : World} {v : Value} {l : List Op6} (h : Ops6In w v l) (hb : Below w.heap.size w W) : Ops6In W v l := by
  rcases h with h | ⟨b, off, cap, rfl, hne, hlt, hc, hq⟩
  · exact .inl h
  · have kc := fun o => hb.cell (p := ⟨b, o, none⟩) hlt
    exact .inr ⟨b, off, cap, rfl, hne, Nat.lt_of_lt_of_le hlt hb.size, fun i h => by
      obtain ⟨c0, c1, c2, c3⟩ := hc i h
      exact ⟨(kc _).trans c0, (kc _).trans c1, (kc _).trans c2, (kc _).trans c3⟩, fun q h => (hq q h).below hb⟩

set_option maxRecDepth 100000 in
theorem ops6Of {H : Type} {enc : TypeId × Value → H} {W : World} {base : Nat} {v : Value} {d : DataW H} {p : List MemPlace} (hval : Value.okWide Try.prog W .any base 44 v) (h : DataW.Trod enc Try.prog W 0 (fun _ => true) true 44 v d p) :
    ∃ l : List Op6, Ops6In W v l ∧ l.length ≤ maxLen := by
  obtain ⟨a, len, cap, rfl⟩ := okWide_slice Try.underlying44 hval
  obtain ⟨fuel, hf⟩ := h
  rcases open_slice_fields Try.underlying44 Try.underlying47 (by kernel_rfl) (by kernel_rfl) hf with h0 | ⟨a', len', cap', m, hcs, hl, hm, hmm, hi⟩
  · simp [Value.cells] at h0
    obtain ⟨rfl, rfl, rfl⟩ := h0
    exact ⟨[], .inl ⟨rfl, _, _, rfl⟩, by simp⟩
  · simp [Value.cells] at hcs
    obtain ⟨rfl, rfl, rfl⟩ := hcs
    simp only [if_true] at hmm
    subst hmm
    have hcell : ∀ i, i < m → ∃ q : Op6, Op6In W q ∧ W.cell? (a'.add (i * 4)) = some (.int .i64 q.kind) ∧ W.cell? (a'.add (i * 4 + 1)) = some (.int .i64 q.fr) ∧ W.cell? (a'.add (i * 4 + 2)) = some (.int .i64 q.n) ∧ W.cell? (a'.add (i * 4 + 3)) = some (.slice q.la q.rs.length q.lc) := by
      intro i him
      obtain ⟨n', hF⟩ := hi i him
      obtain ⟨v0, y0, c0, h0⟩ := hF 0 _ rfl
      obtain ⟨v1, y1, c1, h1⟩ := hF 1 _ rfl
      obtain ⟨v2, y2, c2, h2⟩ := hF 2 _ rfl
      obtain ⟨v3, y3, c3, h3⟩ := hF 3 _ rfl
      obtain ⟨x0, e0, _, w0⟩ := DataW.trod_int Try.underlying3 h0
      obtain ⟨x1, e1, _, w1⟩ := DataW.trod_int Try.underlying3 h1
      obtain ⟨x2, e2, _, w2⟩ := DataW.trod_int Try.underlying3 h2
      obtain ⟨rs, la, lc, e3, r1, r2, r3⟩ := recsAt h3
      simp only [List.cons.injEq, and_true] at e0 e1 e2
      subst e0 e1 e2 e3
      exact ⟨⟨x0, x1, x2, la, lc, rs⟩, ⟨r1, r2, r3, w1, w2⟩, c0, c1, c2, c3⟩
    by_cases h0 : len = 0
    · subst h0; exact ⟨[], .inl ⟨rfl, _, _, rfl⟩, by simp⟩
    · obtain ⟨b, off, spot⟩ := a'
      have hspot : spot = none := by
        obtain ⟨r, _, hr, _⟩ := hcell 0 (by omega)
        simpa [Addr.add] using World.cell?_spot hr
      subst hspot
      have hall : ∀ i, ∃ q : Op6, i < m → Op6In W q ∧ Op6At W b (off + i * 4) q := by
        intro i
        by_cases hic : i < m
        · obtain ⟨q, hq, hr⟩ := hcell i hic
          simp only [addr_add, ← Nat.add_assoc] at hr
          exact ⟨q, fun _ => ⟨hq, hr⟩⟩
        · exact ⟨⟨0, 0, 0, none, 0, []⟩, fun h => absurd h hic⟩
      obtain ⟨g, hg⟩ := Classical.axiomOfChoice hall
      have hlt : b < W.heap.size := cell_lt (hg 0 (by omega)).2.1
      refine ⟨(List.range len).map g, .inr ⟨b, off, m, by simp, by simp; omega, hlt, fun i hi => ?_, fun q hq => ?_⟩, by simp; omega⟩
      · simp at hi
        have := (hg i (by omega)).2
        simpa using this
      · simp only [List.mem_map, List.mem_range] at hq
        obtain ⟨i, hi, rfl⟩ := hq
        exact (hg i (by omega)).1
end Go.Proofs.Ytkfglnhapcceaaa
