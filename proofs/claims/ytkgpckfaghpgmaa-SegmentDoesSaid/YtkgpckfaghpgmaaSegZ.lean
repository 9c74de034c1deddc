import Derived.Test.YtkgpckfaghpgmaaSegT
import Derived.Test.YtkgpckfaghpgmaaSegY
/-
  The script of SegmentDoes, as it lies in memory.
-/
set_option linter.unusedVariables false
set_option linter.unusedSimpArgs false
namespace Go.Proofs.Ytkgpckfaghpgmaa
open Go.ChangeShapes Go.WideShapes Go.ChangeAt Go.RowKit Go.Deep Go.Joins

/-- A call of a script. -/
structure Opr where
  kind : Int
  fr : Int
  n : Int
  la : Option Addr
  lc : Nat
  rs : List Rec
  ka : Option Addr
  kc : Nat
  ks : List Int
/-- A call is sound: its records lie in memory, its numbers likewise. -/
def OprIn (w : World) (q : Opr) : Prop := RecsIn w (.slice q.la q.rs.length q.lc) q.rs ∧ RecsBd q.rs ∧ q.rs.length ≤ q.lc ∧ NumsIn w (.slice q.ka q.ks.length q.kc) q.ks ∧ q.ks.length ≤ q.kc ∧ q.ks.length ≤ maxLen ∧ (∀ n ∈ q.ks, (Lit.int .i64 n).wf = true) ∧ (Lit.int .i64 q.fr).wf = true ∧ (Lit.int .i64 q.n).wf = true
/-- Its five cells lie there. -/
def OprAt (w : World) (b o : Nat) (q : Opr) : Prop :=
  w.cell? ⟨b, o, none⟩ = some (.int .i64 q.kind) ∧ w.cell? ⟨b, o + 1, none⟩ = some (.int .i64 q.fr) ∧ w.cell? ⟨b, o + 2, none⟩ = some (.int .i64 q.n) ∧ w.cell? ⟨b, o + 3, none⟩ = some (.slice q.la q.rs.length q.lc) ∧ w.cell? ⟨b, o + 4, none⟩ = some (.slice q.ka q.ks.length q.kc)
/-- A script, as it lies in memory. -/
def OprsIn (w : World) (v : Value) (l : List Opr) : Prop :=
  (l = [] ∧ ∃ a cap, v = .slice a 0 cap) ∨ ∃ b off cap, v = .slice (some ⟨b, off, none⟩) l.length cap ∧ l ≠ [] ∧ b < w.heap.size ∧ (∀ i, (h : i < l.length) → OprAt w b (off + i * 5) l[i]) ∧ ∀ q ∈ l, OprIn w q

theorem recsAt {H : Type} {enc : TypeId × Value → H} {W : World} {n : Nat} {v : Value} {x : DataW H × List MemPlace} (h : DataW.trod enc Try.prog W 0 (fun _ => true) true n 36 [v] = some x) : ∃ (l : List Rec) (a : Option Addr) (cap : Nat), v = .slice a l.length cap ∧ RecsIn W v l ∧ RecsBd l ∧ l.length ≤ cap := by
  obtain ⟨l, h1, h2⟩ := recs_of h
  obtain ⟨a, cap, hv⟩ := h1.form
  refine ⟨l, a, cap, hv, h1, h2, ?_⟩
  rcases open_slice Try.underlying36 h with ⟨h0, _⟩ | ⟨a', len', cap', m, n, D, Pl, hcs, hb, hl, _⟩
  · simp only [List.cons.injEq, and_true] at h0
    rw [hv] at h0
    simp only [Value.slice.injEq] at h0
    omega
  · simp only [List.cons.injEq, and_true] at hcs
    rw [hv] at hcs
    simp only [Value.slice.injEq] at hcs
    omega
theorem numsAt {H : Type} {enc : TypeId × Value → H} {W : World} {fuel : Nat} {v : Value} {x : DataW H × List MemPlace} (hf : DataW.trod enc Try.prog W 0 (fun _ => true) true fuel 48 [v] = some x) :
    ∃ (l : List Int) (a : Option Addr) (cap : Nat), v = .slice a l.length cap ∧ NumsIn W v l ∧ l.length ≤ cap ∧ l.length ≤ maxLen ∧ ∀ n ∈ l, (Lit.int .i64 n).wf = true := by
  rcases open_ints Try.underlying48 Try.underlying3 (show Try.prog.cellsOf 3 = 1 by kernel_rfl) hf with ⟨hcs, _⟩ | ⟨a', len, cap, zs, hcs, hlc, hl, hm, hz, _, hcell, hwz⟩
  · simp only [List.cons.injEq, and_true] at hcs
    exact ⟨[], none, 0, hcs, .inl ⟨rfl, _, _, hcs⟩, by simp, by simp, by simp⟩
  · simp only [List.cons.injEq, and_true] at hcs
    subst hcs
    simp only [if_true] at hz
    by_cases h0 : len = 0
    · subst h0; exact ⟨[], some a', cap, rfl, .inl ⟨rfl, _, _, rfl⟩, by simp, by simp, by simp⟩
    · obtain ⟨b, off, rfl, hgood⟩ := ints_at hcell (by omega)
      have hlen : (zs.take len).length = len := by rw [List.length_take]; omega
      refine ⟨zs.take len, _, cap, by rw [hlen], .inr ⟨b, off, cap, by rw [hlen], by omega, fun e => by rw [e] at hlen; simp at hlen; omega, cell_lt (hgood 0 (by omega)), fun i hi => ?_⟩, by omega, by omega, fun n hn => hwz n (List.mem_of_mem_take hn)⟩
      refine (hgood i (by omega)).trans ?_
      simp [List.getD_eq_getElem?_getD, show i < zs.length by omega]

theorem oprsOf {H : Type} {enc : TypeId × Value → H} {W : World} {base : Nat} {v : Value} {d : DataW H} {p : List MemPlace} (hval : Value.okWide Try.prog W .any base 56 v) (h : DataW.Trod enc Try.prog W 0 (fun _ => true) true 56 v d p) :
    ∃ l : List Opr, OprsIn W v l ∧ l.length ≤ maxLen := by
  obtain ⟨a, len, cap, rfl⟩ := okWide_slice Try.underlying56 hval
  obtain ⟨fuel, hf⟩ := h
  rcases open_slice_fields Try.underlying56 Try.underlying58 (by kernel_rfl) (by kernel_rfl) hf with h0 | ⟨a', len', cap', m, hcs, hl, hm, hmm, hi⟩
  · simp [Value.cells] at h0
    obtain ⟨rfl, rfl, rfl⟩ := h0
    exact ⟨[], .inl ⟨rfl, _, _, rfl⟩, by simp⟩
  · simp [Value.cells] at hcs
    obtain ⟨rfl, rfl, rfl⟩ := hcs
    simp only [if_true] at hmm
    subst hmm
    have hcell : ∀ i, i < m → ∃ q : Opr, OprIn W q ∧ W.cell? (a'.add (i * 5)) = some (.int .i64 q.kind) ∧ W.cell? (a'.add (i * 5 + 1)) = some (.int .i64 q.fr) ∧ W.cell? (a'.add (i * 5 + 2)) = some (.int .i64 q.n) ∧ W.cell? (a'.add (i * 5 + 3)) = some (.slice q.la q.rs.length q.lc) ∧ W.cell? (a'.add (i * 5 + 4)) = some (.slice q.ka q.ks.length q.kc) := by
      intro i him
      obtain ⟨n', hF⟩ := hi i him
      obtain ⟨v0, y0, c0, h0⟩ := hF 0 _ rfl
      obtain ⟨v1, y1, c1, h1⟩ := hF 1 _ rfl
      obtain ⟨v2, y2, c2, h2⟩ := hF 2 _ rfl
      obtain ⟨v3, y3, c3, h3⟩ := hF 3 _ rfl
      obtain ⟨v4, y4, c4, h4⟩ := hF 4 _ rfl
      obtain ⟨x0, e0, _, w0⟩ := DataW.trod_int Try.underlying3 h0
      obtain ⟨x1, e1, _, w1⟩ := DataW.trod_int Try.underlying3 h1
      obtain ⟨x2, e2, _, w2⟩ := DataW.trod_int Try.underlying3 h2
      obtain ⟨rs, la, lc, e3, r1, r2, r3⟩ := recsAt h3
      obtain ⟨ks, ka, kc, e4, k1, k2, k3, k4⟩ := numsAt h4
      simp only [List.cons.injEq, and_true] at e0 e1 e2
      subst e0 e1 e2 e3 e4
      exact ⟨⟨x0, x1, x2, la, lc, rs, ka, kc, ks⟩, ⟨r1, r2, r3, k1, k2, k3, k4, w1, w2⟩, c0, c1, c2, c3, c4⟩
    by_cases h0 : len = 0
    · subst h0; exact ⟨[], .inl ⟨rfl, _, _, rfl⟩, by simp⟩
    · obtain ⟨b, off, spot⟩ := a'
      have hspot : spot = none := by
        obtain ⟨r, _, hr, _⟩ := hcell 0 (by omega)
        simpa [Addr.add] using World.cell?_spot hr
      subst hspot
      have hall : ∀ i, ∃ q : Opr, i < m → OprIn W q ∧ OprAt W b (off + i * 5) q := by
        intro i
        by_cases hic : i < m
        · obtain ⟨q, hq, hr⟩ := hcell i hic
          simp only [addr_add, ← Nat.add_assoc] at hr
          exact ⟨q, fun _ => ⟨hq, hr⟩⟩
        · exact ⟨⟨0, 0, 0, none, 0, [], none, 0, []⟩, fun h => absurd h hic⟩
      obtain ⟨g, hg⟩ := Classical.axiomOfChoice hall
      have hlt : b < W.heap.size := cell_lt (hg 0 (by omega)).2.1
      refine ⟨(List.range len).map g, .inr ⟨b, off, m, by simp, by simp; omega, hlt, fun i hi => ?_, fun q hq => ?_⟩, by simp; omega⟩
      · simp at hi
        have := (hg i (by omega)).2
        simpa using this
      · simp only [List.mem_map, List.mem_range] at hq
        obtain ⟨i, hi, rfl⟩ := hq
        exact (hg i (by omega)).1
end Go.Proofs.Ytkgpckfaghpgmaa
