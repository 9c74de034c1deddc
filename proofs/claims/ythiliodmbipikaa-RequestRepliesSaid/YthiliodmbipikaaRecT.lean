/-
  The frame of a law's proof: arguments that are records, slices of records, batches.
  (open_slice_fields: turned from the kit's page of small lemmas on structs.)
-/
import Derived.Test.YthiliodmbipikaaFrame
import Derived.Test.YthiliodmbipikaaRecP1
import Derived.Deep.Slices
import Derived.Deep.Fields
import Derived.ChangeSame
import Derived.Lib.SmallJoins
set_option linter.unusedVariables false
set_option linter.unusedSimpArgs false
namespace Go.Proofs.Ythiliodmbipikaa
open Go.ChangeShapes Go.WideShapes Go.ChangeAt Go.RowKit Go.Deep Go.Joins

section
variable {H : Type} {enc : TypeId × Value → H} {P : Program} {w : World} {base : Nat} {spare : Nat → Bool} {held : Bool}
set_option maxRecDepth 100000 in
theorem open_slice_fields {t e : TypeId} {fs : Array Field} {fuel : Nat} {cs : List Value} {x : DataW H × List MemPlace} (ht : P.underlying t = some (.slice e)) (he : P.underlying e = some (.struct fs))
    (hone : oneCellFields P fs = true) (hC : P.cellsOf e = fs.size) (h : DataW.trod enc P w base spare held fuel t cs = some x) :
    (cs = [.slice none 0 0]) ∨
    ∃ (a : Addr) (len cap m : Nat), cs = [.slice (some a) len cap] ∧ len ≤ cap ∧ cap ≤ maxLen ∧ m = (if spare a.block then cap else len) ∧
      ∀ i, i < m → ∃ n : Nat, ∀ (j : Nat) (f : Field), fs[j]? = some f → ∃ (v : Value) (y : DataW H × List MemPlace), w.cell? (a.add (i * fs.size + j)) = some v ∧ DataW.trod enc P w base spare held n f.type [v] = some y := by
  rcases open_slice ht h with h0 | ⟨a, len, cap, m, n, D, Pl, hcs, hb, hl, hm, hmm, hx, hi⟩
  · exact .inl h0.1
  · refine .inr ⟨a, len, cap, m, hcs, hl, hm, hmm, fun i him => ?_⟩
    obtain ⟨cs', hc, ht'⟩ := hi i him
    rw [hC] at hc
    obtain ⟨ys, n', hn', hy, hlen, hyl, hf⟩ := DataW.trod_struct he ht'
    obtain ⟨_, hcl, hat⟩ := World.cells?_some hc
    refine ⟨n', fun j f hj => ?_⟩
    obtain ⟨ho, hk⟩ := hone_of hone j f hj
    have hjl : j < fs.size := (Array.getElem?_eq_some_iff.1 hj).1
    have hcell := hat j hjl
    have hv : cs'[j]? = some (cs'[j]'(by omega)) := List.getElem?_eq_getElem (by omega)
    have h1 := hf j f hj
    rw [ho, hk] at h1
    have hone' : (cs'.drop j).take 1 = [cs'[j]'(by omega)] := by
      rw [List.drop_eq_getElem_cons (by omega)]
      rfl
    rw [hone'] at h1
    have hys : ys[j]? = some (ys[j]'(by omega)) := List.getElem?_eq_getElem (by omega)
    refine ⟨_, _, ?_, h1.trans hys⟩
    rw [← Go.Deep.add_add, hcell, hv]
end

section
variable {H : Type} {enc : TypeId × Value → H} {W : World} {base : Nat}
set_option maxRecDepth 100000 in
theorem rec_of {v : Value} {d : DataW H} {p : List MemPlace} (hval : Value.okWide Try.prog W .any base 68 v) (h : DataW.Trod enc Try.prog W 0 (fun _ => true) true 68 v d p) :
    ∃ r : Rec, v = .agg #[.bool r.hk, .string (S r.key), .bool r.tb, .string (S r.val)] ∧ RecBd r := by
  obtain ⟨v0, v1, v2, v3, y0, y1, y2, y3, n, rfl, _, _, h0, h1, h2, h3⟩ := open_agg4 Try.underlying68 (by kernel_rfl) (by kernel_rfl) hval h
  obtain ⟨b0, e0, _⟩ := DataW.trod_bool Try.underlying4 h0
  obtain ⟨s1, e1, _, l1⟩ := DataW.trod_string Try.underlying9 h1
  obtain ⟨b2, e2, _⟩ := DataW.trod_bool Try.underlying4 h2
  obtain ⟨s3, e3, _, l3⟩ := DataW.trod_string Try.underlying9 h3
  simp only [List.cons.injEq, and_true] at e0 e1 e2 e3
  subst e0 e1 e2 e3
  refine ⟨⟨b0, s1.data.toList, b2, s3.data.toList⟩, ?_, l1, l3⟩
  simp only [← S_of]
set_option maxRecDepth 100000 in
theorem recs_of {n : Nat} {v : Value} {x : DataW H × List MemPlace} (h : DataW.trod enc Try.prog W 0 (fun _ => true) true n 24 [v] = some x) : ∃ l : List Rec, RecsIn W v l ∧ RecsBd l := by
  rcases open_slice_fields Try.underlying24 Try.underlying68 (by kernel_rfl) (by kernel_rfl) h with h0 | ⟨a, len, cap, m, hcs, hl, hm, hmm, hi⟩
  · simp only [List.cons.injEq, and_true] at h0
    exact ⟨[], .inl ⟨rfl, _, _, h0⟩, by decide, by simp⟩
  · simp only [List.cons.injEq, and_true] at hcs
    subst hcs
    simp only [if_true] at hmm
    subst hmm
    have hrec : ∀ i, i < m → ∃ r : Rec, (w0 : Unit) → RecBd r ∧ W.cell? (a.add (i * 4)) = some (.bool r.hk) ∧ W.cell? (a.add (i * 4 + 1)) = some (.string (S r.key)) ∧ W.cell? (a.add (i * 4 + 2)) = some (.bool r.tb) ∧ W.cell? (a.add (i * 4 + 3)) = some (.string (S r.val)) := by
      intro i hic
      obtain ⟨n', hf⟩ := hi i hic
      obtain ⟨v0, y0, c0, h0⟩ := hf 0 _ rfl
      obtain ⟨v1, y1, c1, h1⟩ := hf 1 _ rfl
      obtain ⟨v2, y2, c2, h2⟩ := hf 2 _ rfl
      obtain ⟨v3, y3, c3, h3⟩ := hf 3 _ rfl
      obtain ⟨b0, e0, _⟩ := DataW.trod_bool Try.underlying4 h0
      obtain ⟨s1, e1, _, l1⟩ := DataW.trod_string Try.underlying9 h1
      obtain ⟨b2, e2, _⟩ := DataW.trod_bool Try.underlying4 h2
      obtain ⟨s3, e3, _, l3⟩ := DataW.trod_string Try.underlying9 h3
      simp only [List.cons.injEq, and_true] at e0 e1 e2 e3
      subst e0 e1 e2 e3
      exact ⟨⟨b0, s1.data.toList, b2, s3.data.toList⟩, fun _ => ⟨⟨l1, l3⟩, c0, by simp only [← S_of]; exact c1, c2, by simp only [← S_of]; exact c3⟩⟩
    by_cases h0 : len = 0
    · subst h0
      exact ⟨[], .inl ⟨rfl, _, _, rfl⟩, by decide, by simp⟩
    · obtain ⟨b, off, spot⟩ := a
      have hspot : spot = none := by
        obtain ⟨r, hr⟩ := hrec 0 (by omega)
        simpa [Addr.add] using World.cell?_spot (hr ()).2.1
      subst hspot
      have ad : ∀ k, (⟨b, off, none⟩ : Addr).add k = ⟨b, off + k, none⟩ := fun k => Go.WideShapes.add_plain ..
      have hall : ∀ i, ∃ r : Rec, i < m → RecBd r ∧ RecAt W b (off + i * 4) r := by
        intro i
        by_cases hic : i < m
        · obtain ⟨r, hr⟩ := hrec i hic
          have hr := hr ()
          simp only [ad, ← Nat.add_assoc] at hr
          exact ⟨r, fun _ => ⟨hr.1, hr.2.1, hr.2.2.1, hr.2.2.2.1, hr.2.2.2.2⟩⟩
        · exact ⟨⟨false, [], false, []⟩, fun h => absurd h hic⟩
      obtain ⟨g, hg⟩ := Classical.axiomOfChoice hall
      refine ⟨(List.range len).map g, .inr ⟨b, off, m, by simp, by simpa using h0, cell_lt (hg 0 (by omega)).2.1, fun i hil => ?_⟩, ?_, ?_⟩
      · have hil' : i < len := by simpa using hil
        have := (hg i (by omega)).2
        simpa using this
      · simp; omega
      · intro r hr
        simp only [List.mem_map, List.mem_range] at hr
        obtain ⟨i, hi2, rfl⟩ := hr
        exact (hg i (by omega)).1
set_option maxRecDepth 100000 in
theorem batch_of {v : Value} {d : DataW H} {p : List MemPlace} (hval : Value.okWide Try.prog W .any base 26 v) (h : DataW.Trod enc Try.prog W 0 (fun _ => true) true 26 v d p) :
    ∃ (p q r : Int) (u : Value) (l : List Rec), v = .agg #[.int .i64 p, .int .i64 q, .int .i64 r, u] ∧ RecsIn W u l ∧ RecsBd l := by
  obtain ⟨v0, v1, v2, v3, y0, y1, y2, y3, n, rfl, _, _, h0, h1, h2, h3⟩ := open_agg4 Try.underlying26 (by kernel_rfl) (by kernel_rfl) hval h
  obtain ⟨b0, e0, _⟩ := DataW.trod_int Try.underlying3 h0
  obtain ⟨b1, e1, _⟩ := DataW.trod_int Try.underlying3 h1
  obtain ⟨b2, e2, _⟩ := DataW.trod_int Try.underlying3 h2
  simp only [List.cons.injEq, and_true] at e0 e1 e2
  subst e0 e1 e2
  obtain ⟨l, hl, hb⟩ := recs_of h3
  exact ⟨b0, b1, b2, v3, l, rfl, hl, hb⟩
end
end Go.Proofs.Ythiliodmbipikaa
