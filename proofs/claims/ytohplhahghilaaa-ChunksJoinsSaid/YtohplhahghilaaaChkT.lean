import Derived.Test.YtohplhahghilaaaRecT
import Derived.Test.YtohplhahghilaaaSegT
import Derived.Test.YtohplhahghilaaaChkP
/-
  The arguments of layer 7's statements: chunks, slices of chunks, segments.
-/
set_option linter.unusedVariables false
set_option linter.unusedSimpArgs false
namespace Go.Proofs.Ytohplhahghilaaa
open Go.ChangeShapes Go.WideShapes Go.ChangeAt Go.RowKit Go.Deep Go.Joins

/-- What a chunk may be. -/
def ChkBd (c : Chk) : Prop := (-9223372036854775808 ≤ c.i ∧ c.i ≤ 9223372036854775807) ∧ (-9223372036854775808 ≤ c.n ∧ c.n ≤ 9223372036854775807) ∧ c.d < 18446744073709551616 ∧ c.b.length ≤ maxLen
section
variable {H : Type} {enc : TypeId × Value → H} {W : World} {base : Nat}
set_option maxRecDepth 100000 in
theorem chk_of {v : Value} {d : DataW H} {p : List MemPlace} (hval : Value.okWide Try.prog W .any base 38 v) (h : DataW.Trod enc Try.prog W 0 (fun _ => true) true 38 v d p) :
    ∃ c : Chk, v = c.val ∧ ChkBd c := by
  obtain ⟨v0, v1, v2, v3, y0, y1, y2, y3, n, rfl, _, _, h0, h1, h2, h3⟩ := open_agg4 Try.underlying38 (by kernel_rfl) (by kernel_rfl) hval h
  obtain ⟨b0, e0, _, l0⟩ := DataW.trod_int Try.underlying3 h0
  obtain ⟨b1, e1, _, l1⟩ := DataW.trod_int Try.underlying3 h1
  obtain ⟨b2, e2, _, l2⟩ := DataW.trod_int Try.underlying33 h2
  obtain ⟨s3, e3, _, l3⟩ := DataW.trod_string Try.underlying9 h3
  simp only [List.cons.injEq, and_true] at e0 e1 e2 e3
  subst e0 e1 e2 e3
  have l0 := bd_i64 l0
  have l1 := bd_i64 l1
  have l2 := bd_u64 l2
  obtain ⟨b2, rfl⟩ := Int.eq_ofNat_of_zero_le l2.1
  refine ⟨⟨b0, b1, b2, s3.data.toList⟩, ?_, l0, l1, by simp only; omega, l3⟩
  unfold Chk.val
  simp only [← S_of]
/-- What a segment handed in may be. -/
def SegBd (b n : Int) (l : List Fnd) : Prop := l.length ≤ maxLen ∧ (∀ f ∈ l, RecBd f.r ∧ (-9223372036854775808 ≤ f.off ∧ f.off ≤ 9223372036854775807)) ∧ (-9223372036854775808 ≤ b ∧ b ≤ 9223372036854775807) ∧ (-9223372036854775808 ≤ n ∧ n ≤ 9223372036854775807)
set_option maxRecDepth 100000 in
theorem seg_of {v : Value} {d : DataW H} {p : List MemPlace} (hval : Value.okWide Try.prog W .any base 24 v) (h : DataW.Trod enc Try.prog W 0 (fun _ => true) true 24 v d p) :
    ∃ (b n : Int) (u : Value) (l : List Fnd), v = .agg #[.int .i64 b, .int .i64 n, u] ∧ FndsIn W u l ∧ SegBd b n l := by
  obtain ⟨v0, v1, v2, y0, y1, y2, n, rfl, _, _, h0, h1, h2⟩ := open_agg3 Try.underlying24 (by kernel_rfl) (by kernel_rfl) hval h
  obtain ⟨b0, e0, _, l0⟩ := DataW.trod_int Try.underlying3 h0
  obtain ⟨b1, e1, _, l1⟩ := DataW.trod_int Try.underlying3 h1
  obtain ⟨a, len, cap, e2⟩ := slice_form Try.underlying22 h2
  simp only [List.cons.injEq, and_true] at e0 e1 e2
  subst e0 e1 e2
  obtain ⟨l, hl, hm, hr⟩ := fnds_of h2
  exact ⟨b0, b1, _, l, rfl, hl, hm, fun f hf => ⟨(hr f hf).1, bd_i64 (hr f hf).2⟩, bd_i64 l0, bd_i64 l1⟩
set_option maxRecDepth 100000 in
theorem chksOf {v : Value} {d : DataW H} {p : List MemPlace} (hval : Value.okWide Try.prog W .any base 39 v) (h : DataW.Trod enc Try.prog W 0 (fun _ => true) true 39 v d p) :
    ∃ l : List Chk, ChksIn W v l ∧ l.length ≤ maxLen ∧ ∀ c ∈ l, ChkBd c := by
  obtain ⟨a, len, cap, rfl⟩ := okWide_slice Try.underlying39 hval
  obtain ⟨fuel, hf⟩ := h
  rcases open_slice_fields Try.underlying39 Try.underlying38 (by kernel_rfl) (by kernel_rfl) hf with h0 | ⟨a', len', cap', m, hcs, hl, hm, hmm, hi⟩
  · simp [Value.cells] at h0
    obtain ⟨rfl, rfl, rfl⟩ := h0
    exact ⟨[], .inl ⟨rfl, _, _, rfl⟩, by decide, by simp⟩
  · simp [Value.cells] at hcs
    obtain ⟨rfl, rfl, rfl⟩ := hcs
    simp only [if_true] at hmm
    subst hmm
    have hrec : ∀ i, i < m → ∃ c : Chk, (w0 : Unit) → ChkBd c ∧ W.cell? (a'.add (i * 4)) = some (.int .i64 c.i) ∧ W.cell? (a'.add (i * 4 + 1)) = some (.int .i64 c.n) ∧ W.cell? (a'.add (i * 4 + 2)) = some (.int .u64 c.d) ∧ W.cell? (a'.add (i * 4 + 3)) = some (.string (S c.b)) := by
      intro i hic
      obtain ⟨n', hf⟩ := hi i hic
      obtain ⟨v0, y0, c0, h0⟩ := hf 0 _ rfl
      obtain ⟨v1, y1, c1, h1⟩ := hf 1 _ rfl
      obtain ⟨v2, y2, c2, h2⟩ := hf 2 _ rfl
      obtain ⟨v3, y3, c3, h3⟩ := hf 3 _ rfl
      obtain ⟨b0, e0, _, l0⟩ := DataW.trod_int Try.underlying3 h0
      obtain ⟨b1, e1, _, l1⟩ := DataW.trod_int Try.underlying3 h1
      obtain ⟨b2, e2, _, l2⟩ := DataW.trod_int Try.underlying33 h2
      obtain ⟨s3, e3, _, l3⟩ := DataW.trod_string Try.underlying9 h3
      simp only [List.cons.injEq, and_true] at e0 e1 e2 e3
      subst e0 e1 e2 e3
      have l0 := bd_i64 l0
      have l1 := bd_i64 l1
      have l2 := bd_u64 l2
      obtain ⟨b2, rfl⟩ := Int.eq_ofNat_of_zero_le l2.1
      exact ⟨⟨b0, b1, b2, s3.data.toList⟩, fun _ => ⟨⟨l0, l1, by simp only; omega, l3⟩, c0, c1, c2, by simp only [← S_of]; exact c3⟩⟩
    by_cases h0 : len = 0
    · subst h0
      exact ⟨[], .inl ⟨rfl, _, _, rfl⟩, by decide, by simp⟩
    · obtain ⟨b, off, spot⟩ := a'
      have hspot : spot = none := by
        obtain ⟨r, hr⟩ := hrec 0 (by omega)
        simpa [Addr.add] using World.cell?_spot (hr ()).2.1
      subst hspot
      have ad : ∀ k, (⟨b, off, none⟩ : Addr).add k = ⟨b, off + k, none⟩ := fun k => Go.WideShapes.add_plain ..
      have hall : ∀ i, ∃ c : Chk, i < m → ChkBd c ∧ ChkAt W b (off + i * 4) c := by
        intro i
        by_cases hic : i < m
        · obtain ⟨r, hr⟩ := hrec i hic
          have hr := hr ()
          simp only [ad, ← Nat.add_assoc] at hr
          exact ⟨r, fun _ => ⟨hr.1, hr.2.1, hr.2.2.1, hr.2.2.2.1, hr.2.2.2.2⟩⟩
        · exact ⟨⟨0, 0, 0, []⟩, fun h => absurd h hic⟩
      obtain ⟨g, hg⟩ := Classical.axiomOfChoice hall
      refine ⟨(List.range len).map g, .inr ⟨b, off, m, by simp, by simp; omega, by simpa using h0, cell_lt (hg 0 (by omega)).2.1, fun i hil => ?_⟩, ?_, ?_⟩
      · have hil' : i < len := by simpa using hil
        have := (hg i (by omega)).2
        simpa using this
      · simp; omega
      · intro r hr
        simp only [List.mem_map, List.mem_range] at hr
        obtain ⟨i, hi2, rfl⟩ := hr
        exact (hg i (by omega)).1
end
end Go.Proofs.Ytohplhahghilaaa
