import Derived.Test.YthiliodmbipikaaRecT
import Derived.Test.YthiliodmbipikaaSegP
/-
  The arguments of layer 5's statements, as they lie in memory.
-/
set_option linter.unusedVariables false
set_option linter.unusedSimpArgs false
namespace Go.Proofs.Ythiliodmbipikaa
open Go.ChangeShapes Go.WideShapes Go.ChangeAt Go.RowKit Go.Deep Go.Joins

set_option maxRecDepth 100000 in
theorem recsOf {H : Type} {enc : TypeId × Value → H} {W : World} {base : Nat} {v : Value} {d : DataW H} {p : List MemPlace} (hval : Value.okWide Try.prog W .any base 24 v) (h : DataW.Trod enc Try.prog W 0 (fun _ => true) true 24 v d p) : ∃ l : List Rec, RecsIn W v l ∧ RecsBd l := by
  obtain ⟨a, len, cap, rfl⟩ := okWide_slice Try.underlying24 hval
  obtain ⟨fuel, hf⟩ := h
  exact recs_of (v := .slice a len cap) (by simpa [Value.cells] using hf)
set_option maxRecDepth 100000 in
theorem numsOf {H : Type} {enc : TypeId × Value → H} {W : World} {base : Nat} {v : Value} {d : DataW H} {p : List MemPlace} (hval : Value.okWide Try.prog W .any base 88 v) (h : DataW.Trod enc Try.prog W 0 (fun _ => true) true 88 v d p) :
    ∃ l : List Int, NumsIn W v l ∧ l.length ≤ maxLen ∧ ∀ n ∈ l, (Lit.int .i64 n).wf = true := by
  obtain ⟨a, len, cap, rfl⟩ := okWide_slice Try.underlying88 hval
  obtain ⟨fuel, hf⟩ := h
  rcases open_ints Try.underlying88 Try.underlying3 (show Try.prog.cellsOf 3 = 1 by kernel_rfl) hf with ⟨hcs, _⟩ | ⟨a', len', cap', zs, hcs, hlc, hl, hm, hz, _, hcell, hwz⟩
  · simp [Value.cells] at hcs
    obtain ⟨rfl, rfl, rfl⟩ := hcs
    exact ⟨[], .inl ⟨rfl, _, _, rfl⟩, by simp, by simp⟩
  · simp [Value.cells] at hcs
    obtain ⟨rfl, rfl, rfl⟩ := hcs
    simp only [if_true] at hz
    by_cases h0 : len = 0
    · subst h0; exact ⟨[], .inl ⟨rfl, _, _, rfl⟩, by simp, by simp⟩
    · obtain ⟨b, off, rfl, hgood⟩ := ints_at hcell (by omega)
      have hlen : (zs.take len).length = len := by rw [List.length_take]; omega
      refine ⟨zs.take len, .inr ⟨b, off, cap, by rw [hlen], by omega, fun e => by rw [e] at hlen; simp at hlen; omega, cell_lt (hgood 0 (by omega)), fun i hi => ?_⟩, by omega, fun n hn => hwz n (List.mem_of_mem_take hn)⟩
      refine (hgood i (by omega)).trans ?_
      simp [List.getD_eq_getElem?_getD, show i < zs.length by omega]

set_option maxRecDepth 100000 in
theorem fnds_of {H : Type} {enc : TypeId × Value → H} {W : World} {a : Option Addr} {len cap : Nat} {fuel : Nat} {d : DataW H} {p : List MemPlace} (hf : DataW.trod enc Try.prog W 0 (fun _ => true) true fuel 35 [.slice a len cap] = some (d, p)) :
    ∃ l : List Fnd, FndsIn W (.slice a len cap) l ∧ l.length ≤ maxLen ∧ ∀ f ∈ l, RecBd f.r ∧ (Lit.int .i64 f.off).wf = true := by
  rcases open_slice Try.underlying35 hf with ⟨h0, _⟩ | ⟨a', len', cap', m, n, D, Pl, hcs, hb, hl, hm, hmm, hx, hi⟩
  · simp [Value.cells] at h0
    obtain ⟨rfl, rfl, rfl⟩ := h0
    exact ⟨[], .inl ⟨rfl, _, _, rfl⟩, by simp, by simp⟩
  · simp [Value.cells] at hcs
    obtain ⟨rfl, rfl, rfl⟩ := hcs
    simp only [if_true] at hmm
    subst hmm
    have hC : Try.prog.cellsOf 70 = 5 := by kernel_rfl
    have k0 : Try.prog.cellsOf 3 = 1 := by kernel_rfl
    have k1 : Try.prog.cellsOf 68 = 4 := by kernel_rfl
    have k2 : Try.prog.cellsOf 4 = 1 := by kernel_rfl
    have k3 : Try.prog.cellsOf 9 = 1 := by kernel_rfl
    have hcell : ∀ i, i < m → ∃ f : Fnd, (RecBd f.r ∧ (Lit.int .i64 f.off).wf = true) ∧ W.cell? (a'.add (i * 5)) = some (.int .i64 f.off) ∧ W.cell? (a'.add (i * 5 + 1)) = some (.bool f.r.hk) ∧ W.cell? (a'.add (i * 5 + 2)) = some (.string (S f.r.key)) ∧ W.cell? (a'.add (i * 5 + 3)) = some (.bool f.r.tb) ∧ W.cell? (a'.add (i * 5 + 4)) = some (.string (S f.r.val)) := by
      intro i him
      obtain ⟨cs', hc, ht'⟩ := hi i him
      rw [hC] at hc
      obtain ⟨_, hcl, hat⟩ := World.cells?_some hc
      match cs', hcl with
      | [v0, v1, v2, v3, v4], _ =>
        obtain ⟨ys, n', _, _, _, hyl, hF⟩ := DataW.trod_struct Try.underlying70 ht'
        have hyl : ys.length = 2 := hyl
        have h0 := hF 0 _ rfl
        have h1 := hF 1 _ rfl
        simp only [List.getElem_toArray, List.getElem_cons_zero, List.getElem_cons_succ, k0, k1, List.drop_zero, List.drop_succ_cons, List.take_succ_cons, List.take_zero] at h0 h1
        rw [List.getElem?_eq_getElem (by omega)] at h0 h1
        obtain ⟨x0, e0, _, w0⟩ := DataW.trod_int Try.underlying3 h0
        obtain ⟨zs, n2, _, _, _, hzl, hG⟩ := DataW.trod_struct Try.underlying68 h1
        have hzl : zs.length = 4 := hzl
        have g0 := hG 0 _ rfl
        have g1 := hG 1 _ rfl
        have g2 := hG 2 _ rfl
        have g3 := hG 3 _ rfl
        simp only [List.getElem_toArray, List.getElem_cons_zero, List.getElem_cons_succ, k2, k3, List.drop_zero, List.drop_succ_cons, List.take_succ_cons, List.take_zero] at g0 g1 g2 g3
        rw [List.getElem?_eq_getElem (by omega)] at g0 g1 g2 g3
        obtain ⟨b0, f0, _⟩ := DataW.trod_bool Try.underlying4 g0
        obtain ⟨s1, f1, _, l1⟩ := DataW.trod_string Try.underlying9 g1
        obtain ⟨b2, f2, _⟩ := DataW.trod_bool Try.underlying4 g2
        obtain ⟨s3, f3, _, l3⟩ := DataW.trod_string Try.underlying9 g3
        simp only [List.cons.injEq, and_true] at e0 f0 f1 f2 f3
        subst e0 f0 f1 f2 f3
        have c0 := hat 0 (by omega)
        have c1 := hat 1 (by omega)
        have c2 := hat 2 (by omega)
        have c3 := hat 3 (by omega)
        have c4 := hat 4 (by omega)
        rw [Go.Deep.add_add] at c0 c1 c2 c3 c4
        exact ⟨⟨x0, ⟨b0, s1.data.toList, b2, s3.data.toList⟩⟩, ⟨⟨l1, l3⟩, w0⟩, c0, c1, by simp only [← S_of]; exact c2, c3, by simp only [← S_of]; exact c4⟩
    by_cases h0 : len = 0
    · subst h0; exact ⟨[], .inl ⟨rfl, _, _, rfl⟩, by simp, by simp⟩
    · obtain ⟨b, off, spot⟩ := a'
      have hspot : spot = none := by
        obtain ⟨r, _, hr, _⟩ := hcell 0 (by omega)
        simpa [Addr.add] using World.cell?_spot hr
      subst hspot
      have hall : ∀ i, ∃ f : Fnd, i < m → (RecBd f.r ∧ (Lit.int .i64 f.off).wf = true) ∧ FndAt W b (off + i * 5) f := by
        intro i
        by_cases hic : i < m
        · obtain ⟨f, hf, hr⟩ := hcell i hic
          simp only [addr_add, ← Nat.add_assoc] at hr
          exact ⟨f, fun _ => ⟨hf, hr⟩⟩
        · exact ⟨⟨0, ⟨false, [], false, []⟩⟩, fun h => absurd h hic⟩
      let g : Nat → Fnd := fun i => (hall i).choose
      have hg : ∀ i, i < m → (RecBd (g i).r ∧ (Lit.int .i64 (g i).off).wf = true) ∧ FndAt W b (off + i * 5) (g i) := fun i => (hall i).choose_spec
      have hlt : b < W.heap.size := cell_lt (hg 0 (by omega)).2.1
      refine ⟨(List.range len).map g, .inr ⟨b, off, m, by simp, by simp; omega, by simp; omega, hlt, fun i hi => ?_⟩, by simp; omega, fun f hf => ?_⟩
      · simp at hi
        have := (hg i (by omega)).2
        simpa using this
      · simp only [List.mem_map, List.mem_range] at hf
        obtain ⟨i, hi, rfl⟩ := hf
        exact (hg i (by omega)).1
set_option maxRecDepth 100000 in
theorem fndsOf {H : Type} {enc : TypeId × Value → H} {W : World} {base : Nat} {v : Value} {d : DataW H} {p : List MemPlace} (hval : Value.okWide Try.prog W .any base 35 v) (h : DataW.Trod enc Try.prog W 0 (fun _ => true) true 35 v d p) :
    ∃ l : List Fnd, FndsIn W v l ∧ l.length ≤ maxLen ∧ ∀ f ∈ l, RecBd f.r ∧ (Lit.int .i64 f.off).wf = true := by
  obtain ⟨a, len, cap, rfl⟩ := okWide_slice Try.underlying35 hval
  obtain ⟨fuel, hf⟩ := h
  exact fnds_of (by simpa [Value.cells] using hf)
end Go.Proofs.Ythiliodmbipikaa
