/-
  The arguments of layer 4's statements, as they lie in memory: a command, a reply.
-/
import Derived.Test.YthiliodmbipikaaSegT
import Derived.Test.YthiliodmbipikaaReqS1
import Derived.Test.YthiliodmbipikaaReqE
set_option linter.unusedVariables false
set_option linter.unusedSimpArgs false
namespace Go.Proofs.Ythiliodmbipikaa
open Go.ChangeShapes Go.WideShapes Go.ChangeAt Go.RowKit Go.Deep Go.Joins

theorem list14 {α : Type} {l : List α} (h : l.length = 14) : ∃ c0 c1 c2 c3 c4 c5 c6 c7 c8 c9 c10 c11 c12 c13, l = [c0, c1, c2, c3, c4, c5, c6, c7, c8, c9, c10, c11, c12, c13] := by
  match l, h with
  | [c0, c1, c2, c3, c4, c5, c6, c7, c8, c9, c10, c11, c12, c13], _ => exact ⟨c0, c1, c2, c3, c4, c5, c6, c7, c8, c9, c10, c11, c12, c13, rfl⟩
theorem list6 {α : Type} {l : List α} (h : l.length = 6) : ∃ c0 c1 c2 c3 c4 c5, l = [c0, c1, c2, c3, c4, c5] := by
  match l, h with
  | [c0, c1, c2, c3, c4, c5], _ => exact ⟨c0, c1, c2, c3, c4, c5, rfl⟩
section
variable {H : Type} {enc : TypeId × Value → H} {W : World} {base : Nat}
set_option maxRecDepth 100000 in
theorem tops_of {n : Nat} {v : Value} {x : DataW H × List MemPlace} (h : DataW.trod enc Try.prog W 0 (fun _ => true) true n 27 [v] = some x) : ∃ l : List (List UInt8), TopsIn W v l ∧ l.length ≤ maxLen ∧ ∀ s ∈ l, s.length ≤ maxLen := by
  rcases open_slice Try.underlying27 h with ⟨h0, _⟩ | ⟨a, len, cap, m, n, D, Pl, hcs, hb, hl, hm, hmm, hx, hi⟩
  · simp only [List.cons.injEq, and_true] at h0
    exact ⟨[], .inl ⟨rfl, _, _, h0⟩, by simp, by simp⟩
  · simp only [List.cons.injEq, and_true] at hcs
    subst hcs
    simp only [if_true] at hmm
    subst hmm
    have hC : Try.prog.cellsOf 9 = 1 := by kernel_rfl
    have hcell : ∀ i, i < m → ∃ s : List UInt8, s.length ≤ maxLen ∧ W.cell? (a.add i) = some (.string (S s)) := by
      intro i him
      obtain ⟨cs', hc, ht'⟩ := hi i him
      rw [hC] at hc
      obtain ⟨_, hcl, hat⟩ := World.cells?_some hc
      match cs', hcl with
      | [v0], _ =>
        obtain ⟨s1, e1, _, l1⟩ := DataW.trod_string Try.underlying9 ht'
        simp only [List.cons.injEq, and_true] at e1
        subst e1
        have c0 := hat 0 (by omega)
        rw [Go.Deep.add_add] at c0
        refine ⟨s1.data.toList, l1, ?_⟩
        simp only [← S_of]
        simpa using c0
    by_cases h0 : len = 0
    · subst h0; exact ⟨[], .inl ⟨rfl, _, _, rfl⟩, by simp, by simp⟩
    · obtain ⟨b, off, spot⟩ := a
      have hspot : spot = none := by
        obtain ⟨r, _, hr⟩ := hcell 0 (by omega)
        simpa [Addr.add] using World.cell?_spot hr
      subst hspot
      have hall : ∀ i, ∃ s : List UInt8, i < m → s.length ≤ maxLen ∧ W.cell? ⟨b, off + i, none⟩ = some (.string (S s)) := by
        intro i
        by_cases hic : i < m
        · obtain ⟨s, hs, hr⟩ := hcell i hic
          simp only [addr_add] at hr
          exact ⟨s, fun _ => ⟨hs, hr⟩⟩
        · exact ⟨[], fun h => absurd h hic⟩
      let g : Nat → List UInt8 := fun i => (hall i).choose
      have hg : ∀ i, i < m → (g i).length ≤ maxLen ∧ W.cell? ⟨b, off + i, none⟩ = some (.string (S (g i))) := fun i => (hall i).choose_spec
      refine ⟨(List.range len).map g, .inr ⟨b, off, m, by simp, by simp; omega, cell_lt (hg 0 (by omega)).2, fun i hi => ?_⟩, by simp; omega, fun f hf => ?_⟩
      · simp at hi
        have := (hg i (by omega)).2
        simpa using this
      · simp only [List.mem_map, List.mem_range] at hf
        obtain ⟨i, hi, rfl⟩ := hf
        exact (hg i (by omega)).1
set_option maxRecDepth 100000 in
theorem parts_of {n : Nat} {v : Value} {x : DataW H × List MemPlace} (h : DataW.trod enc Try.prog W 0 (fun _ => true) true n 36 [v] = some x) : ∃ l : List Prt, PartsIn W v l ∧ l.length ≤ maxLen ∧ ∀ p ∈ l, p.1.length ≤ maxLen ∧ (Lit.int .i64 p.2).wf = true := by
  rcases open_slice_fields Try.underlying36 Try.underlying23 (by kernel_rfl) (by kernel_rfl) h with h0 | ⟨a, len, cap, m, hcs, hl, hm, hmm, hi⟩
  · simp only [List.cons.injEq, and_true] at h0
    exact ⟨[], .inl ⟨rfl, _, _, h0⟩, by decide, by simp⟩
  · simp only [List.cons.injEq, and_true] at hcs
    subst hcs
    simp only [if_true] at hmm
    subst hmm
    have hrec : ∀ i, i < m → ∃ r : Prt, (r.1.length ≤ maxLen ∧ (Lit.int .i64 r.2).wf = true) ∧ W.cell? (a.add (i * 2)) = some (.string (S r.1)) ∧ W.cell? (a.add (i * 2 + 1)) = some (.int .i64 r.2) := by
      intro i hic
      obtain ⟨n', hf⟩ := hi i hic
      obtain ⟨v0, y0, c0, h0⟩ := hf 0 _ rfl
      obtain ⟨v1, y1, c1, h1⟩ := hf 1 _ rfl
      obtain ⟨s1, e1, _, l1⟩ := DataW.trod_string Try.underlying9 h0
      obtain ⟨x0, e0, _, w0⟩ := DataW.trod_int Try.underlying3 h1
      simp only [List.cons.injEq, and_true] at e0 e1
      subst e0 e1
      exact ⟨(s1.data.toList, x0), ⟨l1, w0⟩, by simp only [← S_of]; exact c0, c1⟩
    by_cases h0 : len = 0
    · subst h0
      exact ⟨[], .inl ⟨rfl, _, _, rfl⟩, by decide, by simp⟩
    · obtain ⟨b, off, spot⟩ := a
      have hspot : spot = none := by
        obtain ⟨r, _, hr, _⟩ := hrec 0 (by omega)
        simpa [Addr.add] using World.cell?_spot hr
      subst hspot
      have hall : ∀ i, ∃ r : Prt, i < m → (r.1.length ≤ maxLen ∧ (Lit.int .i64 r.2).wf = true) ∧ PartAt W b (off + i * 2) r := by
        intro i
        by_cases hic : i < m
        · obtain ⟨r, hr1, hr⟩ := hrec i hic
          simp only [addr_add, ← Nat.add_assoc] at hr
          exact ⟨r, fun _ => ⟨hr1, hr⟩⟩
        · exact ⟨([], 0), fun h => absurd h hic⟩
      let g : Nat → Prt := fun i => (hall i).choose
      have hg : ∀ i, i < m → ((g i).1.length ≤ maxLen ∧ (Lit.int .i64 (g i).2).wf = true) ∧ PartAt W b (off + i * 2) (g i) := fun i => (hall i).choose_spec
      refine ⟨(List.range len).map g, .inr ⟨b, off, m, by simp, by simp; omega, cell_lt (hg 0 (by omega)).2.1, fun i hi => ?_⟩, by simp; omega, fun f hf => ?_⟩
      · simp at hi
        have := (hg i (by omega)).2
        simpa using this
      · simp only [List.mem_map, List.mem_range] at hf
        obtain ⟨i, hi, rfl⟩ := hf
        exact (hg i (by omega)).1
/-- What is known of a command handed in. -/
structure CmdArg (w : World) (c : Cmd) (rv tv : Value) : Prop where
  recs : RecsIn w rv c.recs
  tops : TopsIn w tv c.tops
  rbd : RecsBd c.recs
  tbd : c.tops.length ≤ maxLen ∧ ∀ s ∈ c.tops, s.length ≤ maxLen
  topic : c.topic.length ≤ maxLen
  group : c.group.length ≤ maxLen
  member : c.member.length ≤ maxLen
  gen : (Lit.int .i64 c.gen).wf = true
set_option maxRecDepth 100000 in
set_option maxHeartbeats 1000000 in
theorem op_of {v : Value} {d : DataW H} {p : List MemPlace} (hval : Value.okWide Try.prog W .any base 29 v) (h : DataW.Trod enc Try.prog W 0 (fun _ => true) true 29 v d p) :
    ∃ (c : Cmd) (rv tv : Value), v = .agg (c.arr rv tv) ∧ CmdArg W c rv tv := by
  obtain ⟨cs, rfl, hsz⟩ := okWide_struct Try.underlying29 hval
  have hC : Try.prog.cellsOf 29 = 14 := by kernel_rfl
  have k1 : Try.prog.cellsOf 3 = 1 := by kernel_rfl
  have k2 : Try.prog.cellsOf 9 = 1 := by kernel_rfl
  have k3 : Try.prog.cellsOf 4 = 1 := by kernel_rfl
  have k4 : Try.prog.cellsOf 23 = 2 := by kernel_rfl
  have k5 : Try.prog.cellsOf 26 = 4 := by kernel_rfl
  have k6 : Try.prog.cellsOf 27 = 1 := by kernel_rfl
  obtain ⟨l⟩ := cs
  obtain ⟨c0, c1, c2, c3, c4, c5, c6, c7, c8, c9, c10, c11, c12, c13, rfl⟩ := list14 (l := l) (by rw [hC] at hsz; exact hsz)
  obtain ⟨fuel, hf⟩ := h
  obtain ⟨ys, n, _, _, _, hyl, hF⟩ := DataW.trod_struct Try.underlying29 hf
  have hyl : ys.length = 10 := hyl
  have h0 := hF 0 _ rfl
  have h1 := hF 1 _ rfl
  have h2 := hF 2 _ rfl
  have h3 := hF 3 _ rfl
  have h4 := hF 4 _ rfl
  have h5 := hF 5 _ rfl
  have h6 := hF 6 _ rfl
  have h7 := hF 7 _ rfl
  have h8 := hF 8 _ rfl
  have h9 := hF 9 _ rfl
  simp only [Value.cells, List.getElem_toArray, List.getElem_cons_zero, List.getElem_cons_succ, k1, k2, k3, k4, k5, k6, List.drop_zero, List.drop_succ_cons, List.take_succ_cons, List.take_zero] at h0 h1 h2 h3 h4 h5 h6 h7 h8 h9
  rw [List.getElem?_eq_getElem (by omega)] at h0 h1 h2 h3 h4 h5 h6 h7 h8 h9
  obtain ⟨x0, e0, _, _⟩ := DataW.trod_int Try.underlying3 h0
  obtain ⟨x2, e2, _, _⟩ := DataW.trod_int Try.underlying3 h2
  obtain ⟨x3, e3, _, _⟩ := DataW.trod_int Try.underlying3 h3
  obtain ⟨s5, e5, _, l5⟩ := DataW.trod_string Try.underlying9 h5
  obtain ⟨s6, e6, _, l6⟩ := DataW.trod_string Try.underlying9 h6
  obtain ⟨x7, e7, _, w7⟩ := DataW.trod_int Try.underlying3 h7
  obtain ⟨b8, e8, _⟩ := DataW.trod_bool Try.underlying4 h8
  obtain ⟨tl, ht, htb⟩ := tops_of h9
  obtain ⟨ps, n1, _, _, _, hpl, hP⟩ := DataW.trod_struct Try.underlying23 h1
  have hpl : ps.length = 2 := hpl
  have p0 := hP 0 _ rfl
  have p1 := hP 1 _ rfl
  simp only [List.getElem_toArray, List.getElem_cons_zero, List.getElem_cons_succ, k1, k2, List.drop_zero, List.drop_succ_cons, List.take_succ_cons, List.take_zero] at p0 p1
  rw [List.getElem?_eq_getElem (by omega)] at p0 p1
  obtain ⟨sp, f0, _, lp⟩ := DataW.trod_string Try.underlying9 p0
  obtain ⟨xp, f1, _, _⟩ := DataW.trod_int Try.underlying3 p1
  obtain ⟨bs, n2, _, _, _, hbl, hB⟩ := DataW.trod_struct Try.underlying26 h4
  have hbl : bs.length = 4 := hbl
  have q0 := hB 0 _ rfl
  have q1 := hB 1 _ rfl
  have q2 := hB 2 _ rfl
  have q3 := hB 3 _ rfl
  simp only [List.getElem_toArray, List.getElem_cons_zero, List.getElem_cons_succ, k1, List.drop_zero, List.drop_succ_cons, List.take_succ_cons, List.take_zero] at q0 q1 q2 q3
  rw [List.getElem?_eq_getElem (by omega)] at q0 q1 q2 q3
  obtain ⟨y0, g0, _, _⟩ := DataW.trod_int Try.underlying3 q0
  obtain ⟨y1, g1, _, _⟩ := DataW.trod_int Try.underlying3 q1
  obtain ⟨y2, g2, _, _⟩ := DataW.trod_int Try.underlying3 q2
  obtain ⟨rl, hr, hrb⟩ := recs_of q3
  simp only [List.cons.injEq, and_true] at e0 e2 e3 e5 e6 e7 e8 f0 f1 g0 g1 g2
  subst e0 e2 e3 e5 e6 e7 e8 f0 f1 g0 g1 g2
  refine ⟨⟨x0, sp.data.toList, xp, x2, x3, y0, y1, y2, rl, s5.data.toList, s6.data.toList, x7, b8, tl⟩, c8, c13, ?_, ⟨hr, ht, hrb, htb, lp, l5, l6, w7⟩⟩
  simp only [Cmd.arr, ← S_of]
/-- What is known of a reply handed in. -/
structure RepArg (w : World) (r : Rep) (fv pv : Value) : Prop where
  found : FndsIn w fv r.found
  parts : PartsIn w pv r.parts
  fbd : r.found.length ≤ maxLen ∧ ∀ f ∈ r.found, RecBd f.r
  pbd : r.parts.length ≤ maxLen ∧ ∀ p ∈ r.parts, p.1.length ≤ maxLen
  gen : (Lit.int .i64 r.gen).wf = true
set_option maxRecDepth 100000 in
set_option maxHeartbeats 1000000 in
theorem rep_of {v : Value} {d : DataW H} {p : List MemPlace} (hval : Value.okWide Try.prog W .any base 38 v) (h : DataW.Trod enc Try.prog W 0 (fun _ => true) true 38 v d p) :
    ∃ (r : Rep) (fv pv : Value), v = .agg (r.arr fv pv) ∧ RepArg W r fv pv := by
  obtain ⟨cs, rfl, hsz⟩ := okWide_struct Try.underlying38 hval
  have hC : Try.prog.cellsOf 38 = 6 := by kernel_rfl
  have k0 : Try.prog.cellsOf 31 = 1 := by kernel_rfl
  have k1 : Try.prog.cellsOf 3 = 1 := by kernel_rfl
  have k2 : Try.prog.cellsOf 35 = 1 := by kernel_rfl
  have k3 : Try.prog.cellsOf 36 = 1 := by kernel_rfl
  obtain ⟨l⟩ := cs
  obtain ⟨c0, c1, c2, c3, c4, c5, rfl⟩ := list6 (l := l) (by rw [hC] at hsz; exact hsz)
  obtain ⟨fuel, hf⟩ := h
  obtain ⟨ys, n, _, _, _, hyl, hF⟩ := DataW.trod_struct Try.underlying38 hf
  have hyl : ys.length = 6 := hyl
  have h0 := hF 0 _ rfl
  have h1 := hF 1 _ rfl
  have h2 := hF 2 _ rfl
  have h3 := hF 3 _ rfl
  have h4 := hF 4 _ rfl
  have h5 := hF 5 _ rfl
  simp only [Value.cells, List.getElem_toArray, List.getElem_cons_zero, List.getElem_cons_succ, k0, k1, k2, k3, List.drop_zero, List.drop_succ_cons, List.take_succ_cons, List.take_zero] at h0 h1 h2 h3 h4 h5
  rw [List.getElem?_eq_getElem (by omega)] at h0 h1 h2 h3 h4 h5
  obtain ⟨x0, e0, _, _⟩ := DataW.trod_int Try.underlying31 h0
  obtain ⟨x1, e1, _, _⟩ := DataW.trod_int Try.underlying3 h1
  obtain ⟨x2, e2, _, _⟩ := DataW.trod_int Try.underlying3 h2
  obtain ⟨x3, e3, _, w3⟩ := DataW.trod_int Try.underlying3 h3
  obtain ⟨a4, l4, q4, s4⟩ := slice_form Try.underlying35 h4
  simp only [List.cons.injEq, and_true] at e0 e1 e2 e3 s4
  subst e0 e1 e2 e3 s4
  obtain ⟨fl, hfl, hf1, hf2⟩ := fnds_of (d := _) (p := _) h4
  obtain ⟨pl, hpl, hp1, hp2⟩ := parts_of h5
  exact ⟨⟨x0, x1, x2, x3, fl, pl⟩, _, _, rfl, ⟨hfl, hpl, ⟨hf1, fun f hf => (hf2 f hf).1⟩, ⟨hp1, fun p hp => (hp2 p hp).1⟩, w3⟩⟩
end
end Go.Proofs.Ythiliodmbipikaa
