/-
  The walk of RequestAnswers.
-/
import Derived.Test.YthiliodmbipikaaReqLw
import Derived.Test.YthiliodmbipikaaReqLq
set_option linter.unusedVariables false
set_option linter.unusedSimpArgs false
namespace Go.Proofs.Ythiliodmbipikaa.requestAnswers
open Go.RowKit
attribute [local go_sem] ByteArray.extract_mk ByteArray.mk_append_mk

set_option maxHeartbeats 8000000 in
set_option maxRecDepth 100000 in
theorem walk {w : World} (r : Rep) (fv pv : Value) (s : List UInt8) (m : Nat) (hr : RepArg w r fv pv) (hs : s.length ≤ maxLen) (hm : 0 ≤ ((m : Nat) : Int) ∧ ((m : Nat) : Int) < 256) :
    RetB Try.prog 8 #[.agg (r.arr fv pv), .string (S s), .int .u8 m] w (.bool true) := by
  refine RetB.intro fun R hR => ?_
  unfold maxLen at hs
  have q1 : ((min (s.length : Int) 1500).toNat) = min s.length 1500 := by omega
  obtain ⟨u, hu⟩ : ∃ l, s.take (min s.length 1500) = l := ⟨_, rfl⟩
  have lu : u.length ≤ 1500 := by rw [← hu, List.length_take]; omega
  have cR := Lib.hid (fun W (hW : Below w.heap.size w W) => cutr4 r fv pv W (hr.below hW))
  obtain ⟨W0, hW0, B0, X0, sz0⟩ := start1 w (r.arr fv pv) 38
  have XX := Lib.hid X0
  have SZ := Lib.hid sz0
  have BB := Lib.hid B0
  have HF := Lib.hid (fun W => fixed4 W)
  clear X0 sz0 B0 hr
  dsimp only [Rep.arr] at hW0 cR ⊢
  obtain ⟨kx0, a0, a1, a2, a3, a4, a5⟩ := arr6_cells XX.out
  go_enter Try.func8, Try.ntmps8
  go_wp2_with fail
  try rw [hW0]
  clear hW0 kx0 a0 a1 a2 a3 a4 a5
  refine (cR.out _ BB.out).use ?_
  intro w1 fv2 pv2 g1
  have bd1 := Lib.hid (cutRep_bd r)
  have G1 := Lib.hid g1
  clear g1 cR
  generalize cutRep r = r' at bd1 G1 ⊢
  have X1 := XX.out.below G1.out.bel
  obtain ⟨kx1, x0, x1, x2, x3, x4, x5⟩ := arr6_cells X1
  have fx1 : ∀ i, w1.frozen? ⟨w.heap.size, i, none⟩ = false := fun i => Blk.frozen X1 i
  obtain ⟨W1, hW1, s1, k1⟩ := setRep X1 r' fv2 pv2
  have O1 := Lib.hid (RepB.store G1.out.rin (B := w.heap.size + 1) (by omega) (fun x hx => by have := G1.out.own1 x hx; have := SZ.out; omega) (fun x hx => by have := G1.out.own2 x hx; have := SZ.out; omega) ⟨s1, k1⟩)
  have P1 := Lib.hid (k1.toBelow (below_any (Nat.le_refl _) BB.out G1.out.bel) (by simp))
  have SZ1 : Hid (w.heap.size + 1 ≤ W1.heap.size) := Lib.hid (by have h1 := SZ.out; have h2 := G1.out.bel.size; have h3 := k1.size; omega)
  obtain ⟨fa2, fc2, hfv⟩ := G1.out.rin.found.form
  obtain ⟨pa2, pc2, hpv⟩ := G1.out.rin.parts.form
  subst hfv hpv
  clear X1 s1 k1 XX SZ BB G1
  have cP := Lib.hid (reply4 r' _ _ W1 O1.out.rin bd1.out)
  have O1b := O1.out.blk
  dsimp only [Rep.arr] at hW1 cP O1b ⊢
  obtain ⟨ky1, y0, y1, y2, y3, y4, y5⟩ := arr6_cells O1b
  clear O1b
  by_cases h0 : repCheck r' = 0
  case neg =>
    have e0 : repPut r' = ([], repCheck r') := by unfold repPut; rw [if_neg h0]
    rw [e0] at cP
    dsimp only at cP
    have t0 : ((repCheck r' : Nat) : Int) ≠ 0 := by omega
    generalize ((repCheck r' : Nat) : Int) = E at *
    have t1 : (E = 0) = False := eq_false t0
    have t2 : (E == 0) = false := by simpa using t0
    have t3 : (E != 0) = true := by simpa using t0
    clear e0 t0
    go_wp2_with fail
    try rw [hW1]
    refine cP.out.use ?_
    intro w2 b2
    have HP := Lib.hid (below_any (Nat.le_refl _) P1.out b2)
    have k0c := trivial
    clear hW1 x0 x1 x2 x3 x4 x5 y0 y1 y2 y3 y4 y5 fx1 kx1 ky1
    clear k0c
    go_wp2_with fail
    refine (parse4 u _ (by omega)).use ?_
    intro w6 q6 fq6 pq6 n6 g6
    obtain ⟨fa6, fc6, hfv⟩ := g6.rin.found.form
    obtain ⟨pa6, pc6, hpv⟩ := g6.rin.parts.form
    have G6 := Lib.hid g6
    have hg6 := g6.got.1
    subst hfv hpv
    clear g6
    obtain ⟨W6, hW6, B6, V6, sz6⟩ := start1 w6 (q6.arr (.slice fa6 q6.found.length fc6) (.slice pa6 q6.parts.length pc6)) 38
    have P6 := Lib.hid (below_any (Nat.le_refl _) (below_any (Nat.le_refl _) HP.out G6.out.bel) B6)
    have I6 := Lib.hid (G6.out.rin.below B6)
    have D6 := Lib.hid G6.out.bd
    clear G6 B6 sz6
    rcases hg6 with ⟨hn6, hc6, ht6⟩ | ⟨hn6, hq6⟩
    · subst hn6
      have e6 : repPut q6 = (u, 0) := by unfold repPut; rw [if_pos hc6, ht6]
      have cR6 := Lib.hid ((reply4 q6 _ _ W6 I6.out D6.out).cast (v' := .tuple #[.string (S u), .int .i64 0]) (by rw [e6]; rfl))
      clear hc6 ht6 e6 I6 D6
      dsimp only [Rep.arr] at hW6 V6 cR6 ⊢
      obtain ⟨kv6, v0, v1, v2, v3, v4, v5⟩ := arr6_cells V6
      clear V6
      go_wp2_with fail
      try rw [hW6]
      refine cR6.out.use ?_
      intro w7 b7
      clear hW6
      go_wp2_with fail
      refine (HF.out _).use ?_
      intro w8 b8
      go_wp2_with fail
      exact finB hR (below_any (Nat.le_refl _) (below_any (Nat.le_refl _) P6.out b7) b8) rfl
    · subst hn6
      subst hq6
      have cA6 := Lib.hid ((dalike4 zrep zrep _ _ (.slice none 0 0) (.slice none 0 0) W6 I6.out (zrep_in _) (by decide) (by decide)).cast (congrArg Value.bool (decide_eq_true rfl)))
      clear I6 D6
      dsimp only [Rep.arr, zrep, List.length_nil] at hW6 V6 cA6 ⊢
      obtain ⟨kv6, v0, v1, v2, v3, v4, v5⟩ := arr6_cells V6
      clear V6
      go_wp2_with fail
      try rw [hW6]
      refine cA6.out.use ?_
      intro w7 b7
      clear hW6
      go_wp2_with fail
      refine (HF.out _).use ?_
      intro w8 b8
      go_wp2_with fail
      exact finB hR (below_any (Nat.le_refl _) (below_any (Nat.le_refl _) P6.out b7) b8) rfl
  case pos =>
    have e0 : repPut r' = (repText r', 0) := by unfold repPut; rw [if_pos h0]
    rw [e0] at cP
    dsimp only at cP
    have gA := Lib.hid (fun (c : Rep) n (g : Got repCheck repText zrep (repText r') c n) => g.2 r' h0 rfl)
    have gM := Lib.hid (fun (c : Rep) n (g : Got repCheck repText zrep (repText r' ++ [UInt8.ofNat m]) c n) => rep_more h0 (UInt8.ofNat m) g)
    have gL := Lib.hid (fun (c : Rep) n (g : Got repCheck repText zrep ((repText r').take ((repText r').length - 1)) c n) => rep_less h0 g)
    have lA := repText_le h0
    have nA : 0 < (repText r').length := List.length_pos_iff.2 (repText_ne r')
    clear e0 h0
    generalize repText r' = A at *
    have t1 : ((A.length : Int) = 0) = False := eq_false (by omega)
    have t2 : ((A.length : Int) == 0) = false := beq_eq_false_iff_ne.2 (by omega)
    have q3 : ((A.length : Int) - 1).toNat = A.length - 1 := by omega
    have q4 : IntKind.i64.wrap ((A.length : Int) - 1) = (A.length : Int) - 1 := by rw [IntKind.wrap_i64]; omega
    have qf5 : ((0 : Int) ≤ (A.length : Int) - 1) = True := eq_true (by omega)
    have qf6 : ((A.length : Int) - 1 ≤ (A.length : Int)) = True := eq_true (by omega)
    go_wp2_with fail
    try rw [hW1]
    refine (cP.out.cast (v' := .tuple #[.string (S A), .int .i64 0]) rfl).use ?_
    intro w2 b2
    have O2 := Lib.hid (O1.out.below b2)
    have P2 := Lib.hid (below_any (Nat.le_refl _) P1.out b2)
    clear hW1 x0 x1 x2 x3 x4 x5 y0 y1 y2 y3 y4 y5 fx1 kx1 ky1 P1 O1 b2 cP
    go_wp2_with fail
    refine (parse4 A _ (by omega)).use ?_
    intro w3 q3 fq pq n3 g3
    obtain ⟨hn3, hq3⟩ := gA.out _ _ g3.got
    subst hn3
    obtain ⟨fa3, fc3, hfv⟩ := g3.rin.found.form
    obtain ⟨pa3, pc3, hpv⟩ := g3.rin.parts.form
    have G3 := Lib.hid g3
    subst hfv hpv
    rw [hq3] at G3 ⊢
    clear g3 hq3 gA
    obtain ⟨W3, hW3, B3, V3, sz3⟩ := start1 w3 (r'.arr (.slice fa3 r'.found.length fc3) (.slice pa3 r'.parts.length pc3)) 38
    have VV3 := Lib.hid V3
    have I3 := Lib.hid (G3.out.rin.below B3)
    have O3 := Lib.hid ((O2.out.below G3.out.bel).below B3)
    have P3 := Lib.hid (below_any (Nat.le_refl _) (below_any (Nat.le_refl _) P2.out G3.out.bel) B3)
    clear B3 V3 sz3 O2 P2 G3
    have cA5 := Lib.hid (fun W (hW : Below W3.heap.size W3 W) => (dalike4 r' r' _ _ _ _ W (I3.out.below hW) (O3.out.below hW).rin ⟨bd1.out.found.1, bd1.out.found.1⟩ ⟨bd1.out.parts.1, bd1.out.parts.1⟩).cast (congrArg Value.bool (decide_eq_true rfl)))
    have hcA := conv1 (P := Try.prog) Try.underlying53 Try.underlying5 Try.underlying9 (W3.alloc (.cells #[.int .u8 (m : Int)] 5)) W3.heap.size 1 m (by simp)
    rw [strOfNums_one] at hcA
    have hgt : ¬ 9223372036854775807 < A.length + [UInt8.ofNat m].length := by simp; omega
    dsimp only [Rep.arr] at hW3 cA5 ⊢
    go_wp2_with fail
    try rw [hW3]
    refine (parse4 (A ++ [UInt8.ofNat m]) _ (by simp; omega)).use ?_
    intro w4 q4 fq4 pq4 n4 g4
    obtain ⟨hn4, hq4⟩ := gM.out _ _ g4.got
    subst hn4
    obtain ⟨fa4, fc4, hfv⟩ := g4.rin.found.form
    obtain ⟨pa4, pc4, hpv⟩ := g4.rin.parts.form
    have B4a := Lib.hid (below_any (Nat.le_refl _) (below_all (Below.refl W3.heap.size W3)) g4.bel)
    subst hfv hpv
    rw [hq4]
    clear g4 gM hcA hgt hW3
    obtain ⟨W4, hW4, B4, V4, sz4⟩ := start1 w4 (zrep.arr (.slice fa4 q4.found.length fc4) (.slice pa4 q4.parts.length pc4)) 38
    have B4b := Lib.hid (below_any (Nat.le_refl _) B4a.out B4)
    clear B4 V4 sz4 B4a
    rw [hq4] at hW4
    clear hq4
    dsimp only [Rep.arr, zrep, List.length_nil] at hW4 ⊢
    go_wp2_with fail
    try rw [hW4]
    refine (parse4 (A.take (A.length - 1)) _ (by rw [List.length_take]; omega)).use ?_
    intro w5 q5 fq5 pq5 n5 g5
    obtain ⟨hn5, hq5⟩ := gL.out _ _ g5.got
    subst hn5
    obtain ⟨fa5, fc5, hfv⟩ := g5.rin.found.form
    obtain ⟨pa5, pc5, hpv⟩ := g5.rin.parts.form
    have B5a := Lib.hid (below_any (Nat.le_refl _) B4b.out g5.bel)
    subst hfv hpv
    rw [hq5]
    clear g5 gL hW4 B4b
    obtain ⟨W5, hW5, B5, V5, sz5⟩ := start1 w5 (zrep.arr (.slice fa5 q5.found.length fc5) (.slice pa5 q5.parts.length pc5)) 38
    have B5b := Lib.hid (below_any (Nat.le_refl _) B5a.out B5)
    clear B5 V5 sz5 B5a
    rw [hq5] at hW5
    clear hq5
    obtain ⟨kv5, v0, v1, v2, v3, v4, v5⟩ := arr6_cells (VV3.out.below B5b.out)
    obtain ⟨ko5, x0, x1, x2, x3, x4, x5⟩ := arr6_cells (O3.out.blk.below B5b.out)
    dsimp only [Rep.arr, zrep, List.length_nil] at hW5 ⊢
    go_wp2_with fail
    try rw [hW5]
    refine (cA5.out _ B5b.out).use ?_
    intro w9 b9
    have HP := Lib.hid (below_any (Nat.le_refl _) (below_any (Nat.le_refl _) P3.out B5b.out) b9)
    have k0c := trivial
    clear hW5 v0 v1 v2 v3 v4 v5 x0 x1 x2 x3 x4 x5 kv5 ko5 b9 B5b P3 VV3 I3 O3 cA5
    clear k0c
    go_wp2_with fail
    refine (parse4 u _ (by omega)).use ?_
    intro w6 q6 fq6 pq6 n6 g6
    obtain ⟨fa6, fc6, hfv⟩ := g6.rin.found.form
    obtain ⟨pa6, pc6, hpv⟩ := g6.rin.parts.form
    have G6 := Lib.hid g6
    have hg6 := g6.got.1
    subst hfv hpv
    clear g6
    obtain ⟨W6, hW6, B6, V6, sz6⟩ := start1 w6 (q6.arr (.slice fa6 q6.found.length fc6) (.slice pa6 q6.parts.length pc6)) 38
    have P6 := Lib.hid (below_any (Nat.le_refl _) (below_any (Nat.le_refl _) HP.out G6.out.bel) B6)
    have I6 := Lib.hid (G6.out.rin.below B6)
    have D6 := Lib.hid G6.out.bd
    clear G6 B6 sz6
    rcases hg6 with ⟨hn6, hc6, ht6⟩ | ⟨hn6, hq6⟩
    · subst hn6
      have e6 : repPut q6 = (u, 0) := by unfold repPut; rw [if_pos hc6, ht6]
      have cR6 := Lib.hid ((reply4 q6 _ _ W6 I6.out D6.out).cast (v' := .tuple #[.string (S u), .int .i64 0]) (by rw [e6]; rfl))
      clear hc6 ht6 e6 I6 D6
      dsimp only [Rep.arr] at hW6 V6 cR6 ⊢
      obtain ⟨kv6, v0, v1, v2, v3, v4, v5⟩ := arr6_cells V6
      clear V6
      go_wp2_with fail
      try rw [hW6]
      refine cR6.out.use ?_
      intro w7 b7
      clear hW6
      go_wp2_with fail
      refine (HF.out _).use ?_
      intro w8 b8
      go_wp2_with fail
      exact finB hR (below_any (Nat.le_refl _) (below_any (Nat.le_refl _) P6.out b7) b8) rfl
    · subst hn6
      subst hq6
      have cA6 := Lib.hid ((dalike4 zrep zrep _ _ (.slice none 0 0) (.slice none 0 0) W6 I6.out (zrep_in _) (by decide) (by decide)).cast (congrArg Value.bool (decide_eq_true rfl)))
      clear I6 D6
      dsimp only [Rep.arr, zrep, List.length_nil] at hW6 V6 cA6 ⊢
      obtain ⟨kv6, v0, v1, v2, v3, v4, v5⟩ := arr6_cells V6
      clear V6
      go_wp2_with fail
      try rw [hW6]
      refine cA6.out.use ?_
      intro w7 b7
      clear hW6
      go_wp2_with fail
      refine (HF.out _).use ?_
      intro w8 b8
      go_wp2_with fail
      exact finB hR (below_any (Nat.le_refl _) (below_any (Nat.le_refl _) P6.out b7) b8) rfl
end Go.Proofs.Ythiliodmbipikaa.requestAnswers
