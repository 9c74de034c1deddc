/-
  The walk of RequestBack.
-/
import Derived.Test.YthiliodmbipikaaReqLw
import Derived.Test.YthiliodmbipikaaReqLq
import Derived.Deep.DeepCutAuto
set_option linter.unusedVariables false
set_option linter.unusedSimpArgs false
namespace Go.Proofs.Ythiliodmbipikaa.requestBack
open Go.RowKit
attribute [local go_sem] ByteArray.extract_mk ByteArray.mk_append_mk

set_option maxHeartbeats 8000000 in
set_option maxRecDepth 100000 in
theorem walk {w : World} (c : Cmd) (rv tv : Value) (d : Cmd) (rv1 tv1 : Value) (s : List UInt8) (hc : CmdArg w c rv tv) (hd : CmdArg w d rv1 tv1) (hs : s.length ≤ maxLen) :
    RetB Try.prog 7 #[.agg (c.arr rv tv), .agg (d.arr rv1 tv1), .string (S s)] w (.bool true) := by
  refine RetB.intro fun R hR => ?_
  unfold maxLen at hs
  have q1 : ((min (s.length : Int) 1500).toNat) = min s.length 1500 := by omega
  obtain ⟨u, hu⟩ : ∃ l, s.take (min s.length 1500) = l := ⟨_, rfl⟩
  have lu : u.length ≤ 1500 := by rw [← hu, List.length_take]; omega
  have cC := Lib.hid (fun W (hW : Below w.heap.size w W) => cut4 c rv tv W (hc.below hW))
  have cD := Lib.hid (fun W (hW : Below w.heap.size w W) => cut4 d rv1 tv1 W (hd.below hW))
  have HF := Lib.hid (fun W => fixed4 W)
  obtain ⟨W0, hW0, B0, X0, Y0, sz0⟩ := start2 w (c.arr rv tv) (d.arr rv1 tv1) 29 29
  have XX := Lib.hid X0
  have YY := Lib.hid Y0
  have SZ := Lib.hid sz0
  have BB := Lib.hid B0
  clear X0 Y0 sz0 B0 hc hd
  dsimp only [Cmd.arr] at hW0 cC cD ⊢
  obtain ⟨HX0, kx0, x0, x1, x2, x3, x4, x5, x6, x7, x8, x9, x10, x11, x12, x13⟩ := arr_cells XX.out
  go_enter Try.func7, Try.ntmps7
  go_wp2_with fail
  try rw [hW0]
  clear hW0 HX0 kx0 x0 x1 x2 x3 x4 x5 x6 x7 x8 x9 x10 x11 x12 x13
  refine (cC.out _ BB.out).use ?_
  intro w1 rv2 tv2 g1
  have bd1 := Lib.hid (cutC_bd c)
  have G1 := Lib.hid g1
  clear g1 cC
  generalize cutC c = c' at bd1 G1 ⊢
  have X1 := XX.out.below G1.out.bel
  obtain ⟨HX1, kx1, x0, x1, x2, x3, x4, x5, x6, x7, x8, x9, x10, x11, x12, x13⟩ := arr_cells X1
  have fx1 : ∀ i, w1.frozen? ⟨w.heap.size, i, none⟩ = false := fun i => Blk.frozen X1 i
  have Y1 := YY.out.below G1.out.bel
  obtain ⟨W1, hW1, s1, k1⟩ := setOp X1 c' rv2 tv2
  have O1 := Lib.hid (OpB.store X1 G1.out.cin (B := w.heap.size + 1 + 1) (by omega) (fun x hx => by have := G1.out.own1 x hx; have := SZ.out; omega) (fun x hx => by have := G1.out.own2 x hx; have := SZ.out; omega) ⟨s1, k1⟩)
  have Y1' := Lib.hid (Y1.keptR k1 (by simp <;> omega))
  obtain ⟨HY1, ky1, y0, y1, y2, y3, y4, y5, y6, y7, y8, y9, y10, y11, y12, y13⟩ := arr_cells Y1'.out
  have P1 := Lib.hid (k1.toBelow (below_any (Nat.le_refl _) BB.out G1.out.bel) (by simp <;> omega))
  have SZ1 : Hid (w.heap.size + 1 + 1 ≤ W1.heap.size) := Lib.hid (by have h1 := SZ.out; have h2 := G1.out.bel.size; have h3 := k1.size; omega)
  obtain ⟨ra2, rc2, hrv⟩ := G1.out.cin.recs.form
  obtain ⟨ta2, tc2, htv⟩ := G1.out.cin.tops.form
  subst hrv htv
  clear X1 Y1 s1 k1 HX1 HY1 XX YY SZ BB G1
  dsimp only [Cmd.arr] at hW1 ⊢
  go_wp2_with fail
  try rw [hW1]
  clear x0 x1 x2 x3 x4 x5 x6 x7 x8 x9 x10 x11 x12 x13 y0 y1 y2 y3 y4 y5 y6 y7 y8 y9 y10 y11 y12 y13 kx1 ky1 fx1 hW1
  refine (cD.out _ P1.out).use ?_
  intro w2 rv3 tv3 g2
  have bd2 := Lib.hid (cutC_bd d)
  have G2 := Lib.hid g2
  clear g2 cD
  generalize cutC d = d' at bd2 G2 ⊢
  have Y2 := Y1'.out.below G2.out.bel
  obtain ⟨HY2, ky2, y0, y1, y2, y3, y4, y5, y6, y7, y8, y9, y10, y11, y12, y13⟩ := arr_cells Y2
  have fy2 : ∀ i, w2.frozen? ⟨w.heap.size + 1, i, none⟩ = false := fun i => Blk.frozen Y2 i
  obtain ⟨W2, hW2, s2, k2⟩ := setOp Y2 d' rv3 tv3
  have O2 := Lib.hid ((O1.out.below G2.out.bel).keptR k2 (by simp <;> omega) (by simp <;> omega))
  have Q2 := Lib.hid (OpB.store Y2 G2.out.cin (B := w.heap.size + 1 + 1) (by omega) (fun x hx => by have := G2.out.own1 x hx; have := SZ1.out; omega) (fun x hx => by have := G2.out.own2 x hx; have := SZ1.out; omega) ⟨s2, k2⟩)
  have P2 := Lib.hid (k2.toBelow (below_any (Nat.le_refl _) P1.out G2.out.bel) (by simp <;> omega))
  obtain ⟨ra3, rc3, hrv⟩ := G2.out.cin.recs.form
  obtain ⟨ta3, tc3, htv⟩ := G2.out.cin.tops.form
  subst hrv htv
  clear Y2 s2 k2 HY2 SZ1 P1 O1 Y1' G2
  have cP1 := Lib.hid (put4 c' _ _ W2 O2.out.cin bd1.out (fun b hb => (O2.out.o1 b hb).2) (fun b hb => (O2.out.o2 b hb).2))
  have cP2 := Lib.hid (fun W (hW : Below W2.heap.size W2 W) => put4 d' _ _ W (Q2.out.below hW).cin bd2.out (fun b hb => ((Q2.out.below hW).o1 b hb).2) (fun b hb => ((Q2.out.below hW).o2 b hb).2))
  have O2b := O2.out.blk
  have Q2b := Q2.out.blk
  dsimp only [Cmd.arr] at hW2 cP1 cP2 O2b Q2b ⊢
  obtain ⟨HO2, ko2, x0, x1, x2, x3, x4, x5, x6, x7, x8, x9, x10, x11, x12, x13⟩ := arr_cells O2b
  clear O2b Q2b HO2
  obtain ⟨B, EB, hBE⟩ : ∃ B EB, cmdPut d' = (B, EB) := ⟨_, _, rfl⟩
  obtain ⟨A, EA, hAE⟩ : ∃ A EA, cmdPut c' = (A, EA) := ⟨_, _, rfl⟩
  rw [hBE] at cP2
  rw [hAE] at cP1
  dsimp only at cP1 cP2
  have HBE := Lib.hid hBE
  have HAE := Lib.hid hAE
  clear hBE hAE
  go_wp2_with fail
  try rw [hW2]
  refine cP1.out.use ?_
  intro w3 b3
  obtain ⟨HQ3, kq3, z0, z1, z2, z3, z4, z5, z6, z7, z8, z9, z10, z11, z12, z13⟩ := arr_cells (Q2.out.blk.below b3)
  clear hW2 x0 x1 x2 x3 x4 x5 x6 x7 x8 x9 x10 x11 x12 x13 y0 y1 y2 y3 y4 y5 y6 y7 y8 y9 y10 y11 y12 y13 fy2 ky2 ko2 HQ3
  go_wp2_with fail
  refine (cP2.out _ b3).use ?_
  intro w4 b4
  have P4 := Lib.hid (below_any (Nat.le_refl _) (below_any (Nat.le_refl _) P2.out b3) b4)
  have O4 := Lib.hid ((O2.out.below b3).below b4)
  have Q4 := Lib.hid ((Q2.out.below b3).below b4)
  clear z0 z1 z2 z3 z4 z5 z6 z7 z8 z9 z10 z11 z12 z13 kq3 b3 b4 O2 Q2 P2 cP1 cP2
  go_upto_if 37 with fail
  go_cut [] (fun wc => Below w.heap.size w wc)
  case' first =>
    by_cases hEA : EA = 0
    · subst hEA
      have h0 : ccheck c' = 0 ∧ cmdText c' = A := by
        have h := HAE.out
        unfold cmdPut at h
        by_cases h1 : ccheck c' = 0
        · rw [if_pos h1] at h
          simp only [Prod.mk.injEq] at h
          exact ⟨h1, h.1⟩
        · rw [if_neg h1] at h
          simp only [Prod.mk.injEq] at h
          exact absurd h.2 h1
      obtain ⟨h0, hA0⟩ := h0
      have gA := Lib.hid (fun (c : Cmd) n (g : Got ccheck cmdText zcmd A c n) => g.2 c' h0 hA0)
      have gB := Lib.hid (fun (c : Cmd) n (g : Got ccheck cmdText zcmd A c n) (h1 : ccheck d' = 0) (h2 : cmdText d' = A) => g.2 d' h1 h2)
      have lA : A.length ≤ 800000 := hA0 ▸ cmdText_le h0
      have HBE2 : Hid (EB = 0 → ccheck d' = 0 ∧ cmdText d' = B) := Lib.hid (by
        have h := HBE.out
        unfold cmdPut at h
        intro hE
        by_cases h1 : ccheck d' = 0
        · rw [if_pos h1] at h
          simp only [Prod.mk.injEq] at h
          exact ⟨h1, h.1⟩
        · rw [if_neg h1] at h
          simp only [Prod.mk.injEq] at h
          omega)
      have HBE3 : Hid (c' = d' → B = A) := Lib.hid (by
        intro h
        have h2 := HBE.out
        rw [← h, HAE.out] at h2
        simp only [Prod.mk.injEq] at h2
        exact h2.1.symm)
      clear h0 hA0 HBE HAE
      go_wp2_with fail
      refine (get4 A _ (by omega)).use ?_
      intro w5 q5 rq5 tq5 n5 g5
      obtain ⟨hn5, hq5⟩ := gA.out _ _ g5.got
      have gB5 := Lib.hid (gB.out _ _ g5.got)
      subst hn5
      obtain ⟨ra5, rc5, hrv⟩ := g5.cin.recs.form
      obtain ⟨ta5, tc5, htv⟩ := g5.cin.tops.form
      have G5 := Lib.hid g5
      subst hrv htv
      rw [hq5] at G5 gB5 ⊢
      clear g5 hq5 gA gB
      obtain ⟨W5, hW5, B5, V5, sz5⟩ := start1 w5 (c'.arr (.slice ra5 c'.recs.length rc5) (.slice ta5 c'.tops.length tc5)) 29
      have I5 := Lib.hid (G5.out.cin.below B5)
      have O5 := Lib.hid ((O4.out.below G5.out.bel).below B5)
      have Q5 := Lib.hid ((Q4.out.below G5.out.bel).below B5)
      have P5 := Lib.hid (below_any (Nat.le_refl _) (below_any (Nat.le_refl _) P4.out G5.out.bel) B5)
      clear B5 sz5 O4 Q4 P4 G5
      have lc : c'.recs.length ≤ maxLen := bd1.out.recs.1
      have ld : d'.recs.length ≤ maxLen := bd2.out.recs.1
      have tc : c'.tops.length ≤ 1000000 := bd1.out.tops.1
      have td : d'.tops.length ≤ 1000000 := bd2.out.tops.1
      have cS1 := Lib.hid ((dsame4 c' c' _ _ _ _ W5 I5.out.recs I5.out.tops O5.out.cin.recs O5.out.cin.tops ⟨lc, lc⟩ ⟨tc, tc⟩).cast (congrArg Value.bool (decide_eq_true rfl)))
      have cS2 := Lib.hid (fun W (hW : Below W5.heap.size W5 W) => dsame4 c' d' _ _ _ _ W (O5.out.below hW).cin.recs (O5.out.below hW).cin.tops (Q5.out.below hW).cin.recs (Q5.out.below hW).cin.tops ⟨lc, ld⟩ ⟨tc, td⟩)
      have O5b := O5.out.blk
      clear lc ld tc td bd1 bd2 I5
      dsimp only [Cmd.arr] at hW5 V5 cS1 cS2 O5b ⊢
      obtain ⟨HV5, kv5, v0, v1, v2, v3, v4, v5, v6, v7, v8, v9, v10, v11, v12, v13⟩ := arr_cells V5
      obtain ⟨HO5, ko5, x0, x1, x2, x3, x4, x5, x6, x7, x8, x9, x10, x11, x12, x13⟩ := arr_cells O5b
      clear V5 O5b HV5 HO5
      go_upto_region 8 with fail
      try rw [hW5]
      clear hW5
      by_cases hE : EB = 0
      · subst hE
        obtain ⟨hd0, hdB⟩ := HBE2.out rfl
        obtain ⟨X, Y, hX, hY, hXY⟩ : ∃ X Y, decide (c' = d') = X ∧ (A == B) = Y ∧ Y = X := by
          refine ⟨_, _, rfl, rfl, ?_⟩
          by_cases hcd : c' = d'
          · rw [HBE3.out hcd, decide_eq_true hcd]; simp
          · have hAB : A ≠ B := fun h => hcd (((gB5.out hd0 (hdB.trans h.symm)).2))
            rw [decide_eq_false hcd]; simpa using hAB
        rw [hX] at cS2
        subst hXY
        clear HBE2 HBE3 gB5 hd0 hdB hX
        go_wp2_with fail
        refine cS1.out.use ?_
        intro w6 b6
        obtain ⟨HO6, ko6, y0, y1, y2, y3, y4, y5, y6, y7, y8, y9, y10, y11, y12, y13⟩ := arr_cells (O5.out.blk.below b6)
        obtain ⟨HQ6, kq6, z0, z1, z2, z3, z4, z5, z6, z7, z8, z9, z10, z11, z12, z13⟩ := arr_cells (Q5.out.blk.below b6)
        clear v0 v1 v2 v3 v4 v5 v6 v7 v8 v9 v10 v11 v12 v13 x0 x1 x2 x3 x4 x5 x6 x7 x8 x9 x10 x11 x12 x13 kv5 ko5 HO6 HQ6
        go_wp2_with fail
        refine (cS2.out _ b6).use ?_
        intro w7 b7
        cases Y
        all_goals
          go_wp2_with fail
          go_meet
          exact below_any (Nat.le_refl _) (below_any (Nat.le_refl _) P5.out b6) b7
      · have te1 : ((EB : Int) = 0) = False := eq_false (by omega)
        have te2 : ((EB : Int) == 0) = false := beq_eq_false_iff_ne.2 (by omega)
        have te3 : (EB = 0) = False := eq_false hE
        clear HBE2 HBE3 gB5 hE
        go_wp2_with fail
        refine cS1.out.use ?_
        intro w6 b6
        go_wp2_with fail
        go_meet
        exact below_any (Nat.le_refl _) P5.out b6
    · have te1 : ((EA : Int) = 0) = False := eq_false (by omega)
      have te2 : ((EA : Int) == 0) = false := beq_eq_false_iff_ne.2 (by omega)
      have te3 : (EA = 0) = False := eq_false hEA
      clear hEA
      go_wp2_with fail
      go_meet
      exact P4.out
  have HP := Lib.hid hcut
  clear hcut P4 O4 Q4 bd1 bd2 HAE HBE
  go_wp2_with fail
  refine (get4 u _ (by omega)).use ?_
  intro w6 q6 rq6 tq6 n6 g6
  obtain ⟨ra6, rc6, hrv⟩ := g6.cin.recs.form
  obtain ⟨ta6, tc6, htv⟩ := g6.cin.tops.form
  have G6 := Lib.hid g6
  have hg6 := g6.got.1
  subst hrv htv
  clear g6
  obtain ⟨W6, hW6, B6, V6, sz6⟩ := start1 w6 (q6.arr (.slice ra6 q6.recs.length rc6) (.slice ta6 q6.tops.length tc6)) 29
  have P6 := Lib.hid (below_any (Nat.le_refl _) (below_any (Nat.le_refl _) HP.out G6.out.bel) B6)
  have I6 := Lib.hid (G6.out.cin.below B6)
  have D6 := Lib.hid G6.out.bd
  have OW6 := Lib.hid (And.intro (fun b hb => Nat.lt_of_lt_of_le (G6.out.own1 b hb).2 B6.size) (fun b hb => Nat.lt_of_lt_of_le (G6.out.own2 b hb).2 B6.size))
  have VV6 := Lib.hid V6
  clear G6 B6 sz6
  rcases hg6 with ⟨hn6, hc6, ht6⟩ | ⟨hn6, hq6⟩
  · subst hn6
    have e6 : cmdPut q6 = (u, 0) := by unfold cmdPut; rw [if_pos hc6, ht6]
    have cR6 := Lib.hid ((put4 q6 _ _ W6 I6.out D6.out OW6.out.1 OW6.out.2).cast (v' := .tuple #[.string (S u), .int .i64 0]) (by rw [e6]; rfl))
    have cK6 := Lib.hid (fun W (hW : Below W6.heap.size W6 W) => (check4 q6 _ _ W (I6.out.below hW) D6.out (fun b hb => Nat.lt_of_lt_of_le (OW6.out.1 b hb) hW.size) (fun b hb => Nat.lt_of_lt_of_le (OW6.out.2 b hb) hW.size)).cast (v' := .int .i64 0) (by rw [hc6]; rfl))
    clear hc6 ht6 e6 I6 D6 OW6
    dsimp only [Cmd.arr] at hW6 V6 cR6 cK6 ⊢
    obtain ⟨HV6, kv6, v0, v1, v2, v3, v4, v5, v6, v7, v8, v9, v10, v11, v12, v13⟩ := arr_cells V6
    clear V6 HV6
    go_wp2_with fail
    try rw [hW6]
    refine cR6.out.use ?_
    intro w7 b7
    obtain ⟨HV7, kv7, t0, t1, t2, t3, t4, t5, t6, t7, t8, t9, t10, t11, t12, t13⟩ := arr_cells (VV6.out.below b7)
    clear hW6 HV7 kv6 v0 v1 v2 v3 v4 v5 v6 v7 v8 v9 v10 v11 v12 v13
    go_wp2_with fail
    refine (cK6.out _ b7).use ?_
    intro w8 b8
    go_wp2_with fail
    refine (HF.out _).use ?_
    intro w9 b9
    go_wp2_with fail
    exact finB hR (below_any (Nat.le_refl _) (below_any (Nat.le_refl _) (below_any (Nat.le_refl _) P6.out b7) b8) b9) rfl
  · subst hn6
    subst hq6
    have cA6 := Lib.hid ((dsame4 zcmd zcmd _ _ (.slice none 0 0) (.slice none 0 0) W6 I6.out.recs I6.out.tops (zcmd_in _).recs (zcmd_in _).tops (by decide) (by decide)).cast (congrArg Value.bool (decide_eq_true rfl)))
    clear I6 D6 OW6 VV6
    dsimp only [Cmd.arr, zcmd, List.length_nil] at hW6 V6 cA6 ⊢
    obtain ⟨HV6, kv6, v0, v1, v2, v3, v4, v5, v6, v7, v8, v9, v10, v11, v12, v13⟩ := arr_cells V6
    clear V6 HV6
    go_wp2_with fail
    try rw [hW6]
    refine cA6.out.use ?_
    intro w7 b7
    clear hW6
    go_wp2_with fail
    refine (HF.out _).use ?_
    intro w8 b8
    go_wp2_with fail
    exact finB hR (below_any (Nat.le_refl _) (below_any (Nat.le_refl _) P6.out b7) b8) rfl
end Go.Proofs.Ythiliodmbipikaa.requestBack
