/-
  The walk of RequestPuts.
-/
import Derived.Test.YthiliodmbipikaaReqLw
import Derived.Test.YthiliodmbipikaaReqDp
import Derived.Test.YthiliodmbipikaaReqD1
set_option linter.unusedVariables false
set_option linter.unusedSimpArgs false
namespace Go.Proofs.Ythiliodmbipikaa.requestPuts
open Go.RowKit
attribute [local go_sem] ByteArray.extract_mk ByteArray.mk_append_mk

theorem cutC_cut (c : Cmd) : cutC (cutC c) = cutC c := by
  simp [cutC, cutRs, cutTops, List.map_take, List.take_take, cutR, Function.comp_def]
  rfl
set_option maxHeartbeats 8000000 in
set_option maxRecDepth 100000 in
theorem walk {w : World} (c : Cmd) (rv tv : Value) (d : Cmd) (rv1 tv1 : Value) (s : List UInt8) (hc : CmdArg w c rv tv) (hd : CmdArg w d rv1 tv1) (hs : s.length ≤ maxLen) :
    RetB Try.prog 5 #[.agg (c.arr rv tv), .agg (d.arr rv1 tv1), .string (S s)] w (.bool true) := by
  refine RetB.intro fun R hR => ?_
  unfold maxLen at hs
  have q1 : ((min (s.length : Int) 40).toNat) = min s.length 40 := by omega
  obtain ⟨u, hu⟩ : ∃ l, s.take (min s.length 40) = l := ⟨_, rfl⟩
  have lu : u.length ≤ 40 := by rw [← hu, List.length_take]; omega
  have cC := Lib.hid (fun W (hW : Below w.heap.size w W) => cut4 c rv tv W (hc.below hW))
  have cD := Lib.hid (fun W (hW : Below w.heap.size w W) => cut4 d rv1 tv1 W (hd.below hW))
  have HF := Lib.hid (fun W => fixed4 W)
  obtain ⟨W0, hW0, B0, X0, Y0, sz0⟩ := start2 w (c.arr rv tv) (d.arr rv1 tv1) 29 29
  have XX := Lib.hid X0
  have YY := Lib.hid Y0
  have SZ := Lib.hid sz0
  have BB := Lib.hid B0
  have HGW : Hid ((Lit.int .i64 (cutC c).gen).wf = true) := Lib.hid hc.gen
  have HID := Lib.hid (cutC_cut c)
  clear X0 Y0 sz0 B0 hc hd
  dsimp only [Cmd.arr] at hW0 cC cD ⊢
  obtain ⟨HX0, kx0, x0, x1, x2, x3, x4, x5, x6, x7, x8, x9, x10, x11, x12, x13⟩ := arr_cells XX.out
  go_enter Try.func5, Try.ntmps5
  go_wp2_with fail
  try rw [hW0]
  clear hW0 HX0 kx0 x0 x1 x2 x3 x4 x5 x6 x7 x8 x9 x10 x11 x12 x13
  refine (cC.out _ BB.out).use ?_
  intro w1 rv2 tv2 g1
  have bd1 := Lib.hid (cutC_bd c)
  have G1 := Lib.hid g1
  clear g1 cC
  generalize cutC c = c' at bd1 G1 HGW HID ⊢
  have X1 := XX.out.below G1.out.bel
  obtain ⟨HX1, kx1, x0, x1, x2, x3, x4, x5, x6, x7, x8, x9, x10, x11, x12, x13⟩ := arr_cells X1
  have fx1 : ∀ i, w1.frozen? ⟨w.heap.size, i, none⟩ = false := fun i => Blk.frozen X1 i
  have Y1 := YY.out.below G1.out.bel
  obtain ⟨W1, hW1, s1, k1⟩ := setOp X1 c' rv2 tv2
  have O1 := Lib.hid (OpB.store X1 G1.out.cin (B := w.heap.size + 1 + 1) (by omega) (fun x hx => by have := G1.out.own1 x hx; have := SZ.out; omega) (fun x hx => by have := G1.out.own2 x hx; have := SZ.out; omega) ⟨s1, k1⟩)
  have Y1' := Lib.hid (Y1.keptR k1 (by simp <;> omega))
  obtain ⟨HY1, ky1, y0, y1, y2, y3, y4, y5, y6, y7, y8, y9, y10, y11, y12, y13⟩ := arr_cells Y1'.out
  have P1 := Lib.hid (k1.toBelow (below_any (Nat.le_refl _) BB.out G1.out.bel) (by simp <;> omega))
  have SZ1 : Hid (w.heap.size + 1 + 1 ≤ W1.heap.size) := Lib.hid (by have h1 := SZ.out; have h2 := G1.out.bel.size; have h3 := k1.size; omega)
  obtain ⟨ra2, rc2, hrv⟩ := G1.out.cin.recs.form
  obtain ⟨ta2, tc2, htv⟩ := G1.out.cin.tops.form
  subst hrv htv
  clear X1 Y1 s1 k1 HX1 HY1 XX YY SZ BB G1
  dsimp only [Cmd.arr] at hW1 ⊢
  go_wp2_with fail
  try rw [hW1]
  clear x0 x1 x2 x3 x4 x5 x6 x7 x8 x9 x10 x11 x12 x13 y0 y1 y2 y3 y4 y5 y6 y7 y8 y9 y10 y11 y12 y13 kx1 ky1 fx1 hW1
  refine (cD.out _ P1.out).use ?_
  intro w2 rv3 tv3 g2
  have bd2 := Lib.hid (cutC_bd d)
  have G2 := Lib.hid g2
  clear g2 cD
  generalize cutC d = d' at bd2 G2 ⊢
  have Y2 := Y1'.out.below G2.out.bel
  obtain ⟨HY2, ky2, y0, y1, y2, y3, y4, y5, y6, y7, y8, y9, y10, y11, y12, y13⟩ := arr_cells Y2
  have fy2 : ∀ i, w2.frozen? ⟨w.heap.size + 1, i, none⟩ = false := fun i => Blk.frozen Y2 i
  obtain ⟨W2, hW2, s2, k2⟩ := setOp Y2 d' rv3 tv3
  have O2 := Lib.hid ((O1.out.below G2.out.bel).keptR k2 (by simp <;> omega) (by simp <;> omega))
  have Q2 := Lib.hid (OpB.store Y2 G2.out.cin (B := w.heap.size + 1 + 1) (by omega) (fun x hx => by have := G2.out.own1 x hx; have := SZ1.out; omega) (fun x hx => by have := G2.out.own2 x hx; have := SZ1.out; omega) ⟨s2, k2⟩)
  have P2 := Lib.hid (k2.toBelow (below_any (Nat.le_refl _) P1.out G2.out.bel) (by simp <;> omega))
  obtain ⟨ra3, rc3, hrv⟩ := G2.out.cin.recs.form
  obtain ⟨ta3, tc3, htv⟩ := G2.out.cin.tops.form
  subst hrv htv
  clear Y2 s2 k2 HY2 SZ1 P1 O1 Y1' G2
  have O2b := O2.out.blk
  dsimp only [Cmd.arr] at hW2 O2b ⊢
  obtain ⟨HO2, ko2, x0, x1, x2, x3, x4, x5, x6, x7, x8, x9, x10, x11, x12, x13⟩ := arr_cells O2b
  clear O2b HO2
  have arg : Hid (CmdArg W2 c' (.slice ra2 c'.recs.length rc2) (.slice ta2 c'.tops.length tc2)) := Lib.hid ⟨O2.out.cin.recs, O2.out.cin.tops, bd1.out.recs, ⟨by have := bd1.out.tops.1; unfold maxLen; omega, bd1.out.tops.2⟩, bd1.out.topic, bd1.out.group, bd1.out.member, HGW.out⟩
  have cW := Lib.hid (cut4 c' _ _ W2 arg.out)
  clear arg HGW
  try dsimp only [Cmd.arr] at cW
  go_wp2_with fail
  try rw [hW2]
  refine cW.out.use ?_
  intro w3 rv4 tv4 g3
  have G3 := Lib.hid g3
  clear g3 cW hW2 x0 x1 x2 x3 x4 x5 x6 x7 x8 x9 x10 x11 x12 x13 y0 y1 y2 y3 y4 y5 y6 y7 y8 y9 y10 y11 y12 y13 fy2 ky2 ko2
  rw [HID.out] at G3 ⊢
  clear HID
  obtain ⟨ra4, rc4, hrv⟩ := G3.out.cin.recs.form
  obtain ⟨ta4, tc4, htv⟩ := G3.out.cin.tops.form
  subst hrv htv
  obtain ⟨W3, hW3, B3, V3, sz3⟩ := start1 w3 (c'.arr (.slice ra4 c'.recs.length rc4) (.slice ta4 c'.tops.length tc4)) 29
  have VV := Lib.hid V3
  have I3 := Lib.hid (G3.out.cin.below B3)
  have O3 := Lib.hid ((O2.out.below G3.out.bel).below B3)
  have Q3 := Lib.hid ((Q2.out.below G3.out.bel).below B3)
  have P3 := Lib.hid (below_any (Nat.le_refl _) (below_any (Nat.le_refl _) P2.out G3.out.bel) B3)
  clear B3 V3 sz3 O2 Q2 P2 G3
  have O3b := O3.out.blk
  have cP1 := Lib.hid (put4 c' _ _ W3 O3.out.cin bd1.out (fun b hb => (O3.out.o1 b hb).2) (fun b hb => (O3.out.o2 b hb).2))
  have cP2 := Lib.hid (fun W (hW : Below W3.heap.size W3 W) => dput4 c' _ _ W (O3.out.below hW).cin bd1.out)
  obtain ⟨A, EA, hAE⟩ : ∃ A EA, cmdPut c' = (A, EA) := ⟨_, _, rfl⟩
  rw [hAE] at cP1 cP2
  clear hAE
  dsimp only [Cmd.arr] at hW3 O3b cP1 cP2 ⊢
  obtain ⟨HO3, ko3, x0, x1, x2, x3, x4, x5, x6, x7, x8, x9, x10, x11, x12, x13⟩ := arr_cells O3b
  clear O3b HO3
  go_wp2_with fail
  try rw [hW3]
  refine cP1.out.use ?_
  intro w4 b4
  obtain ⟨HO4, ko4, y0, y1, y2, y3, y4, y5, y6, y7, y8, y9, y10, y11, y12, y13⟩ := arr_cells (O3.out.blk.below b4)
  clear hW3 HO4 ko3 x0 x1 x2 x3 x4 x5 x6 x7 x8 x9 x10 x11 x12 x13
  go_wp2_with fail
  refine (cP2.out _ b4).use ?_
  intro w5 b5
  have B5 := below_any (Nat.le_refl _) b4 b5
  clear y0 y1 y2 y3 y4 y5 y6 y7 y8 y9 y10 y11 y12 y13 ko4
  go_upto_region 7 with fail
  have O5 := Lib.hid (O3.out.below B5)
  have Q5 := Lib.hid (Q3.out.below B5)
  have I5 := Lib.hid (I3.out.below B5)
  have V5 := Lib.hid (VV.out.below B5)
  have P5 := Lib.hid (below_any (Nat.le_refl _) P3.out B5)
  clear B5 b4 b5 cP1 cP2 O3 Q3 I3 VV P3
  have lc : c'.recs.length ≤ maxLen := bd1.out.recs.1
  have ld : d'.recs.length ≤ maxLen := bd2.out.recs.1
  have tc : c'.tops.length ≤ 1000000 := bd1.out.tops.1
  have td : d'.tops.length ≤ 1000000 := bd2.out.tops.1
  obtain ⟨E, hE⟩ : ∃ E, ccheck c' = E := ⟨_, rfl⟩
  obtain ⟨X, hX⟩ : ∃ X, decide (c' = d') = X := ⟨_, rfl⟩
  obtain ⟨N, hN⟩ : ∃ N, isName u = N := ⟨_, rfl⟩
  have cK1 := Lib.hid (fun W (hW : Below w5.heap.size w5 W) => (check4 c' (.slice ra2 c'.recs.length rc2) (.slice ta2 c'.tops.length tc2) W (O5.out.below hW).cin bd1.out (fun b hb => ((O5.out.below hW).o1 b hb).2) (fun b hb => ((O5.out.below hW).o2 b hb).2)).cast (v' := .int .i64 E) (by rw [hE]))
  have cK2 := Lib.hid (fun W (hW : Below w5.heap.size w5 W) => (rcheck4 c' (.slice ra2 c'.recs.length rc2) (.slice ta2 c'.tops.length tc2) W (O5.out.below hW).cin bd1.out).cast (v' := .int .i64 E) (by rw [hE]))
  have cN1 := Lib.hid (fun W => (name4 u W (by unfold maxLen; omega)).cast (v' := .bool N) (by rw [hN]))
  have cN2 := Lib.hid (fun W => (rname4 u W (by unfold maxLen; omega)).cast (v' := .bool N) (by rw [hN]))
  have cS1 := Lib.hid (fun W (hW : Below w5.heap.size w5 W) => (same4 c' d' (.slice ra2 c'.recs.length rc2) (.slice ta2 c'.tops.length tc2) (.slice ra3 d'.recs.length rc3) (.slice ta3 d'.tops.length tc3) W (O5.out.below hW).cin.recs (O5.out.below hW).cin.tops (Q5.out.below hW).cin.recs (Q5.out.below hW).cin.tops ⟨lc, ld⟩ ⟨tc, td⟩).cast (congrArg Value.bool hX))
  have cS2 := Lib.hid (fun W (hW : Below w5.heap.size w5 W) => (dsame4 c' d' (.slice ra2 c'.recs.length rc2) (.slice ta2 c'.tops.length tc2) (.slice ra3 d'.recs.length rc3) (.slice ta3 d'.tops.length tc3) W (O5.out.below hW).cin.recs (O5.out.below hW).cin.tops (Q5.out.below hW).cin.recs (Q5.out.below hW).cin.tops ⟨lc, ld⟩ ⟨tc, td⟩).cast (congrArg Value.bool hX))
  have cS3 := Lib.hid (fun W (hW : Below w5.heap.size w5 W) => (dsame4 c' c' (.slice ra2 c'.recs.length rc2) (.slice ta2 c'.tops.length tc2) (.slice ra4 c'.recs.length rc4) (.slice ta4 c'.tops.length tc4) W (O5.out.below hW).cin.recs (O5.out.below hW).cin.tops (I5.out.below hW).recs (I5.out.below hW).tops ⟨lc, lc⟩ ⟨tc, tc⟩).cast (congrArg Value.bool (decide_eq_true rfl)))
  have HS := Lib.hid (fun W (hW : Below w5.heap.size w5 W) => And.intro (O5.out.blk.below hW) (And.intro (Q5.out.blk.below hW) (V5.out.below hW)))
  have P10 : Below w5.heap.size w5 w5.drew := (Below.refl _ _).drew
  clear hE hX hN lc ld tc td bd1 bd2 O5 Q5 I5 V5
  refine wp_region_held_drew (S := (fun w' => Blk w' w.heap.size (c'.arr (.slice ra2 c'.recs.length rc2) (.slice ta2 c'.tops.length tc2)) 29 ∧ Blk w' (w.heap.size + 1) (d'.arr (.slice ra3 d'.recs.length rc3) (.slice ta3 d'.tops.length tc3)) 29 ∧ Blk w' w3.heap.size (c'.arr (.slice ra4 c'.recs.length rc4) (.slice ta4 c'.tops.length tc4)) 29)) (by kernel_rfl) (HS.out _ P10) (fun hHeld => ?_)
  refine wpAnyH_take (i := 0) (v := ?_) rfl (by kernel_rfl) (by kernel_rfl) (by kernel_rfl) (fun _ _ _ h => h) (Or.inl ⟨by rfl, ?_⟩) hHeld ?_
  rotate_left
  · (intro w hSw; (try dsimp only at hSw); go_simp; try with_reducible rfl)
  try simp only [List.getElem_toArray, List.getElem_cons_zero, List.getElem_cons_succ, Act.put, List.setIfInBounds_toArray, List.set_cons_zero, List.set_cons_succ]
  refine wpAnyH_take (i := 1) (v := ?_) rfl (by kernel_rfl) (by kernel_rfl) (by kernel_rfl) (fun _ _ _ h => h) (Or.inl ⟨by rfl, ?_⟩) hHeld ?_
  rotate_left
  · (intro w hSw; (try dsimp only at hSw); go_simp; try with_reducible rfl)
  try simp only [List.getElem_toArray, List.getElem_cons_zero, List.getElem_cons_succ, Act.put, List.setIfInBounds_toArray, List.set_cons_zero, List.set_cons_succ]
  refine wpAnyH_take (i := 2) (v := ?_) rfl (by kernel_rfl) (by kernel_rfl) (by kernel_rfl) (fun _ _ _ h => h) (Or.inl ⟨by rfl, ?_⟩) hHeld ?_
  rotate_left
  · (intro w hSw; (try dsimp only at hSw); go_simp; try with_reducible rfl)
  try simp only [List.getElem_toArray, List.getElem_cons_zero, List.getElem_cons_succ, Act.put, List.setIfInBounds_toArray, List.set_cons_zero, List.set_cons_succ]
  refine wpAnyH_take (i := 3) (v := ?_) rfl (by kernel_rfl) (by kernel_rfl) (by kernel_rfl) (fun _ _ _ h => h) (Or.inl ⟨by rfl, ?_⟩) hHeld ?_
  rotate_left
  · (intro w hSw; (try dsimp only at hSw); go_simp; try with_reducible rfl)
  try simp only [List.getElem_toArray, List.getElem_cons_zero, List.getElem_cons_succ, Act.put, List.setIfInBounds_toArray, List.set_cons_zero, List.set_cons_succ]
  refine wpAnyH_take (i := 4) (v := ?_) rfl (by kernel_rfl) (by kernel_rfl) (by kernel_rfl) (fun _ _ _ h => h) (Or.inl ⟨by rfl, ?_⟩) hHeld ?_
  rotate_left
  · (intro w hSw; (try dsimp only at hSw); go_simp; try with_reducible rfl)
  try simp only [List.getElem_toArray, List.getElem_cons_zero, List.getElem_cons_succ, Act.put, List.setIfInBounds_toArray, List.set_cons_zero, List.set_cons_succ]
  refine wpAnyH_take (i := 5) (v := ?_) rfl (by kernel_rfl) (by kernel_rfl) (by kernel_rfl) (fun _ _ _ h => h) (Or.inl ⟨by rfl, ?_⟩) hHeld ?_
  rotate_left
  · (intro w hSw; (try dsimp only at hSw); go_simp; try with_reducible rfl)
  try simp only [List.getElem_toArray, List.getElem_cons_zero, List.getElem_cons_succ, Act.put, List.setIfInBounds_toArray, List.set_cons_zero, List.set_cons_succ]
  refine wpAnyH_take (i := 6) (v := ?_) rfl (by kernel_rfl) (by kernel_rfl) (by kernel_rfl) (fun _ _ _ h => h) (Or.inl ⟨by rfl, ?_⟩) hHeld ?_
  rotate_left
  · (intro w hSw; (try dsimp only at hSw); go_simp; try with_reducible rfl)
  try simp only [List.getElem_toArray, List.getElem_cons_zero, List.getElem_cons_succ, Act.put, List.setIfInBounds_toArray, List.set_cons_zero, List.set_cons_succ]
  refine wpAnyH_take (i := 7) (v := ?_) rfl (by kernel_rfl) (by kernel_rfl) (by kernel_rfl) (fun _ _ _ h => h) (Or.inl ⟨by rfl, ?_⟩) hHeld ?_
  rotate_left
  · (intro w hSw; (try dsimp only at hSw); go_simp; try with_reducible rfl)
  try simp only [List.getElem_toArray, List.getElem_cons_zero, List.getElem_cons_succ, Act.put, List.setIfInBounds_toArray, List.set_cons_zero, List.set_cons_succ]
  refine wpAnyH_take (i := 8) (v := ?_) rfl (by kernel_rfl) (by kernel_rfl) (by kernel_rfl) (fun _ _ _ h => h) (Or.inl ⟨by rfl, ?_⟩) hHeld ?_
  rotate_left
  · (intro w hSw; (try dsimp only at hSw); go_simp; try with_reducible rfl)
  try simp only [List.getElem_toArray, List.getElem_cons_zero, List.getElem_cons_succ, Act.put, List.setIfInBounds_toArray, List.set_cons_zero, List.set_cons_succ]
  refine wpAnyH_take (i := 9) (v := _) rfl (by kernel_rfl) (by kernel_rfl) (by kernel_rfl) (fun _ _ _ h => h) (Or.inl ⟨by rfl, fun w hSw => load_blk hSw.1 rfl rfl Try.underlying29 rfl (by kernel_rfl)⟩) hHeld ?_
  try simp only [List.getElem_toArray, List.getElem_cons_zero, List.getElem_cons_succ, Act.put, List.setIfInBounds_toArray, List.set_cons_zero, List.set_cons_succ]
  refine wpAnyH_take (i := 11) (v := _) rfl (by kernel_rfl) (by kernel_rfl) (by kernel_rfl) (fun _ _ _ h => h) (Or.inl ⟨by rfl, fun w hSw => load_blk hSw.1 rfl rfl Try.underlying29 rfl (by kernel_rfl)⟩) hHeld ?_
  try simp only [List.getElem_toArray, List.getElem_cons_zero, List.getElem_cons_succ, Act.put, List.setIfInBounds_toArray, List.set_cons_zero, List.set_cons_succ]
  refine wpAnyH_ready (rs := [10]) (by kernel_rfl) (by simp) ?_
  refine AllReadyH.cons rfl (fun K hK => ?_) AllReadyH.nil
  go_simp
  refine (cK1.out _ P10).use ?_
  intro v10 e10
  have P11 := below_any (Nat.le_refl _) P10 e10
  go_wp2_with fail
  refine hK.out _ _ (HS.out _ P11) (fun hHeld => ?_)
  clear hK K
  try simp only [List.getElem_toArray, List.getElem_cons_zero, List.getElem_cons_succ, Act.put, List.setIfInBounds_toArray, List.set_cons_zero, List.set_cons_succ]
  refine wpAnyH_ready (rs := [12]) (by kernel_rfl) (by simp) ?_
  refine AllReadyH.cons rfl (fun K hK => ?_) AllReadyH.nil
  go_simp
  refine (cK2.out _ P11).use ?_
  intro v11 e11
  have P12 := below_any (Nat.le_refl _) P11 e11
  go_wp2_with fail
  refine hK.out _ _ (HS.out _ P12) (fun hHeld => ?_)
  clear hK K
  try simp only [List.getElem_toArray, List.getElem_cons_zero, List.getElem_cons_succ, Act.put, List.setIfInBounds_toArray, List.set_cons_zero, List.set_cons_succ]
  refine wpAnyH_take (i := 13) (v := ?_) rfl (by kernel_rfl) (by kernel_rfl) (by kernel_rfl) (fun _ _ _ h => h) (Or.inl ⟨by rfl, ?_⟩) hHeld ?_
  rotate_left
  · (intro w hSw; (try dsimp only at hSw); go_simp; try with_reducible rfl)
  try simp only [List.getElem_toArray, List.getElem_cons_zero, List.getElem_cons_succ, Act.put, List.setIfInBounds_toArray, List.set_cons_zero, List.set_cons_succ]
  refine wpAnyH_take (i := 14) (v := ?_) rfl (by kernel_rfl) (by kernel_rfl) (by kernel_rfl) (fun _ _ _ h => h) (Or.inl ⟨by rfl, ?_⟩) hHeld ?_
  rotate_left
  · (intro w hSw; (try dsimp only at hSw); go_simp; try with_reducible rfl)
  try simp only [List.getElem_toArray, List.getElem_cons_zero, List.getElem_cons_succ, Act.put, List.setIfInBounds_toArray, List.set_cons_zero, List.set_cons_succ]
  refine wpAnyH_take (i := 15) (v := ?_) rfl (by kernel_rfl) (by kernel_rfl) (by kernel_rfl) (fun _ _ _ h => h) (Or.inl ⟨by rfl, ?_⟩) hHeld ?_
  rotate_left
  · (intro w hSw; (try dsimp only at hSw); go_simp; try with_reducible rfl)
  try simp only [List.getElem_toArray, List.getElem_cons_zero, List.getElem_cons_succ, Act.put, List.setIfInBounds_toArray, List.set_cons_zero, List.set_cons_succ]
  refine wpAnyH_take (i := 16) (v := ?_) rfl (by kernel_rfl) (by kernel_rfl) (by kernel_rfl) (fun _ _ _ h => h) (Or.inl ⟨by rfl, ?_⟩) hHeld ?_
  rotate_left
  · (intro w hSw; (try dsimp only at hSw); go_simp; try with_reducible rfl)
  try simp only [List.getElem_toArray, List.getElem_cons_zero, List.getElem_cons_succ, Act.put, List.setIfInBounds_toArray, List.set_cons_zero, List.set_cons_succ]
  refine wpAnyH_take (i := 18) (v := ?_) rfl (by kernel_rfl) (by kernel_rfl) (by kernel_rfl) (fun _ _ _ h => h) (Or.inl ⟨by rfl, ?_⟩) hHeld ?_
  rotate_left
  · (intro w hSw; (try dsimp only at hSw); go_simp; try with_reducible rfl)
  try simp only [List.getElem_toArray, List.getElem_cons_zero, List.getElem_cons_succ, Act.put, List.setIfInBounds_toArray, List.set_cons_zero, List.set_cons_succ]
  refine wpAnyH_ready (rs := [17]) (by kernel_rfl) (by simp) ?_
  refine AllReadyH.cons rfl (fun K hK => ?_) AllReadyH.nil
  go_simp
  refine (cN1.out _).use ?_
  intro v12 e12
  have P13 := below_any (Nat.le_refl _) P12 e12
  go_wp2_with fail
  refine hK.out _ _ (HS.out _ P13) (fun hHeld => ?_)
  clear hK K
  try simp only [List.getElem_toArray, List.getElem_cons_zero, List.getElem_cons_succ, Act.put, List.setIfInBounds_toArray, List.set_cons_zero, List.set_cons_succ]
  refine wpAnyH_ready (rs := [19]) (by kernel_rfl) (by simp) ?_
  refine AllReadyH.cons rfl (fun K hK => ?_) AllReadyH.nil
  go_simp
  refine (show Ret _ _ _ _ _ from cN2.out _).use ?_
  have P14 := P13
  go_wp2_with fail
  refine hK.out _ _ (HS.out _ P14) (fun hHeld => ?_)
  clear hK K
  try simp only [List.getElem_toArray, List.getElem_cons_zero, List.getElem_cons_succ, Act.put, List.setIfInBounds_toArray, List.set_cons_zero, List.set_cons_succ]
  refine wpAnyH_take (i := 20) (v := ?_) rfl (by kernel_rfl) (by kernel_rfl) (by kernel_rfl) (fun _ _ _ h => h) (Or.inl ⟨by rfl, ?_⟩) hHeld ?_
  rotate_left
  · (intro w hSw; (try dsimp only at hSw); go_simp; try with_reducible rfl)
  try simp only [List.getElem_toArray, List.getElem_cons_zero, List.getElem_cons_succ, Act.put, List.setIfInBounds_toArray, List.set_cons_zero, List.set_cons_succ]
  refine wpAnyH_take (i := 21) (v := ?_) rfl (by kernel_rfl) (by kernel_rfl) (by kernel_rfl) (fun _ _ _ h => h) (Or.inl ⟨by rfl, ?_⟩) hHeld ?_
  rotate_left
  · (intro w hSw; (try dsimp only at hSw); go_simp; try with_reducible rfl)
  try simp only [List.getElem_toArray, List.getElem_cons_zero, List.getElem_cons_succ, Act.put, List.setIfInBounds_toArray, List.set_cons_zero, List.set_cons_succ]
  refine wpAnyH_take (i := 22) (v := ?_) rfl (by kernel_rfl) (by kernel_rfl) (by kernel_rfl) (fun _ _ _ h => h) (Or.inl ⟨by rfl, ?_⟩) hHeld ?_
  rotate_left
  · (intro w hSw; (try dsimp only at hSw); go_simp; try with_reducible rfl)
  try simp only [List.getElem_toArray, List.getElem_cons_zero, List.getElem_cons_succ, Act.put, List.setIfInBounds_toArray, List.set_cons_zero, List.set_cons_succ]
  refine wpAnyH_take (i := 23) (v := _) rfl (by kernel_rfl) (by kernel_rfl) (by kernel_rfl) (fun _ _ _ h => h) (Or.inl ⟨by rfl, fun w hSw => load_blk hSw.1 rfl rfl Try.underlying29 rfl (by kernel_rfl)⟩) hHeld ?_
  try simp only [List.getElem_toArray, List.getElem_cons_zero, List.getElem_cons_succ, Act.put, List.setIfInBounds_toArray, List.set_cons_zero, List.set_cons_succ]
  refine wpAnyH_take (i := 24) (v := _) rfl (by kernel_rfl) (by kernel_rfl) (by kernel_rfl) (fun _ _ _ h => h) (Or.inl ⟨by rfl, fun w hSw => load_blk hSw.2.1 rfl rfl Try.underlying29 rfl (by kernel_rfl)⟩) hHeld ?_
  try simp only [List.getElem_toArray, List.getElem_cons_zero, List.getElem_cons_succ, Act.put, List.setIfInBounds_toArray, List.set_cons_zero, List.set_cons_succ]
  refine wpAnyH_take (i := 26) (v := _) rfl (by kernel_rfl) (by kernel_rfl) (by kernel_rfl) (fun _ _ _ h => h) (Or.inl ⟨by rfl, fun w hSw => load_blk hSw.1 rfl rfl Try.underlying29 rfl (by kernel_rfl)⟩) hHeld ?_
  try simp only [List.getElem_toArray, List.getElem_cons_zero, List.getElem_cons_succ, Act.put, List.setIfInBounds_toArray, List.set_cons_zero, List.set_cons_succ]
  refine wpAnyH_take (i := 27) (v := _) rfl (by kernel_rfl) (by kernel_rfl) (by kernel_rfl) (fun _ _ _ h => h) (Or.inl ⟨by rfl, fun w hSw => load_blk hSw.2.1 rfl rfl Try.underlying29 rfl (by kernel_rfl)⟩) hHeld ?_
  try simp only [List.getElem_toArray, List.getElem_cons_zero, List.getElem_cons_succ, Act.put, List.setIfInBounds_toArray, List.set_cons_zero, List.set_cons_succ]
  refine wpAnyH_ready (rs := [25]) (by kernel_rfl) (by simp) ?_
  refine AllReadyH.cons rfl (fun K hK => ?_) AllReadyH.nil
  go_simp
  refine (cS1.out _ P14).use ?_
  intro v14 e14
  have P15 := below_any (Nat.le_refl _) P14 e14
  go_wp2_with fail
  refine hK.out _ _ (HS.out _ P15) (fun hHeld => ?_)
  clear hK K
  try simp only [List.getElem_toArray, List.getElem_cons_zero, List.getElem_cons_succ, Act.put, List.setIfInBounds_toArray, List.set_cons_zero, List.set_cons_succ]
  refine wpAnyH_ready (rs := [28]) (by kernel_rfl) (by simp) ?_
  refine AllReadyH.cons rfl (fun K hK => ?_) AllReadyH.nil
  go_simp
  refine (cS2.out _ P15).use ?_
  intro v15 e15
  have P16 := below_any (Nat.le_refl _) P15 e15
  go_wp2_with fail
  refine hK.out _ _ (HS.out _ P16) (fun hHeld => ?_)
  clear hK K
  try simp only [List.getElem_toArray, List.getElem_cons_zero, List.getElem_cons_succ, Act.put, List.setIfInBounds_toArray, List.set_cons_zero, List.set_cons_succ]
  refine wpAnyH_take (i := 29) (v := ?_) rfl (by kernel_rfl) (by kernel_rfl) (by kernel_rfl) (fun _ _ _ h => h) (Or.inl ⟨by rfl, ?_⟩) hHeld ?_
  rotate_left
  · (intro w hSw; (try dsimp only at hSw); go_simp; try with_reducible rfl)
  try simp only [List.getElem_toArray, List.getElem_cons_zero, List.getElem_cons_succ, Act.put, List.setIfInBounds_toArray, List.set_cons_zero, List.set_cons_succ]
  refine wpAnyH_take (i := 30) (v := ?_) rfl (by kernel_rfl) (by kernel_rfl) (by kernel_rfl) (fun _ _ _ h => h) (Or.inl ⟨by rfl, ?_⟩) hHeld ?_
  rotate_left
  · (intro w hSw; (try dsimp only at hSw); go_simp; try with_reducible rfl)
  try simp only [List.getElem_toArray, List.getElem_cons_zero, List.getElem_cons_succ, Act.put, List.setIfInBounds_toArray, List.set_cons_zero, List.set_cons_succ]
  refine wpAnyH_take (i := 31) (v := ?_) rfl (by kernel_rfl) (by kernel_rfl) (by kernel_rfl) (fun _ _ _ h => h) (Or.inl ⟨by rfl, ?_⟩) hHeld ?_
  rotate_left
  · (intro w hSw; (try dsimp only at hSw); go_simp; try with_reducible rfl)
  try simp only [List.getElem_toArray, List.getElem_cons_zero, List.getElem_cons_succ, Act.put, List.setIfInBounds_toArray, List.set_cons_zero, List.set_cons_succ]
  refine wpAnyH_take (i := 32) (v := _) rfl (by kernel_rfl) (by kernel_rfl) (by kernel_rfl) (fun _ _ _ h => h) (Or.inl ⟨by rfl, fun w hSw => load_blk hSw.1 rfl rfl Try.underlying29 rfl (by kernel_rfl)⟩) hHeld ?_
  try simp only [List.getElem_toArray, List.getElem_cons_zero, List.getElem_cons_succ, Act.put, List.setIfInBounds_toArray, List.set_cons_zero, List.set_cons_succ]
  refine wpAnyH_take (i := 33) (v := _) rfl (by kernel_rfl) (by kernel_rfl) (by kernel_rfl) (fun _ _ _ h => h) (Or.inl ⟨by rfl, fun w hSw => load_blk hSw.2.2 rfl rfl Try.underlying29 rfl (by kernel_rfl)⟩) hHeld ?_
  try simp only [List.getElem_toArray, List.getElem_cons_zero, List.getElem_cons_succ, Act.put, List.setIfInBounds_toArray, List.set_cons_zero, List.set_cons_succ]
  refine wpAnyH_ready (rs := [34]) (by kernel_rfl) (by simp) ?_
  refine AllReadyH.cons rfl (fun K hK => ?_) AllReadyH.nil
  go_simp
  refine (cS3.out _ P16).use ?_
  intro v16 e16
  have P17 := below_any (Nat.le_refl _) P16 e16
  go_wp2_with fail
  refine hK.out _ _ (HS.out _ P17) (fun hHeld => ?_)
  clear hK K
  try simp only [List.getElem_toArray, List.getElem_cons_zero, List.getElem_cons_succ, Act.put, List.setIfInBounds_toArray, List.set_cons_zero, List.set_cons_succ]
  refine wpAnyH_take (i := 35) (v := ?_) rfl (by kernel_rfl) (by kernel_rfl) (by kernel_rfl) (fun _ _ _ h => h) (Or.inl ⟨by rfl, ?_⟩) hHeld ?_
  rotate_left
  · (intro w hSw; (try dsimp only at hSw); go_simp; try with_reducible rfl)
  try simp only [List.getElem_toArray, List.getElem_cons_zero, List.getElem_cons_succ, Act.put, List.setIfInBounds_toArray, List.set_cons_zero, List.set_cons_succ]
  refine wpAnyH_take (i := 36) (v := ?_) rfl (by kernel_rfl) (by kernel_rfl) (by kernel_rfl) (fun _ _ _ h => h) (Or.inl ⟨by rfl, ?_⟩) hHeld ?_
  rotate_left
  · (intro w hSw; (try dsimp only at hSw); go_simp; try with_reducible rfl)
  try simp only [List.getElem_toArray, List.getElem_cons_zero, List.getElem_cons_succ, Act.put, List.setIfInBounds_toArray, List.set_cons_zero, List.set_cons_succ]
  refine wpAnyH_ready (rs := [37]) (by kernel_rfl) (by simp) ?_
  refine AllReadyH.cons rfl (fun K hK => ?_) AllReadyH.nil
  go_simp
  refine (HF.out _).use ?_
  intro v17 e17
  have P18 := below_any (Nat.le_refl _) P17 e17
  go_wp2_with fail
  refine hK.out _ _ (HS.out _ P18) (fun hHeld => ?_)
  clear hK K
  try simp only [List.getElem_toArray, List.getElem_cons_zero, List.getElem_cons_succ, Act.put, List.setIfInBounds_toArray, List.set_cons_zero, List.set_cons_succ]
  refine wpAnyH_take (i := 38) (v := ?_) rfl (by kernel_rfl) (by kernel_rfl) (by kernel_rfl) (fun _ _ _ h => h) (Or.inl ⟨by rfl, ?_⟩) hHeld ?_
  rotate_left
  · (intro w hSw; (try dsimp only at hSw); go_simp; try with_reducible rfl)
  try simp only [List.getElem_toArray, List.getElem_cons_zero, List.getElem_cons_succ, Act.put, List.setIfInBounds_toArray, List.set_cons_zero, List.set_cons_succ]
  refine wpAnyH_take (i := 39) (v := ?_) rfl (by kernel_rfl) (by kernel_rfl) (by kernel_rfl) (fun _ _ _ h => h) (Or.inl ⟨by rfl, ?_⟩) hHeld ?_
  rotate_left
  · (intro w hSw; (try dsimp only at hSw); go_simp; try with_reducible rfl)
  try simp only [List.getElem_toArray, List.getElem_cons_zero, List.getElem_cons_succ, Act.put, List.setIfInBounds_toArray, List.set_cons_zero, List.set_cons_succ]
  refine wpAnyH_done (by kernel_rfl) ?_ _
  go_wp2_with fail
  exact finB hR (below_any (Nat.le_refl _) P5.out P18) rfl
end Go.Proofs.Ythiliodmbipikaa.requestPuts
