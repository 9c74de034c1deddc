/-
  The walk of RequestKinds.
-/
import Derived.Test.YthiliodmbipikaaReqLw
import Derived.Test.YthiliodmbipikaaReqDc
set_option linter.unusedVariables false
set_option linter.unusedSimpArgs false
namespace Go.Proofs.Ythiliodmbipikaa.requestKinds
open Go.RowKit
attribute [local go_sem] ByteArray.extract_mk ByteArray.mk_append_mk

set_option maxHeartbeats 8000000 in
set_option maxRecDepth 100000 in
theorem walk {w : World} (c : Cmd) (rv tv : Value) (kind : Int) (hc : CmdArg w c rv tv) (hkind : -9223372036854775808 ≤ kind ∧ kind ≤ 9223372036854775807) :
    RetB Try.prog 3 #[.agg (c.arr rv tv), .int .i64 kind] w (.bool true) := by
  refine RetB.intro fun R hR => ?_
  obtain ⟨q, hq, hq2⟩ : ∃ q : Nat, bits .and .i64 kind 65535 = (q : Int) ∧ q < 65536 := ⟨_, and_low kind 65535 16 rfl (by omega), Nat.mod_lt _ (by decide)⟩
  clear hkind
  have cC := Lib.hid (fun W (hW : Below w.heap.size w W) => cut4 c rv tv W (hc.below hW))
  obtain ⟨W0, hW0, B0, X0, sz0⟩ := start1 w (c.arr rv tv) 29
  have XX := Lib.hid X0
  have SZ := Lib.hid sz0
  have BB := Lib.hid B0
  clear X0 sz0 B0
  have hgen := bd_i64 hc.gen
  have HGEN := Lib.hid hgen
  clear hc hgen
  dsimp only [Cmd.arr] at hW0 cC ⊢
  obtain ⟨HX0, kx0, a0, a1, a2, a3, a4, a5, a6, a7, a8, a9, a10, a11, a12, a13⟩ := arr_cells XX.out
  go_enter Try.func3, Try.ntmps3
  go_wp2_with fail
  try rw [hW0]
  clear hW0 HX0 kx0 a0 a1 a2 a3 a4 a5 a6 a7 a8 a9 a10 a11 a12 a13
  refine (cC.out _ BB.out).use ?_
  intro w1 rv2 tv2 g1
  have bd1 := Lib.hid (cutC_bd c)
  have G1 := Lib.hid g1
  have HG2 : Hid (-9223372036854775808 ≤ (cutC c).gen ∧ (cutC c).gen ≤ 9223372036854775807) := HGEN
  clear g1 cC HGEN
  generalize cutC c = c' at bd1 G1 HG2 ⊢
  have X1 := XX.out.below G1.out.bel
  obtain ⟨HX1, kx1, x0, x1, x2, x3, x4, x5, x6, x7, x8, x9, x10, x11, x12, x13⟩ := arr_cells X1
  have fx1 : ∀ i, w1.frozen? ⟨w.heap.size, i, none⟩ = false := fun i => Blk.frozen X1 i
  obtain ⟨W1, hW1, s1, k1⟩ := setOp X1 c' rv2 tv2
  have O1 := Lib.hid (OpB.store X1 G1.out.cin (B := w.heap.size + 1) (by omega) (fun x hx => by have := G1.out.own1 x hx; have := SZ.out; omega) (fun x hx => by have := G1.out.own2 x hx; have := SZ.out; omega) ⟨s1, k1⟩)
  have P1 := Lib.hid (k1.toBelow (below_any (Nat.le_refl _) BB.out G1.out.bel) (by simp <;> omega))
  have SZ1 : Hid (w.heap.size + 1 ≤ W1.heap.size) := Lib.hid (by have h1 := SZ.out; have h2 := G1.out.bel.size; have h3 := k1.size; omega)
  obtain ⟨ra2, rc2, hrv⟩ := G1.out.cin.recs.form
  obtain ⟨ta2, tc2, htv⟩ := G1.out.cin.tops.form
  subst hrv htv
  clear X1 s1 k1 HX1 XX SZ BB G1
  have cK := Lib.hid (fun W (hW : Below W1.heap.size W1 W) => check4 c' _ _ W (O1.out.below hW).cin bd1.out (fun b hb => ((O1.out.below hW).o1 b hb).2) (fun b hb => ((O1.out.below hW).o2 b hb).2))
  have HF := Lib.hid (fun W => fixed4 W)
  dsimp only [Cmd.arr] at hW1 cK ⊢
  have O1c := O1.out.blk
  dsimp only [Cmd.arr] at O1c
  obtain ⟨HO1c, ko, y0, y1, y2, y3, y4, y5, y6, y7, y8, y9, y10, y11, y12, y13⟩ := arr_cells O1c
  by_cases h0 : ccheck c' = 0
  case neg =>
    have t0 : ((ccheck c' : Nat) : Int) ≠ 0 := by omega
    generalize ((ccheck c' : Nat) : Int) = E at *
    have t1 : (E = 0) = False := eq_false t0
    go_upto_region 2 with fail
    try rw [hW1]
    go_wp2_with fail
    refine (cK.out _ (Below.refl _ _)).use ?_
    intro w2 b2
    go_wp2_with fail
    refine (HF.out _).use ?_
    intro w3 b3
    go_wp2_with fail
    exact finB hR (below_any (Nat.le_refl _) (below_any (Nat.le_refl _) P1.out b2) b3) rfl
  case pos =>
    go_upto_region 2 with fail
    try rw [hW1]
    go_wp2_with fail
    refine ((cK.out _ (Below.refl _ _)).cast (v' := .int .i64 0) (by rw [h0]; rfl)).use ?_
    intro w2 b2
    clear hW1 x0 x1 x2 x3 x4 x5 x6 x7 x8 x9 x10 x11 x12 x13 y0 y1 y2 y3 y4 y5 y6 y7 y8 y9 y10 y11 y12 y13 HO1c ko
    have O2 := Lib.hid (O1.out.below b2)
    have P2 := Lib.hid (below_any (Nat.le_refl _) P1.out b2)
    have O2b := O2.out.blk
    dsimp only [Cmd.arr] at O2b
    obtain ⟨HO2b, ko, x0, x1, x2, x3, x4, x5, x6, x7, x8, x9, x10, x11, x12, x13⟩ := arr_cells O2b
    go_upto_region 5 with fail
    obtain ⟨k, hk⟩ : ∃ k : Int, (q : Int) % 13 = k := ⟨_, rfl⟩
    have hk2 : 0 ≤ k ∧ k ≤ 12 := by omega
    simp only [hk]
    clear hk
    have KO := Lib.hid (kinds_of h0 (k := k) hk2)
    have bd2 : Hid (CmdBd { c' with kind := k }) := Lib.hid ⟨bd1.out.topic, bd1.out.group, bd1.out.member, bd1.out.recs, bd1.out.tops⟩
    obtain ⟨W3, hW3, B3, V3, sz3⟩ := start1 w2 (({ c' with kind := k } : Cmd).arr (.slice ra2 c'.recs.length rc2) (.slice ta2 c'.tops.length tc2)) 29
    have N3h := Lib.hid V3
    have O3 := Lib.hid (O2.out.below B3)
    have P3 := Lib.hid (below_any (Nat.le_refl _) P2.out B3)
    clear B3 V3 sz3
    have O3b := O3.out.blk
    have N3b := N3h.out
    dsimp only [Cmd.arr] at hW3 O3b N3b
    obtain ⟨HO3b, ko3, y0, y1, y2, y3, y4, y5, y6, y7, y8, y9, y10, y11, y12, y13⟩ := arr_cells O3b
    obtain ⟨HN3b, kn3, z0, z1, z2, z3, z4, z5, z6, z7, z8, z9, z10, z11, z12, z13⟩ := arr_cells N3b
    clear HO3b HN3b
    have cK3 := Lib.hid (check4 { c' with kind := k } (.slice ra2 c'.recs.length rc2) (.slice ta2 c'.tops.length tc2) W3 ⟨O3.out.cin.recs, O3.out.cin.tops⟩ bd2.out (fun b hb => (O3.out.o1 b hb).2) (fun b hb => (O3.out.o2 b hb).2))
    have cD3 := Lib.hid (fun W (hW : Below W3.heap.size W3 W) => rcheck4 { c' with kind := k } (.slice ra2 c'.recs.length rc2) (.slice ta2 c'.tops.length tc2) W ⟨(O3.out.below hW).cin.recs, (O3.out.below hW).cin.tops⟩ bd2.out)
    dsimp only [Cmd.arr] at cK3 cD3
    by_cases hkk : k = c'.kind
    · have tk : (k = c'.kind) = True := eq_true hkk
      have tk2 : (k == c'.kind) = true := by rw [hkk]; simp
      have hE : ccheck { c' with kind := k } = 0 := by rw [hkk]; exact h0
      rw [hE] at cK3
      clear KO cD3 hE h0 hkk
      go_wp2_with fail
      try rw [hW3]
      refine (cK3.out.cast (v' := .int .i64 0) rfl).use ?_
      intro w4 b4
      obtain ⟨HO4, ko4, v0, v1, v2, v3, v4, v5, v6, v7, v8, v9, v10, v11, v12, v13⟩ := arr_cells (O3.out.below b4).blk
      clear x0 x1 x2 x3 x4 x5 x6 x7 x8 x9 x10 x11 x12 x13 y0 y1 y2 y3 y4 y5 y6 y7 y8 y9 y10 y11 y12 y13 z0 z1 z2 z3 z4 z5 z6 z7 z8 z9 z10 z11 z12 z13
      go_wp2_with fail
      refine (HF.out _).use ?_
      intro w5 b5
      go_wp2_with fail
      exact finB hR (below_any (Nat.le_refl _) (below_any (Nat.le_refl _) P3.out b4) b5) rfl
    · have tk : (k = c'.kind) = False := eq_false hkk
      have tk2 : (k == c'.kind) = false := by simpa using hkk
      obtain ⟨E, hE⟩ : ∃ E, ccheck { c' with kind := k } = E := ⟨_, rfl⟩
      rw [hE] at cK3 cD3 KO
      clear hE hkk h0
      have key : E = 0 ∨ E = 40 ∨ E = 30 := KO.out
      clear KO
      rcases key with rfl | rfl | rfl
      all_goals
        go_wp2_with fail
        try rw [hW3]
        refine cK3.out.use ?_
        intro w4 b4
        obtain ⟨HO4, ko4, v0, v1, v2, v3, v4, v5, v6, v7, v8, v9, v10, v11, v12, v13⟩ := arr_cells (O3.out.below b4).blk
        obtain ⟨HN4, kn4, t0, t1, t2, t3, t4, t5, t6, t7, t8, t9, t10, t11, t12, t13⟩ := arr_cells (N3h.out.below b4)
        clear hW3 x0 x1 x2 x3 x4 x5 x6 x7 x8 x9 x10 x11 x12 x13 y0 y1 y2 y3 y4 y5 y6 y7 y8 y9 y10 y11 y12 y13 z0 z1 z2 z3 z4 z5 z6 z7 z8 z9 z10 z11 z12 z13
        go_wp2_with fail
        refine (cD3.out _ b4).use ?_
        intro w5 b5
        go_wp2_with fail
        refine (HF.out _).use ?_
        intro w6 b6
        go_wp2_with fail
        exact finB hR (below_any (Nat.le_refl _) (below_any (Nat.le_refl _) (below_any (Nat.le_refl _) P3.out b4) b5) b6) rfl
end Go.Proofs.Ythiliodmbipikaa.requestKinds
