import Derived.Test.YtohplhahghilaaaChkZ
import Derived.Sort.AtCall
/-
  Layer 7: the calls whose answers the document fixes come out as it says.
-/
set_option linter.unusedVariables false
set_option linter.unusedSimpArgs false
namespace Go.Proofs.Ytohplhahghilaaa
open Go.RowKit
attribute [local go_sem] ByteArray.extract_mk ByteArray.mk_append_mk

theorem fnds_lit7 (w : World) : FndsIn (w.alloc (.cells #[.int .i64 7, .bool false, .string (S []), .bool false, .string (S [])] 70)) (.slice (some ⟨w.heap.size, 0, none⟩) 1 1) [f7] :=
  fnds_own (l := [f7]) (World.ownsRow_lit (base := 0) (e := 70) (size := 5) w #[.int .i64 7, .bool false, .string (S []), .bool false, .string (S [])] 1 (Nat.zero_le _) (by unfold maxLen; decide) rfl)
theorem eql_chk (r s : Chk) (w : World) : (binOp .eql 38 r.val s.val).run Try.prog w = .ok (.bool (decide (r = s))) w := by
  have hS : Try.prog.underlying 38 = some (.struct (Try.prog.fieldsOf 38)) := by kernel_rfl
  have hp : Try.prog.stoodInHeld 38 = false := by kernel_rfl
  have u0 := Try.underlying3
  have a0 := Try.isAgg3
  have z0 := Try.sizeOf3
  have u1 := Try.underlying33
  have a1 := Try.isAgg33
  have z1 := Try.sizeOf33
  have u2 := Try.underlying9
  have a2 := Try.isAgg9
  have z2 := Try.sizeOf9
  unfold Chk.val
  rw [run_eql_struct, show (10000 : Nat) = 9999 + 1 from rfl, run_equalIn_agg w 9999 38 _ _ hS hp]
  simp only [Program.fieldsOf, Try.underlying38]
  go_simp
  obtain ⟨ri, rn, rd, rb⟩ := r
  obtain ⟨si, sn, sd, sb⟩ := s
  simp only [Chk.mk.injEq]
  by_cases h0 : ri = si <;> by_cases h1 : rn = sn <;> by_cases h2 : rd = sd <;> by_cases h3 : rb = sb <;> simp [h0, h1, h2, h3] <;> omega
theorem eql_chk7 (i n : Int) (d : Nat) (b : List UInt8) (w : World) : (binOp .eql 38 (.agg #[.int .i64 i, .int .i64 n, .int .u64 (d : Nat), .string (S b)]) (.agg #[.int .i64 i, .int .i64 n, .int .u64 (d : Nat), .string (S b)])).run Try.prog w = .ok (.bool true) w := by
  have h := eql_chk ⟨i, n, d, b⟩ ⟨i, n, d, b⟩ w
  simpa [Chk.val] using h
theorem away3 {p m g : Nat} (h1 : g < p) (h2 : g < m) : g ∉ [p, m] := by simp; omega

set_option maxHeartbeats 8000000 in
set_option maxRecDepth 100000 in
theorem fixed7 (w : World) : RetB Try.prog 18 #[] w (.bool true) := by
  refine RetB.intro fun R hR => ?_
  have c1 := Lib.hid (fix_split w)
  have hdb := digest_bd abcde
  have cd : ∀ w, RetB Try.prog 16 #[.string (S [97, 98, 99, 100, 101])] w (.int .u64 (digest abcde : Nat)) := fun w => digest7 abcde w (by decide)
  obtain ⟨d, hd⟩ : ∃ d, digest abcde = d := ⟨_, rfl⟩
  rw [hd] at c1 hdb cd
  go_enter Try.func18, Try.ntmps18
  go_wp2_with fail
  refine c1.out.use ?_
  intro v w1 o1 G1
  obtain ⟨g, cap, rfl, hg, hcap, R1⟩ := row3_own o1
  clear o1 c1
  obtain ⟨k0, ⟨x0, x1, x2, x3⟩, ⟨x4, x5, x6, x7⟩, ⟨x8, x9, x10, x11⟩⟩ := R1.cells
  go_wp2_with fail
  refine (cd _).use ?_
  intro w2 b2
  have R2 := R1.below b2
  have G2 := below_any (Nat.le_refl _) G1 b2
  have hgs := R2.1
  clear R1 G1 b2 k0 x0 x1 x2 x3 x4 x5 x6 x7 x8 x9 x10 x11 cd
  go_wp2_with fail
  refine (new7 d _).mono ?_
  rintro e w3 ⟨p, m, rfl, J3, b3, hp, hm⟩
  have R3 := R2.below b3
  have G3 := below_any (Nat.le_refl _) G2 b3
  have hgm : g ∉ [p, m] := away3 (by omega) (by omega)
  have hpm : ∀ x ∈ [p, m], w.heap.size ≤ x := by have := G2.size; simp; omega
  have HGM := Lib.hid hgm
  have HPM := Lib.hid hpm
  clear R2 G2 b3 hgs hgm hpm
  have GG3 := Lib.hid G3
  have RR3 := Lib.hid R3
  obtain ⟨k0, ⟨x0, x1, x2, x3⟩, ⟨x4, x5, x6, x7⟩, ⟨x8, x9, x10, x11⟩⟩ := R3.cells
  clear R3 G3 x4 x5 x6 x7
  have JJ3 := Lib.hid J3
  clear J3
  go_wp2_with fail
  go_region_held3 (fun w' => w'.cell? ⟨g, 0, none⟩ = some (.int .i64 0) ∧ w'.cell? ⟨g, 1, none⟩ = some (.int .i64 3) ∧ w'.cell? ⟨g, 2, none⟩ = some (.int .u64 (d : Nat)) ∧ w'.cell? ⟨g, 3, none⟩ = some (.string (S [97, 98])) ∧ w'.cell? ⟨g, 8, none⟩ = some (.int .i64 2) ∧ w'.cell? ⟨g, 9, none⟩ = some (.int .i64 3) ∧ w'.cell? ⟨g, 10, none⟩ = some (.int .u64 (d : Nat)) ∧ w'.cell? ⟨g, 11, none⟩ = some (.string (S [101]))) (go_keep) (first | (go_at_call_has 29 (Value.int .i64 2); refine (fix_take1 p m d w3.drew JJ3.out).use ?_; intro w4 J4 K4; have RR4 := Lib.hid ((show Row3 w3.drew g d from RR3.out).kept K4 HGM.out); have GG4 := Lib.hid (Kept.below (GG3.out.drew) K4 HPM.out GG3.out.size); obtain ⟨kk0, ⟨y0, y1, y2, y3⟩, ⟨y4, y5, y6, y7⟩, ⟨y8, y9, y10, y11⟩⟩ := RR4.out.cells; clear y4 y5 y6 y7 K4; have JJ4 := Lib.hid J4; clear J4) | (go_at_call_has 29 (Value.int .i64 0); refine (fix_take2 p m d w4 JJ4.out).use ?_; intro w5 J5 K5; have RR5 := Lib.hid (RR4.out.kept K5 HGM.out); have GG5 := Lib.hid (Kept.below GG4.out K5 HPM.out GG4.out.size); obtain ⟨kk0, ⟨y0, y1, y2, y3⟩, ⟨y4, y5, y6, y7⟩, ⟨y8, y9, y10, y11⟩⟩ := RR5.out.cells; clear y4 y5 y6 y7 K5; have JJ5 := Lib.hid J5; clear J5))
  clear RR3 GG3 JJ3 RR4 GG4 JJ4 x0 x1 x2 x3 x8 x9 x10 x11 k0
  have HLT : Hid (p < w5.heap.size ∧ m < w5.heap.size) := Lib.hid ⟨JJ5.out.1.lt, JJ5.out.2.lt⟩
  go_wp2_with fail
  refine (fix_missing p m d w5 JJ5.out).use ?_
  intro vm w6 o6 b6
  have M6 := Lib.hid (nums_own (l := [1]) o6)
  have AW : Hid (Away [p, m] vm) := Lib.hid fun b hb hm => by have h1 := (o6.lt b hb).1; have h2 := HLT.out; simp at hm; omega
  have J6 := Lib.hid (JJ5.out.below b6)
  have R6 := Lib.hid (RR5.out.below b6)
  have G6 := Lib.hid (below_any (Nat.le_refl _) GG5.out b6)
  obtain ⟨ma, mc, rfl⟩ := own_form o6
  clear o6 b6 JJ5 RR5 GG5
  go_wp2_with fail
  refine (fix_whole1 p m d w6 J6.out).use ?_
  intro w7 b7
  have M7 := Lib.hid (M6.out.below b7)
  have J7 := Lib.hid (J6.out.below b7)
  have R7 := Lib.hid (R6.out.below b7)
  have G7 := Lib.hid (below_any (Nat.le_refl _) G6.out b7)
  clear b7 M6 J6 R6 G6
  obtain ⟨d', hd'⟩ : ∃ d' : Nat, IntKind.u64.wrap ((d : Int) + 1) = (d' : Int) := ⟨((d : Int) + 1).toNat % 18446744073709551616, by rw [IntKind.wrap_u64]; omega⟩
  have hne : Hid (d' ≠ d) := Lib.hid (by intro e; rw [IntKind.wrap_u64, e] at hd'; omega)
  obtain ⟨k0, ⟨x0, x1, x2, x3⟩, ⟨x4, x5, x6, x7⟩, ⟨x8, x9, x10, x11⟩⟩ := R7.out.cells
  clear x0 x1 x3 x4 x5 x6 x7 x8 x9 x10 x11
  go_wp2_with fail
  refine (fix_take3 p m d w7 d' hne.out J7.out).use ?_
  intro w8 J8 K8
  have M8 := Lib.hid (M7.out.kept K8 AW.out)
  have J8 := Lib.hid J8
  have R8 := Lib.hid (R7.out.kept K8 HGM.out)
  have G8 := Lib.hid (Kept.below G7.out K8 HPM.out G7.out.size)
  clear K8 M7 J7 R7 G7 x2 k0
  obtain ⟨k0, ⟨x0, x1, x2, x3⟩, ⟨x4, x5, x6, x7⟩, ⟨x8, x9, x10, x11⟩⟩ := R8.out.cells
  clear x0 x1 x2 x3 x8 x9 x10 x11
  go_wp2_with fail
  refine (fix_take4 p m d w8 J8.out).use ?_
  intro w9 J9 K9
  have M9 := Lib.hid (M8.out.kept K9 AW.out)
  have J9 := Lib.hid J9
  have R9 := Lib.hid (R8.out.kept K9 HGM.out)
  have G9 := Lib.hid (Kept.below G8.out K9 HPM.out G8.out.size)
  clear K9 M8 J8 R8 G8 x4 x5 x6 x7 k0
  go_wp2_with fail
  refine (fix_whole2 p m d w9 J9.out hd).use ?_
  intro w10 b10
  have M10 := Lib.hid (M9.out.below b10)
  have J10 := Lib.hid (J9.out.below b10)
  have R10 := Lib.hid (R9.out.below b10)
  have G10 := Lib.hid (below_any (Nat.le_refl _) G9.out b10)
  clear b10 M9 J9 R9 G9
  go_wp2_with fail
  refine (fix_take5 p m d w10 J10.out).use ?_
  intro w11 J11 K11
  have M11 := Lib.hid (M10.out.kept K11 AW.out)
  have R11 := Lib.hid (R10.out.kept K11 HGM.out)
  have G11 := Lib.hid (Kept.below G10.out K11 HPM.out G10.out.size)
  clear K11 M10 J10 R10 G10 J11
  obtain ⟨k0, ⟨x0, x1, x2, x3⟩, ⟨x4, x5, x6, x7⟩, ⟨x8, x9, x10, x11⟩⟩ := R11.out.cells
  clear x4 x5 x6 x7 x8 x9 x10 x11
  have cp := fix_put d hdb
  have cg := fix_get d hdb
  have htl := ctext_le (c := ck d 0 [97, 98]) (by simp [ck])
  generalize (ck d 0 [97, 98]).text = tx at cp cg htl
  go_wp2_with fail
  refine (cp _).use ?_
  intro w12 b12
  have M12 := Lib.hid (M11.out.below b12)
  have R12 := Lib.hid (R11.out.below b12)
  have G12 := Lib.hid (below_any (Nat.le_refl _) G11.out b12)
  clear b12 M11 R11 G11 x0 x1 x2 x3 k0 cp htl
  go_wp2_with fail
  refine (cg _).use ?_
  intro w13 b13
  have M13 := Lib.hid ((M12.out.below b13).alloc (.cells #[.int .i64 0, .int .i64 3, .int .u64 (d : Nat), .string (S [97, 98])] 38))
  have R13 := Lib.hid ((R12.out.below b13).below (below_all (o := .cells #[.int .i64 0, .int .i64 3, .int .u64 (d : Nat), .string (S [97, 98])] 38) (Below.refl _ _)))
  have G13 := Lib.hid (below_all (o := .cells #[.int .i64 0, .int .i64 3, .int .u64 (d : Nat), .string (S [97, 98])] 38) (below_any (Nat.le_refl _) G12.out b13))
  have X13 := Blk.new w13 #[.int .i64 0, .int .i64 3, .int .u64 (d : Nat), .string (S [97, 98])] 38
  clear b13 M12 R12 G12 cg
  have hF := fnds_lit7 (w13.alloc (.cells #[.int .i64 0, .int .i64 3, .int .u64 (d : Nat), .string (S [97, 98])] 38))
  rw [World.size_alloc] at hF
  go_wp2_with fail
  generalize w13.alloc (.cells #[.int .i64 0, .int .i64 3, .int .u64 (d : Nat), .string (S [97, 98])] 38) = W13 at M13 R13 G13 X13 hF ⊢
  generalize w13.heap.size = X at X13 hF ⊢
  refine (fix_text _ _ hF).use ?_
  intro w14 b14
  have M14 := Lib.hid ((M13.out.alloc (.cells #[.int .i64 7, .bool false, .string (S []), .bool false, .string (S [])] 70)).below b14)
  have R14 := Lib.hid ((R13.out.below (below_all (o := .cells #[.int .i64 7, .bool false, .string (S []), .bool false, .string (S [])] 70) (Below.refl _ _))).below b14)
  have G14 := Lib.hid (below_any (Nat.le_refl _) (below_all (o := .cells #[.int .i64 7, .bool false, .string (S []), .bool false, .string (S [])] 70) G13.out) b14)
  have X14 := Lib.hid ((X13.alloc (.cells #[.int .i64 7, .bool false, .string (S []), .bool false, .string (S [])] 70)).below b14)
  clear b14 M13 R13 G13 X13 hF
  go_wp2_with fail
  refine (fix_parse1 _).mono ?_
  rintro e w15 ⟨b15, vy, rfl, ya, yc, rfl⟩
  have M15 := Lib.hid ((M14.out.below b15).alloc (.cells #[.int .i64 5, .int .i64 9, .slice ya 1 yc] 24))
  have R15 := Lib.hid ((R14.out.below b15).below (below_all (o := .cells #[.int .i64 5, .int .i64 9, .slice ya 1 yc] 24) (Below.refl _ _)))
  have G15 := Lib.hid (below_all (o := .cells #[.int .i64 5, .int .i64 9, .slice ya 1 yc] 24) (below_any (Nat.le_refl _) G14.out b15))
  have X15 := Lib.hid ((X14.out.below b15).alloc (.cells #[.int .i64 5, .int .i64 9, .slice ya 1 yc] 24))
  have Y15 := Lib.hid (Blk.new w15 #[.int .i64 5, .int .i64 9, .slice ya 1 yc] 24)
  clear b15 M14 R14 G14 X14
  go_wp2_with fail
  generalize w15.alloc (.cells #[.int .i64 5, .int .i64 9, .slice ya 1 yc] 24) = W15 at M15 R15 G15 X15 Y15 ⊢
  generalize w15.heap.size = Y at Y15 ⊢
  refine (fix_parse2 _).use ?_
  intro w16 b16
  have M16 := Lib.hid ((M15.out.below b16).alloc (.cells #[.int .i64 0, .int .i64 0, .slice none 0 0] 24))
  have R16 := Lib.hid ((R15.out.below b16).below (below_all (o := .cells #[.int .i64 0, .int .i64 0, .slice none 0 0] 24) (Below.refl _ _)))
  have G16 := Lib.hid (below_all (o := .cells #[.int .i64 0, .int .i64 0, .slice none 0 0] 24) (below_any (Nat.le_refl _) G15.out b16))
  have X16 := Lib.hid ((X15.out.below b16).alloc (.cells #[.int .i64 0, .int .i64 0, .slice none 0 0] 24))
  have Y16 := Lib.hid ((Y15.out.below b16).alloc (.cells #[.int .i64 0, .int .i64 0, .slice none 0 0] 24))
  clear b16 M15 R15 G15 X15 Y15
  go_wp2_with fail
  generalize w16.alloc (.cells #[.int .i64 0, .int .i64 0, .slice none 0 0] 24) = W16 at M16 R16 G16 X16 Y16 ⊢
  refine (fix_split0 _).use ?_
  intro v16 w17 o17 b17
  have M17 := M16.out.below b17
  have R17 := R16.out.below b17
  have G17 := below_any (Nat.le_refl _) G16.out b17
  have X17 := X16.out.below b17
  have Y17 := Y16.out.below b17
  clear b17 o17 M16 R16 G16 X16 Y16
  obtain ⟨k0, ⟨x0, x1, x2, x3⟩, ⟨x4, x5, x6, x7⟩, ⟨x8, x9, x10, x11⟩⟩ := R17.cells
  have RR17 := Lib.hid R17
  clear R17 x4 x5 x6 x7 x8 x9 x10 x11
  obtain ⟨k1, q0, q1, q2, q3⟩ := X17.c4
  obtain ⟨k2, r0, r1, r2⟩ := Y17.c3
  have MM := Lib.hid M17
  clear M17
  have eqc := fun w => eql_chk7 0 3 d [97, 98] w
  have cN : Hid (∀ W a, a < W.heap.size → W.cell? ⟨a, 0, none⟩ = some (.int .i64 1) → Below w17.heap.size w17 W → RetB Try.prog 30 #[.slice ma 1 mc, .slice (some ⟨a, 0, none⟩) 1 1] W (.bool true)) := Lib.hid fun W a ha hc hb =>
    (nums5 _ _ [1] [1] W (MM.out.below hb) (.inr ⟨a, 0, 1, rfl, Nat.le_refl _, by simp, ha, fun i hi => by simp at hi; subst hi; exact hc⟩) (by decide) (by decide)).cast rfl
  go_wp2_with fail
  have P0 : Below w17.heap.size w17 (w17.alloc (.cells #[.int .i64 1] 3)).drew := (below_all (Below.refl _ _)).drew
  have GG17 := Lib.hid G17
  clear G17
  dsimp only [List.append]
  go_region_held3 (fun w' => w'.cell? ⟨g, 0, none⟩ = some (.int .i64 0) ∧ w'.cell? ⟨g, 1, none⟩ = some (.int .i64 3) ∧ w'.cell? ⟨g, 2, none⟩ = some (.int .u64 (d : Nat)) ∧ w'.cell? ⟨g, 3, none⟩ = some (.string (S [97, 98])) ∧ w'.cell? ⟨X, 0, none⟩ = some (.int .i64 0) ∧ w'.cell? ⟨X, 1, none⟩ = some (.int .i64 3) ∧ w'.cell? ⟨X, 2, none⟩ = some (.int .u64 (d : Nat)) ∧ w'.cell? ⟨X, 3, none⟩ = some (.string (S [97, 98])) ∧ w'.cell? ⟨Y, 0, none⟩ = some (.int .i64 5) ∧ w'.cell? ⟨Y, 1, none⟩ = some (.int .i64 9) ∧ w'.cell? ⟨Y, 2, none⟩ = some (.slice ya 1 yc)) (go_keep) (first | (go_at_call 30; refine (cN.out _ _ (by simp) (by go_simp) (by assumption)).use ?_; intro W hb; have P := below_any (Nat.le_refl _) P0 hb; obtain ⟨_, xx0, xx1, xx2, xx3⟩ := (X17.below P).c4; obtain ⟨_, yy0, yy1, yy2⟩ := (Y17.below P).c3; obtain ⟨_, ⟨zz0, zz1, zz2, zz3⟩, _, _⟩ := (RR17.out.below P).cells))
  all_goals go_wp2_with fail
  all_goals exact finB hR (below_any (Nat.le_refl _) GG17.out P) rfl
end Go.Proofs.Ytohplhahghilaaa
