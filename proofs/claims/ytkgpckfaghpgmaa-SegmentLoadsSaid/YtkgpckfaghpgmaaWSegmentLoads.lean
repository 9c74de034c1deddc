/-
  The walk of SegmentLoads.
-/
import Derived.Test.YtkgpckfaghpgmaaSegR
set_option linter.unusedVariables false
set_option linter.unusedSimpArgs false
namespace Go.Proofs.Ytkgpckfaghpgmaa.segmentLoads
open Go.RowKit
attribute [local go_sem] ByteArray.extract_mk ByteArray.mk_append_mk

/-- A record with its offset, cut to what a statement can hold. -/
def cutF (f : Fnd) : Fnd := ⟨f.off, cutR f.r⟩
theorem cut_bd {f : Fnd} : RecBd (cutF f).r := ⟨by simp only [cutF, cutR, List.length_take]; unfold maxLen; omega, by simp only [cutF, cutR, List.length_take]; unfold maxLen; omega⟩

theorem lerr_ok {base next : Int} {l : List Fnd} (h : lerr base next l = 0) : numB base = true ∧ l.length ≤ 64 ∧ ∀ f ∈ l, f.r.ok = 0 := by
  unfold lerr at h
  split at h
  · cases h
  · rename_i h1
    have h1 : numB base = true ∧ numB next = true ∧ ¬ next < base ∧ ¬ 64 < l.length := by simpa [and_assoc] using h1
    split at h
    · cases h
    · exact ⟨h1.1, by omega, fun f hf => rchecks_ok.1 h f.r (List.mem_map_of_mem hf)⟩

set_option maxHeartbeats 8000000 in
set_option maxRecDepth 100000 in
theorem walk {w : World} (base next : Int) (v : Value) (l : List Fnd) (hb1 : -9223372036854775808 ≤ base ∧ base ≤ 9223372036854775807) (hb2 : -9223372036854775808 ≤ next ∧ next ≤ 9223372036854775807) (hv : FndsIn w v l) (hl : l.length ≤ maxLen ∧ ∀ f ∈ l, RecBd f.r ∧ (Lit.int .i64 f.off).wf = true) :
    RetB Try.prog 4 #[.int .i64 base, .int .i64 next, v] w (.bool true) := by
  refine RetB.intro fun R hR => ?_
  have HV := Lib.hid hv
  have HL := Lib.hid hl.2
  have hll : l.length ≤ 9223372036854775807 := by have := hl.1; unfold maxLen at this; omega
  obtain ⟨a, cap, rfl⟩ := hv.form
  obtain ⟨i0, hi0, hz0, hz1, hz2⟩ := info_parts fndInfo
  have o0 : (w.alloc (.cells #[] 26)).ownsRow w.heap.size 26 5 (.slice (some ⟨w.heap.size, 0, none⟩) 0 0) 0 [] := World.ownsRow_made w #[] 0 (Nat.le_refl _) (by omega) rfl
  clear hv hl
  go_enter Try.func4, Try.ntmps4
  go_wp2_with fail
  go_loopw [7, 8, 9] (fun (v7 v8 v9 : Value) (W : World) => ∃ (j g mc : Nat), v7 = .slice (some ⟨g, 0, none⟩) j mc ∧ v8 = .int .i64 (j : Int) ∧ j ≤ l.length ∧ j ≤ 70 ∧ W.ownsRow w.heap.size 26 5 (.slice (some ⟨g, 0, none⟩) j mc) j (((l.take j).map cutF).flatMap Fnd.cells) ∧ Below w.heap.size w W) (fun (v7 v8 v9 : Value) (W : World) => (l.length - intOf v8).toNat)
  case atStart => exact ⟨0, w.heap.size, 0, rfl, rfl, by omega, by omega, by simpa using o0, below_all (Below.refl _ _)⟩
  case round =>
    obtain ⟨j, g, mc, rfl, rfl, hj, hj70, hown, hnx⟩ := hrel
    by_cases hgo : j < l.length ∧ j < 70
    · obtain ⟨hjl, hj7⟩ := hgo
      rcases HV.out.below hnx with ⟨h, _⟩ | ⟨b, off, cap2, hsl, hcap2, hne, hlt, hc⟩
      · rw [h] at hjl; simp at hjl
      simp only [Value.slice.injEq, true_and] at hsl
      obtain ⟨rfl, rfl⟩ := hsl
      have hcf := hc j hjl
      obtain ⟨x0, x1, x2, x3, x4⟩ := hcf
      have hbd := (HL.out _ (List.getElem_mem hjl)).1
      have hts : Hid ((l.take (j + 1)).map cutF = (l.take j).map cutF ++ [cutF l[j]]) := Lib.hid (by rw [List.take_succ_eq_append_getElem hjl, List.map_append]; rfl)
      have hj1 : (0 : Int) ≤ (j : Int) := by omega
      have hj2 : (j : Int) < (l.length : Int) := by omega
      have hj3 : (j : Int) < 70 := by omega
      clear hc hne
      generalize l[j] = f at *
      have hrA : RecAt (wr.alloc (.cells f.r.cells.toArray 24)) wr.heap.size 0 f.r := by
        have hb := Blk.new wr f.r.cells.toArray 24
        exact ⟨hb.cell 0, hb.cell 1, hb.cell 2, hb.cell 3⟩
      have cR := Lib.hid (records5 f.r wr.heap.size 1 _ (by simp) (by omega) hrA hbd)
      clear hbd hrA
      go_wp2_with fail
      refine (show RecCall _ _ _ _ from cR.out).mono ?_
      rintro e w2 ⟨g2, c2, rfl, hg2, hr2, b2⟩
      have hn2 := below_any (Nat.le_refl _) (below_all (o := .cells f.r.cells.toArray 24) hnx) b2
      have b2' : Below wr.heap.size wr w2 := below_any (Nat.le_refl _) (below_all (o := .cells f.r.cells.toArray 24) (Below.refl _ _)) b2
      have o2 := own_keptBy hown (Kept.ofBelow b2' []) (away_nil _)
      have y0 := (b2'.cell (p := ⟨b, off + j * 5, none⟩) hlt).trans x0
      have hlt2 : b < w2.heap.size := Nat.lt_of_lt_of_le hlt b2'.size
      obtain ⟨r0, r1, r2, r3⟩ := hr2
      obtain ⟨cr, hcr⟩ : ∃ cr, cutR f.r = cr := ⟨_, rfl⟩
      have hts2 : Hid ((l.take (j + 1)).map cutF = (l.take j).map cutF ++ [⟨f.off, cr⟩]) := Lib.hid (by rw [hts.out, ← hcr]; rfl)
      rw [hcr] at r0 r1 r2 r3
      clear hts hcr
      simp only [Nat.zero_add] at r1 r2 r3
      clear cR hown x0 x1 x2 x3 x4 b2 b2' hnx
      have hsz := hn2.size
      go_wp2_with fail
      go_region_law (refine step_append_lies _ (by rfl) _ _ _ (by rfl) w.heap.size 26 i0 _ 5 56 Try.underlying22 hi0 hz0 hz1 hz2 rfl (by omega) (.slice (some ⟨g, 0, none⟩) j mc) j (((l.take j).map cutF).flatMap Fnd.cells) (by simp [Act.eval, Act.put]) (World.ownsRow.alloc (w := w2.drew) o2 _) ⟨w2.heap.size, 0, none⟩ 1 1 (⟨f.off, cr⟩ : Fnd).cells (by simp [Act.eval, Act.put]) rfl (news_fnd (W := w2.drew) (⟨f.off, cr⟩ : Fnd) rfl) (by simp [Value.oneCell', Fnd.cells, Rec.cells]) (by omega) (by unfold maxLen; omega) (by omega) (by simp; omega) (w2.heap.size + 1) (by simp) ?_; intro g3 c3 w3 hown3 hgrow3 hat3 hlt3)
      all_goals go_wp2_with fail
      all_goals go_roundw
      case rel =>
        have G3 := Kept.below (below_all (o := .cells (⟨f.off, cr⟩ : Fnd).cells.toArray 26) hn2.drew) (Kept.ofGrown hgrow3) (by intro x hx; simp only [Option.mem_toList] at hx; exact (o2.lt x hx).1) (by simp; omega)
        exact ⟨j + 1, g3, c3, rfl, by go_num, by omega, by omega, by rw [hts2.out, List.flatMap_append]; simpa using hown3, G3⟩
      case measure => simp [intOf]; omega
      case rel =>
        have G3 := Kept.below (below_all (o := .cells (⟨f.off, cr⟩ : Fnd).cells.toArray 26) hn2.drew) (Kept.ofGrown hgrow3) (by intro x hx; simp only [Option.mem_toList] at hx; exact (o2.lt x hx).1) (by simp; omega)
        exact ⟨j + 1, g3, c3, rfl, by go_num, by omega, by omega, by rw [hts2.out, List.flatMap_append]; simpa using hown3, G3⟩
      case measure => simp [intOf]; omega
    · have hML : ((l.take j).map cutF).length = j := by rw [List.length_map, List.length_take]; omega
      have hMb : ∀ f ∈ (l.take j).map cutF, RecBd f.r := fun f hf => by
        obtain ⟨f', _, rfl⟩ := List.mem_map.1 hf
        exact cut_bd
      generalize (l.take j).map cutF = M at *
      subst hML
      have hM := Lib.hid (fnds_own hown)
      clear hown
      have cLd := Lib.hid (fun v w hv => load5 base next v M w hv (by omega) hMb)
      have cRL := Lib.hid (fun v w hv hn => rload5 base next v M w hv hn (by omega) hMb)
      have hMB := Lib.hid hMb
      clear hMb o0
      by_cases he : lerr base next M = 0
      · obtain ⟨he1, he2, he3⟩ := lerr_ok he
        have cN := Lib.hid (fun w => new5_ok base w he1)
        have cRN := Lib.hid (fun w => rnew5 base w)
        have HE := Lib.hid he
        have HE1 := Lib.hid he1
        have HE3 := Lib.hid he3
        clear he he1 he3
        rcases (show ¬ (M.length < l.length) ∨ (M.length < l.length ∧ ¬ (M.length < 70)) by omega) with hgn | ⟨hgn, hgm⟩
        · skip
          go_wp2_with fail
          refine (cLd.out _ _ hM.out).mono ?_
          rintro e w3 (⟨_, p, bs, rfl, S3, B3, N3⟩ | ⟨hne, _⟩)
          rotate_left
          · exact absurd HE.out hne
          have M3 := hM.out.below B3
          have G3 := below_any (Nat.le_refl _) hnx B3
          go_wp2_with fail
          refine (cRL.out _ _ M3 ⟨_, _, _, rfl⟩).mono ?_
          rintro e w4 (⟨_, p2, rfl, R4, B4⟩ | ⟨hne, _⟩)
          rotate_left
          · exact absurd HE.out hne
          have S4 := S3.below B4
          have G4 := below_any (Nat.le_refl _) G3 B4
          clear S3 M3 B3 N3 B4 hnx G3
          go_wp2_with fail
          refine (cN.out _).use ?_
          intro p3 b3 w5 _ B5 _
          have S5 := S4.below B5
          have R5 := R4.below B5
          have G5 := below_any (Nat.le_refl _) G4 B5
          clear S4 R4 G4 B5
          go_wp2_with fail
          refine (cRN.out _).mono ?_
          rintro e w6 (⟨_, p4, rfl, _, B6⟩ | ⟨hne, _⟩)
          rotate_left
          · rw [HE1.out] at hne; cases hne
          have S6 := S5.below B6
          have R6 := R5.below B6
          have G6 := below_any (Nat.le_refl _) G5 B6
          clear S5 R5 G5 B6
          have cA := Lib.hid (all5 p bs base next M w6 S6 (by omega))
          go_wp2_with fail
          refine cA.out.use ?_
          intro v7 w7 O7 B7
          have S7 := S6.below B7
          have R7 := R6.below B7
          have G7 := below_any (Nat.le_refl _) G6 B7
          have M7 := fnds_own O7
          clear S6 R6 G6 B7 cA
          go_wp2_with fail
          refine (cLd.out _ _ M7).mono ?_
          rintro e w8 (⟨_, p8, b8, rfl, T8, B8, N8⟩ | ⟨hne, _⟩)
          rotate_left
          · exact absurd HE.out hne
          have S8 := S7.below B8
          have R8 := R7.below B8
          have G8 := below_any (Nat.le_refl _) G7 B8
          have cS1 := Lib.hid (same5 p p2 bs base next M w8 S8 R8 he2 HE3.out)
          clear S7 R7 G7 B8 M7 O7
          go_wp2_with fail
          refine cS1.out.use ?_
          intro w9 B9
          have T9 := T8.below B9
          have R9 := R8.below B9
          have G9 := below_any (Nat.le_refl _) G8 B9
          have cS2 := Lib.hid (same5 p8 p2 b8 base next M w9 T9 R9 he2 HE3.out)
          go_wp2_with fail
          refine cS2.out.use ?_
          intro w10 B10
          go_wp2_with fail
          refine (fixed5 _).use ?_
          intro w11 B11
          go_wp2_with fail
          exact finB hR (below_any (Nat.le_refl _) (below_any (Nat.le_refl _) G9 B10) B11) rfl
        · omega
      · have HE := Lib.hid he
        have cRN := Lib.hid (fun w => rnew5 base w)
        clear he
        by_cases hb : numB base = true
        · have cN := Lib.hid (fun w => new5_ok base w hb)
          have HB1 := Lib.hid hb
          clear hb
          rcases (show ¬ (M.length < l.length) ∨ (M.length < l.length ∧ ¬ (M.length < 70)) by omega) with hgn | ⟨hgn, hgm⟩
          · go_wp2_with fail
            refine (cLd.out _ _ hM.out).mono ?_
            rintro e w3 (⟨h0, _⟩ | ⟨_, rfl, B3⟩)
            · exact absurd h0 HE.out
            have M3 := hM.out.below B3
            have G3 := below_any (Nat.le_refl _) hnx B3
            go_wp2_with fail
            refine (cRL.out _ _ M3 ⟨_, _, _, rfl⟩).mono ?_
            rintro e w4 (⟨h0, _⟩ | ⟨_, rfl, B4⟩)
            · exact absurd h0 HE.out
            have G4 := below_any (Nat.le_refl _) G3 B4
            clear M3 B3 B4 hnx G3
            go_wp2_with fail
            refine (cN.out _).use ?_
            intro p3 b3 w5 _ B5 _
            have G5 := below_any (Nat.le_refl _) G4 B5
            go_wp2_with fail
            refine (cRN.out _).mono ?_
            rintro e w6 (⟨_, p4, rfl, _, B6⟩ | ⟨hne, _⟩)
            rotate_left
            · rw [HB1.out] at hne; cases hne
            have G6 := below_any (Nat.le_refl _) G5 B6
            go_wp2_with fail
            refine (fixed5 _).use ?_
            intro w11 B11
            go_wp2_with fail
            exact finB hR (below_any (Nat.le_refl _) G6 B11) rfl
          · go_wp2_with fail
            refine (cLd.out _ _ hM.out).mono ?_
            rintro e w3 (⟨h0, _⟩ | ⟨_, rfl, B3⟩)
            · exact absurd h0 HE.out
            have M3 := hM.out.below B3
            have G3 := below_any (Nat.le_refl _) hnx B3
            go_wp2_with fail
            refine (cRL.out _ _ M3 ⟨_, _, _, rfl⟩).mono ?_
            rintro e w4 (⟨h0, _⟩ | ⟨_, rfl, B4⟩)
            · exact absurd h0 HE.out
            have G4 := below_any (Nat.le_refl _) G3 B4
            clear M3 B3 B4 hnx G3
            go_wp2_with fail
            refine (cN.out _).use ?_
            intro p3 b3 w5 _ B5 _
            have G5 := below_any (Nat.le_refl _) G4 B5
            go_wp2_with fail
            refine (cRN.out _).mono ?_
            rintro e w6 (⟨_, p4, rfl, _, B6⟩ | ⟨hne, _⟩)
            rotate_left
            · rw [HB1.out] at hne; cases hne
            have G6 := below_any (Nat.le_refl _) G5 B6
            go_wp2_with fail
            refine (fixed5 _).use ?_
            intro w11 B11
            go_wp2_with fail
            exact finB hR (below_any (Nat.le_refl _) G6 B11) rfl
        · have hb : numB base = false := by simpa using hb
          have cN := Lib.hid (fun w => new5_no base w hb)
          have HB1 := Lib.hid hb
          clear hb
          rcases (show ¬ (M.length < l.length) ∨ (M.length < l.length ∧ ¬ (M.length < 70)) by omega) with hgn | ⟨hgn, hgm⟩
          · go_wp2_with fail
            refine (cLd.out _ _ hM.out).mono ?_
            rintro e w3 (⟨h0, _⟩ | ⟨_, rfl, B3⟩)
            · exact absurd h0 HE.out
            have M3 := hM.out.below B3
            have G3 := below_any (Nat.le_refl _) hnx B3
            go_wp2_with fail
            refine (cRL.out _ _ M3 ⟨_, _, _, rfl⟩).mono ?_
            rintro e w4 (⟨h0, _⟩ | ⟨_, rfl, B4⟩)
            · exact absurd h0 HE.out
            have G4 := below_any (Nat.le_refl _) G3 B4
            clear M3 B3 B4 hnx G3
            go_wp2_with fail
            refine (cN.out _).use ?_
            intro w5 B5
            have G5 := below_any (Nat.le_refl _) G4 B5
            go_wp2_with fail
            refine (cRN.out _).mono ?_
            rintro e w6 (⟨hne, _⟩ | ⟨_, rfl, B6⟩)
            · rw [HB1.out] at hne; cases hne
            have G6 := below_any (Nat.le_refl _) G5 B6
            go_wp2_with fail
            refine (fixed5 _).use ?_
            intro w11 B11
            go_wp2_with fail
            exact finB hR (below_any (Nat.le_refl _) G6 B11) rfl
          · go_wp2_with fail
            refine (cLd.out _ _ hM.out).mono ?_
            rintro e w3 (⟨h0, _⟩ | ⟨_, rfl, B3⟩)
            · exact absurd h0 HE.out
            have M3 := hM.out.below B3
            have G3 := below_any (Nat.le_refl _) hnx B3
            go_wp2_with fail
            refine (cRL.out _ _ M3 ⟨_, _, _, rfl⟩).mono ?_
            rintro e w4 (⟨h0, _⟩ | ⟨_, rfl, B4⟩)
            · exact absurd h0 HE.out
            have G4 := below_any (Nat.le_refl _) G3 B4
            clear M3 B3 B4 hnx G3
            go_wp2_with fail
            refine (cN.out _).use ?_
            intro w5 B5
            have G5 := below_any (Nat.le_refl _) G4 B5
            go_wp2_with fail
            refine (cRN.out _).mono ?_
            rintro e w6 (⟨hne, _⟩ | ⟨_, rfl, B6⟩)
            · rw [HB1.out] at hne; cases hne
            have G6 := below_any (Nat.le_refl _) G5 B6
            go_wp2_with fail
            refine (fixed5 _).use ?_
            intro w11 B11
            go_wp2_with fail
            exact finB hR (below_any (Nat.le_refl _) G6 B11) rfl
end Go.Proofs.Ytkgpckfaghpgmaa.segmentLoads
