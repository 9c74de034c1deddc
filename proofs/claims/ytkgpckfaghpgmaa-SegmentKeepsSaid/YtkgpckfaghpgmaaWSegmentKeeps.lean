/-
  The walk of SegmentKeeps.
-/
import Derived.Test.YtkgpckfaghpgmaaSegV
set_option linter.unusedVariables false
set_option linter.unusedSimpArgs false
namespace Go.Proofs.Ytkgpckfaghpgmaa.segmentKeeps
open Go.RowKit
attribute [local go_sem] ByteArray.extract_mk ByteArray.mk_append_mk

theorem reads_all {fr n : Int} {K : List Fnd} {f : Fnd} (h0 : ∀ g ∈ K ++ [f], fr ≤ g.off) (hn : n = K.length) : reads fr n (K ++ [f]) = K := by
  have hp : place fr (K ++ [f]) = 0 := place_eq (by omega) (fun j h => by omega) (fun h => by
    have := h0 _ (List.getElem_mem h)
    omega)
  unfold reads
  rw [hp, hn, List.drop_zero, List.length_append, List.length_singleton, show (max 0 (min (K.length : Int) ((K.length + 1 : Nat) : Int))).toNat = K.length by omega, List.take_left]

theorem rising_iff {l : List Fnd} : Rising l ↔ l.Pairwise fun f g => f.off < g.off := by
  rw [List.pairwise_iff_getElem]
  exact ⟨fun h i j hi hj hij => h i j hij hj, fun h i j hij hj => h i j (by omega) hj hij⟩
theorem keeps_rising (ks : List Int) (k : Nat) : Rising (keeps ks (vs 7 k) ++ [⟨7 + k, rv⟩]) := by
  rw [rising_iff, List.pairwise_append]
  refine ⟨(rising_iff.1 (vs_rising 7 k)).sublist List.filter_sublist, by simp, fun f hf g hg => ?_⟩
  simp only [List.mem_singleton] at hg
  subst hg
  obtain ⟨i, hi, rfl⟩ := List.getElem_of_mem (List.mem_filter.1 (show f ∈ List.filter _ _ from hf)).1
  rw [vs_get]
  rw [vs_len] at hi
  show (7 : Int) + i < 7 + k
  omega
theorem keeps_ge (ks : List Int) (k : Nat) : ∀ g ∈ keeps ks (vs 7 k) ++ [⟨7 + k, rv⟩], (0 : Int) ≤ g.off := fun g hg => by
  rcases List.mem_append.1 hg with hg | hg
  · obtain ⟨i, hi, rfl⟩ := List.getElem_of_mem (List.mem_filter.1 (show g ∈ List.filter _ _ from hg)).1
    rw [vs_get]
    show (0 : Int) ≤ 7 + i
    omega
  · simp only [List.mem_singleton] at hg
    subst hg
    show (0 : Int) ≤ 7 + k
    omega
theorem vs_wf {k : Nat} (hk : k ≤ 40) : ∀ f ∈ vs 7 k, (Lit.int .i64 f.off).wf = true := fun f hf => by
  obtain ⟨i, hi, rfl⟩ := List.getElem_of_mem hf
  rw [vs_get]
  rw [vs_len] at hi
  simp [Lit.wf, IntKind.min, IntKind.max, IntKind.signed, IntKind.bits]
  omega
theorem nums_cap {w : World} {a : Option Addr} {n cap : Nat} {l : List Int} (h : NumsIn w (.slice a n cap) l) : l.length ≤ cap := by
  rcases h with ⟨rfl, _⟩ | ⟨b, off, cap', hsl, hc, _⟩
  · simp
  · simp only [Value.slice.injEq] at hsl; omega
theorem nums_take {w : World} {a : Option Addr} {n cap M : Nat} {l : List Int} (h : NumsIn w (.slice a n cap) l) (hM : M ≤ l.length) : NumsIn w (.slice a M cap) (l.take M) := by
  rcases h with ⟨rfl, _⟩ | ⟨b, off, cap', hsl, hc, hne, hlt, hx⟩
  · simp at hM; subst hM; exact .inl ⟨by simp, _, _, rfl⟩
  · simp only [Value.slice.injEq] at hsl
    obtain ⟨rfl, rfl, rfl⟩ := hsl
    by_cases h0 : M = 0
    · subst h0; exact .inl ⟨by simp, _, _, rfl⟩
    · have hl : (l.take M).length = M := by rw [List.length_take]; omega
      refine .inr ⟨b, off, cap, by rw [hl], by omega, fun e => by rw [e] at hl; simp at hl; omega, hlt, fun i hi => ?_⟩
      rw [List.getElem_take]
      exact hx i (by omega)
/-- Is an offset one of the numbers ahead? -/
theorem any_take (ks : List Int) (x : Int) {j : Nat} (hj : j < ks.length) : decide (x ∈ ks.take (j + 1)) = (decide (x ∈ ks.take j) || decide (ks[j] = x)) := by
  rw [List.take_succ_eq_append_getElem hj]
  rw [Bool.eq_iff_iff]
  simp only [decide_eq_true_iff, Bool.or_eq_true, List.mem_append, List.mem_singleton]
  exact ⟨fun h => h.elim .inl fun e => .inr e.symm, fun h => h.elim .inl fun e => .inr e.symm⟩

set_option maxHeartbeats 4000000 in
set_option maxRecDepth 100000 in
theorem walk {w : World} (i : Int) (v : Value) (ks0 : List Int) (hi : -9223372036854775808 ≤ i ∧ i ≤ 9223372036854775807) (hv : NumsIn w v ks0) (hks : ks0.length ≤ maxLen ∧ ∀ n ∈ ks0, (Lit.int .i64 n).wf = true) :
    RetB Try.prog 6 #[.int .i64 i, v] w (.bool true) := by
  refine RetB.intro fun R hR => ?_
  obtain ⟨q, hq, hq2⟩ : ∃ q : Nat, bits .and .i64 i 65535 = (q : Int) ∧ q < 65536 := ⟨_, and_low i 65535 16 rfl (by omega), Nat.mod_lt _ (by decide)⟩
  obtain ⟨n, hn, hn2⟩ : ∃ n : Nat, (q : Int).tmod 41 = (n : Int) ∧ n ≤ 40 := ⟨q % 41, by rw [Int.tmod_eq_emod_of_nonneg (by omega)]; omega, by omega⟩
  have hn' : (q : Int) % 41 = (n : Int) := by rw [← hn, Int.tmod_eq_emod_of_nonneg (by omega)]
  have c1 := fun w => new5_ok 7 w (by decide +kernel)
  have cv := fun w => v5 w
  have HV := Lib.hid hv
  have HKS := Lib.hid hks.2
  have hkl : ks0.length ≤ 9223372036854775807 := by have := hks.1; unfold maxLen at this; omega
  obtain ⟨a, cap, rfl⟩ := hv.form
  clear hv hks
  go_enter Try.func6, Try.ntmps6
  go_wp2_with fail
  refine (c1 _).use ?_
  intro p b1 w1 S1 B1 N1
  clear c1
  go_wp2_with fail
  go_loopw [8] (fun (v8 : Value) (W : World) => ∃ (k : Nat) (cs : List Nat), v8 = .int .i64 (k : Int) ∧ k ≤ n ∧ SegAt W p cs 7 ((7 : Int) + (k : Int)) (vs 7 k) ∧ Below w.heap.size w W ∧ ∀ x ∈ cs, w.heap.size ≤ x) (fun (v8 : Value) (W : World) => (n - intOf v8).toNat)
  case atStart => exact ⟨0, b1, rfl, by omega, by simpa [vs, fnds] using S1, B1, N1⟩
  case round =>
    obtain ⟨k, cs, rfl, hk, hS, hnx, hcs⟩ := hrel
    by_cases hkn : k < n
    · go_wp2_with fail
      refine (cv _).use ?_
      intro w2 B2
      have S2 := hS.below B2
      have hs2 := S2.lt
      have hr2 := recs_lit (w := w2) [rv] #[.bool false, .string (S []), .bool false, .string (S [118])] rfl (by decide)
      have ca := Lib.hid (append_v p cs 7 7 k _ _ (S2.below (below_all (Below.refl _ _))) hr2 (away_new hs2) (by omega) (by omega))
      have G3 := below_all (o := .cells #[.bool false, .string (S []), .bool false, .string (S [118])] 24) (below_any (Nat.le_refl _) hnx B2)
      clear S2 hs2 hr2 hS
      go_wp2_with fail
      refine ca.out.use ?_
      intro cs2 w3 S3 K3 N3
      have G4 := Kept.below G3 K3 hcs G3.size
      have M3 : ∀ x ∈ cs2, w.heap.size ≤ x := fun x hx => (N3 x hx).elim (hcs x) fun h => Nat.le_trans G3.size h
      go_wp2_with fail
      go_roundw
      case rel => exact ⟨k + 1, cs2, by go_num, by omega, S3, G4, M3⟩
      case measure => simp [intOf]; omega
    · obtain rfl : k = n := by omega
      have cA := Lib.hid (all5 p cs 7 ((7 : Int) + (k : Int)) (vs 7 k) wr hS (by rw [vs_len]; omega))
      have hcap := nums_cap HV.out
      clear S1 B1 N1
      go_wp2_with fail
      refine cA.out.use ?_
      intro va w4 O4 B4
      have S4 := hS.below B4
      have J4 := fnds_own O4
      have aw4 : Away cs va := fun b hb hm => by have h1 := (O4.lt b hb).1; have h2 := hS.lt b hm; omega
      have G4 := below_any (Nat.le_refl _) hnx B4
      have V4 := HV.out.below G4
      obtain ⟨fa, fc, rfl⟩ := own_form O4
      have J4 := Lib.hid J4
      have V4 := Lib.hid V4
      have S4 := Lib.hid S4
      clear O4 B4 cA hS hnx
      rcases Nat.lt_or_ge 60 ks0.length with h60 | h60
      · have i1 : (60 : Int) ≤ (cap : Int) := by omega
        have i2 : ((60 : Int) < (ks0.length : Int)) = True := eq_true (by omega)
        go_wp2_with fail
        obtain ⟨M, hM⟩ : ∃ M : Nat, 60 = M := ⟨_, rfl⟩
        have hM2 : M ≤ ks0.length ∧ M ≤ 60 := by omega
        rw [show Value.slice a 60 cap = Value.slice a M cap by rw [hM]]
        clear hM i1 i2 h60
        have V5 := nums_take V4.out hM2.1
        obtain ⟨ks, hks⟩ : ∃ ks, ks0.take M = ks := ⟨_, rfl⟩
        have hksl : ks.length = M := by rw [← hks, List.length_take]; omega
        have hwf : ∀ n ∈ ks, (Lit.int .i64 n).wf = true := fun n hn => HKS.out n (List.mem_of_mem_take (by rw [hks]; exact hn))
        rw [hks] at V5
        have cK := Lib.hid (keep5 p cs 7 ((7 : Int) + (k : Int)) (vs 7 k) _ ks w4 S4.out V5 hwf (by omega) (by rw [vs_len]; omega) (vs_wf (by omega)))
        have HKS2 := Lib.hid hks
        clear hks V5 hwf
        refine cK.out.use ?_
        intro cs2 w5 S5 K5 N5
        have J5 := J4.out.kept K5 aw4
        have G5 := Kept.below G4 K5 hcs G4.size
        have V6 : NumsIn w5 (.slice a M cap) ks := HKS2.out ▸ nums_take (HV.out.below G5) hM2.1
        have M5 : ∀ x ∈ cs2, w.heap.size ≤ x := fun x hx => (N5 x hx).elim (hcs x) fun h => Nat.le_trans G4.size h
        have hvl := vs_len 7 k
        have hvg := Lib.hid (vs_get 7 k)
        have hkk := keeps_len ks (vs 7 k)
        have hris := Lib.hid (keeps_rising ks k)
        have hge := Lib.hid (keeps_ge ks k)
        clear J4 V4 S4 K5 N5 G4 aw4 cK hcs
        generalize vs 7 k = L at *
        have o0 : (w5.alloc (.cells #[] 26)).ownsRow w5.heap.size 26 5 (.slice (some ⟨w5.heap.size, 0, none⟩) 0 0) 0 [] := World.ownsRow_made w5 #[] 0 (Nat.le_refl _) (by omega) rfl
        obtain ⟨i0, hi0, hz0, hz1, hz2⟩ := info_parts fndInfo
        have HVL := Lib.hid hvl
        have HKL := Lib.hid hksl
        have hLl : L.length ≤ 40 := by omega
        clear hvl hksl
        go_wp2_with fail
        go_loopw [12, 13, 14, 15] (fun (v12 v13 v14 v15 : Value) (W : World) => ∃ (j : Nat), v13 = .int .i64 (j : Int) ∧ j ≤ L.length ∧ W.ownsRow w5.heap.size 26 5 v12 (keeps ks (L.take j)).length ((keeps ks (L.take j)).flatMap Fnd.cells) ∧ Below w5.heap.size w5 W) (fun (v12 v13 v14 v15 : Value) (W : World) => (L.length - intOf v13).toNat)
        case atStart => exact ⟨0, rfl, by omega, o0, below_all (Below.refl _ _)⟩
        case round =>
          obtain ⟨j, rfl, hj, hown, hny⟩ := hrel
          by_cases hjl : j < L.length
          · rcases J5.below hny with ⟨h, _⟩ | ⟨b, off, cap2, hsl, hcap2, hne, hlt, hc⟩
            · rw [h] at hjl; simp at hjl
            simp only [Value.slice.injEq, true_and] at hsl
            obtain ⟨rfl, rfl⟩ := hsl
            obtain ⟨x0, x1, x2, x3, x4⟩ := hc j hjl
            have hft := Lib.hid (keeps_take ks L hjl)
            have hfl : (keeps ks (L.take j)).length ≤ 40 := by have := keeps_len ks (L.take j); rw [List.length_take] at this; omega
            have hj1 : (0 : Int) ≤ (j : Int) := by omega
            have hj2 : (j : Int) < (L.length : Int) := by omega
            clear hc hne
            generalize L[j] = f at *
            generalize keeps ks (L.take j) = fs at *
            go_wp2_with fail
            go_loopw [14, 15] (fun (v14 v15 : Value) (W : World) => ∃ (h : Nat), v15 = .int .i64 (h : Int) ∧ h ≤ ks.length ∧ v14 = .bool (decide (f.off ∈ ks.take h)) ∧ Below wr.heap.size wr W) (fun (v14 v15 : Value) (W : World) => (ks.length - intOf v15).toNat)
            case atStart => exact ⟨0, rfl, by omega, by simp, Below.refl _ _⟩
            case round =>
              obtain ⟨h, rfl, hh, rfl, hnz⟩ := hrel
              have hnw := below_any (Nat.le_refl _) hny hnz
              have y0 := (hnz.cell (p := ⟨b, off + j * 5, none⟩) hlt).trans x0
              have hlt2 : b < wr.heap.size := Nat.lt_of_lt_of_le hlt hnz.size
              by_cases hhl : h < M
              · have hhk : h < ks.length := by rw [HKL.out]; exact hhl
                rcases V6.below hnw with ⟨e, _⟩ | ⟨b', off', cap3, hsl, _, _, hlt3, hc⟩
                · rw [e] at hhk; simp at hhk
                simp only [Value.slice.injEq] at hsl
                obtain ⟨rfl, _, rfl⟩ := hsl
                have hci := hc h hhk
                have hat := Lib.hid (any_take ks f.off hhk)
                have h1 : (0 : Int) ≤ (h : Int) := by omega
                have h2 : (h : Int) < (M : Int) := by omega
                clear hc
                generalize ks[h] = x at *
                by_cases hin : f.off ∈ ks.take h
                · rw [decide_eq_true hin] at hat ⊢
                  go_wp2_with fail
                  go_quiet (fail)
                  go_wp2_with fail
                  go_roundw
                  case rel => exact ⟨h + 1, by go_num, by omega, veq_bool (by rw [hat.out]; rfl), belowN hnz _⟩
                  case measure => simp [intOf]; omega
                · rw [decide_eq_false hin] at hat ⊢
                  go_wp2_with fail
                  go_quiet (fail)
                  go_wp2_with fail
                  go_roundw
                  case rel => exact ⟨h + 1, by go_num, by omega, veq_bool (by rw [hat.out]; by_cases e : x = f.off <;> simp [e]), belowN hnz _⟩
                  case measure => simp [intOf]; omega
              · have hhe : h = ks.length := by have := HKL.out; omega
                have hhM : h = M := by have := HKL.out; omega
                have hown2 := own_keptBy hown (Kept.ofBelow hnz []) (away_nil _)
                obtain ⟨y0', y1, y2, y3, y4⟩ := (show FndAt _ b (off + j * 5) f from ⟨x0, x1, x2, x3, x4⟩).keep fun i => hnz.cell (p := ⟨b, i, none⟩) hlt
                have hdec : decide (f.off ∈ ks.take h) = decide (f.off ∈ ks) := by rw [hhe, List.take_length]
                rw [hdec]
                clear hhe hdec
                subst hhM
                by_cases hin : f.off ∈ ks
                · rw [decide_eq_true hin]
                  have hsz := hnw.size
                  have o3 := World.ownsRow.alloc hown2 (.cells f.cells.toArray 26)
                  go_wp2_with (at_builtin; refine wpList_append_own _ rfl _ _ 22 rfl w5.heap.size 26 i0 _ 5 56 Try.underlying22 hi0 hz0 hz1 hz2 rfl (by decide) _ _ _ rfl o3 ⟨wr.heap.size, 0, none⟩ 1 1 f.cells rfl rfl (news_fnd f rfl) (by simp [Value.oneCell', Fnd.cells, Rec.cells]) (by unfold maxLen; omega) (by omega) (by simp; omega) ?_)
                  intro v7 w7 o7 g7 _
                  have G7 := Kept.below (below_all (o := .cells f.cells.toArray 26) hnw) (Kept.ofGrown g7) (by intro x hx; simp only [Option.mem_toList] at hx; exact (o3.lt x hx).1) (by simp; omega)
                  clear g7 o3 hown hown2
                  go_wp2_with fail
                  go_roundw
                  case rel => exact ⟨j + 1, by go_num, by omega, by rw [hft.out, if_pos hin, List.flatMap_append, List.length_append]; simpa using o7, G7⟩
                  case measure => simp [intOf]; omega
                · rw [decide_eq_false hin]
                  go_wp2_with fail
                  go_roundw
                  case rel => exact ⟨j + 1, by go_num, by omega, by rw [hft.out, if_neg hin, List.append_nil]; exact hown2, hnw⟩
                  case measure => simp [intOf]; omega
          · obtain rfl : j = L.length := by omega
            rw [List.take_length] at hown
            have S6 := S5.below hny
            have J6 := J5.below hny
            have G6 := below_any (Nat.le_refl _) G5 hny
            have hnc : Away cs2 u12 := fun b hb hm => by have h1 := (hown.lt b hb).1; have h2 := S5.lt b hm; omega
            have cS := Lib.hid (span5 p cs2 7 ((7 : Int) + (k : Int)) (keeps ks L) wr S6)
            obtain ⟨wa, wc, rfl⟩ := own_form hown
            go_wp2_with fail
            refine cS.out.use ?_
            intro w7 B7
            have S7 := S6.below B7
            have J7 := J6.below B7
            have G7 := below_any (Nat.le_refl _) G6 B7
            have hwn := (fnds_own hown).below B7
            obtain ⟨K, hK⟩ : ∃ K, keeps ks L = K := ⟨_, rfl⟩
            rw [hK] at S7 hwn hkk hris hge hnc
            simp only [hK]
            have hkl40 : K.length ≤ 40 := by omega
            have hvl : L.length = k := HVL.out
            clear cS S6 J6 G6 B7 hown S5 J5 G5 V6 hny hK hkk
            go_wp2_with fail
            refine (cv _).use ?_
            intro w8 B8
            have S8 := S7.below B8
            have hwn8 := hwn.below B8
            have hs8 := S8.lt
            have hr8 := recs_lit (w := w8) [rv] #[.bool false, .string (S []), .bool false, .string (S [118])] rfl (by decide)
            have ca := Lib.hid (append5_ok p cs2 7 ((7 : Int) + (k : Int)) K _ [rv] _ (S8.below (below_all (Below.refl _ _))) hr8 (away_new hs8) (bd_small _ (by decide +kernel)) (by omega) (by
              unfold aerr
              rw [if_neg (by decide +kernel), if_neg (by simp; omega)]))
            have G9 := below_all (o := .cells #[.bool false, .string (S []), .bool false, .string (S [118])] 24) (below_any (Nat.le_refl _) G7 B8)
            have hwn9 := hwn8.alloc (.cells #[.bool false, .string (S []), .bool false, .string (S [118])] 24)
            clear S7 S8 hwn hwn8 hs8 hr8 G7 B8 J7
            go_wp2_with fail
            refine ca.out.use ?_
            intro cs3 w9 S9 K9 N9
            have hwn10 := hwn9.kept K9 hnc
            have G10 := Kept.below G9 K9 M5 G9.size
            have S9 : SegAt w9 p cs3 7 (7 + (k : Int) + (([rv] : List Rec).length : Nat)) (K ++ [⟨7 + k, rv⟩]) := S9
            have cR := Lib.hid (read5 p cs3 7 _ _ 0 (K.length : Int) w9 S9 hris.out (by simp; omega))
            rw [reads_all hge.out rfl] at cR
            have e1 : IntKind.i64.wrap ((k : Int) - (K.length : Int)) = (k : Int) - (K.length : Int) := by rw [IntKind.wrap_i64]; omega
            have e3 : IntKind.i64.wrap ((7 : Int) + (k : Int)) = (7 : Int) + (k : Int) := by rw [IntKind.wrap_i64]; omega
            clear ca K9 N9 hwn9 G9 S9
            go_wp2_with fail
            refine cR.out.use ?_
            intro vr w10 O10 B10
            have hwn11 := hwn10.below B10
            have G11 := below_any (Nat.le_refl _) G10 B10
            have cF := Lib.hid ((found5 vr _ K K w10 (fnds_own O10) hwn11 (by omega) (by omega)).cast (v' := .bool true) (by simp))
            clear cR O10 B10 hwn10 G10
            go_wp2_with fail
            refine cF.out.use ?_
            intro w11 B11
            go_wp2_with fail
            refine (fixed5 _).use ?_
            intro w12 B12
            go_wp2_with fail
            exact finB hR (below_any (Nat.le_refl _) (below_any (Nat.le_refl _) G11 B11) B12) rfl
      · have i1 : (ks0.length : Int) ≤ (cap : Int) := by omega
        have i2 : ((60 : Int) < (ks0.length : Int)) = False := eq_false (by omega)
        go_wp2_with fail
        obtain ⟨M, hM⟩ : ∃ M : Nat, ks0.length = M := ⟨_, rfl⟩
        have hM2 : M ≤ ks0.length ∧ M ≤ 60 := by omega
        rw [show Value.slice a ks0.length cap = Value.slice a M cap by rw [hM]]
        clear hM i1 i2 h60
        have V5 := nums_take V4.out hM2.1
        obtain ⟨ks, hks⟩ : ∃ ks, ks0.take M = ks := ⟨_, rfl⟩
        have hksl : ks.length = M := by rw [← hks, List.length_take]; omega
        have hwf : ∀ n ∈ ks, (Lit.int .i64 n).wf = true := fun n hn => HKS.out n (List.mem_of_mem_take (by rw [hks]; exact hn))
        rw [hks] at V5
        have cK := Lib.hid (keep5 p cs 7 ((7 : Int) + (k : Int)) (vs 7 k) _ ks w4 S4.out V5 hwf (by omega) (by rw [vs_len]; omega) (vs_wf (by omega)))
        have HKS2 := Lib.hid hks
        clear hks V5 hwf
        refine cK.out.use ?_
        intro cs2 w5 S5 K5 N5
        have J5 := J4.out.kept K5 aw4
        have G5 := Kept.below G4 K5 hcs G4.size
        have V6 : NumsIn w5 (.slice a M cap) ks := HKS2.out ▸ nums_take (HV.out.below G5) hM2.1
        have M5 : ∀ x ∈ cs2, w.heap.size ≤ x := fun x hx => (N5 x hx).elim (hcs x) fun h => Nat.le_trans G4.size h
        have hvl := vs_len 7 k
        have hvg := Lib.hid (vs_get 7 k)
        have hkk := keeps_len ks (vs 7 k)
        have hris := Lib.hid (keeps_rising ks k)
        have hge := Lib.hid (keeps_ge ks k)
        clear J4 V4 S4 K5 N5 G4 aw4 cK hcs
        generalize vs 7 k = L at *
        have o0 : (w5.alloc (.cells #[] 26)).ownsRow w5.heap.size 26 5 (.slice (some ⟨w5.heap.size, 0, none⟩) 0 0) 0 [] := World.ownsRow_made w5 #[] 0 (Nat.le_refl _) (by omega) rfl
        obtain ⟨i0, hi0, hz0, hz1, hz2⟩ := info_parts fndInfo
        have HVL := Lib.hid hvl
        have HKL := Lib.hid hksl
        have hLl : L.length ≤ 40 := by omega
        clear hvl hksl
        go_wp2_with fail
        go_loopw [12, 13, 14, 15] (fun (v12 v13 v14 v15 : Value) (W : World) => ∃ (j : Nat), v13 = .int .i64 (j : Int) ∧ j ≤ L.length ∧ W.ownsRow w5.heap.size 26 5 v12 (keeps ks (L.take j)).length ((keeps ks (L.take j)).flatMap Fnd.cells) ∧ Below w5.heap.size w5 W) (fun (v12 v13 v14 v15 : Value) (W : World) => (L.length - intOf v13).toNat)
        case atStart => exact ⟨0, rfl, by omega, o0, below_all (Below.refl _ _)⟩
        case round =>
          obtain ⟨j, rfl, hj, hown, hny⟩ := hrel
          by_cases hjl : j < L.length
          · rcases J5.below hny with ⟨h, _⟩ | ⟨b, off, cap2, hsl, hcap2, hne, hlt, hc⟩
            · rw [h] at hjl; simp at hjl
            simp only [Value.slice.injEq, true_and] at hsl
            obtain ⟨rfl, rfl⟩ := hsl
            obtain ⟨x0, x1, x2, x3, x4⟩ := hc j hjl
            have hft := Lib.hid (keeps_take ks L hjl)
            have hfl : (keeps ks (L.take j)).length ≤ 40 := by have := keeps_len ks (L.take j); rw [List.length_take] at this; omega
            have hj1 : (0 : Int) ≤ (j : Int) := by omega
            have hj2 : (j : Int) < (L.length : Int) := by omega
            clear hc hne
            generalize L[j] = f at *
            generalize keeps ks (L.take j) = fs at *
            go_wp2_with fail
            go_loopw [14, 15] (fun (v14 v15 : Value) (W : World) => ∃ (h : Nat), v15 = .int .i64 (h : Int) ∧ h ≤ ks.length ∧ v14 = .bool (decide (f.off ∈ ks.take h)) ∧ Below wr.heap.size wr W) (fun (v14 v15 : Value) (W : World) => (ks.length - intOf v15).toNat)
            case atStart => exact ⟨0, rfl, by omega, by simp, Below.refl _ _⟩
            case round =>
              obtain ⟨h, rfl, hh, rfl, hnz⟩ := hrel
              have hnw := below_any (Nat.le_refl _) hny hnz
              have y0 := (hnz.cell (p := ⟨b, off + j * 5, none⟩) hlt).trans x0
              have hlt2 : b < wr.heap.size := Nat.lt_of_lt_of_le hlt hnz.size
              by_cases hhl : h < M
              · have hhk : h < ks.length := by rw [HKL.out]; exact hhl
                rcases V6.below hnw with ⟨e, _⟩ | ⟨b', off', cap3, hsl, _, _, hlt3, hc⟩
                · rw [e] at hhk; simp at hhk
                simp only [Value.slice.injEq] at hsl
                obtain ⟨rfl, _, rfl⟩ := hsl
                have hci := hc h hhk
                have hat := Lib.hid (any_take ks f.off hhk)
                have h1 : (0 : Int) ≤ (h : Int) := by omega
                have h2 : (h : Int) < (M : Int) := by omega
                clear hc
                generalize ks[h] = x at *
                by_cases hin : f.off ∈ ks.take h
                · rw [decide_eq_true hin] at hat ⊢
                  go_wp2_with fail
                  go_quiet (fail)
                  go_wp2_with fail
                  go_roundw
                  case rel => exact ⟨h + 1, by go_num, by omega, veq_bool (by rw [hat.out]; rfl), belowN hnz _⟩
                  case measure => simp [intOf]; omega
                · rw [decide_eq_false hin] at hat ⊢
                  go_wp2_with fail
                  go_quiet (fail)
                  go_wp2_with fail
                  go_roundw
                  case rel => exact ⟨h + 1, by go_num, by omega, veq_bool (by rw [hat.out]; by_cases e : x = f.off <;> simp [e]), belowN hnz _⟩
                  case measure => simp [intOf]; omega
              · have hhe : h = ks.length := by have := HKL.out; omega
                have hhM : h = M := by have := HKL.out; omega
                have hown2 := own_keptBy hown (Kept.ofBelow hnz []) (away_nil _)
                obtain ⟨y0', y1, y2, y3, y4⟩ := (show FndAt _ b (off + j * 5) f from ⟨x0, x1, x2, x3, x4⟩).keep fun i => hnz.cell (p := ⟨b, i, none⟩) hlt
                have hdec : decide (f.off ∈ ks.take h) = decide (f.off ∈ ks) := by rw [hhe, List.take_length]
                rw [hdec]
                clear hhe hdec
                subst hhM
                by_cases hin : f.off ∈ ks
                · rw [decide_eq_true hin]
                  have hsz := hnw.size
                  have o3 := World.ownsRow.alloc hown2 (.cells f.cells.toArray 26)
                  go_wp2_with (at_builtin; refine wpList_append_own _ rfl _ _ 22 rfl w5.heap.size 26 i0 _ 5 56 Try.underlying22 hi0 hz0 hz1 hz2 rfl (by decide) _ _ _ rfl o3 ⟨wr.heap.size, 0, none⟩ 1 1 f.cells rfl rfl (news_fnd f rfl) (by simp [Value.oneCell', Fnd.cells, Rec.cells]) (by unfold maxLen; omega) (by omega) (by simp; omega) ?_)
                  intro v7 w7 o7 g7 _
                  have G7 := Kept.below (below_all (o := .cells f.cells.toArray 26) hnw) (Kept.ofGrown g7) (by intro x hx; simp only [Option.mem_toList] at hx; exact (o3.lt x hx).1) (by simp; omega)
                  clear g7 o3 hown hown2
                  go_wp2_with fail
                  go_roundw
                  case rel => exact ⟨j + 1, by go_num, by omega, by rw [hft.out, if_pos hin, List.flatMap_append, List.length_append]; simpa using o7, G7⟩
                  case measure => simp [intOf]; omega
                · rw [decide_eq_false hin]
                  go_wp2_with fail
                  go_roundw
                  case rel => exact ⟨j + 1, by go_num, by omega, by rw [hft.out, if_neg hin, List.append_nil]; exact hown2, hnw⟩
                  case measure => simp [intOf]; omega
          · obtain rfl : j = L.length := by omega
            rw [List.take_length] at hown
            have S6 := S5.below hny
            have J6 := J5.below hny
            have G6 := below_any (Nat.le_refl _) G5 hny
            have hnc : Away cs2 u12 := fun b hb hm => by have h1 := (hown.lt b hb).1; have h2 := S5.lt b hm; omega
            have cS := Lib.hid (span5 p cs2 7 ((7 : Int) + (k : Int)) (keeps ks L) wr S6)
            obtain ⟨wa, wc, rfl⟩ := own_form hown
            go_wp2_with fail
            refine cS.out.use ?_
            intro w7 B7
            have S7 := S6.below B7
            have J7 := J6.below B7
            have G7 := below_any (Nat.le_refl _) G6 B7
            have hwn := (fnds_own hown).below B7
            obtain ⟨K, hK⟩ : ∃ K, keeps ks L = K := ⟨_, rfl⟩
            rw [hK] at S7 hwn hkk hris hge hnc
            simp only [hK]
            have hkl40 : K.length ≤ 40 := by omega
            have hvl : L.length = k := HVL.out
            clear cS S6 J6 G6 B7 hown S5 J5 G5 V6 hny hK hkk
            go_wp2_with fail
            refine (cv _).use ?_
            intro w8 B8
            have S8 := S7.below B8
            have hwn8 := hwn.below B8
            have hs8 := S8.lt
            have hr8 := recs_lit (w := w8) [rv] #[.bool false, .string (S []), .bool false, .string (S [118])] rfl (by decide)
            have ca := Lib.hid (append5_ok p cs2 7 ((7 : Int) + (k : Int)) K _ [rv] _ (S8.below (below_all (Below.refl _ _))) hr8 (away_new hs8) (bd_small _ (by decide +kernel)) (by omega) (by
              unfold aerr
              rw [if_neg (by decide +kernel), if_neg (by simp; omega)]))
            have G9 := below_all (o := .cells #[.bool false, .string (S []), .bool false, .string (S [118])] 24) (below_any (Nat.le_refl _) G7 B8)
            have hwn9 := hwn8.alloc (.cells #[.bool false, .string (S []), .bool false, .string (S [118])] 24)
            clear S7 S8 hwn hwn8 hs8 hr8 G7 B8 J7
            go_wp2_with fail
            refine ca.out.use ?_
            intro cs3 w9 S9 K9 N9
            have hwn10 := hwn9.kept K9 hnc
            have G10 := Kept.below G9 K9 M5 G9.size
            have S9 : SegAt w9 p cs3 7 (7 + (k : Int) + (([rv] : List Rec).length : Nat)) (K ++ [⟨7 + k, rv⟩]) := S9
            have cR := Lib.hid (read5 p cs3 7 _ _ 0 (K.length : Int) w9 S9 hris.out (by simp; omega))
            rw [reads_all hge.out rfl] at cR
            have e1 : IntKind.i64.wrap ((k : Int) - (K.length : Int)) = (k : Int) - (K.length : Int) := by rw [IntKind.wrap_i64]; omega
            have e3 : IntKind.i64.wrap ((7 : Int) + (k : Int)) = (7 : Int) + (k : Int) := by rw [IntKind.wrap_i64]; omega
            clear ca K9 N9 hwn9 G9 S9
            go_wp2_with fail
            refine cR.out.use ?_
            intro vr w10 O10 B10
            have hwn11 := hwn10.below B10
            have G11 := below_any (Nat.le_refl _) G10 B10
            have cF := Lib.hid ((found5 vr _ K K w10 (fnds_own O10) hwn11 (by omega) (by omega)).cast (v' := .bool true) (by simp))
            clear cR O10 B10 hwn10 G10
            go_wp2_with fail
            refine cF.out.use ?_
            intro w11 B11
            go_wp2_with fail
            refine (fixed5 _).use ?_
            intro w12 B12
            go_wp2_with fail
            exact finB hR (below_any (Nat.le_refl _) (below_any (Nat.le_refl _) G11 B11) B12) rfl
end Go.Proofs.Ytkgpckfaghpgmaa.segmentKeeps
