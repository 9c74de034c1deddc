/-
  The walk of PlogRetains.
-/
import Derived.Test.YtkfglnhapcceaaaLogY
import Derived.Test.YtkfglnhapcceaaaLogZ
import Derived.Test.YtkfglnhapcceaaaFix6
set_option linter.unusedVariables false
set_option linter.unusedSimpArgs false
namespace Go.Proofs.Ytkfglnhapcceaaa.plogRetains
open Go.RowKit
attribute [local go_sem] ByteArray.extract_mk ByteArray.mk_append_mk

theorem dall_len : ∀ {D : List Sd}, (∀ s ∈ D, s.l.length ≤ 64) → (dall D).length ≤ 64 * D.length
  | [], _ => by simp [dall]
  | s :: D, h => by
    have h4 := h s (by simp)
    have h5 := dall_len (D := D) fun t ht => h t (by simp [ht])
    have e : dall (s :: D) = s.l ++ dall D := by simp [dall]
    rw [e, List.length_append, List.length_cons]
    omega
set_option maxHeartbeats 8000000 in
set_option maxRecDepth 100000 in
theorem walk {w : World} (room : Int) (v : Value) (l : List Op6) (before : Int) (_ : -9223372036854775808 ≤ room ∧ room ≤ 9223372036854775807) (hl : Ops6In w v l) (hw : l.length ≤ maxLen) (_ : -9223372036854775808 ≤ before ∧ before ≤ 9223372036854775807) : RetB Try.prog 6 #[.int .i64 room, v, .int .i64 before] w (.bool true) := by
  refine RetB.intro fun R hR => ?_
  obtain ⟨q, hq, hq2⟩ : ∃ q : Nat, bits .and .i64 room 15 = (q : Int) ∧ q < 16 := ⟨_, and_low room 15 4 rfl (by omega), Nat.mod_lt _ (by decide)⟩
  obtain ⟨y, hy, hy2⟩ : ∃ y : Nat, bits .and .i64 before 65535 = (y : Int) ∧ y < 65536 := ⟨_, and_low before 65535 16 rfl (by omega), Nat.mod_lt _ (by decide)⟩
  have HY := Lib.hid hy
  have hll : l.length ≤ 9223372036854775807 := by unfold maxLen at hw; omega
  have HL := Lib.hid hl
  obtain ⟨a, cap, rfl⟩ := hl.form
  clear hl hw hy
  go_enter Try.func6, Try.ntmps6
  go_wp2_with fail
  refine new6_use _ (1 + (q : Int)) (by omega) ?_
  intro g b1 w1 L1 B1 M1
  go_wp2_with fail
  clear hq
  go_loopw [9] (fun (v9 : Value) (W : World) => ∃ (i : Nat) (D : List Sd) (bs : List Nat), i ≤ l.length ∧ i ≤ 30 ∧ v9 = .int .i64 (i : Int) ∧ LogD W g bs (1 + (q : Int)) D ∧ D.length ≤ i + 1 ∧ Hid (dstart D = 0 ∧ dend D ≤ 64 * (i : Int)) ∧ Below w.heap.size w W ∧ (∀ x ∈ bs, w.heap.size ≤ x)) (fun (v9 : Value) (W : World) => (l.length - intOf v9).toNat)
  case atStart => exact ⟨0, _, b1, by omega, by omega, rfl, L1, by simp, Lib.hid ⟨rfl, by show (0 : Int) ≤ 64 * 0; omega⟩, B1, M1⟩
  case round =>
    obtain ⟨i, D, bs, hil, hi40, rfl, hL, hDl, hal, hnx, hM⟩ := hrel
    by_cases hgo : i < l.length ∧ i < 30
    · obtain ⟨h1, h2⟩ := hgo
      rcases HL.out.below hnx with ⟨h, _⟩ | ⟨b, off, cap', hsl, hne, hlt, hc, hq⟩
      · rw [h] at h1; simp at h1
      simp only [Value.slice.injEq, true_and] at hsl
      obtain ⟨rfl, rfl⟩ := hsl
      obtain ⟨c0, c1, c2, c3⟩ := hc i h1
      obtain ⟨hr1, hr2, hr3, _⟩ := hq _ (List.getElem_mem h1)
      generalize l[i] = o at *
      obtain ⟨kind, fr, n5, la, lc, rs⟩ := o
      dsimp only at c0 c1 c2 c3 hr1 hr2 hr3
      have j0 : (0 : Int) ≤ (i : Int) := by omega
      have j1 : (i : Int) < (l.length : Int) := by omega
      have j2 : (i : Int) < 30 := by omega
      have cR := Lib.hid (recsN5 la lc rs wr hr1 hr2 hr3)
      obtain ⟨hcb, hcl⟩ := cut70_bd rs
      have HCB := Lib.hid hcb
      generalize cut70 rs = rs' at *
      have hzw := hnx.size
      have HLD := Lib.hid hL
      clear hc hq hne c0 c1 c2 hr1 hr2 hcb hL
      go_wp2_with fail
      unfold RecsCall at cR
      refine cR.out.mono ?_
      rintro e w3 ⟨v3, rfl, hr, ho, b3⟩
      have L3 := HLD.out.below b3
      have hn3 := Lib.hid (below_any (Nat.le_refl _) hnx b3)
      have hav : Away bs v3 := fun b hb hm => by have h1 := ho b hb; have h2 := HLD.out.lt b hm; omega
      obtain ⟨s1, s2, s3, s4, s5, s6⟩ := app_state (rs := rs') L3.good (by omega)
      have hal2 : Hid (dstart (dapp (1 + (q : Int)) D rs') = 0 ∧ dend (dapp (1 + (q : Int)) D rs') ≤ 64 * ((i + 1 : Nat) : Int)) := Lib.hid (by have := hal.out; omega)
      have hz3 := hn3.out.size
      have cA := Lib.hid (fun R k => append6_use (R := R) L3 (by omega) hr hav HCB.out k)
      obtain ⟨ra, rc, rfl⟩ := hr.form
      generalize dapp (1 + (q : Int)) D rs' = D2 at *
      clear hr hav ho L3 b3 s1 s3 s4 s5 s6 HLD
      go_wp2_with fail
      refine cA.out _ ?_
      intro bs2 w4 L4 K4 C4
      have hM4 : ∀ x ∈ bs2, w.heap.size ≤ x := fun x hx => (C4 x hx).elim (hM x) fun h => Nat.le_trans hz3 h
      have hn4 := Lib.hid (Kept.below hn3.out K4 hM hz3)
      have HL4 := Lib.hid L4
      clear cA K4 C4 L4
      go_wp2_with fail
      go_roundw
      case rel => exact ⟨i + 1, D2, bs2, by omega, by omega, by go_num, HL4.out, by omega, hal2, hn4.out, hM4⟩
      case measure => first | (simp [intOf]; done) | (simp [intOf]; omega)
    · have hG := hL.good
      have hbd := hG.end_bd
      have hst := hal.out.1
      have hen := hal.out.2
      have cF := Lib.hid (fun w => fixed6 w)
      have cS := Lib.hid (span6D hL (by omega))
      obtain ⟨k, hk⟩ : ∃ k : Nat, (y : Int) % (dend D + 1) = (k : Int) := ⟨((y : Int) % (dend D + 1)).toNat, by have := Int.emod_nonneg (y : Int) (show dend D + 1 ≠ 0 by omega); omega⟩
      have hk2 : (k : Int) ≤ dend D := by have := Int.emod_lt_of_pos (y : Int) (show 0 < dend D + 1 by omega); omega
      obtain ⟨r1, r2, r3⟩ := retain_read (n := 1048576) hG (b := (k : Int)) (by omega) hk2
      have hlt := nret_lt hG.2.2.1 (k : Int)
      have hrs := retain_start hG (b := (k : Int)) (by omega)
      have hre := dend_drop hlt
      have hHL := Lib.hid hL
      have hGd := Lib.hid hG
      have hrst := Lib.hid (retain_stop hG (b := (k : Int)))
      clear hL hG hal hst
      obtain ⟨A, hA⟩ : ∃ A, dread (k : Int) 1048576 D = A := ⟨_, rfl⟩
      obtain ⟨nr, hnr⟩ : ∃ n, nret (k : Int) D = n := ⟨_, rfl⟩
      rw [hA] at r3
      have cD := Lib.hid (fun R w2 (h : LogD w2 g bs (1 + (q : Int)) D) kk => read6_use (R := R) (k : Int) 1048576 h (by omega) (by decide) kk)
      rw [hA, r1] at cD
      have hAl : A.length ≤ 100000 := by
        rw [← hA]
        unfold dread
        rw [if_pos r1]
        unfold readsR
        have h1 := List.length_filter_le (fun f : Fnd => decide ((k : Int) ≤ f.off)) (dall D)
        have h2 := dall_len (fun s hs => (hGd.out.mem hs).2.2.2.1)
        rw [List.length_take]
        omega
      have cT := Lib.hid (fun R w4 (h : LogD w4 g bs (1 + (q : Int)) D) kk => retain6_use (R := R) (k : Int) h (by omega) kk)
      rw [hnr] at cT r2 r3 hlt hrs hre hrst
      have hl2 : (D.drop nr).length ≤ 900 := by rw [List.length_drop]; omega
      have cD2 := Lib.hid (fun R w6 bs2 (h : LogD w6 g bs2 (1 + (q : Int)) (D.drop nr)) kk => read6_use (R := R) (k : Int) 1048576 h hl2 (by decide) kk)
      rw [r2, r3] at cD2
      have cS2 := Lib.hid (fun w7 bs2 (h : LogD w7 g bs2 (1 + (q : Int)) (D.drop nr)) => span6D h hl2)
      rw [hre] at cS2
      generalize hd2 : D.drop nr = D2 at *
      generalize hds : dstart D2 = s2 at *
      have HD2 := Lib.hid hd2
      clear hA r1 r2 r3 hnr hre hds hd2
      generalize dend D = d1 at *
      generalize dstart D = d0 at *
      have e1 : IntKind.i64.wrap (d1 + 1) = d1 + 1 := by rw [IntKind.wrap_i64]; omega
      have HK := Lib.hid hk
      clear hk
      by_cases hi1 : i < l.length
      · have j2 : ((i : Int) < (l.length : Int)) = True := eq_true (by omega)
        have j3 : ((i : Int) < 30) = False := eq_false (by omega)
        go_wp2_with fail
        refine cS.out.use ?_
        intro w2 b2
        have hL2 := Lib.hid (hHL.out.below b2)
        have hn2 := Lib.hid (below_any (Nat.le_refl _) hnx b2)
        have hy0 := HY.out
        have hk0 := HK.out
        clear cS b2 hnx hHL
        go_wp2_with fail
        refine cD.out _ _ hL2.out ?_
        intro v13 w3 o3 b3
        have hL3 := Lib.hid (hL2.out.below b3)
        have hn3 := Lib.hid (below_any (Nat.le_refl _) hn2.out b3)
        have fA := Lib.hid (fnds_own o3)
        have aw3 := Lib.hid (show Away bs v13 from fun b hb hm => by have h1 := (o3.lt b hb).1; have h2 := hL2.out.lt b hm; omega)
        obtain ⟨xa, xc, rfl⟩ := own_form o3
        clear cD b3 hL2 hn2 o3 hy0
        go_wp2_with fail
        refine (segs6D hL3.out (by omega)).use ?_
        intro v15 sb w4 SI hsb b4
        have hL4 := Lib.hid (hL3.out.below b4)
        have hn4 := Lib.hid (below_any (Nat.le_refl _) hn3.out b4)
        have fA4 := Lib.hid (fA.out.below b4)
        have hdis : Hid (∀ x ∈ sb, x ∉ bs) := Lib.hid (fun x hx hm => by have h1 := (hsb x hx).1; have h2 := hL3.out.lt x hm; omega)
        have hSI := Lib.hid SI
        obtain ⟨sa, sc, rfl⟩ := SI.form
        clear SI hsb b4 fA hL3 hn3
        go_wp2_with fail
        refine cT.out _ _ hL4.out ?_
        intro bs2 w5 L5 K5 C5
        have fA5 := Lib.hid (fA4.out.kept K5 aw3.out)
        have hSI5 := Lib.hid (hSI.out.kept K5 hdis.out)
        have hz4 := hn4.out.size
        have hn5 := Lib.hid (Kept.below hn4.out K5 hM hz4)
        have hL5 := Lib.hid L5
        clear cT K5 C5 L5 fA4 hSI hL4 hn4 aw3
        go_wp2_with fail
        refine cD2.out _ _ _ hL5.out ?_
        intro v17 w6 o6 b6
        have hL6 := Lib.hid (hL5.out.below b6)
        have hn6 := Lib.hid (below_any (Nat.le_refl _) hn5.out b6)
        have fA6 := Lib.hid (fA5.out.below b6)
        have hSI6 := Lib.hid (hSI5.out.below b6)
        have fB6 := Lib.hid (fnds_own o6)
        obtain ⟨ya, yc, rfl⟩ := own_form o6
        clear cD2 b6 hL5 hn5 fA5 hSI5 o6
        go_wp2_with fail
        refine (cS2.out _ _ hL6.out).use ?_
        intro w7 b7
        have hL7 := Lib.hid (hL6.out.below b7)
        have hn7 := Lib.hid (below_any (Nat.le_refl _) hn6.out b7)
        have hSI7 := Lib.hid (hSI6.out.below b7)
        have cFd := Lib.hid ((found5 _ _ A A _ (fA6.out.below b7) (fB6.out.below b7) hAl hAl).cast (v' := .bool true) (by simp))
        have t1 : ((k : Int) < s2) = False := eq_false (by omega)
        have t2 : ((D.length : Int) ≤ (nr : Int)) = False := eq_false (by omega)
        clear cS2 b7 hL6 hn6 fA6 hSI6 fB6
        go_wp2_with fail
        refine cFd.out.use ?_
        intro w8 b8
        have hL8 := Lib.hid (hL7.out.below b8)
        have hn8 := Lib.hid (below_any (Nat.le_refl _) hn7.out b8)
        have hSI8 := Lib.hid (hSI7.out.below b8)
        clear b8 cFd hL7 hn7 hSI7
        go_wp2_with fail
        obtain ⟨sbk, so, rfl, hslt, hsc, hdr⟩ := hSI8.out.drop hlt
        rw [HD2.out] at hdr
        have hnx9 : w8.cell? ⟨sbk, so + nr * 3 + 1, none⟩ = some (.int .i64 D[nr].next) := by
          rcases hSI8.out with ⟨h, _⟩ | ⟨b, off, cap', lvs, hsl, _, _, _, _, hl, hf⟩
          · rw [h] at hlt; simp at hlt
          simp only [Value.slice.injEq, Option.some.injEq, Addr.mk.injEq, true_and, and_true] at hsl
          obtain ⟨⟨rfl, rfl⟩, rfl⟩ := hsl
          exact (hf nr hlt (by omega)).1.2.1
        have hsn := fun h => hrst.out h hlt
        generalize hne9 : D[nr].next = nx at *
        have P0 : Below w8.heap.size w8 w8.drew := (Below.refl _ _).drew
        have cSg := Lib.hid (fun W (hb : Below w8.heap.size w8 W) => segs6D (hL8.out.below hb) hl2)
        have HDR := Lib.hid hdr
        have cRS := Lib.hid (fun v1 b1 W (h : SegsIn W v1 b1 D2) (hb : Below w8.heap.size w8 W) => rsegs6 v1 _ b1 sb D2 W h (HDR.out.below hb) (by omega) (fun s hs => by
          have h1 := (hL8.out.good.mem hs).2.2.2.1
          omega))
        have HNX9 := Lib.hid (fun W (hb : Below w8.heap.size w8 W) => (hb.cell (p := ⟨sbk, so + nr * 3 + 1, none⟩) hslt).trans hnx9)
        have e5 : (sc = nr) = False := eq_false (by omega)
        have e6 : (nr : Int) ≤ (sc : Int) := by omega
        have e7 : (nr : Int) ≤ (D.length : Int) := by omega
        have e8 : IntKind.i64.wrap ((nr : Int) + 1) = (nr : Int) + 1 := by rw [IntKind.wrap_i64]; omega
        have e9 : (nr : Int) < (D.length : Int) := by omega
        clear hdr hnx9 hne9 hSI8 hk0 t1 t2 e1 hbd hen hrs hlt hAl hl2
        by_cases hlast : nr + 1 = D.length
        · have f1 : ((nr : Int) + 1 == (D.length : Int)) = true := by simp; omega
          have f3 : (nr + 1 = D.length) = True := eq_true hlast
          have f4 : ((nr : Int) + 1 = (D.length : Int)) = True := eq_true (by omega)
          clear hsn hlast
          have hnx0 := HNX9.out _ P0
          refine wp_region_held_drew (S := (fun w' => w'.cell? ⟨sbk, so + nr * 3 + 1, none⟩ = some (.int .i64 nx))) (by kernel_rfl) (by (try dsimp only); go_keep) (fun hHeld => ?_)
          refine wpAnyH_take (i := 0) (v := ?_) rfl (by kernel_rfl) (by kernel_rfl) (by kernel_rfl) (fun _ _ _ h => h) (Or.inl ⟨by rfl, ?_⟩) hHeld ?_
          rotate_left
          · (intro w hSw; (try dsimp only at hSw); go_simp; try with_reducible rfl)
          try simp only [List.getElem_toArray, List.getElem_cons_zero, List.getElem_cons_succ, Act.put, List.setIfInBounds_toArray, List.set_cons_zero, List.set_cons_succ]
          refine wpAnyH_take (i := 2) (v := ?_) rfl (by kernel_rfl) (by kernel_rfl) (by kernel_rfl) (fun _ _ _ h => h) (Or.inl ⟨by rfl, ?_⟩) hHeld ?_
          rotate_left
          · (intro w hSw; (try dsimp only at hSw); go_simp; try with_reducible rfl)
          try simp only [List.getElem_toArray, List.getElem_cons_zero, List.getElem_cons_succ, Act.put, List.setIfInBounds_toArray, List.set_cons_zero, List.set_cons_succ]
          refine wpAnyH_take (i := 3) (v := ?_) rfl (by kernel_rfl) (by kernel_rfl) (by kernel_rfl) (fun _ _ _ h => h) (Or.inl ⟨by rfl, ?_⟩) hHeld ?_
          rotate_left
          · (intro w hSw; (try dsimp only at hSw); go_simp; try with_reducible rfl)
          try simp only [List.getElem_toArray, List.getElem_cons_zero, List.getElem_cons_succ, Act.put, List.setIfInBounds_toArray, List.set_cons_zero, List.set_cons_succ]
          refine wpAnyH_take (i := 4) (v := ?_) rfl (by kernel_rfl) (by kernel_rfl) (by kernel_rfl) (fun _ _ _ h => h) (Or.inl ⟨by rfl, ?_⟩) hHeld ?_
          rotate_left
          · (intro w hSw; (try dsimp only at hSw); go_simp; try with_reducible rfl)
          try simp only [List.getElem_toArray, List.getElem_cons_zero, List.getElem_cons_succ, Act.put, List.setIfInBounds_toArray, List.set_cons_zero, List.set_cons_succ]
          refine wpAnyH_ready (rs := [1]) (by kernel_rfl) (by simp) ?_
          refine AllReadyH.cons rfl (fun K hK => ?_) AllReadyH.nil
          go_simp
          refine (cSg.out _ P0).use ?_
          intro v16 sb2 w10 SI2 hsb2 b10
          have P1 := below_any (Nat.le_refl _) P0 b10
          have cc := HNX9.out _ P1
          obtain ⟨ua, uc, rfl⟩ := SI2.form
          go_wp2_with fail
          refine hK.out _ _ (by (try dsimp only); go_keep) (fun hHeld => ?_)
          clear hK K
          try simp only [List.getElem_toArray, List.getElem_cons_zero, List.getElem_cons_succ, Act.put, List.setIfInBounds_toArray, List.set_cons_zero, List.set_cons_succ]
          refine wpAnyH_ready (rs := [5]) (by kernel_rfl) (by simp) ?_
          refine AllReadyH.cons rfl (fun K hK => ?_) AllReadyH.nil
          go_simp
          refine (cRS.out _ _ _ SI2 P1).use ?_
          intro w11 b11
          have P2 := below_any (Nat.le_refl _) P1 b11
          have cc2 := HNX9.out _ P2
          go_wp2_with fail
          refine hK.out _ _ (by (try dsimp only); go_keep) (fun hHeld => ?_)
          clear hK K
          try simp only [List.getElem_toArray, List.getElem_cons_zero, List.getElem_cons_succ, Act.put, List.setIfInBounds_toArray, List.set_cons_zero, List.set_cons_succ]
          refine wpAnyH_take (i := 6) (v := ?_) rfl (by kernel_rfl) (by kernel_rfl) (by kernel_rfl) (fun _ _ _ h => h) (Or.inl ⟨by rfl, ?_⟩) hHeld ?_
          rotate_left
          · (intro w hSw; (try dsimp only at hSw); go_simp; try with_reducible rfl)
          try simp only [List.getElem_toArray, List.getElem_cons_zero, List.getElem_cons_succ, Act.put, List.setIfInBounds_toArray, List.set_cons_zero, List.set_cons_succ]
          refine wpAnyH_take (i := 7) (v := ?_) rfl (by kernel_rfl) (by kernel_rfl) (by kernel_rfl) (fun _ _ _ h => h) (Or.inl ⟨by rfl, ?_⟩) hHeld ?_
          rotate_left
          · (intro w hSw; (try dsimp only at hSw); go_simp; try with_reducible rfl)
          try simp only [List.getElem_toArray, List.getElem_cons_zero, List.getElem_cons_succ, Act.put, List.setIfInBounds_toArray, List.set_cons_zero, List.set_cons_succ]
          refine wpAnyH_take (i := 8) (v := ?_) rfl (by kernel_rfl) (by kernel_rfl) (by kernel_rfl) (fun _ _ _ h => h) (Or.inl ⟨by rfl, ?_⟩) hHeld ?_
          rotate_left
          · (intro w hSw; (try dsimp only at hSw); go_simp; try with_reducible rfl)
          try simp only [List.getElem_toArray, List.getElem_cons_zero, List.getElem_cons_succ, Act.put, List.setIfInBounds_toArray, List.set_cons_zero, List.set_cons_succ]
          refine wpAnyH_take (i := 9) (v := ?_) rfl (by kernel_rfl) (by kernel_rfl) (by kernel_rfl) (fun _ _ _ h => h) (Or.inl ⟨by rfl, ?_⟩) hHeld ?_
          rotate_left
          · (intro w hSw; (try dsimp only at hSw); go_simp; try with_reducible rfl)
          try simp only [List.getElem_toArray, List.getElem_cons_zero, List.getElem_cons_succ, Act.put, List.setIfInBounds_toArray, List.set_cons_zero, List.set_cons_succ]
          refine wpAnyH_take (i := 10) (v := ?_) rfl (by kernel_rfl) (by kernel_rfl) (by kernel_rfl) (fun _ _ _ h => h) (Or.inl ⟨by rfl, ?_⟩) hHeld ?_
          rotate_left
          · (intro w hSw; (try dsimp only at hSw); go_simp; try with_reducible rfl)
          try simp only [List.getElem_toArray, List.getElem_cons_zero, List.getElem_cons_succ, Act.put, List.setIfInBounds_toArray, List.set_cons_zero, List.set_cons_succ]
          refine wpAnyH_take (i := 11) (v := ?_) rfl (by kernel_rfl) (by kernel_rfl) (by kernel_rfl) (fun _ _ _ h => h) (Or.inl ⟨by rfl, ?_⟩) hHeld ?_
          rotate_left
          · (intro w hSw; (try dsimp only at hSw); go_simp; try with_reducible rfl)
          try simp only [List.getElem_toArray, List.getElem_cons_zero, List.getElem_cons_succ, Act.put, List.setIfInBounds_toArray, List.set_cons_zero, List.set_cons_succ]
          refine wpAnyH_take (i := 12) (v := ?_) rfl (by kernel_rfl) (by kernel_rfl) (by kernel_rfl) (fun _ _ _ h => h) (Or.inl ⟨by rfl, ?_⟩) hHeld ?_
          rotate_left
          · (intro w hSw; (try dsimp only at hSw); go_simp; try with_reducible rfl)
          try simp only [List.getElem_toArray, List.getElem_cons_zero, List.getElem_cons_succ, Act.put, List.setIfInBounds_toArray, List.set_cons_zero, List.set_cons_succ]
          refine wpAnyH_take (i := 13) (v := undef) rfl (by kernel_rfl) (by kernel_rfl) (by kernel_rfl) (fun _ _ _ h => h) (Or.inr ⟨by rfl, rfl⟩) hHeld ?_
          try simp only [List.getElem_toArray, List.getElem_cons_zero, List.getElem_cons_succ, Act.put, List.setIfInBounds_toArray, List.set_cons_zero, List.set_cons_succ]
          refine wpAnyH_take (i := 14) (v := undef) rfl (by kernel_rfl) (by kernel_rfl) (by kernel_rfl) (fun _ _ _ h => h) (Or.inr ⟨by rfl, rfl⟩) hHeld ?_
          try simp only [List.getElem_toArray, List.getElem_cons_zero, List.getElem_cons_succ, Act.put, List.setIfInBounds_toArray, List.set_cons_zero, List.set_cons_succ]
          refine wpAnyH_take (i := 15) (v := undef) rfl (by kernel_rfl) (by kernel_rfl) (by kernel_rfl) (fun _ _ _ h => h) (Or.inr ⟨by rfl, rfl⟩) hHeld ?_
          try simp only [List.getElem_toArray, List.getElem_cons_zero, List.getElem_cons_succ, Act.put, List.setIfInBounds_toArray, List.set_cons_zero, List.set_cons_succ]
          refine wpAnyH_take (i := 16) (v := undef) rfl (by kernel_rfl) (by kernel_rfl) (by kernel_rfl) (fun _ _ _ h => h) (Or.inr ⟨by rfl, rfl⟩) hHeld ?_
          try simp only [List.getElem_toArray, List.getElem_cons_zero, List.getElem_cons_succ, Act.put, List.setIfInBounds_toArray, List.set_cons_zero, List.set_cons_succ]
          refine wpAnyH_take (i := 17) (v := undef) rfl (by kernel_rfl) (by kernel_rfl) (by kernel_rfl) (fun _ _ _ h => h) (Or.inr ⟨by rfl, rfl⟩) hHeld ?_
          try simp only [List.getElem_toArray, List.getElem_cons_zero, List.getElem_cons_succ, Act.put, List.setIfInBounds_toArray, List.set_cons_zero, List.set_cons_succ]
          refine wpAnyH_take (i := 18) (v := undef) rfl (by kernel_rfl) (by kernel_rfl) (by kernel_rfl) (fun _ _ _ h => h) (Or.inr ⟨by rfl, rfl⟩) hHeld ?_
          try simp only [List.getElem_toArray, List.getElem_cons_zero, List.getElem_cons_succ, Act.put, List.setIfInBounds_toArray, List.set_cons_zero, List.set_cons_succ]
          refine wpAnyH_take (i := 19) (v := undef) rfl (by kernel_rfl) (by kernel_rfl) (by kernel_rfl) (fun _ _ _ h => h) (Or.inr ⟨by rfl, rfl⟩) hHeld ?_
          try simp only [List.getElem_toArray, List.getElem_cons_zero, List.getElem_cons_succ, Act.put, List.setIfInBounds_toArray, List.set_cons_zero, List.set_cons_succ]
          refine wpAnyH_take (i := 20) (v := ?_) rfl (by kernel_rfl) (by kernel_rfl) (by kernel_rfl) (fun _ _ _ h => h) (Or.inl ⟨by rfl, ?_⟩) hHeld ?_
          rotate_left
          · (intro w hSw; (try dsimp only at hSw); go_simp; try with_reducible rfl)
          try simp only [List.getElem_toArray, List.getElem_cons_zero, List.getElem_cons_succ, Act.put, List.setIfInBounds_toArray, List.set_cons_zero, List.set_cons_succ]
          refine wpAnyH_take (i := 21) (v := ?_) rfl (by kernel_rfl) (by kernel_rfl) (by kernel_rfl) (fun _ _ _ h => h) (Or.inl ⟨by rfl, ?_⟩) hHeld ?_
          rotate_left
          · (intro w hSw; (try dsimp only at hSw); go_simp; try with_reducible rfl)
          try simp only [List.getElem_toArray, List.getElem_cons_zero, List.getElem_cons_succ, Act.put, List.setIfInBounds_toArray, List.set_cons_zero, List.set_cons_succ]
          refine wpAnyH_take (i := 22) (v := ?_) rfl (by kernel_rfl) (by kernel_rfl) (by kernel_rfl) (fun _ _ _ h => h) (Or.inl ⟨by rfl, ?_⟩) hHeld ?_
          rotate_left
          · (intro w hSw; (try dsimp only at hSw); go_simp; try with_reducible rfl)
          try simp only [List.getElem_toArray, List.getElem_cons_zero, List.getElem_cons_succ, Act.put, List.setIfInBounds_toArray, List.set_cons_zero, List.set_cons_succ]
          refine wpAnyH_ready (rs := [23]) (by kernel_rfl) (by simp) ?_
          refine AllReadyH.cons rfl (fun K hK => ?_) AllReadyH.nil
          go_simp
          refine (cF.out _).use ?_
          intro w12 b12
          have P3 := below_any (Nat.le_refl _) P2 b12
          have cc3 := HNX9.out _ P3
          go_wp2_with fail
          refine hK.out _ _ (by (try dsimp only); go_keep) (fun hHeld => ?_)
          clear hK K
          try simp only [List.getElem_toArray, List.getElem_cons_zero, List.getElem_cons_succ, Act.put, List.setIfInBounds_toArray, List.set_cons_zero, List.set_cons_succ]
          refine wpAnyH_take (i := 24) (v := ?_) rfl (by kernel_rfl) (by kernel_rfl) (by kernel_rfl) (fun _ _ _ h => h) (Or.inl ⟨by rfl, ?_⟩) hHeld ?_
          rotate_left
          · (intro w hSw; (try dsimp only at hSw); go_simp; try with_reducible rfl)
          try simp only [List.getElem_toArray, List.getElem_cons_zero, List.getElem_cons_succ, Act.put, List.setIfInBounds_toArray, List.set_cons_zero, List.set_cons_succ]
          refine wpAnyH_take (i := 25) (v := ?_) rfl (by kernel_rfl) (by kernel_rfl) (by kernel_rfl) (fun _ _ _ h => h) (Or.inl ⟨by rfl, ?_⟩) hHeld ?_
          rotate_left
          · (intro w hSw; (try dsimp only at hSw); go_simp; try with_reducible rfl)
          try simp only [List.getElem_toArray, List.getElem_cons_zero, List.getElem_cons_succ, Act.put, List.setIfInBounds_toArray, List.set_cons_zero, List.set_cons_succ]
          refine wpAnyH_done (by kernel_rfl) ?_ _
          all_goals go_wp2_with fail
          all_goals exact finB hR (below_any (Nat.le_refl _) hn8.out P3) rfl
        · have f1 : ((nr : Int) + 1 == (D.length : Int)) = false := by simp; omega
          have f2 : ((k : Int) < nx) = True := eq_true (hsn hlast)
          have f3 : (nr + 1 = D.length) = False := eq_false hlast
          have f4 : ((nr : Int) + 1 = (D.length : Int)) = False := eq_false (by omega)
          clear hsn hlast
          have hnx0 := HNX9.out _ P0
          go_region_held3 (fun w' => w'.cell? ⟨sbk, so + nr * 3 + 1, none⟩ = some (.int .i64 nx)) (go_keep) (first | (go_at_call 22; refine (cSg.out _ P0).use ?_; intro v16 sb2 w10 SI2 hsb2 b10; have P1 := below_any (Nat.le_refl _) P0 b10; have cc := HNX9.out _ P1; obtain ⟨ua, uc, rfl⟩ := SI2.form) | (go_at_call 24; refine (cRS.out _ _ _ SI2 P1).use ?_; intro w11 b11; have P2 := below_any (Nat.le_refl _) P1 b11; have cc := HNX9.out _ P2) | (go_at_call 13; refine (cF.out _).use ?_; intro w12 b12; have P3 := below_any (Nat.le_refl _) P2 b12; have cc := HNX9.out _ P3))
          all_goals go_wp2_with fail
          all_goals exact finB hR (below_any (Nat.le_refl _) hn8.out P3) rfl
      · have j2 : ((i : Int) < (l.length : Int)) = False := eq_false (by omega)
        go_wp2_with fail
        refine cS.out.use ?_
        intro w2 b2
        have hL2 := Lib.hid (hHL.out.below b2)
        have hn2 := Lib.hid (below_any (Nat.le_refl _) hnx b2)
        have hy0 := HY.out
        have hk0 := HK.out
        clear cS b2 hnx hHL
        go_wp2_with fail
        refine cD.out _ _ hL2.out ?_
        intro v13 w3 o3 b3
        have hL3 := Lib.hid (hL2.out.below b3)
        have hn3 := Lib.hid (below_any (Nat.le_refl _) hn2.out b3)
        have fA := Lib.hid (fnds_own o3)
        have aw3 := Lib.hid (show Away bs v13 from fun b hb hm => by have h1 := (o3.lt b hb).1; have h2 := hL2.out.lt b hm; omega)
        obtain ⟨xa, xc, rfl⟩ := own_form o3
        clear cD b3 hL2 hn2 o3 hy0
        go_wp2_with fail
        refine (segs6D hL3.out (by omega)).use ?_
        intro v15 sb w4 SI hsb b4
        have hL4 := Lib.hid (hL3.out.below b4)
        have hn4 := Lib.hid (below_any (Nat.le_refl _) hn3.out b4)
        have fA4 := Lib.hid (fA.out.below b4)
        have hdis : Hid (∀ x ∈ sb, x ∉ bs) := Lib.hid (fun x hx hm => by have h1 := (hsb x hx).1; have h2 := hL3.out.lt x hm; omega)
        have hSI := Lib.hid SI
        obtain ⟨sa, sc, rfl⟩ := SI.form
        clear SI hsb b4 fA hL3 hn3
        go_wp2_with fail
        refine cT.out _ _ hL4.out ?_
        intro bs2 w5 L5 K5 C5
        have fA5 := Lib.hid (fA4.out.kept K5 aw3.out)
        have hSI5 := Lib.hid (hSI.out.kept K5 hdis.out)
        have hz4 := hn4.out.size
        have hn5 := Lib.hid (Kept.below hn4.out K5 hM hz4)
        have hL5 := Lib.hid L5
        clear cT K5 C5 L5 fA4 hSI hL4 hn4 aw3
        go_wp2_with fail
        refine cD2.out _ _ _ hL5.out ?_
        intro v17 w6 o6 b6
        have hL6 := Lib.hid (hL5.out.below b6)
        have hn6 := Lib.hid (below_any (Nat.le_refl _) hn5.out b6)
        have fA6 := Lib.hid (fA5.out.below b6)
        have hSI6 := Lib.hid (hSI5.out.below b6)
        have fB6 := Lib.hid (fnds_own o6)
        obtain ⟨ya, yc, rfl⟩ := own_form o6
        clear cD2 b6 hL5 hn5 fA5 hSI5 o6
        go_wp2_with fail
        refine (cS2.out _ _ hL6.out).use ?_
        intro w7 b7
        have hL7 := Lib.hid (hL6.out.below b7)
        have hn7 := Lib.hid (below_any (Nat.le_refl _) hn6.out b7)
        have hSI7 := Lib.hid (hSI6.out.below b7)
        have cFd := Lib.hid ((found5 _ _ A A _ (fA6.out.below b7) (fB6.out.below b7) hAl hAl).cast (v' := .bool true) (by simp))
        have t1 : ((k : Int) < s2) = False := eq_false (by omega)
        have t2 : ((D.length : Int) ≤ (nr : Int)) = False := eq_false (by omega)
        clear cS2 b7 hL6 hn6 fA6 hSI6 fB6
        go_wp2_with fail
        refine cFd.out.use ?_
        intro w8 b8
        have hL8 := Lib.hid (hL7.out.below b8)
        have hn8 := Lib.hid (below_any (Nat.le_refl _) hn7.out b8)
        have hSI8 := Lib.hid (hSI7.out.below b8)
        clear b8 cFd hL7 hn7 hSI7
        go_wp2_with fail
        obtain ⟨sbk, so, rfl, hslt, hsc, hdr⟩ := hSI8.out.drop hlt
        rw [HD2.out] at hdr
        have hnx9 : w8.cell? ⟨sbk, so + nr * 3 + 1, none⟩ = some (.int .i64 D[nr].next) := by
          rcases hSI8.out with ⟨h, _⟩ | ⟨b, off, cap', lvs, hsl, _, _, _, _, hl, hf⟩
          · rw [h] at hlt; simp at hlt
          simp only [Value.slice.injEq, Option.some.injEq, Addr.mk.injEq, true_and, and_true] at hsl
          obtain ⟨⟨rfl, rfl⟩, rfl⟩ := hsl
          exact (hf nr hlt (by omega)).1.2.1
        have hsn := fun h => hrst.out h hlt
        generalize hne9 : D[nr].next = nx at *
        have P0 : Below w8.heap.size w8 w8.drew := (Below.refl _ _).drew
        have cSg := Lib.hid (fun W (hb : Below w8.heap.size w8 W) => segs6D (hL8.out.below hb) hl2)
        have HDR := Lib.hid hdr
        have cRS := Lib.hid (fun v1 b1 W (h : SegsIn W v1 b1 D2) (hb : Below w8.heap.size w8 W) => rsegs6 v1 _ b1 sb D2 W h (HDR.out.below hb) (by omega) (fun s hs => by
          have h1 := (hL8.out.good.mem hs).2.2.2.1
          omega))
        have HNX9 := Lib.hid (fun W (hb : Below w8.heap.size w8 W) => (hb.cell (p := ⟨sbk, so + nr * 3 + 1, none⟩) hslt).trans hnx9)
        have e5 : (sc = nr) = False := eq_false (by omega)
        have e6 : (nr : Int) ≤ (sc : Int) := by omega
        have e7 : (nr : Int) ≤ (D.length : Int) := by omega
        have e8 : IntKind.i64.wrap ((nr : Int) + 1) = (nr : Int) + 1 := by rw [IntKind.wrap_i64]; omega
        have e9 : (nr : Int) < (D.length : Int) := by omega
        clear hdr hnx9 hne9 hSI8 hk0 t1 t2 e1 hbd hen hrs hlt hAl hl2
        by_cases hlast : nr + 1 = D.length
        · have f1 : ((nr : Int) + 1 == (D.length : Int)) = true := by simp; omega
          have f3 : (nr + 1 = D.length) = True := eq_true hlast
          have f4 : ((nr : Int) + 1 = (D.length : Int)) = True := eq_true (by omega)
          clear hsn hlast
          have hnx0 := HNX9.out _ P0
          refine wp_region_held_drew (S := (fun w' => w'.cell? ⟨sbk, so + nr * 3 + 1, none⟩ = some (.int .i64 nx))) (by kernel_rfl) (by (try dsimp only); go_keep) (fun hHeld => ?_)
          refine wpAnyH_take (i := 0) (v := ?_) rfl (by kernel_rfl) (by kernel_rfl) (by kernel_rfl) (fun _ _ _ h => h) (Or.inl ⟨by rfl, ?_⟩) hHeld ?_
          rotate_left
          · (intro w hSw; (try dsimp only at hSw); go_simp; try with_reducible rfl)
          try simp only [List.getElem_toArray, List.getElem_cons_zero, List.getElem_cons_succ, Act.put, List.setIfInBounds_toArray, List.set_cons_zero, List.set_cons_succ]
          refine wpAnyH_take (i := 2) (v := ?_) rfl (by kernel_rfl) (by kernel_rfl) (by kernel_rfl) (fun _ _ _ h => h) (Or.inl ⟨by rfl, ?_⟩) hHeld ?_
          rotate_left
          · (intro w hSw; (try dsimp only at hSw); go_simp; try with_reducible rfl)
          try simp only [List.getElem_toArray, List.getElem_cons_zero, List.getElem_cons_succ, Act.put, List.setIfInBounds_toArray, List.set_cons_zero, List.set_cons_succ]
          refine wpAnyH_take (i := 3) (v := ?_) rfl (by kernel_rfl) (by kernel_rfl) (by kernel_rfl) (fun _ _ _ h => h) (Or.inl ⟨by rfl, ?_⟩) hHeld ?_
          rotate_left
          · (intro w hSw; (try dsimp only at hSw); go_simp; try with_reducible rfl)
          try simp only [List.getElem_toArray, List.getElem_cons_zero, List.getElem_cons_succ, Act.put, List.setIfInBounds_toArray, List.set_cons_zero, List.set_cons_succ]
          refine wpAnyH_take (i := 4) (v := ?_) rfl (by kernel_rfl) (by kernel_rfl) (by kernel_rfl) (fun _ _ _ h => h) (Or.inl ⟨by rfl, ?_⟩) hHeld ?_
          rotate_left
          · (intro w hSw; (try dsimp only at hSw); go_simp; try with_reducible rfl)
          try simp only [List.getElem_toArray, List.getElem_cons_zero, List.getElem_cons_succ, Act.put, List.setIfInBounds_toArray, List.set_cons_zero, List.set_cons_succ]
          refine wpAnyH_ready (rs := [1]) (by kernel_rfl) (by simp) ?_
          refine AllReadyH.cons rfl (fun K hK => ?_) AllReadyH.nil
          go_simp
          refine (cSg.out _ P0).use ?_
          intro v16 sb2 w10 SI2 hsb2 b10
          have P1 := below_any (Nat.le_refl _) P0 b10
          have cc := HNX9.out _ P1
          obtain ⟨ua, uc, rfl⟩ := SI2.form
          go_wp2_with fail
          refine hK.out _ _ (by (try dsimp only); go_keep) (fun hHeld => ?_)
          clear hK K
          try simp only [List.getElem_toArray, List.getElem_cons_zero, List.getElem_cons_succ, Act.put, List.setIfInBounds_toArray, List.set_cons_zero, List.set_cons_succ]
          refine wpAnyH_ready (rs := [5]) (by kernel_rfl) (by simp) ?_
          refine AllReadyH.cons rfl (fun K hK => ?_) AllReadyH.nil
          go_simp
          refine (cRS.out _ _ _ SI2 P1).use ?_
          intro w11 b11
          have P2 := below_any (Nat.le_refl _) P1 b11
          have cc2 := HNX9.out _ P2
          go_wp2_with fail
          refine hK.out _ _ (by (try dsimp only); go_keep) (fun hHeld => ?_)
          clear hK K
          try simp only [List.getElem_toArray, List.getElem_cons_zero, List.getElem_cons_succ, Act.put, List.setIfInBounds_toArray, List.set_cons_zero, List.set_cons_succ]
          refine wpAnyH_take (i := 6) (v := ?_) rfl (by kernel_rfl) (by kernel_rfl) (by kernel_rfl) (fun _ _ _ h => h) (Or.inl ⟨by rfl, ?_⟩) hHeld ?_
          rotate_left
          · (intro w hSw; (try dsimp only at hSw); go_simp; try with_reducible rfl)
          try simp only [List.getElem_toArray, List.getElem_cons_zero, List.getElem_cons_succ, Act.put, List.setIfInBounds_toArray, List.set_cons_zero, List.set_cons_succ]
          refine wpAnyH_take (i := 7) (v := ?_) rfl (by kernel_rfl) (by kernel_rfl) (by kernel_rfl) (fun _ _ _ h => h) (Or.inl ⟨by rfl, ?_⟩) hHeld ?_
          rotate_left
          · (intro w hSw; (try dsimp only at hSw); go_simp; try with_reducible rfl)
          try simp only [List.getElem_toArray, List.getElem_cons_zero, List.getElem_cons_succ, Act.put, List.setIfInBounds_toArray, List.set_cons_zero, List.set_cons_succ]
          refine wpAnyH_take (i := 8) (v := ?_) rfl (by kernel_rfl) (by kernel_rfl) (by kernel_rfl) (fun _ _ _ h => h) (Or.inl ⟨by rfl, ?_⟩) hHeld ?_
          rotate_left
          · (intro w hSw; (try dsimp only at hSw); go_simp; try with_reducible rfl)
          try simp only [List.getElem_toArray, List.getElem_cons_zero, List.getElem_cons_succ, Act.put, List.setIfInBounds_toArray, List.set_cons_zero, List.set_cons_succ]
          refine wpAnyH_take (i := 9) (v := ?_) rfl (by kernel_rfl) (by kernel_rfl) (by kernel_rfl) (fun _ _ _ h => h) (Or.inl ⟨by rfl, ?_⟩) hHeld ?_
          rotate_left
          · (intro w hSw; (try dsimp only at hSw); go_simp; try with_reducible rfl)
          try simp only [List.getElem_toArray, List.getElem_cons_zero, List.getElem_cons_succ, Act.put, List.setIfInBounds_toArray, List.set_cons_zero, List.set_cons_succ]
          refine wpAnyH_take (i := 10) (v := ?_) rfl (by kernel_rfl) (by kernel_rfl) (by kernel_rfl) (fun _ _ _ h => h) (Or.inl ⟨by rfl, ?_⟩) hHeld ?_
          rotate_left
          · (intro w hSw; (try dsimp only at hSw); go_simp; try with_reducible rfl)
          try simp only [List.getElem_toArray, List.getElem_cons_zero, List.getElem_cons_succ, Act.put, List.setIfInBounds_toArray, List.set_cons_zero, List.set_cons_succ]
          refine wpAnyH_take (i := 11) (v := ?_) rfl (by kernel_rfl) (by kernel_rfl) (by kernel_rfl) (fun _ _ _ h => h) (Or.inl ⟨by rfl, ?_⟩) hHeld ?_
          rotate_left
          · (intro w hSw; (try dsimp only at hSw); go_simp; try with_reducible rfl)
          try simp only [List.getElem_toArray, List.getElem_cons_zero, List.getElem_cons_succ, Act.put, List.setIfInBounds_toArray, List.set_cons_zero, List.set_cons_succ]
          refine wpAnyH_take (i := 12) (v := ?_) rfl (by kernel_rfl) (by kernel_rfl) (by kernel_rfl) (fun _ _ _ h => h) (Or.inl ⟨by rfl, ?_⟩) hHeld ?_
          rotate_left
          · (intro w hSw; (try dsimp only at hSw); go_simp; try with_reducible rfl)
          try simp only [List.getElem_toArray, List.getElem_cons_zero, List.getElem_cons_succ, Act.put, List.setIfInBounds_toArray, List.set_cons_zero, List.set_cons_succ]
          refine wpAnyH_take (i := 13) (v := undef) rfl (by kernel_rfl) (by kernel_rfl) (by kernel_rfl) (fun _ _ _ h => h) (Or.inr ⟨by rfl, rfl⟩) hHeld ?_
          try simp only [List.getElem_toArray, List.getElem_cons_zero, List.getElem_cons_succ, Act.put, List.setIfInBounds_toArray, List.set_cons_zero, List.set_cons_succ]
          refine wpAnyH_take (i := 14) (v := undef) rfl (by kernel_rfl) (by kernel_rfl) (by kernel_rfl) (fun _ _ _ h => h) (Or.inr ⟨by rfl, rfl⟩) hHeld ?_
          try simp only [List.getElem_toArray, List.getElem_cons_zero, List.getElem_cons_succ, Act.put, List.setIfInBounds_toArray, List.set_cons_zero, List.set_cons_succ]
          refine wpAnyH_take (i := 15) (v := undef) rfl (by kernel_rfl) (by kernel_rfl) (by kernel_rfl) (fun _ _ _ h => h) (Or.inr ⟨by rfl, rfl⟩) hHeld ?_
          try simp only [List.getElem_toArray, List.getElem_cons_zero, List.getElem_cons_succ, Act.put, List.setIfInBounds_toArray, List.set_cons_zero, List.set_cons_succ]
          refine wpAnyH_take (i := 16) (v := undef) rfl (by kernel_rfl) (by kernel_rfl) (by kernel_rfl) (fun _ _ _ h => h) (Or.inr ⟨by rfl, rfl⟩) hHeld ?_
          try simp only [List.getElem_toArray, List.getElem_cons_zero, List.getElem_cons_succ, Act.put, List.setIfInBounds_toArray, List.set_cons_zero, List.set_cons_succ]
          refine wpAnyH_take (i := 17) (v := undef) rfl (by kernel_rfl) (by kernel_rfl) (by kernel_rfl) (fun _ _ _ h => h) (Or.inr ⟨by rfl, rfl⟩) hHeld ?_
          try simp only [List.getElem_toArray, List.getElem_cons_zero, List.getElem_cons_succ, Act.put, List.setIfInBounds_toArray, List.set_cons_zero, List.set_cons_succ]
          refine wpAnyH_take (i := 18) (v := undef) rfl (by kernel_rfl) (by kernel_rfl) (by kernel_rfl) (fun _ _ _ h => h) (Or.inr ⟨by rfl, rfl⟩) hHeld ?_
          try simp only [List.getElem_toArray, List.getElem_cons_zero, List.getElem_cons_succ, Act.put, List.setIfInBounds_toArray, List.set_cons_zero, List.set_cons_succ]
          refine wpAnyH_take (i := 19) (v := undef) rfl (by kernel_rfl) (by kernel_rfl) (by kernel_rfl) (fun _ _ _ h => h) (Or.inr ⟨by rfl, rfl⟩) hHeld ?_
          try simp only [List.getElem_toArray, List.getElem_cons_zero, List.getElem_cons_succ, Act.put, List.setIfInBounds_toArray, List.set_cons_zero, List.set_cons_succ]
          refine wpAnyH_take (i := 20) (v := ?_) rfl (by kernel_rfl) (by kernel_rfl) (by kernel_rfl) (fun _ _ _ h => h) (Or.inl ⟨by rfl, ?_⟩) hHeld ?_
          rotate_left
          · (intro w hSw; (try dsimp only at hSw); go_simp; try with_reducible rfl)
          try simp only [List.getElem_toArray, List.getElem_cons_zero, List.getElem_cons_succ, Act.put, List.setIfInBounds_toArray, List.set_cons_zero, List.set_cons_succ]
          refine wpAnyH_take (i := 21) (v := ?_) rfl (by kernel_rfl) (by kernel_rfl) (by kernel_rfl) (fun _ _ _ h => h) (Or.inl ⟨by rfl, ?_⟩) hHeld ?_
          rotate_left
          · (intro w hSw; (try dsimp only at hSw); go_simp; try with_reducible rfl)
          try simp only [List.getElem_toArray, List.getElem_cons_zero, List.getElem_cons_succ, Act.put, List.setIfInBounds_toArray, List.set_cons_zero, List.set_cons_succ]
          refine wpAnyH_take (i := 22) (v := ?_) rfl (by kernel_rfl) (by kernel_rfl) (by kernel_rfl) (fun _ _ _ h => h) (Or.inl ⟨by rfl, ?_⟩) hHeld ?_
          rotate_left
          · (intro w hSw; (try dsimp only at hSw); go_simp; try with_reducible rfl)
          try simp only [List.getElem_toArray, List.getElem_cons_zero, List.getElem_cons_succ, Act.put, List.setIfInBounds_toArray, List.set_cons_zero, List.set_cons_succ]
          refine wpAnyH_ready (rs := [23]) (by kernel_rfl) (by simp) ?_
          refine AllReadyH.cons rfl (fun K hK => ?_) AllReadyH.nil
          go_simp
          refine (cF.out _).use ?_
          intro w12 b12
          have P3 := below_any (Nat.le_refl _) P2 b12
          have cc3 := HNX9.out _ P3
          go_wp2_with fail
          refine hK.out _ _ (by (try dsimp only); go_keep) (fun hHeld => ?_)
          clear hK K
          try simp only [List.getElem_toArray, List.getElem_cons_zero, List.getElem_cons_succ, Act.put, List.setIfInBounds_toArray, List.set_cons_zero, List.set_cons_succ]
          refine wpAnyH_take (i := 24) (v := ?_) rfl (by kernel_rfl) (by kernel_rfl) (by kernel_rfl) (fun _ _ _ h => h) (Or.inl ⟨by rfl, ?_⟩) hHeld ?_
          rotate_left
          · (intro w hSw; (try dsimp only at hSw); go_simp; try with_reducible rfl)
          try simp only [List.getElem_toArray, List.getElem_cons_zero, List.getElem_cons_succ, Act.put, List.setIfInBounds_toArray, List.set_cons_zero, List.set_cons_succ]
          refine wpAnyH_take (i := 25) (v := ?_) rfl (by kernel_rfl) (by kernel_rfl) (by kernel_rfl) (fun _ _ _ h => h) (Or.inl ⟨by rfl, ?_⟩) hHeld ?_
          rotate_left
          · (intro w hSw; (try dsimp only at hSw); go_simp; try with_reducible rfl)
          try simp only [List.getElem_toArray, List.getElem_cons_zero, List.getElem_cons_succ, Act.put, List.setIfInBounds_toArray, List.set_cons_zero, List.set_cons_succ]
          refine wpAnyH_done (by kernel_rfl) ?_ _
          all_goals go_wp2_with fail
          all_goals exact finB hR (below_any (Nat.le_refl _) hn8.out P3) rfl
        · have f1 : ((nr : Int) + 1 == (D.length : Int)) = false := by simp; omega
          have f2 : ((k : Int) < nx) = True := eq_true (hsn hlast)
          have f3 : (nr + 1 = D.length) = False := eq_false hlast
          have f4 : ((nr : Int) + 1 = (D.length : Int)) = False := eq_false (by omega)
          clear hsn hlast
          have hnx0 := HNX9.out _ P0
          go_region_held3 (fun w' => w'.cell? ⟨sbk, so + nr * 3 + 1, none⟩ = some (.int .i64 nx)) (go_keep) (first | (go_at_call 22; refine (cSg.out _ P0).use ?_; intro v16 sb2 w10 SI2 hsb2 b10; have P1 := below_any (Nat.le_refl _) P0 b10; have cc := HNX9.out _ P1; obtain ⟨ua, uc, rfl⟩ := SI2.form) | (go_at_call 24; refine (cRS.out _ _ _ SI2 P1).use ?_; intro w11 b11; have P2 := below_any (Nat.le_refl _) P1 b11; have cc := HNX9.out _ P2) | (go_at_call 13; refine (cF.out _).use ?_; intro w12 b12; have P3 := below_any (Nat.le_refl _) P2 b12; have cc := HNX9.out _ P3))
          all_goals go_wp2_with fail
          all_goals exact finB hR (below_any (Nat.le_refl _) hn8.out P3) rfl
end Go.Proofs.Ytkfglnhapcceaaa.plogRetains
