/-
  The walk of PlogCompacts.
-/
import Derived.Test.YtkfglnhapcceaaaLogCm
import Derived.Test.YtkfglnhapcceaaaLogY
import Derived.Test.YtkfglnhapcceaaaLogZ
import Derived.Test.YtkfglnhapcceaaaFix6
set_option linter.unusedVariables false
set_option linter.unusedSimpArgs false
namespace Go.Proofs.Ytkfglnhapcceaaa.plogCompacts
open Go.RowKit
attribute [local go_sem] ByteArray.extract_mk ByteArray.mk_append_mk

theorem again_snoc (f g : Fnd) (X : List Fnd) : again f (X ++ [g]) = (again f X || (f.r.hk && g.r.hk && decide (f.r.key = g.r.key))) := by simp [again]
theorem dall_len : ∀ {D : List Sd}, (∀ s ∈ D, s.l.length ≤ 64) → (dall D).length ≤ 64 * D.length
  | [], _ => by simp [dall]
  | s :: D, h => by
    have h4 := h s (by simp)
    have h5 := dall_len (D := D) fun t ht => h t (by simp [ht])
    have e : dall (s :: D) = s.l ++ dall D := by simp [dall]
    rw [e, List.length_append, List.length_cons]
    omega
theorem take_step {L : List Fnd} {i m : Nat} (h : i + 1 + m < L.length) : (L.drop (i + 1)).take (m + 1) = (L.drop (i + 1)).take m ++ [L[i + 1 + m]] := by
  rw [List.take_succ_eq_append_getElem (by rw [List.length_drop]; omega), List.getElem_drop]
theorem kf_step {o : Int} {L : List Fnd} {i : Nat} (h : i < L.length) : kf o (L.drop i) = if (!again L[i] (L.drop (i + 1)) || decide (o ≤ L[i].off)) = true then L[i] :: kf o (L.drop (i + 1)) else kf o (L.drop (i + 1)) := by
  rw [List.drop_eq_getElem_cons h, kf]
theorem drop_head {K T : List Fnd} {f : Fnd} {p : Nat} (h : K.drop p = f :: T) : ∃ hp : p < K.length, K[p] = f ∧ K.drop (p + 1) = T := by
  have hp : p < K.length := by
    by_cases hp : p < K.length
    · exact hp
    · rw [List.drop_eq_nil_of_le (by omega)] at h; cases h
  rw [List.drop_eq_getElem_cons hp] at h
  simp only [List.cons.injEq] at h
  exact ⟨hp, h.1, h.2⟩

set_option maxHeartbeats 8000000 in
set_option maxRecDepth 100000 in
theorem walk {w : World} (room : Int) (v : Value) (l : List Op6) (_ : -9223372036854775808 ≤ room ∧ room ≤ 9223372036854775807) (hl : Ops6In w v l) (hw : l.length ≤ maxLen) : RetB Try.prog 5 #[.int .i64 room, v] w (.bool true) := by
  refine RetB.intro fun R hR => ?_
  obtain ⟨q, hq, hq2⟩ : ∃ q : Nat, bits .and .i64 room 15 = (q : Int) ∧ q < 16 := ⟨_, and_low room 15 4 rfl (by omega), Nat.mod_lt _ (by decide)⟩
  have hll : l.length ≤ 9223372036854775807 := by unfold maxLen at hw; omega
  have HL := Lib.hid hl
  obtain ⟨a, cap, rfl⟩ := hl.form
  clear hl hw
  go_enter Try.func5, Try.ntmps5
  go_wp2_with fail
  refine new6_use _ (1 + (q : Int)) (by omega) ?_
  intro g b1 w1 L1 B1 M1
  go_wp2_with fail
  clear hq
  go_loopw [7] (fun (v7 : Value) (W : World) => ∃ (i : Nat) (D : List Sd) (bs : List Nat), i ≤ l.length ∧ i ≤ 30 ∧ v7 = .int .i64 (i : Int) ∧ LogD W g bs (1 + (q : Int)) D ∧ D.length ≤ i + 1 ∧ Hid (dstart D = 0 ∧ dend D ≤ 64 * (i : Int)) ∧ Below w.heap.size w W ∧ (∀ x ∈ bs, w.heap.size ≤ x)) (fun (v7 : Value) (W : World) => (l.length - intOf v7).toNat)
  case atStart => exact ⟨0, _, b1, by omega, by omega, rfl, L1, by simp, Lib.hid ⟨rfl, by show (0 : Int) ≤ 64 * 0; omega⟩, B1, M1⟩
  case round =>
    obtain ⟨i, D, bs, hil, hi40, rfl, hL, hDl, hal, hnx, hM⟩ := hrel
    by_cases hgo : i < l.length ∧ i < 30
    · obtain ⟨h1, h2⟩ := hgo
      rcases HL.out.below hnx with ⟨h, _⟩ | ⟨b, off, cap', hsl, hne, hlt, hc, hq⟩
      · rw [h] at h1; simp at h1
      simp only [Value.slice.injEq, true_and] at hsl
      obtain ⟨rfl, rfl⟩ := hsl
      obtain ⟨c0, c1, c2, c3⟩ := hc i h1
      obtain ⟨hr1, hr2, hr3, _⟩ := hq _ (List.getElem_mem h1)
      generalize l[i] = o at *
      obtain ⟨kind, fr, n5, la, lc, rs⟩ := o
      dsimp only at c0 c1 c2 c3 hr1 hr2 hr3
      have j0 : (0 : Int) ≤ (i : Int) := by omega
      have j1 : (i : Int) < (l.length : Int) := by omega
      have j2 : (i : Int) < 30 := by omega
      have cR := Lib.hid (recsN5 la lc rs wr hr1 hr2 hr3)
      obtain ⟨hcb, hcl⟩ := cut70_bd rs
      have HCB := Lib.hid hcb
      generalize cut70 rs = rs' at *
      have hzw := hnx.size
      have HLD := Lib.hid hL
      clear hc hq hne c0 c1 c2 hr1 hr2 hcb hL
      go_wp2_with fail
      unfold RecsCall at cR
      refine cR.out.mono ?_
      rintro e w3 ⟨v3, rfl, hr, ho, b3⟩
      have L3 := HLD.out.below b3
      have hn3 := Lib.hid (below_any (Nat.le_refl _) hnx b3)
      have hav : Away bs v3 := fun b hb hm => by have h1 := ho b hb; have h2 := HLD.out.lt b hm; omega
      obtain ⟨s1, s2, s3, s4, s5, s6⟩ := app_state (rs := rs') L3.good (by omega)
      have hal2 : Hid (dstart (dapp (1 + (q : Int)) D rs') = 0 ∧ dend (dapp (1 + (q : Int)) D rs') ≤ 64 * ((i + 1 : Nat) : Int)) := Lib.hid (by have := hal.out; omega)
      have hz3 := hn3.out.size
      have cA := Lib.hid (fun R k => append6_use (R := R) L3 (by omega) hr hav HCB.out k)
      obtain ⟨ra, rc, rfl⟩ := hr.form
      generalize dapp (1 + (q : Int)) D rs' = D2 at *
      clear hr hav ho L3 b3 s1 s3 s4 s5 s6 HLD
      go_wp2_with fail
      refine cA.out _ ?_
      intro bs2 w4 L4 K4 C4
      have hM4 : ∀ x ∈ bs2, w.heap.size ≤ x := fun x hx => (C4 x hx).elim (hM x) fun h => Nat.le_trans hz3 h
      have hn4 := Lib.hid (Kept.below hn3.out K4 hM hz3)
      have HL4 := Lib.hid L4
      clear cA K4 C4 L4
      go_wp2_with fail
      go_roundw
      case rel => exact ⟨i + 1, D2, bs2, by omega, by omega, by go_num, HL4.out, by omega, hal2, hn4.out, hM4⟩
      case measure => first | (simp [intOf]; done) | (simp [intOf]; omega)
    · have hG := hL.good
      have cF := Lib.hid (fun w => fixed6 w)
      have hLl : (dall D).length ≤ 64 * D.length := dall_len (fun s hs => (hG.mem hs).2.2.2.1)
      have hG1 := hG.cmp
      have hcu := dcmp_cut D
      have hcl := cuts_len hcu
      have hst := cuts_start hcu
      have hen := cuts_end hcu
      have hcl2 := cuts_len (dcmp_cut (dcmp D))
      have hst2 := cuts_start (dcmp_cut (dcmp D))
      have hen2 := cuts_end (dcmp_cut (dcmp D))
      have hop2 := cuts_open (dcmp_cut (dcmp D))
      rw [cuts_open hcu] at hop2
      have hkl := (kf_sub (dopen D) (dall D)).length_le
      have hnc := ncmp_len hG
      have hnc2 := (ncmp_again hG).1
      have hK := dcmp_kf hG
      have hd1 := dread_all hG (by omega)
      have hd2 := dread_all hG1 (by rw [hK]; omega)
      have hr1 : rerr (dstart D) D = 0 := rerr_in (Int.le_refl _) hG.end_bd.2.1
      have hr2 : rerr (dstart (dcmp D)) (dcmp D) = 0 := rerr_in (Int.le_refl _) hG1.end_bd.2.1
      have cS := Lib.hid (span6D hL (by omega))
      have cD1 := Lib.hid (fun R w2 (h : LogD w2 g bs (1 + (q : Int)) D) kk => read6_use (R := R) (dstart D) 1048576 h (by omega) (by decide) kk)
      rw [hd1, hr1] at cD1
      have cC1 := Lib.hid (fun R w2 (h : LogD w2 g bs (1 + (q : Int)) D) kk => compact6_use (R := R) h (by omega) kk)
      have cD2 := Lib.hid (fun R w2 bs2 (h : LogD w2 g bs2 (1 + (q : Int)) (dcmp D)) kk => read6_use (R := R) (dstart (dcmp D)) 1048576 h (by omega) (by decide) kk)
      rw [hd2, hr2, hst, hK] at cD2
      have cC2 := Lib.hid (fun R w2 bs2 (h : LogD w2 g bs2 (1 + (q : Int)) (dcmp D)) kk => compact6_use (R := R) h (by omega) kk)
      rw [hnc2] at cC2
      have cG := Lib.hid (fun w2 bs2 (h : LogD w2 g bs2 (1 + (q : Int)) (dcmp (dcmp D))) => segs6D h (by omega))
      have cS2 := Lib.hid (fun w2 bs2 (h : LogD w2 g bs2 (1 + (q : Int)) (dcmp (dcmp D))) => span6D h (by omega))
      rw [hst2, hst, hen2, hen] at cS2
      have hne2 : dcmp (dcmp D) ≠ [] := hG1.cmp.2.2.1
      have hlD2 : (dcmp (dcmp D)).length ≤ 900 := by omega
      clear hcl hcl2
      rw [hK] at hnc
      have hL0 := Lib.hid hL
      clear hal hL hd1 hd2 hr1 hr2 hst hen hst2 hen2 hcu hK hG hG1 hnc2 HL
      generalize hLd : dall D = L at *
      generalize hoo : dopen D = o at *
      generalize hKK : kf o L = K at *
      generalize dcmp (dcmp D) = D2 at *
      generalize dcmp D = D1 at *
      generalize ncmp D = nc at *
      generalize dstart D = s0 at *
      generalize dend D = e0 at *
      have HKK := Lib.hid hKK
      have HOP := Lib.hid hop2
      have hLb : L.length ≤ 2000 := by omega
      clear hKK hLd hoo hop2
      have e1 : IntKind.i64.wrap ((K.length : Int) + nc) = (L.length : Int) := by rw [IntKind.wrap_i64]; omega
      have HE1 := Lib.hid e1
      clear e1 hnc
      by_cases hi1 : i < l.length
      · have j2 : ((i : Int) < (l.length : Int)) = True := eq_true (by omega)
        have j3 : ((i : Int) < 30) = False := eq_false (by omega)
        go_wp2_with fail
        refine cS.out.use ?_
        intro w2 b2
        have hL2 := Lib.hid (hL0.out.below b2)
        have hn2 := Lib.hid (below_any (Nat.le_refl _) hnx b2)
        clear cS b2 hnx hL0
        go_wp2_with fail
        refine cD1.out _ _ hL2.out ?_
        intro v10 w3 o3 b3
        have hL3 := Lib.hid (hL2.out.below b3)
        have hn3 := Lib.hid (below_any (Nat.le_refl _) hn2.out b3)
        have fA := Lib.hid (fnds_own o3)
        have aw3 := Lib.hid (show Away bs v10 from fun b hb hm => by have h1 := (o3.lt b hb).1; have h2 := hL2.out.lt b hm; omega)
        have av3 := Lib.hid (own_lt o3)
        obtain ⟨xa, xc, rfl⟩ := own_form o3
        have hz3 := hn3.out.size
        clear cD1 b3 hL2 hn2 o3
        go_wp2_with fail
        refine cC1.out _ _ hL3.out ?_
        intro bs2 w4 L4 K4 C4
        have hM4 : ∀ x ∈ bs2, w.heap.size ≤ x := fun x hx => (C4 x hx).elim (hM x) fun h => by omega
        have hn4 := Lib.hid (Kept.below hn3.out K4 hM hz3)
        have fA4 := Lib.hid (fA.out.kept K4 aw3.out)
        have aw4 := Lib.hid (show Away bs2 (.slice xa L.length xc) from fun b hb hm => (C4 b hm).elim (fun h => aw3.out b hb h) (fun h => by have := av3.out b hb; omega))
        have hL4 := Lib.hid L4
        have hz4 := hn4.out.size
        clear cC1 L4 K4 C4 fA aw3 hL3 hn3 av3
        go_wp2_with fail
        refine cD2.out _ _ _ hL4.out ?_
        intro v13 w5 o5 b5
        have hL5 := Lib.hid (hL4.out.below b5)
        have hn5 := Lib.hid (below_any (Nat.le_refl _) hn4.out b5)
        have fA5 := Lib.hid (fA4.out.below b5)
        have fB := Lib.hid (fnds_own o5)
        have aw5 := Lib.hid (show Away bs2 v13 from fun b hb hm => by have h1 := (o5.lt b hb).1; have h2 := hL4.out.lt b hm; omega)
        obtain ⟨ya, yc, rfl⟩ := own_form o5
        have hz5 := hn5.out.size
        have e1 := HE1.out
        clear cD2 b5 hL4 hn4 o5 fA4
        go_wp2_with fail
        clear e1
        refine cC2.out _ _ _ hL5.out ?_
        intro bs3 w6 L6 K6 C6
        have hn6 := Lib.hid (Kept.below hn5.out K6 hM4 hz5)
        have fA6 := Lib.hid (fA5.out.kept K6 aw4.out)
        have fB6 := Lib.hid (fB.out.kept K6 aw5.out)
        have hL6 := Lib.hid L6
        clear cC2 L6 K6 C6 fA5 fB aw4 aw5 hL5 hn5
        go_wp2_with fail
        refine (cG.out _ _ hL6.out).use ?_
        intro v15 sb w7 SI hsb b7
        have hL7 := Lib.hid (hL6.out.below b7)
        have hn7 := Lib.hid (below_any (Nat.le_refl _) hn6.out b7)
        have fA7 := Lib.hid (fA6.out.below b7)
        have fB7 := Lib.hid (fB6.out.below b7)
        have hD2p : 0 < D2.length := List.length_pos_iff.2 hne2
        rcases SI with ⟨h, _⟩ | ⟨sbk, so, sc, lvs, rfl, s1, s2, s3, s4, s5, s6⟩
        · exact absurd h hne2
        have c0 := (s6 (D2.length - 1) (by omega) (by omega)).1.1
        have hob : D2[D2.length - 1].base = o := by
          have h := HOP.out
          unfold dopen at h
          rw [List.getLast?_eq_getElem?, List.getElem?_eq_getElem (by omega)] at h
          simpa using h
        rw [hob] at c0
        have e2 : ((D2.length : Int) == 0) = false := by simp; omega
        have e3 : IntKind.i64.wrap ((D2.length : Int) - 1) = ((D2.length - 1 : Nat) : Int) := by rw [IntKind.wrap_i64]; omega
        have i1 : (0 : Int) ≤ ((D2.length - 1 : Nat) : Int) := by omega
        have i2 : ((D2.length - 1 : Nat) : Int) < (D2.length : Int) := by omega
        clear s6 hob cG hL6 hn6 fA6 fB6 b7 hsb s4 s5 s2
        go_wp2_with fail
        clear e2 e3 i1 i2 c0
        go_loopw [17, 18] (fun (v17 v18 : Value) (W : World) => ∃ (x p : Nat), x ≤ L.length ∧ p ≤ K.length ∧ v18 = .int .i64 (x : Int) ∧ v17 = .int .i64 (p : Int) ∧ Hid (K.drop p = kf o (L.drop x)) ∧ Below w7.heap.size w7 W) (fun (v17 v18 : Value) (W : World) => (L.length - intOf v18).toNat)
        case atStart => exact ⟨0, 0, by omega, by omega, rfl, rfl, Lib.hid (by rw [List.drop_zero, List.drop_zero]; exact HKK.out.symm), Below.refl _ _⟩
        case round =>
          obtain ⟨x, p, hx, hp, rfl, rfl, hkd, hb⟩ := hrel
          have hKl : K.length ≤ 2000 := by omega
          by_cases hxl : x < L.length
          · obtain ⟨Wx, rfl⟩ : ∃ Wx, Wx = wr := ⟨_, rfl⟩
            have hks := Lib.hid (hkd.out.trans (kf_step (o := o) hxl))
            have j4 : (x : Int) < (L.length : Int) := by omega
            have j5 : (0 : Int) ≤ (x : Int) := by omega
            have HFX := Lib.hid (fun W (hbw : Below Wx.heap.size Wx W) => ((fA7.out.below hb).below hbw))
            go_wp2_with fail
            go_loopw [19, 20] (fun (v19 v20 : Value) (W : World) => ∃ m : Nat, x + 1 + m ≤ L.length ∧ v20 = .int .i64 ((x + 1 + m : Nat) : Int) ∧ v19 = .bool (!again (L[x]'hxl) ((L.drop (x + 1)).take m)) ∧ Below Wx.heap.size Wx W) (fun (v19 v20 : Value) (W : World) => (L.length - intOf v20).toNat)
            case atStart => exact ⟨0, by omega, by go_num, by simp [again], Below.refl _ _⟩
            case round =>
              obtain ⟨m, hm, rfl, rfl, hbw⟩ := hrel
              by_cases hml : x + 1 + m < L.length
              · rcases HFX.out wr hbw with ⟨h, _⟩ | ⟨fb, fo, fc, hsl, _, _, hfl, hfc⟩
                · rw [h] at hxl; simp at hxl
                simp only [Value.slice.injEq, true_and] at hsl
                obtain ⟨rfl, rfl⟩ := hsl
                obtain ⟨f0, f1, f2, f3, f4⟩ := hfc x hxl
                obtain ⟨g0, g1, g2, g3, g4⟩ := hfc (x + 1 + m) hml
                have hts := Lib.hid (take_step hml)
                have has := Lib.hid (again_snoc L[x] L[x + 1 + m] ((L.drop (x + 1)).take m))
                generalize hz9 : x + 1 + m = z at *
                have HZ9 := Lib.hid hz9
                have y1 : (z : Int) < (L.length : Int) := by omega
                have y2 : (0 : Int) ≤ (z : Int) := by omega
                clear hz9 hfc
                by_cases hc1 : L[x].r.hk = true
                · rw [hc1] at f1
                  by_cases hc2 : L[z].r.hk = true
                  · rw [hc2] at g1
                    by_cases hc3 : L[x].r.key = L[z].r.key
                    · have hc : Hid ((again L[x] ((L.drop (x + 1)).take m) || (L[x].r.hk && L[z].r.hk && decide (L[x].r.key = L[z].r.key))) = true) := Lib.hid (by rw [hc1, hc2, hc3]; simp)
                      rw [hc3] at f2
                      clear hc1 hc2 hc3
                      go_wp2_with fail
                      go_quiet (fail)
                      go_wp2_with fail
                      go_roundw
                      case rel => exact ⟨m + 1, by have := HZ9.out; omega, by rw [show x + 1 + (m + 1) = z + 1 by have := HZ9.out; omega]; go_num, by rw [hts.out, has.out, hc.out]; rfl, belowN hbw _⟩
                      case measure => first | (simp [intOf]; done) | (simp [intOf]; omega)
                    · have hc : Hid ((again L[x] ((L.drop (x + 1)).take m) || (L[x].r.hk && L[z].r.hk && decide (L[x].r.key = L[z].r.key))) = again L[x] ((L.drop (x + 1)).take m)) := Lib.hid (by rw [decide_eq_false hc3]; simp)
                      have hq3 : (L[x].r.key == L[z].r.key) = false := by simpa using hc3
                      generalize L[x].r.key = k1 at *
                      generalize L[z].r.key = k2 at *
                      clear hc1 hc2
                      go_wp2_with fail
                      go_quiet (fail)
                      go_wp2_with fail
                      go_roundw
                      case rel => exact ⟨m + 1, by have := HZ9.out; omega, by rw [show x + 1 + (m + 1) = z + 1 by have := HZ9.out; omega]; go_num, by rw [hts.out, has.out, hc.out], belowN hbw _⟩
                      case measure => first | (simp [intOf]; done) | (simp [intOf]; omega)
                  · have hc2 : L[z].r.hk = false := by simpa using hc2
                    rw [hc2] at g1
                    have hc : Hid ((again L[x] ((L.drop (x + 1)).take m) || (L[x].r.hk && L[z].r.hk && decide (L[x].r.key = L[z].r.key))) = again L[x] ((L.drop (x + 1)).take m)) := Lib.hid (by rw [hc2]; simp)
                    clear hc1 hc2
                    go_wp2_with fail
                    go_quiet (fail)
                    go_wp2_with fail
                    go_roundw
                    case rel => exact ⟨m + 1, by have := HZ9.out; omega, by rw [show x + 1 + (m + 1) = z + 1 by have := HZ9.out; omega]; go_num, by rw [hts.out, has.out, hc.out], belowN hbw _⟩
                    case measure => first | (simp [intOf]; done) | (simp [intOf]; omega)
                · have hc1 : L[x].r.hk = false := by simpa using hc1
                  rw [hc1] at f1
                  have hc : Hid ((again L[x] ((L.drop (x + 1)).take m) || (L[x].r.hk && L[z].r.hk && decide (L[x].r.key = L[z].r.key))) = again L[x] ((L.drop (x + 1)).take m)) := Lib.hid (by rw [hc1]; simp)
                  clear hc1
                  go_wp2_with fail
                  go_quiet (fail)
                  go_wp2_with fail
                  go_roundw
                  case rel => exact ⟨m + 1, by have := HZ9.out; omega, by rw [show x + 1 + (m + 1) = z + 1 by have := HZ9.out; omega]; go_num, by rw [hts.out, has.out, hc.out], belowN hbw _⟩
                  case measure => first | (simp [intOf]; done) | (simp [intOf]; omega)
              · have hfull : (L.drop (x + 1)).take m = L.drop (x + 1) := List.take_of_length_le (by rw [List.length_drop]; omega)
                rw [hfull]
                have y1 : ¬ ((x + 1 + m : Nat) : Int) < (L.length : Int) := by omega
                have y3 : (((x + 1 + m : Nat) : Int) < (L.length : Int)) = False := eq_false y1
                generalize hz9 : x + 1 + m = z at *
                clear hz9 hfull hm hml
                have hbT := below_any (Nat.le_refl _) hb hbw
                rcases HFX.out wr hbw with ⟨h, _⟩ | ⟨fb, fo, fc, hsl, _, _, hfl, hfc⟩
                · rw [h] at hxl; simp at hxl
                simp only [Value.slice.injEq, true_and] at hsl
                obtain ⟨rfl, rfl⟩ := hsl
                obtain ⟨f0, f1, f2, f3, f4⟩ := hfc x hxl
                have HKS := Lib.hid hks.out
                have hqn := neq_fnd L[x] L[x]
                unfold Fnd.val at hqn
                simp only [decide_true, Bool.not_true] at hqn
                clear hfc hks hkd
                by_cases hkeep : (!again L[x] (L.drop (x + 1)) || decide (o ≤ L[x].off)) = true
                · have hkd2 := HKS.out
                  rw [if_pos hkeep] at hkd2
                  obtain ⟨hpK, hpe, hpn⟩ := drop_head hkd2
                  have HPN := Lib.hid hpn
                  rcases (fB7.out.below hbT) with ⟨h, _⟩ | ⟨gb, go, gc, hsl2, _, _, hgl, hgc⟩
                  · rw [h] at hpK; simp at hpK
                  simp only [Value.slice.injEq, true_and] at hsl2
                  obtain ⟨rfl, rfl⟩ := hsl2
                  have hgp := hgc p hpK
                  rw [hpe] at hgp
                  obtain ⟨g0, g1, g2, g3, g4⟩ := hgp
                  have y4 : ((K.length : Int) ≤ (p : Int)) = False := eq_false (by omega)
                  have y5 : (p : Int) < (K.length : Int) := by omega
                  have y6 : (0 : Int) ≤ (p : Int) := by omega
                  clear hkd2 hpe hpn hgc HKS
                  by_cases hag : again L[x] (L.drop (x + 1)) = false
                  · rw [hag]
                    clear hkeep hag
                    generalize L[x] = f at *
                    go_wp2_with fail
                    go_quiet (fail)
                    go_wp2_with fail
                    go_roundw
                    case rel => exact ⟨x + 1, p + 1, by omega, by omega, by go_num, by go_num, HPN, belowN hbT _⟩
                    case measure => first | (simp [intOf]; done) | (simp [intOf]; omega)
                  · have hag : again L[x] (L.drop (x + 1)) = true := by simpa using hag
                    have ho : o ≤ L[x].off := by rw [hag] at hkeep; simpa using hkeep
                    have ho2 : (o ≤ L[x].off) = True := eq_true ho
                    rw [hag]
                    clear hkeep hag ho
                    generalize L[x] = f at *
                    go_wp2_with fail
                    go_quiet (fail)
                    go_wp2_with fail
                    go_roundw
                    case rel => exact ⟨x + 1, p + 1, by omega, by omega, by go_num, by go_num, HPN, belowN hbT _⟩
                    case measure => first | (simp [intOf]; done) | (simp [intOf]; omega)
                · have hkd2 := HKS.out
                  rw [if_neg hkeep] at hkd2
                  have HPN := Lib.hid hkd2
                  have hag : again L[x] (L.drop (x + 1)) = true := by
                    by_cases h : again L[x] (L.drop (x + 1)) = true
                    · exact h
                    · exact absurd (by rw [show again L[x] (L.drop (x + 1)) = false by simpa using h]; rfl) hkeep
                  have ho : ¬ o ≤ L[x].off := fun h => hkeep (by rw [decide_eq_true h]; simp)
                  have ho2 : (o ≤ L[x].off) = False := eq_false ho
                  rw [hag]
                  clear hkeep hag ho hkd2 HKS hqn
                  generalize L[x] = f at *
                  go_wp2_with fail
                  go_roundw
                  case rel => exact ⟨x + 1, p, by omega, by omega, by go_num, rfl, HPN, hbT⟩
                  case measure => first | (simp [intOf]; done) | (simp [intOf]; omega)
          · obtain rfl : x = L.length := by omega
            have hpK : p = K.length := by
              have h := congrArg List.length hkd.out
              rw [List.drop_length, List.length_drop] at h
              simp only [kf, List.length_nil] at h
              omega
            subst hpK
            have j4 : ¬ (L.length : Int) < (L.length : Int) := by omega
            have cZ := Lib.hid (cS2.out _ _ (hL7.out.below hb))
            clear hkd cS2
            go_wp2_with fail
            refine cZ.out.use ?_
            intro w8 b8
            go_wp2_with fail
            refine (cF.out _).use ?_
            intro w9 b9
            go_wp2_with fail
            exact finB hR (below_any (Nat.le_refl _) (below_any (Nat.le_refl _) (below_any (Nat.le_refl _) hn7.out hb) b8) b9) rfl
      · have j2 : ((i : Int) < (l.length : Int)) = False := eq_false (by omega)
        go_wp2_with fail
        refine cS.out.use ?_
        intro w2 b2
        have hL2 := Lib.hid (hL0.out.below b2)
        have hn2 := Lib.hid (below_any (Nat.le_refl _) hnx b2)
        clear cS b2 hnx hL0
        go_wp2_with fail
        refine cD1.out _ _ hL2.out ?_
        intro v10 w3 o3 b3
        have hL3 := Lib.hid (hL2.out.below b3)
        have hn3 := Lib.hid (below_any (Nat.le_refl _) hn2.out b3)
        have fA := Lib.hid (fnds_own o3)
        have aw3 := Lib.hid (show Away bs v10 from fun b hb hm => by have h1 := (o3.lt b hb).1; have h2 := hL2.out.lt b hm; omega)
        have av3 := Lib.hid (own_lt o3)
        obtain ⟨xa, xc, rfl⟩ := own_form o3
        have hz3 := hn3.out.size
        clear cD1 b3 hL2 hn2 o3
        go_wp2_with fail
        refine cC1.out _ _ hL3.out ?_
        intro bs2 w4 L4 K4 C4
        have hM4 : ∀ x ∈ bs2, w.heap.size ≤ x := fun x hx => (C4 x hx).elim (hM x) fun h => by omega
        have hn4 := Lib.hid (Kept.below hn3.out K4 hM hz3)
        have fA4 := Lib.hid (fA.out.kept K4 aw3.out)
        have aw4 := Lib.hid (show Away bs2 (.slice xa L.length xc) from fun b hb hm => (C4 b hm).elim (fun h => aw3.out b hb h) (fun h => by have := av3.out b hb; omega))
        have hL4 := Lib.hid L4
        have hz4 := hn4.out.size
        clear cC1 L4 K4 C4 fA aw3 hL3 hn3 av3
        go_wp2_with fail
        refine cD2.out _ _ _ hL4.out ?_
        intro v13 w5 o5 b5
        have hL5 := Lib.hid (hL4.out.below b5)
        have hn5 := Lib.hid (below_any (Nat.le_refl _) hn4.out b5)
        have fA5 := Lib.hid (fA4.out.below b5)
        have fB := Lib.hid (fnds_own o5)
        have aw5 := Lib.hid (show Away bs2 v13 from fun b hb hm => by have h1 := (o5.lt b hb).1; have h2 := hL4.out.lt b hm; omega)
        obtain ⟨ya, yc, rfl⟩ := own_form o5
        have hz5 := hn5.out.size
        have e1 := HE1.out
        clear cD2 b5 hL4 hn4 o5 fA4
        go_wp2_with fail
        clear e1
        refine cC2.out _ _ _ hL5.out ?_
        intro bs3 w6 L6 K6 C6
        have hn6 := Lib.hid (Kept.below hn5.out K6 hM4 hz5)
        have fA6 := Lib.hid (fA5.out.kept K6 aw4.out)
        have fB6 := Lib.hid (fB.out.kept K6 aw5.out)
        have hL6 := Lib.hid L6
        clear cC2 L6 K6 C6 fA5 fB aw4 aw5 hL5 hn5
        go_wp2_with fail
        refine (cG.out _ _ hL6.out).use ?_
        intro v15 sb w7 SI hsb b7
        have hL7 := Lib.hid (hL6.out.below b7)
        have hn7 := Lib.hid (below_any (Nat.le_refl _) hn6.out b7)
        have fA7 := Lib.hid (fA6.out.below b7)
        have fB7 := Lib.hid (fB6.out.below b7)
        have hD2p : 0 < D2.length := List.length_pos_iff.2 hne2
        rcases SI with ⟨h, _⟩ | ⟨sbk, so, sc, lvs, rfl, s1, s2, s3, s4, s5, s6⟩
        · exact absurd h hne2
        have c0 := (s6 (D2.length - 1) (by omega) (by omega)).1.1
        have hob : D2[D2.length - 1].base = o := by
          have h := HOP.out
          unfold dopen at h
          rw [List.getLast?_eq_getElem?, List.getElem?_eq_getElem (by omega)] at h
          simpa using h
        rw [hob] at c0
        have e2 : ((D2.length : Int) == 0) = false := by simp; omega
        have e3 : IntKind.i64.wrap ((D2.length : Int) - 1) = ((D2.length - 1 : Nat) : Int) := by rw [IntKind.wrap_i64]; omega
        have i1 : (0 : Int) ≤ ((D2.length - 1 : Nat) : Int) := by omega
        have i2 : ((D2.length - 1 : Nat) : Int) < (D2.length : Int) := by omega
        clear s6 hob cG hL6 hn6 fA6 fB6 b7 hsb s4 s5 s2
        go_wp2_with fail
        clear e2 e3 i1 i2 c0
        go_loopw [17, 18] (fun (v17 v18 : Value) (W : World) => ∃ (x p : Nat), x ≤ L.length ∧ p ≤ K.length ∧ v18 = .int .i64 (x : Int) ∧ v17 = .int .i64 (p : Int) ∧ Hid (K.drop p = kf o (L.drop x)) ∧ Below w7.heap.size w7 W) (fun (v17 v18 : Value) (W : World) => (L.length - intOf v18).toNat)
        case atStart => exact ⟨0, 0, by omega, by omega, rfl, rfl, Lib.hid (by rw [List.drop_zero, List.drop_zero]; exact HKK.out.symm), Below.refl _ _⟩
        case round =>
          obtain ⟨x, p, hx, hp, rfl, rfl, hkd, hb⟩ := hrel
          have hKl : K.length ≤ 2000 := by omega
          by_cases hxl : x < L.length
          · obtain ⟨Wx, rfl⟩ : ∃ Wx, Wx = wr := ⟨_, rfl⟩
            have hks := Lib.hid (hkd.out.trans (kf_step (o := o) hxl))
            have j4 : (x : Int) < (L.length : Int) := by omega
            have j5 : (0 : Int) ≤ (x : Int) := by omega
            have HFX := Lib.hid (fun W (hbw : Below Wx.heap.size Wx W) => ((fA7.out.below hb).below hbw))
            go_wp2_with fail
            go_loopw [19, 20] (fun (v19 v20 : Value) (W : World) => ∃ m : Nat, x + 1 + m ≤ L.length ∧ v20 = .int .i64 ((x + 1 + m : Nat) : Int) ∧ v19 = .bool (!again (L[x]'hxl) ((L.drop (x + 1)).take m)) ∧ Below Wx.heap.size Wx W) (fun (v19 v20 : Value) (W : World) => (L.length - intOf v20).toNat)
            case atStart => exact ⟨0, by omega, by go_num, by simp [again], Below.refl _ _⟩
            case round =>
              obtain ⟨m, hm, rfl, rfl, hbw⟩ := hrel
              by_cases hml : x + 1 + m < L.length
              · rcases HFX.out wr hbw with ⟨h, _⟩ | ⟨fb, fo, fc, hsl, _, _, hfl, hfc⟩
                · rw [h] at hxl; simp at hxl
                simp only [Value.slice.injEq, true_and] at hsl
                obtain ⟨rfl, rfl⟩ := hsl
                obtain ⟨f0, f1, f2, f3, f4⟩ := hfc x hxl
                obtain ⟨g0, g1, g2, g3, g4⟩ := hfc (x + 1 + m) hml
                have hts := Lib.hid (take_step hml)
                have has := Lib.hid (again_snoc L[x] L[x + 1 + m] ((L.drop (x + 1)).take m))
                generalize hz9 : x + 1 + m = z at *
                have HZ9 := Lib.hid hz9
                have y1 : (z : Int) < (L.length : Int) := by omega
                have y2 : (0 : Int) ≤ (z : Int) := by omega
                clear hz9 hfc
                by_cases hc1 : L[x].r.hk = true
                · rw [hc1] at f1
                  by_cases hc2 : L[z].r.hk = true
                  · rw [hc2] at g1
                    by_cases hc3 : L[x].r.key = L[z].r.key
                    · have hc : Hid ((again L[x] ((L.drop (x + 1)).take m) || (L[x].r.hk && L[z].r.hk && decide (L[x].r.key = L[z].r.key))) = true) := Lib.hid (by rw [hc1, hc2, hc3]; simp)
                      rw [hc3] at f2
                      clear hc1 hc2 hc3
                      go_wp2_with fail
                      go_quiet (fail)
                      go_wp2_with fail
                      go_roundw
                      case rel => exact ⟨m + 1, by have := HZ9.out; omega, by rw [show x + 1 + (m + 1) = z + 1 by have := HZ9.out; omega]; go_num, by rw [hts.out, has.out, hc.out]; rfl, belowN hbw _⟩
                      case measure => first | (simp [intOf]; done) | (simp [intOf]; omega)
                    · have hc : Hid ((again L[x] ((L.drop (x + 1)).take m) || (L[x].r.hk && L[z].r.hk && decide (L[x].r.key = L[z].r.key))) = again L[x] ((L.drop (x + 1)).take m)) := Lib.hid (by rw [decide_eq_false hc3]; simp)
                      have hq3 : (L[x].r.key == L[z].r.key) = false := by simpa using hc3
                      generalize L[x].r.key = k1 at *
                      generalize L[z].r.key = k2 at *
                      clear hc1 hc2
                      go_wp2_with fail
                      go_quiet (fail)
                      go_wp2_with fail
                      go_roundw
                      case rel => exact ⟨m + 1, by have := HZ9.out; omega, by rw [show x + 1 + (m + 1) = z + 1 by have := HZ9.out; omega]; go_num, by rw [hts.out, has.out, hc.out], belowN hbw _⟩
                      case measure => first | (simp [intOf]; done) | (simp [intOf]; omega)
                  · have hc2 : L[z].r.hk = false := by simpa using hc2
                    rw [hc2] at g1
                    have hc : Hid ((again L[x] ((L.drop (x + 1)).take m) || (L[x].r.hk && L[z].r.hk && decide (L[x].r.key = L[z].r.key))) = again L[x] ((L.drop (x + 1)).take m)) := Lib.hid (by rw [hc2]; simp)
                    clear hc1 hc2
                    go_wp2_with fail
                    go_quiet (fail)
                    go_wp2_with fail
                    go_roundw
                    case rel => exact ⟨m + 1, by have := HZ9.out; omega, by rw [show x + 1 + (m + 1) = z + 1 by have := HZ9.out; omega]; go_num, by rw [hts.out, has.out, hc.out], belowN hbw _⟩
                    case measure => first | (simp [intOf]; done) | (simp [intOf]; omega)
                · have hc1 : L[x].r.hk = false := by simpa using hc1
                  rw [hc1] at f1
                  have hc : Hid ((again L[x] ((L.drop (x + 1)).take m) || (L[x].r.hk && L[z].r.hk && decide (L[x].r.key = L[z].r.key))) = again L[x] ((L.drop (x + 1)).take m)) := Lib.hid (by rw [hc1]; simp)
                  clear hc1
                  go_wp2_with fail
                  go_quiet (fail)
                  go_wp2_with fail
                  go_roundw
                  case rel => exact ⟨m + 1, by have := HZ9.out; omega, by rw [show x + 1 + (m + 1) = z + 1 by have := HZ9.out; omega]; go_num, by rw [hts.out, has.out, hc.out], belowN hbw _⟩
                  case measure => first | (simp [intOf]; done) | (simp [intOf]; omega)
              · have hfull : (L.drop (x + 1)).take m = L.drop (x + 1) := List.take_of_length_le (by rw [List.length_drop]; omega)
                rw [hfull]
                have y1 : ¬ ((x + 1 + m : Nat) : Int) < (L.length : Int) := by omega
                have y3 : (((x + 1 + m : Nat) : Int) < (L.length : Int)) = False := eq_false y1
                generalize hz9 : x + 1 + m = z at *
                clear hz9 hfull hm hml
                have hbT := below_any (Nat.le_refl _) hb hbw
                rcases HFX.out wr hbw with ⟨h, _⟩ | ⟨fb, fo, fc, hsl, _, _, hfl, hfc⟩
                · rw [h] at hxl; simp at hxl
                simp only [Value.slice.injEq, true_and] at hsl
                obtain ⟨rfl, rfl⟩ := hsl
                obtain ⟨f0, f1, f2, f3, f4⟩ := hfc x hxl
                have HKS := Lib.hid hks.out
                have hqn := neq_fnd L[x] L[x]
                unfold Fnd.val at hqn
                simp only [decide_true, Bool.not_true] at hqn
                clear hfc hks hkd
                by_cases hkeep : (!again L[x] (L.drop (x + 1)) || decide (o ≤ L[x].off)) = true
                · have hkd2 := HKS.out
                  rw [if_pos hkeep] at hkd2
                  obtain ⟨hpK, hpe, hpn⟩ := drop_head hkd2
                  have HPN := Lib.hid hpn
                  rcases (fB7.out.below hbT) with ⟨h, _⟩ | ⟨gb, go, gc, hsl2, _, _, hgl, hgc⟩
                  · rw [h] at hpK; simp at hpK
                  simp only [Value.slice.injEq, true_and] at hsl2
                  obtain ⟨rfl, rfl⟩ := hsl2
                  have hgp := hgc p hpK
                  rw [hpe] at hgp
                  obtain ⟨g0, g1, g2, g3, g4⟩ := hgp
                  have y4 : ((K.length : Int) ≤ (p : Int)) = False := eq_false (by omega)
                  have y5 : (p : Int) < (K.length : Int) := by omega
                  have y6 : (0 : Int) ≤ (p : Int) := by omega
                  clear hkd2 hpe hpn hgc HKS
                  by_cases hag : again L[x] (L.drop (x + 1)) = false
                  · rw [hag]
                    clear hkeep hag
                    generalize L[x] = f at *
                    go_wp2_with fail
                    go_quiet (fail)
                    go_wp2_with fail
                    go_roundw
                    case rel => exact ⟨x + 1, p + 1, by omega, by omega, by go_num, by go_num, HPN, belowN hbT _⟩
                    case measure => first | (simp [intOf]; done) | (simp [intOf]; omega)
                  · have hag : again L[x] (L.drop (x + 1)) = true := by simpa using hag
                    have ho : o ≤ L[x].off := by rw [hag] at hkeep; simpa using hkeep
                    have ho2 : (o ≤ L[x].off) = True := eq_true ho
                    rw [hag]
                    clear hkeep hag ho
                    generalize L[x] = f at *
                    go_wp2_with fail
                    go_quiet (fail)
                    go_wp2_with fail
                    go_roundw
                    case rel => exact ⟨x + 1, p + 1, by omega, by omega, by go_num, by go_num, HPN, belowN hbT _⟩
                    case measure => first | (simp [intOf]; done) | (simp [intOf]; omega)
                · have hkd2 := HKS.out
                  rw [if_neg hkeep] at hkd2
                  have HPN := Lib.hid hkd2
                  have hag : again L[x] (L.drop (x + 1)) = true := by
                    by_cases h : again L[x] (L.drop (x + 1)) = true
                    · exact h
                    · exact absurd (by rw [show again L[x] (L.drop (x + 1)) = false by simpa using h]; rfl) hkeep
                  have ho : ¬ o ≤ L[x].off := fun h => hkeep (by rw [decide_eq_true h]; simp)
                  have ho2 : (o ≤ L[x].off) = False := eq_false ho
                  rw [hag]
                  clear hkeep hag ho hkd2 HKS hqn
                  generalize L[x] = f at *
                  go_wp2_with fail
                  go_roundw
                  case rel => exact ⟨x + 1, p, by omega, by omega, by go_num, rfl, HPN, hbT⟩
                  case measure => first | (simp [intOf]; done) | (simp [intOf]; omega)
          · obtain rfl : x = L.length := by omega
            have hpK : p = K.length := by
              have h := congrArg List.length hkd.out
              rw [List.drop_length, List.length_drop] at h
              simp only [kf, List.length_nil] at h
              omega
            subst hpK
            have j4 : ¬ (L.length : Int) < (L.length : Int) := by omega
            have cZ := Lib.hid (cS2.out _ _ (hL7.out.below hb))
            clear hkd cS2
            go_wp2_with fail
            refine cZ.out.use ?_
            intro w8 b8
            go_wp2_with fail
            refine (cF.out _).use ?_
            intro w9 b9
            go_wp2_with fail
            exact finB hR (below_any (Nat.le_refl _) (below_any (Nat.le_refl _) (below_any (Nat.le_refl _) hn7.out hb) b8) b9) rfl
end Go.Proofs.Ytkfglnhapcceaaa.plogCompacts
