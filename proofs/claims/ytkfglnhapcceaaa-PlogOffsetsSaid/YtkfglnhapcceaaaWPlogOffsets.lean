/-
  The walk of PlogOffsets.
-/
import Derived.Test.YtkfglnhapcceaaaLogW
import Derived.Test.YtkfglnhapcceaaaLogZ
import Derived.Test.YtkfglnhapcceaaaFix6
set_option linter.unusedVariables false
set_option linter.unusedSimpArgs false
namespace Go.Proofs.Ytkfglnhapcceaaa.plogOffsets
open Go.RowKit
attribute [local go_sem] ByteArray.extract_mk ByteArray.mk_append_mk

set_option maxHeartbeats 8000000 in
set_option maxRecDepth 100000 in
theorem walk {w : World} (room : Int) (v : Value) (l : List Op6) (_ : -9223372036854775808 ≤ room ∧ room ≤ 9223372036854775807) (hl : Ops6In w v l) (hw : l.length ≤ maxLen) : RetB Try.prog 4 #[.int .i64 room, v] w (.bool true) := by
  refine RetB.intro fun R hR => ?_
  obtain ⟨q, hq, hq2⟩ : ∃ q : Nat, bits .and .i64 room 63 = (q : Int) ∧ q < 64 := ⟨_, and_low room 63 6 rfl (by omega), Nat.mod_lt _ (by decide)⟩
  have hll : l.length ≤ 9223372036854775807 := by unfold maxLen at hw; omega
  have HL := Lib.hid hl
  obtain ⟨a, cap, rfl⟩ := hl.form
  clear hl hw
  go_enter Try.func4, Try.ntmps4
  go_wp2_with fail
  refine new6_use _ (1 + (q : Int)) (by omega) ?_
  intro g b1 w1 L1 B1 M1
  go_wp2_with fail
  clear hq
  go_loopw [7] (fun (v7 : Value) (W : World) => ∃ (i : Nat) (D : List Sd) (bs : List Nat), i ≤ l.length ∧ i ≤ 30 ∧ v7 = .int .i64 (i : Int) ∧ LogD W g bs (1 + (q : Int)) D ∧ D.length ≤ i + 1 ∧ Below w.heap.size w W ∧ (∀ x ∈ bs, w.heap.size ≤ x)) (fun (v7 : Value) (W : World) => (l.length - intOf v7).toNat)
  case atStart => exact ⟨0, _, b1, by omega, by omega, rfl, L1, by simp, B1, M1⟩
  case round =>
    obtain ⟨i, D, bs, hil, hi40, rfl, hL, hDl, hnx, hM⟩ := hrel
    by_cases hgo : i < l.length ∧ i < 30
    · obtain ⟨h1, h2⟩ := hgo
      rcases HL.out.below hnx with ⟨h, _⟩ | ⟨b, off, cap', hsl, hne, hlt, hc, hq⟩
      · rw [h] at h1; simp at h1
      simp only [Value.slice.injEq, true_and] at hsl
      obtain ⟨rfl, rfl⟩ := hsl
      obtain ⟨c0, c1, c2, c3⟩ := hc i h1
      have hop := hq _ (List.getElem_mem h1)
      generalize l[i] = o at *
      obtain ⟨kind, fr, n, la, lc, rs⟩ := o
      obtain ⟨hr1, hr2, hr3, hf1, hf2⟩ := hop
      dsimp only at c0 c1 c2 c3 hr1 hr2 hr3 hf1 hf2
      have j0 : (0 : Int) ≤ (i : Int) := by omega
      have j1 : (i : Int) < (l.length : Int) := by omega
      have j2 : (i : Int) < 30 := by omega
      have A1 : Below wr.heap.size wr (wr.alloc (.cells #[.int .i64 kind, .int .i64 fr, .int .i64 n, .slice la rs.length lc] 47)) := below_all (Below.refl _ _)
      have hX := Blk.new wr #[.int .i64 kind, .int .i64 fr, .int .i64 n, .slice la rs.length lc] 47
      have hL1 := hL.below A1
      have hnx1 := below_any (Nat.le_refl _) hnx A1
      have hr1 := hr1.below A1
      have cS := Lib.hid (span6D hL1 (by omega))
      have HR1 := Lib.hid hr1
      have HR2 := Lib.hid hr2
      clear hc hq hne hr1 hr2 hL
      go_wp2_with fail
      generalize wr.alloc (.cells #[.int .i64 kind, .int .i64 fr, .int .i64 n, .slice la rs.length lc] 47) = W1 at *
      generalize wr.heap.size = X at *
      have HNX1 := Lib.hid hnx1
      clear A1 hnx hnx1 c0 c1 c2 c3
      refine cS.out.use ?_
      intro w2 b2
      have L2 := Lib.hid (hL1.below b2)
      have HR3 := Lib.hid (HR1.out.below b2)
      have hX2 := hX.below b2
      have HX2 := Lib.hid hX2
      obtain ⟨m0, m1, m2, m3, m4⟩ := hX2.c4
      have hn2 := Lib.hid (below_any (Nat.le_refl _) HNX1.out b2)
      have hG := L2.out.good
      have hGd := Lib.hid hG
      have hz2 := hn2.out.size
      clear hX hL1 HNX1 hX2 cS b2 HR1 hG
      by_cases hk0 : kind = 0
      · subst hk0
        have cR := Lib.hid (recsN5 la lc rs w2 HR3.out HR2.out hr3)
        obtain ⟨hcb, hcl⟩ := cut70_bd rs
        have HCB := Lib.hid hcb
        generalize cut70 rs = rs' at *
        clear hcb HR3 HR2 hf1 hf2
        go_wp2_with fail
        unfold RecsCall at cR
        refine cR.out.mono ?_
        rintro e w3 ⟨v3, rfl, hr, ho, b3⟩
        have L3 := L2.out.below b3
        have hn3 := Lib.hid (below_any (Nat.le_refl _) hn2.out b3)
        have hav : Away bs v3 := fun b hb hm => by have h1 := ho b hb; have h2 := L2.out.lt b hm; omega
        obtain ⟨ra, rc, rfl⟩ := hr.form
        have hz3 := hn3.out.size
        have hr0 := Lib.hid hr
        have hav0 := Lib.hid hav
        by_cases he : aerr6 (1 + (q : Int)) D rs' = 0
        · have hend := dapp_end hGd.out.2.2.1 he
          have hstart := dapp_start (room := 1 + (q : Int)) (rs := rs') hGd.out.2.2.1
          have hlen := dapp_len (room := 1 + (q : Int)) (D := D) (rs := rs')
          have hrd := dread_app hGd.out he
          have hbd := hGd.out.end_bd
          have hG2 := hGd.out.app he
          have hbd2 := hG2.end_bd
          have cA := Lib.hid (fun R k => append6_use (R := R) L3 (by omega) hr hav HCB.out k)
          rw [he, if_pos rfl] at cA
          have HFN := Lib.hid (fnds_get rs' (dend D))
          have hfl := fnds_len rs' (dend D)
          generalize dapp (1 + (q : Int)) D rs' = D2 at *
          generalize dend D = d1 at *
          generalize dstart D = d0 at *
          have hrd1 := Lib.hid hrd.1
          have hrd2 := Lib.hid hrd.2
          have hend' := Lib.hid hend
          have hstart' := Lib.hid hstart
          have hfl' := Lib.hid hfl
          clear hrd hr hav L3 L2 he hG2 hend hstart hfl m0 m1 m2 m3 m4
          go_wp2_with fail
          refine cA.out _ ?_
          intro bs2 w4 L4 K4 C4
          have hM4 : ∀ x ∈ bs2, w.heap.size ≤ x := fun x hx => (C4 x hx).elim (hM x) fun h => Nat.le_trans hz3 h
          have hn4 := Lib.hid (Kept.below hn3.out K4 hM hz3)
          have hr4 := Lib.hid (hr0.out.kept K4 hav0.out)
          have cS := Lib.hid (span6D L4 (by omega))
          rw [hend'.out, hstart'.out] at cS
          have HM4 := Lib.hid hM4
          clear cA K4 C4 hr0 hav0 hn3 hM4
          go_wp2_with fail
          refine cS.out.use ?_
          intro w5 b5
          have L5 := Lib.hid (L4.below b5)
          have hn5 := Lib.hid (below_any (Nat.le_refl _) hn4.out b5)
          have hr5 := Lib.hid (hr4.out.below b5)
          have cD := Lib.hid (fun R k => read6_use (R := R) d1 (rs'.length : Int) L5.out (by omega) (by omega) k)
          rw [hrd1.out, hrd2.out] at cD
          clear cS L4 b5 hn4 hr4 hrd1 hrd2
          go_wp2_with fail
          refine cD.out _ ?_
          intro v6 w6 o6 b6
          have L6 := Lib.hid (L5.out.below b6)
          have hn6 := Lib.hid (below_any (Nat.le_refl _) hn5.out b6)
          have hr6 := Lib.hid (hr5.out.below b6)
          have hf6 := Lib.hid (fnds_own o6)
          rw [hfl'.out] at o6
          obtain ⟨fa, fc, rfl⟩ := own_form o6
          have e1 : IntKind.i64.wrap (d1 + (rs'.length : Int)) = d1 + (rs'.length : Int) := by rw [IntKind.wrap_i64]; omega
          clear cD L5 hn5 hr5 o6 b6
          go_wp2_with fail
          clear e1
          go_loopw [18] (fun (v18 : Value) (W : World) => ∃ k : Nat, k ≤ rs'.length ∧ v18 = .int .i64 (k : Int) ∧ Below w6.heap.size w6 W) (fun (v18 : Value) (W : World) => (rs'.length - intOf v18).toNat)
          case atStart => exact ⟨0, by omega, rfl, Below.refl _ _⟩
          case round =>
            obtain ⟨k, hk, rfl, hb⟩ := hrel
            by_cases hkl : k < rs'.length
            · rcases hf6.out.below hb with ⟨h, _⟩ | ⟨xb, xo, xc, hsl, _, _, hxl, hxc⟩
              · rw [← hfl'.out, h] at hkl; simp at hkl
              rcases hr6.out.below hb with ⟨h, _⟩ | ⟨yb, yo, yc, hsl2, _, hyl, hyc⟩
              · rw [h] at hkl; simp at hkl
              simp only [Value.slice.injEq, hfl'.out, true_and] at hsl
              simp only [Value.slice.injEq, true_and] at hsl2
              obtain ⟨rfl, rfl⟩ := hsl
              obtain ⟨rfl, rfl⟩ := hsl2
              have hx := hxc k (by rw [hfl'.out]; exact hkl)
              rw [HFN.out k (by rw [hfl'.out]; exact hkl)] at hx
              obtain ⟨x0, x1, x2, x3, x4⟩ := hx
              obtain ⟨y0, y1, y2, y3⟩ := hyc k hkl
              have hqn := neq_rec rs'[k] rs'[k]
              simp only [decide_true, Bool.not_true] at hqn
              dsimp only at x0 x1 x2 x3 x4
              generalize rs'[k] = r at *
              have e1 : IntKind.i64.wrap (d1 + (k : Int)) = d1 + (k : Int) := by rw [IntKind.wrap_i64]; omega
              have i1 : (0 : Int) ≤ (k : Int) := by omega
              have i2 : (k : Int) < (rs'.length : Int) := by omega
              clear hxc hyc
              go_wp2_with fail
              go_quiet (fail)
              go_wp2_with fail
              go_roundw
              case rel => exact ⟨k + 1, by omega, by go_num, belowN hb _⟩
              case measure => first | (simp [intOf]; done) | (simp [intOf]; omega)
            · have i2 : ¬ (k : Int) < (rs'.length : Int) := by omega
              have LT := L6.out.below hb
              have hnT := Lib.hid (below_any (Nat.le_refl _) hn6.out hb)
              have hMT := HM4.out
              have hlT : D2.length ≤ i + 2 := by omega
              have t1 : (dstart D2 < d0) = False := eq_false (by have := hstart'.out; omega)
              have t2 : (dend D2 < d1) = False := eq_false (by have := hend'.out; omega)
              have t3 : (dend D2 < dstart D2) = False := eq_false (by omega)
              clear hbd
              have cS := Lib.hid (span6D LT (by omega))
              generalize dstart D2 = e0 at *
              generalize dend D2 = e1 at *
              clear hbd2
              go_wp2_with fail
              refine cS.out.use ?_
              intro w9 b9
              go_wp2_with fail
              go_roundw
              case rel => exact ⟨i + 1, D2, bs2, by omega, by omega, by go_num, LT.below b9, by omega, below_any (Nat.le_refl _) hnT.out b9, hMT⟩
              case measure => first | (simp [intOf]; done) | (simp [intOf]; omega)
        · have cA := Lib.hid (fun R k => append6_use (R := R) L3 (by omega) hr hav HCB.out k)
          rw [if_neg he, dapp_no he] at cA
          generalize aerr6 (1 + (q : Int)) D rs' = e at *
          have t1 : ((e : Int) != 0) = true := by simpa using he
          clear hr hav L3 L2 he m0 m1 m2 m3 m4
          go_wp2_with fail
          refine cA.out _ ?_
          intro bs2 w4 L4 K4 C4
          have hM4 : ∀ x ∈ bs2, w.heap.size ≤ x := fun x hx => (C4 x hx).elim (hM x) fun h => Nat.le_trans hz3 h
          have hn4 := Lib.hid (Kept.below hn3.out K4 hM hz3)
          have cS := Lib.hid (span6D L4 (by omega))
          have HM4 := Lib.hid hM4
          clear cA K4 C4 hr0 hav0 hn3 hM4
          generalize dend D = d1 at *
          generalize dstart D = d0 at *
          go_wp2_with fail
          refine cS.out.use ?_
          intro w5 b5
          go_wp2_with fail
          go_roundw
          case rel => exact ⟨i + 1, D, bs2, by omega, by omega, by go_num, L4.below b5, by omega, below_any (Nat.le_refl _) hn4.out b5, HM4.out⟩
          case measure => first | (simp [intOf]; done) | (simp [intOf]; omega)
      · have u0 : (kind == 0) = false := by simpa using hk0
        by_cases hk2 : kind = 2
        · subst hk2
          have cA := Lib.hid (fun R k => retain6_use (R := R) fr L2.out (by omega) k)
          have hlt2 := nret_lt hGd.out.2.2.1 fr
          have hst := dstart_drop hGd.out hlt2
          have hen := dend_drop hlt2
          have hbd2 := (hGd.out.retain fr).end_bd
          have hlen : (D.drop (nret fr D)).length ≤ D.length := by rw [List.length_drop]; omega
          generalize D.drop (nret fr D) = D2 at *
          generalize nret fr D = nr at *
          generalize dend D = d1 at *
          generalize dstart D = d0 at *
          have hen' := Lib.hid hen
          clear hen HR3 HR2
          go_wp2_with fail
          refine cA.out _ ?_
          intro bs2 w4 L4 K4 C4
          have hMT : ∀ x ∈ bs2, w.heap.size ≤ x := fun x hx => (C4 x hx).elim (hM x) fun h => Nat.le_trans hz2 h
          have hnT := Lib.hid (Kept.below hn2.out K4 hM hz2)
          have LT := L4
          have hlT : D2.length ≤ i + 2 := by omega
          have t1 : (dstart D2 < d0) = False := eq_false (by omega)
          have t2 : (dend D2 < d1) = False := eq_false (by have := hen'.out; omega)
          have t3 : (dend D2 < dstart D2) = False := eq_false (by omega)
          clear cA K4 C4 L4 m0 m1 m2 m3 m4 L2
          have cS := Lib.hid (span6D LT (by omega))
          generalize dstart D2 = e0 at *
          generalize dend D2 = e1 at *
          clear hbd2
          go_wp2_with fail
          refine cS.out.use ?_
          intro w9 b9
          go_wp2_with fail
          go_roundw
          case rel => exact ⟨i + 1, D2, bs2, by omega, by omega, by go_num, LT.below b9, by omega, below_any (Nat.le_refl _) hnT.out b9, hMT⟩
          case measure => first | (simp [intOf]; done) | (simp [intOf]; omega)
        · have u2 : (kind == 2) = false := by simpa using hk2
          by_cases hk3 : kind = 3
          · subst hk3
            have cA := Lib.hid (fun R k => compact6_use (R := R) L2.out (by omega) k)
            have hcu := dcmp_cut D
            have hst := Lib.hid (cuts_start hcu)
            have hen := Lib.hid (cuts_end hcu)
            have hbd2 := hGd.out.cmp.end_bd
            have hlen := cuts_len hcu
            generalize dcmp D = D2 at *
            generalize ncmp D = nr at *
            generalize dend D = d1 at *
            generalize dstart D = d0 at *
            have HLN := Lib.hid hlen
            clear HR3 HR2 hcu hlen
            go_wp2_with fail
            refine cA.out _ ?_
            intro bs2 w4 L4 K4 C4
            have hMT : ∀ x ∈ bs2, w.heap.size ≤ x := fun x hx => (C4 x hx).elim (hM x) fun h => Nat.le_trans hz2 h
            have hnT := Lib.hid (Kept.below hn2.out K4 hM hz2)
            have LT := L4
            have hlT : D2.length ≤ i + 2 := by have := HLN.out; omega
            have t1 : (dstart D2 < d0) = False := eq_false (by have := hst.out; omega)
            have t2 : (dend D2 < d1) = False := eq_false (by have := hen.out; omega)
            have t3 : (dend D2 < dstart D2) = False := eq_false (by omega)
            clear cA K4 C4 L4 m0 m1 m2 m3 m4 L2
            have cS := Lib.hid (span6D LT (by omega))
            generalize dstart D2 = e0 at *
            generalize dend D2 = e1 at *
            clear hbd2
            go_wp2_with fail
            refine cS.out.use ?_
            intro w9 b9
            go_wp2_with fail
            go_roundw
            case rel => exact ⟨i + 1, D2, bs2, by omega, by omega, by go_num, LT.below b9, by omega, below_any (Nat.le_refl _) hnT.out b9, hMT⟩
            case measure => first | (simp [intOf]; done) | (simp [intOf]; omega)
          · have u3 : (kind == 3) = false := by simpa using hk3
            have LT := L2.out
            have hMT := hM
            have hnT := hn2
            have hlT : D.length ≤ i + 2 := by omega
            have hbd2 := hGd.out.end_bd
            obtain ⟨bs2, hbs2⟩ : ∃ b, bs = b := ⟨_, rfl⟩
            obtain ⟨D2, hD2⟩ : ∃ D2, D = D2 := ⟨_, rfl⟩
            subst hbs2
            have t1 : (dstart D < dstart D) = False := eq_false (by omega)
            have t2 : (dend D < dend D) = False := eq_false (by omega)
            have t3 : (dend D < dstart D) = False := eq_false (by omega)
            clear HR3 HR2 L2 hD2
            clear D2
            have cS := Lib.hid (span6D LT (by omega))
            generalize dstart D = e0 at *
            generalize dend D = e1 at *
            clear hbd2
            go_wp2_with fail
            refine cS.out.use ?_
            intro w9 b9
            go_wp2_with fail
            go_roundw
            case rel => exact ⟨i + 1, D, bs, by omega, by omega, by go_num, LT.below b9, by omega, below_any (Nat.le_refl _) hnT.out b9, hMT⟩
            case measure => first | (simp [intOf]; done) | (simp [intOf]; omega)
    · have cF := fun w => fixed6 w
      clear hL
      by_cases hi1 : i < l.length
      · have j2 : ((i : Int) < (l.length : Int)) = True := eq_true (by omega)
        have j3 : ((i : Int) < 30) = False := eq_false (by omega)
        clear hgo
        go_wp2_with fail
        refine (cF _).use ?_
        intro w9 b9
        go_wp2_with fail
        exact finB hR (below_any (Nat.le_refl _) hnx b9) rfl
      · have j2 : ((i : Int) < (l.length : Int)) = False := eq_false (by omega)
        clear hgo
        go_wp2_with fail
        refine (cF _).use ?_
        intro w9 b9
        go_wp2_with fail
        exact finB hR (below_any (Nat.le_refl _) hnx b9) rfl
end Go.Proofs.Ytkfglnhapcceaaa.plogOffsets
