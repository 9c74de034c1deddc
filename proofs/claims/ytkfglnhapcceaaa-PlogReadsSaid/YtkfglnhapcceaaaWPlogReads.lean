/-
  The walk of PlogReads.
-/
import Derived.Test.YtkfglnhapcceaaaLogX
import Derived.Test.YtkfglnhapcceaaaLogZ
import Derived.Test.YtkfglnhapcceaaaFix6
set_option linter.unusedVariables false
set_option linter.unusedSimpArgs false
namespace Go.Proofs.Ytkfglnhapcceaaa.plogReads
open Go.RowKit
attribute [local go_sem] ByteArray.extract_mk ByteArray.mk_append_mk

def rab : Rec := rkv 97 98
theorem one_app {q : Nat} {D : List Sd} (hg : Good (1 + (q : Int)) D) (he : dend D ≤ 1000) : aerr6 (1 + (q : Int)) D [rab] = 0 := aerr_ok (by decide +kernel) (by show ((1 : Nat) : Int) ≤ _; omega) (by show dend D + ((1 : Nat) : Int) ≤ _; omega)

set_option maxHeartbeats 8000000 in
set_option maxRecDepth 100000 in
theorem walk {w : World} (room : Int) (v : Value) (l : List Op6) (n : Int) (_ : -9223372036854775808 ≤ room ∧ room ≤ 9223372036854775807) (hl : Ops6In w v l) (hw : l.length ≤ maxLen) (_ : -9223372036854775808 ≤ n ∧ n ≤ 9223372036854775807) : RetB Try.prog 8 #[.int .i64 room, v, .int .i64 n] w (.bool true) := by
  refine RetB.intro fun R hR => ?_
  obtain ⟨i0, hi, hz0, hz1, hz2⟩ := info_parts fndInfo
  obtain ⟨q, hq, hq2⟩ : ∃ q : Nat, bits .and .i64 room 15 = (q : Int) ∧ q < 16 := ⟨_, and_low room 15 4 rfl (by omega), Nat.mod_lt _ (by decide)⟩
  obtain ⟨m, hm, hm2⟩ : ∃ m : Nat, bits .and .i64 n 7 = (m : Int) ∧ m < 8 := ⟨_, and_low n 7 3 rfl (by omega), Nat.mod_lt _ (by decide)⟩
  have HMM := Lib.hid hm
  have hll : l.length ≤ 9223372036854775807 := by unfold maxLen at hw; omega
  have HL := Lib.hid hl
  obtain ⟨a, cap, rfl⟩ := hl.form
  have ck := Lib.hid (fun w => key6 [97] [98] w)
  clear hl hw hm
  go_enter Try.func8, Try.ntmps8
  go_wp2_with fail
  refine new6_use _ (1 + (q : Int)) (by omega) ?_
  intro g b1 w1 L1 B1 M1
  go_wp2_with fail
  clear hq
  go_loopw [9] (fun (v9 : Value) (W : World) => ∃ (i : Nat) (D : List Sd) (bs : List Nat), i ≤ l.length ∧ i ≤ 30 ∧ v9 = .int .i64 (i : Int) ∧ LogD W g bs (1 + (q : Int)) D ∧ D.length ≤ i + 1 ∧ Hid ((dall D).length ≤ i ∧ dend D ≤ i) ∧ Below w.heap.size w W ∧ (∀ x ∈ bs, w.heap.size ≤ x)) (fun (v9 : Value) (W : World) => (l.length - intOf v9).toNat)
  case atStart => exact ⟨0, _, b1, by omega, by omega, rfl, L1, by simp, Lib.hid ⟨by simp [dall], by simp [dend]⟩, B1, M1⟩
  case round =>
    obtain ⟨i, D, bs, hil, hi40, rfl, hL, hDl, hal, hnx, hM⟩ := hrel
    by_cases hgo : i < l.length ∧ i < 30
    · obtain ⟨h1, h2⟩ := hgo
      rcases HL.out with ⟨h, _⟩ | ⟨b, off, cap', hsl, hne, hlt, hc, hq⟩
      · rw [h] at h1; simp at h1
      simp only [Value.slice.injEq, true_and] at hsl
      obtain ⟨rfl, rfl⟩ := hsl
      obtain ⟨c0, c1, c2, c3⟩ := hc i h1
      have hop := hq _ (List.getElem_mem h1)
      have hc3 : l[i].rs.length ≤ 9223372036854775807 := by have := hop.2.1.1; unfold maxLen at this; omega
      generalize l[i] = o at *
      obtain ⟨kind, fr, n5, la, lc, rs⟩ := o
      dsimp only at c0 c1 c2 c3 hc3
      have j0 : (0 : Int) ≤ (i : Int) := by omega
      have j1 : (i : Int) < (l.length : Int) := by omega
      have j2 : (i : Int) < 30 := by omega
      have hGd := Lib.hid hL.good
      have HLD := Lib.hid hL
      have hz2 := hnx.size
      have HNX := Lib.hid hnx
      have CC := Lib.hid (fun W (hb : Below w.heap.size w W) => (hb.cell (p := ⟨b, off + i * 4, none⟩) hlt).trans c0)
      have c3 := (hnx.cell (p := ⟨b, off + i * 4 + 3, none⟩) hlt).trans c3
      have hltr : b < wr.heap.size := Nat.lt_of_lt_of_le hlt hnx.size
      clear hc hq hne hL hop c0 c1 c2 hnx
      by_cases hap : 0 < rs.length
      · have t1 : ((0 : Int) < (rs.length : Int)) = True := eq_true (by omega)
        have t2 : (0 < rs.length) = True := eq_true hap
        go_wp2_with fail
        refine (ck.out _).use ?_
        intro w3 B3
        have L3 := HLD.out.below B3
        have G3 := below_any (Nat.le_refl _) HNX.out B3
        have r3 := recs_lit (w := w3) [rab] #[.bool true, .string (S [97]), .bool false, .string (S [98])] rfl (by decide)
        have a3 : Away bs (.slice (some ⟨w3.heap.size, 0, none⟩) 1 1) := away_new L3.lt
        have A4 : Below w3.heap.size w3 (w3.alloc (.cells #[.bool true, .string (S [97]), .bool false, .string (S [98])] 29)) := below_all (Below.refl _ _)
        have L4 := Lib.hid (L3.below A4)
        have G4 := Lib.hid (below_any (Nat.le_refl _) G3 A4)
        have R3 := Lib.hid r3
        have A3 := Lib.hid a3
        have hz4 := G4.out.size
        have he := one_app hGd.out (by have := hal.out; omega)
        have hend := dapp_end hGd.out.2.2.1 he
        have hlen := dapp_len (room := 1 + (q : Int)) (D := D) (rs := [rab])
        have hall := congrArg List.length (dapp_all hGd.out.2.2.1 he)
        rw [List.length_append, fnds_len] at hall
        have hG2 := hGd.out.app he
        have cA := Lib.hid (fun R k => append6_use (R := R) (rs := [rab]) L4.out (by omega) R3.out A3.out (bd_small _ (by decide +kernel)) k)
        rw [he, if_pos rfl] at cA
        generalize dapp (1 + (q : Int)) D [rab] = D2 at *
        have hal2 : Hid ((dall D2).length ≤ i + 1 ∧ dend D2 ≤ (i + 1 : Nat)) := Lib.hid (by have := hal.out; simp at hall hend; omega)
        have hG2' := Lib.hid hG2
        clear HLD HNX L3 G3 r3 a3 A4 B3 hend hall he hGd hG2 c3
        go_wp2_with fail
        refine cA.out _ ?_
        intro bs2 w4 L5 K5 C5
        have hM5 : ∀ x ∈ bs2, w.heap.size ≤ x := fun x hx => (C5 x hx).elim (hM x) fun h => by omega
        have hn5 := Kept.below G4.out K5 hM hz4
        have hlT : D2.length ≤ i + 1 + 1 := by omega
        have hnT := Lib.hid hn5
        have hzT := hn5.size
        have LT := Lib.hid L5
        have hMT := hM5
        have hgT := hG2'
        have hlD : Hid ((dall D2).length ≤ i + 1 ∧ dend D2 ≤ (i + 1 : Nat)) := hal2
        have cT := CC.out _ hn5
        have ltT : b < w4.heap.size := by omega
        clear cA L5 K5 C5 hn5 hM5 hG2' hal2 hlen
        by_cases hk3 : kind = 3
        · subst hk3
          have cK := Lib.hid (fun R k => compact6_use (R := R) LT.out (by omega) k)
          have hcu := dcmp_cut D2
          have hsb := (keeps_all hcu).length_le
          have hen := cuts_end hcu
          have hcl := cuts_len hcu
          have hlE : Hid ((dall (dcmp D2)).length ≤ i + 1 ∧ dend (dcmp D2) ≤ (i + 1 : Nat)) := Lib.hid (by have := hlD.out; omega)
          have hlF : (dcmp D2).length ≤ i + 1 + 1 := by omega
          generalize dcmp D2 = D3 at *
          generalize ncmp D2 = nr at *
          clear hcu hsb hen hcl LT
          go_wp2_with fail
          refine cK.out _ ?_
          intro bs3 w5 L6 K6 C6
          have hM6 : ∀ x ∈ bs3, w.heap.size ≤ x := fun x hx => (C6 x hx).elim (hMT x) fun h => by omega
          have hn6 := Kept.below hnT.out K6 hMT hzT
          have HL6 := Lib.hid L6
          have HN6 := Lib.hid hn6
          clear cK L6 K6 C6 hn6
          go_wp2_with fail
          go_roundw
          case rel => exact ⟨i + 1, D3, bs3, by omega, by omega, by go_num, HL6.out, hlF, hlE, HN6.out, hM6⟩
          case measure => first | (simp [intOf]; done) | (simp [intOf]; omega)
        · have u3 : (kind == 3) = false := by simpa using hk3
          go_wp2_with fail
          go_roundw
          case rel => exact ⟨i + 1, D2, bs2, by omega, by omega, by go_num, LT.out, hlT, hlD, hnT.out, hMT⟩
          case measure => first | (simp [intOf]; done) | (simp [intOf]; omega)
      · have t1 : ((0 : Int) < (rs.length : Int)) = False := eq_false (by omega)
        have t2 : (0 < rs.length) = False := eq_false hap
        have hlT : D.length ≤ i + 1 + 1 := by omega
        have hnT := HNX
        have hzT := HNX.out.size
        have LT := HLD
        have hMT := hM
        have hgT := hGd
        have hlD : Hid ((dall D).length ≤ i + 1 ∧ dend D ≤ (i + 1 : Nat)) := Lib.hid (by have := hal.out; omega)
        have cT := CC.out _ HNX.out
        have ltT := hltr
        clear HLD HNX hGd
        by_cases hk3 : kind = 3
        · subst hk3
          have cK := Lib.hid (fun R k => compact6_use (R := R) LT.out (by omega) k)
          have hcu := dcmp_cut D
          have hsb := (keeps_all hcu).length_le
          have hen := cuts_end hcu
          have hcl := cuts_len hcu
          have hlE : Hid ((dall (dcmp D)).length ≤ i + 1 ∧ dend (dcmp D) ≤ (i + 1 : Nat)) := Lib.hid (by have := hlD.out; omega)
          have hlF : (dcmp D).length ≤ i + 1 + 1 := by omega
          generalize dcmp D = D3 at *
          generalize ncmp D = nr at *
          clear hcu hsb hen hcl LT
          go_wp2_with fail
          refine cK.out _ ?_
          intro bs3 w5 L6 K6 C6
          have hM6 : ∀ x ∈ bs3, w.heap.size ≤ x := fun x hx => (C6 x hx).elim (hMT x) fun h => by omega
          have hn6 := Kept.below hnT.out K6 hMT hzT
          have HL6 := Lib.hid L6
          have HN6 := Lib.hid hn6
          clear cK L6 K6 C6 hn6
          go_wp2_with fail
          go_roundw
          case rel => exact ⟨i + 1, D3, bs3, by omega, by omega, by go_num, HL6.out, hlF, hlE, HN6.out, hM6⟩
          case measure => first | (simp [intOf]; done) | (simp [intOf]; omega)
        · have u3 : (kind == 3) = false := by simpa using hk3
          go_wp2_with fail
          go_roundw
          case rel => exact ⟨i + 1, D, bs, by omega, by omega, by go_num, LT.out, hlT, hlD, hnT.out, hMT⟩
          case measure => first | (simp [intOf]; done) | (simp [intOf]; omega)
    · have hG := hL.good
      have hA30 : (dall D).length ≤ 30 := by have := hal.out; omega
      have hrs := dall_rise hG
      have hbd := hG.end_bd
      have cF := Lib.hid (fun w => fixed6 w)
      have cS := Lib.hid (span6D hL (by omega))
      have hda := dread_all hG (by omega)
      have hre : rerr (dstart D) D = 0 := rerr_in (Int.le_refl _) hbd.2.1
      have hL0 := Lib.hid hL
      have hdt := Lib.hid (fun at_ n p h h1 h2 => dread_at (room := 1 + (q : Int)) (D := D) (at_ := at_) (n := n) (p := p) hG h h1 h2)
      obtain ⟨A, hA⟩ : ∃ A, dall D = A := ⟨_, rfl⟩
      rw [hA] at hrs hda hdt hA30
      have HRS := Lib.hid hrs
      have cD := fun R w2 (hL2 : LogD w2 g bs (1 + (q : Int)) D) k => read6_use (R := R) (dstart D) 1048576 hL2 (by omega) (by decide) k
      rw [hda, hre] at cD
      have CD := Lib.hid cD
      clear ck hal hL hA cD hda hre hrs hG
      generalize dstart D = s0 at *
      generalize dend D = e0 at *
      have hHM := HMM
      clear HMM
      by_cases hi1 : i < l.length
      · have j2 : ((i : Int) < (l.length : Int)) = True := eq_true (by omega)
        have j3 : ((i : Int) < 30) = False := eq_false (by omega)
        clear hgo
        go_wp2_with fail
        refine cS.out.use ?_
        intro w2 b2
        have hL2 := Lib.hid (hL0.out.below b2)
        have hn2 := Lib.hid (below_any (Nat.le_refl _) hnx b2)
        clear cS b2 hnx hL0
        go_wp2_with fail
        refine CD.out _ _ hL2.out ?_
        intro v12 w3 o3 b3
        have hL3 := Lib.hid (hL2.out.below b3)
        have hn3 := Lib.hid (below_any (Nat.le_refl _) hn2.out b3)
        have hall := Lib.hid (fnds_own o3)
        obtain ⟨xa, xc, rfl⟩ := own_form o3
        have hHM2 := hHM.out
        clear CD b3 hL2 hn2 o3
        go_wp2_with fail
        have g0 : (w3.alloc (.cells #[] 31)).ownsRow w3.heap.size 31 5 (.slice (some ⟨w3.heap.size, 0, none⟩) 0 0) 0 [] := World.ownsRow_made w3 #[] 0 (Nat.le_refl _) (by omega) rfl
        clear hHM2
        go_loopw [15, 16, 17] (fun (v15 v16 v17 : Value) (W : World) => ∃ (r p : Nat) (at_ : Int), r ≤ p ∧ r ≤ 40 ∧ v17 = .int .i64 (r : Int) ∧ v15 = .int .i64 at_ ∧ Hid (AtP A at_ p) ∧ s0 ≤ at_ ∧ at_ ≤ e0 ∧ W.ownsRow w3.heap.size 31 5 v16 p ((A.take p).flatMap Fnd.cells) ∧ Below w3.heap.size w3 W) (fun (v15 v16 v17 : Value) (W : World) => (41 - intOf v17).toNat)
        case atStart => exact ⟨0, 0, s0, by omega, by omega, rfl, rfl, Lib.hid (AtP.start fun f hf => (HRS.out.2 f hf).1), by omega, by omega, by simpa using g0, below_all (Below.refl _ _)⟩
        case round =>
          obtain ⟨r, p, at_, hrp, hr40, rfl, rfl, hat, hs, he, hown, hbb⟩ := hrel
          have hpA := hat.out.1
          clear g0
          by_cases h40 : r < 40
          · by_cases hae : at_ < e0
            · have u1 : ((r : Int) < 40) = True := eq_true (by omega)
              have u2 : (at_ < e0) = True := eq_true hae
              obtain ⟨hre, hdr⟩ := hdt.out at_ (1 + (m : Int)) p hat.out hs he
              have cX := fun R k => read6_use (R := R) at_ (1 + (m : Int)) (hL3.out.below hbb) (by omega) (by omega) k
              rw [hre, hdr] at cX
              have CX := Lib.hid cX
              have hXl : ((A.drop p).take (1 + (m : Int)).toNat).length ≤ 1 + m := by rw [List.length_take]; omega
              have hXp : p + ((A.drop p).take (1 + (m : Int)).toNat).length ≤ A.length := by rw [List.length_take, List.length_drop]; omega
              have hXn : ((A.drop p).take (1 + (m : Int)).toNat).length = 0 → p = A.length := fun h => by rw [List.length_take, List.length_drop] at h; omega
              have hXt : A.take (p + ((A.drop p).take (1 + (m : Int)).toNat).length) = A.take p ++ (A.drop p).take (1 + (m : Int)).toNat := by
                rw [List.take_add]
                congr 1
                rw [List.length_take, List.length_drop]
                by_cases h : (1 + (m : Int)).toNat ≤ A.length - p
                · rw [Nat.min_eq_left h]
                · rw [Nat.min_eq_right (by omega), List.take_of_length_le (by rw [List.length_drop]; omega), List.take_of_length_le (by rw [List.length_drop]; omega)]
              have hXg : ∀ j, j < ((A.drop p).take (1 + (m : Int)).toNat).length → ((A.drop p).take (1 + (m : Int)).toNat)[j]? = A[p + j]? := fun j h => by
                rw [List.length_take, List.length_drop] at h
                rw [List.getElem?_take_of_lt (by omega), List.getElem?_drop]
              generalize (A.drop p).take (1 + (m : Int)).toNat = X at *
              have HXT := Lib.hid hXt
              have HXG := Lib.hid hXg
              have HXN := Lib.hid hXn
              clear cX hre hdr hXt hXg hXn
              have HOW := Lib.hid hown
              obtain ⟨va, vc, rfl⟩ := own_form hown
              clear hown
              go_wp2_with fail
              refine CX.out _ ?_
              intro v5 w5 o5 b5
              have hb5 := below_any (Nat.le_refl _) hbb b5
              have ho5 := own_keptBy HOW.out (Kept.ofBelow b5 []) (away_nil _)
              have hz5 := hb5.size
              have hfx := fcells_len X
              have HFX := Lib.hid hfx
              clear hfx CX
              rcases own_cases o5 with ⟨rfl, hx0⟩ | ⟨xb, xq, rfl, hx1, hx2, hx3⟩
              · obtain rfl : X = [] := List.eq_nil_of_length_eq_zero hx0
                obtain rfl : p = A.length := HXN.out rfl
                have hgot : w5.ownsRow w3.heap.size 31 5 (.slice va A.length vc) A.length (A.flatMap Fnd.cells) := by
                  have := ho5; rwa [List.take_length] at this
                have hbb := hb5
                clear o5 b5 ho5 HOW HXT HXG HXN HFX hx0
                have HFN := cF
                go_wp2_with fail
                refine ((found5 _ _ A A _ (hall.out.below hbb) (fnds_own (B := w3.heap.size) hgot) (Nat.le_trans hA30 (by decide)) (Nat.le_trans hA30 (by decide))).cast (v' := .bool true) (by simp)).use ?_
                intro w8 b8
                go_wp2_with fail
                refine (HFN.out _).use ?_
                intro w9 b9
                go_wp2_with fail
                exact finB hR (below_any (Nat.le_refl _) (below_any (Nat.le_refl _) (below_any (Nat.le_refl _) hn3.out hbb) b8) b9) rfl
              · by_cases hx0 : X.length = 0
                · obtain rfl : p = A.length := HXN.out hx0
                  have hgot : w5.ownsRow w3.heap.size 31 5 (.slice va A.length vc) A.length (A.flatMap Fnd.cells) := by
                    have := ho5; rwa [List.take_length] at this
                  have hbb := hb5
                  obtain rfl : X = [] := List.eq_nil_of_length_eq_zero hx0
                  clear hx0 hx3
                  clear o5 b5 ho5 HOW HXT HXG HXN HFX
                  have HFN := cF
                  go_wp2_with fail
                  refine ((found5 _ _ A A _ (hall.out.below hbb) (fnds_own (B := w3.heap.size) hgot) (Nat.le_trans hA30 (by decide)) (Nat.le_trans hA30 (by decide))).cast (v' := .bool true) (by simp)).use ?_
                  intro w8 b8
                  go_wp2_with fail
                  refine (HFN.out _).use ?_
                  intro w9 b9
                  go_wp2_with fail
                  exact finB hR (below_any (Nat.le_refl _) (below_any (Nat.le_refl _) (below_any (Nat.le_refl _) hn3.out hbb) b8) b9) rfl
                · have HX3 := Lib.hid hx3
                  have hlast := (fnds_own o5)
                  rcases hlast with ⟨h, _⟩ | ⟨yb, yo, yc, hsl, _, _, hyl, hyc⟩
                  · rw [h] at hx0; simp at hx0
                  simp only [Value.slice.injEq, Option.some.injEq, Addr.mk.injEq, true_and] at hsl
                  obtain ⟨⟨rfl, rfl, _⟩, rfl⟩ := hsl
                  have hyk := (hyc (X.length - 1) (by omega)).1
                  have hxe : X[X.length - 1]'(by omega) = A[p + (X.length - 1)]'(by omega) := by
                    have h := HXG.out (X.length - 1) (by omega)
                    rw [List.getElem?_eq_getElem (by omega), List.getElem?_eq_getElem (by omega)] at h
                    simpa using h
                  rw [hxe, Nat.zero_add] at hyk
                  have hnext := Lib.hid (hat.out.next HRS.out.1 (m := X.length) (by omega) hXp)
                  have hoff : s0 ≤ (A[p + (X.length - 1)]'(by omega)).off ∧ (A[p + (X.length - 1)]'(by omega)).off < e0 := by
                    have h := HRS.out.2 _ (List.getElem_mem (show p + (X.length - 1) < A.length by omega))
                    exact ⟨h.1, h.2.1⟩
                  have hof2 : (A[p + X.length - 1]'(by omega)).off = (A[p + (X.length - 1)]'(by omega)).off := by congr 2; omega
                  rw [hof2] at hnext
                  generalize (A[p + (X.length - 1)]'(by omega)).off = y at *
                  have x1 : ((X.length : Int) == 0) = false := by simp; omega
                  have x2 : IntKind.i64.wrap ((X.length : Int) - 1) = ((X.length - 1 : Nat) : Int) := by rw [IntKind.wrap_i64]; omega
                  have x3 : (1 + (m : Int) < (X.length : Int)) = False := eq_false (by omega)
                  have x4 : (0 : Int) ≤ ((X.length - 1 : Nat) : Int) := by omega
                  have x5 : ((X.length - 1 : Nat) : Int) < (X.length : Int) := by omega
                  have HO5 := Lib.hid ho5
                  have O5 := Lib.hid o5
                  have HAP := Lib.hid (show (Value.slice va p vc).ownBlock ≠ some xb from fun e => by have := (HOW.out.lt xb e).2; omega)
                  clear hyc o5 b5 HOW hx3 HXG HXN hx0 hof2 hxe
                  have hoB := HO5.out
                  clear ho5
                  go_wp2_with (at_builtin; refine wpList_append_own_at _ rfl _ _ 24 rfl w3.heap.size 31 i0 _ 5 56 Try.underlying24 hi hz0 hz1 hz2 rfl (by decide) _ _ _ rfl hoB ⟨xb, 0, none⟩ X.length xq (X.flatMap Fnd.cells) rfl HFX.out HX3.out (fcells_one _) (by unfold maxLen; omega) (by omega) (by omega) ?_)
                  intro v6 w6 o6 g6 z6 at6
                  have hb6 := Kept.below hb5 (Kept.ofGrown g6) (by intro x hx; simp only [Option.mem_toList] at hx; exact (hoB.lt x hx).1) hz5
                  have hyk6 := (World.cell?_of_block (a := ⟨xb, (X.length - 1) * 5, none⟩) (g6.block xb hyl (fun e => HAP.out e.symm))).trans hyk
                  have hzx : xb < w6.heap.size := Nat.lt_of_lt_of_le hyl g6.size
                  have HO6 := Lib.hid o6
                  have HB6 := Lib.hid hb6
                  have x6 : IntKind.i64.wrap (y + 1) = y + 1 := by rw [IntKind.wrap_i64]; omega
                  clear hyk hb6 o6 g6 z6 at6 hb5 hoB
                  go_wp2_with fail
                  go_roundw
                  case rel => exact ⟨r + 1, p + X.length, y + 1, by omega, by omega, by go_num, rfl, hnext, by omega, by omega, by rw [HXT.out, List.flatMap_append]; exact HO6.out, HB6.out⟩
                  case measure => first | (simp [intOf]; done) | (simp [intOf]; omega)
            · have u1 : ((r : Int) < 40) = True := eq_true (by omega)
              have u2 : (at_ < e0) = False := eq_false hae
              obtain rfl : p = A.length := hat.out.stop (by omega) (fun f hf => (HRS.out.2 f hf).2.1)
              obtain ⟨va, vc, rfl⟩ := own_form hown
              have hgot : wr.ownsRow w3.heap.size 31 5 (.slice va A.length vc) A.length (A.flatMap Fnd.cells) := by
                have := hown; rwa [List.take_length] at this
              clear hown hat
              have HFN := cF
              go_wp2_with fail
              refine ((found5 _ _ A A _ (hall.out.below hbb) (fnds_own (B := w3.heap.size) hgot) (Nat.le_trans hA30 (by decide)) (Nat.le_trans hA30 (by decide))).cast (v' := .bool true) (by simp)).use ?_
              intro w8 b8
              go_wp2_with fail
              refine (HFN.out _).use ?_
              intro w9 b9
              go_wp2_with fail
              exact finB hR (below_any (Nat.le_refl _) (below_any (Nat.le_refl _) (below_any (Nat.le_refl _) hn3.out hbb) b8) b9) rfl
          · have := hat.out.1
            omega
      · have j2 : ((i : Int) < (l.length : Int)) = False := eq_false (by omega)
        clear hgo
        go_wp2_with fail
        refine cS.out.use ?_
        intro w2 b2
        have hL2 := Lib.hid (hL0.out.below b2)
        have hn2 := Lib.hid (below_any (Nat.le_refl _) hnx b2)
        clear cS b2 hnx hL0
        go_wp2_with fail
        refine CD.out _ _ hL2.out ?_
        intro v12 w3 o3 b3
        have hL3 := Lib.hid (hL2.out.below b3)
        have hn3 := Lib.hid (below_any (Nat.le_refl _) hn2.out b3)
        have hall := Lib.hid (fnds_own o3)
        obtain ⟨xa, xc, rfl⟩ := own_form o3
        have hHM2 := hHM.out
        clear CD b3 hL2 hn2 o3
        go_wp2_with fail
        have g0 : (w3.alloc (.cells #[] 31)).ownsRow w3.heap.size 31 5 (.slice (some ⟨w3.heap.size, 0, none⟩) 0 0) 0 [] := World.ownsRow_made w3 #[] 0 (Nat.le_refl _) (by omega) rfl
        clear hHM2
        go_loopw [15, 16, 17] (fun (v15 v16 v17 : Value) (W : World) => ∃ (r p : Nat) (at_ : Int), r ≤ p ∧ r ≤ 40 ∧ v17 = .int .i64 (r : Int) ∧ v15 = .int .i64 at_ ∧ Hid (AtP A at_ p) ∧ s0 ≤ at_ ∧ at_ ≤ e0 ∧ W.ownsRow w3.heap.size 31 5 v16 p ((A.take p).flatMap Fnd.cells) ∧ Below w3.heap.size w3 W) (fun (v15 v16 v17 : Value) (W : World) => (41 - intOf v17).toNat)
        case atStart => exact ⟨0, 0, s0, by omega, by omega, rfl, rfl, Lib.hid (AtP.start fun f hf => (HRS.out.2 f hf).1), by omega, by omega, by simpa using g0, below_all (Below.refl _ _)⟩
        case round =>
          obtain ⟨r, p, at_, hrp, hr40, rfl, rfl, hat, hs, he, hown, hbb⟩ := hrel
          have hpA := hat.out.1
          clear g0
          by_cases h40 : r < 40
          · by_cases hae : at_ < e0
            · have u1 : ((r : Int) < 40) = True := eq_true (by omega)
              have u2 : (at_ < e0) = True := eq_true hae
              obtain ⟨hre, hdr⟩ := hdt.out at_ (1 + (m : Int)) p hat.out hs he
              have cX := fun R k => read6_use (R := R) at_ (1 + (m : Int)) (hL3.out.below hbb) (by omega) (by omega) k
              rw [hre, hdr] at cX
              have CX := Lib.hid cX
              have hXl : ((A.drop p).take (1 + (m : Int)).toNat).length ≤ 1 + m := by rw [List.length_take]; omega
              have hXp : p + ((A.drop p).take (1 + (m : Int)).toNat).length ≤ A.length := by rw [List.length_take, List.length_drop]; omega
              have hXn : ((A.drop p).take (1 + (m : Int)).toNat).length = 0 → p = A.length := fun h => by rw [List.length_take, List.length_drop] at h; omega
              have hXt : A.take (p + ((A.drop p).take (1 + (m : Int)).toNat).length) = A.take p ++ (A.drop p).take (1 + (m : Int)).toNat := by
                rw [List.take_add]
                congr 1
                rw [List.length_take, List.length_drop]
                by_cases h : (1 + (m : Int)).toNat ≤ A.length - p
                · rw [Nat.min_eq_left h]
                · rw [Nat.min_eq_right (by omega), List.take_of_length_le (by rw [List.length_drop]; omega), List.take_of_length_le (by rw [List.length_drop]; omega)]
              have hXg : ∀ j, j < ((A.drop p).take (1 + (m : Int)).toNat).length → ((A.drop p).take (1 + (m : Int)).toNat)[j]? = A[p + j]? := fun j h => by
                rw [List.length_take, List.length_drop] at h
                rw [List.getElem?_take_of_lt (by omega), List.getElem?_drop]
              generalize (A.drop p).take (1 + (m : Int)).toNat = X at *
              have HXT := Lib.hid hXt
              have HXG := Lib.hid hXg
              have HXN := Lib.hid hXn
              clear cX hre hdr hXt hXg hXn
              have HOW := Lib.hid hown
              obtain ⟨va, vc, rfl⟩ := own_form hown
              clear hown
              go_wp2_with fail
              refine CX.out _ ?_
              intro v5 w5 o5 b5
              have hb5 := below_any (Nat.le_refl _) hbb b5
              have ho5 := own_keptBy HOW.out (Kept.ofBelow b5 []) (away_nil _)
              have hz5 := hb5.size
              have hfx := fcells_len X
              have HFX := Lib.hid hfx
              clear hfx CX
              rcases own_cases o5 with ⟨rfl, hx0⟩ | ⟨xb, xq, rfl, hx1, hx2, hx3⟩
              · obtain rfl : X = [] := List.eq_nil_of_length_eq_zero hx0
                obtain rfl : p = A.length := HXN.out rfl
                have hgot : w5.ownsRow w3.heap.size 31 5 (.slice va A.length vc) A.length (A.flatMap Fnd.cells) := by
                  have := ho5; rwa [List.take_length] at this
                have hbb := hb5
                clear o5 b5 ho5 HOW HXT HXG HXN HFX hx0
                have HFN := cF
                go_wp2_with fail
                refine ((found5 _ _ A A _ (hall.out.below hbb) (fnds_own (B := w3.heap.size) hgot) (Nat.le_trans hA30 (by decide)) (Nat.le_trans hA30 (by decide))).cast (v' := .bool true) (by simp)).use ?_
                intro w8 b8
                go_wp2_with fail
                refine (HFN.out _).use ?_
                intro w9 b9
                go_wp2_with fail
                exact finB hR (below_any (Nat.le_refl _) (below_any (Nat.le_refl _) (below_any (Nat.le_refl _) hn3.out hbb) b8) b9) rfl
              · by_cases hx0 : X.length = 0
                · obtain rfl : p = A.length := HXN.out hx0
                  have hgot : w5.ownsRow w3.heap.size 31 5 (.slice va A.length vc) A.length (A.flatMap Fnd.cells) := by
                    have := ho5; rwa [List.take_length] at this
                  have hbb := hb5
                  obtain rfl : X = [] := List.eq_nil_of_length_eq_zero hx0
                  clear hx0 hx3
                  clear o5 b5 ho5 HOW HXT HXG HXN HFX
                  have HFN := cF
                  go_wp2_with fail
                  refine ((found5 _ _ A A _ (hall.out.below hbb) (fnds_own (B := w3.heap.size) hgot) (Nat.le_trans hA30 (by decide)) (Nat.le_trans hA30 (by decide))).cast (v' := .bool true) (by simp)).use ?_
                  intro w8 b8
                  go_wp2_with fail
                  refine (HFN.out _).use ?_
                  intro w9 b9
                  go_wp2_with fail
                  exact finB hR (below_any (Nat.le_refl _) (below_any (Nat.le_refl _) (below_any (Nat.le_refl _) hn3.out hbb) b8) b9) rfl
                · have HX3 := Lib.hid hx3
                  have hlast := (fnds_own o5)
                  rcases hlast with ⟨h, _⟩ | ⟨yb, yo, yc, hsl, _, _, hyl, hyc⟩
                  · rw [h] at hx0; simp at hx0
                  simp only [Value.slice.injEq, Option.some.injEq, Addr.mk.injEq, true_and] at hsl
                  obtain ⟨⟨rfl, rfl, _⟩, rfl⟩ := hsl
                  have hyk := (hyc (X.length - 1) (by omega)).1
                  have hxe : X[X.length - 1]'(by omega) = A[p + (X.length - 1)]'(by omega) := by
                    have h := HXG.out (X.length - 1) (by omega)
                    rw [List.getElem?_eq_getElem (by omega), List.getElem?_eq_getElem (by omega)] at h
                    simpa using h
                  rw [hxe, Nat.zero_add] at hyk
                  have hnext := Lib.hid (hat.out.next HRS.out.1 (m := X.length) (by omega) hXp)
                  have hoff : s0 ≤ (A[p + (X.length - 1)]'(by omega)).off ∧ (A[p + (X.length - 1)]'(by omega)).off < e0 := by
                    have h := HRS.out.2 _ (List.getElem_mem (show p + (X.length - 1) < A.length by omega))
                    exact ⟨h.1, h.2.1⟩
                  have hof2 : (A[p + X.length - 1]'(by omega)).off = (A[p + (X.length - 1)]'(by omega)).off := by congr 2; omega
                  rw [hof2] at hnext
                  generalize (A[p + (X.length - 1)]'(by omega)).off = y at *
                  have x1 : ((X.length : Int) == 0) = false := by simp; omega
                  have x2 : IntKind.i64.wrap ((X.length : Int) - 1) = ((X.length - 1 : Nat) : Int) := by rw [IntKind.wrap_i64]; omega
                  have x3 : (1 + (m : Int) < (X.length : Int)) = False := eq_false (by omega)
                  have x4 : (0 : Int) ≤ ((X.length - 1 : Nat) : Int) := by omega
                  have x5 : ((X.length - 1 : Nat) : Int) < (X.length : Int) := by omega
                  have HO5 := Lib.hid ho5
                  have O5 := Lib.hid o5
                  have HAP := Lib.hid (show (Value.slice va p vc).ownBlock ≠ some xb from fun e => by have := (HOW.out.lt xb e).2; omega)
                  clear hyc o5 b5 HOW hx3 HXG HXN hx0 hof2 hxe
                  have hoB := HO5.out
                  clear ho5
                  go_wp2_with (at_builtin; refine wpList_append_own_at _ rfl _ _ 24 rfl w3.heap.size 31 i0 _ 5 56 Try.underlying24 hi hz0 hz1 hz2 rfl (by decide) _ _ _ rfl hoB ⟨xb, 0, none⟩ X.length xq (X.flatMap Fnd.cells) rfl HFX.out HX3.out (fcells_one _) (by unfold maxLen; omega) (by omega) (by omega) ?_)
                  intro v6 w6 o6 g6 z6 at6
                  have hb6 := Kept.below hb5 (Kept.ofGrown g6) (by intro x hx; simp only [Option.mem_toList] at hx; exact (hoB.lt x hx).1) hz5
                  have hyk6 := (World.cell?_of_block (a := ⟨xb, (X.length - 1) * 5, none⟩) (g6.block xb hyl (fun e => HAP.out e.symm))).trans hyk
                  have hzx : xb < w6.heap.size := Nat.lt_of_lt_of_le hyl g6.size
                  have HO6 := Lib.hid o6
                  have HB6 := Lib.hid hb6
                  have x6 : IntKind.i64.wrap (y + 1) = y + 1 := by rw [IntKind.wrap_i64]; omega
                  clear hyk hb6 o6 g6 z6 at6 hb5 hoB
                  go_wp2_with fail
                  go_roundw
                  case rel => exact ⟨r + 1, p + X.length, y + 1, by omega, by omega, by go_num, rfl, hnext, by omega, by omega, by rw [HXT.out, List.flatMap_append]; exact HO6.out, HB6.out⟩
                  case measure => first | (simp [intOf]; done) | (simp [intOf]; omega)
            · have u1 : ((r : Int) < 40) = True := eq_true (by omega)
              have u2 : (at_ < e0) = False := eq_false hae
              obtain rfl : p = A.length := hat.out.stop (by omega) (fun f hf => (HRS.out.2 f hf).2.1)
              obtain ⟨va, vc, rfl⟩ := own_form hown
              have hgot : wr.ownsRow w3.heap.size 31 5 (.slice va A.length vc) A.length (A.flatMap Fnd.cells) := by
                have := hown; rwa [List.take_length] at this
              clear hown hat
              have HFN := cF
              go_wp2_with fail
              refine ((found5 _ _ A A _ (hall.out.below hbb) (fnds_own (B := w3.heap.size) hgot) (Nat.le_trans hA30 (by decide)) (Nat.le_trans hA30 (by decide))).cast (v' := .bool true) (by simp)).use ?_
              intro w8 b8
              go_wp2_with fail
              refine (HFN.out _).use ?_
              intro w9 b9
              go_wp2_with fail
              exact finB hR (below_any (Nat.le_refl _) (below_any (Nat.le_refl _) (below_any (Nat.le_refl _) hn3.out hbb) b8) b9) rfl
          · have := hat.out.1
            omega
end Go.Proofs.Ytkfglnhapcceaaa.plogReads
