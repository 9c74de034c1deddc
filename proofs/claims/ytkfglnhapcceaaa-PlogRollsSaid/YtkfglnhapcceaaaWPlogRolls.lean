/-
  The walk of PlogRolls.
-/
import Derived.Test.YtkfglnhapcceaaaLogU
import Derived.Test.YtkfglnhapcceaaaFix6
set_option linter.unusedVariables false
set_option linter.unusedSimpArgs false
namespace Go.Proofs.Ytkfglnhapcceaaa.plogRolls
open Go.RowKit
attribute [local go_sem] ByteArray.extract_mk ByteArray.mk_append_mk

def rkk : Rec := rkv 107 118
theorem rep_ok (k : Nat) : ∀ r ∈ List.replicate k rkk, r.ok = 0 := fun r hr => by
  rw [List.eq_of_mem_replicate hr]; decide +kernel
theorem rep_bd (k : Nat) (h : k ≤ 1000) : RecsBd (List.replicate k rkk) := bd_small _ ⟨by simpa using h, fun r hr => by rw [List.eq_of_mem_replicate hr]; decide +kernel⟩
theorem rep_cells (k : Nat) : (List.replicate (k + 1) rkk).flatMap Rec.cells = (List.replicate k rkk).flatMap Rec.cells ++ rkk.cells := by
  rw [List.replicate_succ', List.flatMap_append]; simp

set_option maxHeartbeats 8000000 in
set_option maxRecDepth 100000 in
theorem walk {w : World} (room : Int) (v : Value) (l : List Int) (_ : -9223372036854775808 ≤ room ∧ room ≤ 9223372036854775807) (hl : NumsIn w v l) (hw0 : l.length ≤ maxLen ∧ ∀ n ∈ l, (Lit.int .i64 n).wf = true) : RetB Try.prog 7 #[.int .i64 room, v] w (.bool true) := by
  refine RetB.intro fun R hR => ?_
  have hw := hw0.1
  obtain ⟨i0, hi, hz0, hz1, hz2⟩ := info_parts recInfo
  obtain ⟨q, hq, hq2⟩ : ∃ q : Nat, bits .and .i64 room 15 = (q : Int) ∧ q < 16 := ⟨_, and_low room 15 4 rfl (by omega), Nat.mod_lt _ (by decide)⟩
  have hll : l.length ≤ 9223372036854775807 := by unfold maxLen at hw; omega
  have HL := Lib.hid hl
  obtain ⟨a, cap, rfl⟩ := hl.form
  have ck := fun w => key6 [107] [118] w
  clear hl hw hw0
  go_enter Try.func7, Try.ntmps7
  go_wp2_with fail
  refine new6_use _ (1 + (q : Int)) (by omega) ?_
  intro g b1 w1 L1 B1 M1
  go_wp2_with fail
  clear hq
  go_loopw [8] (fun (v8 : Value) (W : World) => ∃ (i : Nat) (D : List Sd) (bs : List Nat), i ≤ l.length ∧ i ≤ 40 ∧ v8 = .int .i64 (i : Int) ∧ LogD W g bs (1 + (q : Int)) D ∧ Hid (dstart D = 0) ∧ Hid (0 ≤ dend D ∧ dend D ≤ 16 * (i : Int)) ∧ D.length ≤ i + 1 ∧ Below w.heap.size w W ∧ (∀ x ∈ bs, w.heap.size ≤ x)) (fun (v8 : Value) (W : World) => (l.length - intOf v8).toNat)
  case atStart => exact ⟨0, _, b1, by omega, by omega, rfl, L1, Lib.hid rfl, Lib.hid (by show (0 : Int) ≤ 0 ∧ (0 : Int) ≤ 16 * 0; omega), by simp, B1, M1⟩
  case round =>
    obtain ⟨i, D, bs, hil, hi40, rfl, hL, hst, hde, hDl, hnx, hM⟩ := hrel
    by_cases hgo : i < l.length ∧ i < 40
    · obtain ⟨h1, h2⟩ := hgo
      rcases HL.out.below hnx with ⟨h, _⟩ | ⟨b, off, cap', hsl, hcap, hne, hlt, hc⟩
      · rw [h] at h1; simp at h1
      simp only [Value.slice.injEq, true_and] at hsl
      obtain ⟨rfl, rfl⟩ := hsl
      have hci := hc i h1
      generalize l[i] = x at *
      obtain ⟨y, hy, hy2⟩ : ∃ y : Nat, bits .and .i64 x 65535 = (y : Int) ∧ y < 65536 := ⟨_, and_low x 65535 16 rfl (by omega), Nat.mod_lt _ (by decide)⟩
      obtain ⟨m, hm⟩ : ∃ m : Nat, (y : Int) % (1 + (q : Int)) = (m : Int) := ⟨((y : Int) % (1 + (q : Int))).toNat, by have := Int.emod_nonneg (y : Int) (show (1 + (q : Int)) ≠ 0 by omega); omega⟩
      have hm2 : m ≤ q := by have := Int.emod_lt_of_pos (y : Int) (show 0 < 1 + (q : Int) by omega); omega
      have j0 : (0 : Int) ≤ (i : Int) := by omega
      have j1 : (i : Int) < (l.length : Int) := by omega
      have j2 : (i : Int) < 40 := by omega
      have HLr := Lib.hid hL
      clear hc hne hL
      go_wp2_with fail
      obtain ⟨Wx, rfl⟩ : ∃ Wx, Wx = wr := ⟨_, rfl⟩
      have o0 : (Wx.alloc (.cells #[] 29)).ownsRow Wx.heap.size 29 4 (.slice (some ⟨Wx.heap.size, 0, none⟩) 0 0) 0 [] := World.ownsRow_made Wx #[] 0 (Nat.le_refl _) (by omega) rfl
      clear j0 j1 j2 hy hci hm
      go_loopw [10, 11] (fun (v10 v11 : Value) (W : World) => ∃ j : Nat, j ≤ m + 1 ∧ v11 = .int .i64 (j : Int) ∧ W.ownsRow Wx.heap.size 29 4 v10 j ((List.replicate j rkk).flatMap Rec.cells) ∧ Below Wx.heap.size Wx W) (fun (v10 v11 : Value) (W : World) => (m + 1 - intOf v11).toNat)
      case atStart => exact ⟨0, by omega, rfl, o0, below_all (Below.refl _ _)⟩
      case round =>
        obtain ⟨j, hj, rfl, hown, hb⟩ := hrel
        by_cases hjm : j < m + 1
        · have j3 : (j : Int) < 1 + (m : Int) := by omega
          have HO := Lib.hid hown
          have hsz := hb.size
          clear o0 hown
          go_wp2_with fail
          refine (ck _).use ?_
          intro w2 b2
          have o2 := own_keptBy HO.out (Kept.ofBelow b2 []) (away_nil _)
          have o3 := World.ownsRow.alloc o2 (.cells #[.bool true, .string (S [107]), .bool false, .string (S [118])] 29)
          have n3 : ∀ j u, rkk.cells[j]? = some u → (w2.alloc (.cells #[.bool true, .string (S [107]), .bool false, .string (S [118])] 29)).cell? ((⟨w2.heap.size, 0, none⟩ : Addr).add j) = some u := World.news_of_block (cs := rkk.cells.toArray) (t := 29) (fr := (0, 0)) (heap_alloc_new w2 _)
          have hb2 := below_any (Nat.le_refl _) hb b2
          have hsz2 := hb2.size
          have N3 := Lib.hid n3
          obtain ⟨va, vc, rfl⟩ := own_form o2
          clear n3 o2
          go_wp2_with (at_builtin; refine wpList_append_own _ rfl _ _ 23 rfl Wx.heap.size 29 i0 _ 4 48 Try.underlying23 hi hz0 hz1 hz2 rfl (by decide) _ _ _ rfl o3 ⟨w2.heap.size, 0, none⟩ 1 1 rkk.cells rfl rfl N3.out (by simp [Value.oneCell', Rec.cells]) (by unfold maxLen; omega) (by omega) (by simp; omega) ?_)
          intro v4 w4 o4 g4 z4
          have hb4 := Kept.below (below_all (o := .cells #[.bool true, .string (S [107]), .bool false, .string (S [118])] 29) hb2) (Kept.ofGrown g4) (by intro x hx; simp only [Option.mem_toList] at hx; exact (o3.lt x hx).1) (by simp; omega)
          have HO4 := Lib.hid o4
          clear o3 o4 g4 z4 hb hb2 b2
          go_wp2_with fail
          go_roundw
          case rel => exact ⟨j + 1, by omega, by go_num, by rw [rep_cells]; exact HO4.out, hb4⟩
          case measure => first | (simp [intOf]; done) | (simp [intOf]; omega)
        · obtain rfl : j = m + 1 := by omega
          have j3 : ¬ ((m + 1 : Nat) : Int) < 1 + (m : Int) := by omega
          have hD' : D.length ≤ 41 := by omega
          have he : aerr6 (1 + (q : Int)) D (List.replicate (m + 1) rkk) = 0 := aerr_ok (rep_ok _) (by rw [List.length_replicate]; omega) (by rw [List.length_replicate]; have := hde.out; omega)
          have hG := HLr.out.good
          obtain ⟨B, t, hBt, ht1, ht2, ht3⟩ := dapp_open hG he
          have hend := dapp_end hG.2.2.1 he
          have hstart := dapp_start (room := 1 + (q : Int)) (rs := List.replicate (m + 1) rkk) hG.2.2.1
          have hlen := dapp_len (room := 1 + (q : Int)) (D := D) (rs := List.replicate (m + 1) rkk)
          rw [List.length_replicate] at ht2 hend
          have hr : RecsIn wr u10 (List.replicate (m + 1) rkk) := recs_own (B := Wx.heap.size) (by rw [List.length_replicate]; exact hown)
          have hav : Away bs u10 := fun b hb2 hm => by have h1 := (hown.lt b hb2).1; have h2 := HLr.out.lt b hm; omega
          have L2 := HLr.out.below hb
          have cA := Lib.hid (fun R k => append6_use (R := R) L2 (by omega) hr hav (rep_bd _ (by omega)) k)
          rw [he, if_pos rfl] at cA
          have hz := hb.size
          obtain ⟨va, vc, rfl⟩ := own_form hown
          have HEN := Lib.hid hend
          have HST := Lib.hid (hstart.trans hst.out)
          have HLN := Lib.hid hlen
          have hd0 := hde.out
          have hnx2 := Lib.hid (below_any (Nat.le_refl _) hnx hb)
          have hlen2 : B.length + 1 ≤ D.length + 1 := by rw [hBt] at hlen; simpa using hlen
          generalize dapp (1 + (q : Int)) D (List.replicate (m + 1) rkk) = D2 at *
          subst hBt
          clear hown o0 hr hav L2 hend hstart hlen hst hde HLr hG he
          generalize dend D = d at *
          go_wp2_with fail
          refine cA.out _ ?_
          intro bs2 w3 L3 K3 C3
          have hz3 := hnx2.out.size
          have hM3 : ∀ x ∈ bs2, w.heap.size ≤ x := fun x hx => (C3 x hx).elim (hM x) fun h => by omega
          have hn3 := Kept.below hnx2.out K3 hM hz3
          have hz4 := K3.size
          clear cA K3 C3
          go_wp2_with fail
          refine (segs6D L3 (by simp; omega)).use ?_
          intro v4 sb w4 SI hsb b4
          have hn4 := below_any (Nat.le_refl _) hn3 b4
          have L4 := Lib.hid (L3.below b4)
          rcases SI with ⟨h, _⟩ | ⟨sa, so, sc, lvs, rfl, s1, s2, s3, s4, s5, s6⟩
          · simp at h
          obtain ⟨⟨c0, c1, c2, c3⟩, _⟩ := s6 B.length (by simp) (by rw [s5]; simp)
          simp only [List.getElem_concat_length] at c0 c1 c3
          obtain ⟨la, lc, hlv⟩ := c3.form
          rw [hlv] at c2
          have hBl : (B ++ [t]).length = B.length + 1 := by simp
          rw [hBl] at *
          have e1 : IntKind.i64.wrap (((B.length + 1 : Nat) : Int) - 1) = (B.length : Int) := by rw [IntKind.wrap_i64]; omega
          have e2 : (((B.length + 1 : Nat) : Int) == 0) = false := by simp; omega
          have i1 : (0 : Int) ≤ (B.length : Int) := by omega
          have i2 : (B.length : Int) < ((B.length + 1 : Nat) : Int) := by omega
          have e3 : (d < t.base) = False := eq_false (by omega)
          have e4 : IntKind.i64.wrap (d + (1 + (m : Int))) = t.next := by rw [IntKind.wrap_i64]; omega
          have e5 : (1 + (q : Int) < (t.l.length : Int)) = False := eq_false (by omega)
          clear s6 c3 hlv hn3 L3 b4
          go_wp2_with fail
          go_roundw
          case rel => exact ⟨i + 1, B ++ [t], bs2, by omega, by omega, by go_num, L4.out.below (below_all (Below.refl _ _)), Lib.hid HST.out, Lib.hid (by have := HEN.out; rw [this]; omega), by simp; omega, below_all hn4, hM3⟩
          case measure => first | (simp [intOf]; done) | (simp [intOf]; omega)
    · have hG := hL.good
      have hne := hG.2.2.1
      have cF := fun w => fixed6 w
      have hDpos : 0 < D.length := List.length_pos_iff.2 hne
      have HGd := Lib.hid hG
      have hSS := Lib.hid (segs6D hL (by omega))
      clear hL hG ck
      have j1 : (((i : Nat) : Int) < (l.length : Int) ∧ (i : Int) < 40) = False := eq_false (by omega)
      by_cases hi1 : i < l.length
      · have j2 : ((i : Int) < (l.length : Int)) = True := eq_true (by omega)
        have j3 : ((i : Int) < 40) = False := eq_false (by omega)
        clear j1 hgo
        go_wp2_with fail
        refine hSS.out.use ?_
        intro v4 sb w4 SI hsb b4
        have hn4 := below_any (Nat.le_refl _) hnx b4
        rcases SI with ⟨h, _⟩ | ⟨sa, so, sc, lvs, rfl, s1, s2, s3, s4, s5, s6⟩
        · exact absurd h hne
        have S6 := Lib.hid s6
        have S5 := Lib.hid s5
        clear s6 s5 hnx b4 hsb s4 s2 hSS
        go_wp2_with fail
        go_loopw [17] (fun (v17 : Value) (W : World) => ∃ k : Nat, k ≤ D.length ∧ v17 = .int .i64 (k : Int) ∧ Below w4.heap.size w4 W) (fun (v17 : Value) (W : World) => (D.length - intOf v17).toNat)
        case atStart => exact ⟨0, by omega, rfl, Below.refl _ _⟩
        case round =>
          obtain ⟨k, hk, rfl, hb⟩ := hrel
          by_cases hkl : k < D.length
          · obtain ⟨⟨c0, c1, c2, c3⟩, _⟩ := S6.out k hkl (by rw [S5.out]; exact hkl)
            obtain ⟨la, lc, hlv⟩ := c3.form
            rw [hlv] at c2
            have kc := fun o => hb.cell (p := ⟨sa, o, none⟩) s3
            have d0 := (kc _).trans c0
            have d2 := (kc _).trans c2
            have hlen : (D[k].l.length : Int) ≤ 1 + (q : Int) := (gscan_mem HGd.out.2.2.2 _ (List.getElem_mem hkl)).2
            have e5 : (1 + (q : Int) < (D[k].l.length : Int)) = False := eq_false (by omega)
            have i1 : (0 : Int) ≤ (k : Int) := by omega
            have i2 : (k : Int) < (D.length : Int) := by omega
            by_cases hk0 : k = 0
            · subst hk0
              have hz : D[0].base = 0 := by
                have h := hst.out
                cases D with
                | nil => exact absurd rfl hne
                | cons s D => simpa [dstart] using h
              rw [hz] at d0
              simp only [Nat.zero_mul, Nat.add_zero] at d0 d2
              have t2 : ((0 : Int) < ((0 : Nat) : Int)) = False := eq_false (by omega)
              have t4 : (((0 : Nat) : Int) == 0) = true := by decide
              generalize D[0].l.length = len at *
              clear c0 c1 c2 c3 kc hlv hz
              go_wp2_with fail
              go_quiet (fail)
              go_wp2_with fail
              go_roundw
              case rel => exact ⟨0 + 1, by omega, by go_num, belowN hb _⟩
              case measure => first | (simp [intOf]; done) | (simp [intOf]; omega)
            · obtain ⟨j, rfl⟩ : ∃ j, k = j + 1 := ⟨k - 1, by omega⟩
              obtain ⟨⟨f0, f1, f2, f3⟩, _⟩ := S6.out j (by omega) (by rw [S5.out]; omega)
              have d1 := (kc _).trans f1
              have hnx3 : D[j + 1].base = D[j].next := HGd.out.next hkl
              have hne3 : (D[j + 1].base != D[j].next) = false := by simp [hnx3]
              have t2 : ((0 : Int) < ((j + 1 : Nat) : Int)) = True := eq_true (by omega)
              have t4 : (((j + 1 : Nat) : Int) == 0) = false := by simp; omega
              have e1 : IntKind.i64.wrap (((j + 1 : Nat) : Int) - 1) = (j : Int) := by rw [IntKind.wrap_i64]; omega
              have i3 : (0 : Int) ≤ (j : Int) := by omega
              have i4 : (j : Int) < (D.length : Int) := by omega
              generalize D[j + 1].l.length = len at *
              generalize D[j + 1].base = x at *
              generalize D[j].next = y at *
              obtain ⟨k, hkj⟩ : ∃ k, j + 1 = k := ⟨_, rfl⟩
              rw [hkj] at d0 d2 t2 t4 e1 i1 i2 hkl
              have t3 : (0 < k) = True := eq_true (by omega)
              have HKJ := Lib.hid hkj
              clear c0 c1 c2 c3 kc hlv f0 f1 f2 f3 hnx3 hk hk0
              rw [hkj]
              clear hkj
              go_wp2_with fail
              go_quiet (fail)
              go_wp2_with fail
              go_roundw
              case rel => exact ⟨k + 1, by omega, by go_num, belowN hb _⟩
              case measure => first | (simp [intOf]; done) | (simp [intOf]; omega)
          · have i2 : ¬ (k : Int) < (D.length : Int) := by omega
            go_wp2_with fail
            refine (cF _).use ?_
            intro w9 b9
            go_wp2_with fail
            exact finB hR (below_any (Nat.le_refl _) (below_any (Nat.le_refl _) hn4 hb) b9) rfl
      · have j2 : ((i : Int) < (l.length : Int)) = False := eq_false (by omega)
        clear j1 hgo
        go_wp2_with fail
        refine hSS.out.use ?_
        intro v4 sb w4 SI hsb b4
        have hn4 := below_any (Nat.le_refl _) hnx b4
        rcases SI with ⟨h, _⟩ | ⟨sa, so, sc, lvs, rfl, s1, s2, s3, s4, s5, s6⟩
        · exact absurd h hne
        have S6 := Lib.hid s6
        have S5 := Lib.hid s5
        clear s6 s5 hnx b4 hsb s4 s2 hSS
        go_wp2_with fail
        go_loopw [17] (fun (v17 : Value) (W : World) => ∃ k : Nat, k ≤ D.length ∧ v17 = .int .i64 (k : Int) ∧ Below w4.heap.size w4 W) (fun (v17 : Value) (W : World) => (D.length - intOf v17).toNat)
        case atStart => exact ⟨0, by omega, rfl, Below.refl _ _⟩
        case round =>
          obtain ⟨k, hk, rfl, hb⟩ := hrel
          by_cases hkl : k < D.length
          · obtain ⟨⟨c0, c1, c2, c3⟩, _⟩ := S6.out k hkl (by rw [S5.out]; exact hkl)
            obtain ⟨la, lc, hlv⟩ := c3.form
            rw [hlv] at c2
            have kc := fun o => hb.cell (p := ⟨sa, o, none⟩) s3
            have d0 := (kc _).trans c0
            have d2 := (kc _).trans c2
            have hlen : (D[k].l.length : Int) ≤ 1 + (q : Int) := (gscan_mem HGd.out.2.2.2 _ (List.getElem_mem hkl)).2
            have e5 : (1 + (q : Int) < (D[k].l.length : Int)) = False := eq_false (by omega)
            have i1 : (0 : Int) ≤ (k : Int) := by omega
            have i2 : (k : Int) < (D.length : Int) := by omega
            by_cases hk0 : k = 0
            · subst hk0
              have hz : D[0].base = 0 := by
                have h := hst.out
                cases D with
                | nil => exact absurd rfl hne
                | cons s D => simpa [dstart] using h
              rw [hz] at d0
              simp only [Nat.zero_mul, Nat.add_zero] at d0 d2
              have t2 : ((0 : Int) < ((0 : Nat) : Int)) = False := eq_false (by omega)
              have t4 : (((0 : Nat) : Int) == 0) = true := by decide
              generalize D[0].l.length = len at *
              clear c0 c1 c2 c3 kc hlv hz
              go_wp2_with fail
              go_quiet (fail)
              go_wp2_with fail
              go_roundw
              case rel => exact ⟨0 + 1, by omega, by go_num, belowN hb _⟩
              case measure => first | (simp [intOf]; done) | (simp [intOf]; omega)
            · obtain ⟨j, rfl⟩ : ∃ j, k = j + 1 := ⟨k - 1, by omega⟩
              obtain ⟨⟨f0, f1, f2, f3⟩, _⟩ := S6.out j (by omega) (by rw [S5.out]; omega)
              have d1 := (kc _).trans f1
              have hnx3 : D[j + 1].base = D[j].next := HGd.out.next hkl
              have hne3 : (D[j + 1].base != D[j].next) = false := by simp [hnx3]
              have t2 : ((0 : Int) < ((j + 1 : Nat) : Int)) = True := eq_true (by omega)
              have t4 : (((j + 1 : Nat) : Int) == 0) = false := by simp; omega
              have e1 : IntKind.i64.wrap (((j + 1 : Nat) : Int) - 1) = (j : Int) := by rw [IntKind.wrap_i64]; omega
              have i3 : (0 : Int) ≤ (j : Int) := by omega
              have i4 : (j : Int) < (D.length : Int) := by omega
              generalize D[j + 1].l.length = len at *
              generalize D[j + 1].base = x at *
              generalize D[j].next = y at *
              obtain ⟨k, hkj⟩ : ∃ k, j + 1 = k := ⟨_, rfl⟩
              rw [hkj] at d0 d2 t2 t4 e1 i1 i2 hkl
              have t3 : (0 < k) = True := eq_true (by omega)
              have HKJ := Lib.hid hkj
              clear c0 c1 c2 c3 kc hlv f0 f1 f2 f3 hnx3 hk hk0
              rw [hkj]
              clear hkj
              go_wp2_with fail
              go_quiet (fail)
              go_wp2_with fail
              go_roundw
              case rel => exact ⟨k + 1, by omega, by go_num, belowN hb _⟩
              case measure => first | (simp [intOf]; done) | (simp [intOf]; omega)
          · have i2 : ¬ (k : Int) < (D.length : Int) := by omega
            go_wp2_with fail
            refine (cF _).use ?_
            intro w9 b9
            go_wp2_with fail
            exact finB hR (below_any (Nat.le_refl _) (below_any (Nat.le_refl _) hn4 hb) b9) rfl
end Go.Proofs.Ytkfglnhapcceaaa.plogRolls
