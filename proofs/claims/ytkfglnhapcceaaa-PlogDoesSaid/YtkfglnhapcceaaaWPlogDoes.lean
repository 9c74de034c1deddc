/-
  The walk of PlogDoes.
-/
import Derived.Test.YtkfglnhapcceaaaLogZ1
import Derived.Test.YtkfglnhapcceaaaLogW
import Derived.Test.YtkfglnhapcceaaaLogZ
import Derived.Test.YtkfglnhapcceaaaFix6
set_option linter.unusedVariables false
set_option linter.unusedSimpArgs false
namespace Go.Proofs.Ytkfglnhapcceaaa.plogDoes
open Go.RowKit
attribute [local go_sem] ByteArray.extract_mk ByteArray.mk_append_mk

/-- Both logs, side by side. -/
structure Two (w W : World) (g k : Nat) (bs cs : List Nat) (room : Int) (D : List Sd) : Prop where
  log : LogD W g bs room D
  ref : RLogAt W k cs room D
  sep : ∀ x ∈ cs, x ∉ bs
  low : ∀ x ∈ bs, w.heap.size ≤ x
  low2 : ∀ x ∈ cs, w.heap.size ≤ x
  bel : Below w.heap.size w W
section
variable {w W V : World} {g k : Nat} {bs cs bs' cs' : List Nat} {room : Int} {D D' : List Sd}
theorem Two.below (t : Two w W g k bs cs room D) (hb : Below W.heap.size W V) : Two w V g k bs cs room D :=
  ⟨t.log.below hb, t.ref.below hb, t.sep, t.low, t.low2, below_any (Nat.le_refl _) t.bel hb⟩
/-- The program's log is turned, then the document's. -/
theorem Two.turn {V2 : World} (t : Two w W g k bs cs room D) (h1 : LogD V g bs' room D') (k1 : Kept bs W V) (c1 : ∀ x ∈ bs', x ∈ bs ∨ W.heap.size ≤ x)
    (h2 : RLogAt V2 k cs' room D') (k2 : Kept cs V V2) (c2 : ∀ x ∈ cs', x ∈ cs ∨ V.heap.size ≤ x) : Two w V2 g k bs' cs' room D' := by
  have hb1 := t.log.lt
  have hc1 := t.ref.lt
  have hz := t.bel.size
  have hz1 := k1.size
  have hz2 := k2.size
  refine ⟨h1.kept k2 fun x hx hc => ?_, h2, fun x hx hb => ?_, fun x hx => ?_, fun x hx => ?_, Kept.below (Kept.below t.bel k1 t.low hz) k2 t.low2 (Nat.le_trans hz hz1)⟩
  · rcases c1 x hx with h | h
    · exact t.sep x hc h
    · have := hc1 x hc; omega
  · have h3 := h1.lt x hb
    rcases c2 x hx with h | h
    · rcases c1 x hb with h4 | h4
      · exact t.sep x h h4
      · have := hc1 x h; omega
    · omega
  · exact (c1 x hx).elim (t.low x) fun h => by omega
  · exact (c2 x hx).elim (t.low2 x) fun h => by omega
end

set_option maxHeartbeats 8000000 in
set_option maxRecDepth 100000 in
theorem walk {w : World} (room : Int) (v : Value) (l : List Op6) (_ : -9223372036854775808 ≤ room ∧ room ≤ 9223372036854775807) (hl : Ops6In w v l) (hw : l.length ≤ maxLen) : RetB Try.prog 9 #[.int .i64 room, v] w (.bool true) := by
  refine RetB.intro fun R hR => ?_
  obtain ⟨q, hq, hq2⟩ : ∃ q : Nat, bits .and .i64 room 63 = (q : Int) ∧ q < 64 := ⟨_, and_low room 63 6 rfl (by omega), Nat.mod_lt _ (by decide)⟩
  have hll : l.length ≤ 9223372036854775807 := by unfold maxLen at hw; omega
  have HL := Lib.hid hl
  obtain ⟨a, cap, rfl⟩ := hl.form
  have ck := Lib.hid (fun w => key6 [120] [121] w)
  clear hl hw
  go_enter Try.func9, Try.ntmps9
  go_wp2_with fail
  refine new6_use _ (1 + (q : Int)) (by omega) ?_
  intro g b1 w1 L1 B1 M1
  go_wp2_with fail
  refine (rnew6 (1 + (q : Int)) w1 (by omega)).use ?_
  intro k c1 w2 K2 B2 N2
  have T2 : Two w w2 g k b1 c1 (1 + (q : Int)) [⟨0, 0, []⟩] := ⟨L1.below B2, K2, fun x hx hb => by have a1 := N2 x hx; have a2 := L1.lt x hb; omega, M1, fun x hx => Nat.le_trans B1.size (N2 x hx), below_any (Nat.le_refl _) B1 B2⟩
  have T2h := Lib.hid T2
  clear L1 B1 M1 K2 B2 N2 T2
  go_wp2_with fail
  clear hq
  go_loopw [6, 10] (fun (v6 v10 : Value) (W : World) => ∃ (i : Nat) (D : List Sd) (bs cs : List Nat) (g : Nat), i ≤ l.length ∧ i ≤ 30 ∧ v6 = .pointer (some ⟨g, 0, none⟩) ∧ v10 = .int .i64 (i : Int) ∧ Two w W g k bs cs (1 + (q : Int)) D ∧ D.length ≤ i + 1) (fun (v6 v10 : Value) (W : World) => (l.length - intOf v10).toNat)
  case atStart => exact ⟨0, _, _, _, g, by omega, by omega, rfl, rfl, T2h.out, by simp⟩
  case round =>
    obtain ⟨i, D, bs, cs, g, hil, hi30, rfl, rfl, hT, hDl⟩ := hrel
    clear T2h
    by_cases hgo : i < l.length ∧ i < 30
    · obtain ⟨h1, h2⟩ := hgo
      rcases HL.out.below hT.bel with ⟨h, _⟩ | ⟨b, off, cap', hsl, hne, hlt, hc, hq⟩
      · rw [h] at h1; simp at h1
      simp only [Value.slice.injEq, true_and] at hsl
      obtain ⟨rfl, rfl⟩ := hsl
      obtain ⟨c0, c1, c2, c3⟩ := hc i h1
      have hop := hq _ (List.getElem_mem h1)
      generalize l[i] = o at *
      obtain ⟨kind, fr, n, la, lc, rs⟩ := o
      obtain ⟨hr1, hr2, hr3, hf1, hf2⟩ := hop
      dsimp only at c0 c1 c2 c3 hr1 hr2 hr3 hf1 hf2
      have hnb := bd_i64 hf2
      have j0 : (0 : Int) ≤ (i : Int) := by omega
      have j1 : (i : Int) < (l.length : Int) := by omega
      have j2 : (i : Int) < 30 := by omega
      have A1 : Below wr.heap.size wr (wr.alloc (.cells #[.int .i64 kind, .int .i64 fr, .int .i64 n, .slice la rs.length lc] 47)) := below_all (Below.refl _ _)
      have hX := Blk.new wr #[.int .i64 kind, .int .i64 fr, .int .i64 n, .slice la rs.length lc] 47
      have T1 := hT.below A1
      have hr1 := hr1.below A1
      have TH := Lib.hid T1
      have HBL := Lib.hid hT.log.lt
      have HR1 := Lib.hid hr1
      have HR2 := Lib.hid hr2
      have GD := Lib.hid T1.log.good
      clear hc hq hne hr1 hr2 hT T1 hf1 hf2
      obtain ⟨m0, m1, m2, m3, m4⟩ := hX.c4
      have HX := Lib.hid hX
      clear hX
      by_cases hk0 : kind = 0
      · subst hk0
        have cR := Lib.hid (recsN5 la lc rs _ HR1.out HR2.out hr3)
        obtain ⟨hcb, hcl⟩ := cut70_bd rs
        have HCB := Lib.hid hcb
        generalize cut70 rs = rs' at *
        clear hcb HR2 HR1
        go_wp2_with fail
        unfold RecsCall at cR
        refine cR.out.mono ?_
        rintro e w3 ⟨v3, rfl, hr, ho, b3⟩
        have T3 := Lib.hid (TH.out.below b3)
        have hav : Away bs v3 := fun b hb hm => by have h1 := ho b hb; have h2 := TH.out.log.lt b hm; omega
        have hav2 : Away cs v3 := fun b hb hm => by have h1 := ho b hb; have h2 := TH.out.ref.lt b hm; omega
        have HA2 := Lib.hid hav2
        have HA := Lib.hid hav
        obtain ⟨ra, rc, rfl⟩ := hr.form
        have hr0 := Lib.hid hr
        have cA0 := fun R kk => append6_use (R := R) T3.out.log (by omega) hr hav HCB.out kk
        have cB0 := fun R w bs v h hv ha kk => rappend6_use (R := R) (w := w) (k := k) (bs := bs) (room := 1 + (q : Int)) (D := D) (v := v) (rs := rs') h GD.out (by omega) hv ha HCB.out kk
        have hlD := dapp_len (room := 1 + (q : Int)) (D := D) (rs := rs')
        generalize (if aerr6 (1 + (q : Int)) D rs' = 0 then dend D else 0) = az at cA0 cB0
        generalize aerr6 (1 + (q : Int)) D rs' = ez at cA0 cB0
        generalize dapp (1 + (q : Int)) D rs' = D2 at cA0 cB0 hlD
        have cA := Lib.hid cA0
        have cB := Lib.hid cB0
        clear cA0 cB0 hr hav hav2 ho b3 m0 m1 m2 m3 m4 c0 c1 c2 c3 TH
        go_wp2_with fail
        refine cA.out _ ?_
        intro bs2 w4 L4 K4 C4
        have L4h := Lib.hid L4
        have K4h := Lib.hid K4
        have C4h := Lib.hid C4
        have X4 := Lib.hid (hr0.out.kept K4 HA.out)
        have R4 := Lib.hid (T3.out.ref.kept K4 T3.out.sep)
        clear L4 K4 C4 cA
        go_wp2_with fail
        refine cB.out _ _ _ _ R4.out X4.out HA2.out ?_
        intro cs2 w5 R5 K5 C5
        have T5 := Lib.hid (T3.out.turn L4h.out K4h.out C4h.out R5 K5 C5)
        clear R5 K5 C5 cB L4h K4h C4h X4 R4
        have cZ := Lib.hid (same6 g k _ _ (1 + (q : Int)) _ _ T5.out.log T5.out.ref (by omega))
        go_wp2_with fail
        refine cZ.out.use ?_
        intro wZ bZ
        have TZ := Lib.hid (T5.out.below bZ)
        clear cZ bZ
        go_wp2_with fail
        go_roundw
        case rel => exact ⟨i + 1, D2, bs2, cs2, g, by omega, by omega, rfl, by go_num, TZ.out, by omega⟩
        case measure => first | (simp [intOf]; done) | (simp [intOf]; omega)
      by_cases hk1 : kind = 1
      · subst hk1
        have cA := Lib.hid (fun R kk => read6_use (R := R) fr n TH.out.log (by omega) hnb.2 kk)
        have cB := Lib.hid (fun R w h kk => rread6_use (R := R) (w := w) (k := k) (bs := cs) (room := 1 + (q : Int)) (D := D) fr n h GD.out (by omega) kk)
        have hdl := dread_len GD.out fr n
        generalize dread fr n D = fs at *
        generalize rerr fr D = ez at *
        go_wp2_with fail
        refine cA.out _ ?_
        intro v3 w3 o3 b3
        have T3 := Lib.hid (TH.out.below b3)
        have HX3 := HX.out.below b3
        obtain ⟨n0, n1, n2, n3, n4⟩ := HX3.c4
        have O3 := Lib.hid o3
        have F3 := Lib.hid (fnds_own o3)
        obtain ⟨fa, fc, rfl⟩ := own_form o3
        have B3 := Lib.hid b3
        clear o3 b3 cA m0 m1 m2 m3 m4 c0 c1 c2 c3
        go_wp2_with fail
        refine cB.out _ _ T3.out.ref ?_
        intro v4 w4 o4 b4
        have F4 := Lib.hid (fnds_own o4)
        have F34 := Lib.hid (F3.out.below b4)
        have O34 := Lib.hid (own_keptBy O3.out (Kept.ofBelow b4 []) (away_nil _))
        have B4 := Lib.hid (below_any (Nat.le_refl _) B3.out b4)
        obtain ⟨fa4, fc4, rfl⟩ := own_form o4
        have cF := Lib.hid ((found5 _ _ fs fs w4 F34.out F4.out (by omega) (by omega)).cast (v' := .bool true) (by simp))
        clear o4 b4 cB O3 F3 n0 n1 n2 n3 n4 HX3
        go_wp2_with fail
        refine cF.out.use ?_
        intro w5 b5
        have O5 := Lib.hid (own_keptBy O34.out (Kept.ofBelow b5 []) (away_nil _))
        have B5 := Lib.hid (below_any (Nat.le_refl _) B4.out b5)
        clear b5 cF O34 F34 F4 B4
        obtain ⟨N, hN⟩ : ∃ N, fs.length = N := ⟨_, rfl⟩
        rw [hN] at O5 hdl
        have HNN := Lib.hid hN
        rw [hN]
        clear hN
        go_wp2_with fail
        obtain ⟨Wx, rfl⟩ : ∃ Wx, Wx = wr := ⟨_, rfl⟩
        go_loopw [21] (fun (v21 : Value) (W : World) => ∃ (m : Nat) (xs : List Value), m ≤ N ∧ v21 = .int .i64 (m : Int) ∧ W.ownsRow (Wx.heap.size + 1) 31 5 (.slice fa N fc) N xs ∧ Below (Wx.heap.size + 1) (Wx.alloc (.cells #[.int .i64 1, .int .i64 fr, .int .i64 n, .slice la rs.length lc] 47)) W) (fun (v21 : Value) (W : World) => (N - intOf v21).toNat)
        case atStart => exact ⟨0, _, by omega, rfl, by have := O5.out; rw [World.size_alloc] at this; exact this, by have := B5.out; rw [World.size_alloc] at this; exact this⟩
        case round =>
          obtain ⟨m, xs, hm, rfl, hO, hb⟩ := hrel
          by_cases hmn : m < N
          · rcases own_cases hO with ⟨_, h00⟩ | ⟨fb, fcap, hfs, hfb, hflt, _⟩
            · omega
            simp only [Value.slice.injEq, true_and] at hfs
            obtain ⟨rfl, rfl⟩ := hfs
            have hxl : xs.length = N * 5 := hO.1
            have z0 := hO.cellAt (m * 5) (by omega)
            rw [List.getElem?_eq_getElem (by omega)] at z0
            have fz : ∀ j, wr.frozen? ⟨fb, j, none⟩ = false := fun j => hO.frozenAt j
            obtain ⟨s1, s2⟩ := hO.stored (m * 5) (.int .i64 99)
            have S1 := Lib.hid s1
            have hb2 := Lib.hid (Kept.below hb (Kept.ofGrown s2) (fun x hx => by simp at hx; omega) (by have := hb.size; rw [World.size_alloc] at this; exact this))
            have i1 : (0 : Int) ≤ (m : Int) := by omega
            have i2 : (m : Int) < (N : Int) := by omega
            generalize xs[m * 5] = zz at z0
            clear s1 s2 hxl hO hb O5 B5
            go_wp2_with fail
            go_roundw
            case rel => exact ⟨m + 1, _, by omega, by go_num, S1.out, hb2.out⟩
            case measure => first | (simp [intOf]; done) | (simp [intOf]; omega)
          · have i2 : ¬ (m : Int) < (N : Int) := by omega
            have T9 := Lib.hid (TH.out.below (V := wr) (by rw [World.size_alloc]; exact hb))
            clear O5 B5 hO hb
            have cZ := Lib.hid (same6 g k _ _ (1 + (q : Int)) _ _ T9.out.log T9.out.ref (by omega))
            go_wp2_with fail
            refine cZ.out.use ?_
            intro wZ bZ
            have TZ := Lib.hid (T9.out.below bZ)
            clear cZ bZ
            go_wp2_with fail
            go_roundw
            case rel => exact ⟨i + 1, D, bs, cs, g, by omega, by omega, rfl, by go_num, TZ.out, by omega⟩
            case measure => first | (simp [intOf]; done) | (simp [intOf]; omega)
      by_cases hk2 : kind = 2
      · subst hk2
        have cA := Lib.hid (fun R kk => retain6_use (R := R) fr TH.out.log (by omega) kk)
        have cB := Lib.hid (fun R w h kk => rretain6_use (R := R) (w := w) (k := k) (bs := cs) (room := 1 + (q : Int)) (D := D) fr h GD.out (by omega) kk)
        have hlD : (D.drop (nret fr D)).length ≤ D.length := by rw [List.length_drop]; omega
        generalize D.drop (nret fr D) = D2 at *
        generalize nret fr D = nz at *
        go_wp2_with fail
        refine cA.out _ ?_
        intro bs2 w4 L4 K4 C4
        have HX4 := HX.out.keptBy K4 (fun hm => by exact absurd (HBL.out _ hm) (Nat.lt_irrefl _))
        obtain ⟨n0, n1, n2, n3, n4⟩ := HX4.c4
        have L4h := Lib.hid L4
        have K4h := Lib.hid K4
        have C4h := Lib.hid C4
        have R4 := Lib.hid (TH.out.ref.kept K4 TH.out.sep)
        clear L4 K4 C4 cA m0 m1 m2 m3 m4 c0 c1 c2 c3 HX4
        go_wp2_with fail
        refine cB.out _ _ R4.out ?_
        intro cs2 w5 R5 K5 C5
        have T5 := Lib.hid (TH.out.turn L4h.out K4h.out C4h.out R5 K5 C5)
        clear R5 K5 C5 cB L4h K4h C4h R4 n0 n1 n2 n3 n4
        have cZ := Lib.hid (same6 g k _ _ (1 + (q : Int)) _ _ T5.out.log T5.out.ref (by omega))
        go_wp2_with fail
        refine cZ.out.use ?_
        intro wZ bZ
        have TZ := Lib.hid (T5.out.below bZ)
        clear cZ bZ
        go_wp2_with fail
        go_roundw
        case rel => exact ⟨i + 1, D2, bs2, cs2, g, by omega, by omega, rfl, by go_num, TZ.out, by omega⟩
        case measure => first | (simp [intOf]; done) | (simp [intOf]; omega)
      by_cases hk3 : kind = 3
      · subst hk3
        have cA := Lib.hid (fun R kk => compact6_use (R := R) TH.out.log (by omega) kk)
        have cB := Lib.hid (fun R w h kk => rcompact6_use (R := R) (w := w) (k := k) (bs := cs) (room := 1 + (q : Int)) (D := D) h GD.out (by omega) kk)
        have hlD := dcmp_len GD.out
        generalize dcmp D = D2 at *
        generalize ncmp D = nz at *
        have hlD2 : D2.length ≤ D.length := by omega
        clear hlD
        go_wp2_with fail
        refine cA.out _ ?_
        intro bs2 w4 L4 K4 C4
        have L4h := Lib.hid L4
        have K4h := Lib.hid K4
        have C4h := Lib.hid C4
        have R4 := Lib.hid (TH.out.ref.kept K4 TH.out.sep)
        clear L4 K4 C4 cA m0 m1 m2 m3 m4 c0 c1 c2 c3
        go_wp2_with fail
        refine cB.out _ _ R4.out ?_
        intro cs2 w5 R5 K5 C5
        have T5 := Lib.hid (TH.out.turn L4h.out K4h.out C4h.out R5 K5 C5)
        clear R5 K5 C5 cB L4h K4h C4h R4
        have cZ := Lib.hid (same6 g k _ _ (1 + (q : Int)) _ _ T5.out.log T5.out.ref (by omega))
        go_wp2_with fail
        refine cZ.out.use ?_
        intro wZ bZ
        have TZ := Lib.hid (T5.out.below bZ)
        clear cZ bZ
        go_wp2_with fail
        go_roundw
        case rel => exact ⟨i + 1, D2, bs2, cs2, g, by omega, by omega, rfl, by go_num, TZ.out, by omega⟩
        case measure => first | (simp [intOf]; done) | (simp [intOf]; omega)
      by_cases hk4 : kind = 4
      · subst hk4
        have cA := Lib.hid (fun R kk => copy6_use (R := R) TH.out.log (by omega) kk)
        clear m1 m2 m3 m4
        go_wp2_with fail
        refine cA.out _ ?_
        intro g2 bs2 w3 L3 B3 N3
        clear cA m0 c0 c1 c2 c3
        have T3 := Lib.hid (TH.out.below B3)
        have L3h := Lib.hid L3
        have N3h : Hid (∀ x ∈ bs2, x ∉ bs ∧ x ∉ cs ∧ w.heap.size ≤ x) := Lib.hid (fun x hx => by
          have h1 := N3 x hx
          exact ⟨fun h => by have := TH.out.log.lt x h; omega, fun h => by have := TH.out.ref.lt x h; omega, Nat.le_trans TH.out.bel.size h1⟩)
        clear L3 B3 N3
        go_wp2_with fail
        refine (ck.out _).use ?_
        intro w4 b4
        have T4 := Lib.hid (T3.out.below b4)
        have L4 := Lib.hid (L3h.out.below b4)
        clear T3 L3h b4
        have A5 : Below w4.heap.size w4 (w4.alloc (.cells #[.bool true, .string (S [120]), .bool false, .string (S [121])] 29)) := below_all (Below.refl _ _)
        have hX5 := Blk.new w4 #[.bool true, .string (S [120]), .bool false, .string (S [121])] 29
        have T5 := Lib.hid (T4.out.below A5)
        have L5 := Lib.hid (L4.out.below A5)
        have hr5 : RecsIn (w4.alloc (.cells #[.bool true, .string (S [120]), .bool false, .string (S [121])] 29)) (.slice (some ⟨w4.heap.size, 0, none⟩) 1 1) [⟨true, [120], false, [121]⟩] :=
          recs_own (B := w4.heap.size) (by exact World.ownsRow_lit (base := w4.heap.size) (e := 29) (size := 4) w4 #[.bool true, .string (S [120]), .bool false, .string (S [121])] 1 (Nat.le_refl _) (by unfold maxLen; decide) rfl)
        have hav5 : Away bs (.slice (some ⟨w4.heap.size, 0, none⟩) 1 1) := fun b hb hm => by
          have h1 := T4.out.log.lt b hm
          simp [Value.ownBlock] at hb
          omega
        have cA := Lib.hid (fun R kk => append6_use (R := R) T5.out.log (by omega) hr5 hav5 (bd_small _ (by simp)) kk)
        clear A5 hX5 hr5 hav5 T4 L4
        have hlD := dapp_len (room := 1 + (q : Int)) (D := D) (rs := [⟨true, [120], false, [121]⟩])
        generalize (if aerr6 (1 + (q : Int)) D [⟨true, [120], false, [121]⟩] = 0 then dend D else 0) = az at cA
        generalize aerr6 (1 + (q : Int)) D [⟨true, [120], false, [121]⟩] = ez at cA
        generalize dapp (1 + (q : Int)) D [⟨true, [120], false, [121]⟩] = D2 at cA hlD
        go_wp2_with fail
        refine cA.out _ ?_
        intro bs3 w6 L6 K6 C6
        have hlt5 := T5.out.log.lt
        have hlt5c := T5.out.ref.lt
        have hlt5g := L5.out.lt
        have S6 : Hid (∀ x ∈ bs3, x ∉ bs2 ∧ x ∉ cs ∧ w.heap.size ≤ x) := Lib.hid (fun x hx => by
          rcases C6 x hx with h | h
          · exact ⟨fun h2 => (N3h.out x h2).1 h, fun h2 => T5.out.sep x h2 h, T5.out.low x h⟩
          · have := T5.out.bel.size
            exact ⟨fun h2 => by have := hlt5g x h2; omega, fun h2 => by have := hlt5c x h2; omega, by omega⟩)
        have Lw6 := Lib.hid L6
        have Lg6 := Lib.hid (L5.out.kept K6 (fun x hx => (N3h.out x hx).1))
        have Rk6 := Lib.hid (T5.out.ref.kept K6 T5.out.sep)
        have B6 := Lib.hid (Kept.below T5.out.bel K6 T5.out.low T5.out.bel.size)
        have SP := Lib.hid (fun x (hx : x ∈ cs) => (show w.heap.size ≤ x from T5.out.low2 x hx))
        clear cA L6 K6 C6 hlt5 hlt5c hlt5g L5 T5
        have cA := Lib.hid (fun R kk => retain6_use (R := R) 1073741824 Lw6.out (by omega) kk)
        go_wp2_with fail
        refine cA.out _ ?_
        intro bs4 w7 L7 K7 C7
        have hlt6 := Lw6.out.lt
        have hlt6c := Rk6.out.lt
        have hlt6g := Lg6.out.lt
        have S7 : Hid (∀ x ∈ bs4, x ∉ bs2 ∧ x ∉ cs ∧ w.heap.size ≤ x) := Lib.hid (fun x hx => by
          rcases C7 x hx with h | h
          · exact S6.out x h
          · have := B6.out.size
            exact ⟨fun h2 => by have := hlt6g x h2; omega, fun h2 => by have := hlt6c x h2; omega, by omega⟩)
        have Lw7 := Lib.hid L7
        have Lg7 := Lib.hid (Lg6.out.kept K7 (fun x hx h2 => (S6.out x h2).1 hx))
        have Rk7 := Lib.hid (Rk6.out.kept K7 (fun x hx h2 => (S6.out x h2).2.1 hx))
        have B7 := Lib.hid (Kept.below B6.out K7 (fun x hx => (S6.out x hx).2.2) B6.out.size)
        have hlD3 : (D2.drop (nret 1073741824 D2)).length ≤ D2.length := by rw [List.length_drop]; omega
        generalize D2.drop (nret 1073741824 D2) = D3 at *
        clear cA L7 K7 C7 hlt6 hlt6c hlt6g Lg6 Rk6 B6 Lw6
        have cA := Lib.hid (fun R kk => compact6_use (R := R) Lw7.out (by omega) kk)
        go_wp2_with fail
        refine cA.out _ ?_
        intro bs5 w8 L8 K8 C8
        have T8 : Hid (Two w w8 g2 k bs2 cs (1 + (q : Int)) D) := Lib.hid ⟨Lg7.out.kept K8 (fun x hx h2 => (S7.out x h2).1 hx), Rk7.out.kept K8 (fun x hx h2 => (S7.out x h2).2.1 hx), fun x hx hb => (N3h.out x hb).2.1 hx, fun x hx => (N3h.out x hx).2.2, SP.out, Kept.below B7.out K8 (fun x hx => (S7.out x hx).2.2) B7.out.size⟩
        clear cA L8 K8 C8 Lg7 Rk7 B7 Lw7
        have cZ := Lib.hid (same6 g2 k _ _ (1 + (q : Int)) _ _ T8.out.log T8.out.ref (by omega))
        go_wp2_with fail
        refine cZ.out.use ?_
        intro wZ bZ
        have TZ := Lib.hid (T8.out.below bZ)
        clear cZ bZ
        go_wp2_with fail
        go_roundw
        case rel => exact ⟨i + 1, D, bs2, cs, g2, by omega, by omega, rfl, by go_num, TZ.out, by omega⟩
        case measure => first | (simp [intOf]; done) | (simp [intOf]; omega)
      have T9 := Lib.hid TH.out
      have t0 : (kind == 0) = false := by simpa using hk0
      have t1 : (kind == 1) = false := by simpa using hk1
      have t2 : (kind == 2) = false := by simpa using hk2
      have t3 : (kind == 3) = false := by simpa using hk3
      have t4 : (kind == 4) = false := by simpa using hk4
      have cZ := Lib.hid (same6 g k _ _ (1 + (q : Int)) _ _ T9.out.log T9.out.ref (by omega))
      go_wp2_with fail
      refine cZ.out.use ?_
      intro wZ bZ
      have TZ := Lib.hid (T9.out.below bZ)
      clear cZ bZ
      go_wp2_with fail
      go_roundw
      case rel => exact ⟨i + 1, D, bs, cs, g, by omega, by omega, rfl, by go_num, TZ.out, by omega⟩
      case measure => first | (simp [intOf]; done) | (simp [intOf]; omega)
    · rcases (show ¬ (i < l.length) ∨ (i < l.length ∧ ¬ (i < 30)) by omega) with hgn | ⟨hgn, hgm⟩
      all_goals
        have HN := Lib.hid hT.bel
        clear hT hgo
        go_wp2_with fail
        refine (fixed6 _).use ?_
        intro w3 b3
        go_wp2_with fail
        exact finB hR (below_any (Nat.le_refl _) HN.out b3) rfl
end Go.Proofs.Ytkfglnhapcceaaa.plogDoes
