/-
  The walk of RequestGets.
-/
import Derived.Test.YthiliodmbipikaaGreatReqDh
import Derived.Test.YthiliodmbipikaaGreatFix4
set_option linter.unusedVariables false
set_option linter.unusedSimpArgs false
namespace Go.Proofs.YthiliodmbipikaaGreat.requestGets
open Go.RowKit
attribute [local go_sem] ByteArray.extract_mk ByteArray.mk_append_mk

/-- What is told first, and stays. -/
structure PB (w0 W : World) (pb : Nat) (c : Cmd) (rv tv : Value) : Prop where
  blk : Blk W pb (c.arr rv tv) 29
  cin : CmdIn W c rv tv
  o1 : ∀ b, rv.ownBlock = some b → b < pb
  o2 : ∀ b, tv.ownBlock = some b → b < pb
  bel : Below w0.heap.size w0 W
  lt : w0.heap.size ≤ pb
theorem PB.keptR {w0 W V : World} {pb : Nat} {c : Cmd} {rv tv : Value} {bs : List Nat} (h : PB w0 W pb c rv tv) (k : KeptR bs W V) (hb : ∀ b ∈ bs, pb < b) : PB w0 V pb c rv tv :=
  ⟨h.blk.keptR k (fun hm => by have := hb _ hm; omega), h.cin.keptR k (fun b h1 hm => by have := h.o1 b h1; have := hb b hm; omega) (fun b h1 hm => by have := h.o2 b h1; have := hb b hm; omega), h.o1, h.o2, k.toBelow h.bel (fun b hm => by have := hb b hm; have := h.lt; omega), h.lt⟩
theorem PB.below {w0 W V : World} {pb : Nat} {c : Cmd} {rv tv : Value} (h : PB w0 W pb c rv tv) (hb : Below W.heap.size W V) : PB w0 V pb c rv tv := h.keptR (bs := []) ((KeptR.refl [] W).bel hb) (by simp)
/-- A world that was written in some blocks alone. -/
structure Wrt (gs : List Nat) (w W : World) : Prop where
  k : KeptR gs w W
  e1 : ∀ a, (w.cell? a).isSome = true → (W.cell? a).isSome = true
  e2 : ∀ a, W.frozen? a = w.frozen? a
theorem Wrt.refl (gs : List Nat) (w : World) : Wrt gs w w := ⟨KeptR.refl _ _, fun _ h => h, fun _ => rfl⟩
theorem some_setCell (w : World) (a p : Addr) (v : Value) (h : (w.cell? a).isSome = true) : ((w.setCell p v).cell? a).isSome = true := by
  by_cases e : p = a
  · subst e
    obtain ⟨u, hu⟩ := Option.isSome_iff_exists.1 h
    rw [World.cell?_setCell_same w p v hu]; rfl
  · rw [World.cell?_setCell_other w p a v e]; exact h
theorem Wrt.set {gs : List Nat} {w W : World} (h : Wrt gs w W) {g : Nat} (hg : g ∈ gs) (i : Nat) (v : Value) : Wrt gs w (W.setCell ⟨g, i, none⟩ v) :=
  ⟨h.k.set hg i v, fun a ha => some_setCell _ _ _ _ (h.e1 a ha), fun a => (World.frozen?_setCell _ _ _ _).trans (h.e2 a)⟩
set_option maxHeartbeats 8000000 in
set_option maxRecDepth 100000 in
theorem walk {w : World} (s : List UInt8) (hs : s.length ≤ maxLen) : RetB Tryz.prog 3 #[.string (S s)] w (.bool true) := by
  refine RetB.intro fun R hR => ?_
  unfold maxLen at hs
  have q1 : ((min (s.length : Int) 1500).toNat) = min s.length 1500 := by omega
  obtain ⟨u, hu⟩ : ∃ l, s.take (min s.length 1500) = l := ⟨_, rfl⟩
  have lu : u.length ≤ 1500 := by rw [← hu, List.length_take]; omega
  have HF := Lib.hid (fun W => fixed4 W)
  have cG := Lib.hid (fun W => get4u u W (by omega))
  go_enter Tryz.func3, Tryz.ntmps3
  go_wp2_with fail
  refine (dget4 u w (by omega)).use ?_
  intro w1 c rv tv n g1
  clear q1 hu hs
  obtain ⟨ra, rc, hrv⟩ := g1.cin.recs.form
  obtain ⟨ta, tc, htv⟩ := g1.cin.tops.form
  have BD := Lib.hid g1.bd
  have GT := Lib.hid g1.got
  subst hrv htv
  obtain ⟨W1, hW1⟩ : ∃ W1, w1.alloc (.cells (c.arr (.slice ra c.recs.length rc) (.slice ta c.tops.length tc)) 29) = W1 := ⟨_, rfl⟩
  have hB1 : Below w1.heap.size w1 W1 := hW1 ▸ below_all (Below.refl _ _)
  have PB1 : Hid (PB w W1 w1.heap.size c (.slice ra c.recs.length rc) (.slice ta c.tops.length tc)) := Lib.hid ⟨hW1 ▸ Blk.new w1 _ _, g1.cin.below hB1, fun b hb => (g1.own1 b hb).2, fun b hb => (g1.own2 b hb).2, below_any (Nat.le_refl _) g1.bel hB1, g1.bel.size⟩
  have lc : c.recs.length ≤ maxLen := BD.out.recs.1
  have lt : c.tops.length ≤ 1000000 := BD.out.tops.1
  have cS := Lib.hid (fun (W : World) (rv tv rv' tv' : Value) (h1 : CmdIn W c rv tv) (h2 : CmdIn W c rv' tv') => (dsame4 c c rv tv rv' tv' W h1.recs h1.tops h2.recs h2.tops ⟨lc, lc⟩ ⟨lt, lt⟩).cast (congrArg Value.bool (decide_eq_true rfl)))
  have LC := Lib.hid lc
  have LT := Lib.hid lt
  have HW1 := Lib.hid hW1
  clear g1 hB1 lc lt hW1
  dsimp only [Cmd.arr] at HW1 cS ⊢
  go_wp2_with fail
  try rw [HW1.out]
  clear HW1
  go_loopw [5, 6, 7, 8, 9] (fun (x5 x6 x7 x8 x9 : Value) (W : World) => ∃ k : Nat, x5 = .int .i64 (k : Int) ∧ k ≤ 2 ∧ Hid (PB w W w1.heap.size c (.slice ra c.recs.length rc) (.slice ta c.tops.length tc))) (fun (x5 x6 x7 x8 x9 : Value) (W : World) => (2 - intOf x5).toNat)
  case atStart => exact ⟨0, rfl, by omega, PB1⟩
  case round =>
    clear PB1
    obtain ⟨k, rfl, hk2, hP⟩ := hrel
    by_cases hk : k < 2
    · have t1 : decide ((k : Int) < 2) = true := decide_eq_true (by omega)
      have t1b : ((k : Int) < 2) = True := eq_true (by omega)
      have t1c : (k < 2) = True := eq_true hk
      go_wp2_with fail
      refine (cG.out _).use ?_
      intro w2 c' rv2 tv2 n2 g2 u1 u2
      obtain ⟨hn, hc⟩ := GT.out.eq g2.got
      subst n2 c'
      obtain ⟨ra2, rc2, hrv⟩ := g2.cin.recs.form
      obtain ⟨ta2, tc2, htv⟩ := g2.cin.tops.form
      have G2 := Lib.hid g2
      have U1 := Lib.hid u1
      have U2 := Lib.hid u2
      subst hrv htv
      clear g2 u1 u2
      obtain ⟨W2, hW2⟩ : ∃ W2, w2.alloc (.cells (c.arr (.slice ra2 c.recs.length rc2) (.slice ta2 c.tops.length tc2)) 29) = W2 := ⟨_, rfl⟩
      have hB2 : Below w2.heap.size w2 W2 := hW2 ▸ below_all (Below.refl _ _)
      have OP2 : Hid (Blk W2 w2.heap.size (c.arr (.slice ra2 c.recs.length rc2) (.slice ta2 c.tops.length tc2)) 29) := Lib.hid (hW2 ▸ Blk.new w2 _ _)
      have P2 := Lib.hid ((hP.out.below G2.out.bel).below hB2)
      have C2 := Lib.hid (G2.out.cin.below hB2)
      have K2 : Hid (KeptR [] w2 W2) := Lib.hid ((KeptR.refl [] w2).bel hB2)
      have cS2 := Lib.hid (cS.out W2 _ _ _ _ C2.out P2.out.cin)
      have P2b := P2.out.blk
      have O2b := OP2.out
      have HW2 := Lib.hid hW2
      clear hW2 hB2
      dsimp only [Cmd.arr] at HW2 P2b O2b cS2 ⊢
      obtain ⟨HP2b, kp2, x0, x1, x2, x3, x4, x5, x6, x7, x8, x9, x10, x11, x12, x13⟩ := arr_cellsD P2b
      obtain ⟨HO2b, ko2, y0, y1, y2, y3, y4, y5, y6, y7, y8, y9, y10, y11, y12, y13⟩ := arr_cellsD O2b
      clear P2b O2b HP2b HO2b
      go_upto_region 7 with fail
      rw [HW2.out]
      clear HW2
      go_wp2_with fail
      refine cS2.out.use ?_
      intro w3 b3
      have OP3 := Lib.hid (OP2.out.below b3)
      have P3 := Lib.hid (P2.out.below b3)
      have C3 := Lib.hid (C2.out.below b3)
      have K3 : Hid (KeptR [] w2 w3) := Lib.hid (K2.out.trans ((KeptR.refl [] W2).bel b3))
      have V1 := Lib.hid (U1.out.keptR K3.out (by simp))
      have V2 := Lib.hid (U2.out.keptR K3.out (by simp))
      have OB1 := Lib.hid (fun b hb => G2.out.own1 b hb)
      have OB2 := Lib.hid (fun b hb => G2.out.own2 b hb)
      obtain ⟨gT, hgT⟩ : ∃ gT, (Value.slice ta2 c.tops.length tc2).ownBlock.toList = gT := ⟨_, rfl⟩
      obtain ⟨gR, hgR⟩ : ∃ gR, (Value.slice ra2 c.recs.length rc2).ownBlock.toList = gR := ⟨_, rfl⟩
      have HT : Hid (∀ b ∈ gT, w1.heap.size < b ∧ b < w2.heap.size ∧ ∀ i, w3.frozen? ⟨b, i, none⟩ = false) := Lib.hid (fun b hb => by
        rw [← hgT] at hb
        have hb' : (Value.slice ta2 c.tops.length tc2).ownBlock = some b := by simpa using hb
        have h1 := OB2.out b hb'
        have h2 := hP.out.blk.lt
        exact ⟨by omega, h1.2, (V2.out b hb').2⟩)
      have HR : Hid (∀ b ∈ gR, w1.heap.size < b ∧ b < w2.heap.size ∧ ∀ i, w3.frozen? ⟨b, i, none⟩ = false) := Lib.hid (fun b hb => by
        rw [← hgR] at hb
        have hb' : (Value.slice ra2 c.recs.length rc2).ownBlock = some b := by simpa using hb
        have h1 := OB1.out b hb'
        have h2 := hP.out.blk.lt
        exact ⟨by omega, h1.2, (V1.out b hb').2⟩)
      have CT : Hid (∀ j, j < c.tops.length → ∃ b off, ta2 = some ⟨b, off, none⟩ ∧ b ∈ gT ∧ (w3.cell? ⟨b, off + j, none⟩).isSome = true) := Lib.hid (fun j hj => by
        rcases C3.out.tops with ⟨h0, _⟩ | ⟨b, off, cap, he, _, _, hc⟩
        · rw [h0] at hj; simp at hj
        · simp only [Value.slice.injEq] at he
          refine ⟨b, off, he.1, ?_, by rw [hc j hj]; rfl⟩
          rw [← hgT, he.1]; simp [Value.ownBlock])
      have CR : Hid (∀ j, j < c.recs.length → ∃ b off, ra2 = some ⟨b, off, none⟩ ∧ b ∈ gR ∧ (w3.cell? ⟨b, off + j * 4 + 1, none⟩).isSome = true) := Lib.hid (fun j hj => by
        rcases C3.out.recs with ⟨h0, _⟩ | ⟨b, off, cap, he, _, _, hc⟩
        · rw [h0] at hj; simp at hj
        · simp only [Value.slice.injEq] at he
          refine ⟨b, off, he.1, ?_, by rw [(hc j hj).2.1]; rfl⟩
          rw [← hgR, he.1]; simp [Value.ownBlock])
      have hz23 : w2.heap.size < w3.heap.size := OP3.out.lt
      clear hgT hgR OP2 P2 C2 K2 cS2 C3 K3 V1 V2 U1 U2 G2 OB1 OB2 x0 x1 x2 x3 x4 x5 x6 x7 x8 x9 x10 x11 x12 x13 y0 y1 y2 y3 y4 y5 y6 y7 y8 y9 y10 y11 y12 y13 kp2 ko2 b3 hP
      go_wp2_with fail
      obtain ⟨wA, hwA⟩ : ∃ wA, wA = w3 := ⟨_, rfl⟩
      have WA0 : Hid (Wrt gT w3 wA) := Lib.hid (hwA ▸ Wrt.refl gT w3)
      clear hwA WA0 wA
      go_loopw [8] (fun (x8 : Value) (W : World) => ∃ i : Nat, x8 = .int .i64 (i : Int) ∧ i ≤ c.tops.length ∧ Hid (Wrt gT w3 W)) (fun (x8 : Value) (W : World) => (c.tops.length - intOf x8).toNat)
      case atStart => exact ⟨0, rfl, by omega, Lib.hid (Wrt.refl gT w3)⟩
      case round =>
        obtain ⟨i, rfl, hi, hW⟩ := hrel
        have OPb := OP3.out.keptR hW.out.k (fun hm => by have := (HT.out _ hm).2.1; omega)
        have OPh := Lib.hid OPb
        have ox := OPb.cell 13
        have ok := OPb.lt
        dsimp only [Cmd.arr] at ox
        simp only [List.getElem?_toArray, List.getElem?_cons_succ, List.getElem?_cons_zero] at ox
        by_cases hil : i < c.tops.length
        · obtain ⟨b, off, hta, hbT, hce⟩ := CT.out i hil
          obtain ⟨v, hv⟩ := Option.isSome_iff_exists.1 (hW.out.e1 _ hce)
          have hfr : ∀ j, wr.frozen? ⟨b, j, none⟩ = false := fun j => (hW.out.e2 _).trans ((HT.out b hbT).2.2 j)
          have hbT' := Lib.hid hbT
          have hbl : b < wr.heap.size := World.block_lt_of_cell? wr ⟨b, off + i, none⟩ hv
          have i1 : (0 : Int) ≤ (i : Int) := by omega
          have i2 : (i : Int) < (c.tops.length : Int) := by omega
          have hLT := LT.out
          subst hta
          clear hbT hce OPb
          go_wp2_with fail
          go_roundw
          case rel => exact ⟨i + 1, by go_num, by omega, Lib.hid (hW.out.set hbT'.out (off + i) _)⟩
          case measure => simp [intOf]; omega
        · have i2 : ((i : Int) < (c.tops.length : Int)) = False := eq_false (by omega)
          have i3 : (i < c.tops.length) = False := eq_false hil
          obtain ⟨w4, rfl⟩ : ∃ w4, w4 = wr := ⟨_, rfl⟩
          have ox8 := OPb.cell 8
          dsimp only [Cmd.arr] at ox8
          simp only [List.getElem?_toArray, List.getElem?_cons_succ, List.getElem?_cons_zero] at ox8
          have P4 := Lib.hid (P3.out.keptR hW.out.k (fun b hb => (HT.out b hb).1))
          have hz34 := hW.out.k.size
          have CR4 : Hid (∀ j, j < c.recs.length → ∃ b off, ra2 = some ⟨b, off, none⟩ ∧ b ∈ gR ∧ (w4.cell? ⟨b, off + j * 4 + 1, none⟩).isSome = true) := Lib.hid (fun j hj => by
            obtain ⟨b, off, h1, h2, h3⟩ := CR.out j hj
            exact ⟨b, off, h1, h2, hW.out.e1 _ h3⟩)
          have HR4 : Hid (∀ b ∈ gR, w1.heap.size < b ∧ b < w2.heap.size ∧ ∀ i, w4.frozen? ⟨b, i, none⟩ = false) := Lib.hid (fun b hb => ⟨(HR.out b hb).1, (HR.out b hb).2.1, fun i => (hW.out.e2 _).trans ((HR.out b hb).2.2 i)⟩)
          clear hW OPb
          go_wp2_with fail
          clear ox ox8 ok i2 i3
          go_loopw [9] (fun (x9 : Value) (W : World) => ∃ i : Nat, x9 = .int .i64 (i : Int) ∧ i ≤ c.recs.length ∧ Hid (Wrt gR w4 W)) (fun (x9 : Value) (W : World) => (c.recs.length - intOf x9).toNat)
          case atStart => exact ⟨0, rfl, by omega, Lib.hid (Wrt.refl gR w4)⟩
          case round =>
            obtain ⟨i5, rfl, hi5, hW⟩ := hrel
            have OPb := OPh.out.keptR hW.out.k (fun hm => by have := (HR4.out _ hm).2.1; omega)
            have ox := OPb.cell 8
            have ok := OPb.lt
            dsimp only [Cmd.arr] at ox
            simp only [List.getElem?_toArray, List.getElem?_cons_succ, List.getElem?_cons_zero] at ox
            by_cases hil5 : i5 < c.recs.length
            · obtain ⟨b, off, hta, hbT, hce⟩ := CR4.out i5 hil5
              obtain ⟨v, hv⟩ := Option.isSome_iff_exists.1 (hW.out.e1 _ hce)
              have hfr : ∀ j, wr.frozen? ⟨b, j, none⟩ = false := fun j => (hW.out.e2 _).trans ((HR4.out b hbT).2.2 j)
              have hbT' := Lib.hid hbT
              have hbl : b < wr.heap.size := World.block_lt_of_cell? wr ⟨b, off + i5 * 4 + 1, none⟩ hv
              have i1 : (0 : Int) ≤ (i5 : Int) := by omega
              have i2 : (i5 : Int) < (c.recs.length : Int) := by omega
              have hLC := LC.out
              unfold maxLen at hLC
              subst hta
              clear hbT hce OPb
              go_wp2_with fail
              go_roundw
              case rel => exact ⟨i5 + 1, by go_num, by omega, Lib.hid (hW.out.set hbT'.out (off + i5 * 4 + 1) _)⟩
              case measure => simp [intOf]; omega
            · have i2 : ((i5 : Int) < (c.recs.length : Int)) = False := eq_false (by omega)
              have i3 : (i5 < c.recs.length) = False := eq_false hil5
              have P5 := Lib.hid (P4.out.keptR hW.out.k (fun b hb => (HR4.out b hb).1))
              clear hW OPb
              go_wp2_with fail
              go_roundw
              case rel => exact ⟨k + 1, by go_num, by omega, P5⟩
              case measure => simp [intOf]; omega
    · have t1 : decide ((k : Int) < 2) = false := decide_eq_false (by omega)
      have t1b : ((k : Int) < 2) = False := eq_false (by omega)
      have t1c : (k < 2) = False := eq_false hk
      go_wp2_with fail
      refine (HF.out _).use ?_
      intro w9 b9
      go_wp2_with fail
      exact finB hR (below_any (Nat.le_refl _) hP.out.bel b9) rfl
end Go.Proofs.YthiliodmbipikaaGreat.requestGets
