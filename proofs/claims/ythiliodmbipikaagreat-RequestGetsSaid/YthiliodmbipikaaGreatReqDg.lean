/-
  Layer 4, the document: what a letter stands for, read.
-/
import Derived.Test.YthiliodmbipikaaGreatReqDp
import Derived.Test.YthiliodmbipikaaGreatReqDi
import Derived.Test.YthiliodmbipikaaGreatReqY
import Derived.Test.YthiliodmbipikaaGreatRecR
import Derived.Deep.DeepCutAuto
set_option linter.unusedVariables false
set_option linter.unusedSimpArgs false
namespace Go.Proofs.YthiliodmbipikaaGreat
open Go.RowKit
attribute [local go_sem] ByteArray.extract_mk ByteArray.mk_append_mk

theorem KeptR.setN {bs : List Nat} {w W : World} {g : Nat} (h : KeptR bs w W) (hg : w.heap.size ≤ g) (i : Nat) (v : Value) : KeptR bs w (W.setCell ⟨g, i, none⟩ v) :=
  ⟨h.os, h.tape, h.output, by have := h.size; simp [World.setCell]; omega, fun k hk hn => (heap_setCell_other _ _ _ _ (fun e => by have e : k = g := e; omega)).trans (h.block k hk hn)⟩
theorem KeptR.transN {bs cs : List Nat} {w W V : World} (h : KeptR bs w W) (k : KeptR cs W V) (hg : ∀ g ∈ cs, g ∈ bs ∨ w.heap.size ≤ g) : KeptR bs w V :=
  ⟨k.os.trans h.os, k.tape.trans h.tape, k.output.trans h.output, Nat.le_trans h.size k.size, fun i hi hn => (k.block i (Nat.lt_of_lt_of_le hi h.size) (fun hm => (hg i hm).elim hn (by omega))).trans (h.block i hi hn)⟩
/-- A letter read: what it hands back. -/
structure OneIn (s : List UInt8) (p B : Nat) (w w' : World) (c' : Cmd) (rv' tv' : Value) (a' : Int) (bad' : Bool) : Prop where
  rd : Blk w' p (inr s a' bad') 40
  k : KeptR [p] w w'
  cin : CmdIn w' c' rv' tv'
  bd : CmdBd c'
  o1 : ∀ b, rv'.ownBlock = some b → B ≤ b ∧ b < w'.heap.size
  o2 : ∀ b, tv'.ownBlock = some b → B ≤ b ∧ b < w'.heap.size
  go : bad' = false → 0 ≤ a' ∧ a' ≤ s.length
def OneS (s : List UInt8) (x : UInt8) (a : Int) (c c' : Cmd) (a' : Int) (bad' : Bool) : Prop := ∀ (y : Cmd) (b : Int), ccheck y = 0 → x ∈ hasL y.kind.toNat → At s a (oneB y x) b → c' = cset y c x ∧ a' = b ∧ bad' = false
def OneCall (s : List UInt8) (p B : Nat) (w : World) (c : Cmd) (rv tv : Value) (x : UInt8) (xi : Int) (a : Int) : Prop :=
  Calls Tryz.prog 10 #[.pointer (some ⟨p, 0, none⟩), .agg (c.arr rv tv), .int .u8 xi] w fun e w' => ∃ c' rv' tv' a' bad', e = .returned (.agg (c'.arr rv' tv')) ∧ OneIn s p B w w' c' rv' tv' a' bad' ∧ OneS s x a c c' a' bad' ∧ c'.kind = c.kind ∧ (x ≠ 108 → tv' = tv)
theorem OneCall.intro {s : List UInt8} {p B : Nat} {w : World} {c : Cmd} {rv tv : Value} {x : UInt8} {xi : Int} {a : Int} (h : ∀ R : Ending → World → Prop, Hid (∀ w' c' rv' tv' a' bad', OneIn s p B w w' c' rv' tv' a' bad' → OneS s x a c c' a' bad' → c'.kind = c.kind → (x ≠ 108 → tv' = tv) → R (.returned (.agg (c'.arr rv' tv'))) w') → Calls Tryz.prog 10 #[.pointer (some ⟨p, 0, none⟩), .agg (c.arr rv tv), .int .u8 xi] w R) : OneCall s p B w c rv tv x xi a :=
  h _ fun w' c' rv' tv' a' bad' h1 h2 h3 h4 => ⟨c', rv', tv', a', bad', rfl, h1, h2, h3, h4⟩
theorem OneCall.use {s : List UInt8} {p B : Nat} {w : World} {c : Cmd} {rv tv : Value} {x : UInt8} {xi : Int} {a : Int} {R : Ending → World → Prop} (h : OneCall s p B w c rv tv x xi a) (k : ∀ w' c' rv' tv' a' bad', OneIn s p B w w' c' rv' tv' a' bad' → OneS s x a c c' a' bad' → c'.kind = c.kind → (x ≠ 108 → tv' = tv) → R (.returned (.agg (c'.arr rv' tv'))) w') : Calls Tryz.prog 10 #[.pointer (some ⟨p, 0, none⟩), .agg (c.arr rv tv), .int .u8 xi] w R :=
  h.mono fun e w' ⟨c', rv', tv', a', bad', he, h1, h2, h3, h4⟩ => by subst he; exact k w' c' rv' tv' a' bad' h1 h2 h3 h4
/-- The two blocks of a letter's reading. -/
def WOne (A : Array Value) (w : World) : World := (w.alloc (.cells A 29)).alloc (.cells #[.int .i64 0, .string (S []), .int .i64 0, .int .i64 0, .int .i64 0, .int .i64 0, .int .i64 0, .int .i64 0, .slice none 0 0, .string (S []), .string (S []), .int .i64 0, .bool false, .slice none 0 0] 29)
theorem wone (A : Array Value) (w : World) : Below w.heap.size w (WOne A w) ∧ Blk (WOne A w) w.heap.size A 29 ∧ Blk (WOne A w) (w.heap.size + 1) #[.int .i64 0, .string (S []), .int .i64 0, .int .i64 0, .int .i64 0, .int .i64 0, .int .i64 0, .int .i64 0, .slice none 0 0, .string (S []), .string (S []), .int .i64 0, .bool false, .slice none 0 0] 29 ∧ (WOne A w).heap.size = w.heap.size + 1 + 1 := by
  have h := Blk.new (w.alloc (.cells A 29)) #[.int .i64 0, .string (S []), .int .i64 0, .int .i64 0, .int .i64 0, .int .i64 0, .int .i64 0, .int .i64 0, .slice none 0 0, .string (S []), .string (S []), .int .i64 0, .bool false, .slice none 0 0] 29
  rw [World.size_alloc] at h
  exact ⟨below_all (below_all (Below.refl _ _)), (Blk.new w _ _).alloc _, h, by simp [WOne]⟩
theorem at_be {s : List UInt8} {α : Type} {enc : α → List UInt8} {good : α → Prop} {a a' : Int} {v : α} {bad bad' : Bool} (h : Step s enc good a (be bad) v a' (be bad')) : bad' = false → 0 ≤ a' ∧ a' ≤ s.length := fun hb => by
  have := h.go (by rw [hb]; rfl)
  omega
theorem vput_robin (b : Bool) : vput (if b then (1 : Int) else 0).toNat = [if b then 1 else 0] := by cases b <;> decide
set_option maxHeartbeats 2000000 in
set_option maxRecDepth 100000 in
theorem in_one_t (s : List UInt8) (p B : Nat) (w : World) (c : Cmd) (rv tv : Value) (a : Int) (hl : s.length ≤ 900000) (hp : Blk w p (inr s a false) 40) (ha : 0 ≤ a ∧ a ≤ s.length) (hpB : p < B) (hB : B ≤ w.heap.size) (hi : CmdIn w c rv tv) (bd : CmdBd c) (o1 : ∀ b, rv.ownBlock = some b → B ≤ b ∧ b < w.heap.size) (o2 : ∀ b, tv.ownBlock = some b → B ≤ b ∧ b < w.heap.size) : OneCall s p B w c rv tv 116 116 a := by
  refine OneCall.intro fun R hR => ?_
  obtain ⟨ra, rc, hrv⟩ := hi.recs.form
  obtain ⟨ta, tc, htv⟩ := hi.tops.form
  subst hrv htv
  obtain ⟨B0, X0, Y0, sz0⟩ := wone (c.arr (.slice ra c.recs.length rc) (.slice ta c.tops.length tc)) w
  have P0 := hp.below B0
  have K0 : KeptR [p] w (WOne (c.arr (.slice ra c.recs.length rc) (.slice ta c.tops.length tc)) w) := (KeptR.refl [p] w).bel B0
  have HL : s.length ≤ maxLen := by unfold maxLen; omega
  have HI := Lib.hid hi
  have BD := Lib.hid bd
  have O1 := Lib.hid o1
  have O2 := Lib.hid o2
  have HA := Lib.hid ha
  have SZ := Lib.hid sz0
  clear hi bd o1 o2 ha sz0
  dsimp only [Cmd.arr] at *
  go_enter Tryz.func10, Tryz.ntmps10
  go_wp2_with fail
  refine (show Calls Tryz.prog 25 _ (WOne #[.int .i64 c.kind, .string (S c.topic), .int .i64 c.pn, .int .i64 c.n, .int .i64 c.off, .int .i64 c.bp, .int .i64 c.be, .int .i64 c.bq, .slice ra c.recs.length rc, .string (S c.group), .string (S c.member), .int .i64 c.gen, .bool c.robin, .slice ta c.tops.length tc] w) _ from ?_)
  generalize WOne #[.int .i64 c.kind, .string (S c.topic), .int .i64 c.pn, .int .i64 c.n, .int .i64 c.off, .int .i64 c.bp, .int .i64 c.be, .int .i64 c.bq, .slice ra c.recs.length rc, .string (S c.group), .string (S c.member), .int .i64 c.gen, .bool c.robin, .slice ta c.tops.length tc] w = W0 at B0 X0 Y0 P0 K0 SZ ⊢
  have cc := Lib.hid (in_text s a false p W0 HL P0)
  refine cc.out.use ?_
  intro w1 u a1 bad1 p1 k1 st
  obtain ⟨v, rfl, hb, hs⟩ := st
  have X1 := X0.keptR k1 (by simp; omega)
  have Y1 := Y0.keptR k1 (by simp; omega)
  have K1 := Lib.hid (K0.trans k1)
  have RD1 := Lib.hid p1
  obtain ⟨HX1, kx1, x0, x1, x2, x3, x4, x5, x6, x7, x8, x9, x10, x11, x12, x13⟩ := arr_cells X1
  obtain ⟨HY1, ky1, y0, y1, y2, y3, y4, y5, y6, y7, y8, y9, y10, y11, y12, y13⟩ := arr_cells Y1
  have fx : ∀ i, w1.frozen? ⟨w.heap.size, i, none⟩ = false := fun i => Blk.frozen X1 i
  have fy : ∀ i, w1.frozen? ⟨w.heap.size + 1, i, none⟩ = false := fun i => Blk.frozen Y1 i
  have Y2 := Lib.hid (Y1.setOther (a := ⟨w.heap.size, 1, none⟩) (show w.heap.size + 1 ≠ w.heap.size by omega) (.string (S v)))
  have K2 := Lib.hid (K1.out.setN (g := w.heap.size) (Nat.le_refl _) 1 (.string (S v)))
  have RDF := Lib.hid (RD1.out.setOther (a := ⟨w.heap.size, 1, none⟩) (show p ≠ w.heap.size by omega) (.string (S v)))
  have GO := Lib.hid (at_be hs)
  have HB := Lib.hid hb
  have OS : Hid (OneS s 116 a c { c with topic := v } a1 bad1) := Lib.hid (fun y b hy hx hat => by
    obtain ⟨h1, h2, h3⟩ := hs.full y.topic b rfl (ccheck_ok hy).topic hat
    exact ⟨by rw [h1]; rfl, h2, be_zero h3⟩)
  clear cc p1 k1 hs hb B0 X0 Y0 P0 K0 X1 Y1 HX1 HY1 RD1
  go_wp2_with fail
  have ST := set14 (v0 := .int .i64 c.kind) (v1 := .string (S v)) (v2 := .int .i64 c.pn) (v3 := .int .i64 c.n) (v4 := .int .i64 c.off) (v5 := .int .i64 c.bp) (v6 := .int .i64 c.be) (v7 := .int .i64 c.bq) (v8 := .slice ra c.recs.length rc) (v9 := .string (S c.group)) (v10 := .string (S c.member)) (v11 := .int .i64 c.gen) (v12 := .bool c.robin) (v13 := .slice ta c.tops.length tc) Y2.out
  refine bodyPost_ret (results_cell_row rfl _ _ (w.heap.size + 1) 29 #[.int .i64 c.kind, .string (S v), .int .i64 c.pn, .int .i64 c.n, .int .i64 c.off, .int .i64 c.bp, .int .i64 c.be, .int .i64 c.bq, .slice ra c.recs.length rc, .string (S c.group), .string (S c.member), .int .i64 c.gen, .bool c.robin, .slice ta c.tops.length tc] (0, 0) _ rfl ?c1 Tryz.underlying29 rfl (by kernel_rfl)) rfl ?_
  case c1 => exact ST.1
  have KF := K2.out.transN ST.2 (by simp)
  exact hR.out _ { c with topic := v } (.slice ra c.recs.length rc) (.slice ta c.tops.length tc) a1 bad1 ⟨(RDF.out).keptR ST.2 (by simp; omega), KF, ⟨HI.out.recs.keptR KF (fun b hb hm => by have := (O1.out b hb).1; simp at hm; omega), HI.out.tops.keptR KF (fun b hb hm => by have := (O2.out b hb).1; simp at hm; omega)⟩, ⟨by unfold maxLen; have := HB.out; dsimp only; omega, BD.out.group, BD.out.member, BD.out.recs, BD.out.tops⟩, fun b hb => ⟨(O1.out b hb).1, Nat.lt_of_lt_of_le (O1.out b hb).2 KF.size⟩, fun b hb => ⟨(O2.out b hb).1, Nat.lt_of_lt_of_le (O2.out b hb).2 KF.size⟩, GO.out⟩ OS.out rfl (fun _ => rfl)
set_option maxHeartbeats 2000000 in
set_option maxRecDepth 100000 in
theorem in_one_g (s : List UInt8) (p B : Nat) (w : World) (c : Cmd) (rv tv : Value) (a : Int) (hl : s.length ≤ 900000) (hp : Blk w p (inr s a false) 40) (ha : 0 ≤ a ∧ a ≤ s.length) (hpB : p < B) (hB : B ≤ w.heap.size) (hi : CmdIn w c rv tv) (bd : CmdBd c) (o1 : ∀ b, rv.ownBlock = some b → B ≤ b ∧ b < w.heap.size) (o2 : ∀ b, tv.ownBlock = some b → B ≤ b ∧ b < w.heap.size) : OneCall s p B w c rv tv 103 103 a := by
  refine OneCall.intro fun R hR => ?_
  obtain ⟨ra, rc, hrv⟩ := hi.recs.form
  obtain ⟨ta, tc, htv⟩ := hi.tops.form
  subst hrv htv
  obtain ⟨B0, X0, Y0, sz0⟩ := wone (c.arr (.slice ra c.recs.length rc) (.slice ta c.tops.length tc)) w
  have P0 := hp.below B0
  have K0 : KeptR [p] w (WOne (c.arr (.slice ra c.recs.length rc) (.slice ta c.tops.length tc)) w) := (KeptR.refl [p] w).bel B0
  have HL : s.length ≤ maxLen := by unfold maxLen; omega
  have HI := Lib.hid hi
  have BD := Lib.hid bd
  have O1 := Lib.hid o1
  have O2 := Lib.hid o2
  have HA := Lib.hid ha
  have SZ := Lib.hid sz0
  clear hi bd o1 o2 ha sz0
  dsimp only [Cmd.arr] at *
  go_enter Tryz.func10, Tryz.ntmps10
  go_wp2_with fail
  refine (show Calls Tryz.prog 25 _ (WOne #[.int .i64 c.kind, .string (S c.topic), .int .i64 c.pn, .int .i64 c.n, .int .i64 c.off, .int .i64 c.bp, .int .i64 c.be, .int .i64 c.bq, .slice ra c.recs.length rc, .string (S c.group), .string (S c.member), .int .i64 c.gen, .bool c.robin, .slice ta c.tops.length tc] w) _ from ?_)
  generalize WOne #[.int .i64 c.kind, .string (S c.topic), .int .i64 c.pn, .int .i64 c.n, .int .i64 c.off, .int .i64 c.bp, .int .i64 c.be, .int .i64 c.bq, .slice ra c.recs.length rc, .string (S c.group), .string (S c.member), .int .i64 c.gen, .bool c.robin, .slice ta c.tops.length tc] w = W0 at B0 X0 Y0 P0 K0 SZ ⊢
  have cc := Lib.hid (in_text s a false p W0 HL P0)
  refine cc.out.use ?_
  intro w1 u a1 bad1 p1 k1 st
  obtain ⟨v, rfl, hb, hs⟩ := st
  have X1 := X0.keptR k1 (by simp; omega)
  have Y1 := Y0.keptR k1 (by simp; omega)
  have K1 := Lib.hid (K0.trans k1)
  have RD1 := Lib.hid p1
  obtain ⟨HX1, kx1, x0, x1, x2, x3, x4, x5, x6, x7, x8, x9, x10, x11, x12, x13⟩ := arr_cells X1
  obtain ⟨HY1, ky1, y0, y1, y2, y3, y4, y5, y6, y7, y8, y9, y10, y11, y12, y13⟩ := arr_cells Y1
  have fx : ∀ i, w1.frozen? ⟨w.heap.size, i, none⟩ = false := fun i => Blk.frozen X1 i
  have fy : ∀ i, w1.frozen? ⟨w.heap.size + 1, i, none⟩ = false := fun i => Blk.frozen Y1 i
  have Y2 := Lib.hid (Y1.setOther (a := ⟨w.heap.size, 9, none⟩) (show w.heap.size + 1 ≠ w.heap.size by omega) (.string (S v)))
  have K2 := Lib.hid (K1.out.setN (g := w.heap.size) (Nat.le_refl _) 9 (.string (S v)))
  have RDF := Lib.hid (RD1.out.setOther (a := ⟨w.heap.size, 9, none⟩) (show p ≠ w.heap.size by omega) (.string (S v)))
  have GO := Lib.hid (at_be hs)
  have HB := Lib.hid hb
  have OS : Hid (OneS s 103 a c { c with group := v } a1 bad1) := Lib.hid (fun y b hy hx hat => by
    obtain ⟨h1, h2, h3⟩ := hs.full y.group b rfl (ccheck_ok hy).group hat
    exact ⟨by rw [h1]; rfl, h2, be_zero h3⟩)
  clear cc p1 k1 hs hb B0 X0 Y0 P0 K0 X1 Y1 HX1 HY1 RD1
  go_wp2_with fail
  have ST := set14 (v0 := .int .i64 c.kind) (v1 := .string (S c.topic)) (v2 := .int .i64 c.pn) (v3 := .int .i64 c.n) (v4 := .int .i64 c.off) (v5 := .int .i64 c.bp) (v6 := .int .i64 c.be) (v7 := .int .i64 c.bq) (v8 := .slice ra c.recs.length rc) (v9 := .string (S v)) (v10 := .string (S c.member)) (v11 := .int .i64 c.gen) (v12 := .bool c.robin) (v13 := .slice ta c.tops.length tc) Y2.out
  refine bodyPost_ret (results_cell_row rfl _ _ (w.heap.size + 1) 29 #[.int .i64 c.kind, .string (S c.topic), .int .i64 c.pn, .int .i64 c.n, .int .i64 c.off, .int .i64 c.bp, .int .i64 c.be, .int .i64 c.bq, .slice ra c.recs.length rc, .string (S v), .string (S c.member), .int .i64 c.gen, .bool c.robin, .slice ta c.tops.length tc] (0, 0) _ rfl ?c1 Tryz.underlying29 rfl (by kernel_rfl)) rfl ?_
  case c1 => exact ST.1
  have KF := K2.out.transN ST.2 (by simp)
  exact hR.out _ { c with group := v } (.slice ra c.recs.length rc) (.slice ta c.tops.length tc) a1 bad1 ⟨(RDF.out).keptR ST.2 (by simp; omega), KF, ⟨HI.out.recs.keptR KF (fun b hb hm => by have := (O1.out b hb).1; simp at hm; omega), HI.out.tops.keptR KF (fun b hb hm => by have := (O2.out b hb).1; simp at hm; omega)⟩, ⟨BD.out.topic, by unfold maxLen; have := HB.out; dsimp only; omega, BD.out.member, BD.out.recs, BD.out.tops⟩, fun b hb => ⟨(O1.out b hb).1, Nat.lt_of_lt_of_le (O1.out b hb).2 KF.size⟩, fun b hb => ⟨(O2.out b hb).1, Nat.lt_of_lt_of_le (O2.out b hb).2 KF.size⟩, GO.out⟩ OS.out rfl (fun _ => rfl)
set_option maxHeartbeats 2000000 in
set_option maxRecDepth 100000 in
theorem in_one_m (s : List UInt8) (p B : Nat) (w : World) (c : Cmd) (rv tv : Value) (a : Int) (hl : s.length ≤ 900000) (hp : Blk w p (inr s a false) 40) (ha : 0 ≤ a ∧ a ≤ s.length) (hpB : p < B) (hB : B ≤ w.heap.size) (hi : CmdIn w c rv tv) (bd : CmdBd c) (o1 : ∀ b, rv.ownBlock = some b → B ≤ b ∧ b < w.heap.size) (o2 : ∀ b, tv.ownBlock = some b → B ≤ b ∧ b < w.heap.size) : OneCall s p B w c rv tv 109 109 a := by
  refine OneCall.intro fun R hR => ?_
  obtain ⟨ra, rc, hrv⟩ := hi.recs.form
  obtain ⟨ta, tc, htv⟩ := hi.tops.form
  subst hrv htv
  obtain ⟨B0, X0, Y0, sz0⟩ := wone (c.arr (.slice ra c.recs.length rc) (.slice ta c.tops.length tc)) w
  have P0 := hp.below B0
  have K0 : KeptR [p] w (WOne (c.arr (.slice ra c.recs.length rc) (.slice ta c.tops.length tc)) w) := (KeptR.refl [p] w).bel B0
  have HL : s.length ≤ maxLen := by unfold maxLen; omega
  have HI := Lib.hid hi
  have BD := Lib.hid bd
  have O1 := Lib.hid o1
  have O2 := Lib.hid o2
  have HA := Lib.hid ha
  have SZ := Lib.hid sz0
  clear hi bd o1 o2 ha sz0
  dsimp only [Cmd.arr] at *
  go_enter Tryz.func10, Tryz.ntmps10
  go_wp2_with fail
  refine (show Calls Tryz.prog 25 _ (WOne #[.int .i64 c.kind, .string (S c.topic), .int .i64 c.pn, .int .i64 c.n, .int .i64 c.off, .int .i64 c.bp, .int .i64 c.be, .int .i64 c.bq, .slice ra c.recs.length rc, .string (S c.group), .string (S c.member), .int .i64 c.gen, .bool c.robin, .slice ta c.tops.length tc] w) _ from ?_)
  generalize WOne #[.int .i64 c.kind, .string (S c.topic), .int .i64 c.pn, .int .i64 c.n, .int .i64 c.off, .int .i64 c.bp, .int .i64 c.be, .int .i64 c.bq, .slice ra c.recs.length rc, .string (S c.group), .string (S c.member), .int .i64 c.gen, .bool c.robin, .slice ta c.tops.length tc] w = W0 at B0 X0 Y0 P0 K0 SZ ⊢
  have cc := Lib.hid (in_text s a false p W0 HL P0)
  refine cc.out.use ?_
  intro w1 u a1 bad1 p1 k1 st
  obtain ⟨v, rfl, hb, hs⟩ := st
  have X1 := X0.keptR k1 (by simp; omega)
  have Y1 := Y0.keptR k1 (by simp; omega)
  have K1 := Lib.hid (K0.trans k1)
  have RD1 := Lib.hid p1
  obtain ⟨HX1, kx1, x0, x1, x2, x3, x4, x5, x6, x7, x8, x9, x10, x11, x12, x13⟩ := arr_cells X1
  obtain ⟨HY1, ky1, y0, y1, y2, y3, y4, y5, y6, y7, y8, y9, y10, y11, y12, y13⟩ := arr_cells Y1
  have fx : ∀ i, w1.frozen? ⟨w.heap.size, i, none⟩ = false := fun i => Blk.frozen X1 i
  have fy : ∀ i, w1.frozen? ⟨w.heap.size + 1, i, none⟩ = false := fun i => Blk.frozen Y1 i
  have Y2 := Lib.hid (Y1.setOther (a := ⟨w.heap.size, 10, none⟩) (show w.heap.size + 1 ≠ w.heap.size by omega) (.string (S v)))
  have K2 := Lib.hid (K1.out.setN (g := w.heap.size) (Nat.le_refl _) 10 (.string (S v)))
  have RDF := Lib.hid (RD1.out.setOther (a := ⟨w.heap.size, 10, none⟩) (show p ≠ w.heap.size by omega) (.string (S v)))
  have GO := Lib.hid (at_be hs)
  have HB := Lib.hid hb
  have OS : Hid (OneS s 109 a c { c with member := v } a1 bad1) := Lib.hid (fun y b hy hx hat => by
    obtain ⟨h1, h2, h3⟩ := hs.full y.member b rfl (ccheck_ok hy).member hat
    exact ⟨by rw [h1]; rfl, h2, be_zero h3⟩)
  clear cc p1 k1 hs hb B0 X0 Y0 P0 K0 X1 Y1 HX1 HY1 RD1
  go_wp2_with fail
  have ST := set14 (v0 := .int .i64 c.kind) (v1 := .string (S c.topic)) (v2 := .int .i64 c.pn) (v3 := .int .i64 c.n) (v4 := .int .i64 c.off) (v5 := .int .i64 c.bp) (v6 := .int .i64 c.be) (v7 := .int .i64 c.bq) (v8 := .slice ra c.recs.length rc) (v9 := .string (S c.group)) (v10 := .string (S v)) (v11 := .int .i64 c.gen) (v12 := .bool c.robin) (v13 := .slice ta c.tops.length tc) Y2.out
  refine bodyPost_ret (results_cell_row rfl _ _ (w.heap.size + 1) 29 #[.int .i64 c.kind, .string (S c.topic), .int .i64 c.pn, .int .i64 c.n, .int .i64 c.off, .int .i64 c.bp, .int .i64 c.be, .int .i64 c.bq, .slice ra c.recs.length rc, .string (S c.group), .string (S v), .int .i64 c.gen, .bool c.robin, .slice ta c.tops.length tc] (0, 0) _ rfl ?c1 Tryz.underlying29 rfl (by kernel_rfl)) rfl ?_
  case c1 => exact ST.1
  have KF := K2.out.transN ST.2 (by simp)
  exact hR.out _ { c with member := v } (.slice ra c.recs.length rc) (.slice ta c.tops.length tc) a1 bad1 ⟨(RDF.out).keptR ST.2 (by simp; omega), KF, ⟨HI.out.recs.keptR KF (fun b hb hm => by have := (O1.out b hb).1; simp at hm; omega), HI.out.tops.keptR KF (fun b hb hm => by have := (O2.out b hb).1; simp at hm; omega)⟩, ⟨BD.out.topic, BD.out.group, by unfold maxLen; have := HB.out; dsimp only; omega, BD.out.recs, BD.out.tops⟩, fun b hb => ⟨(O1.out b hb).1, Nat.lt_of_lt_of_le (O1.out b hb).2 KF.size⟩, fun b hb => ⟨(O2.out b hb).1, Nat.lt_of_lt_of_le (O2.out b hb).2 KF.size⟩, GO.out⟩ OS.out rfl (fun _ => rfl)
set_option maxHeartbeats 2000000 in
set_option maxRecDepth 100000 in
theorem in_one_n (s : List UInt8) (p B : Nat) (w : World) (c : Cmd) (rv tv : Value) (a : Int) (hl : s.length ≤ 900000) (hp : Blk w p (inr s a false) 40) (ha : 0 ≤ a ∧ a ≤ s.length) (hpB : p < B) (hB : B ≤ w.heap.size) (hi : CmdIn w c rv tv) (bd : CmdBd c) (o1 : ∀ b, rv.ownBlock = some b → B ≤ b ∧ b < w.heap.size) (o2 : ∀ b, tv.ownBlock = some b → B ≤ b ∧ b < w.heap.size) : OneCall s p B w c rv tv 110 110 a := by
  refine OneCall.intro fun R hR => ?_
  obtain ⟨ra, rc, hrv⟩ := hi.recs.form
  obtain ⟨ta, tc, htv⟩ := hi.tops.form
  subst hrv htv
  obtain ⟨B0, X0, Y0, sz0⟩ := wone (c.arr (.slice ra c.recs.length rc) (.slice ta c.tops.length tc)) w
  have P0 := hp.below B0
  have K0 : KeptR [p] w (WOne (c.arr (.slice ra c.recs.length rc) (.slice ta c.tops.length tc)) w) := (KeptR.refl [p] w).bel B0
  have HL : s.length ≤ maxLen := by unfold maxLen; omega
  have HI := Lib.hid hi
  have BD := Lib.hid bd
  have O1 := Lib.hid o1
  have O2 := Lib.hid o2
  have HA := Lib.hid ha
  have SZ := Lib.hid sz0
  clear hi bd o1 o2 ha sz0
  dsimp only [Cmd.arr] at *
  go_enter Tryz.func10, Tryz.ntmps10
  go_wp2_with fail
  refine (show Calls Tryz.prog 8 _ (WOne #[.int .i64 c.kind, .string (S c.topic), .int .i64 c.pn, .int .i64 c.n, .int .i64 c.off, .int .i64 c.bp, .int .i64 c.be, .int .i64 c.bq, .slice ra c.recs.length rc, .string (S c.group), .string (S c.member), .int .i64 c.gen, .bool c.robin, .slice ta c.tops.length tc] w) _ from ?_)
  generalize WOne #[.int .i64 c.kind, .string (S c.topic), .int .i64 c.pn, .int .i64 c.n, .int .i64 c.off, .int .i64 c.bp, .int .i64 c.be, .int .i64 c.bq, .slice ra c.recs.length rc, .string (S c.group), .string (S c.member), .int .i64 c.gen, .bool c.robin, .slice ta c.tops.length tc] w = W0 at B0 X0 Y0 P0 K0 SZ ⊢
  have cc := Lib.hid (in_num s a false p W0 HL P0)
  refine cc.out.use ?_
  intro w1 u a1 bad1 p1 k1 st
  obtain ⟨v, rfl, hb, hs⟩ := st
  have X1 := X0.keptR k1 (by simp; omega)
  have Y1 := Y0.keptR k1 (by simp; omega)
  have K1 := Lib.hid (K0.trans k1)
  have RD1 := Lib.hid p1
  obtain ⟨HX1, kx1, x0, x1, x2, x3, x4, x5, x6, x7, x8, x9, x10, x11, x12, x13⟩ := arr_cells X1
  obtain ⟨HY1, ky1, y0, y1, y2, y3, y4, y5, y6, y7, y8, y9, y10, y11, y12, y13⟩ := arr_cells Y1
  have fx : ∀ i, w1.frozen? ⟨w.heap.size, i, none⟩ = false := fun i => Blk.frozen X1 i
  have fy : ∀ i, w1.frozen? ⟨w.heap.size + 1, i, none⟩ = false := fun i => Blk.frozen Y1 i
  have Y2 := Lib.hid (Y1.setOther (a := ⟨w.heap.size, 3, none⟩) (show w.heap.size + 1 ≠ w.heap.size by omega) (.int .i64 v))
  have K2 := Lib.hid (K1.out.setN (g := w.heap.size) (Nat.le_refl _) 3 (.int .i64 v))
  have RDF := Lib.hid (RD1.out.setOther (a := ⟨w.heap.size, 3, none⟩) (show p ≠ w.heap.size by omega) (.int .i64 v))
  have GO := Lib.hid (at_be hs)
  have HB := Lib.hid hb
  have OS : Hid (OneS s 110 a c { c with n := v } a1 bad1) := Lib.hid (fun y b hy hx hat => by
    obtain ⟨h1, h2, h3⟩ := hs.full y.n b rfl (numB_range (ccheck_ok hy).n) hat
    exact ⟨by rw [h1]; rfl, h2, be_zero h3⟩)
  clear cc p1 k1 hs hb B0 X0 Y0 P0 K0 X1 Y1 HX1 HY1 RD1
  go_wp2_with fail
  have ST := set14 (v0 := .int .i64 c.kind) (v1 := .string (S c.topic)) (v2 := .int .i64 c.pn) (v3 := .int .i64 v) (v4 := .int .i64 c.off) (v5 := .int .i64 c.bp) (v6 := .int .i64 c.be) (v7 := .int .i64 c.bq) (v8 := .slice ra c.recs.length rc) (v9 := .string (S c.group)) (v10 := .string (S c.member)) (v11 := .int .i64 c.gen) (v12 := .bool c.robin) (v13 := .slice ta c.tops.length tc) Y2.out
  refine bodyPost_ret (results_cell_row rfl _ _ (w.heap.size + 1) 29 #[.int .i64 c.kind, .string (S c.topic), .int .i64 c.pn, .int .i64 v, .int .i64 c.off, .int .i64 c.bp, .int .i64 c.be, .int .i64 c.bq, .slice ra c.recs.length rc, .string (S c.group), .string (S c.member), .int .i64 c.gen, .bool c.robin, .slice ta c.tops.length tc] (0, 0) _ rfl ?c1 Tryz.underlying29 rfl (by kernel_rfl)) rfl ?_
  case c1 => exact ST.1
  have KF := K2.out.transN ST.2 (by simp)
  exact hR.out _ { c with n := v } (.slice ra c.recs.length rc) (.slice ta c.tops.length tc) a1 bad1 ⟨(RDF.out).keptR ST.2 (by simp; omega), KF, ⟨HI.out.recs.keptR KF (fun b hb hm => by have := (O1.out b hb).1; simp at hm; omega), HI.out.tops.keptR KF (fun b hb hm => by have := (O2.out b hb).1; simp at hm; omega)⟩, ⟨BD.out.topic, BD.out.group, BD.out.member, BD.out.recs, BD.out.tops⟩, fun b hb => ⟨(O1.out b hb).1, Nat.lt_of_lt_of_le (O1.out b hb).2 KF.size⟩, fun b hb => ⟨(O2.out b hb).1, Nat.lt_of_lt_of_le (O2.out b hb).2 KF.size⟩, GO.out⟩ OS.out rfl (fun _ => rfl)
set_option maxHeartbeats 2000000 in
set_option maxRecDepth 100000 in
theorem in_one_o (s : List UInt8) (p B : Nat) (w : World) (c : Cmd) (rv tv : Value) (a : Int) (hl : s.length ≤ 900000) (hp : Blk w p (inr s a false) 40) (ha : 0 ≤ a ∧ a ≤ s.length) (hpB : p < B) (hB : B ≤ w.heap.size) (hi : CmdIn w c rv tv) (bd : CmdBd c) (o1 : ∀ b, rv.ownBlock = some b → B ≤ b ∧ b < w.heap.size) (o2 : ∀ b, tv.ownBlock = some b → B ≤ b ∧ b < w.heap.size) : OneCall s p B w c rv tv 111 111 a := by
  refine OneCall.intro fun R hR => ?_
  obtain ⟨ra, rc, hrv⟩ := hi.recs.form
  obtain ⟨ta, tc, htv⟩ := hi.tops.form
  subst hrv htv
  obtain ⟨B0, X0, Y0, sz0⟩ := wone (c.arr (.slice ra c.recs.length rc) (.slice ta c.tops.length tc)) w
  have P0 := hp.below B0
  have K0 : KeptR [p] w (WOne (c.arr (.slice ra c.recs.length rc) (.slice ta c.tops.length tc)) w) := (KeptR.refl [p] w).bel B0
  have HL : s.length ≤ maxLen := by unfold maxLen; omega
  have HI := Lib.hid hi
  have BD := Lib.hid bd
  have O1 := Lib.hid o1
  have O2 := Lib.hid o2
  have HA := Lib.hid ha
  have SZ := Lib.hid sz0
  clear hi bd o1 o2 ha sz0
  dsimp only [Cmd.arr] at *
  go_enter Tryz.func10, Tryz.ntmps10
  go_wp2_with fail
  refine (show Calls Tryz.prog 8 _ (WOne #[.int .i64 c.kind, .string (S c.topic), .int .i64 c.pn, .int .i64 c.n, .int .i64 c.off, .int .i64 c.bp, .int .i64 c.be, .int .i64 c.bq, .slice ra c.recs.length rc, .string (S c.group), .string (S c.member), .int .i64 c.gen, .bool c.robin, .slice ta c.tops.length tc] w) _ from ?_)
  generalize WOne #[.int .i64 c.kind, .string (S c.topic), .int .i64 c.pn, .int .i64 c.n, .int .i64 c.off, .int .i64 c.bp, .int .i64 c.be, .int .i64 c.bq, .slice ra c.recs.length rc, .string (S c.group), .string (S c.member), .int .i64 c.gen, .bool c.robin, .slice ta c.tops.length tc] w = W0 at B0 X0 Y0 P0 K0 SZ ⊢
  have cc := Lib.hid (in_num s a false p W0 HL P0)
  refine cc.out.use ?_
  intro w1 u a1 bad1 p1 k1 st
  obtain ⟨v, rfl, hb, hs⟩ := st
  have X1 := X0.keptR k1 (by simp; omega)
  have Y1 := Y0.keptR k1 (by simp; omega)
  have K1 := Lib.hid (K0.trans k1)
  have RD1 := Lib.hid p1
  obtain ⟨HX1, kx1, x0, x1, x2, x3, x4, x5, x6, x7, x8, x9, x10, x11, x12, x13⟩ := arr_cells X1
  obtain ⟨HY1, ky1, y0, y1, y2, y3, y4, y5, y6, y7, y8, y9, y10, y11, y12, y13⟩ := arr_cells Y1
  have fx : ∀ i, w1.frozen? ⟨w.heap.size, i, none⟩ = false := fun i => Blk.frozen X1 i
  have fy : ∀ i, w1.frozen? ⟨w.heap.size + 1, i, none⟩ = false := fun i => Blk.frozen Y1 i
  have Y2 := Lib.hid (Y1.setOther (a := ⟨w.heap.size, 4, none⟩) (show w.heap.size + 1 ≠ w.heap.size by omega) (.int .i64 v))
  have K2 := Lib.hid (K1.out.setN (g := w.heap.size) (Nat.le_refl _) 4 (.int .i64 v))
  have RDF := Lib.hid (RD1.out.setOther (a := ⟨w.heap.size, 4, none⟩) (show p ≠ w.heap.size by omega) (.int .i64 v))
  have GO := Lib.hid (at_be hs)
  have HB := Lib.hid hb
  have OS : Hid (OneS s 111 a c { c with off := v } a1 bad1) := Lib.hid (fun y b hy hx hat => by
    obtain ⟨h1, h2, h3⟩ := hs.full y.off b rfl (numB_range (ccheck_ok hy).off) hat
    exact ⟨by rw [h1]; rfl, h2, be_zero h3⟩)
  clear cc p1 k1 hs hb B0 X0 Y0 P0 K0 X1 Y1 HX1 HY1 RD1
  go_wp2_with fail
  have ST := set14 (v0 := .int .i64 c.kind) (v1 := .string (S c.topic)) (v2 := .int .i64 c.pn) (v3 := .int .i64 c.n) (v4 := .int .i64 v) (v5 := .int .i64 c.bp) (v6 := .int .i64 c.be) (v7 := .int .i64 c.bq) (v8 := .slice ra c.recs.length rc) (v9 := .string (S c.group)) (v10 := .string (S c.member)) (v11 := .int .i64 c.gen) (v12 := .bool c.robin) (v13 := .slice ta c.tops.length tc) Y2.out
  refine bodyPost_ret (results_cell_row rfl _ _ (w.heap.size + 1) 29 #[.int .i64 c.kind, .string (S c.topic), .int .i64 c.pn, .int .i64 c.n, .int .i64 v, .int .i64 c.bp, .int .i64 c.be, .int .i64 c.bq, .slice ra c.recs.length rc, .string (S c.group), .string (S c.member), .int .i64 c.gen, .bool c.robin, .slice ta c.tops.length tc] (0, 0) _ rfl ?c1 Tryz.underlying29 rfl (by kernel_rfl)) rfl ?_
  case c1 => exact ST.1
  have KF := K2.out.transN ST.2 (by simp)
  exact hR.out _ { c with off := v } (.slice ra c.recs.length rc) (.slice ta c.tops.length tc) a1 bad1 ⟨(RDF.out).keptR ST.2 (by simp; omega), KF, ⟨HI.out.recs.keptR KF (fun b hb hm => by have := (O1.out b hb).1; simp at hm; omega), HI.out.tops.keptR KF (fun b hb hm => by have := (O2.out b hb).1; simp at hm; omega)⟩, ⟨BD.out.topic, BD.out.group, BD.out.member, BD.out.recs, BD.out.tops⟩, fun b hb => ⟨(O1.out b hb).1, Nat.lt_of_lt_of_le (O1.out b hb).2 KF.size⟩, fun b hb => ⟨(O2.out b hb).1, Nat.lt_of_lt_of_le (O2.out b hb).2 KF.size⟩, GO.out⟩ OS.out rfl (fun _ => rfl)
set_option maxHeartbeats 2000000 in
set_option maxRecDepth 100000 in
theorem in_one_e (s : List UInt8) (p B : Nat) (w : World) (c : Cmd) (rv tv : Value) (a : Int) (hl : s.length ≤ 900000) (hp : Blk w p (inr s a false) 40) (ha : 0 ≤ a ∧ a ≤ s.length) (hpB : p < B) (hB : B ≤ w.heap.size) (hi : CmdIn w c rv tv) (bd : CmdBd c) (o1 : ∀ b, rv.ownBlock = some b → B ≤ b ∧ b < w.heap.size) (o2 : ∀ b, tv.ownBlock = some b → B ≤ b ∧ b < w.heap.size) : OneCall s p B w c rv tv 101 101 a := by
  refine OneCall.intro fun R hR => ?_
  obtain ⟨ra, rc, hrv⟩ := hi.recs.form
  obtain ⟨ta, tc, htv⟩ := hi.tops.form
  subst hrv htv
  obtain ⟨B0, X0, Y0, sz0⟩ := wone (c.arr (.slice ra c.recs.length rc) (.slice ta c.tops.length tc)) w
  have P0 := hp.below B0
  have K0 : KeptR [p] w (WOne (c.arr (.slice ra c.recs.length rc) (.slice ta c.tops.length tc)) w) := (KeptR.refl [p] w).bel B0
  have HL : s.length ≤ maxLen := by unfold maxLen; omega
  have HI := Lib.hid hi
  have BD := Lib.hid bd
  have O1 := Lib.hid o1
  have O2 := Lib.hid o2
  have HA := Lib.hid ha
  have SZ := Lib.hid sz0
  clear hi bd o1 o2 ha sz0
  dsimp only [Cmd.arr] at *
  go_enter Tryz.func10, Tryz.ntmps10
  go_wp2_with fail
  refine (show Calls Tryz.prog 8 _ (WOne #[.int .i64 c.kind, .string (S c.topic), .int .i64 c.pn, .int .i64 c.n, .int .i64 c.off, .int .i64 c.bp, .int .i64 c.be, .int .i64 c.bq, .slice ra c.recs.length rc, .string (S c.group), .string (S c.member), .int .i64 c.gen, .bool c.robin, .slice ta c.tops.length tc] w) _ from ?_)
  generalize WOne #[.int .i64 c.kind, .string (S c.topic), .int .i64 c.pn, .int .i64 c.n, .int .i64 c.off, .int .i64 c.bp, .int .i64 c.be, .int .i64 c.bq, .slice ra c.recs.length rc, .string (S c.group), .string (S c.member), .int .i64 c.gen, .bool c.robin, .slice ta c.tops.length tc] w = W0 at B0 X0 Y0 P0 K0 SZ ⊢
  have cc := Lib.hid (in_num s a false p W0 HL P0)
  refine cc.out.use ?_
  intro w1 u a1 bad1 p1 k1 st
  obtain ⟨v, rfl, hb, hs⟩ := st
  have X1 := X0.keptR k1 (by simp; omega)
  have Y1 := Y0.keptR k1 (by simp; omega)
  have K1 := Lib.hid (K0.trans k1)
  have RD1 := Lib.hid p1
  obtain ⟨HX1, kx1, x0, x1, x2, x3, x4, x5, x6, x7, x8, x9, x10, x11, x12, x13⟩ := arr_cells X1
  obtain ⟨HY1, ky1, y0, y1, y2, y3, y4, y5, y6, y7, y8, y9, y10, y11, y12, y13⟩ := arr_cells Y1
  have fx : ∀ i, w1.frozen? ⟨w.heap.size, i, none⟩ = false := fun i => Blk.frozen X1 i
  have fy : ∀ i, w1.frozen? ⟨w.heap.size + 1, i, none⟩ = false := fun i => Blk.frozen Y1 i
  have Y2 := Lib.hid (Y1.setOther (a := ⟨w.heap.size, 11, none⟩) (show w.heap.size + 1 ≠ w.heap.size by omega) (.int .i64 v))
  have K2 := Lib.hid (K1.out.setN (g := w.heap.size) (Nat.le_refl _) 11 (.int .i64 v))
  have RDF := Lib.hid (RD1.out.setOther (a := ⟨w.heap.size, 11, none⟩) (show p ≠ w.heap.size by omega) (.int .i64 v))
  have GO := Lib.hid (at_be hs)
  have HB := Lib.hid hb
  have OS : Hid (OneS s 101 a c { c with gen := v } a1 bad1) := Lib.hid (fun y b hy hx hat => by
    obtain ⟨h1, h2, h3⟩ := hs.full y.gen b rfl (numB_range (ccheck_ok hy).gen) hat
    exact ⟨by rw [h1]; rfl, h2, be_zero h3⟩)
  clear cc p1 k1 hs hb B0 X0 Y0 P0 K0 X1 Y1 HX1 HY1 RD1
  go_wp2_with fail
  have ST := set14 (v0 := .int .i64 c.kind) (v1 := .string (S c.topic)) (v2 := .int .i64 c.pn) (v3 := .int .i64 c.n) (v4 := .int .i64 c.off) (v5 := .int .i64 c.bp) (v6 := .int .i64 c.be) (v7 := .int .i64 c.bq) (v8 := .slice ra c.recs.length rc) (v9 := .string (S c.group)) (v10 := .string (S c.member)) (v11 := .int .i64 v) (v12 := .bool c.robin) (v13 := .slice ta c.tops.length tc) Y2.out
  refine bodyPost_ret (results_cell_row rfl _ _ (w.heap.size + 1) 29 #[.int .i64 c.kind, .string (S c.topic), .int .i64 c.pn, .int .i64 c.n, .int .i64 c.off, .int .i64 c.bp, .int .i64 c.be, .int .i64 c.bq, .slice ra c.recs.length rc, .string (S c.group), .string (S c.member), .int .i64 v, .bool c.robin, .slice ta c.tops.length tc] (0, 0) _ rfl ?c1 Tryz.underlying29 rfl (by kernel_rfl)) rfl ?_
  case c1 => exact ST.1
  have KF := K2.out.transN ST.2 (by simp)
  exact hR.out _ { c with gen := v } (.slice ra c.recs.length rc) (.slice ta c.tops.length tc) a1 bad1 ⟨(RDF.out).keptR ST.2 (by simp; omega), KF, ⟨HI.out.recs.keptR KF (fun b hb hm => by have := (O1.out b hb).1; simp at hm; omega), HI.out.tops.keptR KF (fun b hb hm => by have := (O2.out b hb).1; simp at hm; omega)⟩, ⟨BD.out.topic, BD.out.group, BD.out.member, BD.out.recs, BD.out.tops⟩, fun b hb => ⟨(O1.out b hb).1, Nat.lt_of_lt_of_le (O1.out b hb).2 KF.size⟩, fun b hb => ⟨(O2.out b hb).1, Nat.lt_of_lt_of_le (O2.out b hb).2 KF.size⟩, GO.out⟩ OS.out rfl (fun _ => rfl)
set_option maxHeartbeats 2000000 in
set_option maxRecDepth 100000 in
theorem in_one_r (s : List UInt8) (p B : Nat) (w : World) (c : Cmd) (rv tv : Value) (a : Int) (hl : s.length ≤ 900000) (hp : Blk w p (inr s a false) 40) (ha : 0 ≤ a ∧ a ≤ s.length) (hpB : p < B) (hB : B ≤ w.heap.size) (hi : CmdIn w c rv tv) (bd : CmdBd c) (o1 : ∀ b, rv.ownBlock = some b → B ≤ b ∧ b < w.heap.size) (o2 : ∀ b, tv.ownBlock = some b → B ≤ b ∧ b < w.heap.size) : OneCall s p B w c rv tv 114 114 a := by
  refine OneCall.intro fun R hR => ?_
  obtain ⟨ra, rc, hrv⟩ := hi.recs.form
  obtain ⟨ta, tc, htv⟩ := hi.tops.form
  subst hrv htv
  obtain ⟨B0, X0, Y0, sz0⟩ := wone (c.arr (.slice ra c.recs.length rc) (.slice ta c.tops.length tc)) w
  have P0 := hp.below B0
  have K0 : KeptR [p] w (WOne (c.arr (.slice ra c.recs.length rc) (.slice ta c.tops.length tc)) w) := (KeptR.refl [p] w).bel B0
  have HL : s.length ≤ maxLen := by unfold maxLen; omega
  have HI := Lib.hid hi
  have BD := Lib.hid bd
  have O1 := Lib.hid o1
  have O2 := Lib.hid o2
  have HA := Lib.hid ha
  have SZ := Lib.hid sz0
  clear hi bd o1 o2 ha sz0
  dsimp only [Cmd.arr] at *
  go_enter Tryz.func10, Tryz.ntmps10
  go_wp2_with fail
  refine (show Calls Tryz.prog 8 _ (WOne #[.int .i64 c.kind, .string (S c.topic), .int .i64 c.pn, .int .i64 c.n, .int .i64 c.off, .int .i64 c.bp, .int .i64 c.be, .int .i64 c.bq, .slice ra c.recs.length rc, .string (S c.group), .string (S c.member), .int .i64 c.gen, .bool c.robin, .slice ta c.tops.length tc] w) _ from ?_)
  generalize WOne #[.int .i64 c.kind, .string (S c.topic), .int .i64 c.pn, .int .i64 c.n, .int .i64 c.off, .int .i64 c.bp, .int .i64 c.be, .int .i64 c.bq, .slice ra c.recs.length rc, .string (S c.group), .string (S c.member), .int .i64 c.gen, .bool c.robin, .slice ta c.tops.length tc] w = W0 at B0 X0 Y0 P0 K0 SZ ⊢
  have cc := Lib.hid (in_num s a false p W0 HL P0)
  refine cc.out.use ?_
  intro w1 u a1 bad1 p1 k1 st
  obtain ⟨v, rfl, hb, hs⟩ := st
  have X1 := X0.keptR k1 (by simp; omega)
  have Y1 := Y0.keptR k1 (by simp; omega)
  have K1 := Lib.hid (K0.trans k1)
  have RD1 := Lib.hid p1
  obtain ⟨HX1, kx1, x0, x1, x2, x3, x4, x5, x6, x7, x8, x9, x10, x11, x12, x13⟩ := arr_cells X1
  obtain ⟨HY1, ky1, y0, y1, y2, y3, y4, y5, y6, y7, y8, y9, y10, y11, y12, y13⟩ := arr_cells Y1
  have fx : ∀ i, w1.frozen? ⟨w.heap.size, i, none⟩ = false := fun i => Blk.frozen X1 i
  have fy : ∀ i, w1.frozen? ⟨w.heap.size + 1, i, none⟩ = false := fun i => Blk.frozen Y1 i
  have Y2 := Lib.hid (Y1.setOther (a := ⟨w.heap.size, 12, none⟩) (show w.heap.size + 1 ≠ w.heap.size by omega) (.bool (v == 1)))
  have K2 := Lib.hid (K1.out.setN (g := w.heap.size) (Nat.le_refl _) 12 (.bool (v == 1)))
  have RDF := Lib.hid (RD1.out.setOther (a := ⟨w.heap.size, 12, none⟩) (show p ≠ w.heap.size by omega) (.bool (v == 1)))
  have GO := Lib.hid (at_be hs)
  have HB := Lib.hid hb
  have OS : Hid (OneS s 114 a c { c with robin := (v == 1) } a1 bad1) := Lib.hid (fun y b hy hx hat => by
    obtain ⟨h1, h2, h3⟩ := hs.full (if y.robin then (1 : Int) else 0) b rfl (by cases y.robin <;> simp) (by rw [vput_robin]; exact hat)
    refine ⟨?_, h2, be_zero h3⟩
    rw [h1]
    obtain ⟨yk, yt, ypn, yn, yo, yp, ye, yq, yr, yg, ym, yge, yrob, yto⟩ := y
    cases yrob <;> rfl)
  clear cc p1 k1 hs hb B0 X0 Y0 P0 K0 X1 Y1 HX1 HY1 RD1
  go_wp2_with fail
  have ST := set14 (v0 := .int .i64 c.kind) (v1 := .string (S c.topic)) (v2 := .int .i64 c.pn) (v3 := .int .i64 c.n) (v4 := .int .i64 c.off) (v5 := .int .i64 c.bp) (v6 := .int .i64 c.be) (v7 := .int .i64 c.bq) (v8 := .slice ra c.recs.length rc) (v9 := .string (S c.group)) (v10 := .string (S c.member)) (v11 := .int .i64 c.gen) (v12 := .bool (v == 1)) (v13 := .slice ta c.tops.length tc) Y2.out
  refine bodyPost_ret (results_cell_row rfl _ _ (w.heap.size + 1) 29 #[.int .i64 c.kind, .string (S c.topic), .int .i64 c.pn, .int .i64 c.n, .int .i64 c.off, .int .i64 c.bp, .int .i64 c.be, .int .i64 c.bq, .slice ra c.recs.length rc, .string (S c.group), .string (S c.member), .int .i64 c.gen, .bool (v == 1), .slice ta c.tops.length tc] (0, 0) _ rfl ?c1 Tryz.underlying29 rfl (by kernel_rfl)) rfl ?_
  case c1 => exact ST.1
  have KF := K2.out.transN ST.2 (by simp)
  exact hR.out _ { c with robin := (v == 1) } (.slice ra c.recs.length rc) (.slice ta c.tops.length tc) a1 bad1 ⟨(RDF.out).keptR ST.2 (by simp; omega), KF, ⟨HI.out.recs.keptR KF (fun b hb hm => by have := (O1.out b hb).1; simp at hm; omega), HI.out.tops.keptR KF (fun b hb hm => by have := (O2.out b hb).1; simp at hm; omega)⟩, ⟨BD.out.topic, BD.out.group, BD.out.member, BD.out.recs, BD.out.tops⟩, fun b hb => ⟨(O1.out b hb).1, Nat.lt_of_lt_of_le (O1.out b hb).2 KF.size⟩, fun b hb => ⟨(O2.out b hb).1, Nat.lt_of_lt_of_le (O2.out b hb).2 KF.size⟩, GO.out⟩ OS.out rfl (fun _ => rfl)
set_option maxHeartbeats 2000000 in
set_option maxRecDepth 100000 in
theorem in_one_p (s : List UInt8) (p B : Nat) (w : World) (c : Cmd) (rv tv : Value) (a : Int) (hl : s.length ≤ 900000) (hp : Blk w p (inr s a false) 40) (ha : 0 ≤ a ∧ a ≤ s.length) (hpB : p < B) (hB : B ≤ w.heap.size) (hi : CmdIn w c rv tv) (bd : CmdBd c) (o1 : ∀ b, rv.ownBlock = some b → B ≤ b ∧ b < w.heap.size) (o2 : ∀ b, tv.ownBlock = some b → B ≤ b ∧ b < w.heap.size) : OneCall s p B w c rv tv 112 112 a := by
  refine OneCall.intro fun R hR => ?_
  obtain ⟨ra, rc, hrv⟩ := hi.recs.form
  obtain ⟨ta, tc, htv⟩ := hi.tops.form
  subst hrv htv
  obtain ⟨B0, X0, Y0, sz0⟩ := wone (c.arr (.slice ra c.recs.length rc) (.slice ta c.tops.length tc)) w
  have P0 := hp.below B0
  have K0 : KeptR [p] w (WOne (c.arr (.slice ra c.recs.length rc) (.slice ta c.tops.length tc)) w) := (KeptR.refl [p] w).bel B0
  have HL : s.length ≤ maxLen := by unfold maxLen; omega
  have HI := Lib.hid hi
  have BD := Lib.hid bd
  have O1 := Lib.hid o1
  have O2 := Lib.hid o2
  have HA := Lib.hid ha
  have SZ := Lib.hid sz0
  clear hi bd o1 o2 ha sz0
  dsimp only [Cmd.arr] at *
  go_enter Tryz.func10, Tryz.ntmps10
  go_wp2_with fail
  refine (show Calls Tryz.prog 25 _ (WOne #[.int .i64 c.kind, .string (S c.topic), .int .i64 c.pn, .int .i64 c.n, .int .i64 c.off, .int .i64 c.bp, .int .i64 c.be, .int .i64 c.bq, .slice ra c.recs.length rc, .string (S c.group), .string (S c.member), .int .i64 c.gen, .bool c.robin, .slice ta c.tops.length tc] w) _ from ?_)
  generalize WOne #[.int .i64 c.kind, .string (S c.topic), .int .i64 c.pn, .int .i64 c.n, .int .i64 c.off, .int .i64 c.bp, .int .i64 c.be, .int .i64 c.bq, .slice ra c.recs.length rc, .string (S c.group), .string (S c.member), .int .i64 c.gen, .bool c.robin, .slice ta c.tops.length tc] w = W0 at B0 X0 Y0 P0 K0 SZ ⊢
  have cc := Lib.hid (in_text s a false p W0 HL P0)
  refine cc.out.use ?_
  intro w1 u a1 bad1 p1 k1 st
  obtain ⟨v, rfl, hb, hs⟩ := st
  have X1 := X0.keptR k1 (by simp; omega)
  have Y1 := Lib.hid (Y0.keptR k1 (by simp; omega))
  have K1 := Lib.hid (K0.trans k1)
  have RD1 := Lib.hid p1
  obtain ⟨HX1, kx1, x0, x1, x2, x3, x4, x5, x6, x7, x8, x9, x10, x11, x12, x13⟩ := arr_cells X1
  have fx : ∀ i, w1.frozen? ⟨w.heap.size, i, none⟩ = false := fun i => Blk.frozen X1 i
  have X2 := Lib.hid (X1.set 1 (.string (S v)))
  have Y2 := Lib.hid (Y1.out.setOther (a := ⟨w.heap.size, 1, none⟩) (show w.heap.size + 1 ≠ w.heap.size by omega) (.string (S v)))
  have K2 := Lib.hid (K1.out.setN (g := w.heap.size) (Nat.le_refl _) 1 (.string (S v)))
  have RD2 := Lib.hid (RD1.out.setOther (a := ⟨w.heap.size, 1, none⟩) (show p ≠ w.heap.size by omega) (.string (S v)))
  have HB := Lib.hid hb
  have HS := Lib.hid hs
  clear cc p1 k1 hs hb B0 X0 Y0 P0 K0 X1 HX1 RD1 Y1 K1
  go_wp2_with fail
  clear x0 x1 x2 x3 x4 x5 x6 x7 x8 x9 x10 x11 x12 x13 fx kx1
  generalize w1.setCell ⟨w.heap.size, 1, none⟩ (.string (S v)) = W1 at X2 Y2 K2 RD2 ⊢
  have cc := Lib.hid (in_num s a1 bad1 p W1 HL RD2.out)
  refine cc.out.use ?_
  intro w2 u a2 bad2 p2 k2 st
  obtain ⟨n, rfl, hbn, hsn⟩ := st
  have X3 := X2.out.keptR k2 (by simp; omega)
  have Y3 := Y2.out.keptR k2 (by simp; omega)
  have K3 := Lib.hid (K2.out.trans k2)
  have X3' : Blk w2 w.heap.size #[.int .i64 c.kind, .string (S v), .int .i64 c.pn, .int .i64 c.n, .int .i64 c.off, .int .i64 c.bp, .int .i64 c.be, .int .i64 c.bq, .slice ra c.recs.length rc, .string (S c.group), .string (S c.member), .int .i64 c.gen, .bool c.robin, .slice ta c.tops.length tc] 29 := X3
  obtain ⟨HX3, kx3, x0, x1, x2, x3, x4, x5, x6, x7, x8, x9, x10, x11, x12, x13⟩ := arr_cells X3'
  obtain ⟨HY3, ky3, y0, y1, y2, y3, y4, y5, y6, y7, y8, y9, y10, y11, y12, y13⟩ := arr_cells Y3
  have fx : ∀ i, w2.frozen? ⟨w.heap.size, i, none⟩ = false := fun i => Blk.frozen X3 i
  have fy : ∀ i, w2.frozen? ⟨w.heap.size + 1, i, none⟩ = false := fun i => Blk.frozen Y3 i
  have Y4 := Lib.hid (Y3.setOther (a := ⟨w.heap.size, 2, none⟩) (show w.heap.size + 1 ≠ w.heap.size by omega) (.int .i64 n))
  have K4 := Lib.hid (K3.out.setN (g := w.heap.size) (Nat.le_refl _) 2 (.int .i64 n))
  have RDF := Lib.hid (p2.setOther (a := ⟨w.heap.size, 2, none⟩) (show p ≠ w.heap.size by omega) (.int .i64 n))
  have GO := Lib.hid (at_be hsn)
  have OS : Hid (OneS s 112 a c { c with topic := v, pn := n } a2 bad2) := Lib.hid (fun y b hy hx hat => by
    obtain ⟨h1, h2, h3⟩ := (HS.out.seq hsn).full (y.topic, y.pn) b rfl ⟨(ccheck_ok hy).topic, numB_range (ccheck_ok hy).pn⟩ hat
    simp only [Prod.mk.injEq] at h1
    exact ⟨by rw [h1.1, h1.2]; rfl, h2, be_zero h3⟩)
  clear cc p2 k2 hsn hbn X2 Y2 K2 RD2 X3 X3' Y3 HX3 HY3 K3 HS
  go_wp2_with fail
  have ST := set14 (v0 := .int .i64 c.kind) (v1 := .string (S v)) (v2 := .int .i64 n) (v3 := .int .i64 c.n) (v4 := .int .i64 c.off) (v5 := .int .i64 c.bp) (v6 := .int .i64 c.be) (v7 := .int .i64 c.bq) (v8 := .slice ra c.recs.length rc) (v9 := .string (S c.group)) (v10 := .string (S c.member)) (v11 := .int .i64 c.gen) (v12 := .bool c.robin) (v13 := .slice ta c.tops.length tc) Y4.out
  refine bodyPost_ret (results_cell_row rfl _ _ (w.heap.size + 1) 29 #[.int .i64 c.kind, .string (S v), .int .i64 n, .int .i64 c.n, .int .i64 c.off, .int .i64 c.bp, .int .i64 c.be, .int .i64 c.bq, .slice ra c.recs.length rc, .string (S c.group), .string (S c.member), .int .i64 c.gen, .bool c.robin, .slice ta c.tops.length tc] (0, 0) _ rfl ?c1 Tryz.underlying29 rfl (by kernel_rfl)) rfl ?_
  case c1 => exact ST.1
  have KF := K4.out.transN ST.2 (by simp)
  exact hR.out _ { c with topic := v, pn := n } (.slice ra c.recs.length rc) (.slice ta c.tops.length tc) a2 bad2 ⟨(RDF.out).keptR ST.2 (by simp; omega), KF, ⟨HI.out.recs.keptR KF (fun b hb hm => by have := (O1.out b hb).1; simp at hm; omega), HI.out.tops.keptR KF (fun b hb hm => by have := (O2.out b hb).1; simp at hm; omega)⟩, ⟨by unfold maxLen; have := HB.out; dsimp only; omega, BD.out.group, BD.out.member, BD.out.recs, BD.out.tops⟩, fun b hb => ⟨(O1.out b hb).1, Nat.lt_of_lt_of_le (O1.out b hb).2 KF.size⟩, fun b hb => ⟨(O2.out b hb).1, Nat.lt_of_lt_of_le (O2.out b hb).2 KF.size⟩, GO.out⟩ OS.out rfl (fun _ => rfl)
theorem mparse_no {s : List UInt8} {a bp be2 bq t2 e2 : Int} {l : List Rec} (h : mparse s a = ((bp, be2, bq, l), t2, e2)) (he : e2 ≠ 0) : l = [] := by
  unfold mparse at h
  dsimp only at h
  split at h
  · simp only [Prod.mk.injEq] at h; exact h.1.2.2.2.symm
  · split at h
    · simp only [Prod.mk.injEq] at h; exact h.1.2.2.2.symm
    · simp only [Prod.mk.injEq] at h; exact absurd h.2.2.symm he
theorem b_kind {k : Nat} (h : (98 : UInt8) ∈ hasL k) : k = 2 := by
  unfold hasL at h
  split at h <;> first | rfl | (simp at h)
theorem frBat {W1 w2 : World} {T : TypeId} {x0 x1 x2 x3 v : Value} {l : List Rec} (v0 v1 v2 v3 : Value) (hb : Below (W1.alloc (.cells #[x0, x1, x2, x3] T)).drew.heap.size (W1.alloc (.cells #[x0, x1, x2, x3] T)).drew w2) (hr : RecsIn w2 v l)
    (ho : ∀ b, v.ownBlock = some b → (W1.alloc (.cells #[x0, x1, x2, x3] T)).drew.heap.size ≤ b ∧ b < w2.heap.size) :
    RecsIn ((((w2.setCell ⟨W1.heap.size, 0, none⟩ v0).setCell ⟨W1.heap.size, 1, none⟩ v1).setCell ⟨W1.heap.size, 2, none⟩ v2).setCell ⟨W1.heap.size, 3, none⟩ v3) v l ∧
      ∀ b, v.ownBlock = some b → W1.heap.size ≤ b ∧ b < ((((w2.setCell ⟨W1.heap.size, 0, none⟩ v0).setCell ⟨W1.heap.size, 1, none⟩ v1).setCell ⟨W1.heap.size, 2, none⟩ v2).setCell ⟨W1.heap.size, 3, none⟩ v3).heap.size := by
  have k : KeptR [W1.heap.size] w2 ((((w2.setCell ⟨W1.heap.size, 0, none⟩ v0).setCell ⟨W1.heap.size, 1, none⟩ v1).setCell ⟨W1.heap.size, 2, none⟩ v2).setCell ⟨W1.heap.size, 3, none⟩ v3) := ((((KeptR.refl _ w2).set (by simp) 0 v0).set (by simp) 1 v1).set (by simp) 2 v2).set (by simp) 3 v3
  have hz : (W1.alloc (.cells #[x0, x1, x2, x3] T)).drew.heap.size = W1.heap.size + 1 := by
    show (W1.alloc (.cells #[x0, x1, x2, x3] T)).heap.size = _
    simp
  exact ⟨hr.keptR k (fun b hb1 hm => by have := (ho b hb1).1; have := List.mem_singleton.1 hm; omega), fun b hb1 => ⟨by have := (ho b hb1).1; omega, Nat.lt_of_lt_of_le (ho b hb1).2 k.size⟩⟩
set_option maxHeartbeats 4000000 in
set_option maxRecDepth 100000 in
theorem in_one_b (s : List UInt8) (p B : Nat) (w : World) (c : Cmd) (rv tv : Value) (a : Int) (hl : s.length ≤ 900000) (hp : Blk w p (inr s a false) 40) (ha : 0 ≤ a ∧ a ≤ s.length) (hpB : p < B) (hB : B ≤ w.heap.size) (hi : CmdIn w c rv tv) (bd : CmdBd c) (o1 : ∀ b, rv.ownBlock = some b → B ≤ b ∧ b < w.heap.size) (o2 : ∀ b, tv.ownBlock = some b → B ≤ b ∧ b < w.heap.size) : OneCall s p B w c rv tv 98 98 a := by
  refine OneCall.intro fun R hR => ?_
  obtain ⟨ra, rc, hrv⟩ := hi.recs.form
  obtain ⟨ta, tc, htv⟩ := hi.tops.form
  subst hrv htv
  obtain ⟨B0, X0, Y0, sz0⟩ := wone (c.arr (.slice ra c.recs.length rc) (.slice ta c.tops.length tc)) w
  have P0 := hp.below B0
  have K0 : KeptR [p] w (WOne (c.arr (.slice ra c.recs.length rc) (.slice ta c.tops.length tc)) w) := (KeptR.refl [p] w).bel B0
  have HL : s.length ≤ maxLen := by unfold maxLen; omega
  have HI := Lib.hid hi
  have BD := Lib.hid bd
  have O1 := Lib.hid o1
  have O2 := Lib.hid o2
  have HA := Lib.hid ha
  have SZ := Lib.hid sz0
  clear hi bd o1 o2 ha sz0
  dsimp only [Cmd.arr] at *
  go_enter Tryz.func10, Tryz.ntmps10
  obtain ⟨⟨⟨bp, be2, bq, l⟩, t2x, e2⟩, hv⟩ : ∃ m, mparse s a = m := ⟨_, rfl⟩
  have cG := Lib.hid (fun w => rparse3_any s a w HL)
  rw [hv] at cG
  have HV := Lib.hid hv
  clear hv
  go_upto_region 17 with fail
  refine (show Code.wp Tryz.prog _ _ _ (WOne #[.int .i64 c.kind, .string (S c.topic), .int .i64 c.pn, .int .i64 c.n, .int .i64 c.off, .int .i64 c.bp, .int .i64 c.be, .int .i64 c.bq, .slice ra c.recs.length rc, .string (S c.group), .string (S c.member), .int .i64 c.gen, .bool c.robin, .slice ta c.tops.length tc] w) from ?_)
  generalize WOne #[.int .i64 c.kind, .string (S c.topic), .int .i64 c.pn, .int .i64 c.n, .int .i64 c.off, .int .i64 c.bp, .int .i64 c.be, .int .i64 c.bq, .slice ra c.recs.length rc, .string (S c.group), .string (S c.member), .int .i64 c.gen, .bool c.robin, .slice ta c.tops.length tc] w = W0 at B0 X0 Y0 P0 K0 SZ ⊢
  have RDh : Blk W0 p #[.string (S s), .int .i64 a, .bool false] 40 := P0
  have RDH := Lib.hid RDh
  have rd := P0
  unfold inr at rd
  obtain ⟨k0, x0, x1, x2⟩ := rd.c3
  clear rd
  go_cut [7, 8, 9] (fun x7 x8 x9 wx => ∃ (bx : Nat) (ra' : Option Addr) (rc' : Nat), x7 = .pointer (some ⟨bx, 0, none⟩) ∧ x8 = .int .i64 t2x ∧ x9 = .int .i64 e2 ∧ Hid (W0.heap.size ≤ bx ∧ Blk wx bx #[.int .i64 bp, .int .i64 be2, .int .i64 bq, .slice ra' l.length rc'] 26 ∧ Below W0.heap.size W0 wx ∧ RecsIn wx (.slice ra' l.length rc') l ∧ ∀ b, (Value.slice ra' l.length rc').ownBlock = some b → W0.heap.size ≤ b ∧ b < wx.heap.size))
  case first =>
    have hn1 : (W0.heap.size = p) = False := eq_false (by omega)
    have hn2 : (p = W0.heap.size) = False := eq_false (by omega)
    have hn3 : W0.heap.size ≠ p := by omega
    have hn4 : p ≠ W0.heap.size := by omega
    clear RDh B0 X0 Y0 P0 K0
    go_region_held3 (fun w' => w'.cell? ⟨p, 0, none⟩ = some (.string (S s)) ∧ w'.cell? ⟨p, 1, none⟩ = some (.int .i64 a)) (go_keep) (first | (go_at_call 26; refine (cG.out _).use ?_; intro v3 w3 o3 b3; have r3 := recs_own o3; dsimp only at r3 o3; obtain ⟨ra', rc', rfl⟩ := r3.form; have HR3 := Lib.hid r3; have HO3 := Lib.hid o3.lt; have RD2 : Blk w3 p #[.string (S s), .int .i64 a, .bool false] 40 := (by first | exact rdA4 RDH.out b3 | exact rdB4 RDH.out b3); obtain ⟨hk0, hx0, hx1, hx2⟩ := RD2.c3; have hc0 := fun (i : Nat) (h : W0.heap.size < _) => b3.cell (p := ⟨W0.heap.size, i, none⟩) h; have hf0 := fun (i : Nat) (h : W0.heap.size < _) => b3.frozen (p := ⟨W0.heap.size, i, none⟩) h))
    all_goals go_wp2_with fail
    all_goals go_meet
    all_goals first
      | (obtain ⟨P1, P2, P3⟩ := frA4 (W1 := W0) #[.int .i64 bp, .int .i64 be2, .int .i64 bq, .slice ra' l.length rc'] 26 b3
         exact ⟨_, _, _, rfl, rfl, rfl, Lib.hid ⟨P3, P2, P1, HR3.out.alloc _, fun b hb => ⟨(HO3.out b hb).1, by have := (HO3.out b hb).2; simp; omega⟩⟩⟩)
      | (obtain ⟨P1, P2, P3⟩ := frB4 (.int .i64 bp) (.int .i64 be2) (.int .i64 bq) (.slice ra' l.length rc') b3
         obtain ⟨P4, P5⟩ := frBat (.int .i64 bp) (.int .i64 be2) (.int .i64 bq) (.slice ra' l.length rc') b3 HR3.out HO3.out
         exact ⟨_, _, _, rfl, rfl, rfl, Lib.hid ⟨P3, P2, P1, P4, P5⟩⟩)
  case rest =>
    obtain ⟨bx, ra', rc', rfl, rfl, rfl, HX⟩ := hcut
    obtain ⟨hbx, BX, BW, RW, OW⟩ := HX.out
    have X1 := X0.below BW
    have Y1 := Y0.below BW
    have RD1 := P0.below BW
    have K1 := Lib.hid (K0.transN ((KeptR.refl [] W0).bel BW) (by simp))
    obtain ⟨B2, hB2⟩ : ∃ B2, (e2 != 0) = B2 := ⟨_, rfl⟩
    obtain ⟨kb, b0, b1, b2, b3⟩ := BX.c4
    obtain ⟨HX1, kx1, x0, x1, x2, x3, x4, x5, x6, x7, x8, x9, x10, x11, x12, x13⟩ := arr_cells X1
    have fx : ∀ i, wc.frozen? ⟨w.heap.size, i, none⟩ = false := fun i => Blk.frozen X1 i
    have RDc : Blk wc p #[.string (S s), .int .i64 a, .bool false] 40 := RD1
    obtain ⟨kr, z0, z1, z2⟩ := RDc.c3
    have fr : ∀ i, wc.frozen? ⟨p, i, none⟩ = false := fun i => Blk.frozen RD1 i
    obtain ⟨w2, hw2⟩ : ∃ w2, (((((wc.setCell ⟨w.heap.size, 5, none⟩ (.int .i64 bp)).setCell ⟨w.heap.size, 6, none⟩ (.int .i64 be2)).setCell ⟨w.heap.size, 7, none⟩ (.int .i64 bq)).setCell ⟨w.heap.size, 8, none⟩ (.slice ra' l.length rc')).setCell ⟨p, 1, none⟩ (.int .i64 t2x)).setCell ⟨p, 2, none⟩ (.bool B2) = w2 := ⟨_, rfl⟩
    have KK : KeptR [w.heap.size, p] wc w2 := by
      rw [← hw2]
      exact ((((((KeptR.refl _ wc).set (by simp) 5 _).set (by simp) 6 _).set (by simp) 7 _).set (by simp) 8 _).set (by simp) 1 _).set (by simp) 2 _
    have npw : p ≠ w.heap.size := by omega
    have nwp : w.heap.size ≠ p := by omega
    have X2 : Hid (Blk w2 w.heap.size #[.int .i64 c.kind, .string (S c.topic), .int .i64 c.pn, .int .i64 c.n, .int .i64 c.off, .int .i64 bp, .int .i64 be2, .int .i64 bq, .slice ra' l.length rc', .string (S c.group), .string (S c.member), .int .i64 c.gen, .bool c.robin, .slice ta c.tops.length tc] 29) := Lib.hid (by
      rw [← hw2]
      exact (((((X1.set 5 (.int .i64 bp)).set 6 (.int .i64 be2)).set 7 (.int .i64 bq)).set 8 (.slice ra' l.length rc')).setOther (a := ⟨p, 1, none⟩) nwp _).setOther (a := ⟨p, 2, none⟩) nwp _)
    have RD2 : Hid (Blk w2 p (inr s t2x B2) 40) := Lib.hid (by
      rw [← hw2]
      exact ((((((RDc.setOther (a := ⟨w.heap.size, 5, none⟩) npw _).setOther (a := ⟨w.heap.size, 6, none⟩) npw _).setOther (a := ⟨w.heap.size, 7, none⟩) npw _).setOther (a := ⟨w.heap.size, 8, none⟩) npw _).set 1 (.int .i64 t2x)).set 2 (.bool B2)))
    have Y2 := Lib.hid (Y1.keptR KK (by simp; omega))
    have K2 := Lib.hid (K1.out.transN KK (by simp))
    have RW2 := Lib.hid (RW.keptR KK (fun b hb hm => by have h1 := (OW b hb).1; have h3 := SZ.out; simp at hm; omega))
    have OW2 : Hid (∀ b, (Value.slice ra' l.length rc').ownBlock = some b → B ≤ b ∧ b < w2.heap.size) := Lib.hid (fun b hb => by have h1 := OW b hb; have h2 := KK.size; have h3 := SZ.out; omega)
    have OW3 : Hid (∀ b, (Value.slice ra' l.length rc').ownBlock = some b → w.heap.size + 1 + 1 ≤ b) := Lib.hid (fun b hb => by have h1 := OW b hb; have h3 := SZ.out; omega)
    have RB : Hid (RecsBd l) := Lib.hid (by
      by_cases he : e2 = 0
      · subst he; exact rall_bd (parse_at HV.out HA.out).1
      · rw [mparse_no HV.out he]; exact ⟨by simp, by simp⟩)
    have GO : Hid (B2 = false → 0 ≤ t2x ∧ t2x ≤ s.length) := Lib.hid (fun h => by
      have he : e2 = 0 := by rw [h] at hB2; simpa using hB2
      subst he
      have h1 := (parse_at HV.out HA.out).2.range
      omega)
    have OS : Hid (OneS s 98 a c { c with bp := bp, be := be2, bq := bq, recs := l } t2x B2) := Lib.hid (fun y b hy hx hat => by
      have hk := b_kind hx
      have hy2 : y.kind = 2 := by have := (ccheck_ok hy).kind; omega
      have h1 := at_parse (ok_batch hy hy2) hat
      rw [HV.out] at h1
      simp only [Prod.mk.injEq] at h1
      obtain ⟨⟨rfl, rfl, rfl, rfl⟩, rfl, rfl⟩ := h1
      exact ⟨rfl, rfl, by rw [← hB2]; rfl⟩)
    have HW2 := Lib.hid hw2
    have hB3 := Lib.hid hB2
    clear hw2 KK BX BW RW OW X1 Y1 RD1 RDc HX1 B0 X0 Y0 P0 K0 K1 hB2 RDh RDH k0 HX
    go_upto_region 20 with fail
    obtain ⟨HX2, kx2, y0, y1, y2, y3, y4, y5, y6, y7, y8, y9, y10, y11, y12, y13⟩ := arr_cells X2.out
    obtain ⟨HY2, ky2, u0, u1, u2, u3, u4, u5, u6, u7, u8, u9, u10, u11, u12, u13⟩ := arr_cells Y2.out
    have fy : ∀ i, w2.frozen? ⟨w.heap.size + 1, i, none⟩ = false := fun i => Blk.frozen Y2.out i
    clear HX2 HY2
    have hw2 := HW2.out
    have hB4 := hB3.out
    clear HW2 hB3
    by_cases he : e2 = 0
    · subst he
      have hB5 : false = B2 := by simpa using hB4
      clear hB4
      subst hB5
      go_wp2_with fail
      have ST := set14 (v0 := .int .i64 c.kind) (v1 := .string (S c.topic)) (v2 := .int .i64 c.pn) (v3 := .int .i64 c.n) (v4 := .int .i64 c.off) (v5 := .int .i64 bp) (v6 := .int .i64 be2) (v7 := .int .i64 bq) (v8 := .slice ra' l.length rc') (v9 := .string (S c.group)) (v10 := .string (S c.member)) (v11 := .int .i64 c.gen) (v12 := .bool c.robin) (v13 := .slice ta c.tops.length tc) Y2.out
      refine bodyPost_ret (results_cell_row rfl _ _ (w.heap.size + 1) 29 #[.int .i64 c.kind, .string (S c.topic), .int .i64 c.pn, .int .i64 c.n, .int .i64 c.off, .int .i64 bp, .int .i64 be2, .int .i64 bq, .slice ra' l.length rc', .string (S c.group), .string (S c.member), .int .i64 c.gen, .bool c.robin, .slice ta c.tops.length tc] (0, 0) _ rfl ?cb1 Tryz.underlying29 rfl (by kernel_rfl)) rfl ?_
      case cb1 => exact ST.1
      have KF := K2.out.transN ST.2 (by simp)
      exact hR.out _ { c with bp := bp, be := be2, bq := bq, recs := l } (.slice ra' l.length rc') (.slice ta c.tops.length tc) t2x _ ⟨(RD2.out).keptR ST.2 (by simp; omega), KF, ⟨RW2.out.keptR ST.2 (fun b hb hm => by have := OW3.out b hb; simp at hm; omega), HI.out.tops.keptR KF (fun b hb hm => by have := (O2.out b hb).1; simp at hm; omega)⟩, ⟨BD.out.topic, BD.out.group, BD.out.member, RB.out, BD.out.tops⟩, fun b hb => ⟨(OW2.out b hb).1, Nat.lt_of_lt_of_le (OW2.out b hb).2 ST.2.size⟩, fun b hb => ⟨(O2.out b hb).1, Nat.lt_of_lt_of_le (O2.out b hb).2 KF.size⟩, fun _ => GO.out trivial⟩ OS.out rfl (fun _ => rfl)
    · have t1 : (e2 = 0) = False := eq_false he
      have t2 : (e2 != 0) = true := by simpa using he
      have hB5 : true = B2 := by rw [← hB4, t2]
      clear hB4 he
      subst hB5
      go_wp2_with fail
      have ST := set14 (v0 := .int .i64 c.kind) (v1 := .string (S c.topic)) (v2 := .int .i64 c.pn) (v3 := .int .i64 c.n) (v4 := .int .i64 c.off) (v5 := .int .i64 bp) (v6 := .int .i64 be2) (v7 := .int .i64 bq) (v8 := .slice ra' l.length rc') (v9 := .string (S c.group)) (v10 := .string (S c.member)) (v11 := .int .i64 c.gen) (v12 := .bool c.robin) (v13 := .slice ta c.tops.length tc) Y2.out
      refine bodyPost_ret (results_cell_row rfl _ _ (w.heap.size + 1) 29 #[.int .i64 c.kind, .string (S c.topic), .int .i64 c.pn, .int .i64 c.n, .int .i64 c.off, .int .i64 bp, .int .i64 be2, .int .i64 bq, .slice ra' l.length rc', .string (S c.group), .string (S c.member), .int .i64 c.gen, .bool c.robin, .slice ta c.tops.length tc] (0, 0) _ rfl ?cb2 Tryz.underlying29 rfl (by kernel_rfl)) rfl ?_
      case cb2 => exact ST.1
      have KF := K2.out.transN ST.2 (by simp)
      exact hR.out _ { c with bp := bp, be := be2, bq := bq, recs := l } (.slice ra' l.length rc') (.slice ta c.tops.length tc) t2x _ ⟨(RD2.out).keptR ST.2 (by simp; omega), KF, ⟨RW2.out.keptR ST.2 (fun b hb hm => by have := OW3.out b hb; simp at hm; omega), HI.out.tops.keptR KF (fun b hb hm => by have := (O2.out b hb).1; simp at hm; omega)⟩, ⟨BD.out.topic, BD.out.group, BD.out.member, RB.out, BD.out.tops⟩, fun b hb => ⟨(OW2.out b hb).1, Nat.lt_of_lt_of_le (OW2.out b hb).2 ST.2.size⟩, fun b hb => ⟨(O2.out b hb).1, Nat.lt_of_lt_of_le (O2.out b hb).2 KF.size⟩, GO.out⟩ OS.out rfl (fun _ => rfl)
structure LInv (w0 W : World) (s : List UInt8) (p : Nat) (cs : Value → Array Value) (a : Int) (bad : Bool) (v : Value) (ts : List (List UInt8)) : Prop where
  op : Blk W w0.heap.size (cs v) 29
  rs : Blk W (w0.heap.size + 1) #[.int .i64 0, .string (S []), .int .i64 0, .int .i64 0, .int .i64 0, .int .i64 0, .int .i64 0, .int .i64 0, .slice none 0 0, .string (S []), .string (S []), .int .i64 0, .bool false, .slice none 0 0] 29
  rd : Blk W p (inr s a bad) 40
  own : W.ownsRow (w0.heap.size + 1 + 1) 9 1 v ts.length (ts.map strV)
  kp : KeptR [p] w0 W
theorem grl_stopN {α : Type} {enc : α → List UInt8} {good bd : α → Prop} {s : List UInt8} {n a1 e1 : Int} {i : Nat} {ts : List α} {a : Int} {bad : Bool} (h : GRl enc good bd s n a1 e1 i ts a (be bad)) (hs : ¬ ((i : Int) < n ∧ bad = false ∧ i < 9)) (N : List α) (b : Int) (h0 : e1 = 0) (hn : n = N.length) (hN : ∀ t ∈ N, good t) (h8 : N.length ≤ 8) (hat : At s a1 (N.flatMap enc) b) :
    ts = N ∧ a = b ∧ be bad = 0 := by
  obtain ⟨k1, k2, k3, k4⟩ := h.full N b h0 hn hN hat
  exact h.stop (fun hc => hs ⟨hc.1, be_zero hc.2, by omega⟩) h0 hn hN hat
set_option maxHeartbeats 4000000 in
set_option maxRecDepth 100000 in
theorem in_one_l (s : List UInt8) (p B : Nat) (w : World) (c : Cmd) (rv tv : Value) (a : Int) (hl : s.length ≤ 900000) (hp : Blk w p (inr s a false) 40) (ha : 0 ≤ a ∧ a ≤ s.length) (hpB : p < B) (hB : B ≤ w.heap.size) (hi : CmdIn w c rv tv) (bd : CmdBd c) (o1 : ∀ b, rv.ownBlock = some b → B ≤ b ∧ b < w.heap.size) (o2 : ∀ b, tv.ownBlock = some b → B ≤ b ∧ b < w.heap.size) (h0 : c.tops = []) (hnil : tv = .slice none 0 0) : OneCall s p B w c rv tv 108 108 a := by
  refine OneCall.intro fun R hR => ?_
  obtain ⟨ra, rc, hrv⟩ := hi.recs.form
  subst hrv hnil
  obtain ⟨B0, X0, Y0, sz0⟩ := wone (c.arr (.slice ra c.recs.length rc) (.slice none 0 0)) w
  have P0 := hp.below B0
  have K0 : KeptR [p] w (WOne (c.arr (.slice ra c.recs.length rc) (.slice none 0 0)) w) := (KeptR.refl [p] w).bel B0
  have HL : s.length ≤ maxLen := by unfold maxLen; omega
  have HI := Lib.hid hi
  have BD := Lib.hid bd
  have O1 := Lib.hid o1
  have HA := Lib.hid ha
  have SZ := Lib.hid sz0
  obtain ⟨j0, hj, hy0, hy1, hy2⟩ := info_parts tstrInfo
  clear hi bd o1 o2 ha sz0 h0
  dsimp only [Cmd.arr] at *
  go_enter Tryz.func10, Tryz.ntmps10
  go_wp2_with fail
  refine (show Calls Tryz.prog 8 _ (WOne #[.int .i64 c.kind, .string (S c.topic), .int .i64 c.pn, .int .i64 c.n, .int .i64 c.off, .int .i64 c.bp, .int .i64 c.be, .int .i64 c.bq, .slice ra c.recs.length rc, .string (S c.group), .string (S c.member), .int .i64 c.gen, .bool c.robin, .slice none 0 0] w) _ from ?_)
  generalize WOne #[.int .i64 c.kind, .string (S c.topic), .int .i64 c.pn, .int .i64 c.n, .int .i64 c.off, .int .i64 c.bp, .int .i64 c.be, .int .i64 c.bq, .slice ra c.recs.length rc, .string (S c.group), .string (S c.member), .int .i64 c.gen, .bool c.robin, .slice none 0 0] w = W0 at B0 X0 Y0 P0 K0 SZ ⊢
  have cc := Lib.hid (in_num s a false p W0 HL P0)
  refine cc.out.use ?_
  intro w1 u a1 bad1 p1 k1 st
  obtain ⟨n, rfl, hbn, hsn⟩ := st
  have hI0 : LInv w w1 s p (fun x : Value => #[.int .i64 c.kind, .string (S c.topic), .int .i64 c.pn, .int .i64 c.n, .int .i64 c.off, .int .i64 c.bp, .int .i64 c.be, .int .i64 c.bq, .slice ra c.recs.length rc, .string (S c.group), .string (S c.member), .int .i64 c.gen, .bool c.robin, x]) a1 bad1 (.slice none 0 0) [] := ⟨X0.keptR k1 (by simp; omega), Y0.keptR k1 (by simp; omega), p1, World.ownsRow_nil _ _ _ _, K0.trans k1⟩
  have HI0 := Lib.hid hI0
  have HS1 := Lib.hid hsn
  have HG0 : Hid (GRl vtxt (fun l : List UInt8 => l.length ≤ 16) (fun l : List UInt8 => l.length ≤ 16) s n a1 (be bad1) 0 [] a1 (be bad1)) := Lib.hid (GRl.start (fun h => by have := hsn.go h; omega))
  clear cc p1 k1 hsn hbn B0 X0 Y0 P0 K0 hI0
  go_wp2_with fail
  go_loopw [11] (fun (x11 : Value) (W : World) => ∃ (i : Nat) (ts : List (List UInt8)) (v : Value) (a : Int) (bad : Bool), x11 = .int .i64 (i : Int) ∧ i ≤ 9 ∧ Hid (GRl vtxt (fun l : List UInt8 => l.length ≤ 16) (fun l : List UInt8 => l.length ≤ 16) s n a1 (be bad1) i ts a (be bad)) ∧ Hid (LInv w W s p (fun x : Value => #[.int .i64 c.kind, .string (S c.topic), .int .i64 c.pn, .int .i64 c.n, .int .i64 c.off, .int .i64 c.bp, .int .i64 c.be, .int .i64 c.bq, .slice ra c.recs.length rc, .string (S c.group), .string (S c.member), .int .i64 c.gen, .bool c.robin, x]) a bad v ts)) (fun (x11 : Value) (W : World) => (9 - intOf x11).toNat)
  case atStart => exact ⟨0, [], _, a1, bad1, rfl, by omega, HG0, HI0⟩
  case round =>
    clear HG0 HI0
    obtain ⟨i, ts, v, a2, bad2, rfl, hi9, hG, hF⟩ := hrel
    have rd := hF.out.rd
    unfold inr at rd
    obtain ⟨k0, z0, z1, z2⟩ := rd.c3
    clear rd
    by_cases hgo : (i : Int) < n ∧ bad2 = false ∧ i < 9
    · obtain ⟨hin, hbad, h9⟩ := hgo
      subst hbad
      obtain rfl : i = ts.length := hG.out.len.symm
      obtain ⟨va, vc, rfl⟩ := ownForm hF.out.own
      have XB := Lib.hid hF.out.op
      have YB := Lib.hid hF.out.rs
      have RD := Lib.hid hF.out.rd
      have OWN := Lib.hid hF.out.own
      have KP := Lib.hid hF.out.kp
      have xb1 := hF.out.op.cell 13
      simp only [List.getElem?_toArray, List.getElem?_cons_succ, List.getElem?_cons_zero] at xb1
      have hb1 := hF.out.op.lt
      have hyb := hF.out.rs.lt
      have hks := hF.out.kp.size
      have cT := Lib.hid (fun (W : World) (hW : Blk W p (inr s a2 false) 40) => in_text s a2 false p W HL hW)
      have t1 : decide ((ts.length : Int) < n) = true := decide_eq_true hin
      have t1b : ((ts.length : Int) < n) = True := eq_true hin
      have t2 : decide ((ts.length : Int) < 9) = true := decide_eq_true (by omega)
      have t2b : ((ts.length : Int) < 9) = True := eq_true (by omega)
      have t2c : (ts.length < 9) = True := eq_true h9
      clear hF
      go_upto_region 6 with fail
      refine wp_region_held_drew (S := fun _ => True) (by kernel_rfl) trivial (fun hHeld => ?_)
      refine wpAnyH_take (i := 0) (v := ?_) rfl (by kernel_rfl) (by kernel_rfl) (by kernel_rfl) (fun _ _ _ h => h) (Or.inl ⟨by rfl, ?_⟩) hHeld ?_
      rotate_left
      · (intro w hSw; go_simp; try with_reducible rfl)
      try simp only [List.getElem_toArray, List.getElem_cons_zero, List.getElem_cons_succ, Act.put, List.setIfInBounds_toArray, List.set_cons_zero, List.set_cons_succ]
      refine wpAnyH_take (i := 2) (v := ?_) rfl (by kernel_rfl) (by kernel_rfl) (by kernel_rfl) (fun _ _ _ h => h) (Or.inl ⟨by rfl, ?_⟩) hHeld ?_
      rotate_left
      · (intro w hSw; go_simp; try with_reducible rfl)
      try simp only [List.getElem_toArray, List.getElem_cons_zero, List.getElem_cons_succ, Act.put, List.setIfInBounds_toArray, List.set_cons_zero, List.set_cons_succ]
      refine wpAnyH_ready (rs := [1, 3]) (by kernel_rfl) (by simp) ?_
      refine (AllReadyH.cons rfl (fun K hK => ?_) (AllReadyH.cons rfl (fun K hK => ?_) AllReadyH.nil))
      · go_simp
        refine hK.out _ _ trivial (fun hHeld => ?_)
        clear hK K
        try simp only [List.getElem_toArray, List.getElem_cons_zero, List.getElem_cons_succ, Act.put, List.setIfInBounds_toArray, List.set_cons_zero, List.set_cons_succ]
        refine wpAnyH_ready (rs := [3]) (by kernel_rfl) (by simp) ?_
        refine (AllReadyH.cons rfl (fun K hK => ?_) AllReadyH.nil)
        go_simp
        refine (cT.out _ ?_).use ?_
        · exact RD.out.drew
        intro w2 u2 a3 bad3 p2 k2 st2
        obtain ⟨t, rfl, htl, hst⟩ := st2
        have X2 := Lib.hid (XB.out.drew.keptR k2 (by simp; omega))
        have Y2 := Lib.hid (YB.out.drew.keptR k2 (by simp; omega))
        have P2 := Lib.hid p2
        have own2 := own_keptR (own_keptR OWN.out ((KeptR.refl [] wr).drew') (by simp)) k2 (fun b hb hm => by have h1 := (OWN.out.lt b hb).1; simp at hm; omega)
        have P3 := Lib.hid (own_keptR own2 ((KeptR.refl [] w2).new (.cells #[.string (S t)] 9)) (by simp))
        have K2 := Lib.hid ((KP.out.drew').transN k2 (by simp))
        have HST := Lib.hid hst
        have HTL := Lib.hid htl
        have xb2 := X2.out.cell 13
        simp only [List.getElem?_toArray, List.getElem?_cons_succ, List.getElem?_cons_zero] at xb2
        have hb2 := X2.out.lt
        have xb3 := (X2.out.alloc (.cells #[.string (S t)] 9)).cell 13
        simp only [List.getElem?_toArray, List.getElem?_cons_succ, List.getElem?_cons_zero] at xb3
        clear p2 k2 hst htl own2
        go_wp2_with fail
        refine hK.out _ _ trivial (fun hHeld => ?_)
        clear hK K
        try simp only [List.getElem_toArray, List.getElem_cons_zero, List.getElem_cons_succ, Act.put, List.setIfInBounds_toArray, List.set_cons_zero, List.set_cons_succ]
        refine wpAnyH_ready (rs := [4]) (by kernel_rfl) (by simp) ?_
        refine (AllReadyH.cons rfl (fun K hK => ?_) AllReadyH.nil)
        go_simp
        refine hK.out _ _ trivial (fun hHeld => ?_)
        clear hK K
        try simp only [List.getElem_toArray, List.getElem_cons_zero, List.getElem_cons_succ, Act.put, List.setIfInBounds_toArray, List.set_cons_zero, List.set_cons_succ]
        refine wpAnyH_ready (rs := [5]) (by kernel_rfl) (by simp) ?_
        refine (AllReadyH.cons rfl (fun K hK => ?_) AllReadyH.nil)
        refine step_append_lies _ (by rfl) _ _ _ (by rfl) (w.heap.size + 1 + 1) 9 j0 _ 1 16 Tryz.underlying27 hj hy0 hy1 hy2 rfl (by decide) (.slice va ts.length vc) ts.length (ts.map strV) (by simp [Act.eval, Act.put]) P3.out ⟨w2.heap.size, 0, none⟩ 1 1 [.string (S t)] (by simp [Act.eval, Act.put]) rfl (news_strV t (by first | rfl | simp)) (by simp [Value.oneCell']) (by omega) (by unfold maxLen; omega) (by omega) (by simp; omega) (w2.heap.size + 1) (by simp) ?_
        intro g5 cap5 w5 o5 gr5 hat5 hlt5
        have X5 := (X2.out.alloc (.cells #[.string (S t)] 9)).grown gr5 (own_ne P3.out (X2.out.alloc (.cells #[.string (S t)] 9)) (by decide))
        have Y5 := Lib.hid ((Y2.out.alloc (.cells #[.string (S t)] 9)).grown gr5 (own_ne P3.out (Y2.out.alloc (.cells #[.string (S t)] 9)) (by decide)))
        have R5 := Lib.hid ((P2.out.alloc (.cells #[.string (S t)] 9)).grown gr5 (own_ne P3.out (P2.out.alloc (.cells #[.string (S t)] 9)) (by decide)))
        have y5 := X5.cell 13
        simp only [List.getElem?_toArray, List.getElem?_cons_succ, List.getElem?_cons_zero] at y5
        have kq5 := X5.lt
        have ff5 : ∀ i, w5.frozen? ⟨w.heap.size, i, none⟩ = false := fun i => Blk.frozen X5 i
        have XX5 := Lib.hid X5
        have O5 := Lib.hid o5
        have GR5 := Lib.hid gr5
        have GB5 : Hid (KeptR [p] w w5) := Lib.hid ⟨gr5.os.trans (K2.out.new (.cells #[.string (S t)] 9)).os, gr5.tape.trans (K2.out.new (.cells #[.string (S t)] 9)).tape, gr5.output.trans (K2.out.new (.cells #[.string (S t)] 9)).output, Nat.le_trans (K2.out.new (.cells #[.string (S t)] 9)).size gr5.size, fun i hi hn => (gr5.block i (Nat.lt_of_lt_of_le hi (K2.out.new (.cells #[.string (S t)] 9)).size) (fun e1 => by have := (P3.out.lt i e1.symm).1; omega)).trans ((K2.out.new (.cells #[.string (S t)] 9)).block i hi hn)⟩
        clear X5 o5 gr5 hat5 hlt5
        refine hK.out _ _ trivial (fun hHeld => ?_)
        clear hK K
        try simp only [List.getElem_toArray, List.getElem_cons_zero, List.getElem_cons_succ, Act.put, List.setIfInBounds_toArray, List.set_cons_zero, List.set_cons_succ]
        refine wpAnyH_take (i := 6) (v := ?_) rfl (by kernel_rfl) (by kernel_rfl) (by kernel_rfl) (fun _ _ _ h => h) (Or.inl ⟨by rfl, ?_⟩) hHeld ?_
        rotate_left
        · (intro w hSw; go_simp; try with_reducible rfl)
        try simp only [List.getElem_toArray, List.getElem_cons_zero, List.getElem_cons_succ, Act.put, List.setIfInBounds_toArray, List.set_cons_zero, List.set_cons_succ]
        refine wpAnyH_ready (rs := [7]) (by kernel_rfl) (by simp) ?_
        refine (AllReadyH.cons rfl (fun K hK => ?_) AllReadyH.nil)
        go_simp
        refine hK.out _ _ trivial (fun hHeld => ?_)
        clear hK K
        try simp only [List.getElem_toArray, List.getElem_cons_zero, List.getElem_cons_succ, Act.put, List.setIfInBounds_toArray, List.set_cons_zero, List.set_cons_succ]
        refine wpAnyH_done (by kernel_rfl) ?_ _
        go_wp2_with fail
        go_roundw
        case rel =>
          refine ⟨ts.length + 1, ts ++ [t], .slice (some ⟨g5, 0, none⟩) (ts.length + 1) cap5, a3, bad3, by go_num, by omega, Lib.hid (hG.out.step hin HST.out HTL.out), Lib.hid ⟨XX5.out.set 13 _, Y5.out.setOther (show w.heap.size + 1 ≠ w.heap.size by omega) _, R5.out.setOther (show p ≠ w.heap.size by omega) _, ?_, GB5.out.setN (Nat.le_refl _) 13 _⟩⟩
          have o6 := own_keptR O5.out ((KeptR.refl [w.heap.size] w5).set (b := w.heap.size) (by simp) 13 (.slice (some ⟨g5, 0, none⟩) (ts.length + 1) cap5)) (fun b hb hm => by have n1 := own_ne O5.out XX5.out (by decide); rw [hb, List.mem_singleton.1 hm] at n1; exact n1 rfl)
          simpa [strV] using o6
        case measure => simp [intOf]; omega
      · go_simp
        refine (cT.out _ ?_).use ?_
        · exact RD.out.drew
        intro w2 u2 a3 bad3 p2 k2 st2
        obtain ⟨t, rfl, htl, hst⟩ := st2
        have X2 := Lib.hid (XB.out.drew.keptR k2 (by simp; omega))
        have Y2 := Lib.hid (YB.out.drew.keptR k2 (by simp; omega))
        have P2 := Lib.hid p2
        have own2 := own_keptR (own_keptR OWN.out ((KeptR.refl [] wr).drew') (by simp)) k2 (fun b hb hm => by have h1 := (OWN.out.lt b hb).1; simp at hm; omega)
        have P3 := Lib.hid (own_keptR own2 ((KeptR.refl [] w2).new (.cells #[.string (S t)] 9)) (by simp))
        have K2 := Lib.hid ((KP.out.drew').transN k2 (by simp))
        have HST := Lib.hid hst
        have HTL := Lib.hid htl
        have xb2 := X2.out.cell 13
        simp only [List.getElem?_toArray, List.getElem?_cons_succ, List.getElem?_cons_zero] at xb2
        have hb2 := X2.out.lt
        have xb3 := (X2.out.alloc (.cells #[.string (S t)] 9)).cell 13
        simp only [List.getElem?_toArray, List.getElem?_cons_succ, List.getElem?_cons_zero] at xb3
        clear p2 k2 hst htl own2
        go_wp2_with fail
        refine hK.out _ _ trivial (fun hHeld => ?_)
        clear hK K
        try simp only [List.getElem_toArray, List.getElem_cons_zero, List.getElem_cons_succ, Act.put, List.setIfInBounds_toArray, List.set_cons_zero, List.set_cons_succ]
        refine wpAnyH_ready (rs := [1, 4]) (by kernel_rfl) (by simp) ?_
        refine (AllReadyH.cons rfl (fun K hK => ?_) (AllReadyH.cons rfl (fun K hK => ?_) AllReadyH.nil))
        · go_simp
          refine hK.out _ _ trivial (fun hHeld => ?_)
          clear hK K
          try simp only [List.getElem_toArray, List.getElem_cons_zero, List.getElem_cons_succ, Act.put, List.setIfInBounds_toArray, List.set_cons_zero, List.set_cons_succ]
          refine wpAnyH_ready (rs := [4]) (by kernel_rfl) (by simp) ?_
          refine (AllReadyH.cons rfl (fun K hK => ?_) AllReadyH.nil)
          go_simp
          refine hK.out _ _ trivial (fun hHeld => ?_)
          clear hK K
          try simp only [List.getElem_toArray, List.getElem_cons_zero, List.getElem_cons_succ, Act.put, List.setIfInBounds_toArray, List.set_cons_zero, List.set_cons_succ]
          refine wpAnyH_ready (rs := [5]) (by kernel_rfl) (by simp) ?_
          refine (AllReadyH.cons rfl (fun K hK => ?_) AllReadyH.nil)
          refine step_append_lies _ (by rfl) _ _ _ (by rfl) (w.heap.size + 1 + 1) 9 j0 _ 1 16 Tryz.underlying27 hj hy0 hy1 hy2 rfl (by decide) (.slice va ts.length vc) ts.length (ts.map strV) (by simp [Act.eval, Act.put]) P3.out ⟨w2.heap.size, 0, none⟩ 1 1 [.string (S t)] (by simp [Act.eval, Act.put]) rfl (news_strV t (by first | rfl | simp)) (by simp [Value.oneCell']) (by omega) (by unfold maxLen; omega) (by omega) (by simp; omega) (w2.heap.size + 1) (by simp) ?_
          intro g5 cap5 w5 o5 gr5 hat5 hlt5
          have X5 := (X2.out.alloc (.cells #[.string (S t)] 9)).grown gr5 (own_ne P3.out (X2.out.alloc (.cells #[.string (S t)] 9)) (by decide))
          have Y5 := Lib.hid ((Y2.out.alloc (.cells #[.string (S t)] 9)).grown gr5 (own_ne P3.out (Y2.out.alloc (.cells #[.string (S t)] 9)) (by decide)))
          have R5 := Lib.hid ((P2.out.alloc (.cells #[.string (S t)] 9)).grown gr5 (own_ne P3.out (P2.out.alloc (.cells #[.string (S t)] 9)) (by decide)))
          have y5 := X5.cell 13
          simp only [List.getElem?_toArray, List.getElem?_cons_succ, List.getElem?_cons_zero] at y5
          have kq5 := X5.lt
          have ff5 : ∀ i, w5.frozen? ⟨w.heap.size, i, none⟩ = false := fun i => Blk.frozen X5 i
          have XX5 := Lib.hid X5
          have O5 := Lib.hid o5
          have GR5 := Lib.hid gr5
          have GB5 : Hid (KeptR [p] w w5) := Lib.hid ⟨gr5.os.trans (K2.out.new (.cells #[.string (S t)] 9)).os, gr5.tape.trans (K2.out.new (.cells #[.string (S t)] 9)).tape, gr5.output.trans (K2.out.new (.cells #[.string (S t)] 9)).output, Nat.le_trans (K2.out.new (.cells #[.string (S t)] 9)).size gr5.size, fun i hi hn => (gr5.block i (Nat.lt_of_lt_of_le hi (K2.out.new (.cells #[.string (S t)] 9)).size) (fun e1 => by have := (P3.out.lt i e1.symm).1; omega)).trans ((K2.out.new (.cells #[.string (S t)] 9)).block i hi hn)⟩
          clear X5 o5 gr5 hat5 hlt5
          refine hK.out _ _ trivial (fun hHeld => ?_)
          clear hK K
          try simp only [List.getElem_toArray, List.getElem_cons_zero, List.getElem_cons_succ, Act.put, List.setIfInBounds_toArray, List.set_cons_zero, List.set_cons_succ]
          refine wpAnyH_take (i := 6) (v := ?_) rfl (by kernel_rfl) (by kernel_rfl) (by kernel_rfl) (fun _ _ _ h => h) (Or.inl ⟨by rfl, ?_⟩) hHeld ?_
          rotate_left
          · (intro w hSw; go_simp; try with_reducible rfl)
          try simp only [List.getElem_toArray, List.getElem_cons_zero, List.getElem_cons_succ, Act.put, List.setIfInBounds_toArray, List.set_cons_zero, List.set_cons_succ]
          refine wpAnyH_ready (rs := [7]) (by kernel_rfl) (by simp) ?_
          refine (AllReadyH.cons rfl (fun K hK => ?_) AllReadyH.nil)
          go_simp
          refine hK.out _ _ trivial (fun hHeld => ?_)
          clear hK K
          try simp only [List.getElem_toArray, List.getElem_cons_zero, List.getElem_cons_succ, Act.put, List.setIfInBounds_toArray, List.set_cons_zero, List.set_cons_succ]
          refine wpAnyH_done (by kernel_rfl) ?_ _
          go_wp2_with fail
          go_roundw
          case rel =>
            refine ⟨ts.length + 1, ts ++ [t], .slice (some ⟨g5, 0, none⟩) (ts.length + 1) cap5, a3, bad3, by go_num, by omega, Lib.hid (hG.out.step hin HST.out HTL.out), Lib.hid ⟨XX5.out.set 13 _, Y5.out.setOther (show w.heap.size + 1 ≠ w.heap.size by omega) _, R5.out.setOther (show p ≠ w.heap.size by omega) _, ?_, GB5.out.setN (Nat.le_refl _) 13 _⟩⟩
            have o6 := own_keptR O5.out ((KeptR.refl [w.heap.size] w5).set (b := w.heap.size) (by simp) 13 (.slice (some ⟨g5, 0, none⟩) (ts.length + 1) cap5)) (fun b hb hm => by have n1 := own_ne O5.out XX5.out (by decide); rw [hb, List.mem_singleton.1 hm] at n1; exact n1 rfl)
            simpa [strV] using o6
          case measure => simp [intOf]; omega
        · go_simp
          refine hK.out _ _ trivial (fun hHeld => ?_)
          clear hK K
          try simp only [List.getElem_toArray, List.getElem_cons_zero, List.getElem_cons_succ, Act.put, List.setIfInBounds_toArray, List.set_cons_zero, List.set_cons_succ]
          refine wpAnyH_ready (rs := [1]) (by kernel_rfl) (by simp) ?_
          refine (AllReadyH.cons rfl (fun K hK => ?_) AllReadyH.nil)
          go_simp
          refine hK.out _ _ trivial (fun hHeld => ?_)
          clear hK K
          try simp only [List.getElem_toArray, List.getElem_cons_zero, List.getElem_cons_succ, Act.put, List.setIfInBounds_toArray, List.set_cons_zero, List.set_cons_succ]
          refine wpAnyH_ready (rs := [5]) (by kernel_rfl) (by simp) ?_
          refine (AllReadyH.cons rfl (fun K hK => ?_) AllReadyH.nil)
          refine step_append_lies _ (by rfl) _ _ _ (by rfl) (w.heap.size + 1 + 1) 9 j0 _ 1 16 Tryz.underlying27 hj hy0 hy1 hy2 rfl (by decide) (.slice va ts.length vc) ts.length (ts.map strV) (by simp [Act.eval, Act.put]) P3.out ⟨w2.heap.size, 0, none⟩ 1 1 [.string (S t)] (by simp [Act.eval, Act.put]) rfl (news_strV t (by first | rfl | simp)) (by simp [Value.oneCell']) (by omega) (by unfold maxLen; omega) (by omega) (by simp; omega) (w2.heap.size + 1) (by simp) ?_
          intro g5 cap5 w5 o5 gr5 hat5 hlt5
          have X5 := (X2.out.alloc (.cells #[.string (S t)] 9)).grown gr5 (own_ne P3.out (X2.out.alloc (.cells #[.string (S t)] 9)) (by decide))
          have Y5 := Lib.hid ((Y2.out.alloc (.cells #[.string (S t)] 9)).grown gr5 (own_ne P3.out (Y2.out.alloc (.cells #[.string (S t)] 9)) (by decide)))
          have R5 := Lib.hid ((P2.out.alloc (.cells #[.string (S t)] 9)).grown gr5 (own_ne P3.out (P2.out.alloc (.cells #[.string (S t)] 9)) (by decide)))
          have y5 := X5.cell 13
          simp only [List.getElem?_toArray, List.getElem?_cons_succ, List.getElem?_cons_zero] at y5
          have kq5 := X5.lt
          have ff5 : ∀ i, w5.frozen? ⟨w.heap.size, i, none⟩ = false := fun i => Blk.frozen X5 i
          have XX5 := Lib.hid X5
          have O5 := Lib.hid o5
          have GR5 := Lib.hid gr5
          have GB5 : Hid (KeptR [p] w w5) := Lib.hid ⟨gr5.os.trans (K2.out.new (.cells #[.string (S t)] 9)).os, gr5.tape.trans (K2.out.new (.cells #[.string (S t)] 9)).tape, gr5.output.trans (K2.out.new (.cells #[.string (S t)] 9)).output, Nat.le_trans (K2.out.new (.cells #[.string (S t)] 9)).size gr5.size, fun i hi hn => (gr5.block i (Nat.lt_of_lt_of_le hi (K2.out.new (.cells #[.string (S t)] 9)).size) (fun e1 => by have := (P3.out.lt i e1.symm).1; omega)).trans ((K2.out.new (.cells #[.string (S t)] 9)).block i hi hn)⟩
          clear X5 o5 gr5 hat5 hlt5
          refine hK.out _ _ trivial (fun hHeld => ?_)
          clear hK K
          try simp only [List.getElem_toArray, List.getElem_cons_zero, List.getElem_cons_succ, Act.put, List.setIfInBounds_toArray, List.set_cons_zero, List.set_cons_succ]
          refine wpAnyH_take (i := 6) (v := ?_) rfl (by kernel_rfl) (by kernel_rfl) (by kernel_rfl) (fun _ _ _ h => h) (Or.inl ⟨by rfl, ?_⟩) hHeld ?_
          rotate_left
          · (intro w hSw; go_simp; try with_reducible rfl)
          try simp only [List.getElem_toArray, List.getElem_cons_zero, List.getElem_cons_succ, Act.put, List.setIfInBounds_toArray, List.set_cons_zero, List.set_cons_succ]
          refine wpAnyH_ready (rs := [7]) (by kernel_rfl) (by simp) ?_
          refine (AllReadyH.cons rfl (fun K hK => ?_) AllReadyH.nil)
          go_simp
          refine hK.out _ _ trivial (fun hHeld => ?_)
          clear hK K
          try simp only [List.getElem_toArray, List.getElem_cons_zero, List.getElem_cons_succ, Act.put, List.setIfInBounds_toArray, List.set_cons_zero, List.set_cons_succ]
          refine wpAnyH_done (by kernel_rfl) ?_ _
          go_wp2_with fail
          go_roundw
          case rel =>
            refine ⟨ts.length + 1, ts ++ [t], .slice (some ⟨g5, 0, none⟩) (ts.length + 1) cap5, a3, bad3, by go_num, by omega, Lib.hid (hG.out.step hin HST.out HTL.out), Lib.hid ⟨XX5.out.set 13 _, Y5.out.setOther (show w.heap.size + 1 ≠ w.heap.size by omega) _, R5.out.setOther (show p ≠ w.heap.size by omega) _, ?_, GB5.out.setN (Nat.le_refl _) 13 _⟩⟩
            have o6 := own_keptR O5.out ((KeptR.refl [w.heap.size] w5).set (b := w.heap.size) (by simp) 13 (.slice (some ⟨g5, 0, none⟩) (ts.length + 1) cap5)) (fun b hb hm => by have n1 := own_ne O5.out XX5.out (by decide); rw [hb, List.mem_singleton.1 hm] at n1; exact n1 rfl)
            simpa [strV] using o6
          case measure => simp [intOf]; omega
    · have STOP := Lib.hid (grl_stopN hG.out hgo)
      go_upto_region 4 with fail
      go_cut [28] (fun v28 wx => v28 = .bool false ∧ wx = wr)
      case first =>
        by_cases hin : (i : Int) < n
        · have t1 : decide ((i : Int) < n) = true := decide_eq_true hin
          have t1b : ((i : Int) < n) = True := eq_true hin
          cases bad2
          · have t2 : decide ((i : Int) < 9) = false := decide_eq_false (fun h => hgo ⟨hin, rfl, by omega⟩)
            have t2b : ((i : Int) < 9) = False := eq_false (fun h => hgo ⟨hin, rfl, by omega⟩)
            have t2c : (i < 9) = False := eq_false (fun h => hgo ⟨hin, rfl, h⟩)
            go_wp2_with fail
            go_meet
            exact ⟨rfl, rfl⟩
          · go_wp2_with fail
            go_meet
            exact ⟨rfl, rfl⟩
        · have t1 : decide ((i : Int) < n) = false := decide_eq_false hin
          have t1b : ((i : Int) < n) = False := eq_false hin
          go_wp2_with fail
          go_meet
          exact ⟨rfl, rfl⟩
      case rest =>
        obtain ⟨rfl, rfl⟩ := hcut
        obtain ⟨va, vc, rfl⟩ := ownForm hF.out.own
        have hlen : ts.length ≤ 9 := by rw [hG.out.len]; exact hi9
        have TB : Hid (ts.length ≤ 1000000 ∧ ∀ t ∈ ts, t.length ≤ maxLen) := Lib.hid ⟨by omega, fun t ht => by have := hG.out.bds t ht; unfold maxLen; omega⟩
        have X2 := hF.out.op
        obtain ⟨HX2, kx2, x0, x1, x2, x3, x4, x5, x6, x7, x8, x9, x10, x11, x12, x13⟩ := arr_cells X2
        have Y2 := Lib.hid hF.out.rs
        obtain ⟨HY2, ky2, y0, y1, y2, y3, y4, y5, y6, y7, y8, y9, y10, y11, y12, y13⟩ := arr_cells Y2.out
        have fy : ∀ i, wc.frozen? ⟨w.heap.size + 1, i, none⟩ = false := fun i => Blk.frozen Y2.out i
        have RDF := Lib.hid hF.out.rd
        have K2 := Lib.hid hF.out.kp
        have OW := Lib.hid hF.out.own
        have GO : Hid (bad2 = false → 0 ≤ a2 ∧ a2 ≤ s.length) := Lib.hid (fun h => by have := hG.out.ok (by rw [h]; rfl); omega)
        have OS : Hid (OneS s 108 a c { c with tops := ts } a2 bad2) := Lib.hid (fun y b hy hx hat => by
          have ok := (ccheck_ok hy).tops
          have hat2 : At s a (vput y.tops.length ++ y.tops.flatMap vtxt) b := hat
          obtain ⟨h1, h2⟩ := hat2.split
          obtain ⟨h3, h4, h5⟩ := HS1.out.full (y.tops.length : Int) _ rfl (by omega) (by simpa using h1)
          rw [← h4] at h2
          obtain ⟨h6, h7, h8⟩ := STOP.out y.tops b h5 h3 ok.2 ok.1 h2
          exact ⟨by rw [h6]; rfl, h7, be_zero h8⟩)
        clear hF hG HX2 HY2 X2 STOP HS1 z0 z1 z2 k0
        go_wp2_with fail
        have ST := set14 (v0 := .int .i64 c.kind) (v1 := .string (S c.topic)) (v2 := .int .i64 c.pn) (v3 := .int .i64 c.n) (v4 := .int .i64 c.off) (v5 := .int .i64 c.bp) (v6 := .int .i64 c.be) (v7 := .int .i64 c.bq) (v8 := .slice ra c.recs.length rc) (v9 := .string (S c.group)) (v10 := .string (S c.member)) (v11 := .int .i64 c.gen) (v12 := .bool c.robin) (v13 := .slice va ts.length vc) Y2.out
        refine bodyPost_ret (results_cell_row rfl _ _ (w.heap.size + 1) 29 #[.int .i64 c.kind, .string (S c.topic), .int .i64 c.pn, .int .i64 c.n, .int .i64 c.off, .int .i64 c.bp, .int .i64 c.be, .int .i64 c.bq, .slice ra c.recs.length rc, .string (S c.group), .string (S c.member), .int .i64 c.gen, .bool c.robin, .slice va ts.length vc] (0, 0) _ rfl ?c1 Tryz.underlying29 rfl (by kernel_rfl)) rfl ?_
        case c1 => exact ST.1
        have KF := K2.out.transN ST.2 (by simp)
        exact hR.out _ { c with tops := ts } (.slice ra c.recs.length rc) (.slice va ts.length vc) a2 bad2 ⟨(RDF.out).keptR ST.2 (by simp; omega), KF, ⟨HI.out.recs.keptR KF (fun b hb hm => by have := (O1.out b hb).1; simp at hm; omega), (tops_own OW.out).keptR ST.2 (fun b hb hm => by have := (OW.out.lt b hb).1; simp at hm; omega)⟩, ⟨BD.out.topic, BD.out.group, BD.out.member, BD.out.recs, TB.out⟩, fun b hb => ⟨(O1.out b hb).1, Nat.lt_of_lt_of_le (O1.out b hb).2 KF.size⟩, fun b hb => ⟨by have := (OW.out.lt b hb).1; omega, Nat.lt_of_lt_of_le (OW.out.lt b hb).2 ST.2.size⟩, GO.out⟩ OS.out rfl (fun h => absurd rfl h)
end Go.Proofs.YthiliodmbipikaaGreat
