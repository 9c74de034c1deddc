/-
  The walk of ChunksTexts.
-/
import Derived.Test.YtohplhahghilaaaChkSs
import Derived.Test.YtohplhahghilaaaChkRP
import Derived.Test.YtohplhahghilaaaChkDig
import Derived.Test.YtohplhahghilaaaChkU
import Derived.Test.YtohplhahghilaaaChkT
set_option linter.unusedVariables false
set_option linter.unusedSimpArgs false
namespace Go.Proofs.Ytohplhahghilaaa.chunksTexts
open Go.RowKit
attribute [local go_sem] ByteArray.extract_mk ByteArray.mk_append_mk

/-- What lies in memory. -/
structure TS (w : World) (base next : Int) (v : Value) (L : List Fnd) (W : World) : Prop where
  x3 : Blk W w.heap.size #[.int .i64 base, .int .i64 next, v] 24
  fn : FndsIn W v L
  bel : Below w.heap.size w W
theorem TS.below {w W W' : World} {base next : Int} {v : Value} {L : List Fnd} (h : TS w base next v L W) (b : Below W.heap.size W W') : TS w base next v L W' :=
  ⟨h.x3.below b, h.fn.below b, below_any (Nat.le_refl _) h.bel b⟩
theorem FndsIn.set {W : World} {v : Value} {l : List Fnd} (h : FndsIn W v l) {p i : Nat} (u : Value) (ha : ∀ b, v.ownBlock = some b → b ≠ p) : FndsIn (W.setCell ⟨p, i, none⟩ u) v l :=
  h.kept (bs := [p]) (Kept.ofGrown (grown_set (grown_refl _ _) _ _)) (fun b hb hm => ha b hb (by simpa using hm))
theorem TS.start {w w1 : World} {base next : Int} {v0 v : Value} {L : List Fnd} (X3 : Blk w1 w.heap.size #[.int .i64 base, .int .i64 next, v0] 24)
    (o : FndsIn w1 v L) (ho : ∀ b, v.ownBlock = some b → w.heap.size + 1 ≤ b) (g : Below w.heap.size w w1) : TS w base next v L (((w1.setCell ⟨w.heap.size, 0, none⟩ (.int .i64 base)).setCell ⟨w.heap.size, 1, none⟩ (.int .i64 next)).setCell ⟨w.heap.size, 2, none⟩ v) := by
  refine ⟨?_, ?_, ?_⟩
  · exact ((X3.set 0 (.int .i64 base)).set 1 (.int .i64 next)).set 2 v
  · refine FndsIn.set (FndsIn.set (FndsIn.set o _ ?_) _ ?_) _ ?_ <;> intro x hx <;> have := ho x hx <;> omega
  · exact ((g.setCell (p := ⟨w.heap.size, 0, none⟩) (Nat.le_refl _) _).setCell (p := ⟨w.heap.size, 1, none⟩) (Nat.le_refl _) _).setCell (p := ⟨w.heap.size, 2, none⟩) (Nat.le_refl _) _
/-- Two answers of bytes: the same. -/
theorem segs_two {W : World} {Y : Obj} {b n : Int} {v1 v2 : Value} {l : List Fnd} (f1 : FndsIn (W.alloc Y) v1 l) (f2 : FndsIn (W.alloc Y) v2 l) (hl : l.length ≤ 100000) :
    RetB Try.prog 15 #[.slice (some ⟨W.heap.size + 1, 0, none⟩) 1 1, .slice (some ⟨W.heap.size + 1 + 1, 0, none⟩) 1 1] (((W.alloc Y).alloc (.cells #[.int .i64 b, .int .i64 n, v1] 24)).alloc (.cells #[.int .i64 b, .int .i64 n, v2] 24)) (.bool true) := by
  have hz : W.heap.size + 1 = (W.alloc Y).heap.size := by simp
  rw [hz]
  generalize W.alloc Y = W at *
  refine segs6 W.heap.size (W.heap.size + 1) b n v1 v2 l _ ((Blk.new W _ _).alloc _) ?_ ((f1.alloc _).alloc _) ((f2.alloc _).alloc _) hl
  have h := Blk.new (W.alloc (.cells #[.int .i64 b, .int .i64 n, v1] 24)) #[.int .i64 b, .int .i64 n, v2] 24
  rwa [World.size_alloc] at h

set_option maxHeartbeats 8000000 in
set_option maxRecDepth 100000 in
theorem walk {w : World} (base next : Int) (v : Value) (l : List Fnd) (s : List UInt8) (hl : FndsIn w v l) (h0 : SegBd base next l) (hs : s.length ≤ maxLen) :
    RetB Try.prog 3 #[.agg #[.int .i64 base, .int .i64 next, v], .string (S s)] w (.bool true) := by
  refine RetB.intro fun R hR => ?_
  unfold maxLen at hs
  have hLb : ∀ f ∈ cutFs l, RecBd f.r := cutF_bd (fun f hf => (h0.2.1 f hf).1)
  have hLl : (cutFs l).length ≤ 70 := by simp [cutFs]; omega
  have C0 := Lib.hid (fun W (hb : Below w.heap.size w W) => seg7 base next v l W (hl.below hb) (fun f hf => (h0.2.1 f hf).1) (by have := h0.1; unfold maxLen at this; omega))
  obtain ⟨L, hL⟩ : ∃ L, cutFs l = L := ⟨_, rfl⟩
  rw [hL] at C0 hLb hLl
  have q1 : ((min (s.length : Int) 1500).toNat) = min s.length 1500 := by omega
  obtain ⟨t, ht⟩ : ∃ l, s.take (min s.length 1500) = l := ⟨_, rfl⟩
  have htl : t.length ≤ 1500 := by rw [← ht, List.length_take]; omega
  have C1 := Lib.hid (fun v W (h : FndsIn W v L) => text7 base next v L W h hLb (by omega))
  have C2 := Lib.hid (fun v W (h : FndsIn W v L) hp => rtext7 base next v L W h hp hLb (by omega))
  obtain ⟨e, he⟩ : ∃ e, lerr base next L = e := ⟨_, rfl⟩
  obtain ⟨tx, htx⟩ : ∃ tx, (if e = 0 then stext base next L else []) = tx := ⟨_, rfl⟩
  rw [he, htx] at C1 C2
  have CD := Lib.hid (fun W => digest7 t W (by omega))
  have CE := Lib.hid (fun W => rdigest7 t W (by omega))
  obtain ⟨dg, hdg⟩ : ∃ d, digest t = d := ⟨_, rfl⟩
  rw [hdg] at CD CE
  have HT := Lib.hid htl
  have HLl := Lib.hid hLl
  have hxx : (tx == tx) = true := by simp
  clear hL he htx hLb hl h0 htl hLl hdg
  go_enter Try.func3, Try.ntmps3
  go_wp2_with fail
  refine (C0.out _ (below_all (Below.refl _ _))).use ?_
  intro v1 w1 o1 b1
  have X3 := (Blk.new w #[.int .i64 base, .int .i64 next, v] 24).below b1
  have G1 := below_any (Nat.le_refl _) (below_all (o := .cells #[.int .i64 base, .int .i64 next, v] 24) (Below.refl w.heap.size w)) b1
  obtain ⟨k3, x0, x1, x2⟩ := X3.c3
  have fz3 : ∀ i, w1.frozen? ⟨w.heap.size, i, none⟩ = false := fun i => Blk.frozen X3 i
  have hp := Lib.hid (own_plain o1)
  obtain ⟨va, vc, rfl⟩ := own_form o1
  have SB : TS w base next (.slice va L.length vc) L _ := TS.start X3 (fnds_own o1) (fun x hx => by have := (o1.lt x hx).1; simpa using this) G1
  have SB := Lib.hid SB
  clear o1 X3 G1 b1 C0
  go_wp2_with fail
  generalize (((w1.setCell ⟨w.heap.size, 0, none⟩ (.int .i64 base)).setCell ⟨w.heap.size, 1, none⟩ (.int .i64 next)).setCell ⟨w.heap.size, 2, none⟩ (.slice va L.length vc)) = W2 at SB ⊢
  refine (C1.out _ _ SB.out.fn).use ?_
  intro w2 b2
  have SB2 := Lib.hid (SB.out.below b2)
  clear SB b2 C1 k3 x0 x1 x2 fz3
  obtain ⟨k3, x0, x1, x2⟩ := SB2.out.x3.c3
  go_wp2_with fail
  refine (C2.out _ _ SB2.out.fn hp.out).use ?_
  intro w3 b3
  have G3 := Lib.hid (SB2.out.below b3).bel
  clear SB2 b3 C2 k3 x0 x1 x2 hp
  go_wp2_with fail
  refine (parse7 t _ (by have := HT.out; omega)).use ?_ ?_
  · intro w4 b' n' v' l' b4 o4 hg hs
    have F4 := fnds_own o4
    obtain ⟨a4, c4, rfl⟩ := own_form o4
    have F4 := Lib.hid (F4.alloc (.cells #[.int .i64 b', .int .i64 n', .slice a4 l'.length c4] 24))
    have G4 := Lib.hid (below_all (o := .cells #[.int .i64 b', .int .i64 n', .slice a4 l'.length c4] 24) (below_any (Nat.le_refl _) G3.out b4))
    have Y4 := Lib.hid (Blk.new w4 #[.int .i64 b', .int .i64 n', .slice a4 l'.length c4] 24)
    have hln := (lerr_ok hg).2.2.2.2.2.1
    have HG := Lib.hid hg
    have HS := Lib.hid hs
    clear o4 hg hs b4 G3
    go_wp2_with fail
    refine (rparse7 t _ (by have := HT.out; omega)).use ?_ ?_
    · intro w5 b'' n'' v'' l'' b5 o5 hg2 hs2
      obtain ⟨rfl, rfl, rfl⟩ := stext_inj HG.out hg2 (HS.out.trans hs2.symm)
      have F5 := fnds_own o5
      obtain ⟨a5, c5, rfl⟩ := own_form o5
      have F5 := Lib.hid (F5.alloc (.cells #[.int .i64 b', .int .i64 n', .slice a5 l'.length c5] 24))
      have G5 := Lib.hid (below_all (o := .cells #[.int .i64 b', .int .i64 n', .slice a5 l'.length c5] 24) (below_any (Nat.le_refl _) G4.out b5))
      have Z5 := Lib.hid (Blk.new w5 #[.int .i64 b', .int .i64 n', .slice a5 l'.length c5] 24)
      have Y5 := Lib.hid ((Y4.out.below b5).alloc (.cells #[.int .i64 b', .int .i64 n', .slice a5 l'.length c5] 24))
      have F4 := Lib.hid ((F4.out.below b5).alloc (.cells #[.int .i64 b', .int .i64 n', .slice a5 l'.length c5] 24))
      clear o5 hg2 hs2 b5 G4 Y4 HG HS
      obtain ⟨k6, y0, y1, y2⟩ := Y5.out.c3
      obtain ⟨k7, z0, z1, z2⟩ := Z5.out.c3
      clear Y5 Z5
      go_wp2_with fail
      refine (segs_two (W := w5) (b := b') (n := n') F4.out F5.out (by omega)).use ?_
      intro w6 b6
      have G6 := Lib.hid (below_any (Nat.le_refl _) G5.out (below_any (Nat.le_refl _) (below_all (below_all (Below.refl _ _))) b6))
      clear F4 F5 G5 b6 k6 y0 y1 y2 k7 z0 z1 z2
      go_wp2_with fail
      refine (CD.out _).use ?_
      intro w7 b7
      have G7 := Lib.hid (below_any (Nat.le_refl _) G6.out b7)
      clear b7 G6 CD
      go_wp2_with fail
      refine (CE.out _).use ?_
      intro w8 b8
      have G8 := Lib.hid (below_any (Nat.le_refl _) G7.out b8)
      clear b8 G7 CE
      go_wp2_with fail
      refine (fixed7 _).use ?_
      intro wc bc
      go_wp2_with fail
      exact finB hR (below_any (Nat.le_refl _) G8.out bc) rfl
    · intro w5 b5 hno
      exact absurd HS.out (hno _ _ _ HG.out)
  · intro w4 b4 hno
    have G4 := Lib.hid (below_all (o := .cells #[.int .i64 0, .int .i64 0, .slice none 0 0] 24) (below_any (Nat.le_refl _) G3.out b4))
    have Y4 := Lib.hid (Blk.new w4 #[.int .i64 0, .int .i64 0, .slice none 0 0] 24)
    have HNO := Lib.hid hno
    clear b4 G3 hno
    go_wp2_with fail
    refine (rparse7 t _ (by have := HT.out; omega)).use ?_ ?_
    · intro w5 b'' n'' v'' l'' b5 o5 hg2 hs2
      exact absurd hs2 (HNO.out _ _ _ hg2)
    · intro w5 b5 hno2
      have G5 := Lib.hid (below_all (o := .cells #[.int .i64 0, .int .i64 0, .slice none 0 0] 24) (below_any (Nat.le_refl _) G4.out b5))
      have Z5 := Lib.hid (Blk.new w5 #[.int .i64 0, .int .i64 0, .slice none 0 0] 24)
      have Y5 := Lib.hid ((Y4.out.below b5).alloc (.cells #[.int .i64 0, .int .i64 0, .slice none 0 0] 24))
      clear b5 G4 Y4 hno2 HNO
      obtain ⟨k6, y0, y1, y2⟩ := Y5.out.c3
      obtain ⟨k7, z0, z1, z2⟩ := Z5.out.c3
      clear Y5 Z5
      go_wp2_with fail
      refine (segs_two (W := w5) (Y := .cells #[.int .i64 0, .int .i64 0, .slice none 0 0] 24) (b := 0) (n := 0) (l := []) (.inl ⟨rfl, none, 0, rfl⟩) (.inl ⟨rfl, none, 0, rfl⟩) (by simp)).use ?_
      intro w6 b6
      have G6 := Lib.hid (below_any (Nat.le_refl _) G5.out (below_any (Nat.le_refl _) (below_all (below_all (Below.refl _ _))) b6))
      clear G5 b6 k6 y0 y1 y2 k7 z0 z1 z2
      go_wp2_with fail
      refine (CD.out _).use ?_
      intro w7 b7
      have G7 := Lib.hid (below_any (Nat.le_refl _) G6.out b7)
      clear b7 G6 CD
      go_wp2_with fail
      refine (CE.out _).use ?_
      intro w8 b8
      have G8 := Lib.hid (below_any (Nat.le_refl _) G7.out b8)
      clear b8 G7 CE
      go_wp2_with fail
      refine (fixed7 _).use ?_
      intro wc bc
      go_wp2_with fail
      exact finB hR (below_any (Nat.le_refl _) G8.out bc) rfl
end Go.Proofs.Ytohplhahghilaaa.chunksTexts
