/-
  The walk of ChunksSplits.
-/
import Derived.Test.YtohplhahghilaaaChkSame
import Derived.Test.YtohplhahghilaaaChkGetR
import Derived.Test.YtohplhahghilaaaChkSplit
import Derived.Test.YtohplhahghilaaaChkT
set_option linter.unusedVariables false
set_option linter.unusedSimpArgs false
namespace Go.Proofs.Ytohplhahghilaaa.chunksSplits
open Go.RowKit
attribute [local go_sem] ByteArray.extract_mk ByteArray.mk_append_mk

theorem put_both (c : Chk) (hd : c.d < 18446744073709551616) : ∃ t e, (∀ w, RetB Try.prog 21 #[c.val] w (.tuple #[.string (S t), .int .i64 e])) ∧ (∀ w, RetB Try.prog 22 #[c.val] w (.tuple #[.string (S t), .int .i64 e])) := by
  cases hr : c.right with
  | true => exact ⟨c.text, 0, fun w => put7_ok c w hr hd, fun w => rput7_ok c w hr hd⟩
  | false => exact ⟨[], 70, fun w => put7_no c w hr, fun w => rput7_no c w hr⟩

set_option maxHeartbeats 4000000 in
set_option maxRecDepth 100000 in
theorem walk {w : World} (s : List UInt8) (size : Int) (c : Chk) (hs : s.length ≤ maxLen) (hz : -9223372036854775808 ≤ size ∧ size ≤ 9223372036854775807) (hc : ChkBd c) :
    RetB Try.prog 4 #[.string (S s), .int .i64 size, c.val] w (.bool true) := by
  refine RetB.intro fun R hR => ?_
  obtain ⟨ci, cn, cd, cb⟩ := c
  have hcb : cb.length ≤ maxLen := hc.2.2.2
  have hcd : cd < 18446744073709551616 := hc.2.2.1
  unfold maxLen at hs hcb
  have q1 : ((min (s.length : Int) 1500).toNat) = min s.length 1500 := by omega
  obtain ⟨t, hl⟩ : ∃ l, s.take (min s.length 1500) = l := ⟨_, rfl⟩
  have htl : t.length ≤ 1500 := by rw [← hl, List.length_take]; omega
  have q2 : ((min (cb.length : Int) 5000).toNat) = min cb.length 5000 := by omega
  obtain ⟨b, hb⟩ : ∃ l, cb.take (min cb.length 5000) = l := ⟨_, rfl⟩
  have C1 := Lib.hid (fun w => split7 t size w (by omega))
  have C2 := Lib.hid (fun w => rsplit7 t size w (by omega))
  obtain ⟨L, hL⟩ : ∃ L, (if serr t size = 0 then chunksOf t size.toNat else []) = L := ⟨_, rfl⟩
  obtain ⟨e, he⟩ : ∃ e, serr t size = e := ⟨_, rfl⟩
  have hLl : L.length ≤ 100000 := by
    rw [← hL]
    split
    · rename_i h0
      rw [chunksOf_len]
      unfold serr at h0
      split at h0
      · omega
      · have := splitN_le (len := t.length) (size := size.toNat) (by omega)
        omega
    · simp
  rw [hL, he] at C1 C2
  obtain ⟨tx, pe, P1, P2⟩ := put_both ⟨ci, cn, cd, b⟩ hcd
  have C5 := Lib.hid (fun w => get7 t w (by omega))
  have C6 := Lib.hid (fun w => rget7 t w (by omega))
  rw [rget_cget] at C6
  obtain ⟨⟨xi, xn, xd, xb⟩, ge, hg⟩ : ∃ x g, cget t = (x, g) := ⟨_, _, rfl⟩
  rw [hg] at C5 C6
  simp only at C5 C6
  unfold Chk.val at C5 C6 P1 P2 ⊢
  have P1 := Lib.hid P1
  have P2 := Lib.hid P2
  have HL := Lib.hid hLl
  have B0 := Blk.new w #[.int .i64 ci, .int .i64 cn, .int .u64 (cd : Nat), .string (S cb)] 38
  have G0 := below_all (o := .cells #[.int .i64 ci, .int .i64 cn, .int .u64 (cd : Nat), .string (S cb)] 38) (Below.refl w.heap.size w)
  have f0 := B0.frozen 3
  have HB0 := Lib.hid B0
  clear hL he hg hLl
  go_enter Try.func4, Try.ntmps4
  go_wp2_with fail
  refine (C1.out _).use ?_
  intro va w1 o1 b1
  have A1 := Lib.hid (chks_own o1)
  obtain ⟨aa, ac, rfl⟩ := own_form o1
  have X1 := Lib.hid ((Blk.new w #[.int .i64 ci, .int .i64 cn, .int .u64 (cd : Nat), .string (S b)] 38).below b1)
  have G1 := Lib.hid (below_any (Nat.le_refl _) (below_all (Below.refl w.heap.size w)) b1)
  clear o1 b1 B0 G0 f0 HB0 C1
  go_wp2_with fail
  refine (C2.out _).use ?_
  intro vb w2 o2 b2
  have D2 := Lib.hid (chks_own o2)
  obtain ⟨da, dc, rfl⟩ := own_form o2
  have A2 := Lib.hid (A1.out.below b2)
  have X2 := Lib.hid (X1.out.below b2)
  have G2 := Lib.hid (below_any (Nat.le_refl _) G1.out b2)
  clear o2 b2 A1 X1 G1 C2
  obtain ⟨k0, x0, x1, x2, x3⟩ := X2.out.c4
  go_wp2_with fail
  refine (P1.out _).use ?_
  intro w3 b3
  have A3 := Lib.hid (A2.out.below b3)
  have D3 := Lib.hid (D2.out.below b3)
  have X3 := Lib.hid (X2.out.below b3)
  have G3 := Lib.hid (below_any (Nat.le_refl _) G2.out b3)
  clear b3 A2 D2 X2 G2 P1 k0 x0 x1 x2 x3
  obtain ⟨k0, x0, x1, x2, x3⟩ := X3.out.c4
  go_wp2_with fail
  refine (P2.out _).use ?_
  intro w4 b4
  have A4 := Lib.hid (A3.out.below b4)
  have D4 := Lib.hid (D3.out.below b4)
  have G4 := Lib.hid (below_any (Nat.le_refl _) G3.out b4)
  clear b4 A3 D3 X3 G3 P2 k0 x0 x1 x2 x3
  go_wp2_with fail
  refine (C5.out _).use ?_
  intro w5 b5
  have A5 := Lib.hid ((A4.out.below b5).below (below_all (o := (.cells #[.int .i64 xi, .int .i64 xn, .int .u64 (xd : Nat), .string (S xb)] 38)) (Below.refl _ _)))
  have D5 := Lib.hid ((D4.out.below b5).below (below_all (o := (.cells #[.int .i64 xi, .int .i64 xn, .int .u64 (xd : Nat), .string (S xb)] 38)) (Below.refl _ _)))
  have G5 := Lib.hid (below_all (o := (.cells #[.int .i64 xi, .int .i64 xn, .int .u64 (xd : Nat), .string (S xb)] 38)) (below_any (Nat.le_refl _) G4.out b5))
  have E5 := Lib.hid (Blk.new w5 #[.int .i64 xi, .int .i64 xn, .int .u64 (xd : Nat), .string (S xb)] 38)
  clear b5 A4 D4 G4 C5
  go_wp2_with fail
  generalize w5.alloc (.cells #[.int .i64 xi, .int .i64 xn, .int .u64 (xd : Nat), .string (S xb)] 38) = W5 at A5 D5 G5 E5 ⊢
  generalize w5.heap.size = E at E5 ⊢
  refine (C6.out _).use ?_
  intro w6 b6
  have A6 := Lib.hid ((A5.out.below b6).below (below_all (o := (.cells #[.int .i64 xi, .int .i64 xn, .int .u64 (xd : Nat), .string (S xb)] 38)) (Below.refl _ _)))
  have D6 := Lib.hid ((D5.out.below b6).below (below_all (o := (.cells #[.int .i64 xi, .int .i64 xn, .int .u64 (xd : Nat), .string (S xb)] 38)) (Below.refl _ _)))
  have G6 := Lib.hid (below_all (o := (.cells #[.int .i64 xi, .int .i64 xn, .int .u64 (xd : Nat), .string (S xb)] 38)) (below_any (Nat.le_refl _) G5.out b6))
  have E6 := Lib.hid ((E5.out.below b6).alloc (.cells #[.int .i64 xi, .int .i64 xn, .int .u64 (xd : Nat), .string (S xb)] 38))
  have F6 := Lib.hid (Blk.new w6 #[.int .i64 xi, .int .i64 xn, .int .u64 (xd : Nat), .string (S xb)] 38)
  clear b6 A5 D5 G5 E5 C6
  go_wp2_with fail
  generalize w6.alloc (.cells #[.int .i64 xi, .int .i64 xn, .int .u64 (xd : Nat), .string (S xb)] 38) = W6 at A6 D6 G6 E6 F6 ⊢
  generalize w6.heap.size = F at F6 ⊢
  refine ((csame7 _ _ L L W6 A6.out D6.out HL.out HL.out).cast (v' := .bool true) (by simp)).use ?_
  intro w7 b7
  have E7 := E6.out.below b7
  have F7 := F6.out.below b7
  have G7 := Lib.hid (below_any (Nat.le_refl _) G6.out b7)
  clear b7 A6 D6 G6 E6 F6
  obtain ⟨k0, x0, x1, x2, x3⟩ := E7.c4
  obtain ⟨k1, y0, y1, y2, y3⟩ := F7.c4
  clear E7 F7
  have eqc := fun w => eql_chk7 xi xn xd xb w
  go_wp2_with fail
  refine (fixed7 _).use ?_
  intro w8 b8
  go_wp2_with fail
  exact finB hR (below_any (Nat.le_refl _) G7.out b8) rfl
end Go.Proofs.Ytohplhahghilaaa.chunksSplits
