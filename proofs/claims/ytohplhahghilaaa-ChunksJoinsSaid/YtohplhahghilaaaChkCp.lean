import Derived.Test.YtohplhahghilaaaChkY
import Derived.Maps.Ext
import Derived.Maps.StringElems
/-
  Layer 7: a gatherer copied: the contract.
-/
set_option linter.unusedVariables false
set_option linter.unusedSimpArgs false
namespace Go.Proofs.Ytohplhahghilaaa
open Go.RowKit Go.Maps Go.ChangeMaps Go.MapKept
attribute [local go_sem] ByteArray.extract_mk ByteArray.mk_append_mk

theorem own_drop {w W : World} {k : TypeId} {R : Value → Option (DataW Unit × List MemPlace)} {b n : Nat} {D : DataW Unit} (h : w.ownsMap Try.prog k R b n D) (hb : Below w.heap.size w W) : W.ownsMap Try.prog k R b n D := h.kept (grown_of_below hb) (by simp)

set_option maxHeartbeats 4000000 in
set_option maxRecDepth 100000 in
theorem copy7 (p m d : Nat) (n : Int) (L : List (Int × List UInt8)) (w : World) (h : JAt w p m d n L) (hL : L.length < maxLen) :
    Calls Try.prog 32 #[.pointer (some ⟨p, 0, none⟩)] w fun x w' => ∃ p' m', x = .returned (.pointer (some ⟨p', 0, none⟩)) ∧ JAt w' p' m' d n L ∧ Below w.heap.size w w' ∧ w.heap.size ≤ p' ∧ w.heap.size ≤ m' := by
  obtain ⟨D, hD, hRep⟩ := h.2
  obtain ⟨j0, y0, y1, y2⟩ := h.1.c3
  have hB := h.1
  have hml := h.2.lt
  clear h
  go_enter Try.func32, Try.ntmps32
  go_wp2_with fail
  refine (new7 d _).mono ?_
  rintro e w1 ⟨p', m', rfl, hJ, hb, hp', hm'⟩
  have hB1 := hB.below hb
  have hD1 := own_drop hD hb
  have hJ1 := hJ.1
  obtain ⟨D', hD', hR'⟩ := hJ.2
  have hne := hJ.ne
  have hmm : m ≠ p' := by omega
  obtain ⟨k0, z0, z1, z2⟩ := hB1.c3
  obtain ⟨k1, u0, u1, u2⟩ := hJ1.c3
  have fz : ∀ i, w1.frozen? ⟨p', i, none⟩ = false := fun i => Blk.frozen hJ1 i
  have hE : D' = .map [] := by
    obtain ⟨es, rfl⟩ := hD'.isMap
    have := hR'.2.1
    simp only [size, List.length_nil, List.length_eq_zero_iff] at this
    rw [this]
  subst hE
  have hB2 := hB1.setOther (a := ⟨p', 1, none⟩) (show p ≠ p' by omega) (.int .i64 n)
  have hJ2 := hJ1.set 1 (.int .i64 n)
  have hD2 := hD1.setCell (a := ⟨p', 1, none⟩) hmm (.int .i64 n)
  have hE2 := hD'.setCell (a := ⟨p', 1, none⟩) (Ne.symm hne) (.int .i64 n)
  have hG2 := hb.setCell (p := ⟨p', 1, none⟩) hp' (.int .i64 n)
  have hHB := Lib.hid hB2
  have HR := Lib.hid hRep
  clear hJ y0 y1 y2 hB hB1 hD hD1 hJ1 hD' hR' hb hB2
  go_wp2_with (at_range; refine wpList_range_own _ rfl _ 112 rfl 3 9 keyI7 Try.underlying112 (plainElem Try.prog 9) m L.length _ rfl hD2 ?_; intro w0 hrg0 hg0 hs0)
  first | go_frame | skip
  clear k0 z0 z1 z2 k1 u0 u1 u2 fz
  generalize w1.setCell ⟨p', 1, none⟩ (.int .i64 n) = w2 at *
  have hsz := hG2.size
  have hlt0 := hrg0.lt
  have hm2 := hD2.lt
  have hm3 := hE2.lt
  have hm4 := hJ2.lt
  have hsd : size D = L.length := HR.out.2.1
  go_loopw [4, 5] (fun (v4 v5 : Value) (W : World) => ∃ (left : Lit → Bool) (cnt n' : Nat) (Dout : DataW Unit), W.ranges Try.prog 3 (plainElem Try.prog 9) m w2.heap.size L.length D left cnt ∧ Blk W p' #[.int .u64 (d : Nat), .int .i64 n, .map (some m')] 114 ∧ W.ownsMap Try.prog 3 (plainElem Try.prog 9) m' n' Dout ∧ Agree Dout D left ∧ n' + cnt ≤ L.length ∧ Below w.heap.size w W) (fun (v4 v5 : Value) (W : World) => W.rangeLeft m w2.heap.size)
  case atStart => exact ⟨_, _, 0, .map [], hrg0, hJ2.grown hg0 (by simp), hE2.kept hg0 (by simp), agree_start D, by omega, hG2.trans ⟨hg0.os, hg0.tape, hg0.output, hg0.size, fun i hi => hg0.block i (Nat.lt_of_lt_of_le hi hsz) (by simp)⟩⟩
  case round =>
    obtain ⟨left, cnt, n', Dout, hrg, hbp, hout, hA, hcn, hgw⟩ := hrel
    obtain ⟨k2, x0, x1, x2⟩ := hbp.c3
    go_wp2_with (first | (at_next; refine wpList_next_ranges_is _ rfl _ rfl 3 9 .i64 keyI7 Try.underlying3 Try.underlying9 m w2.heap.size L.length _ _ _ rfl hrg ?_ ?_))
    · intro hc0 hl0
      go_wp2_with fail
      go_ret
      have e := agree_end hA hl0 (hout.canon keyI7) (hD2.canon keyI7)
      subst e
      refine ⟨p', m', rfl, ⟨hbp, _, own_tight hout |>.mono (Nat.le_of_eq hsd), HR.out⟩, hgw, hp', hm'⟩
    · intro x c w3 cnt1 hwx hwc hlx hat hrg1 hlt hg1 hs1 hen
      have hout1 := hout.kept hg1 (fun e => by have := Option.some.inj e; omega)
      have hbp1 := hbp.grown hg1 (fun e => by have := Option.some.inj e; omega)
      obtain ⟨k3, t0, t1, t2⟩ := hbp1.c3
      go_wp2_with (first | (at_mapUpdate; refine wpList_mapUpdate_own _ rfl _ _ _ 112 rfl 3 9 keyI7 Try.underlying112 (plainElem Try.prog 9) m' _ _ rfl hout1 (by omega) _ _ (.int .i64 x) rfl rfl (keyOf_int_mk Try.underlying3 hwx) (.lit (.string c.data.toList)) [] (plainElem_string Try.underlying9 hwc) ?_; intro w4 hout2 hg2; go_frame))
      have hrg2 := hrg1.kept hg2 (fun e => by have := Option.some.inj e; omega) (fun e => by have := Option.some.inj e; omega)
      go_roundw
      case rel => exact ⟨_, cnt1, n' + 1, _, hrg2, hbp1.grown hg2 (fun e => hne (Option.some.inj e)), hout2, agree_step hA hout.isMap (keyI7.key (keyOf_int_mk Try.underlying3 hwx)) hat, by omega, below_own (below_own hgw (by omega) hgw.size hg1) hm' (by rw [hs1]; exact hgw.size) hg2⟩
      case measure => rw [hrg2.left_eq, hrg.left_eq]; exact hlt
end Go.Proofs.Ytohplhahghilaaa
