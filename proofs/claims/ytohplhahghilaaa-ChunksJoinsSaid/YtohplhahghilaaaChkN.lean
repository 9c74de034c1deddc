import Derived.Test.YtohplhahghilaaaChkY
/-
  Layer 7: a chunk taken: contracts.
-/
set_option linter.unusedVariables false
set_option linter.unusedSimpArgs false
namespace Go.Proofs.Ytohplhahghilaaa
open Go.RowKit Go.Maps Go.ChangeMaps Go.MapKept
attribute [local go_sem] ByteArray.extract_mk ByteArray.mk_append_mk

set_option maxHeartbeats 2000000 in
set_option maxRecDepth 100000 in
theorem take7_again (p m d : Nat) (n : Int) (L : List (Int × List UInt8)) (c : Chk) (w : World) (h : JAt w p m d n L) (hL : L.length < maxLen) (hr : c.right = true) (hd : c.d = d) (hx : L ≠ [] ∧ c.n = n ∧ mfind L c.i = some c.b) :
    JCall 29 #[.pointer (some ⟨p, 0, none⟩), c.val] w p m d (.int .i64 0) c.n (mput L c.i c.b) := by
  refine JCall.intro fun R hR => ?_
  have cr := right7 c
  obtain ⟨i, cn, cd, b⟩ := c
  unfold Chk.val at cr ⊢
  rw [hr] at cr
  obtain ⟨t1, t2, t3, t4, _, hb6⟩ := Chk.right_iff.1 hr
  simp only at t1 t2 t3 t4 hd hb6 hx hR
  subst hd
  have q1 : ((cd : Int) != (cd : Int)) = false := by simp
  obtain ⟨hx1, rfl, hm⟩ := hx
  have q2 : ((0 : Int) < (L.length : Int)) = True := eq_true (by have := List.length_pos_iff.2 hx1; omega)
  have q3 : (0 < L.length) = True := eq_true (List.length_pos_iff.2 hx1)
  have q4 : (cn != cn) = false := by simp
  have q5 : (b != b) = false := by simp
  have q6 : (b == b) = true := by simp
  have hu : ∀ x, mfind L i = some x → x = b := by rw [hm]; simp [eq_comm]
  have hwf : (Lit.int .i64 i).wf = true := wf_i64 (by omega) (by omega)
  have B0 := Blk.new w #[.int .i64 i, .int .i64 cn, .int .u64 (cd : Nat), .string (S b)] 38
  have G0 := below_all (o := .cells #[.int .i64 i, .int .i64 cn, .int .u64 (cd : Nat), .string (S b)] 38) (Below.refl w.heap.size w)
  clear hr
  go_enter Try.func29, Try.ntmps29
  go_wp2_with fail
  refine (cr _).use ?_
  intro w1 b1
  have B1 := B0.below b1
  have G1 := below_any (Nat.le_refl _) G0 b1
  have J1 := h.below G1
  have hne := J1.ne
  clear B0 G0 b1 cr
  obtain ⟨k0, x0, x1, x2, x3⟩ := B1.c4
  obtain ⟨j0, y0, y1, y2⟩ := J1.1.c3
  have hlk := fun q => (show SMap (w1.drewN q) m L from J1.2).look_ok i hwf
  have hln := fun q ty => (show SMap (w1.drewN q) m L from J1.2).len ty
  have HF : Hid (Below w.heap.size w w1 ∧ JAt w1 p m cd cn L ∧ p ≠ m ∧ Blk w1 w.heap.size #[.int .i64 i, .int .i64 cn, .int .u64 (cd : Nat), .string (S b)] 38 ∧ i < 5000) := Lib.hid ⟨G1, J1, hne, B1, by omega⟩
  have HL := Lib.hid hL
  clear G1 J1 hne B1 t1 t2 t3 t4 h hL
  rw [hm] at hlk
  go_wp2_with fail
  go_quiet (fail)
  revert nq; intro nz
  go_wp2_with fail
  go_quiet (fail)
  go_wp2_with fail
  obtain ⟨G1, J1, hne, B1, hi5⟩ := HF.out
  have J0 : JAt ((w1.drewN nz).drewN nq) p m cd cn L := J1
  have B0 : Blk ((w1.drewN nz).drewN nq) w.heap.size #[.int .i64 i, .int .i64 cn, .int .u64 (cd : Nat), .string (S b)] 38 := B1
  have G0 : Below w.heap.size w ((w1.drewN nz).drewN nq) := belowN (belowN G1 _) _
  clear G1 J1 B1 HF k0 x0 x1 x2 x3 j0 y0 y1 y2 hlk hln
  generalize (w1.drewN nz).drewN nq = W0 at J0 B0 G0 ⊢
  have hbm : w.heap.size ≠ m := by intro e; rw [← e] at J0; obtain ⟨_, D, ⟨es, c, h, _⟩, _⟩ := J0; unfold Blk at B0; rw [h] at B0; simp at B0
  have hbp : w.heap.size ≠ p := by intro e; have h := J0.1; rw [← e] at h; unfold Blk at B0 h; rw [h] at B0; simp at B0
  have g1 : W0.grownBy (W0.setCell ⟨p, 1, none⟩ (.int .i64 cn)).drew (some p) := grown_drew (grown_set (grown_refl _ _) _ _)
  have J2 : SMap (W0.setCell ⟨p, 1, none⟩ (.int .i64 cn)).drew m L := J0.2.keptBy (Kept.ofGrown g1) (by simp; exact fun e => hne e.symm)
  have P2 : Blk (W0.setCell ⟨p, 1, none⟩ (.int .i64 cn)).drew p #[.int .u64 (cd : Nat), .int .i64 cn, .map (some m)] 114 := J0.1.set 1 (.int .i64 cn)
  have B2 : Blk (W0.setCell ⟨p, 1, none⟩ (.int .i64 cn)).drew w.heap.size #[.int .i64 i, .int .i64 cn, .int .u64 (cd : Nat), .string (S b)] 38 := B0.setOther (a := ⟨p, 1, none⟩) hbp _
  obtain ⟨u0, tt, fs1, l1, fs2, l2, e4, e5, e6⟩ := J2.entry i hwf b (by unfold maxLen; omega) HL.out hu
  obtain ⟨es0, c0, hes⟩ : ∃ es c, (W0.setCell ⟨p, 1, none⟩ (.int .i64 cn)).drew.heap[m]? = some (.map es c) := by obtain ⟨D, ⟨es, c, h, _⟩, _⟩ := J2; exact ⟨es, c, h⟩
  have hs1 := heap_setBlock_same hes (.map fs1 l1)
  have hs2 := heap_setBlock_same hs1 (.map fs2 l2)
  have e5 : (Instr.entryStore 112 (.map (some m)) (.int .i64 (tt : Int)) (.string (S b))).run Try.prog (setBlock (W0.setCell ⟨p, 1, none⟩ (.int .i64 cn)).drew m (.map fs1 l1)) = .ok () (setBlock (setBlock (W0.setCell ⟨p, 1, none⟩ (.int .i64 cn)).drew m (.map fs1 l1)) m (.map fs2 l2)) := e5 _ hs1
  have J9 : Hid (JAt (setBlock (setBlock (W0.setCell ⟨p, 1, none⟩ (.int .i64 cn)).drew m (.map fs1 l1)) m (.map fs2 l2)) p m cd cn (mput L i b)) := Lib.hid ⟨((heap_setBlock_other hs1 _ hne).trans (heap_setBlock_other hes _ hne)).trans P2, e6 _ hs2⟩
  have g2 := grown_block hes (.map fs1 l1)
  have g3 := grown_block hs1 (.map fs2 l2)
  have K9 : Hid (Kept [p, m] w (setBlock (setBlock (W0.setCell ⟨p, 1, none⟩ (.int .i64 cn)).drew m (.map fs1 l1)) m (.map fs2 l2))) := Lib.hid ((((Kept.ofBelow G0 [p, m]).trans (Kept.ofGrown g1) (by simp)).trans (Kept.ofGrown g2) (by simp)).trans (Kept.ofGrown g3) (by simp))
  have B3 : Blk (setBlock (W0.setCell ⟨p, 1, none⟩ (.int .i64 cn)).drew m (.map fs1 l1)) w.heap.size #[.int .i64 i, .int .i64 cn, .int .u64 (cd : Nat), .string (S b)] 38 := (heap_setBlock_other hes _ hbm).trans B2
  have v3 := B3.cell 3
  obtain ⟨k0, x0, x1, x2, x3⟩ := B0.c4
  obtain ⟨j0, y0, y1, y2⟩ := J0.1.c3
  have fz : ∀ i, W0.frozen? ⟨p, i, none⟩ = false := fun i => Blk.frozen J0.1 i
  simp only [List.getElem?_toArray, List.getElem?_cons_zero, List.getElem?_cons_succ] at v3
  clear hs1 hs2 hes P2 B2 B3 g1 g2 g3 J2 J0 B0 G0 e6 hu HL hi5
  go_region_with (fail)
  all_goals (go_wp2_with fail; exact hR.out _ J9.out K9.out)

end Go.Proofs.Ytohplhahghilaaa
