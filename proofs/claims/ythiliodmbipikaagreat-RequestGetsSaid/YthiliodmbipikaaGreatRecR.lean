/-
  Layer 3's reference: the batch at a place: contract.
-/
import Derived.Test.YthiliodmbipikaaGreatRecL
import Derived.Test.YthiliodmbipikaaGreatRecI
import Derived.Test.YthiliodmbipikaaGreatRecP1
import Derived.OwnWalk
set_option linter.unusedVariables false
set_option linter.unusedSimpArgs false
namespace Go.Proofs.YthiliodmbipikaaGreat
open Go.RowKit
attribute [local go_sem] ByteArray.extract_mk ByteArray.mk_append_mk

theorem u64Info : (Tryz.prog.info? 64).map (fun i => (i.zero, i.size, i.bytes)) = some (some (.int .u64 0), 1, 8) := by kernel_rfl
theorem blk_ne {w : World} {b c : Nat} {cs ds : Array Value} {T E : TypeId} (h : Blk w b cs T) (k : Blk w c ds E) (hT : T ≠ E) : b ≠ c := by
  rintro rfl
  unfold Blk at h k
  rw [h] at k
  simp only [Option.some.injEq, Obj.cells.injEq] at k
  exact hT k.2.1
def u64s (l : List Nat) : List Value := l.map fun n => Value.int .u64 (n : Nat)

/-- The reference's blocks in its second loop. -/
structure QInv (w0 : World) (g ob : Nat) (cur : Array Value) (x0 x1 x2 : Nat) (v : Value) (l : List Rec) (W : World) : Prop where
  nb : Blk W g cur 64
  bt : Blk W ob #[.int .i64 x0, .int .i64 x1, .int .i64 x2, v] 26
  rs : Blk W w0.heap.size #[.int .i64 0, .int .i64 0, .int .i64 0, .slice none 0 0] 26
  own : W.ownsRow w0.heap.size 35 4 v l.length (l.flatMap Rec.cells)
  below : Below w0.heap.size w0 W
  h1 : w0.heap.size < ob
section
variable {w0 W W' : World} {g ob : Nat} {cur : Array Value} {x0 x1 x2 : Nat} {v v' : Value} {l l' : List Rec}
theorem QInv.alloc (h : QInv w0 g ob cur x0 x1 x2 v l W) (o : Obj) : QInv w0 g ob cur x0 x1 x2 v l (W.alloc o) :=
  ⟨h.nb.alloc o, h.bt.alloc o, h.rs.alloc o, h.own.alloc o, h.below.alloc h.below.size o, h.h1⟩
theorem QInv.bel (h : QInv w0 g ob cur x0 x1 x2 v l W) (hb : Below W.heap.size W W') : QInv w0 g ob cur x0 x1 x2 v l W' :=
  ⟨h.nb.below hb, h.bt.below hb, h.rs.below hb, h.own.kept (row := none) ⟨hb.os, hb.tape, hb.output, hb.size, fun i hi _ => hb.block i hi⟩ (by cases hv : v.ownBlock <;> simp), h.below.trans (hb.mono h.below.size), h.h1⟩
theorem QInv.row (h : QInv w0 g ob cur x0 x1 x2 v l W) (hg : W.grownBy W' v.ownBlock) : Blk W' ob #[.int .i64 x0, .int .i64 x1, .int .i64 x2, v] 26 :=
  h.bt.grown hg (own_ne h.own h.bt (by decide))
theorem QInv.app (h : QInv w0 g ob cur x0 x1 x2 v l W) (hg : W.grownBy W' v.ownBlock) (ho : W'.ownsRow w0.heap.size 35 4 v' l'.length (l'.flatMap Rec.cells)) :
    QInv w0 g ob cur x0 x1 x2 v' l' (W'.setCell ⟨ob, 3, none⟩ v') := by
  have n2 := own_ne h.own h.nb (by decide)
  have n3 := own_ne h.own h.bt (by decide)
  have n4 := own_ne h.own h.rs (by decide)
  have k1 := h.h1
  have k2 := blk_ne h.nb h.bt (by decide)
  have B1 : Below w0.heap.size w0 W' := ⟨hg.os.trans h.below.os, hg.tape.trans h.below.tape, hg.output.trans h.below.output, Nat.le_trans h.below.size hg.size, fun k hk => (hg.block k (Nat.lt_of_lt_of_le hk h.below.size) (fun e1 => by have := (h.own.lt k e1.symm).1; omega)).trans (h.below.block k hk)⟩
  have hbt := h.bt.grown hg n3
  refine ⟨(h.nb.grown hg n2).setOther (by simpa using k2) _, hbt.set 3 v', (h.rs.grown hg n4).setOther (by simp; omega) _, ?_, B1.setCell (p := ⟨ob, 3, none⟩) (by simp; omega) _, h.h1⟩
  exact ho.kept (row := some ob) (grown_set (grown_refl _ _) 3 v') (.inr (Ne.symm (own_ne ho hbt (by decide))))
end

set_option maxHeartbeats 4000000 in
set_option maxRecDepth 100000 in
theorem rparse3_any (s : List UInt8) (at_ : Int) (w : World) (hl : s.length ≤ maxLen) :
    ParseCall 26 #[.string (S s), .int .i64 at_] w (mparse s at_) := by
  refine ParseCall.intro fun R hR => ?_
  obtain ⟨i0, hi, hz0, hz1, hz2⟩ := info_parts recInfo
  obtain ⟨j0, gi, gz0, gz1, gz2⟩ := info_parts u64Info
  have cN := fun a w => rget_any s a w hl
  have cR := fun a w => rget3_any s a w hl
  have CN := Lib.hid cN
  have CR := Lib.hid cR
  clear cN cR
  go_enter Tryz.func26, Tryz.ntmps26
  go_wp2_with fail
  go_loopw [7, 8, 9, 10, 11, 12] (fun (v7 v8 v9 v10 v11 v12 : Value) (W : World) => ∃ (k : Nat) (l : List Nat) (to : Int), v9 = .int .i64 (k : Int) ∧ v8 = .int .i64 to ∧ k ≤ 4 ∧ Hid (NRel s at_ k to l) ∧ W.ownsRow w.heap.size 64 1 v7 l.length (u64s l) ∧ Blk W w.heap.size #[.int .i64 0, .int .i64 0, .int .i64 0, .slice none 0 0] 26 ∧ Below w.heap.size w W) (fun (v7 v8 v9 v10 v11 v12 : Value) (W : World) => (4 - intOf v9).toNat)
  case atStart =>
    exact ⟨0, [], at_, rfl, rfl, by omega, NRel.start _ _, by have h := World.ownsRow_made (base := w.heap.size) (size := 1) (e := 64) (w.alloc (.cells #[.int .i64 0, .int .i64 0, .int .i64 0, .slice none 0 0] 26)) #[] 0 (by simp) (by decide) rfl; rw [World.size_alloc] at h; exact h, (Blk.new w _ _).alloc _, below_all (below_all (Below.refl _ _))⟩
  case round =>
    obtain ⟨k, l, to, rfl, rfl, hk, hrl, hown, hrs, hnx⟩ := hrel
    have hsz := hnx.size
    obtain ⟨t0, t1, t2, t3, t4⟩ := hrs.c4
    have f1 := fun i => Blk.frozen hrs i
    by_cases hk4 : k < 4
    · obtain ⟨n, to', e, hv⟩ : ∃ n t e, vget s to = (n, t, e) := ⟨_, _, _, rfl⟩
      have hbd := (vget_bd s to).1
      rw [hv] at hbd
      have cN := CN.out to
      rw [hv] at cN
      simp only at cN hbd
      have hll := hrl.out.1
      have hl4 : l.length < 4 := by omega
      have HN := Lib.hid cN
      clear cN
      by_cases he : e = 0
      · subst he
        have hst := Lib.hid (hrl.out.step hk4 hv hbd)
        have HLL := Lib.hid hll
        clear hv hll
        go_wp2_with (first | (go_at_call 24; refine (HN.out _).use ?_) | (at_builtin; refine wpList_append_own _ rfl _ _ 113 rfl w.heap.size 64 j0 (.int .u64 0) 1 8 Tryz.underlying113 gi gz0 gz1 gz2 rfl (by decide) _ _ _ rfl (hown.alloc _) ⟨wr.heap.size, 0, none⟩ 1 1 [.int .u64 (n : Nat)] rfl rfl (cell_one_new _ _ _) (by simp [Value.oneCell']) (by unfold maxLen; omega) (by omega) (by simp; omega) ?_; intro v' w1 hown' hgrow _))
        have B1 : Below w.heap.size w w1 := (below_all hnx).grown hgrow (by simp; omega) (fun k hk => (hown.lt k hk).1)
        have hrs1 := (hrs.alloc _).grown hgrow (own_ne hown hrs (by decide))
        go_roundw
        case rel => exact ⟨k + 1, l ++ [n], to', by go_num, rfl, by omega, hst, by simpa [u64s] using hown', hrs1, B1⟩
        case measure => simp [intOf]; omega
      · have hme := hrl.out.fail hk4 hv he
        rw [hme] at hR
        have q1 : ((e : Int) == 0) = false := by simpa using he
        have q2 : ((e : Int) != 0) = true := by simpa using he
        clear hv hll hme he
        go_wp2_with (go_at_call 24; refine (HN.out _).use ?_)
        have A4 := (((hrs.set 0 (.int .i64 0)).set 1 (.int .i64 0)).set 2 (.int .i64 0)).set 3 (.slice none 0 0)
        refine bodyPost_ret (results_cell3 rfl _ _ w.heap.size 26 #[.int .i64 0, .int .i64 0, .int .i64 0, .slice none 0 0] (0, 0) _ _ _ rfl rfl rfl A4 Tryz.underlying26 rfl (by kernel_rfl)) rfl ?_
        exact hR.out _ _ (World.ownsRow_nil _ _ _ _) ((((hnx.setCell (p := ⟨w.heap.size, 0, none⟩) (Nat.le_refl _) _).setCell (p := ⟨w.heap.size, 1, none⟩) (Nat.le_refl _) _).setCell (p := ⟨w.heap.size, 2, none⟩) (Nat.le_refl _) _).setCell (p := ⟨w.heap.size, 3, none⟩) (Nat.le_refl _) _)
    · have hk6 : k = 4 := by omega
      have hk5 : (k : Int) = 4 := by omega
      rw [hk6] at hrl
      have hll := hrl.out.1
      match l, hll with
      | [y0, y1, y2, y3], _ =>
        have hdn := NRel.done hrl.out
        have hlt := hrl.out.2.1
        rw [hdn] at hR
        rcases id hown.2 with ⟨_, h0⟩ | ⟨g, cap, cur, rfl, hbg, hg, _⟩
        · simp at h0
        have hcl := hown.cells (g := g) rfl
        have hadd : ∀ j, (⟨g, 0, none⟩ : Addr).add j = ⟨g, j, none⟩ := fun j => by unfold Addr.add; split <;> simp_all
        have e0 := hcl 0 (.int .u64 (y0 : Nat)) rfl
        have e1 := hcl 1 (.int .u64 (y1 : Nat)) rfl
        have e2 := hcl 2 (.int .u64 (y2 : Nat)) rfl
        have e3 := hcl 3 (.int .u64 (y3 : Nat)) rfl
        rw [hadd] at e0 e1 e2 e3
        have hgb : Blk wr g cur 64 := hg
        have lg := hgb.lt
        have y3b : y3 < 18446744073709551616 := hlt y3 (by simp)
        clear hcl hadd hdn hk6 hk4 hlt
        simp only [List.length_cons, List.length_nil, Nat.reduceAdd] at *
        by_cases b0 : (1099511627776 : Int) < y0
        · rw [if_pos (.inl (by omega))] at hR
          go_wp2_with fail
          have A4 := (((hrs.set 0 (.int .i64 0)).set 1 (.int .i64 0)).set 2 (.int .i64 0)).set 3 (.slice none 0 0)
          refine bodyPost_ret (results_cell3 rfl _ _ w.heap.size 26 #[.int .i64 0, .int .i64 0, .int .i64 0, .slice none 0 0] (0, 0) _ _ _ rfl rfl rfl A4 Tryz.underlying26 rfl (by kernel_rfl)) rfl ?_
          exact hR.out _ _ (World.ownsRow_nil _ _ _ _) ((((hnx.setCell (p := ⟨w.heap.size, 0, none⟩) (Nat.le_refl _) _).setCell (p := ⟨w.heap.size, 1, none⟩) (Nat.le_refl _) _).setCell (p := ⟨w.heap.size, 2, none⟩) (Nat.le_refl _) _).setCell (p := ⟨w.heap.size, 3, none⟩) (Nat.le_refl _) _)
        by_cases b1 : (1099511627776 : Int) < y1
        · rw [if_pos (.inr (.inl (by omega)))] at hR
          go_wp2_with fail
          have A4 := (((hrs.set 0 (.int .i64 0)).set 1 (.int .i64 0)).set 2 (.int .i64 0)).set 3 (.slice none 0 0)
          refine bodyPost_ret (results_cell3 rfl _ _ w.heap.size 26 #[.int .i64 0, .int .i64 0, .int .i64 0, .slice none 0 0] (0, 0) _ _ _ rfl rfl rfl A4 Tryz.underlying26 rfl (by kernel_rfl)) rfl ?_
          exact hR.out _ _ (World.ownsRow_nil _ _ _ _) ((((hnx.setCell (p := ⟨w.heap.size, 0, none⟩) (Nat.le_refl _) _).setCell (p := ⟨w.heap.size, 1, none⟩) (Nat.le_refl _) _).setCell (p := ⟨w.heap.size, 2, none⟩) (Nat.le_refl _) _).setCell (p := ⟨w.heap.size, 3, none⟩) (Nat.le_refl _) _)
        by_cases b2 : (1099511627776 : Int) < y2
        · rw [if_pos (.inr (.inr (by omega)))] at hR
          go_wp2_with fail
          have A4 := (((hrs.set 0 (.int .i64 0)).set 1 (.int .i64 0)).set 2 (.int .i64 0)).set 3 (.slice none 0 0)
          refine bodyPost_ret (results_cell3 rfl _ _ w.heap.size 26 #[.int .i64 0, .int .i64 0, .int .i64 0, .slice none 0 0] (0, 0) _ _ _ rfl rfl rfl A4 Tryz.underlying26 rfl (by kernel_rfl)) rfl ?_
          exact hR.out _ _ (World.ownsRow_nil _ _ _ _) ((((hnx.setCell (p := ⟨w.heap.size, 0, none⟩) (Nat.le_refl _) _).setCell (p := ⟨w.heap.size, 1, none⟩) (Nat.le_refl _) _).setCell (p := ⟨w.heap.size, 2, none⟩) (Nat.le_refl _) _).setCell (p := ⟨w.heap.size, 3, none⟩) (Nat.le_refl _) _)
        rw [if_neg (by omega)] at hR
        by_cases b3 : y3 = 0
        · rw [if_pos b3] at hR
          have q : ((y3 : Int) == 0) = true := by simp [b3]
          clear b3
          go_wp2_with fail
          have A4 := (((hrs.set 0 (.int .i64 0)).set 1 (.int .i64 0)).set 2 (.int .i64 0)).set 3 (.slice none 0 0)
          refine bodyPost_ret (results_cell3 rfl _ _ w.heap.size 26 #[.int .i64 0, .int .i64 0, .int .i64 0, .slice none 0 0] (0, 0) _ _ _ rfl rfl rfl A4 Tryz.underlying26 rfl (by kernel_rfl)) rfl ?_
          exact hR.out _ _ (World.ownsRow_nil _ _ _ _) ((((hnx.setCell (p := ⟨w.heap.size, 0, none⟩) (Nat.le_refl _) _).setCell (p := ⟨w.heap.size, 1, none⟩) (Nat.le_refl _) _).setCell (p := ⟨w.heap.size, 2, none⟩) (Nat.le_refl _) _).setCell (p := ⟨w.heap.size, 3, none⟩) (Nat.le_refl _) _)
        rw [if_neg b3] at hR
        have q : ((y3 : Int) == 0) = false := by simp [b3]
        by_cases b4 : (16 : Int) < y3
        · rw [if_pos (by omega)] at hR
          clear b3
          go_wp2_with fail
          have A4 := (((hrs.set 0 (.int .i64 0)).set 1 (.int .i64 0)).set 2 (.int .i64 0)).set 3 (.slice none 0 0)
          refine bodyPost_ret (results_cell3 rfl _ _ w.heap.size 26 #[.int .i64 0, .int .i64 0, .int .i64 0, .slice none 0 0] (0, 0) _ _ _ rfl rfl rfl A4 Tryz.underlying26 rfl (by kernel_rfl)) rfl ?_
          exact hR.out _ _ (World.ownsRow_nil _ _ _ _) ((((hnx.setCell (p := ⟨w.heap.size, 0, none⟩) (Nat.le_refl _) _).setCell (p := ⟨w.heap.size, 1, none⟩) (Nat.le_refl _) _).setCell (p := ⟨w.heap.size, 2, none⟩) (Nat.le_refl _) _).setCell (p := ⟨w.heap.size, 3, none⟩) (Nat.le_refl _) _)
        rw [if_neg (by omega)] at hR
        have w0 : IntKind.i64.wrap (y0 : Int) = y0 := by rw [IntKind.wrap_i64]; omega
        have w1 : IntKind.i64.wrap (y1 : Int) = y1 := by rw [IntKind.wrap_i64]; omega
        have w2 : IntKind.i64.wrap (y2 : Int) = y2 := by rw [IntKind.wrap_i64]; omega
        have w3 : IntKind.i64.wrap (y3 : Int) = y3 := by rw [IntKind.wrap_i64]; omega
        clear b3
        go_wp2_with fail
        clear hk5
        have n1 : g ≠ wr.heap.size := by omega
        have m0 := World.new_ne wr ⟨g, 0, none⟩ e0
        have m1 := World.new_ne wr ⟨g, 1, none⟩ e1
        have m2 := World.new_ne wr ⟨g, 2, none⟩ e2
        have c3 : cur[3]? = some (.int .u64 (y3 : Nat)) := (hgb.cell 3).symm.trans e3
        have Q0 : QInv w g wr.heap.size cur y0 y1 y2 (.slice none 0 0) [] (wr.alloc (.cells #[.int .i64 y0, .int .i64 y1, .int .i64 y2, .slice none 0 0] 26)).drew :=
          ⟨hgb.alloc _, Blk.new wr _ _, hrs.alloc _, World.ownsRow_nil _ _ _ _, (below_all hnx).drew, t0⟩
        have C3 := Lib.hid c3
        clear c3
        go_region_held3 (fun w' => w'.cell? ⟨g, 0, none⟩ = some (.int .u64 (y0 : Nat)) ∧ w'.cell? ⟨g, 1, none⟩ = some (.int .u64 (y1 : Nat)) ∧ w'.cell? ⟨g, 2, none⟩ = some (.int .u64 (y2 : Nat))) (go_keep) (fail)
        go_wp2_with fail
        obtain ⟨ob, hob⟩ : ∃ ob, ob = wr.heap.size := ⟨_, rfl⟩
        have G0 := Lib.hid (GRel.start s y3 to)
        clear m0 m1 m2 e0 e1 e2 e3 t0 t1 t2 t3 t4 f1 hown hgb lg hg
        rw [← hob] at Q0 n1 ⊢
        clear hob
        go_loopw [8, 14, 15, 16, 17] (fun (v8 v14 v15 v16 v17 : Value) (W : World) => ∃ (j : Nat) (l : List Rec) (v : Value) (a : Int), v14 = .int .i64 (j : Int) ∧ v8 = .int .i64 a ∧ j ≤ y3 ∧ Hid (GRel s y3 to j l a) ∧ QInv w g ob cur y0 y1 y2 v l W) (fun (v8 v14 v15 v16 v17 : Value) (W : World) => (y3 - intOf v14).toNat)
        case atStart => exact ⟨0, [], _, to, rfl, rfl, by omega, G0, Q0⟩
        case round =>
          obtain ⟨j, l, v, a, rfl, rfl, hj, hgr, hQ⟩ := hrel
          have z0 := hQ.h1
          have z1 := hQ.below.size
          have e3 : wr.cell? ⟨g, 3, none⟩ = some (.int .u64 (y3 : Nat)) := (hQ.nb.cell 3).trans C3.out
          obtain ⟨k2, b0', b1', b2', b3'⟩ := hQ.bt.c4
          have lg := hQ.nb.lt
          by_cases hjy : j < y3
          · obtain ⟨⟨r, a2, e⟩, hm⟩ : ∃ m, mget s a = m := ⟨_, rfl⟩
            have cR := CR.out a
            rw [hm] at cR
            unfold mgetV at cR
            simp only at cR
            have HCR := Lib.hid cR
            clear cR
            by_cases he : e = 0
            · subst he
              have hst := Lib.hid (hgr.out.step hjy hm)
              have hl16 : l.length + 1 ≤ 16 := by have := hgr.out.1; omega
              clear hm
              go_wp2_with fail
              refine (HCR.out _).use ?_
              intro w2 hb2
              have Q2 := (hQ.bel hb2).alloc (.cells #[.bool r.hk, .string (S r.key), .bool r.tb, .string (S r.val)] 35)
              have hz2' : wr.heap.size ≤ w2.heap.size := hb2.size
              have Q3 := Lib.hid Q2
              obtain ⟨kk2, bb0, bb1, bb2, bb3⟩ := Q2.bt.c4
              have hk2 : ob < w2.heap.size := Nat.lt_of_lt_of_le k2 hb2.size
              obtain ⟨_, p0, p1, p2, p3⟩ := (hQ.bt.below hb2).c4
              clear Q2 bb0 bb1 bb2 bb3 kk2
              go_wp2_with (at_builtin; refine wpList_append_own _ rfl _ _ 24 rfl w.heap.size 35 i0 _ 4 48 Tryz.underlying24 hi hz0 hz1 hz2 rfl (by decide) _ _ _ rfl (Q3.out.own.alloc _) ⟨w2.heap.size + 1, 0, none⟩ 1 1 r.cells rfl rfl ?c1 (by simp [Value.oneCell', Rec.cells]) (by unfold maxLen; omega) (by omega) (by simp; omega) ?_)
              case c1 =>
                have h := World.news_of_block (cs := r.cells.toArray) (t := 35) (fr := (0, 0)) (heap_alloc_new (w2.alloc (.cells #[.bool r.hk, .string (S r.key), .bool r.tb, .string (S r.val)] 35)) _)
                rw [World.size_alloc] at h
                exact h
              intro v' w3 hown3 hgrow3 _
              obtain ⟨gg, cap', rfl, _, _⟩ := hown3.form (by omega)
              have bb4 := (Q3.out.alloc _).row hgrow3
              obtain ⟨kk4, dd0, dd1, dd2, dd3⟩ := bb4.c4
              have ff4 := fun i => Blk.frozen bb4 i
              go_wp2_with fail
              go_roundw
              case rel => exact ⟨j + 1, l ++ [r], _, a2, by go_num, rfl, by omega, hst, (Q3.out.alloc _).app hgrow3 (by rw [List.flatMap_append, List.length_append]; simpa using hown3)⟩
              case measure => simp [intOf]; omega
            · have hgf := hgr.out.fail hjy hm he
              rw [hgf, if_pos he] at hR
              have q1 : ((e : Int) == 0) = false := by simpa using he
              have q2 : ((e : Int) != 0) = true := by simpa using he
              clear hgf he hm
              go_wp2_with fail
              refine (HCR.out _).use ?_
              intro w2 hb2
              have Q2 := (hQ.bel hb2).alloc (.cells #[.bool r.hk, .string (S r.key), .bool r.tb, .string (S r.val)] 35)
              obtain ⟨t0, t1, t2, t3, t4⟩ := (hQ.bel hb2).rs.c4
              have f1 := fun i => Blk.frozen (hQ.bel hb2).rs i
              have Q3 := Lib.hid Q2
              clear Q2
              go_wp2_with fail
              have A4 := ((((hQ.bel hb2).rs.set 0 (.int .i64 0)).set 1 (.int .i64 0)).set 2 (.int .i64 0)).set 3 (.slice none 0 0)
              refine bodyPost_ret (results_cell3 rfl _ _ w.heap.size 26 #[.int .i64 0, .int .i64 0, .int .i64 0, .slice none 0 0] (0, 0) _ _ _ rfl rfl rfl (A4.alloc _) Tryz.underlying26 rfl (by kernel_rfl)) rfl ?_
              exact hR.out _ _ (World.ownsRow_nil _ _ _ _) (below_all (((((hQ.bel hb2).below.setCell (p := ⟨w.heap.size, 0, none⟩) (Nat.le_refl _) _).setCell (p := ⟨w.heap.size, 1, none⟩) (Nat.le_refl _) _).setCell (p := ⟨w.heap.size, 2, none⟩) (Nat.le_refl _) _).setCell (p := ⟨w.heap.size, 3, none⟩) (Nat.le_refl _) _))
          · obtain rfl : j = y3 := by omega
            have hgs := hgr.out.stop
            rw [hgs] at hR
            simp only [ne_eq, not_true_eq_false, if_false] at hR
            have hrin := recs_own hQ.own
            obtain ⟨ao, cp, rfl⟩ := hrin.form
            obtain ⟨t0, t1, t2, t3, t4⟩ := hQ.rs.c4
            have f1 := fun i => Blk.frozen hQ.rs i
            have A4 := (((hQ.rs.set 0 (.int .i64 y0)).set 1 (.int .i64 y1)).set 2 (.int .i64 y2)).set 3 (.slice ao l.length cp)
            clear hgs
            go_wp2_with fail
            refine bodyPost_ret (results_cell3 rfl _ _ w.heap.size 26 #[.int .i64 y0, .int .i64 y1, .int .i64 y2, .slice ao l.length cp] (0, 0) _ _ _ rfl rfl rfl A4 Tryz.underlying26 rfl (by kernel_rfl)) rfl ?_
            refine hR.out _ _ ?_ ((((hQ.below.setCell (p := ⟨w.heap.size, 0, none⟩) (Nat.le_refl _) _).setCell (p := ⟨w.heap.size, 1, none⟩) (Nat.le_refl _) _).setCell (p := ⟨w.heap.size, 2, none⟩) (Nat.le_refl _) _).setCell (p := ⟨w.heap.size, 3, none⟩) (Nat.le_refl _) _)
            exact ((hQ.own.kept (row := some w.heap.size) (grown_set (grown_set (grown_set (grown_set (grown_refl _ _) _ _) _ _) _ _) _ _) (.inr (Ne.symm (own_ne hQ.own hQ.rs (by decide))))))
end Go.Proofs.YthiliodmbipikaaGreat
