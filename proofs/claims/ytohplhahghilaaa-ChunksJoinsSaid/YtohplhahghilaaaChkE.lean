import Derived.Test.YtohplhahghilaaaChkX
import Derived.Test.YtohplhahghilaaaBld
import Derived.Test.YtohplhahghilaaaSeg1
/-
  Layer 7: a segment's bytes: the contract.
-/
set_option linter.unusedVariables false
set_option linter.unusedSimpArgs false
namespace Go.Proofs.Ytohplhahghilaaa
open Go.RowKit
attribute [local go_sem] ByteArray.extract_mk ByteArray.mk_append_mk

theorem lies7 : liesAt Try.prog Try.prog.depth 77 (2 / Try.prog.cellsOf 77) 0 77 1 = true := by kernel_rfl

theorem Blk.c5 {w : World} {b : Nat} {T : TypeId} {x0 x1 x2 x3 x4 : Value} (h : Blk w b #[x0, x1, x2, x3, x4] T) : b < w.heap.size ∧ w.cell? ⟨b, 0, none⟩ = some x0 ∧ w.cell? ⟨b, 1, none⟩ = some x1 ∧ w.cell? ⟨b, 2, none⟩ = some x2 ∧ w.cell? ⟨b, 3, none⟩ = some x3 ∧ w.cell? ⟨b, 4, none⟩ = some x4 :=
  ⟨h.lt, h.cell 0, h.cell 1, h.cell 2, h.cell 3, h.cell 4⟩
/-- What loads, as words. -/
theorem lerr_ok {base next : Int} {l : List Fnd} (h : lerr base next l = 0) : 0 ≤ base ∧ base ≤ 1099511627776 ∧ 0 ≤ next ∧ next ≤ 1099511627776 ∧ base ≤ next ∧ l.length ≤ 64 ∧ inOrder (base - 1) next l = true ∧ ∀ f ∈ l, f.r.ok = 0 := by
  unfold lerr at h
  split at h
  · omega
  · rename_i h1
    split at h
    · omega
    · rename_i h2
      have h3 : numB base = true ∧ numB next = true ∧ ¬ next < base ∧ ¬ 64 < l.length := by simpa [and_assoc] using h1
      obtain ⟨a, b, c, d⟩ := h3
      simp only [numB, Bool.and_eq_true, decide_eq_true_eq] at a b
      refine ⟨a.1, a.2, b.1, b.2, by omega, by omega, by simpa using h2, fun f hf => ?_⟩
      exact rchecks_ok.1 h f.r (List.mem_map_of_mem hf)
theorem order_at : ∀ (l : List Fnd) (base next : Int), inOrder (base - 1) next l = true → ∀ k, (h : k < l.length) → base ≤ leastOf base l k ∧ leastOf base l k ≤ l[k].off ∧ l[k].off < next
  | [], _, _, _, k, h => by simp at h
  | f :: l, base, next, ho, k, h => by
    simp only [inOrder, Bool.and_eq_true, decide_eq_true_eq] at ho
    obtain ⟨⟨h1, h2⟩, h3⟩ := ho
    cases k with
    | zero => simp [leastOf, leastEnd]; omega
    | succ k =>
      have ih := order_at l (f.off + 1) next (by rw [Int.add_sub_cancel]; exact h3) k (by simpa using h)
      have e : leastOf base (f :: l) (k + 1) = leastOf (f.off + 1) l k := rfl
      rw [e]
      simp only [List.getElem_cons_succ]
      omega
theorem ftext_le : ∀ (l : List Fnd) (least : Int), (∀ f ∈ l, f.r.ok = 0) → (ftext least l).length ≤ 2031 * l.length
  | [], _, _ => by simp [ftext]
  | f :: l, least, h => by
    have ih := ftext_le l (f.off + 1) (fun g hg => h g (by simp [hg]))
    have h1 := vput_le (f.off - least).toNat
    have h2 := rec_ok_text (h f (by simp))
    simp only [ftext, List.length_append, List.length_cons]
    omega

set_option maxHeartbeats 4000000 in
set_option maxRecDepth 100000 in
theorem text7_ok (base next : Int) (v : Value) (l : List Fnd) (w : World) (hv : FndsIn w v l) (hbd : ∀ f ∈ l, RecBd f.r) (hok : lerr base next l = 0) :
    RetB Try.prog 11 #[.agg #[.int .i64 base, .int .i64 next, v]] w (.tuple #[.string (S (stext base next l)), .int .i64 0]) := by
  refine RetB.intro fun R hR => ?_
  obtain ⟨b1, b2, n1, n2, bn, h64, hord, hall⟩ := lerr_ok hok
  have hordk := Lib.hid (order_at l base next hord)
  have cL : ∀ W : World, FndsIn W v l → LoadCall 36 #[.int .i64 base, .int .i64 next, v] W base next l := fun W hW => load5 base next v l W hW (by omega) hbd
  have cL2 := Lib.hid cL
  have hL : ∀ W : World, FndsIn W v l → Calls Try.prog 36 #[.int .i64 base, .int .i64 next, v] W fun x w' => ∃ p, x = .returned (.tuple #[.pointer (some ⟨p, 0, none⟩), .int .i64 0]) ∧ Below W.heap.size W w' := fun W hW => (cL2.out W hW).mono fun x w' hx => by
    rcases hx with ⟨_, p, bs, h1, _, h3, _⟩ | ⟨h1, _⟩
    · exact ⟨p, h1, h3⟩
    · exact absurd hok h1
  have HL := Lib.hid hL
  clear cL cL2 hL hok hord
  obtain ⟨base, rfl⟩ := Int.eq_ofNat_of_zero_le b1
  obtain ⟨next, rfl⟩ := Int.eq_ofNat_of_zero_le n1
  have hst : stext base next l = nbytes [base, next, l.length] ++ ftext base l := by simp [stext, nbytes]
  rw [hst] at hR
  clear hst
  obtain ⟨va, vc, hvf⟩ := hv.form
  subst hvf
  have HV := Lib.hid hv
  have HA := Lib.hid hall
  obtain ⟨ns, hns⟩ : ∃ ns : List Nat, [base, next, l.length] = ns := ⟨_, rfl⟩
  have hnl : ns.length = 3 := by rw [← hns]; rfl
  have hnb : ∀ n ∈ ns, n ≤ 1099511627776 := by rw [← hns]; simp; omega
  have harr : (#[.int .i64 base, .int .i64 next, .int .i64 l.length] : Array Value) = (ns.map fun n => Value.int .i64 (n : Nat)).toArray := by rw [← hns]; simp
  rw [hns] at hR
  have HN := Lib.hid hnl
  have HB := Lib.hid hnb
  have HR := Lib.hid harr
  clear hnl hnb harr hns hv hall hbd
  have B0 := Blk.new w #[.int .i64 base, .int .i64 next, .slice va l.length vc] 24
  have V0 := HV.out.alloc (.cells #[.int .i64 base, .int .i64 next, .slice va l.length vc] 24)
  go_enter Try.func11, Try.ntmps11
  go_wp2_with fail
  refine (HL.out _ V0).mono ?_
  rintro e w1 ⟨p, rfl, hb1⟩
  have B1 := B0.below hb1
  obtain ⟨hz1, x0, x1, x2⟩ := B1.c3
  have G1 : Below w.heap.size w w1 := below_any (Nat.le_refl _) (below_all (Below.refl _ _)) hb1
  clear hb1 V0 B0
  go_wp2_with fail
  go_loopw [8, 36] (fun (v7 v26 : Value) (wr : World) => ∃ k : Nat, k ≤ 3 ∧ v26 = .int .i64 (k : Int) ∧ Bld 77 w1.heap.size w1.heap.size (nbytes (ns.take k)) wr ∧ Blk wr (w1.heap.size + 1) (ns.map fun n => Value.int .i64 (n : Nat)).toArray 3 ∧ Below w1.heap.size w1 wr) (fun (v7 v26 : Value) (wr : World) => (3 - intOf v26).toNat)
  case atStart =>
    refine ⟨0, by omega, rfl, (Bld.fresh _ _ w1 (Nat.le_refl _)).alloc _, ?_, below_all (below_all (Below.refl _ _))⟩
    have h := Blk.new (w1.alloc (.cells #[.pointer none, .slice none 0 0] 77)) #[.int .i64 base, .int .i64 next, .int .i64 l.length] 3
    rw [World.size_alloc, HR.out] at h
    rw [HR.out]
    exact h
  case round =>
    obtain ⟨k, hk, rfl, hbl, hbk, hnx⟩ := hrel
    by_cases hk4 : k < 3
    · have hkn : k < ns.length := by rw [HN.out]; exact hk4
      have ck : wr.cell? ⟨w1.heap.size + 1, k, none⟩ = some (.int .i64 (ns[k] : Nat)) := by rw [hbk.cell k]; simp [hkn]
      have hn := HB.out _ (List.getElem_mem hkn)
      have hsn := nbytes_snoc hkn
      have hle := nbytes_le (ns.take k)
      have htl : (ns.take k).length ≤ 4 := by rw [List.length_take]; omega
      generalize ns[k] = n at *
      have q : IntKind.u64.wrap (n : Int) = n := by rw [IntKind.wrap_u64]; omega
      have cP := fun W => put_any n W (by omega)
      have hv := vput_le n
      have HS := Lib.hid hsn
      clear hsn
      go_wp2_with fail
      refine (cP _).use ?_
      intro w2 hb2
      go_wp2_with fail
      refine bwrite 77 (by decide) lies7 (vput n) (hbl.below hb2) (by omega) (Nat.le_trans hnx.size hb2.size) ?_
      intro w3 h3 hb3 hk3
      go_wp2_with fail
      go_roundw
      case rel => exact ⟨k + 1, by omega, by go_num, by rw [HS.out]; exact h3, (hbk.below hb2).kept hk3 (by omega) (by decide), (hnx.trans (hb2.mono hnx.size)).trans hb3⟩
      case measure => simp [intOf]; omega
    · have hk5 : (k : Int) = 3 := by omega
      rw [List.take_of_length_le (by rw [HN.out]; omega)] at hbl
      obtain ⟨hzr, y0, y1, y2⟩ := Blk.c3 (show Blk wr w.heap.size _ _ from B1.below hnx)
      have G2 : Below w.heap.size w wr := G1.trans (hnx.mono (Nat.le_of_lt hz1))
      have V2 := Lib.hid (HV.out.below G2)
      have hnl := nbytes_le ns
      rw [HN.out] at hnl
      clear hbk
      go_wp2_with fail
      clear hk5
      obtain ⟨wo, rfl⟩ : ∃ wo : World, wo = wr := ⟨_, rfl⟩
      have hzb := hnx.size
      clear y0 y1 y2 x0 x1 x2 V2 HL
      go_loopw [9, 11, 12, 13, 50] (fun (v9 v11 v12 v13 v50 : Value) (W : World) => ∃ j : Nat, j ≤ l.length ∧ v50 = .int .i64 (j : Int) ∧ v9 = .int .i64 (leastOf base l j) ∧ Bld 77 w1.heap.size w1.heap.size (nbytes ns ++ ftext base (l.take j)) W ∧ Below w1.heap.size wo W) (fun (v9 v11 v12 v13 v50 : Value) (W : World) => (l.length - intOf v50).toNat)
      case atStart => exact ⟨0, by omega, rfl, by rw [leastOf_zero], by simpa [ftext] using hbl, Below.refl _ _⟩
      case round =>
        obtain ⟨j, hj, rfl, rfl, hbl2, hn2⟩ := hrel
        have hsz2 := hn2.size
        by_cases hjl : j < l.length
        · have Gr : Below w.heap.size w wr := G2.trans (hn2.mono (Nat.le_of_lt hz1))
          have hr := HV.out.below Gr
          rcases hr with ⟨h, _⟩ | ⟨b, off, cap', hsl, hcap, hne, hlt, hc⟩
          · rw [h] at hjl; simp at hjl
          simp only [Value.slice.injEq, true_and] at hsl
          obtain ⟨rfl, rfl⟩ := hsl
          obtain ⟨x0, x1, x2, x3, x4⟩ := hc j hjl
          have hok := HA.out _ (List.getElem_mem hjl)
          obtain ⟨t1, _, _, t2, t3⟩ := rcheck_ok hok
          have hps := put3_eq (hk := l[j].r.hk) (tb := l[j].r.tb) (k := l[j].r.key) (v := l[j].r.val) hok
          have cT := fun W => put3_any l[j].r.hk l[j].r.tb l[j].r.key l[j].r.val W (by unfold maxLen; omega) (by unfold maxLen; omega)
          rw [hps] at cT
          have htl : rtext l[j].r.hk l[j].r.key l[j].r.tb l[j].r.val = l[j].r.text := rfl
          rw [htl] at cT
          have hsn := Lib.hid (ftext_take base l hjl)
          have hle := ftext_le (l.take j) base fun r hr => HA.out r (List.mem_of_mem_take hr)
          have hle2 := rec_ok_text hok
          obtain ⟨o1, o2, o3⟩ := hordk.out j hjl
          have hls := Lib.hid (leastOf_step base l hjl)
          have hta : (l.take j).length ≤ 64 := by rw [List.length_take]; omega
          have hlen0 := Lib.hid (show (nbytes ns ++ ftext base (l.take j)).length ≤ 200000 by rw [List.length_append]; omega)
          have htx2 := Lib.hid hle2
          clear htl hps t1 t2 t3 hle hle2 hta hc hne hok
          generalize leastOf base l j = lo at *
          generalize l[j] = f at *
          obtain ⟨tx, htx⟩ : ∃ t, f.r.text = t := ⟨_, rfl⟩
          rw [htx] at cT hsn htx2
          have q1 : IntKind.i64.wrap (f.off - lo) = ((f.off - lo).toNat : Int) := by rw [IntKind.wrap_i64]; omega
          have q2 : IntKind.u64.wrap (((f.off - lo).toNat : Nat) : Int) = ((f.off - lo).toNat : Int) := by rw [IntKind.wrap_u64]; omega
          have q3 : IntKind.i64.wrap (f.off + 1) = f.off + 1 := by rw [IntKind.wrap_i64]; omega
          have cP := fun W => put_any (f.off - lo).toNat W (by omega)
          have hv := Lib.hid (vput_le (f.off - lo).toNat)
          generalize (f.off - lo).toNat = df at *
          clear htx
          have F1 := Blk.new wr #[.int .i64 f.off, .bool f.r.hk, .string (S f.r.key), .bool f.r.tb, .string (S f.r.val)] 70
          have hbl3 := hbl2.alloc (.cells #[.int .i64 f.off, .bool f.r.hk, .string (S f.r.key), .bool f.r.tb, .string (S f.r.val)] 70)
          have hn3 : Below w1.heap.size wo (wr.alloc (.cells #[.int .i64 f.off, .bool f.r.hk, .string (S f.r.key), .bool f.r.tb, .string (S f.r.val)] 70)) := hn2.trans ((Below.refl w1.heap.size wr).alloc (Nat.le_trans hzb hsz2) _)
          have z3 : wr.heap.size < (wr.alloc (.cells #[.int .i64 f.off, .bool f.r.hk, .string (S f.r.key), .bool f.r.tb, .string (S f.r.val)] 70)).heap.size := by simp
          have hwz : w1.heap.size ≤ wr.heap.size := Nat.le_trans hzb hsz2
          have hwl : w1.heap.size < wr.heap.size := hbl2.lt
          go_wp2_with fail
          refine (cP _).use ?_
          intro w2 hb2
          have F2 := F1.below hb2
          have hbl4 := hbl3.below hb2
          have z4 := Nat.lt_of_lt_of_le z3 hb2.size
          have hn4 := hn3.trans (hb2.mono (Nat.le_of_lt (Nat.lt_of_le_of_lt hwz z3)))
          clear F1 hbl3 hb2 hn3 z3 x0 x1 x2 x3 x4 hbl2
          go_wp2_with fail
          refine bwrite 77 (by decide) lies7 (vput df) hbl4 (by have := hlen0.out; have := hv.out; omega) (Nat.le_of_lt (Nat.lt_of_le_of_lt hwz z4)) ?_
          intro w3 h3 hb3 hk3
          have F3 := F2.kept hk3 (by omega) (by decide)
          have hn5 := hn4.trans hb3
          have z5 := Nat.lt_of_lt_of_le z4 hb3.size
          obtain ⟨k0, y0, y1, y2, y3, y4⟩ := Blk.c5 F3
          clear F2 hbl4 hn4 hb3 hk3 z4
          go_wp2_with fail
          refine (cT _).use ?_
          intro w4 hb4
          have F4 := F3.below hb4
          have hbl5 := h3.below hb4
          have z6 := Nat.lt_of_lt_of_le z5 hb4.size
          have hn6 := hn5.trans (hb4.mono (Nat.le_of_lt (Nat.lt_of_le_of_lt hwz z5)))
          clear F3 h3 hn5 hb4 z5 k0 y0 y1 y2 y3 y4
          go_wp2_with fail
          refine bwrite 77 (by decide) lies7 tx hbl5 (by have := hlen0.out; have := hv.out; have := htx2.out; rw [List.length_append]; omega) (Nat.le_of_lt (Nat.lt_of_le_of_lt hwz z6)) ?_
          intro w5 h5 hb5 hk5
          have F5 := F4.kept hk5 (by omega) (by decide)
          have hn7 := hn6.trans hb5
          obtain ⟨k0, y0, y1, y2, y3, y4⟩ := Blk.c5 F5
          clear F4 hbl5 hn6 hb5 hk5 z6
          go_wp2_with fail
          go_roundw
          case rel => exact ⟨j + 1, by omega, by go_num, by rw [hls.out], by rw [hsn.out, ← List.append_assoc, ← List.append_assoc]; exact h5, hn7⟩
          case measure => simp [intOf]; omega
        · have hle : l.length ≤ j := by omega
          rw [List.take_of_length_le hle] at hbl2
          go_wp2_with fail
          refine (Try.Builder_String_any_k w1.heap.size w1.heap.size _ _ hbl2 (Nat.le_trans hzb hsz2)).mono ?_
          rintro e w4 ⟨rfl, _, hb4, _⟩
          go_wp2_with fail
          exact finB hR (G2.trans ((hn2.trans hb4).mono (Nat.le_of_lt hz1))) rfl

set_option maxHeartbeats 4000000 in
set_option maxRecDepth 100000 in
theorem text7_no (base next : Int) (v : Value) (l : List Fnd) (w : World) (hv : FndsIn w v l) (hbd : ∀ f ∈ l, RecBd f.r) (hll : l.length ≤ 9223372036854775807) (hok : lerr base next l ≠ 0) :
    RetB Try.prog 11 #[.agg #[.int .i64 base, .int .i64 next, v]] w (.tuple #[.string (S []), .int .i64 (lerr base next l : Nat)]) := by
  refine RetB.intro fun R hR => ?_
  have hL : ∀ W : World, FndsIn W v l → RetB Try.prog 36 #[.int .i64 base, .int .i64 next, v] W (.tuple #[.pointer none, .int .i64 (lerr base next l : Nat)]) := fun W hW => (load5 base next v l W hW hll hbd).mono fun x w' hx => by
    rcases hx with ⟨h1, _⟩ | ⟨_, h2, h3⟩
    · exact absurd h1 hok
    · exact ⟨h2, h3⟩
  have HL := Lib.hid hL
  clear hL
  obtain ⟨va, vc, hvf⟩ := hv.form
  subst hvf
  generalize lerr base next l = e at *
  have h2 : ((e : Int) != 0) = true := by simpa using hok
  have B0 := Blk.new w #[.int .i64 base, .int .i64 next, .slice va l.length vc] 24
  have V0 := hv.alloc (.cells #[.int .i64 base, .int .i64 next, .slice va l.length vc] 24)
  clear hok hv
  go_enter Try.func11, Try.ntmps11
  go_wp2_with fail
  refine (HL.out _ V0).use ?_
  intro w1 hb1
  go_wp2_with fail
  exact finB hR (below_any (Nat.le_refl _) (below_all (Below.refl _ _)) hb1) rfl
theorem text7 (base next : Int) (v : Value) (l : List Fnd) (w : World) (hv : FndsIn w v l) (hbd : ∀ f ∈ l, RecBd f.r) (hll : l.length ≤ 9223372036854775807) :
    RetB Try.prog 11 #[.agg #[.int .i64 base, .int .i64 next, v]] w (.tuple #[.string (S (if lerr base next l = 0 then stext base next l else [])), .int .i64 (lerr base next l : Nat)]) := by
  by_cases h : lerr base next l = 0
  · exact (text7_ok base next v l w hv hbd h).cast (by rw [if_pos h, h]; rfl)
  · exact (text7_no base next v l w hv hbd hll h).cast (by rw [if_neg h])
end Go.Proofs.Ytohplhahghilaaa
