/-
  Layer 3: a batch's bytes: contracts.
-/
import Derived.Test.YthiliodmbipikaaGreatRecX
import Derived.Test.YthiliodmbipikaaGreatBld
set_option linter.unusedVariables false
set_option linter.unusedSimpArgs false
namespace Go.Proofs.YthiliodmbipikaaGreat
open Go.RowKit
attribute [local go_sem] ByteArray.extract_mk ByteArray.mk_append_mk

theorem lies3 : liesAt Tryz.prog Tryz.prog.depth 88 (2 / Tryz.prog.cellsOf 88) 0 88 1 = true := by kernel_rfl

set_option maxHeartbeats 2000000 in
set_option maxRecDepth 100000 in
theorem batch3_ok (p e s : Nat) (v : Value) (l : List Rec) (w : World) (hl : RecsIn w v l) (hbd : RecsBd l) (hok : rall p e s l = 0) :
    RetB Tryz.prog 109 #[.agg #[.int .i64 p, .int .i64 e, .int .i64 s, v]] w (.tuple #[.string (S (nbytes [p, e, s, l.length] ++ rbytes l)), .int .i64 0]) := by
  refine RetB.intro fun R hR => ?_
  have cA : ∀ W : World, Below w.heap.size w W → RetB Tryz.prog 110 #[.agg #[.int .i64 p, .int .i64 e, .int .i64 s, v]] W (.int .i64 0) := fun W hW => (all3_any p e s v l W (hl.below hW) hbd).cast (by rw [hok]; rfl)
  obtain ⟨h1, h2, h3, hne, h16, hall⟩ := rall_ok hok
  have p1 : p ≤ 1099511627776 := by simp [numB] at h1; omega
  have p2 : e ≤ 1099511627776 := by simp [numB] at h2; omega
  have p3 : s ≤ 1099511627776 := by simp [numB] at h3; omega
  rcases hl with ⟨rfl, _⟩ | ⟨x, off, cap, rfl, _, hlt, hc⟩
  · exact absurd rfl hne
  obtain ⟨ns, hns⟩ : ∃ ns : List Nat, [p, e, s, l.length] = ns := ⟨_, rfl⟩
  have hnl : ns.length = 4 := by rw [← hns]; rfl
  have hnb : ∀ n ∈ ns, n ≤ 1099511627776 := by rw [← hns]; simp; omega
  have harr : (#[.int .i64 p, .int .i64 e, .int .i64 s, .int .i64 l.length] : Array Value) = (ns.map fun n => Value.int .i64 (n : Nat)).toArray := by rw [← hns]; simp
  rw [hns] at hR
  have HC := Lib.hid hc
  have HA := Lib.hid hall
  have HN := Lib.hid hnl
  have HB := Lib.hid hnb
  have HR := Lib.hid harr
  clear hc hall hnl hnb harr hne hbd hok hns h1 h2 h3
  go_enter Tryz.func109, Tryz.ntmps109
  go_wp2_with fail
  refine (cA _ (below_all (Below.refl _ _))).use ?_
  intro w1 hb1
  have B1 := (Blk.new w _ _).below hb1
  obtain ⟨hz1, x0, x1, x2, x3⟩ := B1.c4
  have hlt1 : x < w1.heap.size := Nat.lt_trans hlt hz1
  have G1 : Below w.heap.size w w1 := below_any (Nat.le_refl _) (below_all (Below.refl _ _)) hb1
  clear hb1
  go_wp2_with fail
  go_loopw [7, 26] (fun (v7 v26 : Value) (wr : World) => ∃ k : Nat, k ≤ 4 ∧ v26 = .int .i64 (k : Int) ∧ Bld 88 w1.heap.size w1.heap.size (nbytes (ns.take k)) wr ∧ Blk wr (w1.heap.size + 1) (ns.map fun n => Value.int .i64 (n : Nat)).toArray 3 ∧ Below w1.heap.size w1 wr) (fun (v7 v26 : Value) (wr : World) => (4 - intOf v26).toNat)
  case atStart =>
    refine ⟨0, by omega, rfl, (Bld.fresh _ _ w1 (Nat.le_refl _)).alloc _, ?_, below_all (below_all (Below.refl _ _))⟩
    have h := Blk.new (w1.alloc (.cells #[.pointer none, .slice none 0 0] 88)) #[.int .i64 p, .int .i64 e, .int .i64 s, .int .i64 l.length] 3
    rw [World.size_alloc, HR.out] at h
    rw [HR.out]
    exact h
  case round =>
    obtain ⟨k, hk, rfl, hbl, hbk, hnx⟩ := hrel
    by_cases hk4 : k < 4
    · have hkn : k < ns.length := by rw [HN.out]; exact hk4
      have ck : wr.cell? ⟨w1.heap.size + 1, k, none⟩ = some (.int .i64 (ns[k] : Nat)) := by rw [hbk.cell k]; simp [hkn]
      have hn := HB.out _ (List.getElem_mem hkn)
      have hsn := nbytes_snoc hkn
      have hle := nbytes_le (ns.take k)
      have htl : (ns.take k).length ≤ 4 := by rw [List.length_take]; omega
      generalize ns[k] = n at *
      have q : IntKind.u64.wrap (n : Int) = n := by rw [IntKind.wrap_u64]; omega
      have cP := fun W => put_any n W (by omega)
      have hv := vput_le n
      have HS := Lib.hid hsn
      clear hsn
      go_wp2_with fail
      refine (cP _).use ?_
      intro w2 hb2
      go_wp2_with fail
      refine bwrite 88 (by decide) lies3 (vput n) (hbl.below hb2) (by omega) (Nat.le_trans hnx.size hb2.size) ?_
      intro w3 h3 hb3 hk3
      go_wp2_with fail
      go_roundw
      case rel => exact ⟨k + 1, by omega, by go_num, by rw [HS.out]; exact h3, (hbk.below hb2).kept hk3 (by omega) (by decide), (hnx.trans (hb2.mono hnx.size)).trans hb3⟩
      case measure => simp [intOf]; omega
    · have hk5 : (k : Int) = 4 := by omega
      rw [List.take_of_length_le (by rw [HN.out]; omega)] at hbl
      obtain ⟨hzr, y0, y1, y2, y3⟩ := Blk.c4 (show Blk wr w.heap.size _ _ from B1.below hnx)
      have hrx := fun i hi => (HC.out i hi).keep fun j => (G1.trans (hnx.mono (Nat.le_of_lt hz1))).cell (p := ⟨x, j, none⟩) hlt
      have hltx : x < wr.heap.size := Nat.lt_of_lt_of_le hlt1 hnx.size
      have HX := Lib.hid hrx
      have hnl := nbytes_le ns
      rw [HN.out] at hnl
      clear hbk hrx y0 y1 y2
      go_wp2_with fail
      clear hk5
      obtain ⟨wo, rfl⟩ : ∃ wo : World, wo = wr := ⟨_, rfl⟩
      have G2 : Below w.heap.size w wo := G1.trans (hnx.mono (Nat.le_of_lt hz1))
      have hzb := hnx.size
      clear y3
      go_loopw [9, 38] (fun (v9 v38 : Value) (W : World) => ∃ j : Nat, j ≤ l.length ∧ v38 = .int .i64 (j : Int) ∧ Bld 88 w1.heap.size w1.heap.size (nbytes ns ++ rbytes (l.take j)) W ∧ Below w1.heap.size wo W) (fun (v9 v38 : Value) (W : World) => (l.length - intOf v38).toNat)
      case atStart => exact ⟨0, by omega, rfl, by simpa [rbytes] using hbl, Below.refl _ _⟩
      case round =>
        obtain ⟨j, hj, rfl, hbl2, hn2⟩ := hrel
        have hsz2 := hn2.size
        by_cases hjl : j < l.length
        · obtain ⟨c0, c1, c2, c3⟩ := (HX.out j hjl).keep fun i => hn2.cell (p := ⟨x, i, none⟩) hlt1
          have hltr : x < wr.heap.size := Nat.lt_of_lt_of_le hltx hsz2
          obtain ⟨t1, _, _, t2, t3⟩ := rcheck_ok (HA.out _ (List.getElem_mem hjl))
          have cT := fun W => text3_any l[j].hk l[j].tb l[j].key l[j].val W t1 (by omega) (by omega)
          have htl : rtext l[j].hk l[j].key l[j].tb l[j].val = l[j].text := rfl
          have hsn := Lib.hid (rbytes_snoc hjl)
          have hle := rbytes_le (l := l.take j) fun r hr => HA.out r (List.mem_of_mem_take hr)
          have hle2 := rec_ok_text (HA.out _ (List.getElem_mem hjl))
          rw [htl] at cT
          have hta : (l.take j).length ≤ 16 := by rw [List.length_take]; omega
          have hlen : (nbytes ns ++ rbytes (l.take j)).length + l[j].text.length ≤ 140737488355328 := by rw [List.length_append]; omega
          clear htl t1 t2 t3 hle hle2 hta
          generalize l[j] = r at *
          obtain ⟨tx, htx⟩ : ∃ t, r.text = t := ⟨_, rfl⟩
          rw [htx] at cT hsn hlen
          clear htx
          have hlen := Lib.hid hlen
          go_wp2_with fail
          refine (cT _).use ?_
          intro w2 hb2
          go_wp2_with fail
          refine bwrite 88 (by decide) lies3 tx ((hbl2.alloc _).below hb2) hlen.out (Nat.le_trans (Nat.le_trans hzb (Nat.le_trans hsz2 (by simp))) hb2.size) ?_
          intro w3 h3 hb3 hk3
          go_wp2_with fail
          go_roundw
          case rel => exact ⟨j + 1, by omega, by go_num, by rw [hsn.out, ← List.append_assoc]; exact h3, (hn2.trans ((Below.refl w1.heap.size wr).alloc (Nat.le_trans hzb hsz2) _)).trans ((hb2.mono (Nat.le_trans (Nat.le_trans hzb hsz2) (by simp))).trans hb3)⟩
          case measure => simp [intOf]; omega
        · have hle : l.length ≤ j := by omega
          rw [List.take_of_length_le hle] at hbl2
          go_wp2_with fail
          refine (Tryz.Builder_String_any_k w1.heap.size w1.heap.size _ _ hbl2 (Nat.le_trans hzb hsz2)).mono ?_
          rintro e w4 ⟨rfl, _, hb4, _⟩
          go_wp2_with fail
          exact finB hR (G2.trans ((hn2.trans hb4).mono (Nat.le_of_lt hz1))) rfl
theorem batch3_no (p e s : Int) (v : Value) (l : List Rec) (w : World) (hl : RecsIn w v l) (hbd : RecsBd l) (hok : rall p e s l ≠ 0) :
    RetB Tryz.prog 109 #[.agg #[.int .i64 p, .int .i64 e, .int .i64 s, v]] w (.tuple #[.string (S []), .int .i64 (rall p e s l)]) := by
  refine RetB.intro fun R hR => ?_
  have cA : ∀ W : World, Below w.heap.size w W → RetB Tryz.prog 110 #[.agg #[.int .i64 p, .int .i64 e, .int .i64 s, v]] W (.int .i64 (rall p e s l)) := fun W hW => all3_any p e s v l W (hl.below hW) hbd
  obtain ⟨a, cap, hv⟩ := hl.form
  obtain ⟨x, hx⟩ : ∃ x, rall p e s l = x := ⟨_, rfl⟩
  rw [hx] at cA hR hok
  clear hx hl hbd
  subst hv
  have h1 : ((x : Int) == 0) = false := by simpa using hok
  have h2 : ((x : Int) != 0) = true := by simpa using hok
  go_enter Tryz.func109, Tryz.ntmps109
  go_wp2_with fail
  refine (cA _ (below_all (Below.refl _ _))).use ?_
  intro w1 hb1
  go_wp2_with fail
  exact finB hR (below_any (Nat.le_refl _) (below_all (Below.refl _ _)) hb1) rfl
theorem batch3_any (p e s : Int) (v : Value) (l : List Rec) (w : World) (hl : RecsIn w v l) (hbd : RecsBd l) :
    RetB Tryz.prog 109 #[.agg #[.int .i64 p, .int .i64 e, .int .i64 s, v]] w (.tuple #[.string (S (rbatch p e s l).1), .int .i64 (rbatch p e s l).2]) := by
  by_cases hok : rall p e s l = 0
  · obtain ⟨h1, h2, h3, _⟩ := rall_ok hok
    obtain ⟨p, rfl⟩ := Int.eq_ofNat_of_zero_le (show 0 ≤ p by simp [numB] at h1; omega)
    obtain ⟨e, rfl⟩ := Int.eq_ofNat_of_zero_le (show 0 ≤ e by simp [numB] at h2; omega)
    obtain ⟨s, rfl⟩ := Int.eq_ofNat_of_zero_le (show 0 ≤ s by simp [numB] at h3; omega)
    exact (batch3_ok p e s v l w hl hbd hok).cast (by unfold rbatch; rw [if_pos hok]; rfl)
  · exact (batch3_no p e s v l w hl hbd hok).cast (by unfold rbatch; rw [if_neg hok])
end Go.Proofs.YthiliodmbipikaaGreat
