/-
  Layer 3's reference: a batch's bytes: contracts.
-/
import Derived.Test.YthiliodmbipikaaGreatRecE
set_option linter.unusedVariables false
set_option linter.unusedSimpArgs false
namespace Go.Proofs.YthiliodmbipikaaGreat
open Go.RowKit
attribute [local go_sem] ByteArray.extract_mk ByteArray.mk_append_mk

set_option maxHeartbeats 2000000 in
set_option maxRecDepth 100000 in
theorem rbatch3_ok (p e s : Nat) (v : Value) (l : List Rec) (w : World) (hl : RecsIn w v l) (hbd : RecsBd l) (hok : rall p e s l = 0) :
    RetB Tryz.prog 59 #[.agg #[.int .i64 p, .int .i64 e, .int .i64 s, v]] w (.tuple #[.string (S (nbytes [p, e, s, l.length] ++ rbytes l)), .int .i64 0]) := by
  refine RetB.intro fun R hR => ?_
  have cA : ∀ W : World, Below w.heap.size w W → RetB Tryz.prog 56 #[.agg #[.int .i64 p, .int .i64 e, .int .i64 s, v]] W (.int .i64 0) := fun W hW => (rall3_any p e s v l W (hl.below hW) hbd).cast (by rw [hok]; rfl)
  obtain ⟨h1, h2, h3, hne, h16, hall⟩ := rall_ok hok
  have p1 : p < 18446744073709551616 := by simp [numB] at h1; omega
  have p2 : e < 18446744073709551616 := by simp [numB] at h2; omega
  have p3 : s < 18446744073709551616 := by simp [numB] at h3; omega
  have q1 : IntKind.u64.wrap (p : Int) = p := by rw [IntKind.wrap_u64]; omega
  have q2 : IntKind.u64.wrap (e : Int) = e := by rw [IntKind.wrap_u64]; omega
  have q3 : IntKind.u64.wrap (s : Int) = s := by rw [IntKind.wrap_u64]; omega
  rcases hl with ⟨rfl, _⟩ | ⟨x, off, cap, rfl, _, hlt, hc⟩
  · exact absurd rfl hne
  have p4 : l.length < 18446744073709551616 := by omega
  have q4 : IntKind.u64.wrap (l.length : Int) = l.length := by rw [IntKind.wrap_u64]; omega
  have v1 := vput_le p
  have v2 := vput_le e
  have v3 := vput_le s
  have v4 := vput_le l.length
  have g1 : ¬ 9223372036854775807 < (vput p).length + (vput e).length := by omega
  have g2 : ¬ 9223372036854775807 < (vput p).length + (vput e).length + (vput s).length := by omega
  have g3 : ¬ 9223372036854775807 < (vput p).length + ((vput e).length + (vput s).length) + (vput l.length).length := by omega
  have hnb : nbytes [p, e, s, l.length] = vput p ++ vput e ++ vput s ++ vput l.length := by simp [nbytes]
  have hnl := nbytes_le [p, e, s, l.length]
  rw [hnb] at hR hnl
  have hnl : (vput p ++ vput e ++ vput s ++ vput l.length).length ≤ 40 := by simpa using hnl
  have HC := Lib.hid hc
  have HA := Lib.hid hall
  clear hc hall hnb hne hbd hok h1 h2 h3
  go_enter Tryz.func59, Tryz.ntmps59
  go_wp2_with fail
  refine (cA _ (below_all (Below.refl _ _))).use ?_
  intro w1 hb1
  have B1 := (Blk.new w _ _).below hb1
  obtain ⟨hz1, x0, x1, x2, x3⟩ := B1.c4
  have hlt1 : x < w1.heap.size := Nat.lt_trans hlt hz1
  have G1 : Below w.heap.size w w1 := below_any (Nat.le_refl _) (below_all (Below.refl _ _)) hb1
  clear hb1
  go_wp2_with fail
  have B1d : Blk w1.drew w.heap.size _ _ := B1
  go_region_held3 (fun w' => w'.cell? ⟨w.heap.size, 0, none⟩ = some (.int .i64 p) ∧ w'.cell? ⟨w.heap.size, 1, none⟩ = some (.int .i64 e) ∧ w'.cell? ⟨w.heap.size, 2, none⟩ = some (.int .i64 s) ∧ w'.cell? ⟨w.heap.size, 3, none⟩ = some (.slice (some ⟨x, off, none⟩) l.length cap) ∧ w.heap.size < w'.heap.size) (go_keep) (first | (go_at_call 57; refine (rput_eq _ _ (by assumption)).use ?_; intro w2 hb2; have B2 := Blk.below (by assumption) hb2; obtain ⟨hz2, y0, y1, y2, y3⟩ := B2.c4))
  have G2 : Below w.heap.size w w2 := by repeat (first | assumption | exact Below.refl _ _ | refine below_all ?_ | refine below_any (Nat.le_refl _) ?_ (by assumption) | refine Below.drew ?_)
  have hlt2 : x < w2.heap.size := Nat.lt_trans hlt hz2
  have HX := Lib.hid fun i hi => (HC.out i hi).keep fun j => G2.cell (p := ⟨x, j, none⟩) hlt
  have B3 : Blk w2 w.heap.size _ _ := B2
  obtain ⟨hd, hhd⟩ : ∃ hd, vput p ++ vput e ++ vput s ++ vput l.length = hd := ⟨_, rfl⟩
  rw [hhd] at hR hnl
  have hhd2 : vput p ++ (vput e ++ (vput s ++ vput l.length)) = hd := by rw [← hhd]; simp
  clear hhd v1 v2 v3 v4 g1 g2 g3 q1 q2 q3 q4 hb2 y0 y1 y2 B2
  go_wp2_with fail
  clear y3
  go_loopw [5, 6] (fun (v5 v6 : Value) (W : World) => ∃ j : Nat, j ≤ l.length ∧ v6 = .int .i64 (j : Int) ∧ v5 = .string (S (hd ++ rbytes (l.take j))) ∧ Blk W w.heap.size #[.int .i64 p, .int .i64 e, .int .i64 s, .slice (some ⟨x, off, none⟩) l.length cap] 26 ∧ Below w2.heap.size w2 W) (fun (v5 v6 : Value) (W : World) => (l.length - intOf v6).toNat)
  case atStart => exact ⟨0, by omega, rfl, by simp [rbytes, ← hhd2], B3, Below.refl _ _⟩
  case round =>
    obtain ⟨j, hj, rfl, rfl, hbx, hn2⟩ := hrel
    have hsz2 := hn2.size
    obtain ⟨hzz, z0, z1, z2, z3⟩ := hbx.c4
    clear z0 z1 z2 hhd2
    by_cases hjl : j < l.length
    · obtain ⟨c0, c1, c2, c3⟩ := (HX.out j hjl).keep fun i => hn2.cell (p := ⟨x, i, none⟩) hlt2
      have hltr : x < wr.heap.size := Nat.lt_of_lt_of_le hlt2 hsz2
      obtain ⟨t1, _, _, t2, t3⟩ := rcheck_ok (HA.out _ (List.getElem_mem hjl))
      have cT := fun W => r3text_any l[j].hk l[j].tb l[j].key l[j].val W (by omega) (by omega)
      have htl : rtext l[j].hk l[j].key l[j].tb l[j].val = l[j].text := rfl
      have hsn := rbytes_snoc hjl
      have hle := rbytes_le (l := l.take j) fun r hr => HA.out r (List.mem_of_mem_take hr)
      have hle2 := rec_ok_text (HA.out _ (List.getElem_mem hjl))
      rw [htl] at cT
      have hta : (l.take j).length ≤ 16 := by rw [List.length_take]; omega
      have hlen : (hd ++ rbytes (l.take j)).length + l[j].text.length ≤ 140737488355328 := by rw [List.length_append]; omega
      clear htl t1 t2 t3 hle hle2 hta
      generalize l[j] = r at *
      obtain ⟨tx, htx⟩ : ∃ t, r.text = t := ⟨_, rfl⟩
      obtain ⟨X, hX⟩ : ∃ t, hd ++ rbytes (l.take j) = t := ⟨_, rfl⟩
      rw [htx] at cT hsn hlen
      have hnx : X ++ tx = hd ++ rbytes (l.take (j + 1)) := by rw [hsn, ← hX, List.append_assoc]
      rw [hX] at hlen ⊢
      have HNX := Lib.hid hnx
      have hlt3 : ¬ 9223372036854775807 < X.length + tx.length := by omega
      clear htx hX hsn hnx
      go_wp2_with fail
      refine (cT _).use ?_
      intro w3 hb3
      go_wp2_with fail
      go_roundw
      case rel => exact ⟨j + 1, by omega, by go_num, veq_str HNX.out, hbx.below hb3, below_any (Nat.le_refl _) hn2 hb3⟩
      case measure => simp [intOf]; omega
    · have hle : l.length ≤ j := by omega
      rw [List.take_of_length_le hle]
      obtain ⟨X, hX⟩ : ∃ t, hd ++ rbytes l = t := ⟨_, rfl⟩
      rw [hX]
      rw [hX] at hR
      clear hX
      go_wp2_with fail
      exact finB hR (below_any (Nat.le_refl _) G2 hn2) rfl
set_option maxRecDepth 100000 in
theorem rbatch3_no (p e s : Int) (v : Value) (l : List Rec) (w : World) (hl : RecsIn w v l) (hbd : RecsBd l) (hok : rall p e s l ≠ 0) :
    RetB Tryz.prog 59 #[.agg #[.int .i64 p, .int .i64 e, .int .i64 s, v]] w (.tuple #[.string (S []), .int .i64 (rall p e s l)]) := by
  refine RetB.intro fun R hR => ?_
  have cA : ∀ W : World, Below w.heap.size w W → RetB Tryz.prog 56 #[.agg #[.int .i64 p, .int .i64 e, .int .i64 s, v]] W (.int .i64 (rall p e s l)) := fun W hW => rall3_any p e s v l W (hl.below hW) hbd
  obtain ⟨a, cap, hv⟩ := hl.form
  obtain ⟨x, hx⟩ : ∃ x, rall p e s l = x := ⟨_, rfl⟩
  rw [hx] at cA hR hok
  clear hx hl hbd
  subst hv
  have h1 : ((x : Int) == 0) = false := by simpa using hok
  have h2 : ((x : Int) != 0) = true := by simpa using hok
  go_enter Tryz.func59, Tryz.ntmps59
  go_wp2_with fail
  refine (cA _ (below_all (Below.refl _ _))).use ?_
  intro w1 hb1
  go_wp2_with fail
  exact finB hR (below_any (Nat.le_refl _) (below_all (Below.refl _ _)) hb1) rfl
theorem rbatch3_any (p e s : Int) (v : Value) (l : List Rec) (w : World) (hl : RecsIn w v l) (hbd : RecsBd l) :
    RetB Tryz.prog 59 #[.agg #[.int .i64 p, .int .i64 e, .int .i64 s, v]] w (.tuple #[.string (S (rbatch p e s l).1), .int .i64 (rbatch p e s l).2]) := by
  by_cases hok : rall p e s l = 0
  · obtain ⟨h1, h2, h3, _⟩ := rall_ok hok
    obtain ⟨p, rfl⟩ := Int.eq_ofNat_of_zero_le (show 0 ≤ p by simp [numB] at h1; omega)
    obtain ⟨e, rfl⟩ := Int.eq_ofNat_of_zero_le (show 0 ≤ e by simp [numB] at h2; omega)
    obtain ⟨s, rfl⟩ := Int.eq_ofNat_of_zero_le (show 0 ≤ s by simp [numB] at h3; omega)
    exact (rbatch3_ok p e s v l w hl hbd hok).cast (by unfold rbatch; rw [if_pos hok]; rfl)
  · exact (rbatch3_no p e s v l w hl hbd hok).cast (by unfold rbatch; rw [if_neg hok])
end Go.Proofs.YthiliodmbipikaaGreat
