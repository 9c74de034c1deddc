/-
  Layer 4: a command's things written.
-/
import Derived.Test.YthiliodmbipikaaGreatReqC
import Derived.Test.YthiliodmbipikaaGreatRecE
import Derived.Test.YthiliodmbipikaaGreatVarX
set_option linter.unusedVariables false
set_option linter.unusedSimpArgs false
namespace Go.Proofs.YthiliodmbipikaaGreat
open Go.RowKit
attribute [local go_sem] ByteArray.extract_mk ByteArray.mk_append_mk

theorem lies4 : liesAt Tryz.prog Tryz.prog.depth 90 (2 / Tryz.prog.cellsOf 90) 0 88 1 = true := by kernel_rfl
/-- A writer's call. -/
def WCall (f : FuncId) (args : Array Value) (w : World) (B p : Nat) (l : List UInt8) : Prop :=
  Calls Tryz.prog f args w fun x w' => x = .returned (.tuple #[]) ∧ Bld 90 B p l w' ∧ Below B w w'
theorem WCall.intro {f : FuncId} {args : Array Value} {w : World} {B p : Nat} {l : List UInt8}
    (h : ∀ R : Ending → World → Prop, Hid (∀ w', Bld 90 B p l w' → Below B w w' → R (.returned (.tuple #[])) w') → Calls Tryz.prog f args w R) : WCall f args w B p l :=
  h _ fun w' h1 h2 => ⟨rfl, h1, h2⟩
theorem WCall.use {f : FuncId} {args : Array Value} {w : World} {B p : Nat} {l : List UInt8} {R : Ending → World → Prop} (h : WCall f args w B p l)
    (k : ∀ w', Bld 90 B p l w' → Below B w w' → R (.returned (.tuple #[])) w') : Calls Tryz.prog f args w R :=
  h.mono fun x w' ⟨he, h1, h2⟩ => by subst he; exact k w' h1 h2
section
variable (B p b o : Nat) (l : List UInt8) (w : World)
set_option maxHeartbeats 1000000 in
set_option maxRecDepth 100000 in
theorem w_number (n : Nat) (hp : Bld 90 B p l w) (hBw : B ≤ w.heap.size) (hc : w.cell? ⟨b, o, none⟩ = some (.int .i64 (n : Int))) (hn : n ≤ 9223372036854775807) (hl : l.length ≤ 1000000) :
    WCall 34 #[.pointer (some ⟨p, 0, none⟩), .pointer (some ⟨b, o, none⟩)] w B p (l ++ vput n) := by
  refine WCall.intro fun R hR => ?_
  have HP := Lib.hid hp
  have hv := vput_le n
  have hn64 : n < 18446744073709551616 := by omega
  have e1 : IntKind.u64.wrap (n : Int) = (n : Int) := by rw [IntKind.wrap_u64]; omega
  have cP := Lib.hid (fun w => put_any n w hn64)
  have cW := Lib.hid (fun w1 (hb : Below w.heap.size w w1) R k => bwrite (R := R) 90 (by decide) lies4 (vput n) (hp.below hb) (by omega) (Nat.le_trans hBw hb.size) k)
  have D0 : Below w.heap.size w w.drew := (Below.refl _ _).drew
  generalize vput n = m at *
  clear hp
  go_enter Tryz.func34, Tryz.ntmps34
  go_wp2_with fail
  go_region_with (first | (go_at_call 61; refine (cP.out _).use ?_; intro w2 b2; have B2 := below_any (Nat.le_refl _) D0 b2) | (go_at_call 39; refine cW.out _ (by assumption) _ ?_; intro w3 l3 b3 k3))
  all_goals go_wp2_with fail
  all_goals refine bodyPost_end (results_none rfl _ _ _) rfl ?_
  all_goals exact hR.out _ l3 ((B2.mono hBw).trans b3)
set_option maxHeartbeats 1000000 in
set_option maxRecDepth 100000 in
theorem w_name (s : List UInt8) (hp : Bld 90 B p l w) (hBw : B ≤ w.heap.size) (hc : w.cell? ⟨b, o, none⟩ = some (.string (S s))) (hn : s.length ≤ 1000000) (hl : l.length ≤ 1000000) :
    WCall 107 #[.pointer (some ⟨p, 0, none⟩), .pointer (some ⟨b, o, none⟩)] w B p (l ++ vtxt s) := by
  refine WCall.intro fun R hR => ?_
  have HP := Lib.hid hp
  have hv : (vtxt s).length ≤ 1000010 := by have := vput_le s.length; unfold vtxt; rw [List.length_append]; omega
  have cP := Lib.hid (fun w => puttext_any s w (by omega))
  have cW := Lib.hid (fun w1 (hb : Below w.heap.size w w1) R k => bwrite (R := R) 90 (by decide) lies4 (vtxt s) (hp.below hb) (by omega) (Nat.le_trans hBw hb.size) k)
  have D0 : Below w.heap.size w w.drew := (Below.refl _ _).drew
  generalize vtxt s = m at *
  clear hp
  go_enter Tryz.func107, Tryz.ntmps107
  go_wp2_with fail
  go_region_with (first | (go_at_call 74; refine (cP.out _).use ?_; intro w2 b2; have B2 := below_any (Nat.le_refl _) D0 b2) | (go_at_call 39; refine cW.out _ (by assumption) _ ?_; intro w3 l3 b3 k3))
  all_goals go_wp2_with fail
  all_goals refine bodyPost_end (results_none rfl _ _ _) rfl ?_
  all_goals exact hR.out _ l3 ((B2.mono hBw).trans b3)
set_option maxHeartbeats 1000000 in
set_option maxRecDepth 100000 in
theorem w_flag (r : Bool) (hp : Bld 90 B p l w) (hBw : B ≤ w.heap.size) (hc : w.cell? ⟨b, o, none⟩ = some (.bool r)) (hlt : b < w.heap.size) (hl : l.length ≤ 1000000) :
    WCall 106 #[.pointer (some ⟨p, 0, none⟩), .pointer (some ⟨b, o, none⟩)] w B p (l ++ [if r then 1 else 0]) := by
  refine WCall.intro fun R hR => ?_
  have c0 := Lib.hid (w_number B p w.heap.size 0 l (w.alloc (.cells #[.int .i64 0] 3)) 0 (hp.alloc _) (by simp; omega) ((Blk.new w #[.int .i64 0] 3).cell 0) (by omega) hl)
  have c1 := Lib.hid (w_number B p w.heap.size 0 l (w.alloc (.cells #[.int .i64 1] 3)) 1 (hp.alloc _) (by simp; omega) ((Blk.new w #[.int .i64 1] 3).cell 0) (by omega) hl)
  have B0 : Below B w (w.alloc (.cells #[.int .i64 0] 3)) := (below_all (Below.refl _ _)).mono hBw
  have B1 : Below B w (w.alloc (.cells #[.int .i64 1] 3)) := (below_all (Below.refl _ _)).mono hBw
  clear hp
  cases r
  · go_enter Tryz.func106, Tryz.ntmps106
    go_wp2_with fail
    refine (show WCall _ _ _ _ _ _ from c0.out).use ?_
    intro w2 l2 b2
    go_wp2_with fail
    refine bodyPost_end (results_none rfl _ _ _) rfl ?_
    exact hR.out _ l2 (B0.trans b2)
  · go_enter Tryz.func106, Tryz.ntmps106
    go_wp2_with fail
    refine (show WCall _ _ _ _ _ _ from c1.out).use ?_
    intro w2 l2 b2
    go_wp2_with fail
    refine bodyPost_end (results_none rfl _ _ _) rfl ?_
    exact hR.out _ l2 (B1.trans b2)
set_option maxHeartbeats 1000000 in
set_option maxRecDepth 100000 in
theorem w_batch (bp be bq : Int) (rv : Value) (recs : List Rec) (q : Nat) (hp : Bld 90 B p l w) (hBw : B ≤ w.heap.size) (c5 : w.cell? ⟨q, 5, none⟩ = some (.int .i64 bp)) (c6 : w.cell? ⟨q, 6, none⟩ = some (.int .i64 be)) (c7 : w.cell? ⟨q, 7, none⟩ = some (.int .i64 bq)) (c8 : w.cell? ⟨q, 8, none⟩ = some rv)
    (hr : RecsIn w rv recs) (hrb : RecsBd recs) (hl : l.length + (rbatch bp be bq recs).1.length ≤ 1000000) :
    WCall 105 #[.pointer (some ⟨p, 0, none⟩), .pointer (some ⟨q, 5, none⟩)] w B p (l ++ (rbatch bp be bq recs).1) := by
  refine WCall.intro fun R hR => ?_
  have cP := Lib.hid (batch3_any bp be bq rv recs w hr hrb)
  have cW := Lib.hid (fun w1 (hb : Below w.heap.size w w1) R k => bwrite (R := R) 90 (by decide) lies4 (rbatch bp be bq recs).1 (hp.below hb) (by omega) (Nat.le_trans hBw hb.size) k)
  obtain ⟨ra, rc, rfl⟩ := hr.form
  generalize (rbatch bp be bq recs).1 = m at *
  generalize (rbatch bp be bq recs).2 = m2 at *
  clear hp hr
  go_enter Tryz.func105, Tryz.ntmps105
  go_wp2_with fail
  refine cP.out.use ?_
  intro w2 b2
  go_wp2_with fail
  refine cW.out _ b2 _ ?_
  intro w3 l3 b3 k3
  go_wp2_with fail
  refine bodyPost_end (results_none rfl _ _ _) rfl ?_
  exact hR.out _ l3 ((b2.mono hBw).trans b3)
theorem flat_take (tops : List (List UInt8)) (i : Nat) : ((tops.take i).flatMap vtxt).length ≤ (tops.flatMap vtxt).length := by
  conv => rhs; rw [← List.take_append_drop i tops, List.flatMap_append, List.length_append]
  omega
set_option maxHeartbeats 2000000 in
set_option maxRecDepth 100000 in
theorem w_names (tv : Value) (tops : List (List UInt8)) (hp : Bld 90 B p l w) (hBw : B ≤ w.heap.size) (hb0 : b < B) (hc : w.cell? ⟨b, o, none⟩ = some tv) (ht : Hid (∀ W, Below B w W → TopsIn W tv tops)) (hs : ∀ s ∈ tops, s.length ≤ 1000000)
    (hl : l.length + (vput tops.length ++ tops.flatMap vtxt).length ≤ 1000000) :
    WCall 108 #[.pointer (some ⟨p, 0, none⟩), .pointer (some ⟨b, o, none⟩)] w B p (l ++ (vput tops.length ++ tops.flatMap vtxt)) := by
  refine WCall.intro fun R hR => ?_
  have hti := ht.out w (Below.refl _ _)
  have HS := Lib.hid hs
  have hfl := flat_take tops
  rw [List.length_append] at hl
  have htl : tops.length ≤ 1000000 := by
    have : ∀ m : List (List UInt8), m.length ≤ (m.flatMap vtxt).length := by
      intro m
      induction m with
      | nil => simp
      | cons a m ih =>
        have := vput_pos a.length
        rw [List.flatMap_cons, List.length_append, List.length_cons]
        unfold vtxt
        rw [List.length_append]
        unfold vtxt at ih
        omega
    have := this tops
    omega
  obtain ⟨ta, tc, rfl⟩ := hti.form
  have B0 : Below B w (w.alloc (.cells #[.int .i64 tops.length] 3)) := (below_all (Below.refl _ _)).mono hBw
  have c0 := Lib.hid (w_number B p w.heap.size 0 l (w.alloc (.cells #[.int .i64 tops.length] 3)) tops.length (hp.alloc _) (by simp; omega) ((Blk.new w #[.int .i64 tops.length] 3).cell 0) (by omega) (by omega))
  have HFL := Lib.hid hfl
  clear hp hti hs hfl
  go_enter Tryz.func108, Tryz.ntmps108
  go_wp2_with fail
  refine (show WCall _ _ _ _ _ _ from c0.out).use ?_
  intro w2 l2 b2
  have b2 := B0.trans b2
  have z0 := (b2.cell (p := ⟨b, o, none⟩) hb0).trans hc
  go_wp2_with fail
  go_loopw [6, 17] (fun (v6 v17 : Value) (W : World) => ∃ i : Nat, i ≤ tops.length ∧ v17 = .int .i64 (i : Int) ∧ Bld 90 B p ((l ++ vput tops.length) ++ (tops.take i).flatMap vtxt) W ∧ Below B w W) (fun (v6 v17 : Value) (W : World) => (tops.length - intOf v17).toNat)
  case atStart => exact ⟨0, by omega, rfl, by simpa using l2, b2⟩
  case round =>
    obtain ⟨i, hi, rfl, hB, hb⟩ := hrel
    clear l2 b2 z0 c0 B0
    by_cases hil : i < tops.length
    · rcases ht.out _ hb with ⟨h, _⟩ | ⟨tb, off, cap', hsl, hne, hlt, hcc⟩
      · rw [h] at hil; simp at hil
      simp only [Value.slice.injEq, true_and] at hsl
      obtain ⟨rfl, rfl⟩ := hsl
      have x0 := hcc i hil
      have hlen := HS.out _ (List.getElem_mem hil)
      have hfi := HFL.out i
      have hts : Hid ((tops.take (i + 1)).flatMap vtxt = (tops.take i).flatMap vtxt ++ vtxt tops[i]) := Lib.hid (by rw [List.take_succ_eq_append_getElem hil, List.flatMap_append]; simp)
      have i1 : (0 : Int) ≤ (i : Int) := by omega
      have i2 : (i : Int) < (tops.length : Int) := by omega
      clear hcc hne
      generalize tops[i] = s at *
      have B1 : Below B wr (wr.alloc (.cells #[.string (S s)] 9)) := (below_all (Below.refl _ _)).mono (Nat.le_trans hBw hb.size)
      have cN := Lib.hid (w_name B p wr.heap.size 0 ((l ++ vput tops.length) ++ (tops.take i).flatMap vtxt) (wr.alloc (.cells #[.string (S s)] 9)) s (hB.alloc _) (by have := hb.size; simp; omega) ((Blk.new wr #[.string (S s)] 9).cell 0) hlen (by rw [List.length_append, List.length_append]; omega))
      have HB2 := Lib.hid (hb.trans B1)
      clear hB B1 hb
      go_wp2_with fail
      refine (show WCall _ _ _ _ _ _ from cN.out).use ?_
      intro w3 l3 b3
      have N3 := Lib.hid (HB2.out.trans b3)
      have L3 := Lib.hid l3
      clear l3 b3
      go_wp2_with fail
      go_roundw
      case rel => exact ⟨i + 1, by omega, by go_num, by rw [hts.out, ← List.append_assoc]; exact L3.out, N3.out⟩
      case measure => first | (simp [intOf]; done) | (simp [intOf]; omega)
    · have hie : i = tops.length := by omega
      subst hie
      rw [List.take_length, List.append_assoc] at hB
      go_wp2_with fail
      refine bodyPost_end (results_none rfl _ _ _) rfl ?_
      exact hR.out _ hB hb
end
end Go.Proofs.YthiliodmbipikaaGreat
