import Derived.Test.YthiliodmbipikaaGreatReqH
import Derived.Test.YthiliodmbipikaaGreatReqI1
import Derived.Test.YthiliodmbipikaaGreatReqCk
/-
  Several texts in one: ReqW, ReqX.
-/
set_option linter.unusedVariables false
set_option linter.unusedSimpArgs false
namespace Go.Proofs.YthiliodmbipikaaGreat
open Go.RowKit
attribute [local go_sem] ByteArray.extract_mk ByteArray.mk_append_mk

theorem BKept.of_below {b : Nat} {w W : World} (h : Below w.heap.size w W) : BKept b w W := by
  intro c o hc _ _
  have hlt : c < w.heap.size := (Array.getElem?_eq_some_iff.1 hc).1
  exact (h.block c hlt).trans hc
theorem BKept.trans {b : Nat} {w W V : World} (h : BKept b w W) (k : BKept b W V) : BKept b w V := fun c o hc h1 h2 => k c o (h c o hc h1 h2) h1 h2
/-- A writer's call: all blocks but the builder's own, and rows of bytes, are kept. -/
def WCallK (f : FuncId) (args : Array Value) (w : World) (B p : Nat) (l : List UInt8) : Prop :=
  Calls Tryz.prog f args w fun x w' => x = .returned (.tuple #[]) ∧ Bld 90 B p l w' ∧ Below B w w' ∧ BKept p w w'
theorem WCallK.intro {f : FuncId} {args : Array Value} {w : World} {B p : Nat} {l : List UInt8}
    (h : ∀ R : Ending → World → Prop, Hid (∀ w', Bld 90 B p l w' → Below B w w' → BKept p w w' → R (.returned (.tuple #[])) w') → Calls Tryz.prog f args w R) : WCallK f args w B p l :=
  h _ fun w' h1 h2 h3 => ⟨rfl, h1, h2, h3⟩
theorem WCallK.use {f : FuncId} {args : Array Value} {w : World} {B p : Nat} {l : List UInt8} {R : Ending → World → Prop} (h : WCallK f args w B p l)
    (k : ∀ w', Bld 90 B p l w' → Below B w w' → BKept p w w' → R (.returned (.tuple #[])) w') : Calls Tryz.prog f args w R :=
  h.mono fun x w' ⟨he, h1, h2, h3⟩ => by subst he; exact k w' h1 h2 h3
section
variable (B p b o : Nat) (l : List UInt8) (w : World)
set_option maxHeartbeats 1000000 in
set_option maxRecDepth 100000 in
theorem w_number_k (n : Nat) (hp : Bld 90 B p l w) (hBw : B ≤ w.heap.size) (hc : w.cell? ⟨b, o, none⟩ = some (.int .i64 (n : Int))) (hn : n ≤ 9223372036854775807) (hl : l.length ≤ 1000000) :
    WCallK 34 #[.pointer (some ⟨p, 0, none⟩), .pointer (some ⟨b, o, none⟩)] w B p (l ++ vput n) := by
  refine WCallK.intro fun R hR => ?_
  have HP := Lib.hid hp
  have hv := vput_le n
  have hn64 : n < 18446744073709551616 := by omega
  have e1 : IntKind.u64.wrap (n : Int) = (n : Int) := by rw [IntKind.wrap_u64]; omega
  have cP := Lib.hid (fun w => put_any n w hn64)
  have cW := Lib.hid (fun w1 (hb : Below w.heap.size w w1) R k => bwrite (R := R) 90 (by decide) lies4 (vput n) (hp.below hb) (by omega) (Nat.le_trans hBw hb.size) k)
  have D0 : Below w.heap.size w w.drew := (Below.refl _ _).drew
  generalize vput n = m at *
  clear hp
  go_enter Tryz.func34, Tryz.ntmps34
  go_wp2_with fail
  go_region_with (first | (go_at_call 61; refine (cP.out _).use ?_; intro w2 b2; have B2 := below_any (Nat.le_refl _) D0 b2) | (go_at_call 39; refine cW.out _ (by assumption) _ ?_; intro w3 l3 b3 k3))
  all_goals go_wp2_with fail
  all_goals refine bodyPost_end (results_none rfl _ _ _) rfl ?_
  all_goals exact hR.out _ l3 ((B2.mono hBw).trans b3) ((BKept.of_below B2).trans k3)
set_option maxHeartbeats 1000000 in
set_option maxRecDepth 100000 in
theorem w_name_k (s : List UInt8) (hp : Bld 90 B p l w) (hBw : B ≤ w.heap.size) (hc : w.cell? ⟨b, o, none⟩ = some (.string (S s))) (hn : s.length ≤ 1000000) (hl : l.length ≤ 1000000) :
    WCallK 107 #[.pointer (some ⟨p, 0, none⟩), .pointer (some ⟨b, o, none⟩)] w B p (l ++ vtxt s) := by
  refine WCallK.intro fun R hR => ?_
  have HP := Lib.hid hp
  have hv : (vtxt s).length ≤ 1000010 := by have := vput_le s.length; unfold vtxt; rw [List.length_append]; omega
  have cP := Lib.hid (fun w => puttext_any s w (by omega))
  have cW := Lib.hid (fun w1 (hb : Below w.heap.size w w1) R k => bwrite (R := R) 90 (by decide) lies4 (vtxt s) (hp.below hb) (by omega) (Nat.le_trans hBw hb.size) k)
  have D0 : Below w.heap.size w w.drew := (Below.refl _ _).drew
  generalize vtxt s = m at *
  clear hp
  go_enter Tryz.func107, Tryz.ntmps107
  go_wp2_with fail
  go_region_with (first | (go_at_call 74; refine (cP.out _).use ?_; intro w2 b2; have B2 := below_any (Nat.le_refl _) D0 b2) | (go_at_call 39; refine cW.out _ (by assumption) _ ?_; intro w3 l3 b3 k3))
  all_goals go_wp2_with fail
  all_goals refine bodyPost_end (results_none rfl _ _ _) rfl ?_
  all_goals exact hR.out _ l3 ((B2.mono hBw).trans b3) ((BKept.of_below B2).trans k3)
end
set_option maxHeartbeats 2000000 in
set_option maxRecDepth 100000 in
theorem w_part_k (B p q : Nat) (l : List UInt8) (w : World) (t : List UInt8) (n : Nat) (hp : Bld 90 B p l w) (hBw : B ≤ w.heap.size) (hq : Blk w q #[.string (S t), .int .i64 (n : Int)] 23) (hpq : q ≠ p) (ht : t.length ≤ 1000) (hn : n ≤ 9223372036854775807) (hl : l.length ≤ 900000) :
    WCallK 32 #[.iface 84 (.pointer (some ⟨p, 0, none⟩)), .pointer (some ⟨q, 0, none⟩)] w B p ((l ++ vtxt t) ++ vput n) := by
  refine WCallK.intro fun R hR => ?_
  have BB0 : Hid (Below B w w) := Lib.hid (Below.refl _ _)
  have LB0 := Lib.hid hp
  have HQ0 := Lib.hid hq
  obtain ⟨kq, x1, x2⟩ : q < w.heap.size ∧ w.cell? ⟨q, 0, none⟩ = some (.string (S t)) ∧ w.cell? ⟨q, 1, none⟩ = some (.int .i64 (n : Int)) := ⟨hq.lt, hq.cell 0, hq.cell 1⟩
  have := vtxt_le t
  have n_name := na_w_name
  have m_name := me_w_name
  have n_number := na_w_number
  have m_number := me_w_number
  have n_flag := na_w_flag
  have m_flag := me_w_flag
  have n_batch := na_w_batch
  have m_batch := me_w_batch
  have n_names := na_w_names
  have m_names := me_w_names
  clear hp hq
  go_enter Tryz.func32, Tryz.ntmps32
  have cc1 := Lib.hid (w_name_k B p q 0 l w.drew t LB0.out (Nat.le_trans hBw BB0.out.size) x1 (by omega) (by omega))
  go_wp2_with fail
  go_region_with (go_at_call 107; refine cc1.out.use ?_; intro w1 l1 b1 k1)
  have LB1 := Lib.hid l1
  have BB1 := Lib.hid (BB0.out.drew.trans b1)
  have K1 : Hid (BKept p w w1) := Lib.hid k1
  have HQ1 := HQ0.out.kept K1.out hpq (by decide)
  obtain ⟨kq1, y1, y2⟩ : q < w1.heap.size ∧ w1.cell? ⟨q, 0, none⟩ = some (.string (S t)) ∧ w1.cell? ⟨q, 1, none⟩ = some (.int .i64 (n : Int)) := ⟨HQ1.lt, HQ1.cell 0, HQ1.cell 1⟩
  clear l1 b1 k1 HQ1
  have cc2 := Lib.hid (w_number_k B p q 1 (l ++ vtxt t) w1.drew n LB1.out (Nat.le_trans hBw BB1.out.size) y2 (by omega) (by rw [List.length_append]; omega))
  go_wp2_with fail
  go_region_with (go_at_call 34; refine cc2.out.use ?_; intro w2 l2 b2 k2)
  have LB2 := Lib.hid l2
  have BB2 := Lib.hid (BB1.out.drew.trans b2)
  have K2 : Hid (BKept p w w2) := Lib.hid (K1.out.trans k2)
  clear l2 b2 k2
  go_wp2_with fail
  first | refine bodyPost_end (results_none rfl _ _ _) rfl ?_ | refine bodyPost_ret (results_none rfl _ _ _) rfl ?_
  exact hR.out _ LB2.out BB2.out K2.out
end Go.Proofs.YthiliodmbipikaaGreat

set_option linter.unusedVariables false
set_option linter.unusedSimpArgs false
namespace Go.Proofs.YthiliodmbipikaaGreat
open Go.RowKit
attribute [local go_sem] ByteArray.extract_mk ByteArray.mk_append_mk

theorem flatMap_snoc {α : Type} (l : List α) (k : Nat) (h : k < l.length) (f : α → List UInt8) : (l.take (k + 1)).flatMap f = (l.take k).flatMap f ++ f l[k] := by
  rw [List.take_succ_eq_append_getElem h, List.flatMap_append]; simp
theorem flatMap_le {α : Type} (f : α → List UInt8) (N : Nat) : ∀ (l : List α), (∀ x ∈ l, (f x).length ≤ N) → (l.flatMap f).length ≤ N * l.length
  | [], _ => by simp
  | a :: l, h => by
    have ih := flatMap_le f N l fun x hx => h x (by simp [hx])
    have h1 := h a (by simp)
    rw [List.flatMap_cons, List.length_append, List.length_cons, Nat.mul_add]
    omega
theorem fndText_le {f : Fnd} (h : f.r.ok = 0) : (fndText f).length ≤ 2100 := by
  have h1 := rec_ok_text h
  have h2 := vput_le f.off.toNat
  unfold fndText; rw [List.length_append]; omega
theorem prtText_le {p : Prt} (h : isName p.1 = true) : (prtText p).length ≤ 100 := by
  have h1 := isName_le h
  have h2 := vtxt_le p.1
  have h3 := vput_le p.2.toNat
  unfold prtText; rw [List.length_append]; omega
theorem repText_ne (r : Rep) : repText r ≠ [] := by
  intro h
  have := vput_pos r.e.toNat
  unfold repText at h
  have h2 := congrArg List.length h
  rw [List.length_append] at h2
  simp only [List.length_nil] at h2
  omega
/-- The blocks of Reply: the reply's own box, the writer. -/
structure RI (w0 w2 W : World) (cs : Array Value) (l : List UInt8) : Prop where
  bx : Blk W w0.heap.size cs 58
  bl : Bld 90 w2.heap.size w2.heap.size l W
  bel : Below w2.heap.size w2 W
  b0 : Below w0.heap.size w0 W
section
variable {w0 w2 W V : World} {cs : Array Value} {l l' : List UInt8}
theorem RI.alloc (h : RI w0 w2 W cs l) (o : Obj) : RI w0 w2 (W.alloc o) cs l := ⟨h.bx.alloc o, h.bl.alloc o, h.bel.alloc h.bel.size o, h.b0.alloc h.b0.size o⟩
theorem RI.drew (h : RI w0 w2 W cs l) : RI w0 w2 W.drew cs l := ⟨h.bx, h.bl.below (Below.refl _ _).drew, h.bel.drew, h.b0.drew⟩
theorem RI.wr (h : RI w0 w2 W cs l) (hlt : w0.heap.size < w2.heap.size) (hl : Bld 90 w2.heap.size w2.heap.size l' V) (hb : Below w2.heap.size W V) : RI w0 w2 V cs l' :=
  ⟨(hb.block _ hlt).trans h.bx, hl, h.bel.trans hb, h.b0.trans (hb.mono (by omega))⟩
theorem RI.bel' (h : RI w0 w2 W cs l) (hb : Below W.heap.size W V) : RI w0 w2 V cs l :=
  ⟨h.bx.below hb, h.bl.below hb, h.bel.trans (hb.mono h.bel.size), h.b0.trans (hb.mono h.b0.size)⟩
end
theorem arr5_cells {W : World} {b : Nat} {v0 v1 v2 v3 v4 : Value} {T : TypeId} (h : Blk W b #[v0, v1, v2, v3, v4] T) :
    b < W.heap.size ∧ W.cell? ⟨b, 0, none⟩ = some v0 ∧ W.cell? ⟨b, 1, none⟩ = some v1 ∧ W.cell? ⟨b, 2, none⟩ = some v2 ∧ W.cell? ⟨b, 3, none⟩ = some v3 ∧ W.cell? ⟨b, 4, none⟩ = some v4 :=
  ⟨h.lt, h.cell 0, h.cell 1, h.cell 2, h.cell 3, h.cell 4⟩
theorem arr6_cells {W : World} {b : Nat} {v0 v1 v2 v3 v4 v5 : Value} {T : TypeId} (h : Blk W b #[v0, v1, v2, v3, v4, v5] T) :
    b < W.heap.size ∧ W.cell? ⟨b, 0, none⟩ = some v0 ∧ W.cell? ⟨b, 1, none⟩ = some v1 ∧ W.cell? ⟨b, 2, none⟩ = some v2 ∧ W.cell? ⟨b, 3, none⟩ = some v3 ∧ W.cell? ⟨b, 4, none⟩ = some v4 ∧ W.cell? ⟨b, 5, none⟩ = some v5 :=
  ⟨h.lt, h.cell 0, h.cell 1, h.cell 2, h.cell 3, h.cell 4, h.cell 5⟩
set_option maxHeartbeats 8000000 in
set_option maxRecDepth 100000 in
theorem reply4 (r : Rep) (fv pv : Value) (w : World) (hi : RepIn w r fv pv) (hb : RepBd r) :
    RetB Tryz.prog 17 #[.agg (r.arr fv pv)] w (.tuple #[.string (S (repPut r).1), .int .i64 ((repPut r).2 : Nat)]) := by
  refine RetB.intro fun R hR => ?_
  have hB1 : Below w.heap.size w (w.alloc (.cells (r.arr fv pv) 58)) := below_all (Below.refl _ _)
  have hq0 := Blk.new w (r.arr fv pv) 58
  have cC := Lib.hid (repcheck4 r fv pv _ (hi.below hB1) hb)
  have HB1 := Lib.hid hB1
  have HI := Lib.hid hi
  have HQ0 := Lib.hid hq0
  have HBD := Lib.hid hb
  clear hB1 hq0 hb
  by_cases hz : repCheck r = 0
  · have ok := repCheck_ok hz
    have hP : repPut r = (repText r, 0) := by unfold repPut; rw [if_pos hz]
    rw [hP] at hR
    dsimp only at hR
    rw [hz] at cC
    have hne := Lib.hid (repText_ne r)
    have hTX := Lib.hid (show repText r = _ from rfl)
    obtain ⟨fa, fc, hfv⟩ := hi.found.form
    obtain ⟨pa, pc, hpv⟩ := hi.parts.form
    obtain ⟨e, off, n, gen, found, parts⟩ := r
    obtain ⟨o1, o2, o3, o4, ⟨o5, o5'⟩, ⟨o6, o6'⟩⟩ := ok
    dsimp only [Rep.arr] at *
    subst hfv hpv
    obtain ⟨e, rfl, k1⟩ := numB_ex o1
    obtain ⟨off, rfl, k2⟩ := numB_ex o2
    obtain ⟨n, rfl, k3⟩ := numB_ex o3
    obtain ⟨gen, rfl, k4⟩ := numB_ex o4
    have O5 := Lib.hid o5'
    have O6 := Lib.hid o6'
    have HIN := Lib.hid (show RepIn w ⟨(e : Int), (off : Int), (n : Int), (gen : Int), found, parts⟩ (.slice fa found.length fc) (.slice pa parts.length pc) from HI.out)
    have HRB := Lib.hid HBD.out.found.2
    clear o1 o2 o3 o4 o5' o6' hz hP hi HI HBD
    go_enter Tryz.func17, Tryz.ntmps17
    go_wp2_with fail
    refine cC.out.use ?_
    intro w2 b2
    have hB2 := HB1.out.trans (b2.mono (by simp))
    have q2 := HQ0.out.below b2
    have hlt : w.heap.size < w2.heap.size := q2.lt
    have I0 : RI w w2 (w2.alloc (.cells #[.pointer none, .slice none 0 0] 90)) #[.int .i64 (e : Int), .int .i64 (off : Int), .int .i64 (n : Int), .int .i64 (gen : Int), .slice fa found.length fc, .slice pa parts.length pc] [] :=
      ⟨q2.alloc _, Bld.fresh 90 w2.heap.size w2 (Nat.le_refl _), below_all (Below.refl _ _), below_all hB2⟩
    have HI0 := Lib.hid I0
    obtain ⟨kk, a0, a1, a2, a3, a4, a5⟩ := arr6_cells q2
    obtain ⟨ns, hns⟩ : ∃ ns : List Nat, ns = [e, off, n, gen, found.length] := ⟨_, rfl⟩
    have hnl : ns.length = 5 := by rw [hns]; rfl
    have HNB : Hid (∀ x ∈ ns, x ≤ 1099511627776) := Lib.hid (by subst hns; intro x hx; simp at hx; omega)
    have hsl : (#[.int .i64 (e : Int), .int .i64 (off : Int), .int .i64 (n : Int), .int .i64 (gen : Int), .int .i64 (found.length : Int)] : Array Value) = (ns.map fun x : Nat => Value.int .i64 (x : Int)).toArray := by subst hns; rfl
    have S0 : Blk ((w2.alloc (.cells #[.pointer none, .slice none 0 0] 90)).alloc (.cells #[.int .i64 (e : Int), .int .i64 (off : Int), .int .i64 (n : Int), .int .i64 (gen : Int), .int .i64 (found.length : Int)] 3)) (w2.heap.size + 1) (ns.map fun x : Nat => Value.int .i64 (x : Int)).toArray 3 := by
      have h := Blk.new (w2.alloc (.cells #[.pointer none, .slice none 0 0] 90)) #[.int .i64 (e : Int), .int .i64 (off : Int), .int .i64 (n : Int), .int .i64 (gen : Int), .int .i64 (found.length : Int)] 3
      rw [World.size_alloc] at h
      exact Eq.mp (congrArg (fun a => Blk _ _ a 3) hsl) h
    have HS0 := Lib.hid S0
    have HNS := Lib.hid hns
    have HT5 : Hid (repText ⟨e, off, n, gen, found, parts⟩ = (ns.flatMap vput ++ found.flatMap fndText) ++ vput parts.length ++ parts.flatMap prtText) := Lib.hid (by rw [hns]; unfold repText; simp [List.append_assoc])
    clear I0 q2 b2 hB2 S0 hsl hns hTX
    obtain ⟨L, hL⟩ : ∃ L, repText ⟨e, off, n, gen, found, parts⟩ = L := ⟨_, rfl⟩
    rw [hL] at hR HT5 hne
    clear hL
    go_wp2_with fail
    go_loopw [7, 35] (fun (v7 v35 : Value) (W : World) => ∃ (j : Nat) (T : List UInt8), v35 = .int .i64 (j : Int) ∧ j ≤ 5 ∧ Hid (T = (ns.take j).flatMap vput) ∧ RI w w2 W #[.int .i64 (e : Int), .int .i64 (off : Int), .int .i64 (n : Int), .int .i64 (gen : Int), .slice fa found.length fc, .slice pa parts.length pc] T ∧ Blk W (w2.heap.size + 1) (ns.map fun x : Nat => Value.int .i64 (x : Int)).toArray 3) (fun (v7 v35 : Value) (W : World) => (5 - intOf v35).toNat)
    case atStart => exact ⟨0, [], rfl, by omega, Lib.hid (by simp), HI0.out.alloc _, HS0.out⟩
    case round =>
      clear HI0 HS0
      obtain ⟨j, T, rfl, hj, hT, hI, hS⟩ := hrel
      by_cases hj5 : j < 5
      · have hjl : j < ns.length := by omega
        have hc := hS.cell j
        have hm := HNB.out ns[j] (List.getElem_mem hjl)
        have hsn := Lib.hid (flatMap_snoc ns j hjl vput)
        have hle := flatMap_le vput 10 (ns.take j) (fun x _ => vput_le x)
        rw [← hT.out] at hle
        have htl : (ns.take j).length ≤ 5 := by rw [List.length_take]; omega
        simp only [List.getElem?_toArray, List.getElem?_map, List.getElem?_eq_getElem hjl, Option.map_some] at hc
        generalize ns[j] = m at *
        have i1 : (0 : Int) ≤ (j : Int) := by omega
        have i2 : (j : Int) < 5 := by omega
        have hbs := hI.bel.size
        have hIl := hI.bl.lt
        have hsl := hS.lt
        have c1 := Lib.hid (w_number_k w2.heap.size w2.heap.size wr.heap.size 0 T (wr.alloc (.cells #[.int .i64 (m : Int)] 3)) m (hI.alloc _).bl (by rw [World.size_alloc]; omega) ((Blk.new wr _ _).cell 0) (by omega) (by omega))
        have HI1 := Lib.hid (hI.alloc (.cells #[.int .i64 (m : Int)] 3))
        have HS1 := Lib.hid (hS.alloc (.cells #[.int .i64 (m : Int)] 3))
        clear hI hS hle htl
        go_wp2_with fail
        refine c1.out.use ?_
        intro w3 l3 b3 k3
        have HI3 := Lib.hid (HI1.out.wr hlt l3 b3)
        have HS3 := Lib.hid (HS1.out.kept k3 (by omega) (by decide))
        clear l3 b3 k3
        go_wp2_with fail
        go_roundw
        case rel => exact ⟨j + 1, T ++ vput m, by go_num, by omega, Lib.hid (by rw [hsn.out, hT.out]), HI3.out, HS3.out⟩
        case measure => simp [intOf]; omega
      · have hj5' : j = 5 := by omega
        have hT5 : Hid (T = ns.flatMap vput) := Lib.hid (by have h := hT.out; rwa [List.take_of_length_le (by omega)] at h)
        have hle := flatMap_le vput 10 ns (fun x _ => vput_le x)
        rw [← hT5.out, hnl] at hle
        have e5 : (j : Int) = 5 := by omega
        rw [e5]
        clear e5 hj5' hj hj5
        have HI := Lib.hid hI
        obtain ⟨kk1, d0, d1, d2, d3, d4, d5⟩ := arr6_cells hI.bx
        clear hI hS hT a0 a1 a2 a3 a4 a5 kk
        obtain ⟨wa, rfl⟩ : ∃ wa, wa = wr := ⟨_, rfl⟩
        go_wp2_with fail
        go_loopw [9, 10, 11, 45] (fun (v9 v10 v11 v45 : Value) (W : World) => ∃ (k : Nat) (U : List UInt8), v45 = .int .i64 (k : Int) ∧ k ≤ found.length ∧ Hid (U = T ++ (found.take k).flatMap fndText) ∧ RI w w2 W #[.int .i64 (e : Int), .int .i64 (off : Int), .int .i64 (n : Int), .int .i64 (gen : Int), .slice fa found.length fc, .slice pa parts.length pc] U) (fun (v9 v10 v11 v45 : Value) (W : World) => (found.length - intOf v45).toNat)
        case atStart => exact ⟨0, T, rfl, by omega, Lib.hid (by simp), HI.out⟩
        case round =>
          clear HI kk1 d0 d1 d2 d3 d4 d5
          obtain ⟨k, U, rfl, hk, hU, hI⟩ := hrel
          by_cases hkl : k < found.length
          · have hfin := HIN.out.found.below (W := wr) hI.b0
            obtain ⟨b, o, hae, hbl, hc⟩ : ∃ b o, fa = some ⟨b, o, none⟩ ∧ b < wr.heap.size ∧ FndAt wr b (o + k * 5) found[k] := by
              rcases hfin with ⟨h0, _⟩ | ⟨b, o, cap, he, _, _, hl, hc⟩
              · subst h0; simp at hkl
              · simp only [Value.slice.injEq] at he
                exact ⟨b, o, he.1, hl, hc k hkl⟩
            clear hfin
            have hsn := Lib.hid (flatMap_snoc found k hkl fndText)
            obtain ⟨ho1, ho2⟩ := O5.out found[k] (List.getElem_mem hkl)
            have hle := flatMap_le fndText 2100 (found.take k) (fun x hx => fndText_le (O5.out x (List.mem_of_mem_take hx)).2)
            have htl : (found.take k).length ≤ 64 := by rw [List.length_take]; omega
            have hUl : U.length ≤ 200000 := by rw [hU.out, List.length_append]; omega
            have hfe := Lib.hid (show fndText found[k] = vput found[k].off.toNat ++ found[k].r.text from rfl)
            have hrt := rec_ok_text ho2
            have hrp : rput found[k].r.hk found[k].r.key found[k].r.tb found[k].r.val = (found[k].r.text, 0) := by unfold rput; rw [if_pos (show rcheck _ _ _ _ = 0 from ho2)]; rfl
            have hrb := HRB.out found[k] (List.getElem_mem hkl)
            have cP := Lib.hid (fun w => put3_any found[k].r.hk found[k].r.tb found[k].r.key found[k].r.val w hrb.1 hrb.2)
            rw [hrp] at cP
            generalize found[k] = f at *
            clear hle htl hrp hrb ho2
            obtain ⟨fo, fr⟩ := f
            obtain ⟨M, hM⟩ : ∃ M, fr.text = M := ⟨_, rfl⟩
            dsimp only at ho1 hrt hfe cP
            rw [hM] at hfe hrt cP
            clear hM
            obtain ⟨fk, fkey, ft, fval⟩ := fr
            obtain ⟨m, rfl, hm⟩ := numB_ex ho1
            obtain ⟨c0, c1, c2, c3, c4⟩ := hc
            dsimp only at c0 c1 c2 c3 c4 cP
            subst hae
            have i1 : (0 : Int) ≤ (k : Int) := by omega
            have i2 : (k : Int) < (found.length : Int) := by omega
            have hbs := hI.bel.size
            have hIl := hI.bl.lt
            have hvm := vput_le m
            have cc1 := Lib.hid (w_number_k w2.heap.size w2.heap.size wr.heap.size 0 U (wr.alloc (.cells #[.int .i64 (m : Int), .bool fk, .string (S fkey), .bool ft, .string (S fval)] 95)) m (hI.alloc _).bl (by rw [World.size_alloc]; omega) ((Blk.new wr _ _).cell 0) (by omega) (by omega))
            have HI1 := Lib.hid (hI.alloc (.cells #[.int .i64 (m : Int), .bool fk, .string (S fkey), .bool ft, .string (S fval)] 95))
            have HX1 := Lib.hid (Blk.new wr #[.int .i64 (m : Int), .bool fk, .string (S fkey), .bool ft, .string (S fval)] 95)
            have cW := Lib.hid (fun w1 l R (h : Bld 90 w2.heap.size w2.heap.size l w1) (h2 : w2.heap.size ≤ w1.heap.size) (h3 : l.length ≤ 300000) k => bwrite (R := R) 90 (by decide) lies4 M h (by omega) h2 k)
            clear hI ho1
            go_wp2_with fail
            refine cc1.out.use ?_
            intro w3 l3 b3 k3
            have hx3 := HX1.out.kept k3 (by omega) (by decide)
            obtain ⟨ky, y0, y1, y2, y3, y4⟩ := arr5_cells hx3
            have HI3 := Lib.hid (HI1.out.wr hlt l3 b3)
            clear l3 b3 k3 hx3 c0 c1 c2 c3 c4
            go_wp2_with fail
            refine (cP.out _).use ?_
            intro w4 b4
            have HI4 := Lib.hid (HI3.out.bel' b4)
            have hI4l := HI4.out.bl.lt
            clear b4
            go_wp2_with fail
            refine cW.out _ _ _ HI4.out.bl HI4.out.bel.size (by rw [List.length_append]; omega) ?_
            intro w5 l5 b5 k5
            have HI5 := Lib.hid (HI4.out.wr hlt l5 b5)
            clear l5 b5 k5
            go_wp2_with fail
            go_roundw
            case rel => exact ⟨k + 1, _, by go_num, by omega, Lib.hid (by rw [hsn.out, hU.out, hfe.out]; simp [List.append_assoc]), HI5.out⟩
            case measure => simp [intOf]; omega
          · have hke : k = found.length := by omega
            have hUf : Hid (U = ns.flatMap vput ++ found.flatMap fndText) := Lib.hid (by have h := hU.out; rw [List.take_of_length_le (by omega), hT5.out] at h; exact h)
            have hfl := flatMap_le fndText 2100 found (fun x hx => fndText_le (O5.out x hx).2)
            have hnl2 := flatMap_le vput 10 ns (fun x _ => vput_le x)
            have hUl : U.length ≤ 200000 := by rw [hUf.out, List.length_append]; omega
            subst hke
            obtain ⟨kk1, d0, d1, d2, d3, d4, d5⟩ := arr6_cells hI.bx
            have hbs := hI.bel.size
            have hIl := hI.bl.lt
            have hvp := vput_le parts.length
            have cc1 := Lib.hid (w_number_k w2.heap.size w2.heap.size wr.heap.size 0 U (wr.alloc (.cells #[.int .i64 (parts.length : Int)] 3)) parts.length (hI.alloc _).bl (by rw [World.size_alloc]; omega) ((Blk.new wr _ _).cell 0) (by omega) (by omega))
            have HI1 := Lib.hid (hI.alloc (.cells #[.int .i64 (parts.length : Int)] 3))
            clear hI hU hT5 hfl hnl2
            go_wp2_with fail
            refine cc1.out.use ?_
            intro w3 l3 b3 k3
            have HI3 := Lib.hid (HI1.out.wr hlt l3 b3)
            obtain ⟨kk3, g0, g1, g2, g3, g4, g5⟩ := arr6_cells HI3.out.bx
            clear l3 b3 k3 d0 d1 d2 d3 d4 d5 kk1
            obtain ⟨V, hV⟩ : ∃ V, U ++ vput parts.length = V := ⟨_, rfl⟩
            have hVl : V.length ≤ 210000 := by rw [← hV, List.length_append]; omega
            have HV := Lib.hid hV
            rw [hV] at HI3
            clear hV
            go_wp2_with fail
            go_loopw [14, 72] (fun (v14 v72 : Value) (W : World) => ∃ (k : Nat) (X : List UInt8), v72 = .int .i64 (k : Int) ∧ k ≤ parts.length ∧ Hid (X = V ++ (parts.take k).flatMap prtText) ∧ RI w w2 W #[.int .i64 (e : Int), .int .i64 (off : Int), .int .i64 (n : Int), .int .i64 (gen : Int), .slice fa found.length fc, .slice pa parts.length pc] X) (fun (v14 v72 : Value) (W : World) => (parts.length - intOf v72).toNat)
            case atStart => exact ⟨0, V, rfl, by omega, Lib.hid (by simp), HI3.out⟩
            case round =>
              clear HI3 HI1 g0 g1 g2 g3 g4 g5 kk3
              obtain ⟨k, X, rfl, hk, hX, hI⟩ := hrel
              by_cases hkl : k < parts.length
              · have hfin := HIN.out.parts.below (W := wr) hI.b0
                obtain ⟨b, o, hae, hbl, hc⟩ : ∃ b o, pa = some ⟨b, o, none⟩ ∧ b < wr.heap.size ∧ PartAt wr b (o + k * 2) parts[k] := by
                  rcases hfin with ⟨h0, _⟩ | ⟨b, o, cap, he, _, hl, hc⟩
                  · subst h0; simp at hkl
                  · simp only [Value.slice.injEq] at he
                    exact ⟨b, o, he.1, hl, hc k hkl⟩
                clear hfin
                have hsn := Lib.hid (flatMap_snoc parts k hkl prtText)
                obtain ⟨ho1, ho2⟩ := O6.out parts[k] (List.getElem_mem hkl)
                have hle := flatMap_le prtText 100 (parts.take k) (fun x hx => prtText_le (O6.out x (List.mem_of_mem_take hx)).2)
                have htl : (parts.take k).length ≤ 64 := by rw [List.length_take]; omega
                have hXl : X.length ≤ 300000 := by rw [hX.out, List.length_append]; omega
                have hfe := Lib.hid (show prtText parts[k] = vtxt parts[k].1 ++ vput parts[k].2.toNat from rfl)
                have hnm := isName_le ho2
                generalize parts[k] = f at *
                clear hle htl ho2
                obtain ⟨pt, pn⟩ := f
                dsimp only at ho1 hnm hfe
                obtain ⟨m, rfl, hm⟩ := numB_ex ho1
                obtain ⟨c0, c1⟩ := hc
                dsimp only at c0 c1
                subst hae
                have i1 : (0 : Int) ≤ (k : Int) := by omega
                have i2 : (k : Int) < (parts.length : Int) := by omega
                have hbs := hI.bel.size
                have hIl := hI.bl.lt
                have cc2 := Lib.hid (w_part_k w2.heap.size w2.heap.size wr.heap.size X (wr.alloc (.cells #[.string (S pt), .int .i64 (m : Int)] 23)) pt m (hI.alloc _).bl (by rw [World.size_alloc]; omega) (Blk.new wr _ _) (by omega) (by omega) (by omega) (by omega))
                have HI1 := Lib.hid (hI.alloc (.cells #[.string (S pt), .int .i64 (m : Int)] 23))
                clear hI ho1
                go_wp2_with fail
                refine cc2.out.use ?_
                intro w3 l3 b3 k3
                have HI3 := Lib.hid (HI1.out.wr hlt l3 b3)
                clear l3 b3 k3 c0 c1
                go_wp2_with fail
                go_roundw
                case rel => exact ⟨k + 1, _, by go_num, by omega, Lib.hid (by rw [hsn.out, hX.out, hfe.out]; simp [List.append_assoc]), HI3.out⟩
                case measure => simp [intOf]; omega
              · have hXf : Hid (X = L) := Lib.hid (by have h := hX.out; rw [List.take_of_length_le (by omega), ← HV.out, hUf.out] at h; rw [h, HT5.out])
                have hbl := hI.bl
                rw [hXf.out] at hbl
                have c3 := Lib.hid (string_k 90 w2.heap.size w2.heap.size L wr hbl hne.out)
                have hb0 := Lib.hid hI.b0
                clear hI hbl hX HV
                go_wp2_with fail
                refine c3.out.mono ?_
                rintro e w6 ⟨rfl, b6⟩
                have hB6 := Lib.hid (hb0.out.trans (b6.mono (by omega)))
                clear b6
                go_wp2_with fail
                exact finB hR hB6.out rfl
  · have hP : repPut r = ([], repCheck r) := by unfold repPut; rw [if_neg hz]
    rw [hP] at hR
    dsimp only at hR
    have t1 : (((repCheck r : Nat) : Int) = 0) = False := eq_false (by omega)
    generalize repCheck r = X at *
    obtain ⟨e, off, n, gen, found, parts⟩ := r
    obtain ⟨fa, fc, hfv⟩ := hi.found.form
    obtain ⟨pa, pc, hpv⟩ := hi.parts.form
    dsimp only [Rep.arr] at *
    subst hfv hpv
    clear hi hP HI HBD
    go_enter Tryz.func17, Tryz.ntmps17
    go_wp2_with fail
    refine cC.out.use ?_
    intro w2 b2
    have hB2 := Lib.hid (HB1.out.trans (b2.mono (by simp)))
    clear b2
    go_wp2_with fail
    exact finB hR hB2.out rfl
end Go.Proofs.YthiliodmbipikaaGreat
